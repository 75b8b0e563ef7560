/- A part of the proof of the laws of rationals: Digit, ShortDiv, Shift, Len, Sm, RatPure. -/
import Derived.Test.YtijmjkkjopplbaaPaa
import Derived.Test.YtijmjkkjopplbaaPac
import Derived.Test.YtijmjkkjopplbaaPab
namespace Go.Proofs.Ytijmjkkjopplbaa
open Go.RowKit

theorem Own.kept {w w' : World} {g h : Nat} {xs : List Int} (ho : Own w h xs) (hg : w.grownBy w' (some g)) (hne : h ≠ g) : Own w' h xs := by
  have hl := ho.lt
  unfold Own at ho ⊢
  rw [hg.block h hl (by simpa using hne)]; exact ho
theorem Own.far {w : World} {g h : Nat} {xs : List Int} (ho : Own w h xs) (hne : h ≠ g) (j : Nat) (y : Value) : Own (w.setCell ⟨g, j, none⟩ y) h xs := by
  unfold Own at ho ⊢
  rw [Below.heap_setCell _ _ _ _ hne]; exact ho
theorem grown_set {w w' : World} {g : Nat} (h : w.grownBy w' (some g)) (j : Nat) (y : Value) : w.grownBy (w'.setCell ⟨g, j, none⟩ y) (some g) :=
  ⟨h.os, h.tape, h.output, by rw [World.size_setCell]; exact h.size, fun i hi hr => by
    rw [Below.heap_setCell _ _ _ _ (by simpa using hr)]; exact h.block i hi hr⟩
theorem grown_drewN {w w' : World} {g : Option Nat} (h : w.grownBy w' g) (n : Nat) : w.grownBy (w'.drewN n) g := ⟨h.os, h.tape, h.output, h.size, h.block⟩
theorem grown_refl (w : World) (g : Option Nat) : w.grownBy w g := ⟨rfl, rfl, rfl, Nat.le_refl _, fun _ _ _ => rfl⟩

set_option maxRecDepth 100000 in
set_option maxHeartbeats 2000000 in
theorem digit_any (w : World) (g h off m c d : Nat) (os vs : List Int) (hown : Own w g os) (hownv : Own w h vs) (hgh : h ≠ g) (hoff : off + (m + 3) ≤ os.length) (hvl : m + 2 ≤ vs.length) (hlo : os.length ≤ 1099511627776)
    (hlb : Lb os) (hlv : Lb vs) (htop : 2147483648 ≤ lm vs (m + 1)) (hlt : nv (win os off (m + 3)) < nv (vs.take (m + 2)) * 4294967296) :
    Calls Try.prog 105 #[.slice (some ⟨g, off, none⟩) (m + 3) c, .slice (some ⟨h, 0, none⟩) (m + 2) d] w fun e w' =>
      ∃ os', e = .returned (.int .u32 (nv (win os off (m + 3)) / nv (vs.take (m + 2)))) ∧ Own w' g os' ∧ os'.length = os.length ∧ Lb os' ∧ (∀ j, j < off ∨ off + (m + 3) ≤ j → lm os' j = lm os j) ∧
        nv (win os' off (m + 3)) = nv (win os off (m + 3)) % nv (vs.take (m + 2)) ∧ w.grownBy w' (some g) := by
  have HO := hid hown
  have HV := hid hownv
  have HLB := hid hlb
  have HLV := hid hlv
  have HLT := hid hlt
  have u2 := hown.cell (j := off + (m + 2)) (by omega)
  have u1 := hown.cell (j := off + (m + 1)) (by omega)
  have u0 := hown.cell (j := off + m) (by omega)
  have v1 := hownv.cell (j := m + 1) (by omega)
  have v0 := hownv.cell (j := m) (by omega)
  have b2 := hlb.lm (off + (m + 2))
  have b1 := hlb.lm (off + (m + 1))
  have b0 := hlb.lm (off + m)
  have a1 := hlv.lm (m + 1)
  have a0 := hlv.lm m
  clear hown hownv hlb hlv hlt
  obtain ⟨U2, e2⟩ : ∃ x, x = lm os (off + (m + 2)) := ⟨_, rfl⟩
  obtain ⟨U1, e1⟩ : ∃ x, x = lm os (off + (m + 1)) := ⟨_, rfl⟩
  obtain ⟨U0, e0⟩ : ∃ x, x = lm os (off + m) := ⟨_, rfl⟩
  obtain ⟨V1, f1⟩ : ∃ x, x = lm vs (m + 1) := ⟨_, rfl⟩
  obtain ⟨V0, f0⟩ : ∃ x, x = lm vs m := ⟨_, rfl⟩
  rw [← e2] at u2 b2
  rw [← e1] at u1 b1
  rw [← e0] at u0 b0
  rw [← f1] at v1 a1 htop
  rw [← f0] at v0 a0
  have E2 := hid e2
  have E1 := hid e1
  have E0 := hid e0
  have F1 := hid f1
  have F0 := hid f0
  clear e2 e1 e0 f1 f0
  obtain ⟨top, ht⟩ : ∃ t, t = U1 + U2 * 4294967296 := ⟨_, rfl⟩
  have hor : bits .or .u64 (U2 * 4294967296) U1 = top := by rw [u64_or32' b1.1 b1.2 b2.1 b2.2, ht]
  have t0 : 0 ≤ top := by omega
  have t1 : top < 18446744073709551616 := by omega
  have HT := hid ht
  clear ht
  obtain ⟨q0, hq0⟩ : ∃ q, q = min (top / V1) 4294967295 := ⟨_, rfl⟩
  have hmin : ∀ (w : World) (ts : Array TypeId) (t : TypeId), (Builtin.min_ ts t #[.int .u64 (top / V1), .int .u64 4294967295]).run Try.prog w = .ok (.int .u64 q0) w := fun w ts t => by
    rw [hq0]
    simp only [Builtin.min_, Builtin.min2, List.foldlM_cons, List.foldlM_nil]
    simp
    split <;> omega
  have hdv0 := Int.ediv_nonneg t0 (show 0 ≤ V1 by omega)
  have hdv1 := Int.ediv_mul_le top (show V1 ≠ 0 by omega)
  have q00 : 0 ≤ q0 := by omega
  have q01 : q0 ≤ 4294967295 := by omega
  have hp0 : 0 ≤ q0 * V1 := Int.mul_nonneg q00 a1.1
  have hp1 : q0 * V1 ≤ top := by
    have := Int.mul_le_mul_of_nonneg_right (show q0 ≤ top / V1 by omega) a1.1
    omega
  obtain ⟨vl, ul, hV, hvl0, hvl1, hU, hul0, hul1⟩ := knuth_parts HLB.out HLV.out hoff hvl
  rw [← F1.out, ← F0.out] at hV
  rw [← E2.out, ← E1.out, ← E0.out, ← HT.out] at hU
  obtain ⟨hVp, hQ, hrest⟩ := knuth_start (bp_pos m) hV hU ⟨hvl0, hvl1⟩ ⟨hul0, hul1⟩ rfl rfl HT.out ⟨htop, a1.2⟩ a0 b0 b1 b2.1 HLT.out hq0
  obtain ⟨U, hUe⟩ : ∃ U, U = nv (win os off (m + 3)) := ⟨_, rfl⟩
  obtain ⟨V, hVe⟩ : ∃ V, V = nv (vs.take (m + 2)) := ⟨_, rfl⟩
  rw [← hVe] at hV hVp hQ HLT
  rw [← hUe] at hU hQ HLT
  rw [← hVe, ← hUe]
  have HUe := hid hUe
  have HVe := hid hVe
  have HV2 := hid hV
  have HU2 := hid hU
  have HQ := hid hQ
  have HR := hid hrest
  have HL := hid (And.intro (And.intro hvl0 hvl1) (And.intro hul0 hul1))
  clear hUe hVe hV hU hQ hrest hvl0 hvl1 hul0 hul1 hq0 hdv1
  go_enter Try.func105, Try.ntmps105
  go_wp2
  go_quiet (fail)
  go_upto_block 0 with (fail)
  clear hmin
  go_cut [7] from 49 to 80 (fun v7 wx => ∃ q : Int, v7 = .int .u64 q ∧ 0 ≤ q ∧ q ≤ 4294967295 ∧ Hid (U / V ≤ q ∧ (q - 1) * V ≤ U) ∧ Dr w wx)
  case first =>
    go_wp2
    go_loopw [7, 8] (fun v r wx => ∃ q rest : Int, v = .int .u64 q ∧ r = .int .u64 rest ∧ 0 ≤ q ∧ q ≤ 4294967295 ∧ 0 ≤ rest ∧ rest < 8589934592 ∧ Hid (rest = top - q * V1) ∧ Hid (U / V ≤ q) ∧ Dr w wx) (fun v _ _ => (intOf v).toNat)
    case atStart => exact ⟨q0, top - q0 * V1, rfl, rfl, q00, q01, by omega, HR.out, hid rfl, HQ, ⟨_, rfl⟩⟩
    case round =>
      obtain ⟨q, rest, rfl, rfl, hq0, hq1, hr0, hr1, hr, hQ, ⟨nn, rfl⟩⟩ := hrel
      by_cases hg : rest < 4294967296
      · have m0 : 0 ≤ q * V0 := Int.mul_nonneg hq0 a0.1
        have m1 : q * V0 ≤ 4294967295 * 4294967295 := Int.mul_le_mul hq1 (by omega) a0.1 (by decide)
        obtain ⟨s3, hs3⟩ : ∃ s, s = U0 + rest * 4294967296 := ⟨_, rfl⟩
        have hor2 : bits .or .u64 (rest * 4294967296) U0 = s3 := by rw [u64_or32' b0.1 b0.2 hr0 hg, hs3]
        have e1 : IntKind.u64.wrap (q * V0) = q * V0 := u64_in m0 (by omega)
        have e2 : IntKind.u64.wrap (rest * 4294967296) = rest * 4294967296 := u64_in (by omega) (by omega)
        have HS := hid hs3
        clear hs3
        by_cases ht : s3 < q * V0
        · have hq2 : 1 ≤ q := by
            rcases (show q = 0 ∨ 1 ≤ q by omega) with h | h
            · subst h; have := HS.out; omega
            · exact h
          have e3 : IntKind.u64.wrap (q - 1) = q - 1 := u64_in (by omega) (by omega)
          go_wp2
          go_quiet (fail)
          go_wp2
          go_roundw
          case measure => simp only [intOf]; omega
          case rel =>
            refine ⟨q - 1, rest + V1, rfl, rfl, by omega, by omega, by omega, by omega, hid ?_, hid ?_, ⟨_, rfl⟩⟩
            · rw [hr.out, Int.sub_mul]; omega
            · exact knuth_down (bp_pos m) HV2.out HU2.out HL.out.1.1 HL.out.2.2 hVp hQ.out hq0 rfl rfl hr.out (by rw [Int.add_comm, ← HS.out]; exact ht)
        · have htd : decide (s3 < q * V0) = false := by simpa using ht
          have hx := hid (knuth_left hq0 (by omega) a0.1 a0.2 b0.1 rfl rfl hr.out (.inr (by rw [Int.add_comm, ← HS.out]; omega)))
          go_wp2
          go_quiet (fail)
          go_wp2
          go_meet
          case rel => exact ⟨q, rfl, hq0, hq1, hid ⟨hQ.out, knuth_over (bp_pos m) HV2.out HU2.out HL.out.1.2 HL.out.2.1 hVp hq0 hq1 htop a0.1 rfl hx.out⟩, by repeat (first | exact Dr.refl _ | apply Dr.step)⟩
      · have hgd : decide (rest < 4294967296) = false := by simpa using hg
        have hx := hid (knuth_left hq0 (by omega) a0.1 a0.2 b0.1 rfl rfl hr.out (.inl (by omega)))
        go_wp2
        go_quiet (fail)
        go_wp2
        go_meet
        case rel => exact ⟨q, rfl, hq0, hq1, hid ⟨hQ.out, knuth_over (bp_pos m) HV2.out HU2.out HL.out.1.2 HL.out.2.1 hVp hq0 hq1 htop a0.1 rfl hx.out⟩, by repeat (first | exact Dr.refl _ | apply Dr.step)⟩
  case rest =>
    obtain ⟨q, rfl, hq0, hq1, hQ, ⟨nn, rfl⟩⟩ := hcut
    clear hor hp0 hp1 hdv0 u2 u1 u0 v1 v0 t0 t1
    go_wp2
    go_loopw [9, 10, 82] (fun vb vc vk wr => ∃ (bo cy : Int) (k : Nat) (rs : List Int), vb = .int .u64 bo ∧ vc = .int .u64 cy ∧ vk = .int .i64 k ∧ 0 ≤ bo ∧ bo ≤ 1 ∧ 0 ≤ cy ∧ cy < 4294967296 ∧ k ≤ m + 2 ∧ Hid (rs.length = os.length) ∧ Hid (Own wr g rs) ∧ Hid (Lb rs) ∧
        Hid (∀ j, j < off ∨ off + k ≤ j → lm rs j = lm os j) ∧ Hid (nv (win rs off k) = nv (win os off k) - q * nv (vs.take k) + bp k * (cy + bo)) ∧ Hid (w.grownBy wr (some g))) (fun _ _ vk _ => m + 2 - (intOf vk).toNat)
    case atStart => exact ⟨0, 0, 0, os, rfl, rfl, rfl, by omega, by omega, by omega, by omega, by omega, hid rfl, HO, HLB, hid (fun _ _ => rfl), hid (by rw [nv_win_zero]; simp [nv_nil]), hid (grown_drewN (grown_refl w _) _)⟩
    case round =>
      obtain ⟨bo, cy, k, rs, rfl, rfl, rfl, hb0, hb1, hc0, hc1, hk, hlen, hown, hlr, hsame, hval, hgr⟩ := hrel
      by_cases hkt : k < m + 2
      · have hcell := hown.out.cell (j := off + k) (by have := hlen.out; omega)
        have hfree := hown.out.free (off + k)
        have hvc := (HV.out.kept hgr.out hgh).cell (j := k) (by omega)
        have hx := hlr.out.lm (off + k)
        have hy := HLV.out.lm k
        obtain ⟨m0, m1⟩ := mul_bounds (p := 4294967295) (q := 4294967295) hq0 hq1 hy.1 (show lm vs k ≤ 4294967295 by omega)
        obtain ⟨s, hs⟩ : ∃ s, cy + q * lm vs k = s := ⟨_, rfl⟩
        have s0 : 0 ≤ s := by omega
        have s1 : s < 18446744073709551616 := by omega
        have hsw : IntKind.u64.wrap (cy + q * lm vs k) = s := by rw [hs]; exact u64_in s0 s1
        have hand := u64_and_low s0 s1
        have l0 := Int.emod_nonneg s (show (4294967296 : Int) ≠ 0 by decide)
        have l1 := Int.emod_lt_of_pos s (show (0 : Int) < 4294967296 by decide)
        obtain ⟨l, hl⟩ : ∃ l, s % 4294967296 = l := ⟨_, rfl⟩
        rw [hl] at hand l0 l1
        obtain ⟨D, hD⟩ : ∃ D, IntKind.u64.wrap (IntKind.u64.wrap (lm rs (off + k) - l) - bo) = D := ⟨_, rfl⟩
        have hD2 := hD
        rw [wrap_u64, wrap_u64] at hD2
        obtain ⟨d1, d2, d3⟩ := minus_digit hx.1 hx.2 l0 l1 hb0 hb1 hD2.symm
        have D0 : 0 ≤ D := by omega
        have D1 : D < 18446744073709551616 := by omega
        have HS := hid hs
        have HLl := hid hl
        have HD1 := hid d1
        clear hs hl hD2 d1
        go_wp2
        go_roundw
        case measure => simp [intOf]; omega
        case rel =>
          have hl := hlen.out
          have h2 := Int.emod_nonneg D (show (4294967296 : Int) ≠ 0 by decide)
          have h3 := Int.emod_lt_of_pos D (show (0 : Int) < 4294967296 by decide)
          refine ⟨_, _, k + 1, rs.set (off + k) (D % 4294967296), rfl, rfl, by go_num, d2, d3, by omega, by omega, by omega, hid (by rw [List.length_set]; exact hl), hid (hown.out.set _ _), hid (hlr.out.set _ h2 h3),
            hid (fun j hj => by rw [lm_set_other _ (by omega)]; exact hsame.out j (by omega)), hid ?_, hid (grown_set hgr.out _ _)⟩
          have e := hval.out
          have ex := hsame.out (off + k) (.inr (Nat.le_refl _))
          rw [nv_win_set (by omega), nv_win_succ, nv_take_succ, bp_succ, ← ex]
          have := ksub_step e HS.out HLl.out HD1.out
          grind
      · obtain rfl : k = m + 2 := by omega
        have hX := hsame.out (off + (m + 2)) (.inr (Nat.le_refl _))
        rw [← E2.out] at hX
        have hcell := hown.out.cell (j := off + (m + 2)) (by have := hlen.out; omega)
        have hfree := hown.out.free (off + (m + 2))
        rw [hX] at hcell
        have hUU := nv_win_succ os off (m + 2)
        rw [← E2.out, ← HUe.out] at hUU
        have hvv := hval.out
        rw [← HVe.out] at hvv
        obtain ⟨w0, w1⟩ := nv_win_lt hlr.out off (m + 2)
        obtain ⟨e, he⟩ : ∃ e, e = U2 - cy - bo := ⟨_, rfl⟩
        have hUq : U - q * V = nv (win rs off (m + 2)) + bp (m + 2) * e := by rw [he]; grind
        obtain ⟨y0, y1⟩ := div_bounds (U := U) hVp
        obtain ⟨q1, q2⟩ := hQ.out
        have hQV : (U / V + 1) * V ≤ (q + 1) * V := Int.mul_le_mul_of_nonneg_right (by omega) (Int.le_of_lt hVp)
        have HX := hid hX
        clear hX hUU hvv hval
        by_cases hs : 0 ≤ e
        · have hpe : 0 ≤ bp (m + 2) * e := Int.mul_nonneg (Int.le_of_lt (bp_pos _)) hs
          obtain ⟨z0, z1⟩ := div_of_bounds (U := U) (V := V) (Q := q) (by omega) (by omega)
          have hD : IntKind.u64.wrap (IntKind.u64.wrap (U2 - cy) - bo) = e := by rw [wrap_u64, wrap_u64]; omega
          have hD3 : (e / 9223372036854775808 == 0) = true := by rw [beq_iff_eq]; omega
          have e1 : e < 4294967296 := by omega
          have HU := hid (And.intro hUq (And.intro z0 z1))
          have HE := hid he
          clear hUq z0 z1 he y0 y1 q1 q2 hQV hpe w0 w1
          go_wp2
          go_ret
          have hl := hlen.out
          obtain ⟨g1, g2, g3⟩ := HU.out
          refine ⟨rs.set (off + (m + 2)) e, by rw [g2]; rfl, hown.out.set _ _, by rw [List.length_set]; exact hl, hlr.out.set _ hs e1, fun j hj => ?_, ?_, grown_set hgr.out _ _⟩
          · rw [lm_set_other _ (by omega)]
            exact hsame.out j (by omega)
          · rw [nv_win_set (by omega), ← g1, g3]
        · have hn : e < 0 := by omega
          have hU0 : 0 ≤ U := by rw [HUe.out]; exact (nv_win_lt HLB.out off (m + 3)).1
          have hpe : bp (m + 2) * (e + 1) ≤ 0 := Int.mul_nonpos_of_nonneg_of_nonpos (Int.le_of_lt (bp_pos _)) (by omega)
          rw [Int.mul_add, Int.mul_one] at hpe
          rw [Int.sub_mul, Int.one_mul] at q2
          obtain ⟨z0, z1⟩ := div_of_bounds (U := U) (V := V) (Q := q - 1) (by rw [Int.sub_mul, Int.one_mul]; exact q2) (by rw [show q - 1 + 1 = q from by omega]; omega)
          rw [Int.sub_mul, Int.one_mul] at z1
          have hVlt := nv_lt (HLV.out.take (m + 2))
          rw [List.length_take, Nat.min_eq_left (by omega), ← HVe.out] at hVlt
          have hD : IntKind.u64.wrap (IntKind.u64.wrap (U2 - cy) - bo) = e + 18446744073709551616 := by rw [wrap_u64, wrap_u64]; omega
          have hD3 : ((e + 18446744073709551616) / 9223372036854775808 == 0) = false := by rw [beq_eq_false_iff_ne]; omega
          obtain ⟨T, hT⟩ : ∃ T, T = (e + 18446744073709551616) % 4294967296 := ⟨_, rfl⟩
          have hT2 : T = e + 4294967296 := by omega
          have T0 : 0 ≤ T := by omega
          have T1 : T < 4294967296 := by omega
          have hT3 : IntKind.u32.wrap (e + 18446744073709551616) = T := by rw [wrap_u32m, hT]
          have hT4 : (e + 18446744073709551616) % 4294967296 = T := hT.symm
          have hqq : 1 ≤ q := by
            rcases (show q = 0 ∨ 1 ≤ q by omega) with h | h
            · subst h; omega
            · exact h
          have hqw : IntKind.u64.wrap (q - 1) = q - 1 := u64_in (by omega) (by omega)
          have HU := hid (And.intro hUq (And.intro z0 z1))
          have HT2 := hid hT2
          have HB := hid (And.intro (And.intro q2 hpe) hVlt)
          have HE := hid he
          have HY := hid (And.intro y0 y1)
          clear hUq z0 z1 he y0 y1 q1 q2 hQV hpe hT hT2 hVlt
          obtain ⟨rs1, hrs1⟩ : ∃ rs1, rs1 = rs.set (off + (m + 2)) T := ⟨_, rfl⟩
          have hl1 := hid (show rs1.length = os.length by rw [hrs1, List.length_set]; exact hlen.out)
          have ho1 := hid (show Own (wr.setCell ⟨g, off + (m + 2), none⟩ (.int .u32 T)) g rs1 by rw [hrs1]; exact hown.out.set _ _)
          have hb1 := hid (show Lb rs1 by rw [hrs1]; exact hlr.out.set _ T0 T1)
          have hg1 := hid (show w.grownBy (wr.setCell ⟨g, off + (m + 2), none⟩ (.int .u32 T)) (some g) from grown_set hgr.out _ _)
          have hs1 := hid (show ∀ j, j < off ∨ off + (m + 3) ≤ j → lm rs1 j = lm os j from fun j hj => by rw [hrs1, lm_set_other _ (by omega)]; exact hsame.out j (by omega))
          have ht1 := hid (show lm rs1 (off + (m + 2)) = T by rw [hrs1]; exact lm_set_same _ (by have := hlen.out; omega))
          have hn1 := hid (show nv (win rs1 off (m + 2)) = nv (win rs off (m + 2)) by rw [hrs1, win_set_low])
          clear hrs1
          go_wp2
          go_loopw [10, 134] (fun vc vk wx => ∃ (cy : Int) (k : Nat) (ts : List Int), vc = .int .u64 cy ∧ vk = .int .i64 k ∧ 0 ≤ cy ∧ cy ≤ 1 ∧ k ≤ m + 2 ∧ Hid (ts.length = os.length) ∧ Hid (Own wx g ts) ∧ Hid (Lb ts) ∧
              Hid (∀ j, j < off ∨ off + k ≤ j → lm ts j = lm rs1 j) ∧ Hid (nv (win ts off k) + bp k * cy = nv (win rs1 off k) + nv (vs.take k)) ∧ Hid (w.grownBy wx (some g))) (fun _ vk _ => m + 2 - (intOf vk).toNat)
          case atStart => exact ⟨0, 0, rs1, rfl, rfl, by omega, by omega, by omega, hl1, ho1, hb1, hid (fun _ _ => rfl), hid (by rw [nv_win_zero]; simp [nv_nil]), hg1⟩
          case round =>
            clear hcell hfree hown hlr hgr hlen hsame ho1 hg1
            obtain ⟨cz, k, ts, rfl, rfl, hc0, hc1, hk, hlen, hown, hlr, hsame, hval, hgr⟩ := hrel
            by_cases hkt : k < m + 2
            · have hcell := hown.out.cell (j := off + k) (by have := hlen.out; omega)
              have hfree := hown.out.free (off + k)
              have hvc := (HV.out.kept hgr.out hgh).cell (j := k) (by omega)
              have hx := hlr.out.lm (off + k)
              have hy := HLV.out.lm k
              have hk1 : (k : Int) < (m : Int) + 3 := by omega
              have hk2 : (k : Int) < (m : Int) + 2 := by omega
              have hk0 : (0 : Int) ≤ k := by omega
              have e1 : IntKind.u64.wrap (lm ts (off + k) + lm vs k) = lm ts (off + k) + lm vs k := u64_in (by omega) (by omega)
              have e2 : IntKind.u64.wrap (cz + (lm ts (off + k) + lm vs k)) = cz + (lm ts (off + k) + lm vs k) := u64_in (by omega) (by omega)
              go_wp2
              go_quiet (fail)
              go_wp2
              go_roundw
              case measure => simp [intOf]; omega
              case rel =>
                have hl := hlen.out
                obtain ⟨s, hs⟩ : ∃ s, cz + (lm ts (off + k) + lm vs k) = s := ⟨_, rfl⟩
                rw [hs]
                have h2 := Int.emod_nonneg s (show (4294967296 : Int) ≠ 0 by decide)
                have h3 := Int.emod_lt_of_pos s (show (0 : Int) < 4294967296 by decide)
                refine ⟨_, k + 1, ts.set (off + k) (s % 4294967296), rfl, by go_num, by omega, by omega, by omega, hid (by rw [List.length_set]; exact hl), hid ((hown.out.drew _).set _ _), hid (hlr.out.set _ h2 h3),
                  hid (fun j hj => by rw [lm_set_other _ (by omega)]; exact hsame.out j (by omega)), hid ?_, hid (grown_set (grown_drewN hgr.out _) _ _)⟩
                have ex := hsame.out (off + k) (.inr (Nat.le_refl _))
                rw [nv_win_set (by omega), nv_win_succ, nv_take_succ, bp_succ, ← ex, plus_step hval.out hs]
                omega
            · obtain rfl : k = m + 2 := by omega
              have hX := hsame.out (off + (m + 2)) (.inr (Nat.le_refl _))
              rw [ht1.out] at hX
              have hcell := hown.out.cell (j := off + (m + 2)) (by have := hlen.out; omega)
              have hfree := hown.out.free (off + (m + 2))
              rw [hX] at hcell
              obtain ⟨p1, p2, p3⟩ := HU.out
              obtain ⟨⟨p4, p5⟩, p6⟩ := HB.out
              obtain ⟨w2, w3⟩ := nv_win_lt hlr.out off (m + 2)
              have hvv := hval.out
              rw [hn1.out, ← HVe.out] at hvv
              have hmul := Int.mul_add (bp (m + 2)) e cz
              have hbp := bp_pos (m + 2)
              have hec : e + cz = 0 := by
                rcases Int.lt_trichotomy (e + cz) 0 with h | h | h
                · have := Int.mul_le_mul_of_nonneg_left (show e + cz ≤ -1 by omega) (Int.le_of_lt hbp)
                  omega
                · exact h
                · have := Int.mul_le_mul_of_nonneg_left (show 1 ≤ e + cz by omega) (Int.le_of_lt hbp)
                  omega
              have hfin := hid (show nv (win ts off (m + 2)) = U % V by rw [hec, Int.mul_zero] at hmul; omega)
              have hquo := hid p2
              have hsum : IntKind.u32.wrap (T + cz) = 0 := by rw [wrap_u32m, HT2.out]; omega
              clear hX hvv p1 p2 p3 p4 p5 p6 w2 w3 hmul hbp
              have HEC := hid hec
              clear hec
              go_wp2
              go_ret
              have hl := hlen.out
              refine ⟨ts.set (off + (m + 2)) 0, by rw [hquo.out]; rfl, hown.out.set _ _, by rw [List.length_set]; exact hl, hlr.out.set _ (by decide) (by decide), fun j hj => ?_, ?_, grown_set hgr.out _ _⟩
              · rw [lm_set_other _ (by omega), hsame.out j (by omega)]
                exact hs1.out j (by omega)
              · rw [nv_win_set (by omega), hfin.out]; omega
end Go.Proofs.Ytijmjkkjopplbaa

namespace Go.Proofs.Ytijmjkkjopplbaa
open Go.RowKit
set_option linter.unusedVariables false
set_option maxRecDepth 100000

/-- The call hands back the quotient's limbs and the remainder. -/
def RetQR (w : World) (a b : Int) (e : Ending) : Prop := ∃ v qs, e = .returned (.tuple #[v, .int .u32 (a % b)]) ∧ SlV w v qs ∧ Lb qs ∧ Cn qs ∧ nv qs = a / b
def RetQT (w : World) (a b : Int) (e : Ending) : Prop := ∃ v qs, e = .returned (.tuple #[v, .int .u32 (a % b)]) ∧ SlV w v qs ∧ Lb qs ∧ Cn qs ∧ nv qs = a / b ∧ Tg w v
theorem shortDivide_tg (w : World) (v : Value) (xs : List Int) (b : Int) (hx : SlV w v xs) (bx : Lb xs) (hb : 0 < b ∧ b < 4294967296) :
    Calls Try.prog 101 #[v, .int .u32 b] w fun e w' => RetQT w' (nv xs) b e ∧ Below w.heap.size w w' := by
  obtain ⟨A, cap, rfl, hcl, hx⟩ := hx
  have lx := hx.len
  have HX := hid hx
  have HBX := hid bx
  clear hx bx
  obtain ⟨hb0, hb1⟩ := hb
  have hmk := make_u32 xs.length (by omega)
  go_enter Try.func101, Try.ntmps101
  go_wp2
  clear hmk
  go_loopw [7, 8] (fun v i wr => ∃ (r : Int) (k : Nat) (os : List Int), v = .int .u64 r ∧ i = .int .i64 ((k : Int) - 1) ∧ 0 ≤ r ∧ r < b ∧ k ≤ xs.length ∧ Hid (os.length = xs.length) ∧ Hid (Own wr w.heap.size os) ∧ Hid (Lb os) ∧
      Hid (nv (xs.drop k) = nv (os.drop k) * b + r) ∧ Below w.heap.size w wr) (fun _ i _ => (intOf i + 1).toNat)
  case atStart => exact ⟨0, xs.length, List.replicate xs.length 0, rfl, rfl, by omega, by omega, by omega, hid (by simp), hid (Own.made w xs.length), hid (Lb.replicate _), hid (by simp [nv_nil]), (Below.refl _ _).alloc (Nat.le_refl _) _⟩
  case round =>
    obtain ⟨r, k, os, rfl, rfl, hr0, hr1, hk, hlen, hown, hlb, hval, hbel⟩ := hrel
    cases k with
    | succ t =>
      have et : ((t + 1 : Nat) : Int) - 1 = (t : Int) := by omega
      rw [et]
      clear et
      have hcell := hown.out.cell (j := t) (by have := hlen.out; omega)
      have hfree := hown.out.free t
      have hbx := HBX.out.lm t
      obtain ⟨ab, ao, rfl, hcc⟩ := HX.out.at (by omega)
      have c1 := cell_below hbel (hcc t (by omega))
      clear hcc
      obtain ⟨s, hs⟩ : ∃ s, lm xs t + r * 4294967296 = s := ⟨_, rfl⟩
      have hor : bits .or .u64 (r * 4294967296) (lm xs t) = s := by rw [u64_or32' hbx.1 hbx.2 hr0 (by omega), hs]
      have hs0 : 0 ≤ s := by omega
      have hs1 : s < 18446744073709551616 := by omega
      obtain ⟨hq0, hq1⟩ := sdiv_digit hb0 hr0 hr1 hbx hs
      have hm0 := Int.emod_nonneg s (show b ≠ 0 by omega)
      have hm1 := Int.emod_lt_of_pos s hb0
      have HS := hid hs
      clear hs
      go_wp2
      go_roundw
      case measure => simp [intOf]
      case rel =>
        have hl := hlen.out
        refine ⟨_, t, os.set t (s / b), rfl, rfl, hm0, hm1, by omega, hid (by rw [List.length_set]; exact hl), hid (hown.out.set _ _), hid (hlb.out.set _ hq0 hq1), hid ?_, hbel.setCell (Nat.le_refl _) _⟩
        rw [nv_drop_set (by omega), nv_drop_succ (by omega), sdiv_step hval.out HS.out]
    | zero =>
      have HL := hid hlen.out
      go_wp2_with (go_at_call 102; (with_reducible refine (trim_any _ _ os (hown.out.slv hlen.out (by omega) (Nat.le_refl _))).mono ?_); rintro e w' ⟨⟨vt, rfl, ht⟩, rfl⟩)
      go_ret2
      have e := hval.out
      rw [List.drop_zero, List.drop_zero] at e
      obtain ⟨e1, e2⟩ := div_mod_unique e hr0 hr1
      refine ⟨⟨vt, tr os, ?_, ht _ (hown.out.slv hlen.out (by omega) (Nat.le_refl _)), hlb.out.tr, Cn.tr _, ?_, ht.tg hlen.out (Nat.le_refl _) (by omega) hown.out⟩, hbel⟩
      · rw [← e2]; rfl
      · rw [nv_tr]; exact e1
theorem shortDivide_any (w : World) (v : Value) (xs : List Int) (b : Int) (hx : SlV w v xs) (bx : Lb xs) (hb : 0 < b ∧ b < 4294967296) :
    Calls Try.prog 101 #[v, .int .u32 b] w fun e w' => RetQR w' (nv xs) b e ∧ Below w.heap.size w w' :=
  (shortDivide_tg w v xs b hx bx hb).mono fun e w' ⟨⟨v, qs, h1, h2, h3, h4, h5, _⟩, h⟩ => ⟨⟨v, qs, h1, h2, h3, h4, h5⟩, h⟩
end Go.Proofs.Ytijmjkkjopplbaa

namespace Go.Proofs.Ytijmjkkjopplbaa
open Go.RowKit

theorem u32_or_low {x z p q : Int} {n : Nat} (hp : p = 2 ^ n) (hx0 : 0 ≤ x) (hx1 : x < p) (hz0 : 0 ≤ z) (hz1 : z < q) (e : 4294967296 = p * q) :
    bits .or .u32 x (z * p) = x + z * p ∧ x + z * p < 4294967296 := by
  subst hp
  have h1 : (z + 1) * 2 ^ n ≤ q * 2 ^ n := Int.mul_le_mul_of_nonneg_right (by omega) (Int.le_of_lt (pow_pos2 n))
  rw [Int.add_mul, Int.one_mul, Int.mul_comm q, ← e] at h1
  refine ⟨?_, by omega⟩
  obtain ⟨a, rfl⟩ := Int.eq_ofNat_of_zero_le hx0
  obtain ⟨b, rfl⟩ := Int.eq_ofNat_of_zero_le hz0
  have e2 : ((b : Int) * 2 ^ n) = ((2 ^ n * b : Nat) : Int) := by rw [Nat.mul_comm, Int.natCast_mul, two_pow_int]
  rw [e2] at h1 ⊢
  rw [two_pow_int] at hx1 h1
  have ha : a < 2 ^ n := by omega
  rw [u32_or_nat _ _ (by omega) (by omega), Nat.or_comm, ← Nat.two_pow_add_eq_or_of_lt ha]
  omega

/-- The call hands back a block of its own. -/
def RetOwn (w0 w : World) (zs : List Int) (e : Ending) : Prop := ∃ g, e = .returned (.slice (some ⟨g, 0, none⟩) zs.length zs.length) ∧ Own w g zs ∧ w0.heap.size ≤ g

theorem shift_any (w : World) (v : Value) (xs : List Int) (s : Int) (hx : SlV w v xs) (bx : Lb xs) (hs0 : 0 ≤ s) (hs1 : s < 32) (lx : xs.length < 1099511627776) :
    Calls Try.prog 104 #[v, .int .u64 s] w fun e w' => (∃ zs, RetOwn w w' zs e ∧ zs.length = xs.length + 1 ∧ Lb zs ∧ nv zs = nv xs * 2 ^ s.toNat) ∧ Below w.heap.size w w' := by
  obtain ⟨A, cap, rfl, hcl, hx⟩ := hx
  have HX := hid hx
  have HBX := hid bx
  clear hx bx
  obtain ⟨n, rfl⟩ := Int.eq_ofNat_of_zero_le hs0
  rw [Int.toNat_natCast]
  have hn : n < 32 := by omega
  have hmin : min n 64 = n := by omega
  have hpw : (2 : Int) ^ n = 2 ^ n := rfl
  obtain ⟨p, hp⟩ : ∃ p : Int, p = 2 ^ n := ⟨_, rfl⟩
  rw [← hp]
  have hp0 := pow_pos2 n
  have hp1 := pow_lt32 hn
  obtain ⟨q, hq0, hq⟩ := pow_dvd (show n ≤ 32 by omega)
  rw [← hp] at hp0 hp1 hq
  have hpow : (2 : Int) ^ min n 64 = p := by rw [hmin, hp]
  have hpow2 : (2 : Int) ^ n = p := hp.symm
  have HP := hid hp
  have HQ := hid hq
  clear hp hq hpw hmin
  have hmk := make_u32_succ xs.length (by omega)
  go_enter Try.func104, Try.ntmps104
  go_wp2
  clear hmk
  go_loopw [14] (fun i wr => ∃ (k : Nat) (os : List Int), i = .int .i64 k ∧ k ≤ xs.length ∧ Hid (os.length = xs.length + 1) ∧ Hid (Own wr w.heap.size os) ∧ Hid (Lb os) ∧ lm os k < p ∧
      Hid (nv (os.take k) + bp k * lm os k = nv (xs.take k) * p) ∧ Below w.heap.size w wr) (fun i _ => xs.length - (intOf i).toNat)
  case atStart => exact ⟨0, List.replicate (xs.length + 1) 0, rfl, by omega, hid (by simp), hid (Own.made w (xs.length + 1)), hid (Lb.replicate _), by rw [lm_replicate]; exact hp0, hid (by rw [lm_replicate]; simp [nv_nil]), (Below.refl _ _).alloc (Nat.le_refl _) _⟩
  case round =>
    obtain ⟨k, os, rfl, hk, hlen, hown, hlb, hlow, hval, hbel⟩ := hrel
    by_cases hlt : k < xs.length
    · have hcell := hown.out.cell (j := k) (by have := hlen.out; omega)
      have hfree := hown.out.free k
      have hcell2 := hown.out.cell (j := k + 1) (by have := hlen.out; omega)
      have hfree2 := hown.out.free (k + 1)
      have hbx := HBX.out.lm k
      have hbo := hlb.out.lm k
      obtain ⟨ab, ao, rfl, hcc⟩ := HX.out.at (by omega)
      have c1 := cell_below hbel (hcc k hlt)
      clear hcc
      obtain ⟨m0, m1⟩ := mul_bounds (x := lm xs k) (y := p) (p := 4294967295) (q := 2147483648) hbx.1 (by omega) (by omega) hp1
      have hu := u64_in m0 (by omega)
      obtain ⟨z, hz, hz0, hz1⟩ := low_multiple (x := lm xs k) hp0 HQ.out
      obtain ⟨hor, hlt3⟩ := u32_or_low HP.out hbo.1 hlow hz0 hz1 HQ.out
      rw [← hz] at hor hlt3
      have hzz : 0 ≤ lm xs k * p % 4294967296 := Int.emod_nonneg _ (by decide)
      have HZ := hid hz
      clear hz
      have hhi : lm xs k * p / 4294967296 < p := by
        have : lm xs k * p < 4294967296 * p := Int.mul_lt_mul_of_pos_right hbx.2 hp0
        omega
      go_wp2
      go_roundw
      case measure => simp [intOf]; omega
      case rel =>
        have hl := hlen.out
        refine ⟨k + 1, (os.set k (lm os k + lm xs k * p % 4294967296)).set (k + 1) (lm xs k * p / 4294967296), by go_num, by omega, hid (by rw [List.length_set, List.length_set]; exact hl), hid ((hown.out.set _ _).set _ _), hid ((hlb.out.set _ (by omega) hlt3).set _ (by omega) (by omega)),
          by rw [lm_set_same _ (by rw [List.length_set]; omega)]; exact hhi, hid ?_, (hbel.setCell (Nat.le_refl _) _).setCell (Nat.le_refl _) _⟩
        rw [List.take_set_of_le (Nat.le_refl _), nv_take_set_succ (by omega), lm_set_same _ (by rw [List.length_set]; omega), nv_take_succ, bp_succ, shl_step hval.out rfl]
    · have HK := hid (show k = xs.length by omega)
      go_wp2
      go_ret
      have hl := hlen.out
      refine ⟨⟨os, ⟨w.heap.size, by rw [hl]; rfl, hown.out, Nat.le_refl _⟩, hl, hlb.out, ?_⟩, hbel⟩
      have e := hval.out
      rw [HK.out, nv_take_all (xs := xs) (Nat.le_refl _), ← nv_take_succ, nv_take_all (by omega)] at e
      exact e

/-- The parts of a limb that a shift to the right cuts. -/
theorem shr_digit {x y p q : Int} (hp : 0 < p) (hq : 4294967296 = p * q) (hx : 0 ≤ x ∧ x < 4294967296) (hy : 0 ≤ y ∧ y < 4294967296) :
    p * ((x + y * 4294967296) / p % 4294967296) = x - x % p + 4294967296 * (y % p) ∧ 0 ≤ (x + y * 4294967296) / p := by
  have hq0 : 0 < q := by
    rcases Int.lt_trichotomy q 0 with h | h | h
    · have := Int.mul_neg_of_pos_of_neg hp h; omega
    · subst h; simp at hq
    · exact h
  refine ⟨?_, Int.ediv_nonneg (by omega) (by omega)⟩
  have e1 : (x + y * 4294967296) / p = x / p + y * q := by
    rw [hq, show x + y * (p * q) = x + p * (y * q) from by grind, Int.add_mul_ediv_left _ _ (by omega)]
  have hxp := Int.emod_add_mul_ediv x p
  have hyp := Int.emod_add_mul_ediv y p
  have hx0 := Int.emod_nonneg x (show p ≠ 0 by omega)
  have hy0 := Int.emod_nonneg y (show p ≠ 0 by omega)
  have hy1 := Int.emod_lt_of_pos y hp
  have hd0 := Int.ediv_nonneg hx.1 (show 0 ≤ p by omega)
  have hd1 : x / p < q := Int.ediv_lt_of_lt_mul hp (by rw [Int.mul_comm, ← hq]; exact hx.2)
  rw [e1]
  generalize x % p = xl at *
  generalize x / p = xh at *
  generalize y % p = yl at *
  generalize y / p = yh at *
  have e2 : xh + y * q = (xh + yl * q) + 4294967296 * yh := by rw [hq, ← hyp]; grind
  have h3 : (yl + 1) * q ≤ p * q := Int.mul_le_mul_of_nonneg_right (by omega) (by omega)
  have h4 : 0 ≤ yl * q := Int.mul_nonneg hy0 (by omega)
  rw [Int.add_mul, Int.one_mul, ← hq] at h3
  rw [e2, Int.add_mul_emod_self_left, Int.emod_eq_of_lt (by omega) (by omega)]
  grind

theorem unshift_any (w : World) (v : Value) (xs : List Int) (s : Int) (hx : SlV w v xs) (bx : Lb xs) (hs0 : 0 ≤ s) (hs1 : s < 32) (lx : xs.length < 1099511627776) (hd : nv xs % 2 ^ s.toNat = 0) :
    Calls Try.prog 106 #[v, .int .u64 s] w fun e w' => RetN w' (nv xs / 2 ^ s.toNat) e ∧ Below w.heap.size w w' := by
  have HV := hid hx
  obtain ⟨A, cap, rfl, hcl, hx⟩ := hx
  have HX := hid hx
  have HBX := hid bx
  have HD := hid hd
  clear hx bx hd
  obtain ⟨n, rfl⟩ := Int.eq_ofNat_of_zero_le hs0
  rw [Int.toNat_natCast] at HD ⊢
  have hmin : min n 64 = n := by omega
  obtain ⟨p, hp⟩ : ∃ p : Int, p = 2 ^ n := ⟨_, rfl⟩
  have hp0 := pow_pos2 n
  have hp1 := pow_lt32 (show n < 32 by omega)
  obtain ⟨q, hq0, hq⟩ := pow_dvd (show n ≤ 32 by omega)
  rw [← hp] at hp0 hp1 hq HD ⊢
  have hpow : (2 : Int) ^ min n 64 = p := by rw [hmin, hp]
  have hpow2 : (2 : Int) ^ n = p := hp.symm
  have HQ := hid hq
  clear hp hq hmin
  have hmk := make_u32 xs.length (by omega)
  go_enter Try.func106, Try.ntmps106
  go_wp2
  clear hmk
  go_loopw [12] (fun i wr => ∃ (k : Nat) (os : List Int), i = .int .i64 k ∧ k ≤ xs.length ∧ Hid (os.length = xs.length) ∧ Hid (Own wr w.heap.size os) ∧ Hid (Lb os) ∧
      Hid (p * nv (os.take k) = nv (xs.take k) - lm xs 0 % p + bp k * (lm xs k % p)) ∧ Below w.heap.size w wr) (fun i _ => xs.length - (intOf i).toNat)
  case atStart => exact ⟨0, List.replicate xs.length 0, rfl, by omega, hid (by simp), hid (Own.made w xs.length), hid (Lb.replicate _), hid (by simp [nv_nil, bp_zero]; omega), (Below.refl _ _).alloc (Nat.le_refl _) _⟩
  case round =>
    obtain ⟨k, os, rfl, hk, hlen, hown, hlb, hval, hbel⟩ := hrel
    by_cases hlt : k < xs.length
    · have hcell := hown.out.cell (j := k) (by have := hlen.out; omega)
      have hfree := hown.out.free k
      have hbx := HBX.out.lm k
      have hby := HBX.out.lm (k + 1)
      obtain ⟨ab, ao, rfl, hcc⟩ := HX.out.at (by omega)
      have c1 := cell_below hbel (hcc k hlt)
      have hab : ab ≠ w.heap.size := Nat.ne_of_lt (lt_of_cell (hcc k hlt))
      clear hcc
      obtain ⟨d0, d1⟩ := shr_digit hp0 HQ.out hbx hby
      have hor := u64_or32' hbx.1 hbx.2 hby.1 hby.2
      obtain ⟨D, hD⟩ : ∃ D, D = (lm xs k + lm xs (k + 1) * 4294967296) / p := ⟨_, rfl⟩
      have hDD : (lm xs k + lm xs (k + 1) * 4294967296) / p = D := hD.symm
      rw [← hD] at d0 d1
      have HD0 := hid d0
      clear d0 hD
      have h2 := Int.emod_nonneg D (show (4294967296 : Int) ≠ 0 by decide)
      have h3 := Int.emod_lt_of_pos D (show (0 : Int) < 4294967296 by decide)
      have hw1 : IntKind.i64.wrap ((k : Int) + 1) = (k : Int) + 1 := by rw [IntKind.wrap_i64]; omega
      have hw2 : IntKind.u64.wrap (lm xs (k + 1) * 4294967296) = lm xs (k + 1) * 4294967296 := u64_in (by omega) (by omega)
      have hw3 : IntKind.u64.wrap (lm xs k) = lm xs k := u64_in hbx.1 (by omega)
      have hw4 : IntKind.u32.wrap D = D % 4294967296 := wrap_u32m D
      have ht1 : ((k : Int) + 1).toNat = k + 1 := by omega
      have hk0 : (0 : Int) ≤ k := by omega
      have hk1 : (k : Int) < (xs.length : Int) := by omega
      go_wp2_with fail
      go_region_held3 (fun w' => w'.cell? ⟨ab, ao + k, none⟩ = some (.int .u32 (lm xs k)) ∧ w'.cell? ⟨w.heap.size, k, none⟩ = some (cv w' ⟨w.heap.size, k, none⟩) ∧ w'.frozen? ⟨w.heap.size, k, none⟩ = false)
        (first
          | exact ⟨c1, cvx hcell, hfree⟩
          | (go_split_ands; exact ⟨by assumption, by assumption, by assumption⟩)
          | (go_split_ands; exact ⟨st1_far (by assumption) (fun e => hab (congrArg Addr.block e).symm), st1_cv (by assumption), st1_fr (by assumption)⟩))
        (first
          | (go_at_call 107; (with_reducible refine (limb_any _ _ xs _ ?g1 ?g2 HBX.out).mono ?_); (case g1 => exact (HV.out.below hbel.drew)); (case g2 => omega); rintro e w' ⟨rfl, rfl⟩; rw [ht1]))
      rename_i hH
      clear hH
      go_wp2
      go_roundw
      case measure => simp [intOf]; omega
      case rel =>
        have hl := hlen.out
        refine ⟨k + 1, os.set k (D % 4294967296), by go_num, by omega, hid (by rw [List.length_set]; exact hl), hid (hown.out.set _ _), hid (hlb.out.set _ h2 h3), hid ?_, hbel.drew.setCell (Nat.le_refl _) _⟩
        have e := hval.out
        have e2 := HD0.out
        rw [nv_take_set_succ (by omega), nv_take_succ, bp_succ]
        grind
    · have HK := hid (show k = xs.length by omega)
      go_wp2_with (go_at_call 102; (with_reducible refine (trim_any _ _ os (hown.out.slv hlen.out (by omega) (Nat.le_refl _))).mono ?_); rintro e w' ⟨⟨vt, rfl, ht⟩, rfl⟩)
      go_ret
      refine ⟨⟨tr os, RetSl.of (ht _ (hown.out.slv hlen.out (by omega) (Nat.le_refl _))), hlb.out.tr, Cn.tr _, ?_⟩, hbel⟩
      have e := hval.out
      have e0 := HD.out
      rw [HK.out, nv_take_all (by have := hlen.out; omega), nv_take_all (xs := xs) (Nat.le_refl _), lm_out (Nat.le_refl _)] at e
      have e1 : lm xs 0 % p = 0 := by
        cases xs with
        | nil => rfl
        | cons x xs =>
          rw [nv_cons, HQ.out, Int.mul_assoc, Int.add_mul_emod_self_left] at e0
          exact e0
      rw [e1] at e
      rw [nv_tr, show nv xs = p * nv os from by rw [e]; simp, Int.mul_ediv_cancel_left _ (by omega)]
end Go.Proofs.Ytijmjkkjopplbaa

namespace Go.Proofs.Ytijmjkkjopplbaa
open Go.RowKit

theorem len_tab (S : ByteArray) (hs : S.size = 256)
    (hS : ∀ n : Fin 256, 1 ≤ n.val → 1 ≤ (S[n.val]'(by rw [hs]; exact n.isLt)).toNat ∧ (S[n.val]'(by rw [hs]; exact n.isLt)).toNat ≤ 8 ∧ 2 ^ ((S[n.val]'(by rw [hs]; exact n.isLt)).toNat - 1) ≤ n.val ∧ n.val < 2 ^ (S[n.val]'(by rw [hs]; exact n.isLt)).toNat)
    (t : Int) (h : t.toNat < S.size) (a : Nat) (ha : a ≤ 24) (ht : 1 ≤ t) (x : Int) (hx : t * 2 ^ a ≤ x) (hx2 : x < (t + 1) * 2 ^ a) :
    ∃ y : Nat, ((S[t.toNat]'h).toNat : Int) = y ∧ 1 ≤ y + a ∧ y + a ≤ 32 ∧ (2 : Int) ^ (y + a - 1) ≤ x ∧ x < 2 ^ (y + a) := by
  obtain ⟨k1, k2, k3, k4⟩ := hS ⟨t.toNat, by omega⟩ (by simp; omega)
  simp only at k1 k2 k3 k4
  generalize (S[t.toNat]'h).toNat = y at *
  have hp := pow_pos2 a
  have e1 : (2 : Int) ^ (y + a - 1) = 2 ^ (y - 1) * 2 ^ a := by rw [show y + a - 1 = (y - 1) + a from by omega, Int.pow_add]
  have e2 : (2 : Int) ^ (y + a) = 2 ^ y * 2 ^ a := Int.pow_add ..
  refine ⟨y, rfl, by omega, by omega, ?_, ?_⟩
  · rw [e1]
    have : (2 : Int) ^ (y - 1) ≤ t := by rw [two_pow_int]; omega
    have := Int.mul_le_mul_of_nonneg_right this (Int.le_of_lt hp)
    omega
  · rw [e2]
    have : t + 1 ≤ (2 : Int) ^ y := by rw [two_pow_int]; omega
    have := Int.mul_le_mul_of_nonneg_right this (Int.le_of_lt hp)
    omega

theorem wrap_len (y a : Nat) (h : y + a ≤ 32) : wrap64 ((a : Int) + wrap64 (y : Int)) = ((y + a : Nat) : Int) := by unfold wrap64; omega
theorem wrap_len0 (y : Nat) (h : y + 0 ≤ 32) : wrap64 (wrap64 (y : Int)) = (y : Int) := by unfold wrap64; omega
theorem len_fin (S : ByteArray) (hs : S.size = 256)
    (hS : ∀ n : Fin 256, 1 ≤ n.val → 1 ≤ (S[n.val]'(by rw [hs]; exact n.isLt)).toNat ∧ (S[n.val]'(by rw [hs]; exact n.isLt)).toNat ≤ 8 ∧ 2 ^ ((S[n.val]'(by rw [hs]; exact n.isLt)).toNat - 1) ≤ n.val ∧ n.val < 2 ^ (S[n.val]'(by rw [hs]; exact n.isLt)).toNat)
    (t : Int) (h : t.toNat < S.size) (c : Int) (a : Nat) (hca : c = a) (ha : a ≤ 24) (ht : 1 ≤ t) (x : Int) (hx : t * 2 ^ a ≤ x) (hx2 : x < (t + 1) * 2 ^ a) :
    ∃ k : Nat, Ending.returned (.int .i64 (wrap64 (c + wrap64 ((S[t.toNat]'h).toNat : Int)))) = .returned (.int .i64 k) ∧ 1 ≤ k ∧ k ≤ 32 ∧ (2 : Int) ^ (k - 1) ≤ x ∧ x < 2 ^ k := by
  obtain ⟨y, hy, g1, g2, g3, g4⟩ := len_tab S hs hS t h a ha ht x hx hx2
  rw [hy]
  exact ⟨y + a, int_of (by rw [hca]; exact wrap_len y a g2), g1, g2, g3, g4⟩
theorem len_fin0 (S : ByteArray) (hs : S.size = 256)
    (hS : ∀ n : Fin 256, 1 ≤ n.val → 1 ≤ (S[n.val]'(by rw [hs]; exact n.isLt)).toNat ∧ (S[n.val]'(by rw [hs]; exact n.isLt)).toNat ≤ 8 ∧ 2 ^ ((S[n.val]'(by rw [hs]; exact n.isLt)).toNat - 1) ≤ n.val ∧ n.val < 2 ^ (S[n.val]'(by rw [hs]; exact n.isLt)).toNat)
    (t : Int) (h : t.toNat < S.size) (ht : 1 ≤ t) :
    ∃ k : Nat, Ending.returned (.int .i64 (wrap64 (wrap64 ((S[t.toNat]'h).toNat : Int)))) = .returned (.int .i64 k) ∧ 1 ≤ k ∧ k ≤ 32 ∧ (2 : Int) ^ (k - 1) ≤ t ∧ t < 2 ^ k := by
  obtain ⟨y, hy, g1, g2, g3, g4⟩ := len_tab S hs hS t h 0 (by omega) ht t (by omega) (by omega)
  rw [hy]
  exact ⟨y, int_of (wrap_len0 y g2), g1, g2, g3, g4⟩

set_option maxRecDepth 100000 in
set_option maxHeartbeats 2000000 in
theorem len32_any (x : Int) (w : World) (h0 : 0 < x) (h1 : x < 4294967296) :
    Calls Try.prog 111 #[.int .u32 x] w fun e w' => (∃ k : Nat, e = .returned (.int .i64 k) ∧ 1 ≤ k ∧ k ≤ 32 ∧ (2 : Int) ^ (k - 1) ≤ x ∧ x < 2 ^ k) ∧ w = w' := by
  by_cases c1 : 65536 ≤ x
  · by_cases c2 : 256 ≤ x / 65536
    · obtain ⟨t, ht⟩ : ∃ t, x / 65536 / 256 = t := ⟨_, rfl⟩
      have t0 : 1 ≤ t := by omega
      have t1 : t < 256 := by omega
      have hx : t * 2 ^ 24 ≤ x ∧ x < (t + 1) * 2 ^ 24 := by omega
      go_enter Try.func111, Try.ntmps111
      go_wp2
      go_ret
      refine ⟨?_, rfl⟩
      show ∃ k : Nat, Ending.returned (.int .i64 (wrap64 (24 + wrap64 _))) = _ ∧ _
      exact len_fin _ (by decide +kernel) (by decide +kernel) t _ 24 24 rfl (by omega) t0 x hx.1 hx.2
    · obtain ⟨t, ht⟩ : ∃ t, x / 65536 = t := ⟨_, rfl⟩
      have t0 : 1 ≤ t := by omega
      have t1 : t < 256 := by omega
      have hx : t * 2 ^ 16 ≤ x ∧ x < (t + 1) * 2 ^ 16 := by omega
      rw [ht] at c2
      go_enter Try.func111, Try.ntmps111
      go_wp2
      go_ret
      refine ⟨?_, rfl⟩
      show ∃ k : Nat, Ending.returned (.int .i64 (wrap64 (16 + wrap64 _))) = _ ∧ _
      exact len_fin _ (by decide +kernel) (by decide +kernel) t _ 16 16 rfl (by omega) t0 x hx.1 hx.2
  · by_cases c2 : 256 ≤ x
    · obtain ⟨t, ht⟩ : ∃ t, x / 256 = t := ⟨_, rfl⟩
      have t0 : 1 ≤ t := by omega
      have t1 : t < 256 := by omega
      have hx : t * 2 ^ 8 ≤ x ∧ x < (t + 1) * 2 ^ 8 := by omega
      go_enter Try.func111, Try.ntmps111
      go_wp2
      go_ret
      refine ⟨?_, rfl⟩
      show ∃ k : Nat, Ending.returned (.int .i64 (wrap64 (8 + wrap64 _))) = _ ∧ _
      exact len_fin _ (by decide +kernel) (by decide +kernel) t _ 8 8 rfl (by omega) t0 x hx.1 hx.2
    · go_enter Try.func111, Try.ntmps111
      go_wp2
      go_ret
      refine ⟨?_, rfl⟩
      show ∃ k : Nat, Ending.returned (.int .i64 (wrap64 (wrap64 _))) = _ ∧ _
      exact len_fin0 _ (by decide +kernel) (by decide +kernel) x _ (by omega)

/-- How far a limb is shifted until its highest bit is set. -/
theorem leadingZeros_any (x : Int) (w : World) (h0 : 0 < x) (h1 : x < 4294967296) :
    Calls Try.prog 103 #[.int .u32 x] w fun e w' => (∃ s : Nat, e = .returned (.int .i64 s) ∧ s < 32 ∧ 2147483648 ≤ x * 2 ^ s ∧ x * 2 ^ s < 4294967296) ∧ w = w' := by
  go_enter Try.func103, Try.ntmps103
  go_wp2_with (go_at_call 111; (with_reducible refine (len32_any x _ h0 h1).mono ?_); rintro e w' ⟨⟨k, rfl, k0, k1, k2, k3⟩, rfl⟩)
  go_ret
  refine ⟨⟨32 - k, int_of (by omega), by omega, ?_, ?_⟩, rfl⟩
  · have e : (2147483648 : Int) = 2 ^ (k - 1) * 2 ^ (32 - k) := by rw [← Int.pow_add, show k - 1 + (32 - k) = 31 from by omega]; rfl
    rw [e]; exact Int.mul_le_mul_of_nonneg_right k2 (Int.le_of_lt (pow_pos2 _))
  · have e : (4294967296 : Int) = 2 ^ k * 2 ^ (32 - k) := by rw [← Int.pow_add, show k + (32 - k) = 32 from by omega]; rfl
    rw [e]; exact Int.mul_lt_mul_of_pos_right k3 (pow_pos2 _)
end Go.Proofs.Ytijmjkkjopplbaa

namespace Go.Proofs.Ytijmjkkjopplbaa

theorem Sm.to {m n : Nat} {a : Int} (h : Sm m a) (hn : m ≤ n) : Sm n a := by
  obtain ⟨x, y⟩ := h
  have := bp_mono hn
  exact ⟨by omega, by omega⟩
theorem Sm.plus {m n k : Nat} {a b : Int} (h : Sm m a) (l : Sm n b) (hm : m < k) (hn : n < k) : Sm k (a + b) := by
  obtain ⟨p, rfl⟩ : ∃ p, k = p + 1 := ⟨k - 1, by omega⟩
  obtain ⟨x, y⟩ := h
  obtain ⟨u, v⟩ := l
  have h1 := bp_mono (show m ≤ p by omega)
  have h2 := bp_mono (show n ≤ p by omega)
  have h3 := bp_pos p
  have h4 := bp_succ p
  exact ⟨by omega, by omega⟩
theorem Sm.opp {n : Nat} {z : Int} (h : Sm n z) : Sm n (-z) := ⟨by have := h.2; omega, by have := h.1; omega⟩
theorem Sm.minus {m n k : Nat} {a b : Int} (h : Sm m a) (l : Sm n b) (hm : m < k) (hn : n < k) : Sm k (a - b) := by
  rw [Int.sub_eq_add_neg]; exact h.plus l.opp hm hn
theorem Sm.times {m n k : Nat} {a b : Int} (h : Sm m a) (l : Sm n b) (hk : m + n ≤ k) : Sm k (a * b) := by
  refine Sm.to (m := m + n) ?_ hk
  have h1 : (a.natAbs : Int) < bp m := by obtain ⟨x, y⟩ := h; omega
  have h2 : (b.natAbs : Int) < bp n := by obtain ⟨x, y⟩ := l; omega
  have h3 : ((a * b).natAbs : Int) < bp (m + n) := by
    rw [Int.natAbs_mul, bp_add, Int.natCast_mul]
    have h4 := Int.mul_le_mul_of_nonneg_right (show (a.natAbs : Int) ≤ bp m by omega) (show (0 : Int) ≤ b.natAbs by omega)
    have h5 := Int.mul_lt_mul_of_pos_left h2 (bp_pos m)
    omega
  exact ⟨by omega, by omega⟩
theorem Sm.absv {n : Nat} {z : Int} (h : Sm n z) : Sm n (z.natAbs : Int) := by obtain ⟨x, y⟩ := h; exact ⟨by omega, by omega⟩
theorem Sm.quo {m : Nat} {a b : Int} (h : Sm m a) : Sm m (a / b) := by
  have := Int.natAbs_ediv_le_natAbs a b
  obtain ⟨x, y⟩ := h
  exact ⟨by omega, by omega⟩
theorem Sm.rem {m : Nat} {a b : Int} (h : Sm m b) (hb : b ≠ 0) : Sm m (a % b) := by
  have h0 := Int.emod_nonneg a hb
  have h1 := Int.emod_lt a hb
  obtain ⟨x, y⟩ := h
  exact ⟨by omega, by omega⟩
/-- A number of absolute value at most that of a small one. -/
theorem Sm.le {n : Nat} {a b : Int} (h : Sm n b) (hab : a.natAbs ≤ b.natAbs) : Sm n a := by obtain ⟨x, y⟩ := h; exact ⟨by omega, by omega⟩
theorem Sm.i64 {n : Int} (h0 : -9223372036854775808 ≤ n) (h1 : n < 9223372036854775808) : Sm 2 n := by
  have e : bp 2 = 18446744073709551616 := by decide
  exact ⟨by rw [e]; omega, by rw [e]; omega⟩
theorem Sm.one {n : Int} (h0 : -4294967296 < n) (h1 : n < 4294967296) : Sm 1 n := by
  have e : bp 1 = 4294967296 := by decide
  exact ⟨by rw [e]; omega, by rw [e]; omega⟩
theorem Sm.gcd {n : Nat} {a b : Int} (h : Sm n a) (k : Sm n b) : Sm n ((Int.gcd a b : Nat) : Int) := by
  by_cases ha : a = 0
  · rw [ha, Int.gcd_zero_left]; exact k.absv
  · refine Sm.le h ?_
    have h1 : Int.gcd a b ∣ a.natAbs := Nat.gcd_dvd_left _ _
    have h2 := Nat.le_of_dvd (by omega : 0 < a.natAbs) h1
    omega
theorem gcd_emod {x y : Int} (hx : 0 ≤ x) (hy : 0 ≤ y) : Int.gcd y (x % y) = Int.gcd x y := by
  obtain ⟨m, rfl⟩ := Int.eq_ofNat_of_zero_le hx
  obtain ⟨n, rfl⟩ := Int.eq_ofNat_of_zero_le hy
  rw [show ((m : Int) % (n : Int)) = ((m % n : Nat) : Int) from rfl, Int.gcd_natCast_natCast, Int.gcd_natCast_natCast, Nat.gcd_comm m n, Nat.gcd_rec n m, Nat.gcd_comm]
theorem gcd_zero' {x : Int} (hx : 0 ≤ x) : ((Int.gcd x 0 : Nat) : Int) = x := by
  rw [Int.gcd_zero_right]; omega
theorem gcd_natAbs (a b : Int) : Int.gcd (a.natAbs : Int) (b.natAbs : Int) = Int.gcd a b := by
  rw [Int.gcd_natCast_natCast]; rfl
end Go.Proofs.Ytijmjkkjopplbaa

namespace Go.Proofs.Ytijmjkkjopplbaa
set_option linter.unusedVariables false
set_option maxRecDepth 100000

def ofN (p q : Int) : Int := if q = 0 then 0 else if q < 0 then -p else p
def ofD (p q : Int) : Int := if q = 0 then 1 else if q < 0 then -q else q
theorem ofD_pos (p q : Int) : 0 < ofD p q := by
  unfold ofD
  by_cases h0 : q = 0
  · rw [if_pos h0]; decide
  · rw [if_neg h0]; split <;> omega
theorem of_val (p q : Int) : Rat.divInt (ofN p q) (ofD p q) = Rat.divInt p q := by
  unfold ofN ofD
  by_cases h0 : q = 0
  · rw [if_pos h0, if_pos h0, h0, Rat.divInt_zero]; rfl
  · rw [if_neg h0, if_neg h0]
    by_cases h1 : q < 0
    · rw [if_pos h1, if_pos h1, Rat.neg_divInt_neg]
    · rw [if_neg h1, if_neg h1]
theorem of_sm {n : Nat} {p q : Int} (hp : Sm n p) (hq : Sm n q) (h1 : 1 ≤ n) : Sm n (ofN p q) ∧ Sm n (ofD p q) := by
  have hb := bp_mono h1
  rw [bp_one] at hb
  unfold ofN ofD Sm at *
  split
  · omega
  · split <;> omega
theorem rat_num {p q : Int} (hq : 0 < q) : (Rat.divInt p q).num = p / (Int.gcd p q : Int) := by
  rw [Rat.num_divInt, Int.sign_eq_one_of_pos hq, Int.one_mul, Int.gcd_comm]
theorem rat_den {p q : Int} (hq : 0 < q) : ((Rat.divInt p q).den : Int) = q / (Int.gcd p q : Int) := by
  rw [Rat.den_divInt, if_neg (by omega), Int.gcd_comm, Int.natCast_ediv]
  congr 1
  omega
theorem gcd_pos' {p q : Int} (hq : 0 < q) : 0 < (Int.gcd p q : Int) := by
  have := Int.gcd_pos_of_ne_zero_right p (show q ≠ 0 by omega)
  omega
theorem rat_sm {n : Nat} {p q : Int} (hp : Sm n p) (hq : Sm n q) (h0 : 0 < q) : Sm n (Rat.divInt p q).num ∧ Sm n ((Rat.divInt p q).den : Int) := by
  rw [rat_num h0, rat_den h0]
  exact ⟨hp.quo, hq.quo⟩
theorem rat_floor {p q : Int} (hq : 0 < q) : (Rat.divInt p q).floor = p / q := by
  have hg := gcd_pos' (p := p) hq
  rw [Rat.floor_def, rat_num hq, rat_den hq]
  have h1 := Int.ediv_mul_cancel (Int.gcd_dvd_left (a := p) (b := q))
  have h2 := Int.ediv_mul_cancel (Int.gcd_dvd_right (a := p) (b := q))
  generalize (Int.gcd p q : Int) = g at *
  generalize p / g = a at *
  generalize q / g = b at *
  subst h1 h2
  rw [Int.mul_ediv_mul_of_pos_left _ _ hg]
theorem add_divInt {p q r s : Int} (hq : 0 < q) (hs : 0 < s) : Rat.divInt (p * s + r * q) (q * s) = Rat.divInt p q + Rat.divInt r s := by
  rw [Rat.divInt_add_divInt _ _ (by omega) (by omega)]
end Go.Proofs.Ytijmjkkjopplbaa

