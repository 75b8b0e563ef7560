/- Walk: digit: one digit of a long division, in place. -/
import Derived.Test.YtdbgalohppfkfaaLimb
import Derived.Test.YtdbgalohppfkfaaKnuth
namespace Go.Proofs.Ytdbgalohppfkfaa
open Go.RowKit

theorem Own.kept {w w' : World} {g h : Nat} {xs : List Int} (ho : Own w h xs) (hg : w.grownBy w' (some g)) (hne : h ≠ g) : Own w' h xs := by
  have hl := ho.lt
  unfold Own at ho ⊢
  rw [hg.block h hl (by simpa using hne)]; exact ho
theorem Own.far {w : World} {g h : Nat} {xs : List Int} (ho : Own w h xs) (hne : h ≠ g) (j : Nat) (y : Value) : Own (w.setCell ⟨g, j, none⟩ y) h xs := by
  unfold Own at ho ⊢
  rw [Below.heap_setCell _ _ _ _ hne]; exact ho
theorem grown_set {w w' : World} {g : Nat} (h : w.grownBy w' (some g)) (j : Nat) (y : Value) : w.grownBy (w'.setCell ⟨g, j, none⟩ y) (some g) :=
  ⟨h.os, h.tape, h.output, by rw [World.size_setCell]; exact h.size, fun i hi hr => by
    rw [Below.heap_setCell _ _ _ _ (by simpa using hr)]; exact h.block i hi hr⟩
theorem grown_drewN {w w' : World} {g : Option Nat} (h : w.grownBy w' g) (n : Nat) : w.grownBy (w'.drewN n) g := ⟨h.os, h.tape, h.output, h.size, h.block⟩
theorem grown_refl (w : World) (g : Option Nat) : w.grownBy w g := ⟨rfl, rfl, rfl, Nat.le_refl _, fun _ _ _ => rfl⟩

set_option maxRecDepth 100000 in
set_option maxHeartbeats 2000000 in
theorem digit_any (w : World) (g h off m c d : Nat) (os vs : List Int) (hown : Own w g os) (hownv : Own w h vs) (hgh : h ≠ g) (hoff : off + (m + 3) ≤ os.length) (hvl : m + 2 ≤ vs.length) (hlo : os.length ≤ 1099511627776)
    (hlb : Lb os) (hlv : Lb vs) (htop : 2147483648 ≤ lm vs (m + 1)) (hlt : nv (win os off (m + 3)) < nv (vs.take (m + 2)) * 4294967296) :
    Calls Try.prog 64 #[.slice (some ⟨g, off, none⟩) (m + 3) c, .slice (some ⟨h, 0, none⟩) (m + 2) d] w fun e w' =>
      ∃ os', e = .returned (.int .u32 (nv (win os off (m + 3)) / nv (vs.take (m + 2)))) ∧ Own w' g os' ∧ os'.length = os.length ∧ Lb os' ∧ (∀ j, j < off ∨ off + (m + 3) ≤ j → lm os' j = lm os j) ∧
        nv (win os' off (m + 3)) = nv (win os off (m + 3)) % nv (vs.take (m + 2)) ∧ w.grownBy w' (some g) := by
  have HO := hid hown
  have HV := hid hownv
  have HLB := hid hlb
  have HLV := hid hlv
  have HLT := hid hlt
  have u2 := hown.cell (j := off + (m + 2)) (by omega)
  have u1 := hown.cell (j := off + (m + 1)) (by omega)
  have u0 := hown.cell (j := off + m) (by omega)
  have v1 := hownv.cell (j := m + 1) (by omega)
  have v0 := hownv.cell (j := m) (by omega)
  have b2 := hlb.lm (off + (m + 2))
  have b1 := hlb.lm (off + (m + 1))
  have b0 := hlb.lm (off + m)
  have a1 := hlv.lm (m + 1)
  have a0 := hlv.lm m
  clear hown hownv hlb hlv hlt
  obtain ⟨U2, e2⟩ : ∃ x, x = lm os (off + (m + 2)) := ⟨_, rfl⟩
  obtain ⟨U1, e1⟩ : ∃ x, x = lm os (off + (m + 1)) := ⟨_, rfl⟩
  obtain ⟨U0, e0⟩ : ∃ x, x = lm os (off + m) := ⟨_, rfl⟩
  obtain ⟨V1, f1⟩ : ∃ x, x = lm vs (m + 1) := ⟨_, rfl⟩
  obtain ⟨V0, f0⟩ : ∃ x, x = lm vs m := ⟨_, rfl⟩
  rw [← e2] at u2 b2
  rw [← e1] at u1 b1
  rw [← e0] at u0 b0
  rw [← f1] at v1 a1 htop
  rw [← f0] at v0 a0
  have E2 := hid e2
  have E1 := hid e1
  have E0 := hid e0
  have F1 := hid f1
  have F0 := hid f0
  clear e2 e1 e0 f1 f0
  obtain ⟨top, ht⟩ : ∃ t, t = U1 + U2 * 4294967296 := ⟨_, rfl⟩
  have hor : bits .or .u64 (U2 * 4294967296) U1 = top := by rw [u64_or32' b1.1 b1.2 b2.1 b2.2, ht]
  have t0 : 0 ≤ top := by omega
  have t1 : top < 18446744073709551616 := by omega
  have HT := hid ht
  clear ht
  obtain ⟨q0, hq0⟩ : ∃ q, q = min (top / V1) 4294967295 := ⟨_, rfl⟩
  have hmin : ∀ (w : World) (ts : Array TypeId) (t : TypeId), (Builtin.min_ ts t #[.int .u64 (top / V1), .int .u64 4294967295]).run Try.prog w = .ok (.int .u64 q0) w := fun w ts t => by
    rw [hq0]
    simp only [Builtin.min_, Builtin.min2, List.foldlM_cons, List.foldlM_nil]
    simp
    split <;> omega
  have hdv0 := Int.ediv_nonneg t0 (show 0 ≤ V1 by omega)
  have hdv1 := Int.ediv_mul_le top (show V1 ≠ 0 by omega)
  have q00 : 0 ≤ q0 := by omega
  have q01 : q0 ≤ 4294967295 := by omega
  have hp0 : 0 ≤ q0 * V1 := Int.mul_nonneg q00 a1.1
  have hp1 : q0 * V1 ≤ top := by
    have := Int.mul_le_mul_of_nonneg_right (show q0 ≤ top / V1 by omega) a1.1
    omega
  obtain ⟨vl, ul, hV, hvl0, hvl1, hU, hul0, hul1⟩ := knuth_parts HLB.out HLV.out hoff hvl
  rw [← F1.out, ← F0.out] at hV
  rw [← E2.out, ← E1.out, ← E0.out, ← HT.out] at hU
  obtain ⟨hVp, hQ, hrest⟩ := knuth_start (bp_pos m) hV hU ⟨hvl0, hvl1⟩ ⟨hul0, hul1⟩ rfl rfl HT.out ⟨htop, a1.2⟩ a0 b0 b1 b2.1 HLT.out hq0
  obtain ⟨U, hUe⟩ : ∃ U, U = nv (win os off (m + 3)) := ⟨_, rfl⟩
  obtain ⟨V, hVe⟩ : ∃ V, V = nv (vs.take (m + 2)) := ⟨_, rfl⟩
  rw [← hVe] at hV hVp hQ HLT
  rw [← hUe] at hU hQ HLT
  rw [← hVe, ← hUe]
  have HUe := hid hUe
  have HVe := hid hVe
  have HV2 := hid hV
  have HU2 := hid hU
  have HQ := hid hQ
  have HR := hid hrest
  have HL := hid (And.intro (And.intro hvl0 hvl1) (And.intro hul0 hul1))
  clear hUe hVe hV hU hQ hrest hvl0 hvl1 hul0 hul1 hq0 hdv1
  go_enter Try.func64, Try.ntmps64
  go_wp2
  go_quiet (fail)
  go_upto_block 0 with (fail)
  clear hmin
  go_cut [7] from 49 to 80 (fun v7 wx => ∃ q : Int, v7 = .int .u64 q ∧ 0 ≤ q ∧ q ≤ 4294967295 ∧ Hid (U / V ≤ q ∧ (q - 1) * V ≤ U) ∧ Dr w wx)
  case first =>
    go_wp2
    go_loopw [7, 8] (fun v r wx => ∃ q rest : Int, v = .int .u64 q ∧ r = .int .u64 rest ∧ 0 ≤ q ∧ q ≤ 4294967295 ∧ 0 ≤ rest ∧ rest < 8589934592 ∧ Hid (rest = top - q * V1) ∧ Hid (U / V ≤ q) ∧ Dr w wx) (fun v _ _ => (intOf v).toNat)
    case atStart => exact ⟨q0, top - q0 * V1, rfl, rfl, q00, q01, by omega, HR.out, hid rfl, HQ, ⟨_, rfl⟩⟩
    case round =>
      obtain ⟨q, rest, rfl, rfl, hq0, hq1, hr0, hr1, hr, hQ, ⟨nn, rfl⟩⟩ := hrel
      by_cases hg : rest < 4294967296
      · have m0 : 0 ≤ q * V0 := Int.mul_nonneg hq0 a0.1
        have m1 : q * V0 ≤ 4294967295 * 4294967295 := Int.mul_le_mul hq1 (by omega) a0.1 (by decide)
        obtain ⟨s3, hs3⟩ : ∃ s, s = U0 + rest * 4294967296 := ⟨_, rfl⟩
        have hor2 : bits .or .u64 (rest * 4294967296) U0 = s3 := by rw [u64_or32' b0.1 b0.2 hr0 hg, hs3]
        have e1 : IntKind.u64.wrap (q * V0) = q * V0 := u64_in m0 (by omega)
        have e2 : IntKind.u64.wrap (rest * 4294967296) = rest * 4294967296 := u64_in (by omega) (by omega)
        have HS := hid hs3
        clear hs3
        by_cases ht : s3 < q * V0
        · have hq2 : 1 ≤ q := by
            rcases (show q = 0 ∨ 1 ≤ q by omega) with h | h
            · subst h; have := HS.out; omega
            · exact h
          have e3 : IntKind.u64.wrap (q - 1) = q - 1 := u64_in (by omega) (by omega)
          go_wp2
          go_quiet (fail)
          go_wp2
          go_roundw
          case measure => simp only [intOf]; omega
          case rel =>
            refine ⟨q - 1, rest + V1, rfl, rfl, by omega, by omega, by omega, by omega, hid ?_, hid ?_, ⟨_, rfl⟩⟩
            · rw [hr.out, Int.sub_mul]; omega
            · exact knuth_down (bp_pos m) HV2.out HU2.out HL.out.1.1 HL.out.2.2 hVp hQ.out hq0 rfl rfl hr.out (by rw [Int.add_comm, ← HS.out]; exact ht)
        · have htd : decide (s3 < q * V0) = false := by simpa using ht
          have hx := hid (knuth_left hq0 (by omega) a0.1 a0.2 b0.1 rfl rfl hr.out (.inr (by rw [Int.add_comm, ← HS.out]; omega)))
          go_wp2
          go_quiet (fail)
          go_wp2
          go_meet
          case rel => exact ⟨q, rfl, hq0, hq1, hid ⟨hQ.out, knuth_over (bp_pos m) HV2.out HU2.out HL.out.1.2 HL.out.2.1 hVp hq0 hq1 htop a0.1 rfl hx.out⟩, by repeat (first | exact Dr.refl _ | apply Dr.step)⟩
      · have hgd : decide (rest < 4294967296) = false := by simpa using hg
        have hx := hid (knuth_left hq0 (by omega) a0.1 a0.2 b0.1 rfl rfl hr.out (.inl (by omega)))
        go_wp2
        go_quiet (fail)
        go_wp2
        go_meet
        case rel => exact ⟨q, rfl, hq0, hq1, hid ⟨hQ.out, knuth_over (bp_pos m) HV2.out HU2.out HL.out.1.2 HL.out.2.1 hVp hq0 hq1 htop a0.1 rfl hx.out⟩, by repeat (first | exact Dr.refl _ | apply Dr.step)⟩
  case rest =>
    obtain ⟨q, rfl, hq0, hq1, hQ, ⟨nn, rfl⟩⟩ := hcut
    clear hor hp0 hp1 hdv0 u2 u1 u0 v1 v0 t0 t1
    go_wp2
    go_loopw [9, 10, 82] (fun vb vc vk wr => ∃ (bo cy : Int) (k : Nat) (rs : List Int), vb = .int .u64 bo ∧ vc = .int .u64 cy ∧ vk = .int .i64 k ∧ 0 ≤ bo ∧ bo ≤ 1 ∧ 0 ≤ cy ∧ cy < 4294967296 ∧ k ≤ m + 2 ∧ Hid (rs.length = os.length) ∧ Hid (Own wr g rs) ∧ Hid (Lb rs) ∧
        Hid (∀ j, j < off ∨ off + k ≤ j → lm rs j = lm os j) ∧ Hid (nv (win rs off k) = nv (win os off k) - q * nv (vs.take k) + bp k * (cy + bo)) ∧ Hid (w.grownBy wr (some g))) (fun _ _ vk _ => m + 2 - (intOf vk).toNat)
    case atStart => exact ⟨0, 0, 0, os, rfl, rfl, rfl, by omega, by omega, by omega, by omega, by omega, hid rfl, HO, HLB, hid (fun _ _ => rfl), hid (by rw [nv_win_zero]; simp [nv_nil]), hid (grown_drewN (grown_refl w _) _)⟩
    case round =>
      obtain ⟨bo, cy, k, rs, rfl, rfl, rfl, hb0, hb1, hc0, hc1, hk, hlen, hown, hlr, hsame, hval, hgr⟩ := hrel
      by_cases hkt : k < m + 2
      · have hcell := hown.out.cell (j := off + k) (by have := hlen.out; omega)
        have hfree := hown.out.free (off + k)
        have hvc := (HV.out.kept hgr.out hgh).cell (j := k) (by omega)
        have hx := hlr.out.lm (off + k)
        have hy := HLV.out.lm k
        obtain ⟨m0, m1⟩ := mul_bounds (p := 4294967295) (q := 4294967295) hq0 hq1 hy.1 (show lm vs k ≤ 4294967295 by omega)
        obtain ⟨s, hs⟩ : ∃ s, cy + q * lm vs k = s := ⟨_, rfl⟩
        have s0 : 0 ≤ s := by omega
        have s1 : s < 18446744073709551616 := by omega
        have hsw : IntKind.u64.wrap (cy + q * lm vs k) = s := by rw [hs]; exact u64_in s0 s1
        have hand := u64_and_low s0 s1
        have l0 := Int.emod_nonneg s (show (4294967296 : Int) ≠ 0 by decide)
        have l1 := Int.emod_lt_of_pos s (show (0 : Int) < 4294967296 by decide)
        obtain ⟨l, hl⟩ : ∃ l, s % 4294967296 = l := ⟨_, rfl⟩
        rw [hl] at hand l0 l1
        obtain ⟨D, hD⟩ : ∃ D, IntKind.u64.wrap (IntKind.u64.wrap (lm rs (off + k) - l) - bo) = D := ⟨_, rfl⟩
        have hD2 := hD
        rw [wrap_u64, wrap_u64] at hD2
        obtain ⟨d1, d2, d3⟩ := minus_digit hx.1 hx.2 l0 l1 hb0 hb1 hD2.symm
        have D0 : 0 ≤ D := by omega
        have D1 : D < 18446744073709551616 := by omega
        have HS := hid hs
        have HLl := hid hl
        have HD1 := hid d1
        clear hs hl hD2 d1
        go_wp2
        go_roundw
        case measure => simp [intOf]; omega
        case rel =>
          have hl := hlen.out
          have h2 := Int.emod_nonneg D (show (4294967296 : Int) ≠ 0 by decide)
          have h3 := Int.emod_lt_of_pos D (show (0 : Int) < 4294967296 by decide)
          refine ⟨_, _, k + 1, rs.set (off + k) (D % 4294967296), rfl, rfl, by go_num, d2, d3, by omega, by omega, by omega, hid (by rw [List.length_set]; exact hl), hid (hown.out.set _ _), hid (hlr.out.set _ h2 h3),
            hid (fun j hj => by rw [lm_set_other _ (by omega)]; exact hsame.out j (by omega)), hid ?_, hid (grown_set hgr.out _ _)⟩
          have e := hval.out
          have ex := hsame.out (off + k) (.inr (Nat.le_refl _))
          rw [nv_win_set (by omega), nv_win_succ, nv_take_succ, bp_succ, ← ex]
          have := ksub_step e HS.out HLl.out HD1.out
          grind
      · obtain rfl : k = m + 2 := by omega
        have hX := hsame.out (off + (m + 2)) (.inr (Nat.le_refl _))
        rw [← E2.out] at hX
        have hcell := hown.out.cell (j := off + (m + 2)) (by have := hlen.out; omega)
        have hfree := hown.out.free (off + (m + 2))
        rw [hX] at hcell
        have hUU := nv_win_succ os off (m + 2)
        rw [← E2.out, ← HUe.out] at hUU
        have hvv := hval.out
        rw [← HVe.out] at hvv
        obtain ⟨w0, w1⟩ := nv_win_lt hlr.out off (m + 2)
        obtain ⟨e, he⟩ : ∃ e, e = U2 - cy - bo := ⟨_, rfl⟩
        have hUq : U - q * V = nv (win rs off (m + 2)) + bp (m + 2) * e := by rw [he]; grind
        obtain ⟨y0, y1⟩ := div_bounds (U := U) hVp
        obtain ⟨q1, q2⟩ := hQ.out
        have hQV : (U / V + 1) * V ≤ (q + 1) * V := Int.mul_le_mul_of_nonneg_right (by omega) (Int.le_of_lt hVp)
        have HX := hid hX
        clear hX hUU hvv hval
        by_cases hs : 0 ≤ e
        · have hpe : 0 ≤ bp (m + 2) * e := Int.mul_nonneg (Int.le_of_lt (bp_pos _)) hs
          obtain ⟨z0, z1⟩ := div_of_bounds (U := U) (V := V) (Q := q) (by omega) (by omega)
          have hD : IntKind.u64.wrap (IntKind.u64.wrap (U2 - cy) - bo) = e := by rw [wrap_u64, wrap_u64]; omega
          have hD3 : (e / 9223372036854775808 == 0) = true := by rw [beq_iff_eq]; omega
          have e1 : e < 4294967296 := by omega
          have HU := hid (And.intro hUq (And.intro z0 z1))
          have HE := hid he
          clear hUq z0 z1 he y0 y1 q1 q2 hQV hpe w0 w1
          go_wp2
          go_ret
          have hl := hlen.out
          obtain ⟨g1, g2, g3⟩ := HU.out
          refine ⟨rs.set (off + (m + 2)) e, by rw [g2]; rfl, hown.out.set _ _, by rw [List.length_set]; exact hl, hlr.out.set _ hs e1, fun j hj => ?_, ?_, grown_set hgr.out _ _⟩
          · rw [lm_set_other _ (by omega)]
            exact hsame.out j (by omega)
          · rw [nv_win_set (by omega), ← g1, g3]
        · have hn : e < 0 := by omega
          have hU0 : 0 ≤ U := by rw [HUe.out]; exact (nv_win_lt HLB.out off (m + 3)).1
          have hpe : bp (m + 2) * (e + 1) ≤ 0 := Int.mul_nonpos_of_nonneg_of_nonpos (Int.le_of_lt (bp_pos _)) (by omega)
          rw [Int.mul_add, Int.mul_one] at hpe
          rw [Int.sub_mul, Int.one_mul] at q2
          obtain ⟨z0, z1⟩ := div_of_bounds (U := U) (V := V) (Q := q - 1) (by rw [Int.sub_mul, Int.one_mul]; exact q2) (by rw [show q - 1 + 1 = q from by omega]; omega)
          rw [Int.sub_mul, Int.one_mul] at z1
          have hVlt := nv_lt (HLV.out.take (m + 2))
          rw [List.length_take, Nat.min_eq_left (by omega), ← HVe.out] at hVlt
          have hD : IntKind.u64.wrap (IntKind.u64.wrap (U2 - cy) - bo) = e + 18446744073709551616 := by rw [wrap_u64, wrap_u64]; omega
          have hD3 : ((e + 18446744073709551616) / 9223372036854775808 == 0) = false := by rw [beq_eq_false_iff_ne]; omega
          obtain ⟨T, hT⟩ : ∃ T, T = (e + 18446744073709551616) % 4294967296 := ⟨_, rfl⟩
          have hT2 : T = e + 4294967296 := by omega
          have T0 : 0 ≤ T := by omega
          have T1 : T < 4294967296 := by omega
          have hT3 : IntKind.u32.wrap (e + 18446744073709551616) = T := by rw [wrap_u32m, hT]
          have hT4 : (e + 18446744073709551616) % 4294967296 = T := hT.symm
          have hqq : 1 ≤ q := by
            rcases (show q = 0 ∨ 1 ≤ q by omega) with h | h
            · subst h; omega
            · exact h
          have hqw : IntKind.u64.wrap (q - 1) = q - 1 := u64_in (by omega) (by omega)
          have HU := hid (And.intro hUq (And.intro z0 z1))
          have HT2 := hid hT2
          have HB := hid (And.intro (And.intro q2 hpe) hVlt)
          have HE := hid he
          have HY := hid (And.intro y0 y1)
          clear hUq z0 z1 he y0 y1 q1 q2 hQV hpe hT hT2 hVlt
          obtain ⟨rs1, hrs1⟩ : ∃ rs1, rs1 = rs.set (off + (m + 2)) T := ⟨_, rfl⟩
          have hl1 := hid (show rs1.length = os.length by rw [hrs1, List.length_set]; exact hlen.out)
          have ho1 := hid (show Own (wr.setCell ⟨g, off + (m + 2), none⟩ (.int .u32 T)) g rs1 by rw [hrs1]; exact hown.out.set _ _)
          have hb1 := hid (show Lb rs1 by rw [hrs1]; exact hlr.out.set _ T0 T1)
          have hg1 := hid (show w.grownBy (wr.setCell ⟨g, off + (m + 2), none⟩ (.int .u32 T)) (some g) from grown_set hgr.out _ _)
          have hs1 := hid (show ∀ j, j < off ∨ off + (m + 3) ≤ j → lm rs1 j = lm os j from fun j hj => by rw [hrs1, lm_set_other _ (by omega)]; exact hsame.out j (by omega))
          have ht1 := hid (show lm rs1 (off + (m + 2)) = T by rw [hrs1]; exact lm_set_same _ (by have := hlen.out; omega))
          have hn1 := hid (show nv (win rs1 off (m + 2)) = nv (win rs off (m + 2)) by rw [hrs1, win_set_low])
          clear hrs1
          go_wp2
          go_loopw [10, 134] (fun vc vk wx => ∃ (cy : Int) (k : Nat) (ts : List Int), vc = .int .u64 cy ∧ vk = .int .i64 k ∧ 0 ≤ cy ∧ cy ≤ 1 ∧ k ≤ m + 2 ∧ Hid (ts.length = os.length) ∧ Hid (Own wx g ts) ∧ Hid (Lb ts) ∧
              Hid (∀ j, j < off ∨ off + k ≤ j → lm ts j = lm rs1 j) ∧ Hid (nv (win ts off k) + bp k * cy = nv (win rs1 off k) + nv (vs.take k)) ∧ Hid (w.grownBy wx (some g))) (fun _ vk _ => m + 2 - (intOf vk).toNat)
          case atStart => exact ⟨0, 0, rs1, rfl, rfl, by omega, by omega, by omega, hl1, ho1, hb1, hid (fun _ _ => rfl), hid (by rw [nv_win_zero]; simp [nv_nil]), hg1⟩
          case round =>
            clear hcell hfree hown hlr hgr hlen hsame ho1 hg1
            obtain ⟨cz, k, ts, rfl, rfl, hc0, hc1, hk, hlen, hown, hlr, hsame, hval, hgr⟩ := hrel
            by_cases hkt : k < m + 2
            · have hcell := hown.out.cell (j := off + k) (by have := hlen.out; omega)
              have hfree := hown.out.free (off + k)
              have hvc := (HV.out.kept hgr.out hgh).cell (j := k) (by omega)
              have hx := hlr.out.lm (off + k)
              have hy := HLV.out.lm k
              have hk1 : (k : Int) < (m : Int) + 3 := by omega
              have hk2 : (k : Int) < (m : Int) + 2 := by omega
              have hk0 : (0 : Int) ≤ k := by omega
              have e1 : IntKind.u64.wrap (lm ts (off + k) + lm vs k) = lm ts (off + k) + lm vs k := u64_in (by omega) (by omega)
              have e2 : IntKind.u64.wrap (cz + (lm ts (off + k) + lm vs k)) = cz + (lm ts (off + k) + lm vs k) := u64_in (by omega) (by omega)
              go_wp2
              go_quiet (fail)
              go_wp2
              go_roundw
              case measure => simp [intOf]; omega
              case rel =>
                have hl := hlen.out
                obtain ⟨s, hs⟩ : ∃ s, cz + (lm ts (off + k) + lm vs k) = s := ⟨_, rfl⟩
                rw [hs]
                have h2 := Int.emod_nonneg s (show (4294967296 : Int) ≠ 0 by decide)
                have h3 := Int.emod_lt_of_pos s (show (0 : Int) < 4294967296 by decide)
                refine ⟨_, k + 1, ts.set (off + k) (s % 4294967296), rfl, by go_num, by omega, by omega, by omega, hid (by rw [List.length_set]; exact hl), hid ((hown.out.drew _).set _ _), hid (hlr.out.set _ h2 h3),
                  hid (fun j hj => by rw [lm_set_other _ (by omega)]; exact hsame.out j (by omega)), hid ?_, hid (grown_set (grown_drewN hgr.out _) _ _)⟩
                have ex := hsame.out (off + k) (.inr (Nat.le_refl _))
                rw [nv_win_set (by omega), nv_win_succ, nv_take_succ, bp_succ, ← ex, plus_step hval.out hs]
                omega
            · obtain rfl : k = m + 2 := by omega
              have hX := hsame.out (off + (m + 2)) (.inr (Nat.le_refl _))
              rw [ht1.out] at hX
              have hcell := hown.out.cell (j := off + (m + 2)) (by have := hlen.out; omega)
              have hfree := hown.out.free (off + (m + 2))
              rw [hX] at hcell
              obtain ⟨p1, p2, p3⟩ := HU.out
              obtain ⟨⟨p4, p5⟩, p6⟩ := HB.out
              obtain ⟨w2, w3⟩ := nv_win_lt hlr.out off (m + 2)
              have hvv := hval.out
              rw [hn1.out, ← HVe.out] at hvv
              have hmul := Int.mul_add (bp (m + 2)) e cz
              have hbp := bp_pos (m + 2)
              have hec : e + cz = 0 := by
                rcases Int.lt_trichotomy (e + cz) 0 with h | h | h
                · have := Int.mul_le_mul_of_nonneg_left (show e + cz ≤ -1 by omega) (Int.le_of_lt hbp)
                  omega
                · exact h
                · have := Int.mul_le_mul_of_nonneg_left (show 1 ≤ e + cz by omega) (Int.le_of_lt hbp)
                  omega
              have hfin := hid (show nv (win ts off (m + 2)) = U % V by rw [hec, Int.mul_zero] at hmul; omega)
              have hquo := hid p2
              have hsum : IntKind.u32.wrap (T + cz) = 0 := by rw [wrap_u32m, HT2.out]; omega
              clear hX hvv p1 p2 p3 p4 p5 p6 w2 w3 hmul hbp
              have HEC := hid hec
              clear hec
              go_wp2
              go_ret
              have hl := hlen.out
              refine ⟨ts.set (off + (m + 2)) 0, by rw [hquo.out]; rfl, hown.out.set _ _, by rw [List.length_set]; exact hl, hlr.out.set _ (by decide) (by decide), fun j hj => ?_, ?_, grown_set hgr.out _ _⟩
              · rw [lm_set_other _ (by omega), hsame.out j (by omega)]
                exact hs1.out j (by omega)
              · rw [nv_win_set (by omega), hfin.out]; omega
end Go.Proofs.Ytdbgalohppfkfaa
