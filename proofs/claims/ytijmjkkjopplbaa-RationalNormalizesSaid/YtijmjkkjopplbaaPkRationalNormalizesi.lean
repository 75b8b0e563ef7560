/- A part of the proof of the laws of rationals: RDivide. -/
import Derived.Test.YtijmjkkjopplbaaPam
import Derived.Test.YtijmjkkjopplbaaPkRationalNormalizesh
import Derived.Test.YtijmjkkjopplbaaPae
import Derived.Test.YtijmjkkjopplbaaPab
import Derived.Test.YtijmjkkjopplbaaPad
import Derived.Test.YtijmjkkjopplbaaPac
import Derived.Test.YtijmjkkjopplbaaPat
import Derived.Test.YtijmjkkjopplbaaPkRationalNormalizesa
import Derived.Test.YtijmjkkjopplbaaPaa
import Derived.Test.YtijmjkkjopplbaaPai
import Derived.Test.YtijmjkkjopplbaaPas
import Derived.Test.YtijmjkkjopplbaaPkRationalNormalizesf
import Derived.Test.YtijmjkkjopplbaaPkRationalNormalizesd
import Derived.Test.YtijmjkkjopplbaaPau
import Derived.Test.YtijmjkkjopplbaaPkRationalNormalizesg
import Derived.Test.YtijmjkkjopplbaaPkRationalNormalizese
import Derived.Test.YtijmjkkjopplbaaPar
namespace Go.Proofs.Ytijmjkkjopplbaa
open Go.RowKit
set_option linter.unusedVariables false
set_option maxRecDepth 100000

theorem rdivide_short (w : World) (v u : Value) (xs ys : List Int) (hx : SlV w v xs) (hy : SlV w u ys) (bx : Lb xs) (by_ : Lb ys) (hy0 : 0 < nv ys) (h1 : xs.length ≤ 2) (h2 : ys.length ≤ 2) :
    Calls Try.prog 99 #[v, u] w fun e w' => RetDM w' (nv xs) (nv ys) e ∧ Below w.heap.size w w' := by
  have HX := hid hx
  have HY := hid hy
  obtain ⟨A, c, rfl, hcl, hx⟩ := hx
  obtain ⟨B, d, rfl, hdl, hy⟩ := hy
  have HBX := hid bx
  have HBY := hid by_
  have b0 := nv_nonneg bx
  have b1 := nv_lt bx
  have b2 := bp_mono h1
  have b3 := nv_lt by_
  have b4 := bp_mono h2
  rw [show bp 2 = 18446744073709551616 from by decide] at b2 b4
  have EX := hid (nv_take_all (xs := xs) h1)
  have EY := hid (nv_take_all (xs := ys) h2)
  have h1' : ((xs.length : Int)) ≤ 2 := by omega
  have h2' : ((ys.length : Int)) ≤ 2 := by omega
  have hfm := field_mag
  clear hx hy bx by_
  obtain ⟨X, hX⟩ : ∃ X, nv xs = X := ⟨_, rfl⟩
  obtain ⟨Y, hY⟩ : ∃ Y, nv ys = Y := ⟨_, rfl⟩
  rw [hX, hY]
  rw [hX] at b0 b1 EX
  rw [hY] at b3 hy0 EY
  have x1 : X < 18446744073709551616 := by omega
  have y1 : Y < 18446744073709551616 := by omega
  clear b1 b2 b3 b4 hX hY
  have yne : (Y == 0) = false := by rw [beq_eq_false_iff_ne]; omega
  have yne2 : ¬ Y = 0 := by omega
  have hq := Int.tdiv_eq_ediv_of_nonneg (b := Y) b0
  have hr := Int.tmod_eq_emod_of_nonneg (b := Y) b0
  have q0 := Int.ediv_nonneg b0 (show 0 ≤ Y by omega)
  have q1 := Int.ediv_le_self Y b0
  have r0 := Int.emod_nonneg X (show Y ≠ 0 by omega)
  have r1 := Int.emod_lt_of_pos X hy0
  have hw1 := u64_in q0 (by omega)
  have hw2 := u64_in r0 (by omega)
  go_enter Try.func99, Try.ntmps99
  go_wp2_with fail
  refine (rlow_any _ _ xs HX.out HBX.out).mono ?_
  rintro e w1 ⟨he, rfl⟩
  rw [EX.out] at he
  subst he
  go_wp2_with fail
  refine (rlow_any _ _ ys HY.out HBY.out).mono ?_
  rintro e w1 ⟨he, rfl⟩
  rw [EY.out] at he
  subst he
  go_wp2_with fail
  go_region_held3 (fun w' => Hid (Below w.heap.size w w'))
    (first
      | exact bw_drew w
      | (go_split_ands; exact bw_keep (by assumption) (by assumption)))
    (first
      | (go_at_call 76; (with_reducible refine (rword_any _ false (X / Y) ?g1 ?g2).mono ?_); (case g1 => exact q0); (case g2 => omega); rintro e w3 ⟨⟨v3, rfl, hv3⟩, hb3⟩; obtain ⟨p3, A3, n3, c3, rfl⟩ := hv3.form)
      | (go_at_call 76; (with_reducible refine (rword_any _ false (X % Y) ?g3 ?g4).mono ?_); (case g3 => exact r0); (case g4 => omega); rintro e w4 ⟨⟨v4, rfl, hv4⟩, hb4⟩; obtain ⟨p4, A4, n4, c4, rfl⟩ := hv4.form))
  rename_i hH
  have HB := hid hH.out
  have hv3 := hv3.below hb4
  obtain ⟨qs, hq1, hq2, hq3, hq4⟩ := hv3.limbs q0
  obtain ⟨rs, hr1, hr2, hr3, hr4⟩ := hv4.limbs r0
  have Q := hid (And.intro hq1 (And.intro hq2 (And.intro hq3 hq4)))
  have R := hid (And.intro hr1 (And.intro hr2 (And.intro hr3 hr4)))
  clear hH hq1 hq2 hq3 hq4 hr1 hr2 hr3 hr4 hv3 hv4 hb3 hb4
  go_wp2
  go_ret2
  exact ⟨⟨_, _, qs, rs, rfl, Q.out.1, Q.out.2.1, Q.out.2.2.1, Q.out.2.2.2, R.out.1, R.out.2.1, R.out.2.2.1, R.out.2.2.2⟩, HB.out⟩

/-- One bit of a long division. -/
theorem bit_step {X N Q R k : Int} {j : Nat} (h : X / 2 ^ (j + 1) = Q / 2 ^ (j + 1) * N + R) (hQ : Q % 2 ^ (j + 1) = 0) (hk : k = X / 2 ^ j % 2) :
    X / 2 ^ j = Q / 2 ^ j * N + (2 * R + k) ∧ X / 2 ^ j = (Q + 2 ^ j) / 2 ^ j * N + (2 * R + k - N) ∧ Q % 2 ^ j = 0 ∧ (Q + 2 ^ j) % 2 ^ j = 0 := by
  have hp := pow_pos2 j
  have e : (2 : Int) ^ (j + 1) = 2 ^ j * 2 := Int.pow_succ ..
  obtain ⟨u, hu⟩ : ∃ u, u = Q / 2 ^ (j + 1) := ⟨_, rfl⟩
  have h1 := Int.emod_add_mul_ediv Q (2 ^ (j + 1))
  rw [hQ, ← hu, e, Int.zero_add, Int.mul_assoc] at h1
  rw [← hu, e, ← Int.ediv_ediv_of_nonneg (by omega)] at h
  have h2 : Q / 2 ^ j = 2 * u := by rw [← h1, Int.mul_ediv_cancel_left _ (by omega)]
  have h3 : (Q + 2 ^ j) / 2 ^ j = 2 * u + 1 := by
    have := Int.add_mul_ediv_left Q 1 (show (2 : Int) ^ j ≠ 0 by omega)
    rw [Int.mul_one] at this
    rw [this, h2]
  have h4 : Q % 2 ^ j = 0 := by rw [← h1]; exact Int.mul_emod_right _ _
  have h5 := Int.emod_add_mul_ediv (X / 2 ^ j) 2
  rw [h2, h3]
  generalize X / 2 ^ j = x at *
  generalize x / 2 = y at *
  generalize x % 2 = z at *
  refine ⟨?_, ?_, h4, by rw [Int.add_emod_right]; exact h4⟩ <;> grind

theorem u32_and_one {x : Int} (h0 : 0 ≤ x) (h1 : x < 4294967296) : bits .and .u32 x 1 = x % 2 := by
  obtain ⟨a, rfl⟩ := Int.eq_ofNat_of_zero_le h0
  have h := u32_and_nat a 1 (by omega) (by decide)
  rw [Nat.and_one_is_mod] at h
  exact h.trans (by omega)
/-- What the bits above k of a quotient and the rest are. -/
def DivInv (X N : Int) (k : Nat) (R Q : Int) : Prop := X / 2 ^ k = Q / 2 ^ k * N + R ∧ Q % 2 ^ k = 0 ∧ 0 ≤ R ∧ R < N
theorem DivInv.start {X N : Int} {k : Nat} (h0 : 0 ≤ X) (h1 : X < 2 ^ k) (hN : 0 < N) : DivInv X N k 0 0 :=
  ⟨by rw [Int.ediv_eq_zero_of_lt h0 h1]; simp, by simp, by omega, hN⟩
theorem DivInv.less {X N R Q : Int} {j : Nat} (h : DivInv X N (j + 1) R Q) (hl : 2 * R + X / 2 ^ j % 2 < N) : DivInv X N j (2 * R + X / 2 ^ j % 2) Q := by
  obtain ⟨h1, h2, h3, h4⟩ := h
  obtain ⟨k1, k2, k3, k4⟩ := bit_step h1 h2 rfl
  exact ⟨k1, k3, by omega, hl⟩
theorem DivInv.more {X N R Q : Int} {j : Nat} (h : DivInv X N (j + 1) R Q) (hl : N ≤ 2 * R + X / 2 ^ j % 2) : DivInv X N j (2 * R + X / 2 ^ j % 2 - N) (Q + 2 ^ j) := by
  obtain ⟨h1, h2, h3, h4⟩ := h
  obtain ⟨k1, k2, k3, k4⟩ := bit_step h1 h2 rfl
  exact ⟨k2, k4, by omega, by omega⟩
theorem DivInv.done {X N R Q : Int} (h : DivInv X N 0 R Q) : Q = X / N ∧ R = X % N := by
  obtain ⟨h1, h2, h3, h4⟩ := h
  rw [Int.pow_zero, Int.ediv_one, Int.ediv_one] at h1
  exact div_mod_unique h1 h3 h4

set_option maxHeartbeats 2000000 in
theorem rdivide_long (w : World) (v u : Value) (xs ys : List Int) (hx : SlV w v xs) (hy : SlV w u ys) (bx : Lb xs) (by_ : Lb ys) (cy : Cn ys) (hy0 : 0 < nv ys) (h1 : ¬ (xs.length ≤ 2 ∧ ys.length ≤ 2))
    (lx : xs.length < 4294967296) (ly : ys.length < 4294967296) :
    Calls Try.prog 99 #[v, u] w fun e w' => RetDM w' (nv xs) (nv ys) e ∧ Below w.heap.size w w' := by
  have HX := hid hx
  have HY := hid hy
  obtain ⟨A, c, rfl, hcl, hx⟩ := hx
  obtain ⟨B, d, rfl, hdl, hy⟩ := hy
  have HS := hid hx
  have HBX := hid bx
  have HBY := hid by_
  have HCY := hid cy
  have HN0 := hid hy0
  have hmk := make_u32 xs.length (by omega)
  have hown := Own.made w xs.length
  clear hx hy bx by_ cy hy0
  by_cases hq : xs.length ≤ 2
  all_goals
    have hq2 : xs.length ≤ 2 → ¬ ys.length ≤ 2 := fun h k => h1 ⟨h, k⟩
    have HQ := hid hq2
    clear hq2 h1
    first | (have hy2 := HQ.out hq) | skip
    go_enter Try.func99, Try.ntmps99
    go_wp2
    have hbl := bw_alloc (Below.refl _ w) (.cells (zs xs.length) 31)
    clear hmk
    go_loopw [5, 8] (fun v i wr => ∃ (k : Int) (rs os : List Int), i = .int .i64 k ∧ -1 ≤ k ∧ k < 32 * xs.length ∧ Hid (SlV wr v rs) ∧ Hid (Lb rs) ∧ Hid (Cn rs) ∧ Hid (os.length = xs.length) ∧ Hid (Own wr w.heap.size os) ∧ Hid (Lb os) ∧
        Hid (DivInv (nv xs) (nv ys) (k + 1).toNat (nv rs) (nv os)) ∧ Below w.heap.size w wr) (fun _ i _ => (intOf i + 1).toNat)
    case atStart =>
      refine ⟨32 * (xs.length : Int) - 1, [], List.replicate xs.length 0, rfl, by omega, by omega, hid ⟨none, 0, rfl, Nat.le_refl _, Sl.nil _ _⟩, Lb.nil, Cn.nil, hid (by simp), hown, Lb.replicate _, hid ?_, hbl⟩
      have := nv_lt HBX.out
      rw [bp_two] at this
      rw [nv_replicate, show (32 * (xs.length : Int) - 1 + 1).toNat = 32 * xs.length by omega]
      exact DivInv.start (nv_nonneg HBX.out) this HN0.out
    case round =>
      clear hown hbl
      obtain ⟨k, rs, os, rfl, hk0, hk1, hrs, hrl, hrc, hlen, hown, hlb, hinv, hbel⟩ := hrel
      by_cases h0 : 0 ≤ k
      · obtain ⟨j, rfl⟩ := Int.eq_ofNat_of_zero_le h0
        obtain ⟨q, hq⟩ : ∃ q, q = j / 32 := ⟨_, rfl⟩
        obtain ⟨r, hr⟩ : ∃ r, r = j % 32 := ⟨_, rfl⟩
        have e1 : (j : Int) / 32 = (q : Int) := by omega
        have e2 : (j : Int) % 32 = (r : Int) := by omega
        have hqx : q < xs.length := by omega
        have hr32 : r < 32 := by omega
        have HJ := hid (show j = 32 * q + r by omega)
        have HQE := hid hq
        have HRE := hid hr
        clear hq hr
        obtain ⟨b, o, rfl, hcc⟩ := HS.out.at (by omega)
        have c1 := cell_below hbel (hcc q hqx)
        clear hcc
        have hbx := HBX.out.lm q
        have hd0 := Int.ediv_nonneg hbx.1 (Int.le_of_lt (pow_pos2 r))
        have hd1 := Int.ediv_le_self (2 ^ r) hbx.1
        have hbit := u32_and_one (x := lm xs q / 2 ^ r) hd0 (by omega)
        have hbit2 := lm_bit HBX.out j
        rw [← HQE.out, ← HRE.out] at hbit2
        rw [hbit2] at hbit
        obtain ⟨t, ht⟩ : ∃ t, nv xs / 2 ^ j % 2 = t := ⟨_, rfl⟩
        have ht01 : t = 0 ∨ t = 1 := by omega
        rw [ht] at hbit
        have HT := hid ht
        have HT01 := hid ht01
        have hrl2 : rs.length < 4294967296 := by
          have h1 := hinv.out.2.2.2
          rcases Nat.lt_or_ge ys.length rs.length with h | h
          · have := hrc.out.lt_of_length HBY.out hrl.out h; omega
          · omega
        clear hbit2 ht ht01 hd0 hd1
        go_wp2_with fail
        refine (rdouble_any _ _ rs t hrs.out hrl.out HT01.out (by omega)).mono ?_
        rintro e w1 ⟨⟨s1, z1, rfl, hr1, hz1, hz2, hz3⟩, hb1⟩
        have hz1l : (tr z1).length ≤ z1.length := by rw [tr_length]; exact tl_le _
        go_wp2_with fail
        refine (rtrim_any _ _ z1 (hr1.slv (by omega))).mono ?_
        rintro e w2 ⟨⟨s2, rfl, hr2⟩, hb2⟩
        have V2 := hid (hr2.slv (by omega))
        have ZL := hid hz1.tr
        have ZC := hid (Cn.tr z1)
        have ZN := hid ((nv_tr z1).trans hz2)
        have hzl : (tr z1).length < 8589934592 := by omega
        generalize tr z1 = z at *
        have HB := hid (bw_step (bw_step hbel hb1) hb2)
        have O2 := hid ((hown.out.below hb1 hown.out.lt).below hb2 (Nat.lt_of_lt_of_le hown.out.lt hb1.size))
        have Y2 := hid (HY.out.below HB.out)
        have IV := hid hinv.out
        rw [show ((j : Int) + 1).toNat = j + 1 by omega] at IV
        clear hb1 hb2 hr1 hz1 hz2 hz3 hr2 hbel hown hinv c1 hz1l hrs hrl hrc hbit
        by_cases hge : nv ys ≤ nv z
        · have hcm : decide (0 ≤ cm (nv z) (nv ys)) = true := by
            rw [decide_eq_true_eq]
            rcases cm_form (nv z) (nv ys) with ⟨h, e⟩ | ⟨h, e⟩ | ⟨h, e⟩ <;> omega
          have GE := hid hge
          have hll := hid (show ys.length ≤ z.length by
            rcases Nat.lt_or_ge z.length ys.length with h | h
            · have := HCY.out.lt_of_length ZL.out HBY.out h; omega
            · exact h)
          clear hge
          go_wp2_with fail
          refine (rcmp_any _ _ _ z ys V2.out Y2.out ZL.out HBY.out ZC.out HCY.out).mono ?_
          rintro e w3 ⟨rfl, ⟨nq, rfl⟩⟩
          have hbn := below_drewN (Below.refl w2.heap.size w2) nq
          go_wp2_with fail
          refine (rdifference_any _ _ _ z ys (V2.out.below hbn) (Y2.out.below hbn) ZL.out HBY.out GE.out hll.out (by omega)).mono ?_
          rintro e w3 ⟨⟨s3, z3, rfl, hr3, hz1, hz2, hz3⟩, hb3⟩
          have hz1l : (tr z3).length ≤ z3.length := by rw [tr_length]; exact tl_le _
          go_wp2_with fail
          refine (rtrim_any _ _ z3 (hr3.slv (by omega))).mono ?_
          rintro e w4 ⟨⟨s4, rfl, hr4⟩, hb4⟩
          have R4 := hid hr4
          have G4 := hid (show w.heap.size < w3.heap.size from Nat.lt_of_lt_of_le (Nat.lt_of_lt_of_le O2.out.lt hbn.size) hb3.size)
          have DL := hid hz1.tr
          have DC := hid (Cn.tr z3)
          have DN := hid ((nv_tr z3).trans hz2)
          have hzl' : (tr z3).length ≤ 8589934592 := by omega
          generalize tr z3 = z' at *
          have HB := hid (bw_step (bw_step (bw_step HB.out hbn) hb3) hb4)
          have O4 := hid (((O2.out.below hbn O2.out.lt).below hb3 (Nat.lt_of_lt_of_le O2.out.lt hbn.size)).below hb4 (Nat.lt_of_lt_of_le (Nat.lt_of_lt_of_le O2.out.lt hbn.size) hb3.size))
          have hcell := O4.out.cell (j := q) (by rw [hlen.out]; exact hqx)
          have hfree := O4.out.free q
          have hbo := hlb.out.lm q
          have hmul := lm_multiple hlb.out j IV.out.2.1
          rw [← HQE.out, ← HRE.out] at hmul
          obtain ⟨hor, hlt⟩ := u32_set_bit hbo.1 hbo.2 hr32 hmul
          have hp32 := pow_lt32 hr32
          have hp0 := pow_pos2 r
          have HM := hid hmul
          clear hmul hb3 hb4 hbn hr3 hz1 hz2 hz3 hr4 O2 Y2 hz1l hcm V2
          go_wp2
          go_region
          all_goals
            go_wp2
            go_roundw
            case measure => simp [intOf]
            case rel =>
              have hl := hlen.out
              refine ⟨(j : Int) - 1, z', os.set q (lm os q + 2 ^ r), rfl, by omega, by omega, hid ((R4.out.setCell G4.out _).slv (by have := GE.out; omega)), DL, DC, hid (by rw [List.length_set]; exact hl), hid (O4.out.set _ _), hid (hlb.out.set _ (by omega) hlt), hid ?_, (HB.out.setCell (Nat.le_refl _) _).drew⟩
              have h1 := ZN.out
              have h2 := GE.out
              have h3 := DN.out
              rw [← HT.out] at h1
              rw [h1] at h2 h3
              rw [show ((j : Int) - 1 + 1).toNat = j by omega, h3, nv_set _ _ _ (by omega), show lm os q + 2 ^ r - lm os q = 2 ^ r by omega, bp_two, ← Int.pow_add, ← HJ.out]
              exact IV.out.more h2
        · have hcm : decide (0 ≤ cm (nv z) (nv ys)) = false := by
            rw [decide_eq_false_iff_not]
            rcases cm_form (nv z) (nv ys) with ⟨h, e⟩ | ⟨h, e⟩ | ⟨h, e⟩ <;> omega
          have LT := hid (show nv z < nv ys by omega)
          clear hge
          go_wp2_with fail
          refine (rcmp_any _ _ _ z ys V2.out Y2.out ZL.out HBY.out ZC.out HCY.out).mono ?_
          rintro e w3 ⟨rfl, ⟨nq, rfl⟩⟩
          have hbn := below_drewN (Below.refl w2.heap.size w2) nq
          have HB := hid (bw_step HB.out hbn)
          have V2 := hid (V2.out.below hbn)
          have O2 := hid (O2.out.below hbn O2.out.lt)
          clear hbn Y2
          go_wp2
          go_roundw
          case measure => simp [intOf]
          case rel =>
            refine ⟨(j : Int) - 1, z, os, rfl, by omega, by omega, V2, ZL, ZC, hlen, O2, hlb, hid ?_, HB.out⟩
            have h1 := ZN.out
            have h2 := LT.out
            rw [← HT.out] at h1
            rw [h1] at h2
            rw [show ((j : Int) - 1 + 1).toNat = j by omega, h1]
            exact IV.out.less h2
      · have hkk : k = -1 := by omega
        subst hkk
        have IV := hid hinv.out
        rw [show ((-1 : Int) + 1).toNat = 0 by decide] at IV
        obtain ⟨e1, e2⟩ := IV.out.done
        have HE := hid (And.intro e1 e2)
        have RL := hid hrl.out
        have S0 := hid (hown.out.slv (n := xs.length) (c := xs.length) hlen.out (by omega) (Nat.le_refl _))
        clear e1 e2 hinv IV
        go_wp2_with fail
        refine (rtrim_any _ _ os S0.out).mono ?_
        rintro e w1 ⟨⟨s1, rfl, hr1⟩, hb1⟩
        have V1 := hid (hr1.slv (by have := tl_le os; rw [tr_length, hlen.out.symm.symm] at *; have := hlen.out; omega))
        have V2 := hid (hrs.out.below hb1)
        have HB := hid (bw_step hbel hb1)
        clear hr1 hb1 hrs hbel hown
        go_wp2
        go_ret2
        exact ⟨⟨_, _, tr os, rs, rfl, V1.out, hlb.out.tr, Cn.tr _, by rw [nv_tr]; exact HE.out.1, V2.out, hrl.out, hrc.out, HE.out.2⟩, HB.out⟩
theorem rdivide_any (w : World) (v u : Value) (xs ys : List Int) (hx : SlV w v xs) (hy : SlV w u ys) (bx : Lb xs) (by_ : Lb ys) (cy : Cn ys) (hy0 : 0 < nv ys) (lx : xs.length < 4294967296) (ly : ys.length < 4294967296) :
    Calls Try.prog 99 #[v, u] w fun e w' => RetDM w' (nv xs) (nv ys) e ∧ Below w.heap.size w w' := by
  by_cases h : xs.length ≤ 2 ∧ ys.length ≤ 2
  · exact rdivide_short w v u xs ys hx hy bx by_ hy0 h.1 h.2
  · exact rdivide_long w v u xs ys hx hy bx by_ cy hy0 h lx ly
end Go.Proofs.Ytijmjkkjopplbaa

