/- Walk: Sqrt. -/
import Derived.Test.YtdbgalohppfkfaaNorm
import Derived.Test.YtdbgalohppfkfaaCmp
import Derived.Test.YtdbgalohppfkfaaDivide
namespace Go.Proofs.Ytdbgalohppfkfaa
open Go.RowKit
set_option linter.unusedVariables false

/-- The floor of the square root. -/
def isRoot (a r : Int) : Prop := 0 ≤ r ∧ r * r ≤ a ∧ a < (r + 1) * (r + 1)
theorem isRoot.uniq {a r s : Int} (h : isRoot a r) (k : isRoot a s) : r = s := by
  obtain ⟨h0, h1, h2⟩ := h
  obtain ⟨k0, k1, k2⟩ := k
  rcases Int.lt_trichotomy r s with h | h | h
  · exfalso
    have := Int.mul_le_mul (show r + 1 ≤ s by omega) (show r + 1 ≤ s by omega) (by omega) (by omega)
    omega
  · exact h
  · exfalso
    have := Int.mul_le_mul (show s + 1 ≤ r by omega) (show s + 1 ≤ r by omega) (by omega) (by omega)
    omega
/-- A step of Newton's from above stays above. -/
theorem newton_above {a x : Int} (ha : 1 ≤ a) (hx : 1 ≤ x) : a < ((x + a / x) / 2 + 1) * ((x + a / x) / 2 + 1) ∧ 1 ≤ (x + a / x) / 2 := by
  have h1 := Int.emod_add_mul_ediv a x
  have h2 := Int.emod_lt_of_pos a (show 0 < x by omega)
  have h3 := Int.emod_nonneg a (show x ≠ 0 by omega)
  generalize a / x = t at *
  generalize a % x = r at *
  have ht : 0 ≤ t := by
    rcases (show t < 0 ∨ 0 ≤ t by omega) with h | h
    · exfalso
      have := Int.mul_le_mul_of_nonneg_left (show t ≤ -1 by omega) (show 0 ≤ x by omega)
      omega
    · exact h
  obtain ⟨y, hy⟩ : ∃ y, y = (x + t) / 2 := ⟨_, rfl⟩
  rw [← hy]
  have h4 : x + t + 1 ≤ 2 * (y + 1) := by omega
  have hp : 0 ≤ x + t + 1 := by omega
  have h5 := Int.mul_le_mul h4 h4 hp (by omega)
  have h6 : 4 * (x * (t + 1)) ≤ (x + t + 1) * (x + t + 1) := by
    have : 0 ≤ (x - (t + 1)) * (x - (t + 1)) := by
      rcases Int.le_total 0 (x - (t + 1)) with h | h
      · exact Int.mul_nonneg h h
      · exact Int.mul_nonneg_of_nonpos_of_nonpos h h
    grind
  have h7 : a < x * (t + 1) := by rw [Int.mul_add, Int.mul_one]; omega
  refine ⟨?_, ?_⟩
  · have : 2 * (y + 1) * (2 * (y + 1)) = 4 * ((y + 1) * (y + 1)) := by grind
    omega
  · rcases (show x = 1 ∨ 2 ≤ x by omega) with h | h
    · subst h; omega
    · omega
theorem newton_stop {a x : Int} (ha : 1 ≤ a) (hx : 1 ≤ x) (h : x ≤ (x + a / x) / 2) : x * x ≤ a := by
  have h1 : x ≤ a / x := by omega
  have h2 := Int.mul_ediv_self_le (x := a) (show x ≠ 0 by omega)
  have h3 := Int.mul_le_mul_of_nonneg_left h1 (show 0 ≤ x by omega)
  omega
theorem start_nv (t : Nat) : nv ((List.replicate (t + 1) (0 : Int)).set t 1) = bp t := by
  rw [nv_set_last (by simp)]
  rw [List.take_replicate, nv_replicate]; omega
theorem start_cn (t : Nat) : Cn ((List.replicate (t + 1) (0 : Int)).set t 1) := fun h => by
  rw [List.length_set, List.length_replicate, Nat.add_sub_cancel, lm_set_same 1 (by simp)]
  decide
theorem start_lb (t : Nat) : Lb ((List.replicate (t + 1) (0 : Int)).set t 1) := (Lb.replicate _).set _ (by decide) (by decide)
theorem start_above {xs : List Int} (h : Lb xs) {t : Nat} (ht : xs.length ≤ 2 * t) : nv xs < (bp t + 1) * (bp t + 1) := by
  have h1 := nv_lt h
  have h2 := bp_mono ht
  rw [show 2 * t = t + t by omega, bp_add] at h2
  have := bp_pos t
  grind

theorem sqrt_neg (w : World) (v : Value) (a : Int) (n : Nat) (ha : IntA w v a n) (h0 : a < 0) :
    Calls Try.prog 35 #[v] w fun e w' => e = .returned (.tuple #[.agg #[.bool false, .slice none 0 0], .bool false]) ∧ Below w.heap.size w w' := by
  have HA := hid ha
  obtain ⟨na, s, xs, rfl, -⟩ := ha
  obtain ⟨W, hW⟩ : ∃ W, W = (w.alloc (.cells #[.bool na, s] 24)).alloc (.cells #[.bool false, .slice none 0 0] 24) := ⟨_, rfl⟩
  have X := Bx.two w (.bool na) s (.bool false) (.slice none 0 0) 24
  rw [← hW] at X
  obtain ⟨x0, x1⟩ := X
  have HB : Below w.heap.size w W := by rw [hW]; exact bw_alloc (bw_alloc (Below.refl _ _) _) _
  have HA := hid (HA.out.below HB)
  have hd : decide (cm a 0 < 0) = true := by rw [cm_lt h0]; rfl
  clear h0
  go_enter Try.func35, Try.ntmps35
  go_wp2_with fail
  rw [← hW]
  clear hW
  refine (sign_any _ _ a n HA.out).mono ?_
  rintro e w1 ⟨rfl, hb1⟩
  have HB := hid (bw_step HB hb1)
  obtain ⟨k2, k3, f2, f3⟩ := x1.below hb1
  clear x0 x1 hb1
  go_wp2
  refine bodyPost_ret (v := .tuple #[.agg #[.bool false, .slice none 0 0], .bool false]) (by simp [results, Try.results35, go_sem, k2, k3]) rfl ⟨rfl, (HB.out.setCell (Nat.le_succ _) _).setCell (Nat.le_succ _) _⟩

set_option maxHeartbeats 1000000 in
theorem sqrt_any (w : World) (v : Value) (a : Int) (n : Nat) (ha : IntA w v a n) (h0 : 0 ≤ a) (hn : n ≤ 68719476736) :
    Calls Try.prog 35 #[v] w fun e w' => (∃ u r, e = .returned (.tuple #[u, .bool true]) ∧ IntV w' u r ∧ isRoot a r) ∧ Below w.heap.size w w' := by
  have HA := hid ha
  obtain ⟨na, s, xs, rfl, hs, hl, hxn, hsg⟩ := ha
  have hz := tr_zero hl
  have hn0 := nv_nonneg hl
  have ea : a = nv xs := by
    cases na with
    | false => exact hsg
    | true => rw [sg_true] at hsg; omega
  clear hsg
  obtain ⟨W, hW⟩ : ∃ W, W = (w.alloc (.cells #[.bool na, s] 24)).alloc (.cells #[.bool false, .slice none 0 0] 24) := ⟨_, rfl⟩
  have X := Bx.two w (.bool na) s (.bool false) (.slice none 0 0) 24
  rw [← hW] at X
  obtain ⟨x0, x1⟩ := X
  have HB : Below w.heap.size w W := by rw [hW]; exact bw_alloc (bw_alloc (Below.refl _ _) _) _
  have HA := hid (HA.out.below HB)
  have S0 := hid (hs.below HB)
  have hd : decide (cm a 0 < 0) = false := by
    rw [decide_eq_false_iff_not]
    rcases cm_form a 0 with ⟨h1, e1⟩ | ⟨h1, e1⟩ | ⟨h1, e1⟩ <;> omega
  have HL := hid hl
  have EA := hid ea
  have A0 := hid h0
  have HZ := hid hz
  clear h0 hl hs ea hn0 hz
  go_enter Try.func35, Try.ntmps35
  go_wp2_with fail
  rw [← hW]
  clear hW
  refine (sign_any _ _ a n HA.out).mono ?_
  rintro e w1 ⟨rfl, hb1⟩
  have HB := hid (bw_step HB hb1)
  have x0 := x0.below hb1
  have x1 := x1.below hb1
  have S0 := hid (S0.out.below hb1)
  obtain ⟨k0, k1, f0, f1⟩ := id x0
  clear hb1
  go_wp2_with fail
  refine (magnitude_any _ _ s na xs rfl S0.out).mono ?_
  rintro e w2 ⟨⟨s1, rfl, hc1⟩, hb1⟩
  have S1 := hid (hc1 _ (S0.out.below hb1))
  have HB := hid (bw_step HB.out hb1)
  have x0 := x0.below hb1
  have x1 := x1.below hb1
  have ll := S1.out.len
  have hll : (tr xs).length ≤ n := by rw [tr_length]; have := tl_le xs; omega
  clear hb1 hc1 S0 hd k0 k1 f0 f1
  obtain ⟨A1, c1, rfl, hcc, hsl⟩ := id S1.out
  clear hsl
  obtain ⟨k2, k3, f2, f3⟩ := id x1
  by_cases h1 : (tr xs).length = 0
  · have E := hid (show isRoot a 0 by rw [EA.out, HZ.out.1 h1]; exact ⟨by decide, by decide, by decide⟩)
    go_wp2
    refine bodyPost_ret (v := .tuple #[.agg #[.bool false, .slice none 0 0], .bool true]) (by simp [results, Try.results35, go_sem, k2, k3]) rfl ⟨⟨_, 0, rfl, IntV.zero _, E.out⟩, (HB.out.setCell (Nat.le_succ _) _).setCell (Nat.le_succ _) _⟩
  · have h2 : (((tr xs).length : Int) == 0) = false := by rw [beq_eq_false_iff_ne]; omega
    obtain ⟨t, ht⟩ : ∃ t, t = ((tr xs).length + 1) / 2 := ⟨_, rfl⟩
    have htd : (((tr xs).length : Int) + 1) / 2 = (t : Int) := by omega
    have hmk := make_u32_succ t (by omega)
    have hown := Own.made w2 (t + 1)
    have c0 := hown.cell (j := t) (by simp)
    have c2 := hown.free t
    have hlm : lm (List.replicate (t + 1) (0 : Int)) t = 0 := by rw [lm_getElem (by simp)]; simp
    rw [hlm] at c0
    have HT := hid ht
    have ht2 : t ≤ 68719476736 := by omega
    have ht3 : (tr xs).length ≤ 2 * t := by omega
    obtain ⟨W3, hW3⟩ : ∃ W3, W3 = w2.alloc (.cells ((zs (t + 1)).setIfInBounds t (.int .u32 1)) 33) := ⟨_, rfl⟩
    have hW3' : (w2.alloc (.cells (zs (t + 1)) 33)).setCell ⟨w2.heap.size, t, none⟩ (.int .u32 1) = W3 := by rw [hW3]; exact World.setCell_alloc_at _ _ _ _ _ rfl
    have hb2 : Below w2.heap.size w2 ((w2.alloc (.cells (zs (t + 1)) 33)).setCell ⟨w2.heap.size, t, none⟩ (.int .u32 1)) := (bw_alloc (Below.refl _ w2) (.cells (zs (t + 1)) 33)).setCell (Nat.le_refl _) _
    have hown2 := hown.set t 1
    rw [hW3'] at hb2 hown2
    have hsl3 := hown2.slv (n := t + 1) (c := t + 1) (by simp) (by omega) (Nat.le_refl _)
    have S1 := hid (S1.out.below hb2)
    have HB := hid (bw_step HB.out hb2)
    have x1 := x1.below hb2
    have ha1 : 0 < a := by
      have h3 := mt HZ.out.2 h1
      have := A0.out
      have := EA.out
      omega
    have A1P := hid ha1
    have X3 := hid hsl3
    have e3 := nv_tr xs
    rw [← EA.out] at e3
    have HN := hid e3
    have HA3 := hid (show a < (bp t + 1) * (bp t + 1) by rw [← e3]; exact start_above HL.out.tr ht3)
    have hln := hid hll
    have hbt := bp_pos t
    clear ht hown hb2 hlm hown2 hsl3 ha1 e3 hll hW3' ht3 HT
    go_wp2
    rw [← hW3]
    clear hmk htd c0 c2 hW3
    go_loopg [5] (bp t).toNat (fun gk v w' => ∃ A c ys, v = .slice A ys.length c ∧ Hid (SlV w' v ys) ∧ Hid (Lb ys) ∧ Hid (Cn ys) ∧ Hid (1 ≤ nv ys) ∧ Hid (a < (nv ys + 1) * (nv ys + 1)) ∧ Hid (ys.length ≤ t + 1) ∧ Hid (gk = (nv ys).toNat) ∧
      Hid (Below w.heap.size w w') ∧ Hid (SlV w' (.slice A1 (tr xs).length c1) (tr xs)) ∧ Bx w' (w.heap.size + 1) (.bool false) (.slice none 0 0))
    case atStart =>
      have e := start_nv t
      exact ⟨some ⟨w2.heap.size, 0, none⟩, t + 1, (List.replicate (t + 1) (0 : Int)).set t 1, by simp, X3.out, start_lb t, start_cn t, by rw [e]; exact hbt, by rw [e]; exact HA3.out, show _ ≤ _ by simp, show _ = _ by rw [e], HB.out, S1.out, x1⟩
    case round =>
      clear S1 HB x1 X3 hbt HA3 k2 k3 f2 f3
      obtain ⟨A, c, ys, rfl, Y, YL, YC, Y1, YA, YN, YG, HB, S1, x1⟩ := hrel
      go_wp2_with fail
      refine (divide_any _ _ _ (tr xs) ys S1.out Y.out HL.out.tr YL.out (Cn.tr _) YC.out (by have := Y1.out; omega) (by have := hln.out; omega)).mono ?_
      rintro e w4 ⟨⟨q1, r1, qs, rs, rfl, hq1, hq2, hq3, hq4, hr1, hr2, hr3, hr4⟩, hb4⟩
      rw [HN.out] at hq4
      have Y := hid (Y.out.below hb4)
      have S1 := hid (S1.out.below hb4)
      have HB := hid (bw_step HB.out hb4)
      have x1 := x1.below hb4
      have Q1 := hid hq1
      have QL := hid hq2
      have QC := hid hq3
      have QN := hid hq4
      have hql : qs.length ≤ (tr xs).length := by
        refine hq3.length_le hq2 ?_
        have h1 := nv_lt HL.out.tr
        rw [HN.out] at h1
        rw [hq4]
        have := Int.ediv_le_self (nv ys) A0.out
        omega
      clear hq1 hq2 hq3 hq4 hr1 hr2 hr3 hr4 hb4
      go_wp2_with fail
      refine (plus_any _ _ _ ys qs Y.out Q1.out YL.out QL.out (by have := YN.out; omega) (by have := hln.out; omega)).mono ?_
      rintro e w5 ⟨⟨us, ⟨u1, rfl, hu1⟩, hu2, hu3, hu4⟩, hb5⟩
      have Y := hid (Y.out.below hb5)
      have S1 := hid (S1.out.below hb5)
      have HB := hid (bw_step HB.out hb5)
      have x1 := x1.below hb5
      have U1 := hid hu1
      have UL := hid hu2
      have UN := hid (hu4.trans (by rw [QN.out]))
      clear hu1 hu2 hu3 hu4 hb5 Q1
      go_wp2_with fail
      refine (shortDivide_any _ _ us 2 U1.out UL.out ⟨by decide, by decide⟩).mono ?_
      rintro e w6 ⟨⟨z1, zs, rfl, hz1, hz2, hz3, hz4⟩, hb6⟩
      rw [UN.out] at hz4
      have Y := hid (Y.out.below hb6)
      have S1 := hid (S1.out.below hb6)
      have HB := hid (bw_step HB.out hb6)
      have x1 := x1.below hb6
      have Z1 := hid hz1
      have ZL := hid hz2
      have ZC := hid hz3
      have ZN := hid hz4
      obtain ⟨A6, c6, rfl, _, _⟩ := id hz1
      clear hz1 hz2 hz3 hz4 hb6 U1
      obtain ⟨n1, n2⟩ := newton_above A1P.out Y1.out
      have N1 := hid n1
      have N2 := hid n2
      clear n1 n2
      by_cases hst : nv ys ≤ nv zs
      · have hcm : decide (0 ≤ cm (nv zs) (nv ys)) = true := by
          rw [decide_eq_true_eq]; rcases cm_form (nv zs) (nv ys) with ⟨h1, e1⟩ | ⟨h1, e1⟩ | ⟨h1, e1⟩ <;> omega
        have RT := hid (show isRoot a (nv ys) from ⟨by have := Y1.out; omega, newton_stop A1P.out Y1.out (by rw [← ZN.out]; exact hst), YA.out⟩)
        clear hst
        go_wp2_with fail
        refine (compare_any _ _ _ zs ys Z1.out Y.out ZL.out YL.out ZC.out YC.out).mono ?_
        rintro e w7 ⟨rfl, ⟨nq, rfl⟩⟩
        have hbn : Below w6.heap.size w6 (w6.drewN nq) := below_drewN (Below.refl _ _) nq
        have Y := hid (Y.out.below hbn)
        have HB := hid (bw_step HB.out hbn)
        have x1 := x1.below hbn
        clear hbn S1
        go_wp2_with fail
        refine (signed_any _ _ false ys Y.out YL.out).mono ?_
        rintro e w8 ⟨⟨v8, rfl, hv8⟩, hb8⟩
        have HB := hid (bw_step HB.out hb8)
        obtain ⟨k2, k3, f2, f3⟩ := x1.below hb8
        rw [sg_false] at hv8
        obtain ⟨q8, A8, n8, c8, rfl⟩ := hv8.form
        have F := hid (fin_any HB.out (g := w.heap.size + 1) (by omega) k2 k3 hv8 (.bool q8) (.slice A8 n8 c8))
        clear hb8 hv8 x1
        go_wp2
        exact bodyPost_ret (v := .tuple #[.agg #[.bool q8, .slice A8 n8 c8], .bool true]) (by simp [results, Try.results35, go_sem, k2, k3]) rfl ⟨⟨_, nv ys, rfl, F.out.1, RT.out⟩, F.out.2⟩
      · have hcm : decide (0 ≤ cm (nv zs) (nv ys)) = false := by
          rw [decide_eq_false_iff_not]; rcases cm_form (nv zs) (nv ys) with ⟨h1, e1⟩ | ⟨h1, e1⟩ | ⟨h1, e1⟩ <;> omega
        have LT := hid (show nv zs < nv ys by omega)
        have LE := hid (show zs.length ≤ t + 1 by
          rcases Nat.lt_or_ge ys.length zs.length with h | h
          · have := ZC.out.lt_of_length YL.out ZL.out h; omega
          · have := YN.out; omega)
        clear hst
        go_wp2_with fail
        refine (compare_any _ _ _ zs ys Z1.out Y.out ZL.out YL.out ZC.out YC.out).mono ?_
        rintro e w7 ⟨rfl, ⟨nq, rfl⟩⟩
        have hbn : Below w6.heap.size w6 (w6.drewN nq) := below_drewN (Below.refl _ _) nq
        have Z1 := hid (Z1.out.below hbn)
        have S1 := hid (S1.out.below hbn)
        have HB := hid (bw_step HB.out hbn)
        have x1 := x1.below hbn
        clear hbn Y
        go_wp2
        go_roundg (nv zs).toNat
        case measure =>
          have h1 := LT.out
          have h2 := Y1.out
          rw [YG.out]; omega
        case rel =>
          exact ⟨A6, c6, zs, rfl, Z1, ZL, ZC, hid (by rw [ZN.out]; exact N2.out), hid (by rw [ZN.out]; exact N1.out), LE, hid rfl, HB, S1, x1⟩
end Go.Proofs.Ytdbgalohppfkfaa
