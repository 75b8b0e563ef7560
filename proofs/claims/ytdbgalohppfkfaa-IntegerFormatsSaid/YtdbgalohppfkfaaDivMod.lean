/- Walk: DivMod. -/
import Derived.Test.YtdbgalohppfkfaaDivide
namespace Go.Proofs.Ytdbgalohppfkfaa
open Go.RowKit

/-- The quotient and the remainder by the absolute values. -/
theorem divmod_sign {A B : Int} (hA : 0 ≤ A) (hB : 0 < B) (na nb : Bool) :
    sg na A / sg nb B = sg (na != nb) (if na = true ∧ 0 < A % B then A / B + 1 else A / B) ∧ sg na A % sg nb B = if na = true ∧ 0 < A % B then B - A % B else A % B := by
  have e := Int.emod_add_mul_ediv A B
  have h0 := Int.emod_nonneg A (show B ≠ 0 by omega)
  have h1 := Int.emod_lt_of_pos A hB
  have key : ∀ s : Int, s = A ∨ s = -A → s / B = (if s = A then A / B else if 0 < A % B then -(A / B + 1) else -(A / B)) ∧ s % B = (if s = A then A % B else if 0 < A % B then B - A % B else A % B) := by
    intro s hs
    by_cases hsa : s = A
    · rw [if_pos hsa, if_pos hsa, hsa]; exact ⟨rfl, rfl⟩
    · rw [if_neg hsa, if_neg hsa]
      have hs2 : s = -A := by omega
      split
      · obtain ⟨x, y⟩ := div_mod_unique (a := s) (b := B) (q := -(A / B + 1)) (r := B - A % B) (by rw [hs2]; grind) (by omega) (by omega)
        exact ⟨x.symm, y.symm⟩
      · obtain ⟨x, y⟩ := div_mod_unique (a := s) (b := B) (q := -(A / B)) (r := A % B) (by rw [hs2]; grind) h0 h1
        exact ⟨x.symm, y.symm⟩
  cases na
  · cases nb
    · simp [sg]
    · simp [sg]
  · by_cases hA0 : A = 0
    · subst hA0; cases nb <;> simp [sg]
    · obtain ⟨k1, k2⟩ := key (-A) (.inr rfl)
      rw [if_neg (by omega)] at k1 k2
      cases nb
      · simp only [sg_true, sg_false]
        rw [k1, k2]
        by_cases hr : 0 < A % B
        · simp [hr, sg]
        · simp [hr, sg]
      · simp only [sg_true]
        rw [Int.ediv_neg, Int.emod_neg, k1, k2]
        by_cases hr : 0 < A % B
        · simp [hr, sg]
        · simp [hr, sg]

def RetQI (w : World) (a b : Int) (e : Ending) : Prop := ∃ v1 v2, e = .returned (.tuple #[v1, v2, .bool true]) ∧ IntV w v1 (a / b) ∧ IntV w v2 (a % b)

set_option maxHeartbeats 1000000 in
theorem divMod_any (w : World) (v u : Value) (a b : Int) (n m : Nat) (ha : IntA w v a n) (hb : IntA w u b m) (hn : n ≤ 274877906944) (hb0 : b ≠ 0) :
    Calls Try.prog 27 #[v, u] w fun e w' => RetQI w' a b e ∧ Below w.heap.size w w' := by
  obtain ⟨na, s, xs, rfl, hs, hl, hxn, rfl⟩ := ha
  obtain ⟨nb, r, ys, rfl, hr, hk, hyn, rfl⟩ := hb
  have hy0 : 0 < nv ys := by
    have := nv_nonneg hk
    rcases (show nv ys = 0 ∨ 0 < nv ys by omega) with h | h
    · exact absurd (show sg nb (nv ys) = 0 by rw [h]; cases nb <;> rfl) hb0
    · exact h
  obtain ⟨W, hW⟩ : ∃ W, W = (((w.alloc (.cells #[.bool na, s] 24)).alloc (.cells #[.bool nb, r] 24)).alloc (.cells #[.bool false, .slice none 0 0] 24)).alloc (.cells #[.bool false, .slice none 0 0] 24) := ⟨_, rfl⟩
  have X := Bx.four w (.bool na) s (.bool nb) r (.bool false) (.slice none 0 0) (.bool false) (.slice none 0 0) 24
  rw [← hW] at X
  obtain ⟨x0, x1, x2, x3⟩ := X
  have HB : Below w.heap.size w W := by rw [hW]; exact bw_alloc (bw_alloc (bw_alloc (bw_alloc (Below.refl _ _) _) _) _) _
  have hs' := hs.below HB
  have hr' := hr.below HB
  have HL := hid hl
  have HK := hid hk
  clear hl hk
  go_enter Try.func27, Try.ntmps27
  go_wp2_with fail
  rw [← hW]
  clear hW hs hr
  refine (magnitude_any _ _ r nb ys rfl hr').mono ?_
  rintro e w1 ⟨⟨s1, rfl, hc1⟩, hb1⟩
  have y1 := hc1 _ (hr'.below hb1)
  have hs1 := hs'.below hb1
  have x0 := x0.below hb1
  have x1 := x1.below hb1
  have x2 := x2.below hb1
  have x3 := x3.below hb1
  have HB := hid (bw_step HB hb1)
  clear hb1 hs' hr' hc1
  obtain ⟨A1, c1, rfl, hcc1, hsl1⟩ := id y1
  have hly : (tr ys).length ≠ 0 := fun e => by
    have := nv_tr ys
    rw [List.eq_nil_of_length_eq_zero e, nv_nil] at this
    omega
  have hly2 : (((tr ys).length : Int) == 0) = false := by rw [beq_eq_false_iff_ne]; omega
  have Y1 := hid y1
  have S1 := hid hs1
  clear y1 hs1 hsl1
  obtain ⟨k0, k1, f0, f1⟩ := id x0
  --CONT
  go_wp2_with fail
  refine (magnitude_any _ _ s na xs rfl S1.out).mono ?_
  rintro e w2 ⟨⟨s2, rfl, hc2⟩, hb2⟩
  have X1 := hid (hc2 _ (S1.out.below hb2))
  have HB := hid (bw_step HB.out hb2)
  have x0 := x0.below hb2
  have x1 := x1.below hb2
  have x2 := x2.below hb2
  have x3 := x3.below hb2
  have Y1 := hid (Y1.out.below hb2)
  clear hb2 hc2 S1 k0 k1 f0 f1
  go_wp2_with fail
  refine (divide_any _ _ _ (tr xs) (tr ys) X1.out Y1.out HL.out.tr HK.out.tr (Cn.tr _) (Cn.tr _) (by rw [nv_tr]; exact hy0) (by rw [tr_length]; have := tl_le xs; omega)).mono ?_
  rintro e w3 ⟨⟨q1, r1, qs, rs, rfl, hq1, hq2, hq3, hq4, hr1, hr2, hr3, hr4⟩, hb3⟩
  rw [nv_tr, nv_tr] at hq4 hr4
  obtain ⟨A3, c3, rfl, hcc3, _⟩ := id hr1
  have HB := hid (bw_step HB.out hb3)
  have x0 := x0.below hb3
  have x1 := x1.below hb3
  have x2 := x2.below hb3
  have x3 := x3.below hb3
  have Y1 := hid (Y1.out.below hb3)
  have Q1 := hid hq1
  have R1 := hid hr1
  have QF := hid (And.intro hq2 (And.intro hq3 hq4))
  have RF := hid (And.intro hr2 (And.intro hr3 hr4))
  have hm0 := Int.emod_nonneg (nv xs) (show nv ys ≠ 0 by omega)
  have hm1 := Int.emod_lt_of_pos (nv xs) hy0
  have hx0 := nv_nonneg HL.out
  have hrl : rs.length ≤ (tr ys).length := by
    rcases Nat.lt_or_ge (tr ys).length rs.length with h | h
    · have := hr3.lt_of_length HK.out.tr hr2 h; rw [nv_tr] at this; omega
    · exact h
  have hql : qs.length ≤ 274877906944 := by
    have h1 := nv_lt HL.out.tr
    have h2 : qs.length ≤ (tr xs).length := hq3.length_le hq2 (by
      rw [hq4, ← nv_tr xs]
      have := Int.ediv_le_self (nv ys) (show 0 ≤ nv (tr xs) by rw [nv_tr]; exact hx0)
      omega)
    rw [tr_length] at h2
    have := tl_le xs
    omega
  obtain ⟨DS1, DS2⟩ := divmod_sign hx0 hy0 na nb
  have DS := hid (And.intro DS1 DS2)
  have HRL := hid hrl
  have HQL := hid hql
  clear hb3 X1 hq1 hq2 hq3 hq4 hr1 hr2 hr3 hr4 DS1 DS2 hcc3 hcc1 hrl hql
  cases na with
  | false =>
    have hbne : (false != nb) = nb := by cases nb <;> rfl
    have HBNE := hid hbne
    clear hbne
    obtain ⟨k0, k1, f0, f1⟩ := id x0
    obtain ⟨k2, k3, f2, f3⟩ := id x1
    go_wp2_with fail
    refine (signed_any _ q1 nb qs Q1.out QF.out.1).mono ?_
    rintro e v5 ⟨⟨z1, rfl, hz1⟩, hb5⟩
    have R9 := hid (R1.out.below hb5)
    have HB := hid (bw_step HB.out hb5)
    have x0 := x0.below hb5
    have x1 := x1.below hb5
    have x2 := x2.below hb5
    have x3 := x3.below hb5
    clear k0 k1 f0 f1 k2 k3 f2 f3
    go_wp2_with fail
    refine (signed_any _ _ false rs R9.out RF.out.1).mono ?_
    rintro e v6 ⟨⟨z2, rfl, hz2⟩, hb6⟩
    have Z1 := hz1.below hb6
    have HB := hid (bw_step HB.out hb6)
    have x0 := x0.below hb6
    have x1 := x1.below hb6
    have x2 := x2.below hb6
    have x3 := x3.below hb6
    obtain ⟨k4, k5, f4, f5⟩ := x2
    obtain ⟨k6, k7, f6, f7⟩ := x3
    obtain ⟨n1, B1, m1, d1, rfl⟩ := Z1.form
    obtain ⟨n2, B2, m2, d2, rfl⟩ := hz2.form
    have F1 := hid (Z1.boxed k4 k5 (.bool n1) (.slice B1 m1 d1))
    have F2 := hid (hz2.boxed k4 k5 (.bool n1) (.slice B1 m1 d1))
    have k6' := st_far (x := .bool n1) (y := .slice B1 m1 d1) k6 (show (⟨w.heap.size + 1 + 1, 0, none⟩ : Addr) ≠ ⟨w.heap.size + 1 + 1 + 1, 0, none⟩ by simp) (show (⟨w.heap.size + 1 + 1, 1, none⟩ : Addr) ≠ ⟨w.heap.size + 1 + 1 + 1, 0, none⟩ by simp)
    have k7' := st_far (x := .bool n1) (y := .slice B1 m1 d1) k7 (show (⟨w.heap.size + 1 + 1, 0, none⟩ : Addr) ≠ ⟨w.heap.size + 1 + 1 + 1, 1, none⟩ by simp) (show (⟨w.heap.size + 1 + 1, 1, none⟩ : Addr) ≠ ⟨w.heap.size + 1 + 1 + 1, 1, none⟩ by simp)
    have G1 := hid (F1.out.boxed k6' k7' (.bool n2) (.slice B2 m2 d2))
    have G2 := hid (F2.out.boxed k6' k7' (.bool n2) (.slice B2 m2 d2))
    clear hb5 hb6 hz1 hz2 Z1 k6' k7' F1 F2 x0 x1
    go_wp2
    refine bodyPost_ret (v := .tuple #[.agg #[.bool n1, .slice B1 m1 d1], .agg #[.bool n2, .slice B2 m2 d2], .bool true]) (by simp [results, Try.results27, go_sem, k4, k5, k6, k7]) rfl ⟨⟨_, _, rfl, ?_, ?_⟩, (((HB.out.setCell (by simp; omega) _).setCell (by simp; omega) _).setCell (by simp; omega) _).setCell (by simp; omega) _⟩
    · have e := DS.out.1
      rw [HBNE.out] at e
      rw [← QF.out.2.2] at e; simp only [Bool.false_eq_true, false_and, if_false] at e
      rw [e]; exact G1.out
    · have e := DS.out.2
      rw [← RF.out.2.2] at e; simp only [Bool.false_eq_true, false_and, if_false] at e
      rw [e]; exact G2.out
  | true =>
    have HBNE := hid (show (true != nb) = !nb by cases nb <;> rfl)
    by_cases hz : 0 < nv xs % nv ys
    · have hrn : decide (0 < (rs.length : Int)) = true := by
        rcases Nat.eq_zero_or_pos rs.length with h | h
        · have := RF.out.2.2; rw [List.eq_nil_of_length_eq_zero h, nv_nil] at this; omega
        · simp; omega
      have hrn2 : 0 < rs.length := by simpa using hrn
      obtain ⟨k0, k1, f0, f1⟩ := id x0
      obtain ⟨k2, k3, f2, f3⟩ := id x1
      go_wp2_with fail
      have ho1 := Own.new w3 [1]
      have hs1 := ho1.slv (n := 1) (c := 1) rfl (by decide) (by decide)
      have hal := bw_alloc (Below.refl _ w3) (.cells #[.int .u32 1] 33)
      refine (plus_any _ q1 _ qs [1] (Q1.out.below hal) hs1 QF.out.1 (Lb.cons (by decide) (by decide) Lb.nil) (by have := HQL.out; omega) (by decide)).mono ?_
      rintro e w4 ⟨⟨zs, ⟨s4, rfl, hs4⟩, z1, z2, z3⟩, hb4⟩
      have hb4 := bw_step hal hb4
      clear ho1 hs1 hal
      have S4 := hid hs4
      have ZF := hid (And.intro z1 z3)
      have HB := hid (bw_step HB.out hb4)
      have x0 := x0.below hb4
      have x1 := x1.below hb4
      have x2 := x2.below hb4
      have x3 := x3.below hb4
      have Y1 := hid (Y1.out.below hb4)
      have R1 := hid (R1.out.below hb4)
      clear hb4 hs4 z1 z2 z3 k0 k1 f0 f1 k2 k3 f2 f3
      go_wp2_with fail
      refine (minus_any _ _ _ (tr ys) rs Y1.out R1.out HK.out.tr RF.out.1 (by rw [nv_tr, RF.out.2.2]; omega) HRL.out).mono ?_
      rintro e w5 ⟨⟨ts, ⟨s5, rfl, hs5⟩, t1, t2, t3⟩, hb5⟩
      have S5 := hid hs5
      have TF := hid (And.intro t1 t3)
      have HB := hid (bw_step HB.out hb5)
      have x0 := x0.below hb5
      have x1 := x1.below hb5
      have x2 := x2.below hb5
      have x3 := x3.below hb5
      have S4 := hid (S4.out.below hb5)
      clear hb5 hs5 t1 t2 t3
      obtain ⟨k0, k1, f0, f1⟩ := id x0
      obtain ⟨k2, k3, f2, f3⟩ := id x1
      go_wp2_with fail
      refine (signed_any _ s4 (!nb) zs S4.out ZF.out.1).mono ?_
      rintro e v5 ⟨⟨z1, rfl, hz1⟩, hb5⟩
      have R9 := hid (S5.out.below hb5)
      have HB := hid (bw_step HB.out hb5)
      have x0 := x0.below hb5
      have x1 := x1.below hb5
      have x2 := x2.below hb5
      have x3 := x3.below hb5
      clear k0 k1 f0 f1 k2 k3 f2 f3
      go_wp2_with fail
      refine (signed_any _ s5 false ts R9.out TF.out.1).mono ?_
      rintro e v6 ⟨⟨z2, rfl, hz2⟩, hb6⟩
      have Z1 := hz1.below hb6
      have HB := hid (bw_step HB.out hb6)
      have x0 := x0.below hb6
      have x1 := x1.below hb6
      have x2 := x2.below hb6
      have x3 := x3.below hb6
      obtain ⟨k4, k5, f4, f5⟩ := x2
      obtain ⟨k6, k7, f6, f7⟩ := x3
      obtain ⟨n1, B1, m1, d1, rfl⟩ := Z1.form
      obtain ⟨n2, B2, m2, d2, rfl⟩ := hz2.form
      have F1 := hid (Z1.boxed k4 k5 (.bool n1) (.slice B1 m1 d1))
      have F2 := hid (hz2.boxed k4 k5 (.bool n1) (.slice B1 m1 d1))
      have k6' := st_far (x := .bool n1) (y := .slice B1 m1 d1) k6 (show (⟨w.heap.size + 1 + 1, 0, none⟩ : Addr) ≠ ⟨w.heap.size + 1 + 1 + 1, 0, none⟩ by simp) (show (⟨w.heap.size + 1 + 1, 1, none⟩ : Addr) ≠ ⟨w.heap.size + 1 + 1 + 1, 0, none⟩ by simp)
      have k7' := st_far (x := .bool n1) (y := .slice B1 m1 d1) k7 (show (⟨w.heap.size + 1 + 1, 0, none⟩ : Addr) ≠ ⟨w.heap.size + 1 + 1 + 1, 1, none⟩ by simp) (show (⟨w.heap.size + 1 + 1, 1, none⟩ : Addr) ≠ ⟨w.heap.size + 1 + 1 + 1, 1, none⟩ by simp)
      have G1 := hid (F1.out.boxed k6' k7' (.bool n2) (.slice B2 m2 d2))
      have G2 := hid (F2.out.boxed k6' k7' (.bool n2) (.slice B2 m2 d2))
      clear hb5 hb6 hz1 hz2 Z1 k6' k7' F1 F2 x0 x1
      go_wp2
      refine bodyPost_ret (v := .tuple #[.agg #[.bool n1, .slice B1 m1 d1], .agg #[.bool n2, .slice B2 m2 d2], .bool true]) (by simp [results, Try.results27, go_sem, k4, k5, k6, k7]) rfl ⟨⟨_, _, rfl, ?_, ?_⟩, (((HB.out.setCell (by simp; omega) _).setCell (by simp; omega) _).setCell (by simp; omega) _).setCell (by simp; omega) _⟩
      · have e := DS.out.1
        rw [HBNE.out] at e
        rw [if_pos ⟨by simp, hz⟩, ← QF.out.2.2, show nv qs + 1 = nv zs from by rw [ZF.out.2]; simp [nv_cons, nv_nil]] at e
        rw [e]; exact G1.out
      · have e := DS.out.2
        rw [if_pos ⟨by simp, hz⟩, ← RF.out.2.2, show nv ys - nv rs = nv ts from by rw [TF.out.2, nv_tr]] at e
        rw [e]; exact G2.out
    · obtain rfl : rs = [] := by
        rcases Nat.eq_zero_or_pos rs.length with h | h
        · exact List.eq_nil_of_length_eq_zero h
        · have := RF.out.2.1.pos RF.out.1 h; rw [RF.out.2.2] at this; omega
      have R1 : Hid (SlV w3 (.slice A3 0 c3) []) := R1
      obtain ⟨k0, k1, f0, f1⟩ := id x0
      obtain ⟨k2, k3, f2, f3⟩ := id x1
      go_wp2_with fail
      refine (signed_any _ q1 (!nb) qs Q1.out QF.out.1).mono ?_
      rintro e v5 ⟨⟨z1, rfl, hz1⟩, hb5⟩
      have R9 := hid (R1.out.below hb5)
      have HB := hid (bw_step HB.out hb5)
      have x0 := x0.below hb5
      have x1 := x1.below hb5
      have x2 := x2.below hb5
      have x3 := x3.below hb5
      clear k0 k1 f0 f1 k2 k3 f2 f3
      go_wp2_with fail
      refine (signed_any _ _ false [] R9.out RF.out.1).mono ?_
      rintro e v6 ⟨⟨z2, rfl, hz2⟩, hb6⟩
      have Z1 := hz1.below hb6
      have HB := hid (bw_step HB.out hb6)
      have x0 := x0.below hb6
      have x1 := x1.below hb6
      have x2 := x2.below hb6
      have x3 := x3.below hb6
      obtain ⟨k4, k5, f4, f5⟩ := x2
      obtain ⟨k6, k7, f6, f7⟩ := x3
      obtain ⟨n1, B1, m1, d1, rfl⟩ := Z1.form
      obtain ⟨n2, B2, m2, d2, rfl⟩ := hz2.form
      have F1 := hid (Z1.boxed k4 k5 (.bool n1) (.slice B1 m1 d1))
      have F2 := hid (hz2.boxed k4 k5 (.bool n1) (.slice B1 m1 d1))
      have k6' := st_far (x := .bool n1) (y := .slice B1 m1 d1) k6 (show (⟨w.heap.size + 1 + 1, 0, none⟩ : Addr) ≠ ⟨w.heap.size + 1 + 1 + 1, 0, none⟩ by simp) (show (⟨w.heap.size + 1 + 1, 1, none⟩ : Addr) ≠ ⟨w.heap.size + 1 + 1 + 1, 0, none⟩ by simp)
      have k7' := st_far (x := .bool n1) (y := .slice B1 m1 d1) k7 (show (⟨w.heap.size + 1 + 1, 0, none⟩ : Addr) ≠ ⟨w.heap.size + 1 + 1 + 1, 1, none⟩ by simp) (show (⟨w.heap.size + 1 + 1, 1, none⟩ : Addr) ≠ ⟨w.heap.size + 1 + 1 + 1, 1, none⟩ by simp)
      have G1 := hid (F1.out.boxed k6' k7' (.bool n2) (.slice B2 m2 d2))
      have G2 := hid (F2.out.boxed k6' k7' (.bool n2) (.slice B2 m2 d2))
      clear hb5 hb6 hz1 hz2 Z1 k6' k7' F1 F2 x0 x1
      go_wp2
      refine bodyPost_ret (v := .tuple #[.agg #[.bool n1, .slice B1 m1 d1], .agg #[.bool n2, .slice B2 m2 d2], .bool true]) (by simp [results, Try.results27, go_sem, k4, k5, k6, k7]) rfl ⟨⟨_, _, rfl, ?_, ?_⟩, (((HB.out.setCell (by simp; omega) _).setCell (by simp; omega) _).setCell (by simp; omega) _).setCell (by simp; omega) _⟩
      · have e := DS.out.1
        rw [HBNE.out] at e
        rw [if_neg (fun h => absurd h.2 (by omega)), ← QF.out.2.2] at e
        rw [e]; exact G1.out
      · have e := DS.out.2
        rw [if_neg (fun h => absurd h.2 (by omega)), ← RF.out.2.2] at e
        rw [e]; exact G2.out

theorem divMod_zero (w : World) (v u : Value) (a : Int) (n m : Nat) (ha : IntA w v a n) (hb : IntA w u 0 m) :
    Calls Try.prog 27 #[v, u] w fun e w' => (∃ v1 v2, e = .returned (.tuple #[v1, v2, .bool false]) ∧ IntV w' v1 0 ∧ IntV w' v2 0) ∧ Below w.heap.size w w' := by
  obtain ⟨na, A, n1, c1, rfl⟩ := ha.form
  obtain ⟨nb, r, ys, rfl, hr, hk, hyn, hz⟩ := hb
  have hy0 : nv ys = 0 := by cases nb <;> simp [sg] at hz <;> omega
  have htr : tr ys = [] := (Cn.tr ys).zero hk.tr (by rw [nv_tr]; exact hy0)
  obtain ⟨W, hW⟩ : ∃ W, W = (((w.alloc (.cells #[.bool na, .slice A n1 c1] 24)).alloc (.cells #[.bool nb, r] 24)).alloc (.cells #[.bool false, .slice none 0 0] 24)).alloc (.cells #[.bool false, .slice none 0 0] 24) := ⟨_, rfl⟩
  have X := Bx.four w (.bool na) (.slice A n1 c1) (.bool nb) r (.bool false) (.slice none 0 0) (.bool false) (.slice none 0 0) 24
  rw [← hW] at X
  obtain ⟨x0, x1, x2, x3⟩ := X
  have HB : Below w.heap.size w W := by rw [hW]; exact bw_alloc (bw_alloc (bw_alloc (bw_alloc (Below.refl _ _) _) _) _) _
  have hr' := hr.below HB
  go_enter Try.func27, Try.ntmps27
  go_wp2_with fail
  rw [← hW]
  clear hW hr
  refine (magnitude_any _ _ r nb ys rfl hr').mono ?_
  rintro e w1 ⟨⟨s1, rfl, hc1⟩, hb1⟩
  have y1 := hc1 _ (hr'.below hb1)
  rw [htr] at y1
  obtain ⟨A1, d1, rfl, _, _⟩ := y1
  obtain ⟨k4, k5, f4, f5⟩ := x2.below hb1
  obtain ⟨k6, k7, f6, f7⟩ := x3.below hb1
  have HB := hid (bw_step HB hb1)
  clear hb1 hr' hc1 x0 x1 x2 x3 htr hy0 hz
  go_wp2
  refine bodyPost_ret (v := .tuple #[.agg #[.bool false, .slice none 0 0], .agg #[.bool false, .slice none 0 0], .bool false]) (by simp [results, Try.results27, go_sem, k4, k5, k6, k7]) rfl ⟨⟨_, _, rfl, IntV.zero _, IntV.zero _⟩, (((HB.out.setCell (by simp; omega) _).setCell (by simp; omega) _).setCell (by simp; omega) _).setCell (by simp; omega) _⟩
end Go.Proofs.Ytdbgalohppfkfaa
