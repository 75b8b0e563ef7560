/- The reference: Divides. -/
import Derived.Test.YtdbgalohppfkfaaRDivZero
import Derived.Test.YtdbgalohppfkfaaRSign
namespace Go.Proofs.Ytdbgalohppfkfaa
open Go.RowKit
set_option linter.unusedVariables false
set_option maxRecDepth 100000

/-- Does a divide b? -/
def divB (a b : Int) : Bool := if a = 0 then decide (b = 0) else decide (b % a = 0)
theorem divB_eq (a b : Int) : divB a b = decide (a ∣ b) := by
  unfold divB
  by_cases h : a = 0
  · rw [if_pos h, h]
    simp
  · rw [if_neg h, decide_eq_decide]
    exact (Int.dvd_iff_emod_eq_zero ..).symm
theorem cm_zero_iff (a : Int) : (cm a 0 == 0) = decide (a = 0) := by
  by_cases h : a = 0
  · rw [h]; rfl
  · rw [decide_eq_false h, beq_eq_false_iff_ne]
    rcases cm_form a 0 with ⟨h, e⟩ | ⟨h, e⟩ | ⟨h, e⟩ <;> omega

set_option maxHeartbeats 4000000 in
theorem rdivides_any (w : World) (v u : Value) (a b : Int) (N : Nat) (hN : N ≤ 1000000) (ha : IntA w v a N) (hb : IntA w u b N) :
    Calls Try.prog 42 #[v, u] w fun e w' => e = .returned (.bool (divB a b)) ∧ Below w.heap.size w w' := by
  obtain ⟨na, As, sn, cs, rfl⟩ := ha.form
  obtain ⟨nb, Ar, rn, cr, rfl⟩ := hb.form
  have FA := hid ha
  have FB := hid hb
  clear ha hb
  have HB := hid (Below.refl w.heap.size w)
  obtain ⟨W, hW⟩ : ∃ W, W = ((w.alloc (.cells #[.bool na, .slice As sn cs] 24)).alloc (.cells #[.bool nb, .slice Ar rn cr] 24)) := ⟨_, rfl⟩
  have hbb : Below w.heap.size w W := by rw [hW]; exact (bw_alloc (bw_alloc (Below.refl _ _) _) _)
  have HB := hid (bw_step HB.out hbb)
  have FA := hid (FA.out.below hbb)
  have FB := hid (FB.out.below hbb)
  have P0 : Hid (Blk W (w.heap.size) 24 #[.bool na, .slice As sn cs]) := by
    rw [hW]
    have := (Blk.new w 24 #[.bool na, .slice As sn cs]).below (bw_alloc (Below.refl _ _) (.cells #[.bool nb, .slice Ar rn cr] 24))
    exact hid (by simpa only [World.size_alloc] using this)
  have P1 : Hid (Blk W (w.heap.size + 1) 24 #[.bool nb, .slice Ar rn cr]) := by
    rw [hW]
    have := Blk.new (w.alloc (.cells #[.bool na, .slice As sn cs] 24)) 24 #[.bool nb, .slice Ar rn cr]
    exact hid (by simpa only [World.size_alloc] using this)
  clear hbb
  have hca := cm_zero_iff a
  have hcb := cm_zero_iff b
  by_cases h0 : a = 0
  · rw [decide_eq_true h0] at hca
    have H0 := hid h0
    clear h0
    have E := hid (show divB a b = decide (b = 0) from if_pos H0.out)
    generalize decide (b = 0) = D at *
    obtain ⟨k1, l1, f1, g1⟩ := id P0.out.bx
    go_enter Try.func42, Try.ntmps42
    go_wp2_with fail
    rw [← hW]
    clear hW
    refine (rsign_any _ _ a N FA.out).mono ?_
    rintro e W2 ⟨rfl, hb2⟩
    clear k1 l1 f1 g1
    have HB := hid (bw_step HB.out hb2)
    have FA := hid (FA.out.below hb2)
    have FB := hid (FB.out.below hb2)
    have P0 := hid (P0.out.below hb2)
    have P1 := hid (P1.out.below hb2)
    clear hb2
    obtain ⟨k3, l3, f3, g3⟩ := id P1.out.bx
    go_wp2_with fail
    refine (rsign_any _ _ b N FB.out).mono ?_
    rintro e W4 ⟨rfl, hb4⟩
    clear k3 l3 f3 g3
    have HB := hid (bw_step HB.out hb4)
    have FA := hid (FA.out.below hb4)
    have FB := hid (FB.out.below hb4)
    have P0 := hid (P0.out.below hb4)
    have P1 := hid (P1.out.below hb4)
    clear hb4
    go_wp2
    go_ret
    exact ⟨by rw [E.out]; first | rfl | simp, HB.out⟩
  · rw [decide_eq_false h0] at hca
    clear hcb
    have hcr := cm_zero_iff (b % a)
    have H0 := hid h0
    clear h0
    have E := hid (show divB a b = decide (b % a = 0) from if_neg H0.out)
    generalize decide (b % a = 0) = D at *
    obtain ⟨k5, l5, f5, g5⟩ := id P0.out.bx
    go_enter Try.func42, Try.ntmps42
    go_wp2_with fail
    rw [← hW]
    clear hW
    refine (rsign_any _ _ a N FA.out).mono ?_
    rintro e W6 ⟨rfl, hb6⟩
    clear k5 l5 f5 g5
    have HB := hid (bw_step HB.out hb6)
    have FA := hid (FA.out.below hb6)
    have FB := hid (FB.out.below hb6)
    have P0 := hid (P0.out.below hb6)
    have P1 := hid (P1.out.below hb6)
    clear hb6
    obtain ⟨k7, l7, f7, g7⟩ := id P0.out.bx
    obtain ⟨k8, l8, f8, g8⟩ := id P1.out.bx
    go_wp2_with fail
    refine (rrem_any _ _ _ b a N hN FB.out FA.out H0.out).mono ?_
    rintro e W9 ⟨⟨v, rfl, hv⟩, hb9⟩
    clear k7 l7 f7 g7 k8 l8 f8 g8
    have HB := hid (bw_step HB.out hb9)
    have FA := hid (FA.out.below hb9)
    have FB := hid (FB.out.below hb9)
    have P0 := hid (P0.out.below hb9)
    have P1 := hid (P1.out.below hb9)
    clear hb9
    have R := hid hv
    clear hv
    go_wp2_with fail
    refine (rsign_any _ _ (b % a) N (R.out.arg (FA.out.sm.rem H0.out))).mono ?_
    rintro e W10 ⟨rfl, hb10⟩
    have HB := hid (bw_step HB.out hb10)
    have FA := hid (FA.out.below hb10)
    have FB := hid (FB.out.below hb10)
    have P0 := hid (P0.out.below hb10)
    have P1 := hid (P1.out.below hb10)
    have R := hid (R.out.below hb10)
    clear hb10
    go_wp2
    go_ret
    exact ⟨by rw [E.out]; first | rfl | simp, HB.out⟩
end Go.Proofs.Ytdbgalohppfkfaa
