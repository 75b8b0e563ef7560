/- Walk: awake. -/
import Derived.Test.YtdbgalohppfkfaaFormat
import Derived.Test.YtdbgalohppfkfaaSqrt
import Derived.Test.YtdbgalohppfkfaaDivMod
import Derived.Test.YtdbgalohppfkfaaInt64
namespace Go.Proofs.Ytdbgalohppfkfaa
open Go.RowKit
set_option linter.unusedVariables false

theorem text_two : (⟨(text 2).toArray⟩ : ByteArray) = ⟨#[50]⟩ := by
  have h : text 2 = [50] := by
    unfold text
    rw [show (2 : Int).natAbs = 2 from rfl, digs_pos (by decide), show 2 / 10 = 0 from rfl, digs_zero]; rfl
  rw [h]
theorem text_four : (⟨(text 4).toArray⟩ : ByteArray) = ⟨#[52]⟩ := by
  have h : text 4 = [52] := by
    unfold text
    rw [show (4 : Int).natAbs = 4 from rfl, digs_pos (by decide), show 4 / 10 = 0 from rfl, digs_zero]; rfl
  rw [h]

set_option maxHeartbeats 1000000 in
theorem awake_any (w : World) :
    Calls Try.prog 20 #[] w fun e w' => e = .returned (.bool true) ∧ Below w.heap.size w w' := by
  go_enter Try.func20, Try.ntmps20
  go_wp2_with fail
  refine (small_any _ _ (by omega) (by omega)).mono ?_
  rintro e w1 ⟨⟨v1, rfl, hv1⟩, hb1⟩
  go_wp2_with fail
  refine (small_any _ _ (by omega) (by omega)).mono ?_
  rintro e w2 ⟨⟨v2, rfl, hv2⟩, hb2⟩
  have V1 := hid (hv1.below hb2)
  have V2 := hid hv2
  have HB := hid (bw_step hb1 hb2)
  clear hv1 hv2 hb1 hb2
  go_wp2_with fail
  refine (divMod_any _ _ _ _ _ 1 1 (V1.out.arg ⟨by decide, by decide⟩) (V2.out.arg ⟨by decide, by decide⟩) (by omega) (by decide)).mono ?_
  rintro e w3 ⟨⟨u1, u2, rfl, hu1, hu2⟩, hb3⟩
  rw [show (-7 : Int) / 3 = -3 from by decide] at hu1
  rw [show (-7 : Int) % 3 = 2 from by decide] at hu2
  obtain ⟨q1, A1, n1, c1, rfl⟩ := hu1.form
  obtain ⟨q2, A2, n2, c2, rfl⟩ := hu2.form
  have U1 := hid hu1
  have U2 := hid hu2
  have HB := hid (bw_step HB.out hb3)
  clear hu1 hu2 hb3 V1 V2
  obtain ⟨W, hW⟩ : ∃ W, W = (w3.alloc (.cells #[.bool q1, .slice A1 n1 c1] 24)).alloc (.cells #[.bool q2, .slice A2 n2 c2] 24) := ⟨_, rfl⟩
  have X := Bx.two w3 (.bool q1) (.slice A1 n1 c1) (.bool q2) (.slice A2 n2 c2) 24
  have hb := bw_two w3 (.cells #[.bool q1, .slice A1 n1 c1] 24) (.cells #[.bool q2, .slice A2 n2 c2] 24)
  rw [← hW] at X hb
  have HB := hid (bw_step HB.out hb)
  have U1 := hid (U1.out.below hb)
  have U2 := hid (U2.out.below hb)
  have X1 := hid X.1
  have X2 := hid X.2
  clear X hb
  obtain ⟨k0, k1, f0, f1⟩ := id X1.out
  go_wp2_with fail
  rw [← hW]
  clear hW
  refine (int64_any _ _ _ 1 (U1.out.arg ⟨by decide, by decide⟩)).mono ?_
  rintro e w4 ⟨he, hb⟩
  rw [show low64 (-3) = -3 from by decide, show fits (-3) = true from by decide] at he
  subst he
  have HB := hid (bw_step HB.out hb)
  have U2 := hid (U2.out.below hb)
  have X1 := hid (X1.out.below hb)
  have X2 := hid (X2.out.below hb)
  clear hb k0 k1 f0 f1
  go_wp2_with fail
  refine (small_any _ _ (by omega) (by omega)).mono ?_
  rintro e w5 ⟨⟨v5, rfl, hv5⟩, hb⟩
  have HB := hid (bw_step HB.out hb)
  have U2 := hid (U2.out.below hb)
  have X2 := hid (X2.out.below hb)
  have V5 := hid hv5
  clear hb hv5
  go_wp2_with fail
  refine (sqrt_any _ _ 24 1 (V5.out.arg ⟨by decide, by decide⟩) (by decide) (by decide)).mono ?_
  rintro e w6 ⟨⟨u6, r6, rfl, hu6, hr6⟩, hb⟩
  obtain rfl : r6 = 4 := hr6.uniq ⟨by decide, by decide, by decide⟩
  have HB := hid (bw_step HB.out hb)
  have U2 := hid (U2.out.below hb)
  have X2 := hid (X2.out.below hb)
  obtain ⟨q6, A6, n6, c6, rfl⟩ := hu6.form
  have U6 := hid hu6
  clear hb hu6 hr6 V5
  have X6 := Bx.new w6 (.bool q6) (.slice A6 n6 c6) 24
  have hb := bw_alloc (Below.refl _ w6) (.cells #[.bool q6, .slice A6 n6 c6] 24)
  have HB := hid (bw_step HB.out hb)
  have U2 := hid (U2.out.below hb)
  have U6 := hid (U6.out.below hb)
  have X2 := hid (X2.out.below hb)
  obtain ⟨k0, k1, f0, f1⟩ := id X2.out
  obtain ⟨k2, k3, f2, f3⟩ := id X6
  have X6 := hid X6
  clear hb
  go_wp2_with fail
  refine (format_any _ _ 2 1 (U2.out.arg ⟨by decide, by decide⟩) (by decide)).mono ?_
  rintro e w7 ⟨he, hb⟩
  rw [text_two] at he
  subst he
  have HB := hid (bw_step HB.out hb)
  have U6 := hid (U6.out.below hb)
  clear k0 k1 f0 f1 k2 k3 f2 f3
  obtain ⟨k2, k3, f2, f3⟩ := X6.out.below hb
  clear hb
  go_wp2_with fail
  refine (format_any _ _ 4 1 (U6.out.arg ⟨by decide, by decide⟩) (by decide)).mono ?_
  rintro e w8 ⟨he, hb⟩
  rw [text_four] at he
  subst he
  have HB := hid (bw_step HB.out hb)
  clear hb
  go_wp2
  go_ret
  exact ⟨rfl, HB.out⟩
end Go.Proofs.Ytdbgalohppfkfaa
