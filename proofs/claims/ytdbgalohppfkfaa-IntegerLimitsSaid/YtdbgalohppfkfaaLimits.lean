/- The law IntegerLimits: its walk. -/
import Derived.Test.YtdbgalohppfkfaaSub
namespace Go.Proofs.Ytdbgalohppfkfaa
open Go.RowKit

set_option maxHeartbeats 1000000 in
theorem integerLimits_walk (w : World) :
    Calls Try.prog 3 #[] w fun e w' => e = .returned (.bool true) ∧ Below w.heap.size w w' := by
  go_enter Try.func3, Try.ntmps3
  go_wp2_with fail
  refine (small_any _ _ (by omega) (by omega)).mono ?_
  rintro e w1 ⟨⟨v1, rfl, hv1⟩, hb1⟩
  go_wp2_with fail
  refine (small_any _ _ (by omega) (by omega)).mono ?_
  rintro e w2 ⟨⟨v2, rfl, hv2⟩, hb2⟩
  have hv1' := hv1.below hb2
  obtain ⟨q1, A1, n1, c1, rfl⟩ := hv1.form
  obtain ⟨q2, A2, n2, c2, rfl⟩ := hv2.form
  have HB := hid (bw_step hb1 hb2)
  have V1 := hid hv1'
  have V2 := hid hv2
  clear hv1 hv1' hv2 hb1 hb2
  go_wp2_with fail
  obtain ⟨W, hW⟩ : ∃ W, W = (w2.alloc (.cells #[.bool q1, .slice A1 n1 c1] 24)).alloc (.cells #[.bool q2, .slice A2 n2 c2] 24) := ⟨_, rfl⟩
  have X := Bx.two w2 (.bool q1) (.slice A1 n1 c1) (.bool q2) (.slice A2 n2 c2) 24
  have hb := bw_two w2 (.cells #[.bool q1, .slice A1 n1 c1] 24) (.cells #[.bool q2, .slice A2 n2 c2] 24)
  rw [← hW] at X hb
  rw [← hW]
  clear hW
  have HB := hid (bw_step HB.out hb)
  have V1 := hid (V1.out.below hb)
  have V2 := hid (V2.out.below hb)
  have X1 := hid X.1
  have X2 := hid X.2
  clear X hb
  refine (small_any _ _ (by omega) (by omega)).mono ?_
  rintro e w3 ⟨⟨v3, rfl, hv3⟩, hb3⟩
  obtain ⟨q3, A3, n3, c3, rfl⟩ := hv3.form
  have HB := hid (bw_step HB.out hb3)
  have V1 := hid (V1.out.below hb3)
  have V2 := hid (V2.out.below hb3)
  have V3 := hid hv3
  have X1 := hid (X1.out.below hb3)
  have X2 := hid (X2.out.below hb3)
  clear hv3 hb3
  have hb := bw_alloc (Below.refl _ w3) (.cells #[.bool q3, .slice A3 n3 c3] 24)
  have x3 := Bx.new w3 (.bool q3) (.slice A3 n3 c3) 24
  have HB := hid (bw_step HB.out hb)
  have V1 := hid (V1.out.below hb)
  have V2 := hid (V2.out.below hb)
  have V3 := hid (V3.out.below hb)
  have x1 := X1.out.below hb
  have x2 := X2.out.below hb
  clear X1 X2 hb
  obtain ⟨k0, k1, f0, f1⟩ := id x1
  obtain ⟨k2, k3, f2, f3⟩ := id x2
  obtain ⟨k4, k5, f4, f5⟩ := id x3
  go_wp2_with fail
  refine (int64_any _ _ _ 2 (V1.out.arg ⟨by decide, by decide⟩)).mono ?_
  rintro e w4 ⟨he, hb⟩
  rw [show low64 9223372036854775807 = 9223372036854775807 from by decide, show fits 9223372036854775807 = true from by decide] at he
  subst he
  have HB := hid (bw_step HB.out hb)
  have V1 := hid (V1.out.below hb)
  have V2 := hid (V2.out.below hb)
  have V3 := hid (V3.out.below hb)
  have x1 := x1.below hb
  have x2 := x2.below hb
  have x3 := x3.below hb
  clear k0 k1 k2 k3 k4 k5 f0 f1 f2 f3 f4 f5 hb
  obtain ⟨k0, k1, f0, f1⟩ := id x1
  obtain ⟨k2, k3, f2, f3⟩ := id x2
  obtain ⟨k4, k5, f4, f5⟩ := id x3
  go_wp2_with fail
  refine (int64_any _ _ _ 2 (V3.out.arg ⟨by decide, by decide⟩)).mono ?_
  rintro e w5 ⟨he, hb⟩
  rw [show low64 (-9223372036854775808) = -9223372036854775808 from by decide, show fits (-9223372036854775808) = true from by decide] at he
  subst he
  have HB := hid (bw_step HB.out hb)
  have V1 := hid (V1.out.below hb)
  have V2 := hid (V2.out.below hb)
  have V3 := hid (V3.out.below hb)
  have x1 := x1.below hb
  have x2 := x2.below hb
  have x3 := x3.below hb
  clear k0 k1 k2 k3 k4 k5 f0 f1 f2 f3 f4 f5 hb
  obtain ⟨k0, k1, f0, f1⟩ := id x1
  obtain ⟨k2, k3, f2, f3⟩ := id x2
  obtain ⟨k4, k5, f4, f5⟩ := id x3
  go_wp2_with fail
  refine (add_any _ _ _ _ _ 2 2 (V1.out.arg ⟨by decide, by decide⟩) (V2.out.arg ⟨by decide, by decide⟩) (by omega) (by omega)).mono ?_
  rintro e w6 ⟨⟨v6, rfl, hv6⟩, hb⟩
  have V6 := hid hv6
  clear hv6
  have HB := hid (bw_step HB.out hb)
  have V1 := hid (V1.out.below hb)
  have V2 := hid (V2.out.below hb)
  have V3 := hid (V3.out.below hb)
  have x1 := x1.below hb
  have x2 := x2.below hb
  have x3 := x3.below hb
  clear k0 k1 k2 k3 k4 k5 f0 f1 f2 f3 f4 f5 hb
  obtain ⟨k0, k1, f0, f1⟩ := id x1
  obtain ⟨k2, k3, f2, f3⟩ := id x2
  obtain ⟨k4, k5, f4, f5⟩ := id x3
  go_wp2_with fail
  refine (int64_any _ _ _ 3 (V6.out.arg ⟨by decide, by decide⟩)).mono ?_
  rintro e w7 ⟨he, hb⟩
  rw [show low64 (9223372036854775807 + 1) = 0 from by decide, show fits (9223372036854775807 + 1) = false from by decide] at he
  subst he
  clear V6
  have HB := hid (bw_step HB.out hb)
  have V1 := hid (V1.out.below hb)
  have V2 := hid (V2.out.below hb)
  have V3 := hid (V3.out.below hb)
  have x1 := x1.below hb
  have x2 := x2.below hb
  have x3 := x3.below hb
  clear k0 k1 k2 k3 k4 k5 f0 f1 f2 f3 f4 f5 hb
  obtain ⟨k0, k1, f0, f1⟩ := id x1
  obtain ⟨k2, k3, f2, f3⟩ := id x2
  obtain ⟨k4, k5, f4, f5⟩ := id x3
  go_wp2_with fail
  refine (sub_any _ _ _ _ _ 2 2 (V3.out.arg ⟨by decide, by decide⟩) (V2.out.arg ⟨by decide, by decide⟩) (by omega) (by omega)).mono ?_
  rintro e w8 ⟨⟨v8, rfl, hv8⟩, hb⟩
  have V8 := hid hv8
  clear hv8
  have HB := hid (bw_step HB.out hb)
  have V1 := hid (V1.out.below hb)
  have V2 := hid (V2.out.below hb)
  have V3 := hid (V3.out.below hb)
  have x1 := x1.below hb
  have x2 := x2.below hb
  have x3 := x3.below hb
  clear k0 k1 k2 k3 k4 k5 f0 f1 f2 f3 f4 f5 hb
  obtain ⟨k0, k1, f0, f1⟩ := id x1
  obtain ⟨k2, k3, f2, f3⟩ := id x2
  obtain ⟨k4, k5, f4, f5⟩ := id x3
  go_wp2_with fail
  refine (int64_any _ _ _ 3 (V8.out.arg ⟨by decide, by decide⟩)).mono ?_
  rintro e w9 ⟨he, hb⟩
  rw [show low64 (-9223372036854775808 - 1) = 0 from by decide, show fits (-9223372036854775808 - 1) = false from by decide] at he
  subst he
  clear V8
  have HB := hid (bw_step HB.out hb)
  have V1 := hid (V1.out.below hb)
  have V2 := hid (V2.out.below hb)
  have V3 := hid (V3.out.below hb)
  have x1 := x1.below hb
  have x2 := x2.below hb
  have x3 := x3.below hb
  clear k0 k1 k2 k3 k4 k5 f0 f1 f2 f3 f4 f5 hb
  go_wp2
  go_ret
  exact ⟨rfl, HB.out⟩
end Go.Proofs.Ytdbgalohppfkfaa
