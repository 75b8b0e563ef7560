/- The law IntegerSmall: its walk. -/
import Derived.Test.YtdbgalohppfkfaaAwake
import Derived.Test.YtdbgalohppfkfaaRSmall
import Derived.Test.YtdbgalohppfkfaaRSame
namespace Go.Proofs.Ytdbgalohppfkfaa
open Go.RowKit
set_option linter.unusedVariables false

set_option maxHeartbeats 1000000 in
theorem integerSmall_walk (w : World) (n : Int) (hn : -9223372036854775808 ≤ n ∧ n ≤ 9223372036854775807) :
    Calls Try.prog 5 #[.int .i64 n] w fun e w' => e = .returned (.bool true) ∧ Below w.heap.size w w' := by
  obtain ⟨h0, h1⟩ := hn
  have h1 : n < 9223372036854775808 := by omega
  have hlow : low64 n = n := by unfold low64 fits; rw [if_pos (by simp; omega)]
  have hfit : fits n = true := by unfold fits; simp; omega
  have HLOW := hid hlow
  have HFIT := hid hfit
  clear hlow hfit
  go_enter Try.func5, Try.ntmps5
  go_wp2_with fail
  refine (small_any _ n h0 h1).mono ?_
  rintro e w1 ⟨⟨v1, rfl, hv1⟩, hb1⟩
  obtain ⟨q1, A1, n1, c1, rfl⟩ := hv1.form
  have hb := bw_alloc (Below.refl _ w1) (.cells #[.bool q1, .slice A1 n1 c1] 24)
  have x0 := Bx.new w1 (.bool q1) (.slice A1 n1 c1) 24
  have V1 := hid (hv1.below hb)
  have HB := hid (bw_step hb1 hb)
  clear hb hb1 hv1
  go_wp2_with fail
  refine (int64_any _ _ n 2 (V1.out.arg ⟨by rw [show bp 2 = 18446744073709551616 from by decide]; omega, by rw [show bp 2 = 18446744073709551616 from by decide]; omega⟩)).mono ?_
  rintro e w2 ⟨he, hb⟩
  rw [HLOW.out, HFIT.out] at he
  subst he
  have V1 := hid (V1.out.below hb)
  have HB := hid (bw_step HB.out hb)
  have x0 := x0.below hb
  obtain ⟨k0, k1, f0, f1⟩ := id x0
  clear hb
  go_wp2_with fail
  go_region_held3 (fun w' => w'.cell? ⟨w1.heap.size, 0, none⟩ = some (.bool q1) ∧ w'.cell? ⟨w1.heap.size, 1, none⟩ = some (.slice A1 n1 c1) ∧ Hid (Below w2.heap.size w2 w'))
    (first
      | exact ⟨k0, k1, bw_drew w2⟩
      | (go_split_ands; have hh := bw_keep (by assumption) (by assumption); exact ⟨cell_below hh k0, cell_below hh k1, hh⟩)
      | (go_split_ands; exact ⟨by assumption, by assumption, below_drewN (Hid.out (by assumption)) _⟩))
    (first
      | (go_at_call 25; (with_reducible refine (rsmall_any _ n h0 h1).mono ?_); rintro e w3 ⟨⟨v3, rfl, hv3⟩, hb3⟩)
      | (go_at_call 23; (with_reducible refine (rsame_any _ _ _ n n ?g1 ?g2).mono ?_); (case g1 => (go_split_ands; exact V1.out.below (Hid.out (by assumption)))); (case g2 => exact hv3); rintro e w4 ⟨he, hb4⟩; rw [decide_eq_true rfl] at he; subst he)
      | (go_at_call 20; (with_reducible refine (awake_any _).mono ?_); rintro e w5 ⟨rfl, hb5⟩))
  rename_i hH
  have HB := hid (bw_step HB.out hH.2.2.out)
  clear hH
  go_wp2
  go_ret
  exact ⟨rfl, HB.out⟩
end Go.Proofs.Ytdbgalohppfkfaa
