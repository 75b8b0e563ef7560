/- The law IntegerFits: its walk. -/
import Derived.Test.YtdbgalohppfkfaaAwake
import Derived.Test.YtdbgalohppfkfaaRInt64
import Derived.Test.YtdbgalohppfkfaaArg
namespace Go.Proofs.Ytdbgalohppfkfaa
open Go.RowKit
set_option linter.unusedVariables false

theorem integerFits_walk (w : World) (v : Value) (ha : ArgI w v) :
    Calls Try.prog 6 #[v] w fun e w' => e = .returned (.bool true) ∧ Below w.heap.size w w' := by
  rcases ha.parts 40 (by decide) with ⟨neg, A, n, c, rfl, hn⟩ | ⟨neg, A, c, xs, rfl, hn, hs, hl⟩
  · have hb := bw_alloc (Below.refl _ w) (.cells #[.bool neg, .slice A n c] 24)
    have hd : decide ((40 : Int) < (n : Int)) = true := by rw [decide_eq_true_eq]; omega
    go_enter Try.func6, Try.ntmps6
    go_wp2_with fail
    refine (long_any _ neg A n c).mono ?_
    rintro e w1 ⟨he, hb1⟩
    rw [hd] at he
    subst he
    have HB := hid (bw_step hb hb1)
    clear hb hb1 hd
    go_wp2_with fail
    refine (awake_any _).mono ?_
    rintro e w2 ⟨rfl, hb2⟩
    have HB := hid (bw_step HB.out hb2)
    clear hb2
    go_wp2
    go_ret
    exact ⟨rfl, HB.out⟩
  · have hb := bw_alloc (Below.refl _ w) (.cells #[.bool neg, .slice A xs.length c] 24)
    have x0 := Bx.new w (.bool neg) (.slice A xs.length c) 24
    have V := hid (show IntA w (.agg #[.bool neg, .slice A xs.length c]) (sg neg (nv xs)) 40 from ⟨neg, _, xs, rfl, hs, hl, by omega, rfl⟩)
    have V := hid (V.out.below hb)
    generalize sg neg (nv xs) = z at *
    have hd : decide ((40 : Int) < (xs.length : Int)) = false := by rw [decide_eq_false_iff_not]; omega
    go_enter Try.func6, Try.ntmps6
    go_wp2_with fail
    refine (long_any _ neg A xs.length c).mono ?_
    rintro e w1 ⟨he, hb1⟩
    rw [hd] at he
    subst he
    have HB := hid (bw_step hb hb1)
    have V := hid (V.out.below hb1)
    have x0 := x0.below hb1
    obtain ⟨k0, k1, f0, f1⟩ := id x0
    clear hb hb1 hd hs hl
    go_wp2_with fail
    refine (int64_any _ _ z 40 V.out).mono ?_
    obtain ⟨p, hp⟩ : ∃ p, low64 z = p := ⟨_, rfl⟩
    obtain ⟨q, hq⟩ : ∃ q, fits z = q := ⟨_, rfl⟩
    have HP := hid hp
    have HQ := hid hq
    clear hp hq
    rintro e w2 ⟨he, hb2⟩
    rw [HP.out, HQ.out] at he
    subst he
    have HB := hid (bw_step HB.out hb2)
    have V := hid (V.out.below hb2)
    have x0 := x0.below hb2
    clear hb2 k0 k1 f0 f1
    obtain ⟨k0, k1, f0, f1⟩ := id x0
    go_wp2_with fail
    refine (rint64_any _ _ z 40 V.out).mono ?_
    rintro e w3 ⟨he, hb3⟩
    rw [HP.out, HQ.out] at he
    subst he
    have HB := hid (bw_step HB.out hb3)
    clear hb3 k0 k1 f0 f1 x0 V
    have e1 : (p == p) = true := by simp
    have e2 : (q == q) = true := by simp
    go_wp2_with fail
    refine (awake_any _).mono ?_
    rintro e w4 ⟨rfl, hb4⟩
    have HB := hid (bw_step HB.out hb4)
    clear hb4
    go_wp2
    go_ret
    exact ⟨rfl, HB.out⟩
end Go.Proofs.Ytdbgalohppfkfaa
