/- The law IntegerParses: its walk. -/
import Derived.Test.YtnjekacagffelaaAwake
import Derived.Test.YtnjekacagffelaaRParse
import Derived.Test.YtnjekacagffelaaRSame
namespace Go.Proofs.Ytnjekacagffelaa
open Go.RowKit
set_option linter.unusedVariables false
set_option maxRecDepth 100000

theorem parse_code (s : ByteArray) : ∃ c z : Int, ∀ e w', ParseOk s e w' → ∃ v, e = .returned (.tuple #[v, .int .i64 c]) ∧ IntV w' v z := by
  by_cases hn : Num s
  · by_cases hl : 2000 < (dsB s).size
    · refine ⟨7, 0, fun e w' h => ?_⟩
      rcases h with ⟨h, _⟩ | ⟨_, _, rfl⟩ | ⟨_, h, _⟩
      · exact absurd hn h
      · exact ⟨_, rfl, IntV.zero _⟩
      · omega
    · refine ⟨0, sg (ngB s) (dv (dsB s) (dsB s).size), fun e w' h => ?_⟩
      rcases h with ⟨h, _⟩ | ⟨_, h, rfl⟩ | ⟨_, _, v, rfl, hv⟩
      · exact absurd hn h
      · exact absurd h hl
      · exact ⟨v, rfl, hv⟩
  · refine ⟨2, 0, fun e w' h => ?_⟩
    rcases h with ⟨_, rfl⟩ | ⟨h, _⟩ | ⟨h, _⟩
    · exact ⟨_, rfl, IntV.zero _⟩
    · exact absurd h hn
    · exact absurd h hn

theorem parses_far (w : World) (s : ByteArray) (hl : 200 < s.size) : Calls Try.prog 8 #[.string s] w fun e w' => e = .returned (.bool true) ∧ Below w.heap.size w w' := by
  have hd0 : decide ((200 : Int) < (s.size : Int)) = true := by rw [decide_eq_true_eq]; omega
  have HB := hid (Below.refl w.heap.size w)
  go_enter Try.func8, Try.ntmps8
  go_wp2_with fail
  refine (awake_any _).mono ?_
  rintro e W1 ⟨rfl, hb1⟩
  have HB := hid (bw_step HB.out hb1)
  clear hb1
  go_wp2
  go_ret
  exact ⟨rfl, HB.out⟩
set_option maxHeartbeats 8000000 in
theorem parses_near (w : World) (s : ByteArray) (hs : s.size ≤ 9223372036854775807) (hl : ¬ 200 < s.size) (c z : Int) (HC : Hid (∀ e w', ParseOk s e w' → ∃ v, e = .returned (.tuple #[v, .int .i64 c]) ∧ IntV w' v z)) :
    Calls Try.prog 8 #[.string s] w fun e w' => e = .returned (.bool true) ∧ Below w.heap.size w w' := by
  have hd0 : decide ((200 : Int) < (s.size : Int)) = false := by rw [decide_eq_false_iff_not]; omega
  have HB := hid (Below.refl w.heap.size w)
  go_enter Try.func8, Try.ntmps8
  go_wp2_with fail
  refine (parse_any _ s hs).mono ?_
  rintro e W1 ⟨hp, hb1⟩
  obtain ⟨v, rfl, hv⟩ := HC.out _ _ hp
  clear hp
  have HB := hid (bw_step HB.out hb1)
  clear hb1
  obtain ⟨q11, A11, n11, c11, rfl⟩ := hv.form
  have x := hid hv
  clear hv
  have hbb := bw_alloc (Below.refl _ W1) (.cells #[.bool q11, .slice A11 n11 c11] 24)
  have Xx := Blk.new W1 24 #[.bool q11, .slice A11 n11 c11]
  have HB := hid (bw_step HB.out hbb)
  have x := hid (x.out.below hbb)
  have Xx := hid Xx
  clear hbb
  go_wp2_with fail
  refine (rparse_any _ s hs).mono ?_
  rintro e W2 ⟨hp, hb2⟩
  obtain ⟨v, rfl, hv⟩ := HC.out _ _ hp
  clear hp
  have HB := hid (bw_step HB.out hb2)
  have x := hid (x.out.below hb2)
  have Xx := hid (Xx.out.below hb2)
  clear hb2
  obtain ⟨q21, A21, n21, c21, rfl⟩ := hv.form
  have y := hid hv
  clear hv
  have hbb := bw_alloc (Below.refl _ W2) (.cells #[.bool q21, .slice A21 n21 c21] 24)
  have Xy := Blk.new W2 24 #[.bool q21, .slice A21 n21 c21]
  have HB := hid (bw_step HB.out hbb)
  have x := hid (x.out.below hbb)
  have Xx := hid (Xx.out.below hbb)
  have y := hid (y.out.below hbb)
  have Xy := hid Xy
  clear hbb
  obtain ⟨k3, l3, f3, g3⟩ := id Xx.out.bx
  obtain ⟨k4, l4, f4, g4⟩ := id Xy.out.bx
  go_wp2_with fail
  refine (rsame_any _ _ _ z z x.out y.out).mono ?_
  rintro e W5 ⟨he, hb5⟩
  rw [decide_eq_true rfl] at he
  subst he
  clear k3 l3 f3 g3 k4 l4 f4 g4
  have HB := hid (bw_step HB.out hb5)
  have x := hid (x.out.below hb5)
  have Xx := hid (Xx.out.below hb5)
  have y := hid (y.out.below hb5)
  have Xy := hid (Xy.out.below hb5)
  clear hb5
  have hcc : (c == c) = true := beq_self_eq_true c
  go_wp2_with fail
  refine (awake_any _).mono ?_
  rintro e W6 ⟨rfl, hb6⟩
  have HB := hid (bw_step HB.out hb6)
  have x := hid (x.out.below hb6)
  have Xx := hid (Xx.out.below hb6)
  have y := hid (y.out.below hb6)
  have Xy := hid (Xy.out.below hb6)
  clear hb6
  go_wp2
  go_ret
  exact ⟨rfl, HB.out⟩
theorem integerParses_walk (w : World) (s : ByteArray) (hs : s.size ≤ 9223372036854775807) :
    Calls Try.prog 8 #[.string s] w fun e w' => e = .returned (.bool true) ∧ Below w.heap.size w w' := by
  by_cases hl : 200 < s.size
  · exact parses_far w s hl
  · obtain ⟨c, z, h⟩ := parse_code s
    exact parses_near w s hs hl c z h
end Go.Proofs.Ytnjekacagffelaa
