/- The law IntegerRoots: its walk. -/
import Derived.Test.YtdbgalohppfkfaaAwake
import Derived.Test.YtdbgalohppfkfaaRSqrt
import Derived.Test.YtdbgalohppfkfaaRSame
import Derived.Test.YtdbgalohppfkfaaArg
namespace Go.Proofs.Ytdbgalohppfkfaa
open Go.RowKit
set_option linter.unusedVariables false
set_option maxRecDepth 100000

theorem integerRoots_long0 (w : World) (sa : Bool) (Aa : Option Addr) (na ca : Nat)  (ha : 12 < na) :
    Calls Try.prog 9 #[.agg #[.bool sa, .slice Aa na ca]] w fun e w' => e = .returned (.bool true) ∧ Below w.heap.size w w' := by
  have hda : decide ((12 : Int) < (na : Int)) = true := by rw [decide_eq_true_eq]; omega
  have HB := hid (Below.refl w.heap.size w)
  obtain ⟨W, hW⟩ : ∃ W, W = (w.alloc (.cells #[.bool sa, .slice Aa na ca] 24)) := ⟨_, rfl⟩
  have hbb : Below w.heap.size w W := by rw [hW]; exact (bw_alloc (Below.refl _ _) _)
  have HB := hid (bw_step HB.out hbb)
  have Pa : Hid (Blk W (w.heap.size) 24 #[.bool sa, .slice Aa na ca]) := by
    rw [hW]
    have := Blk.new w 24 #[.bool sa, .slice Aa na ca]
    exact hid (by simpa only [World.size_alloc] using this)
  clear hbb
  obtain ⟨k1, l1, f1, g1⟩ := id Pa.out.bx
  go_enter Try.func9, Try.ntmps9
  go_wp2_with fail
  rw [← hW]
  clear hW
  refine (awake_any _).mono ?_
  rintro e W2 ⟨rfl, hb2⟩
  clear k1 l1 f1 g1
  have HB := hid (bw_step HB.out hb2)
  have Pa := hid (Pa.out.below hb2)
  clear hb2
  go_wp2
  go_ret
  exact ⟨rfl, HB.out⟩
set_option maxHeartbeats 8000000 in
theorem integerRoots_short (w : World) (sa : Bool) (Aa : Option Addr) (na ca : Nat) (ha : na ≤ 12) (za : Int) (fa : IntA w (.agg #[.bool sa, .slice Aa na ca]) za 12) :
    Calls Try.prog 9 #[.agg #[.bool sa, .slice Aa na ca]] w fun e w' => e = .returned (.bool true) ∧ Below w.heap.size w w' := by
  have hda : decide ((12 : Int) < (na : Int)) = false := by rw [decide_eq_false_iff_not]; omega
  have Fa := hid fa
  clear fa
  have HB := hid (Below.refl w.heap.size w)
  obtain ⟨W, hW⟩ : ∃ W, W = (w.alloc (.cells #[.bool sa, .slice Aa na ca] 24)) := ⟨_, rfl⟩
  have hbb : Below w.heap.size w W := by rw [hW]; exact (bw_alloc (Below.refl _ _) _)
  have HB := hid (bw_step HB.out hbb)
  have Fa := hid (Fa.out.below hbb)
  have Pa : Hid (Blk W (w.heap.size) 24 #[.bool sa, .slice Aa na ca]) := by
    rw [hW]
    have := Blk.new w 24 #[.bool sa, .slice Aa na ca]
    exact hid (by simpa only [World.size_alloc] using this)
  clear hbb
  obtain ⟨k1, l1, f1, g1⟩ := id Pa.out.bx
  by_cases hn : za < 0
  · have HN := hid hn
    clear hn
    go_enter Try.func9, Try.ntmps9
    go_wp2_with fail
    rw [← hW]
    clear hW
    refine (sqrt_neg _ _ za 12 Fa.out HN.out).mono ?_
    rintro e W2 ⟨rfl, hb2⟩
    clear k1 l1 f1 g1
    have HB := hid (bw_step HB.out hb2)
    have Fa := hid (Fa.out.below hb2)
    have Pa := hid (Pa.out.below hb2)
    clear hb2
    obtain ⟨v1, hv1, hV1⟩ : ∃ v, v = Value.agg #[.bool false, .slice none 0 0] ∧ IntV W2 v 0 := ⟨_, rfl, IntV.zero _⟩
    clear hv1 hV1 v1
    have U := hid (IntV.zero W2)
    have hbb := bw_alloc (Below.refl _ W2) (.cells #[.bool false, .slice none 0 0] 24)
    have XU := Blk.new W2 24 #[.bool false, .slice none 0 0]
    have HB := hid (bw_step HB.out hbb)
    have Fa := hid (Fa.out.below hbb)
    have Pa := hid (Pa.out.below hbb)
    have U := hid (U.out.below hbb)
    have XU := hid XU
    clear hbb
    obtain ⟨k3, l3, f3, g3⟩ := id Pa.out.bx
    go_wp2_with fail
    refine (rsqrt_neg _ _ za 12 Fa.out HN.out).mono ?_
    rintro e W4 ⟨rfl, hb4⟩
    clear k3 l3 f3 g3
    have HB := hid (bw_step HB.out hb4)
    have Fa := hid (Fa.out.below hb4)
    have Pa := hid (Pa.out.below hb4)
    have U := hid (U.out.below hb4)
    have XU := hid (XU.out.below hb4)
    clear hb4
    have S := hid (IntV.zero W4)
    have hbb := bw_alloc (Below.refl _ W4) (.cells #[.bool false, .slice none 0 0] 24)
    have XS := Blk.new W4 24 #[.bool false, .slice none 0 0]
    have HB := hid (bw_step HB.out hbb)
    have Fa := hid (Fa.out.below hbb)
    have Pa := hid (Pa.out.below hbb)
    have U := hid (U.out.below hbb)
    have XU := hid (XU.out.below hbb)
    have S := hid (S.out.below hbb)
    have XS := hid XS
    clear hbb
    obtain ⟨k5, l5, f5, g5⟩ := id XU.out.bx
    obtain ⟨k6, l6, f6, g6⟩ := id XS.out.bx
    go_wp2_with fail
    refine (rsame_any _ _ _ 0 0 U.out S.out).mono ?_
    rintro e W7 ⟨he, hb7⟩
    rw [decide_eq_true rfl] at he
    subst he
    clear k5 l5 f5 g5 k6 l6 f6 g6
    have HB := hid (bw_step HB.out hb7)
    have Fa := hid (Fa.out.below hb7)
    have Pa := hid (Pa.out.below hb7)
    have U := hid (U.out.below hb7)
    have XU := hid (XU.out.below hb7)
    have S := hid (S.out.below hb7)
    have XS := hid (XS.out.below hb7)
    clear hb7
    go_wp2_with fail
    refine (awake_any _).mono ?_
    rintro e W8 ⟨rfl, hb8⟩
    have HB := hid (bw_step HB.out hb8)
    have Fa := hid (Fa.out.below hb8)
    have Pa := hid (Pa.out.below hb8)
    have U := hid (U.out.below hb8)
    have XU := hid (XU.out.below hb8)
    have S := hid (S.out.below hb8)
    have XS := hid (XS.out.below hb8)
    clear hb8
    go_wp2
    go_ret
    exact ⟨rfl, HB.out⟩
  · have HN := hid (show 0 ≤ za by omega)
    clear hn
    go_enter Try.func9, Try.ntmps9
    go_wp2_with fail
    rw [← hW]
    clear hW
    refine (sqrt_any _ _ za 12 Fa.out HN.out (by decide)).mono ?_
    rintro e W9 ⟨⟨u, r, rfl, hu, hr⟩, hb9⟩
    clear k1 l1 f1 g1
    have HB := hid (bw_step HB.out hb9)
    have Fa := hid (Fa.out.below hb9)
    have Pa := hid (Pa.out.below hb9)
    clear hb9
    obtain ⟨rU, rfl⟩ : ∃ x, x = r := ⟨_, rfl⟩
    obtain ⟨q91, A91, n91, c91, rfl⟩ := hu.form
    have U := hid hu
    have RU := hid hr
    clear hu hr
    have hbb := bw_alloc (Below.refl _ W9) (.cells #[.bool q91, .slice A91 n91 c91] 24)
    have XU := Blk.new W9 24 #[.bool q91, .slice A91 n91 c91]
    have HB := hid (bw_step HB.out hbb)
    have Fa := hid (Fa.out.below hbb)
    have Pa := hid (Pa.out.below hbb)
    have U := hid (U.out.below hbb)
    have XU := hid XU
    clear hbb
    obtain ⟨k10, l10, f10, g10⟩ := id Pa.out.bx
    go_wp2_with fail
    refine (rsqrt_any _ _ za 12 (by decide) Fa.out HN.out).mono ?_
    rintro e W11 ⟨⟨u, r, rfl, hu, hr⟩, hb11⟩
    clear k10 l10 f10 g10
    have HB := hid (bw_step HB.out hb11)
    have Fa := hid (Fa.out.below hb11)
    have Pa := hid (Pa.out.below hb11)
    have U := hid (U.out.below hb11)
    have XU := hid (XU.out.below hb11)
    clear hb11
    obtain rfl := hr.uniq RU.out
    obtain ⟨q111, A111, n111, c111, rfl⟩ := hu.form
    have S := hid hu
    have RS := hid hr
    clear hu hr
    have hbb := bw_alloc (Below.refl _ W11) (.cells #[.bool q111, .slice A111 n111 c111] 24)
    have XS := Blk.new W11 24 #[.bool q111, .slice A111 n111 c111]
    have HB := hid (bw_step HB.out hbb)
    have Fa := hid (Fa.out.below hbb)
    have Pa := hid (Pa.out.below hbb)
    have U := hid (U.out.below hbb)
    have XU := hid (XU.out.below hbb)
    have S := hid (S.out.below hbb)
    have XS := hid XS
    clear hbb
    obtain ⟨k12, l12, f12, g12⟩ := id XU.out.bx
    obtain ⟨k13, l13, f13, g13⟩ := id XS.out.bx
    go_wp2_with fail
    refine (rsame_any _ _ _ r r U.out S.out).mono ?_
    rintro e W14 ⟨he, hb14⟩
    rw [decide_eq_true rfl] at he
    subst he
    clear k12 l12 f12 g12 k13 l13 f13 g13
    have HB := hid (bw_step HB.out hb14)
    have Fa := hid (Fa.out.below hb14)
    have Pa := hid (Pa.out.below hb14)
    have U := hid (U.out.below hb14)
    have XU := hid (XU.out.below hb14)
    have S := hid (S.out.below hb14)
    have XS := hid (XS.out.below hb14)
    clear hb14
    go_wp2_with fail
    refine (awake_any _).mono ?_
    rintro e W15 ⟨rfl, hb15⟩
    have HB := hid (bw_step HB.out hb15)
    have Fa := hid (Fa.out.below hb15)
    have Pa := hid (Pa.out.below hb15)
    have U := hid (U.out.below hb15)
    have XU := hid (XU.out.below hb15)
    have S := hid (S.out.below hb15)
    have XS := hid (XS.out.below hb15)
    clear hb15
    go_wp2
    go_ret
    exact ⟨rfl, HB.out⟩
theorem integerRoots_walk (w : World) (va : Value) (ha : ArgI w va) :
    Calls Try.prog 9 #[va] w fun e w' => e = .returned (.bool true) ∧ Below w.heap.size w w' := by
  obtain ⟨sa, Aa, na, ca, rfl, _, _⟩ := id ha
  rcases ha.short 12 (by decide) with ka | ⟨ka, za, fa⟩
  · exact integerRoots_long0 w sa Aa na ca ka
  exact integerRoots_short w sa Aa na ca ka za fa
end Go.Proofs.Ytdbgalohppfkfaa
