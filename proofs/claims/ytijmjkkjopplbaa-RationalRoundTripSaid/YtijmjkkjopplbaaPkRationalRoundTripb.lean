/- A part of the proof of the laws of rationals: RatRef1. -/
import Derived.Test.YtijmjkkjopplbaaPae
import Derived.Test.YtijmjkkjopplbaaPam
import Derived.Test.YtijmjkkjopplbaaPbh
import Derived.Test.YtijmjkkjopplbaaPal
import Derived.Test.YtijmjkkjopplbaaPab
import Derived.Test.YtijmjkkjopplbaaPad
import Derived.Test.YtijmjkkjopplbaaPbb
import Derived.Test.YtijmjkkjopplbaaPac
import Derived.Test.YtijmjkkjopplbaaPao
import Derived.Test.YtijmjkkjopplbaaPat
import Derived.Test.YtijmjkkjopplbaaPba
import Derived.Test.YtijmjkkjopplbaaPaa
import Derived.Test.YtijmjkkjopplbaaPai
import Derived.Test.YtijmjkkjopplbaaPas
import Derived.Test.YtijmjkkjopplbaaPbf
import Derived.Test.YtijmjkkjopplbaaPbe
import Derived.Test.YtijmjkkjopplbaaPbg
import Derived.Test.YtijmjkkjopplbaaPbd
import Derived.Test.YtijmjkkjopplbaaPbj
import Derived.Test.YtijmjkkjopplbaaPau
import Derived.Test.YtijmjkkjopplbaaPbi
import Derived.Test.YtijmjkkjopplbaaPar
import Derived.Test.YtijmjkkjopplbaaPaw
import Derived.Test.YtijmjkkjopplbaaPbk
import Derived.Test.YtijmjkkjopplbaaPap
import Derived.Test.YtijmjkkjopplbaaPav
import Derived.Test.YtijmjkkjopplbaaPan
import Derived.Test.YtijmjkkjopplbaaPbc
import Derived.Test.YtijmjkkjopplbaaPbl
import Derived.Test.YtijmjkkjopplbaaPak
namespace Go.Proofs.Ytijmjkkjopplbaa
open Go.RowKit
set_option linter.unusedVariables false
set_option maxRecDepth 100000

set_option maxHeartbeats 4000000 in
theorem rsameP_any (w : World) (va vb : Value) (p q : Int) (ha : Pair w va (.V p) (.V q)) (hb : Pair w vb (.V p) (.V q)) :
    Calls Try.prog 18 #[va, vb] w fun e w' => e = .returned (.bool true) ∧ Below w.heap.size w w' := by
  obtain ⟨sa1, Aa1, na1, ca1, sa2, Aa2, na2, ca2, rfl, h1, h2⟩ := ha.form
  have Fa1 : Hid (IntV w (.agg #[.bool sa1, .slice Aa1 na1 ca1]) p) := hid h1
  have Fa2 : Hid (IntV w (.agg #[.bool sa2, .slice Aa2 na2 ca2]) q) := hid h2
  clear h1 h2 ha
  obtain ⟨sb1, Ab1, nb1, cb1, sb2, Ab2, nb2, cb2, rfl, h1, h2⟩ := hb.form
  have Fb1 : Hid (IntV w (.agg #[.bool sb1, .slice Ab1 nb1 cb1]) p) := hid h1
  have Fb2 : Hid (IntV w (.agg #[.bool sb2, .slice Ab2 nb2 cb2]) q) := hid h2
  clear h1 h2 hb
  have HB := hid (Below.refl w.heap.size w)
  obtain ⟨W, hW⟩ : ∃ W, W = ((w.alloc (.cells #[.bool sa1, .slice Aa1 na1 ca1, .bool sa2, .slice Aa2 na2 ca2] 26)).alloc (.cells #[.bool sb1, .slice Ab1 nb1 cb1, .bool sb2, .slice Ab2 nb2 cb2] 26)) := ⟨_, rfl⟩
  have hbb : Below w.heap.size w W := by rw [hW]; exact (bw_alloc (bw_alloc (Below.refl _ _) _) _)
  have HB := hid (bw_step HB.out hbb)
  have Fa1 := hid (Fa1.out.below hbb)
  have Fa2 := hid (Fa2.out.below hbb)
  have Fb1 := hid (Fb1.out.below hbb)
  have Fb2 := hid (Fb2.out.below hbb)
  have Pa : Hid (Blk W (w.heap.size) 26 #[.bool sa1, .slice Aa1 na1 ca1, .bool sa2, .slice Aa2 na2 ca2]) := by
    rw [hW]
    have := (Blk.new w 26 #[.bool sa1, .slice Aa1 na1 ca1, .bool sa2, .slice Aa2 na2 ca2]).below (bw_alloc (Below.refl _ _) (.cells #[.bool sb1, .slice Ab1 nb1 cb1, .bool sb2, .slice Ab2 nb2 cb2] 26))
    exact hid (by simpa only [World.size_alloc] using this)
  have Pb : Hid (Blk W (w.heap.size + 1) 26 #[.bool sb1, .slice Ab1 nb1 cb1, .bool sb2, .slice Ab2 nb2 cb2]) := by
    rw [hW]
    have := Blk.new (w.alloc (.cells #[.bool sa1, .slice Aa1 na1 ca1, .bool sa2, .slice Aa2 na2 ca2] 26)) 26 #[.bool sb1, .slice Ab1 nb1 cb1, .bool sb2, .slice Ab2 nb2 cb2]
    exact hid (by simpa only [World.size_alloc] using this)
  clear hbb
  have ua0 := Pa.out.cell 0
  have ua1 := Pa.out.cell 1
  have ua2 := Pa.out.cell 2
  have ua3 := Pa.out.cell 3
  have ub0 := Pb.out.cell 0
  have ub1 := Pb.out.cell 1
  have ub2 := Pb.out.cell 2
  have ub3 := Pb.out.cell 3
  go_enter Try.func18, Try.ntmps18
  go_wp2_with fail
  rw [← hW]
  clear hW
  refine (rsame_any _ _ _ p p Fa1.out Fb1.out).mono ?_
  rintro e W1 ⟨he, hb1⟩
  rw [decide_eq_true rfl] at he
  subst he
  clear ua0 ua1 ua2 ua3 ub0 ub1 ub2 ub3
  have HB := hid (bw_step HB.out hb1)
  have Fa1 := hid (Fa1.out.below hb1)
  have Fa2 := hid (Fa2.out.below hb1)
  have Fb1 := hid (Fb1.out.below hb1)
  have Fb2 := hid (Fb2.out.below hb1)
  have Pa := hid (Pa.out.below hb1)
  have Pb := hid (Pb.out.below hb1)
  clear hb1
  have ua0 := Pa.out.cell 0
  have ua1 := Pa.out.cell 1
  have ua2 := Pa.out.cell 2
  have ua3 := Pa.out.cell 3
  have ub0 := Pb.out.cell 0
  have ub1 := Pb.out.cell 1
  have ub2 := Pb.out.cell 2
  have ub3 := Pb.out.cell 3
  go_wp2_with fail
  refine (rsame_any _ _ _ q q Fa2.out Fb2.out).mono ?_
  rintro e W2 ⟨he, hb2⟩
  rw [decide_eq_true rfl] at he
  subst he
  clear ua0 ua1 ua2 ua3 ub0 ub1 ub2 ub3
  have HB := hid (bw_step HB.out hb2)
  have Fa1 := hid (Fa1.out.below hb2)
  have Fa2 := hid (Fa2.out.below hb2)
  have Fb1 := hid (Fb1.out.below hb2)
  have Fb2 := hid (Fb2.out.below hb2)
  have Pa := hid (Pa.out.below hb2)
  have Pb := hid (Pb.out.below hb2)
  clear hb2
  go_wp2
  go_ret
  exact ⟨rfl, HB.out⟩
theorem rsameR_any (w : World) (va vb : Value) (x : Rat) (ha : RatV w va x) (hb : RatV w vb x) :
    Calls Try.prog 18 #[va, vb] w fun e w' => e = .returned (.bool true) ∧ Below w.heap.size w w' := rsameP_any w va vb _ _ ha hb
end Go.Proofs.Ytijmjkkjopplbaa

