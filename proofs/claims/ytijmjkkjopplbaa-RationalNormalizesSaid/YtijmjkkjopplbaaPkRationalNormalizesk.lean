/- A part of the proof of the laws of rationals: Heavy. -/
import Derived.Test.YtijmjkkjopplbaaRows
import Derived.KernelRfl
import Derived.Test.YtijmjkkjopplbaaPaBe
namespace Go.Proofs.Ytijmjkkjopplbaa
theorem laidOut : laidOutB Try.prog = true := by kernel_rfl
theorem make_cut : Try.prog.make = some .cut := by kernel_rfl
end Go.Proofs.Ytijmjkkjopplbaa

