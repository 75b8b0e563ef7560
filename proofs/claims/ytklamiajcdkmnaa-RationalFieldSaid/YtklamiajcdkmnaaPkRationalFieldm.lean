/- A part of the proof of the laws of rationals: Heavy. -/
import Derived.Test.YtklamiajcdkmnaaRows
import Derived.KernelRfl
import Derived.Test.YtklamiajcdkmnaaPaBe
namespace Go.Proofs.Ytklamiajcdkmnaa
theorem laidOut : laidOutB Try.prog = true := by kernel_rfl
theorem make_cut : Try.prog.make = some .cut := by kernel_rfl
end Go.Proofs.Ytklamiajcdkmnaa

