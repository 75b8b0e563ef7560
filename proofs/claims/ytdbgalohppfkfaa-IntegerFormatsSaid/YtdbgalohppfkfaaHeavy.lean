/- The closed facts of the program that all rows of this seat share. -/
import Derived.Test.YtdbgalohppfkfaaRows
import Derived.KernelRfl
namespace Go.Proofs.Ytdbgalohppfkfaa
theorem own : ownKnob Try.prog.godebug = none := by kernel_rfl
theorem laidOut : laidOutB Try.prog = true := by kernel_rfl
theorem mayEnter : Try.prog.mayEnter = true := by kernel_rfl
theorem liftsFinal : Try.prog.liftsFinal = false := by kernel_rfl
theorem make_cut : Try.prog.make = some .cut := by kernel_rfl
end Go.Proofs.Ytdbgalohppfkfaa
