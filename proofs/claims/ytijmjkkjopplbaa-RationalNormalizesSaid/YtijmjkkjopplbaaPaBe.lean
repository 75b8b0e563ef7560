/- A part of the proof of the laws of rationals: Heavy. -/
import Derived.Test.YtijmjkkjopplbaaRows
import Derived.KernelRfl
namespace Go.Proofs.Ytijmjkkjopplbaa
theorem own : ownKnob Try.prog.godebug = none := by kernel_rfl
theorem mayEnter : Try.prog.mayEnter = true := by kernel_rfl
theorem liftsFinal : Try.prog.liftsFinal = false := by kernel_rfl
end Go.Proofs.Ytijmjkkjopplbaa

