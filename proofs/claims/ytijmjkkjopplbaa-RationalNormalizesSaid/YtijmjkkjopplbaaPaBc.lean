/- A part of the proof of the laws of rationals: ArgI. -/
import Derived.KernelRfl
import Derived.Carry
import Derived.Lib.SmallJoins
import Derived.ProofKit
import Derived.OpenShut
import Derived.Test.YtijmjkkjopplbaaPac
import Derived.Test.YtijmjkkjopplbaaPab
import Derived.Test.YtijmjkkjopplbaaPaa
namespace Go.Proofs.Ytijmjkkjopplbaa
open Go.RowKit Go.Joins Go.ChangeShapes
set_option linter.unusedVariables false
set_option maxRecDepth 100000

/-- An api.Int that came in: its shape, and, where it is short, the limbs that it reads as. -/
def ArgI (W : World) (v : Value) : Prop := ∃ neg A n c, v = .agg #[.bool neg, .slice A n c] ∧ n ≤ 9223372036854775807 ∧ (n ≤ 1099511627776 → ∃ xs, xs.length = n ∧ SlV W (.slice A n c) xs ∧ Lb xs)
theorem int_cells : Try.prog.cellsOf 24 = 2 := by kernel_rfl
theorem u32_cells : Try.prog.cellsOf 31 = 1 := by kernel_rfl
end Go.Proofs.Ytijmjkkjopplbaa

