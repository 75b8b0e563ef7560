/- A part of the proof of the laws of rationals: CutStr. -/
import Derived.Lib.Strings
import Derived.Lib.Slices
import Derived.Lib.Walk
import Derived.Lib.Bytealg
import Derived.Test.YtijmjkkjopplbaaPaf
import Derived.Test.YtijmjkkjopplbaaPac
import Derived.Test.YtijmjkkjopplbaaPba
import Derived.Test.YtijmjkkjopplbaaPab
import Derived.Test.YtijmjkkjopplbaaPaa
namespace Go.Proofs.Ytijmjkkjopplbaa
open Go.RowKit
set_option linter.unusedVariables false
set_option maxRecDepth 100000

theorem indexByte_none (a : List UInt8) (c : UInt8) (h : ∀ x ∈ a, x ≠ c) : Lib.indexByte a c = -1 := by
  induction a with
  | nil => rfl
  | cons x a ih =>
    have h1 := ih (fun y hy => h y (List.mem_cons_of_mem _ hy))
    have h2 := h x List.mem_cons_self
    simp only [Lib.indexByte, h1]
    rw [if_neg (by simpa using h2)]
    rfl
end Go.Proofs.Ytijmjkkjopplbaa

