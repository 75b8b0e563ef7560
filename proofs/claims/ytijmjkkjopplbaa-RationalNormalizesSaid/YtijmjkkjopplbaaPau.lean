/- A part of the proof of the laws of rationals: RDivide. -/
import Derived.Test.YtijmjkkjopplbaaPam
import Derived.Test.YtijmjkkjopplbaaPae
import Derived.Test.YtijmjkkjopplbaaPab
import Derived.Test.YtijmjkkjopplbaaPad
import Derived.Test.YtijmjkkjopplbaaPac
import Derived.Test.YtijmjkkjopplbaaPat
import Derived.Test.YtijmjkkjopplbaaPaa
import Derived.Test.YtijmjkkjopplbaaPai
import Derived.Test.YtijmjkkjopplbaaPas
import Derived.Test.YtijmjkkjopplbaaPar
namespace Go.Proofs.Ytijmjkkjopplbaa
open Go.RowKit
set_option linter.unusedVariables false
set_option maxRecDepth 100000

theorem IntV.limbs {w : World} {g : Bool} {s : Value} {z : Int} (h : IntV w (.agg #[.bool g, s]) z) (hz : 0 ≤ z) : ∃ xs, SlV w s xs ∧ Lb xs ∧ Cn xs ∧ nv xs = z := by
  obtain ⟨g', s', xs, e, h1, h2, h3, h4, h5⟩ := h
  simp only [Value.agg.injEq, Array.mk.injEq, List.cons.injEq, and_true, Value.bool.injEq] at e
  obtain ⟨rfl, rfl⟩ := e
  refine ⟨xs, h1, h2, h3, ?_⟩
  have := nv_nonneg h2
  cases g with
  | false => exact h5.symm
  | true => rw [sg_true] at h5; omega

end Go.Proofs.Ytijmjkkjopplbaa

