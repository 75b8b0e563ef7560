/- A part of the proof of the laws of rationals: HelpRow. -/
import Derived.Deep.RegionLawGrows
import Derived.Test.YtijmjkkjopplbaaPam
import Derived.Test.YtijmjkkjopplbaaPab
import Derived.Test.YtijmjkkjopplbaaPac
import Derived.Test.YtijmjkkjopplbaaPai
import Derived.Test.YtijmjkkjopplbaaPaa
namespace Go.Proofs.Ytijmjkkjopplbaa
open Go.RowKit
set_option linter.unusedVariables false
set_option maxRecDepth 100000

theorem Row.setCell {w : World} {base k o : Nat} {v : Value} {xs : List Int} (h : Row w base v xs) (hk : k < base) (y : Value) : Row (w.setCell ⟨k, o, none⟩ y) base v xs := by
  refine ⟨h.1, ?_⟩
  rcases h.2 with h0 | ⟨g, cap, cur, rfl, h1, h2, h3⟩
  · exact .inl h0
  · refine .inr ⟨g, cap, cur, rfl, h1, ?_, h3⟩
    unfold World.setCell
    simp only [Array.getElem?_modify]
    rw [if_neg (by omega)]; exact h2
theorem Row.mono {w : World} {base base' : Nat} {v : Value} {xs : List Int} (h : Row w base v xs) (hb : base' ≤ base) : Row w base' v xs := by
  refine ⟨h.1, ?_⟩
  rcases h.2 with h0 | ⟨g, cap, cur, rfl, h1, h3⟩
  · exact .inl h0
  · exact .inr ⟨g, cap, cur, rfl, by omega, h3⟩
end Go.Proofs.Ytijmjkkjopplbaa

