/- A part of the proof of the laws of rationals: RatLib. -/
import Derived.Test.YtijmjkkjopplbaaPam
import Derived.Test.YtijmjkkjopplbaaPal
import Derived.Test.YtijmjkkjopplbaaPab
import Derived.Test.YtijmjkkjopplbaaPad
import Derived.Test.YtijmjkkjopplbaaPbb
import Derived.Test.YtijmjkkjopplbaaPac
import Derived.Test.YtijmjkkjopplbaaPba
import Derived.Test.YtijmjkkjopplbaaPaa
import Derived.Test.YtijmjkkjopplbaaPan
import Derived.Test.YtijmjkkjopplbaaPbc
import Derived.Test.YtijmjkkjopplbaaPak
namespace Go.Proofs.Ytijmjkkjopplbaa
open Go.RowKit
set_option linter.unusedVariables false
set_option maxRecDepth 100000

section
variable {Q : Exit → Act → World → Prop} {base : Nat} {fs : List (Fact base)} {ψ : Nat → Bool → World → Prop} {tg : Nat → Nat} {V : Nat → Value} {i : Nat} {o : Oper} {a : Act} {w : World}
end
theorem RS.mul {m n k : Nat} {x y : Rat} (hx : RS m x) (hy : RS n y) (hk : m + n ≤ k) : RS k (x * y) := by
  rw [← mul_nd]
  exact rat_sm (hx.1.times hy.1 hk) (hx.2.times hy.2 hk) (Int.mul_pos (den_pos x) (den_pos y))
end Go.Proofs.Ytijmjkkjopplbaa

