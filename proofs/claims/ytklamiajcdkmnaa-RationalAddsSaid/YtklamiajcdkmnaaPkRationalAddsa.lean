/- A part of the proof of the laws of rationals: RatLib. -/
import Derived.Test.YtklamiajcdkmnaaPam
import Derived.Test.YtklamiajcdkmnaaPal
import Derived.Test.YtklamiajcdkmnaaPab
import Derived.Test.YtklamiajcdkmnaaPad
import Derived.Test.YtklamiajcdkmnaaPbb
import Derived.Test.YtklamiajcdkmnaaPac
import Derived.Test.YtklamiajcdkmnaaPba
import Derived.Test.YtklamiajcdkmnaaPaa
import Derived.Test.YtklamiajcdkmnaaPan
import Derived.Test.YtklamiajcdkmnaaPbc
import Derived.Test.YtklamiajcdkmnaaPak
namespace Go.Proofs.Ytklamiajcdkmnaa
open Go.RowKit
set_option linter.unusedVariables false
set_option maxRecDepth 100000

section
variable {Q : Exit → Act → World → Prop} {base : Nat} {fs : List (Fact base)} {ψ : Nat → Bool → World → Prop} {tg : Nat → Nat} {V : Nat → Value} {i : Nat} {o : Oper} {a : Act} {w : World}
end
theorem RS.sub {m n k : Nat} {x y : Rat} (hx : RS m x) (hy : RS n y) (hk : m + n < k) : RS k (x - y) := by
  rw [Rat.sub_eq_add_neg]; exact hx.add hy.neg hk
theorem add_nd (x y : Rat) : Rat.divInt (x.num * y.den + y.num * x.den) (x.den * y.den) = x + y := by
  have e := add_divInt (p := x.num) (r := y.num) (den_pos x) (den_pos y)
  rw [Rat.num_divInt_den, Rat.num_divInt_den] at e
  exact e
end Go.Proofs.Ytklamiajcdkmnaa

