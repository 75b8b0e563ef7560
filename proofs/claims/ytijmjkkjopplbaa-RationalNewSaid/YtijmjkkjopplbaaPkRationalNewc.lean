/- A part of the proof of the laws of rationals: RatLib, PairE. -/
import Derived.Test.YtijmjkkjopplbaaPam
import Derived.Test.YtijmjkkjopplbaaPal
import Derived.Test.YtijmjkkjopplbaaPab
import Derived.Test.YtijmjkkjopplbaaPad
import Derived.Test.YtijmjkkjopplbaaPkRationalNewb
import Derived.Test.YtijmjkkjopplbaaPac
import Derived.Test.YtijmjkkjopplbaaPkRationalNewa
import Derived.Test.YtijmjkkjopplbaaPaa
import Derived.Test.YtijmjkkjopplbaaPan
import Derived.Test.YtijmjkkjopplbaaPak
namespace Go.Proofs.Ytijmjkkjopplbaa
open Go.RowKit
set_option linter.unusedVariables false
set_option maxRecDepth 100000

section
variable {Q : Exit → Act → World → Prop} {base : Nat} {fs : List (Fact base)} {ψ : Nat → Bool → World → Prop} {tg : Nat → Nat} {V : Nat → Value} {i : Nat} {o : Oper} {a : Act} {w : World}
end
theorem RatV.ofInt {w : World} {v : Value} {a : Int} (h : Pair w v (.V a) (.V 1)) : RatV w v ((a : Int) : Rat) := by
  unfold RatV
  rw [Rat.num_intCast, Rat.den_intCast]
  exact h
end Go.Proofs.Ytijmjkkjopplbaa

namespace Go.Proofs.Ytijmjkkjopplbaa
open Go.RowKit
set_option linter.unusedVariables false
set_option maxRecDepth 100000

theorem ex_eql_bool {ρ : Operand → Value} {o : Oper} {w : World} {x y : Operand} {p q : Bool} (ho : o.op = .binOp .eql 4 x y 4) (hx : ρ x = .bool p) (hy : ρ y = .bool q) : (execOp ρ o).run Try.prog w = .ok (.value (.bool (p == q))) w := by
  simp only [execOp, ho, hx, hy]
  go_simp
section
variable {Q : Exit → Act → World → Prop} {base : Nat} {fs : List (Fact base)} {ψ : Nat → Bool → World → Prop} {tg : Nat → Nat} {V : Nat → Value} {i : Nat} {o : Oper} {a : Act} {w : World}
end
end Go.Proofs.Ytijmjkkjopplbaa

