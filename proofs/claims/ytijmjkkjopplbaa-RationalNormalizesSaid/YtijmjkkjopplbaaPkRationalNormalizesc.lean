/- A part of the proof of the laws of rationals: RatLib. -/
import Derived.Test.YtijmjkkjopplbaaPam
import Derived.Test.YtijmjkkjopplbaaPal
import Derived.Test.YtijmjkkjopplbaaPab
import Derived.Test.YtijmjkkjopplbaaPad
import Derived.Test.YtijmjkkjopplbaaPkRationalNormalizesb
import Derived.Test.YtijmjkkjopplbaaPac
import Derived.Test.YtijmjkkjopplbaaPkRationalNormalizesa
import Derived.Test.YtijmjkkjopplbaaPaa
import Derived.Test.YtijmjkkjopplbaaPan
import Derived.Test.YtijmjkkjopplbaaPak
namespace Go.Proofs.Ytijmjkkjopplbaa
open Go.RowKit
set_option linter.unusedVariables false
set_option maxRecDepth 100000

section
theorem ex_not {ρ : Operand → Value} {o : Oper} {w : World} {x : Operand} {b : Bool} (ho : o.op = .unOp .not 4 x) (hx : ρ x = .bool b) : (execOp ρ o).run Try.prog w = .ok (.value (.bool (!b))) w := by
  simp only [execOp, ho, hx]; go_simp
variable {Q : Exit → Act → World → Prop} {base : Nat} {fs : List (Fact base)} {ψ : Nat → Bool → World → Prop} {tg : Nat → Nat} {V : Nat → Value} {i : Nat} {o : Oper} {a : Act} {w : World}
end
theorem RatV.ofInt {w : World} {v : Value} {a : Int} (h : Pair w v (.V a) (.V 1)) : RatV w v ((a : Int) : Rat) := by
  unfold RatV
  rw [Rat.num_intCast, Rat.den_intCast]
  exact h
end Go.Proofs.Ytijmjkkjopplbaa

