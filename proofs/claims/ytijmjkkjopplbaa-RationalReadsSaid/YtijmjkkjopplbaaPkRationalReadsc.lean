/- A part of the proof of the laws of rationals: RatLib. -/
import Derived.Test.YtijmjkkjopplbaaPam
import Derived.Test.YtijmjkkjopplbaaPal
import Derived.Test.YtijmjkkjopplbaaPab
import Derived.Test.YtijmjkkjopplbaaPad
import Derived.Test.YtijmjkkjopplbaaPkRationalReadsb
import Derived.Test.YtijmjkkjopplbaaPac
import Derived.Test.YtijmjkkjopplbaaPkRationalReadsa
import Derived.Test.YtijmjkkjopplbaaPaa
import Derived.Test.YtijmjkkjopplbaaPan
import Derived.Test.YtijmjkkjopplbaaPak
namespace Go.Proofs.Ytijmjkkjopplbaa
open Go.RowKit
set_option linter.unusedVariables false
set_option maxRecDepth 100000

section
theorem ex_neq_int {ρ : Operand → Value} {o : Oper} {w : World} {x y : Operand} {p q : Int} (ho : o.op = .binOp .neq 3 x y 3) (hx : ρ x = .int .i64 p) (hy : ρ y = .int .i64 q) :
    (execOp ρ o).run Try.prog w = .ok (.value (.bool (p != q))) w := by
  simp only [execOp, ho, hx, hy]; go_simp
variable {Q : Exit → Act → World → Prop} {base : Nat} {fs : List (Fact base)} {ψ : Nat → Bool → World → Prop} {tg : Nat → Nat} {V : Nat → Value} {i : Nat} {o : Oper} {a : Act} {w : World}
end
theorem RS.sub {m n k : Nat} {x y : Rat} (hx : RS m x) (hy : RS n y) (hk : m + n < k) : RS k (x - y) := by
  rw [Rat.sub_eq_add_neg]; exact hx.add hy.neg hk
theorem RatV.ofInt {w : World} {v : Value} {a : Int} (h : Pair w v (.V a) (.V 1)) : RatV w v ((a : Int) : Rat) := by
  unfold RatV
  rw [Rat.num_intCast, Rat.den_intCast]
  exact h
end Go.Proofs.Ytijmjkkjopplbaa

