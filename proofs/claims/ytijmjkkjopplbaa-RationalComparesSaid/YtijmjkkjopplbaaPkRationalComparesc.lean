/- A part of the proof of the laws of rationals: RatLib, PairE. -/
import Derived.Test.YtijmjkkjopplbaaPam
import Derived.Test.YtijmjkkjopplbaaPal
import Derived.Test.YtijmjkkjopplbaaPab
import Derived.Test.YtijmjkkjopplbaaPad
import Derived.Test.YtijmjkkjopplbaaPbb
import Derived.Test.YtijmjkkjopplbaaPac
import Derived.Test.YtijmjkkjopplbaaPba
import Derived.Test.YtijmjkkjopplbaaPaa
import Derived.Test.YtijmjkkjopplbaaPan
import Derived.Test.YtijmjkkjopplbaaPbc
import Derived.Test.YtijmjkkjopplbaaPkRationalComparesa
import Derived.Test.YtijmjkkjopplbaaPkRationalComparesb
import Derived.Test.YtijmjkkjopplbaaPak
namespace Go.Proofs.Ytijmjkkjopplbaa
open Go.RowKit
set_option linter.unusedVariables false
set_option maxRecDepth 100000

section
theorem ex_eql_int {ρ : Operand → Value} {o : Oper} {w : World} {x y : Operand} {p q : Int} (ho : o.op = .binOp .eql 3 x y 3) (hx : ρ x = .int .i64 p) (hy : ρ y = .int .i64 q) :
    (execOp ρ o).run Try.prog w = .ok (.value (.bool (p == q))) w := by
  simp only [execOp, ho, hx, hy]; go_simp
theorem ex_callX {ρ : Operand → Value} {o : Oper} {w : World} {f : FuncId} {x : Operand} {args : Array Operand} {ts : Array TypeId} {vs : Array Value} (ho : o.op = .call { callee := .value x, args := args, argTypes := ts }) (hf : ρ x = .func (.func f) #[] #[]) (hv : args.map ρ = vs) (hfn : isGo Try.prog f = true) :
    (execOp ρ o).run Try.prog w = .ok (.enter f vs) w := by
  have h := run_call (w := w) vs hfn
  simp only [execOp, ho, resolve, hf, hv]
  go_simp
variable {Q : Exit → Act → World → Prop} {base : Nat} {fs : List (Fact base)} {ψ : Nat → Bool → World → Prop} {tg : Nat → Nat} {V : Nat → Value} {i : Nat} {o : Oper} {a : Act} {w : World}
theorem ob_goX {f : FuncId} {x : Operand} {args : Array Operand} {ts : Array TypeId} {vs : Array Value} {R : Ending → World → Prop} (ho : o.op = .call { callee := .value x, args := args, argTypes := ts }) (hx : a.eval x = .func (.func f) #[] #[]) (hv : args.map a.eval = vs) (hfn : isGo Try.prog f = true)
    (hc : Calls Try.prog f vs w R) (hR : ∀ e w', R e w' → ∃ v, e = .returned v ∧ Below w.heap.size w w' ∧ (fs.getD i (Fact.top base)).p false v w') : Ob Try.prog Q fs ψ tg .val V i o a w :=
  ob_call (ex_callX ho hx hv hfn) (hc.mono hR)
end
theorem RS.sub {m n k : Nat} {x y : Rat} (hx : RS m x) (hy : RS n y) (hk : m + n < k) : RS k (x - y) := by
  rw [Rat.sub_eq_add_neg]; exact hx.add hy.neg hk
theorem add_nd (x y : Rat) : Rat.divInt (x.num * y.den + y.num * x.den) (x.den * y.den) = x + y := by
  have e := add_divInt (p := x.num) (r := y.num) (den_pos x) (den_pos y)
  rw [Rat.num_divInt_den, Rat.num_divInt_den] at e
  exact e
end Go.Proofs.Ytijmjkkjopplbaa

namespace Go.Proofs.Ytijmjkkjopplbaa
open Go.RowKit
set_option linter.unusedVariables false
set_option maxRecDepth 100000

theorem ex_eql_bool {ρ : Operand → Value} {o : Oper} {w : World} {x y : Operand} {p q : Bool} (ho : o.op = .binOp .eql 4 x y 4) (hx : ρ x = .bool p) (hy : ρ y = .bool q) : (execOp ρ o).run Try.prog w = .ok (.value (.bool (p == q))) w := by
  simp only [execOp, ho, hx, hy]
  go_simp
section
variable {Q : Exit → Act → World → Prop} {base : Nat} {fs : List (Fact base)} {ψ : Nat → Bool → World → Prop} {tg : Nat → Nat} {V : Nat → Value} {i : Nat} {o : Oper} {a : Act} {w : World}
end
end Go.Proofs.Ytijmjkkjopplbaa

