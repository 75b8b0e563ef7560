/- A part of the proof of the laws of rationals: Rat, RatOps, RatLib. -/
import Derived.Test.YtklamiajcdkmnaaPam
import Derived.Test.YtklamiajcdkmnaaPal
import Derived.Test.YtklamiajcdkmnaaPab
import Derived.Test.YtklamiajcdkmnaaPad
import Derived.Test.YtklamiajcdkmnaaPbb
import Derived.Test.YtklamiajcdkmnaaPac
import Derived.Test.YtklamiajcdkmnaaPba
import Derived.Test.YtklamiajcdkmnaaPaa
import Derived.Test.YtklamiajcdkmnaaPan
import Derived.Test.YtklamiajcdkmnaaPak
namespace Go.Proofs.Ytklamiajcdkmnaa
open Go.RowKit
set_option linter.unusedVariables false
set_option maxRecDepth 100000

section
variable {o : Oper} {ρ : Operand → Value} {w : World}
theorem int_info : ∃ i, Try.prog.info? 24 = some i ∧ i.size = 2 := by
  have h : (Try.prog.info? 24).map (fun i => i.size) = some 2 := by kernel_rfl
  obtain ⟨i, hi, hs⟩ := Option.map_eq_some_iff.1 h
  exact ⟨i, hi, hs⟩
theorem ex_fieldR0 {x : Operand} {q1 q2 : Bool} {A1 A2 : Option Addr} {n1 c1 n2 c2 : Nat} (ho : o.op = .field 26 x 0) (hx : ρ x = .agg #[.bool q1, .slice A1 n1 c1, .bool q2, .slice A2 n2 c2]) : (execOp ρ o).run Try.prog w = .ok (.value (.agg #[.bool q1, .slice A1 n1 c1])) w := by
  obtain ⟨i, hi, hs⟩ := int_info
  have h : (Instr.field 26 (.agg #[.bool q1, .slice A1 n1 c1, .bool q2, .slice A2 n2 c2]) 0).run Try.prog w = .ok (.agg #[.bool q1, .slice A1 n1 c1]) w := by
    simp [Instr.field, run_underlying Try.underlying26, asAgg, part, sizeOf, typeInfo, hi, hs]
  simp only [execOp, ho, hx]
  go_simp
end
end Go.Proofs.Ytklamiajcdkmnaa

namespace Go.Proofs.Ytklamiajcdkmnaa
open Go.RowKit
set_option linter.unusedVariables false
set_option maxRecDepth 100000

section
variable {w : World}
end
section
variable {Q : Exit → Act → World → Prop} {base : Nat} {fs : List (Fact base)} {ψ : Nat → Bool → World → Prop} {tg : Nat → Nat} {V : Nat → Value} {i : Nat} {o : Oper} {a : Act} {w : World}
theorem ob_fieldR0 {x : Operand} {v : Value} {A B : NumK} (ho : o.op = .field 26 x 0) (hx : a.eval x = v) (hv : Pair w v A B) (hf : fs.getD i (Fact.top base) = Fact.num A) : Ob Try.prog Q fs ψ tg .val V i o a w := by
  obtain ⟨q1, A1, n1, c1, q2, A2, n2, c2, rfl, h1, h2⟩ := hv.form
  exact ob_pure (ex_fieldR0 ho hx) (by rw [hf]; exact h1)
end
end Go.Proofs.Ytklamiajcdkmnaa

namespace Go.Proofs.Ytklamiajcdkmnaa
open Go.RowKit
set_option linter.unusedVariables false
set_option maxRecDepth 100000

section
variable {Q : Exit → Act → World → Prop} {base : Nat} {fs : List (Fact base)} {ψ : Nat → Bool → World → Prop} {tg : Nat → Nat} {V : Nat → Value} {i : Nat} {o : Oper} {a : Act} {w : World}
end
theorem RatV.ofInt {w : World} {v : Value} {a : Int} (h : Pair w v (.V a) (.V 1)) : RatV w v ((a : Int) : Rat) := by
  unfold RatV
  rw [Rat.num_intCast, Rat.den_intCast]
  exact h
end Go.Proofs.Ytklamiajcdkmnaa

