/- A part of the proof of the laws of rationals: Rat, RatOps. -/
import Derived.Test.YtijmjkkjopplbaaPam
import Derived.Test.YtijmjkkjopplbaaPal
import Derived.Test.YtijmjkkjopplbaaPab
import Derived.Test.YtijmjkkjopplbaaPad
import Derived.Test.YtijmjkkjopplbaaPbb
import Derived.Test.YtijmjkkjopplbaaPac
import Derived.Test.YtijmjkkjopplbaaPba
import Derived.Test.YtijmjkkjopplbaaPaa
import Derived.Test.YtijmjkkjopplbaaPan
import Derived.Test.YtijmjkkjopplbaaPbc
import Derived.Test.YtijmjkkjopplbaaPak
namespace Go.Proofs.Ytijmjkkjopplbaa
open Go.RowKit
set_option linter.unusedVariables false
set_option maxRecDepth 100000

section
variable {o : Oper} {ρ : Operand → Value} {w : World}
theorem ex_fieldR1 {x : Operand} {q1 q2 : Bool} {A1 A2 : Option Addr} {n1 c1 n2 c2 : Nat} (ho : o.op = .field 26 x 1) (hx : ρ x = .agg #[.bool q1, .slice A1 n1 c1, .bool q2, .slice A2 n2 c2]) : (execOp ρ o).run Try.prog w = .ok (.value (.agg #[.bool q2, .slice A2 n2 c2])) w := by
  obtain ⟨i, hi, hs⟩ := int_info
  have h : (Instr.field 26 (.agg #[.bool q1, .slice A1 n1 c1, .bool q2, .slice A2 n2 c2]) 1).run Try.prog w = .ok (.agg #[.bool q2, .slice A2 n2 c2]) w := by
    simp [Instr.field, run_underlying Try.underlying26, asAgg, part, sizeOf, typeInfo, hi, hs]
  simp only [execOp, ho, hx]
  go_simp
theorem ex_fieldF0 {x : Operand} {q1 q2 : Bool} {A1 A2 : Option Addr} {n1 c1 n2 c2 : Nat} (ho : o.op = .field 56 x 0) (hx : ρ x = .agg #[.bool q1, .slice A1 n1 c1, .bool q2, .slice A2 n2 c2]) : (execOp ρ o).run Try.prog w = .ok (.value (.agg #[.bool q1, .slice A1 n1 c1])) w := by
  obtain ⟨i, hi, hs⟩ := int_info
  have h : (Instr.field 56 (.agg #[.bool q1, .slice A1 n1 c1, .bool q2, .slice A2 n2 c2]) 0).run Try.prog w = .ok (.agg #[.bool q1, .slice A1 n1 c1]) w := by
    simp [Instr.field, run_underlying Try.underlying56, asAgg, part, sizeOf, typeInfo, hi, hs]
  simp only [execOp, ho, hx]
  go_simp
end
end Go.Proofs.Ytijmjkkjopplbaa

namespace Go.Proofs.Ytijmjkkjopplbaa
open Go.RowKit
set_option linter.unusedVariables false
set_option maxRecDepth 100000

section
variable {w : World}
end
section
variable {Q : Exit → Act → World → Prop} {base : Nat} {fs : List (Fact base)} {ψ : Nat → Bool → World → Prop} {tg : Nat → Nat} {V : Nat → Value} {i : Nat} {o : Oper} {a : Act} {w : World}
theorem ob_fieldR1 {x : Operand} {v : Value} {A B : NumK} (ho : o.op = .field 26 x 1) (hx : a.eval x = v) (hv : Pair w v A B) (hf : fs.getD i (Fact.top base) = Fact.num B) : Ob Try.prog Q fs ψ tg .val V i o a w := by
  obtain ⟨q1, A1, n1, c1, q2, A2, n2, c2, rfl, h1, h2⟩ := hv.form
  exact ob_pure (ex_fieldR1 ho hx) (by rw [hf]; exact h2)
theorem ob_fieldF0 {x : Operand} {v : Value} {A B : NumK} (ho : o.op = .field 56 x 0) (hx : a.eval x = v) (hv : Pair w v A B) (hf : fs.getD i (Fact.top base) = Fact.num A) : Ob Try.prog Q fs ψ tg .val V i o a w := by
  obtain ⟨q1, A1, n1, c1, q2, A2, n2, c2, rfl, h1, h2⟩ := hv.form
  exact ob_pure (ex_fieldF0 ho hx) (by rw [hf]; exact h1)
end
end Go.Proofs.Ytijmjkkjopplbaa

