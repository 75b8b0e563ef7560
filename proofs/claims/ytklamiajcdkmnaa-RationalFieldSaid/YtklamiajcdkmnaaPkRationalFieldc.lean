/- A part of the proof of the laws of rationals: Rat, RatOps, RatLib, PairE. -/
import Derived.Test.YtklamiajcdkmnaaPam
import Derived.Test.YtklamiajcdkmnaaPal
import Derived.Test.YtklamiajcdkmnaaPab
import Derived.Test.YtklamiajcdkmnaaPad
import Derived.Test.YtklamiajcdkmnaaPkRationalFieldb
import Derived.Test.YtklamiajcdkmnaaPac
import Derived.Test.YtklamiajcdkmnaaPkRationalFielda
import Derived.Test.YtklamiajcdkmnaaPaa
import Derived.Test.YtklamiajcdkmnaaPan
import Derived.Test.YtklamiajcdkmnaaPak
namespace Go.Proofs.Ytklamiajcdkmnaa
open Go.RowKit
set_option linter.unusedVariables false
set_option maxRecDepth 100000

section
variable {o : Oper} {ρ : Operand → Value} {w : World}
theorem int_info : ∃ i, Try.prog.info? 24 = some i ∧ i.size = 2 := by
  have h : (Try.prog.info? 24).map (fun i => i.size) = some 2 := by kernel_rfl
  obtain ⟨i, hi, hs⟩ := Option.map_eq_some_iff.1 h
  exact ⟨i, hi, hs⟩
theorem ex_fieldR0 {x : Operand} {q1 q2 : Bool} {A1 A2 : Option Addr} {n1 c1 n2 c2 : Nat} (ho : o.op = .field 26 x 0) (hx : ρ x = .agg #[.bool q1, .slice A1 n1 c1, .bool q2, .slice A2 n2 c2]) : (execOp ρ o).run Try.prog w = .ok (.value (.agg #[.bool q1, .slice A1 n1 c1])) w := by
  obtain ⟨i, hi, hs⟩ := int_info
  have h : (Instr.field 26 (.agg #[.bool q1, .slice A1 n1 c1, .bool q2, .slice A2 n2 c2]) 0).run Try.prog w = .ok (.agg #[.bool q1, .slice A1 n1 c1]) w := by
    simp [Instr.field, run_underlying Try.underlying26, asAgg, part, sizeOf, typeInfo, hi, hs]
  simp only [execOp, ho, hx]
  go_simp
theorem ex_fieldF0 {x : Operand} {q1 q2 : Bool} {A1 A2 : Option Addr} {n1 c1 n2 c2 : Nat} (ho : o.op = .field 50 x 0) (hx : ρ x = .agg #[.bool q1, .slice A1 n1 c1, .bool q2, .slice A2 n2 c2]) : (execOp ρ o).run Try.prog w = .ok (.value (.agg #[.bool q1, .slice A1 n1 c1])) w := by
  obtain ⟨i, hi, hs⟩ := int_info
  have h : (Instr.field 50 (.agg #[.bool q1, .slice A1 n1 c1, .bool q2, .slice A2 n2 c2]) 0).run Try.prog w = .ok (.agg #[.bool q1, .slice A1 n1 c1]) w := by
    simp [Instr.field, run_underlying Try.underlying50, asAgg, part, sizeOf, typeInfo, hi, hs]
  simp only [execOp, ho, hx]
  go_simp
end
end Go.Proofs.Ytklamiajcdkmnaa

namespace Go.Proofs.Ytklamiajcdkmnaa
open Go.RowKit
set_option linter.unusedVariables false
set_option maxRecDepth 100000

section
variable {w : World}
end
section
variable {Q : Exit → Act → World → Prop} {base : Nat} {fs : List (Fact base)} {ψ : Nat → Bool → World → Prop} {tg : Nat → Nat} {V : Nat → Value} {i : Nat} {o : Oper} {a : Act} {w : World}
theorem ob_fieldR0 {x : Operand} {v : Value} {A B : NumK} (ho : o.op = .field 26 x 0) (hx : a.eval x = v) (hv : Pair w v A B) (hf : fs.getD i (Fact.top base) = Fact.num A) : Ob Try.prog Q fs ψ tg .val V i o a w := by
  obtain ⟨q1, A1, n1, c1, q2, A2, n2, c2, rfl, h1, h2⟩ := hv.form
  exact ob_pure (ex_fieldR0 ho hx) (by rw [hf]; exact h1)
theorem ob_fieldF0 {x : Operand} {v : Value} {A B : NumK} (ho : o.op = .field 50 x 0) (hx : a.eval x = v) (hv : Pair w v A B) (hf : fs.getD i (Fact.top base) = Fact.num A) : Ob Try.prog Q fs ψ tg .val V i o a w := by
  obtain ⟨q1, A1, n1, c1, q2, A2, n2, c2, rfl, h1, h2⟩ := hv.form
  exact ob_pure (ex_fieldF0 ho hx) (by rw [hf]; exact h1)
end
end Go.Proofs.Ytklamiajcdkmnaa

namespace Go.Proofs.Ytklamiajcdkmnaa
open Go.RowKit
set_option linter.unusedVariables false
set_option maxRecDepth 100000

section
theorem ex_eql_int {ρ : Operand → Value} {o : Oper} {w : World} {x y : Operand} {p q : Int} (ho : o.op = .binOp .eql 3 x y 3) (hx : ρ x = .int .i64 p) (hy : ρ y = .int .i64 q) :
    (execOp ρ o).run Try.prog w = .ok (.value (.bool (p == q))) w := by
  simp only [execOp, ho, hx, hy]; go_simp
theorem ex_neq_int {ρ : Operand → Value} {o : Oper} {w : World} {x y : Operand} {p q : Int} (ho : o.op = .binOp .neq 3 x y 3) (hx : ρ x = .int .i64 p) (hy : ρ y = .int .i64 q) :
    (execOp ρ o).run Try.prog w = .ok (.value (.bool (p != q))) w := by
  simp only [execOp, ho, hx, hy]; go_simp
theorem ex_not {ρ : Operand → Value} {o : Oper} {w : World} {x : Operand} {b : Bool} (ho : o.op = .unOp .not 4 x) (hx : ρ x = .bool b) : (execOp ρ o).run Try.prog w = .ok (.value (.bool (!b))) w := by
  simp only [execOp, ho, hx]; go_simp
theorem ex_callX {ρ : Operand → Value} {o : Oper} {w : World} {f : FuncId} {x : Operand} {args : Array Operand} {ts : Array TypeId} {vs : Array Value} (ho : o.op = .call { callee := .value x, args := args, argTypes := ts }) (hf : ρ x = .func (.func f) #[] #[]) (hv : args.map ρ = vs) (hfn : isGo Try.prog f = true) :
    (execOp ρ o).run Try.prog w = .ok (.enter f vs) w := by
  have h := run_call (w := w) vs hfn
  simp only [execOp, ho, resolve, hf, hv]
  go_simp
variable {Q : Exit → Act → World → Prop} {base : Nat} {fs : List (Fact base)} {ψ : Nat → Bool → World → Prop} {tg : Nat → Nat} {V : Nat → Value} {i : Nat} {o : Oper} {a : Act} {w : World}
theorem ob_goX {f : FuncId} {x : Operand} {args : Array Operand} {ts : Array TypeId} {vs : Array Value} {R : Ending → World → Prop} (ho : o.op = .call { callee := .value x, args := args, argTypes := ts }) (hx : a.eval x = .func (.func f) #[] #[]) (hv : args.map a.eval = vs) (hfn : isGo Try.prog f = true)
    (hc : Calls Try.prog f vs w R) (hR : ∀ e w', R e w' → ∃ v, e = .returned v ∧ Below w.heap.size w w' ∧ (fs.getD i (Fact.top base)).p false v w') : Ob Try.prog Q fs ψ tg .val V i o a w :=
  ob_call (ex_callX ho hx hv hfn) (hc.mono hR)
end
theorem mul_nd (x y : Rat) : Rat.divInt (x.num * y.num) (x.den * y.den) = x * y := by
  have e := Rat.divInt_mul_divInt x.num y.num (d₁ := x.den) (d₂ := y.den)
  rw [Rat.num_divInt_den, Rat.num_divInt_den] at e
  exact e.symm
theorem div_divInt (p q r s : Int) : Rat.divInt p q / Rat.divInt r s = Rat.divInt (p * s) (q * r) := by
  rw [Rat.div_def, Rat.inv_divInt, Rat.divInt_mul_divInt]
theorem div_nd (x y : Rat) : Rat.divInt (x.num * y.den) (x.den * y.num) = x / y := by
  have e := div_divInt x.num x.den y.num y.den
  rw [Rat.num_divInt_den, Rat.num_divInt_den] at e
  exact e.symm
theorem RS.mul {m n k : Nat} {x y : Rat} (hx : RS m x) (hy : RS n y) (hk : m + n ≤ k) : RS k (x * y) := by
  rw [← mul_nd]
  exact rat_sm (hx.1.times hy.1 hk) (hx.2.times hy.2 hk) (Int.mul_pos (den_pos x) (den_pos y))
theorem RS.div {m n k : Nat} {x y : Rat} (hx : RS m x) (hy : RS n y) (hk : m + n ≤ k) (h1 : 1 ≤ k) : RS k (x / y) := by
  rw [← div_nd]
  exact RS.of (hx.1.times hy.2 hk) (hx.2.times hy.1 hk) h1
theorem divInt_zero_iff {p q : Int} (hq : q ≠ 0) : Rat.divInt p q = 0 ↔ p = 0 := by
  rw [← Rat.num_eq_zero]
  have hs := of_val p q
  rw [← hs]
  have h := num_sign (n := ofN p q) (ofD_pos p q)
  have h2 : ofN p q = 0 ↔ p = 0 := by unfold ofN; rw [if_neg hq]; split <;> omega
  rw [← h2]
  generalize (Rat.divInt (ofN p q) (ofD p q)).num = u at *
  generalize ofN p q = t at *
  constructor
  · intro e
    rw [e, cm_eq rfl] at h
    rcases Int.lt_trichotomy t 0 with l | l | l
    · rw [cm_lt l] at h; exact absurd h (by decide)
    · exact l
    · rw [cm_gt l] at h; exact absurd h (by decide)
  · intro e
    rw [e, cm_eq (a := 0) rfl] at h
    rcases Int.lt_trichotomy u 0 with l | l | l
    · rw [cm_lt l] at h; exact absurd h (by decide)
    · exact l
    · rw [cm_gt l] at h; exact absurd h (by decide)
theorem of_zero_iff (p q : Int) : ofN p q = 0 ↔ Rat.divInt p q = 0 := by
  rw [← of_val, divInt_zero_iff (by have := ofD_pos p q; omega)]
theorem RatV.ofInt {w : World} {v : Value} {a : Int} (h : Pair w v (.V a) (.V 1)) : RatV w v ((a : Int) : Rat) := by
  unfold RatV
  rw [Rat.num_intCast, Rat.den_intCast]
  exact h
end Go.Proofs.Ytklamiajcdkmnaa

namespace Go.Proofs.Ytklamiajcdkmnaa
open Go.RowKit
set_option linter.unusedVariables false
set_option maxRecDepth 100000

theorem ex_eql_bool {ρ : Operand → Value} {o : Oper} {w : World} {x y : Operand} {p q : Bool} (ho : o.op = .binOp .eql 4 x y 4) (hx : ρ x = .bool p) (hy : ρ y = .bool q) : (execOp ρ o).run Try.prog w = .ok (.value (.bool (p == q))) w := by
  simp only [execOp, ho, hx, hy]
  go_simp
section
variable {Q : Exit → Act → World → Prop} {base : Nat} {fs : List (Fact base)} {ψ : Nat → Bool → World → Prop} {tg : Nat → Nat} {V : Nat → Value} {i : Nat} {o : Oper} {a : Act} {w : World}
end
end Go.Proofs.Ytklamiajcdkmnaa

