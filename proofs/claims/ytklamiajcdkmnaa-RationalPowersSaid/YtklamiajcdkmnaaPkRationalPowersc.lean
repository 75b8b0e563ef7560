/- A part of the proof of the laws of rationals: RatLib. -/
import Derived.Test.YtklamiajcdkmnaaPam
import Derived.Test.YtklamiajcdkmnaaPal
import Derived.Test.YtklamiajcdkmnaaPab
import Derived.Test.YtklamiajcdkmnaaPad
import Derived.Test.YtklamiajcdkmnaaPbb
import Derived.Test.YtklamiajcdkmnaaPac
import Derived.Test.YtklamiajcdkmnaaPba
import Derived.Test.YtklamiajcdkmnaaPaa
import Derived.Test.YtklamiajcdkmnaaPkRationalPowersa
import Derived.Test.YtklamiajcdkmnaaPan
import Derived.Test.YtklamiajcdkmnaaPbc
import Derived.Test.YtklamiajcdkmnaaPkRationalPowersb
import Derived.Test.YtklamiajcdkmnaaPak
namespace Go.Proofs.Ytklamiajcdkmnaa
open Go.RowKit
set_option linter.unusedVariables false
set_option maxRecDepth 100000

section
theorem ex_not {ρ : Operand → Value} {o : Oper} {w : World} {x : Operand} {b : Bool} (ho : o.op = .unOp .not 4 x) (hx : ρ x = .bool b) : (execOp ρ o).run Try.prog w = .ok (.value (.bool (!b))) w := by
  simp only [execOp, ho, hx]; go_simp
variable {Q : Exit → Act → World → Prop} {base : Nat} {fs : List (Fact base)} {ψ : Nat → Bool → World → Prop} {tg : Nat → Nat} {V : Nat → Value} {i : Nat} {o : Oper} {a : Act} {w : World}
end
theorem div_divInt (p q r s : Int) : Rat.divInt p q / Rat.divInt r s = Rat.divInt (p * s) (q * r) := by
  rw [Rat.div_def, Rat.inv_divInt, Rat.divInt_mul_divInt]
theorem div_nd (x y : Rat) : Rat.divInt (x.num * y.den) (x.den * y.num) = x / y := by
  have e := div_divInt x.num x.den y.num y.den
  rw [Rat.num_divInt_den, Rat.num_divInt_den] at e
  exact e.symm
theorem RS.div {m n k : Nat} {x y : Rat} (hx : RS m x) (hy : RS n y) (hk : m + n ≤ k) (h1 : 1 ≤ k) : RS k (x / y) := by
  rw [← div_nd]
  exact RS.of (hx.1.times hy.2 hk) (hx.2.times hy.1 hk) h1
theorem divInt_zero_iff {p q : Int} (hq : q ≠ 0) : Rat.divInt p q = 0 ↔ p = 0 := by
  rw [← Rat.num_eq_zero]
  have hs := of_val p q
  rw [← hs]
  have h := num_sign (n := ofN p q) (ofD_pos p q)
  have h2 : ofN p q = 0 ↔ p = 0 := by unfold ofN; rw [if_neg hq]; split <;> omega
  rw [← h2]
  generalize (Rat.divInt (ofN p q) (ofD p q)).num = u at *
  generalize ofN p q = t at *
  constructor
  · intro e
    rw [e, cm_eq rfl] at h
    rcases Int.lt_trichotomy t 0 with l | l | l
    · rw [cm_lt l] at h; exact absurd h (by decide)
    · exact l
    · rw [cm_gt l] at h; exact absurd h (by decide)
  · intro e
    rw [e, cm_eq (a := 0) rfl] at h
    rcases Int.lt_trichotomy u 0 with l | l | l
    · rw [cm_lt l] at h; exact absurd h (by decide)
    · exact l
    · rw [cm_gt l] at h; exact absurd h (by decide)
theorem of_zero_iff (p q : Int) : ofN p q = 0 ↔ Rat.divInt p q = 0 := by
  rw [← of_val, divInt_zero_iff (by have := ofD_pos p q; omega)]
end Go.Proofs.Ytklamiajcdkmnaa

