/- A part of the proof of the laws of rationals: RatLib, PairE. -/
import Derived.Test.YtijmjkkjopplbaaPam
import Derived.Test.YtijmjkkjopplbaaPal
import Derived.Test.YtijmjkkjopplbaaPab
import Derived.Test.YtijmjkkjopplbaaPad
import Derived.Test.YtijmjkkjopplbaaPbb
import Derived.Test.YtijmjkkjopplbaaPac
import Derived.Test.YtijmjkkjopplbaaPba
import Derived.Test.YtijmjkkjopplbaaPaa
import Derived.Test.YtijmjkkjopplbaaPkRationalDividesa
import Derived.Test.YtijmjkkjopplbaaPan
import Derived.Test.YtijmjkkjopplbaaPbc
import Derived.Test.YtijmjkkjopplbaaPkRationalDividesb
import Derived.Test.YtijmjkkjopplbaaPak
namespace Go.Proofs.Ytijmjkkjopplbaa
open Go.RowKit
set_option linter.unusedVariables false
set_option maxRecDepth 100000

section
variable {Q : Exit → Act → World → Prop} {base : Nat} {fs : List (Fact base)} {ψ : Nat → Bool → World → Prop} {tg : Nat → Nat} {V : Nat → Value} {i : Nat} {o : Oper} {a : Act} {w : World}
end
theorem div_divInt (p q r s : Int) : Rat.divInt p q / Rat.divInt r s = Rat.divInt (p * s) (q * r) := by
  rw [Rat.div_def, Rat.inv_divInt, Rat.divInt_mul_divInt]
theorem div_nd (x y : Rat) : Rat.divInt (x.num * y.den) (x.den * y.num) = x / y := by
  have e := div_divInt x.num x.den y.num y.den
  rw [Rat.num_divInt_den, Rat.num_divInt_den] at e
  exact e.symm
theorem RS.div {m n k : Nat} {x y : Rat} (hx : RS m x) (hy : RS n y) (hk : m + n ≤ k) (h1 : 1 ≤ k) : RS k (x / y) := by
  rw [← div_nd]
  exact RS.of (hx.1.times hy.2 hk) (hx.2.times hy.1 hk) h1
theorem divInt_zero_iff {p q : Int} (hq : q ≠ 0) : Rat.divInt p q = 0 ↔ p = 0 := by
  rw [← Rat.num_eq_zero]
  have hs := of_val p q
  rw [← hs]
  have h := num_sign (n := ofN p q) (ofD_pos p q)
  have h2 : ofN p q = 0 ↔ p = 0 := by unfold ofN; rw [if_neg hq]; split <;> omega
  rw [← h2]
  generalize (Rat.divInt (ofN p q) (ofD p q)).num = u at *
  generalize ofN p q = t at *
  constructor
  · intro e
    rw [e, cm_eq rfl] at h
    rcases Int.lt_trichotomy t 0 with l | l | l
    · rw [cm_lt l] at h; exact absurd h (by decide)
    · exact l
    · rw [cm_gt l] at h; exact absurd h (by decide)
  · intro e
    rw [e, cm_eq (a := 0) rfl] at h
    rcases Int.lt_trichotomy u 0 with l | l | l
    · rw [cm_lt l] at h; exact absurd h (by decide)
    · exact l
    · rw [cm_gt l] at h; exact absurd h (by decide)
theorem of_zero_iff (p q : Int) : ofN p q = 0 ↔ Rat.divInt p q = 0 := by
  rw [← of_val, divInt_zero_iff (by have := ofD_pos p q; omega)]
end Go.Proofs.Ytijmjkkjopplbaa

namespace Go.Proofs.Ytijmjkkjopplbaa
open Go.RowKit
set_option linter.unusedVariables false
set_option maxRecDepth 100000

theorem ex_eql_bool {ρ : Operand → Value} {o : Oper} {w : World} {x y : Operand} {p q : Bool} (ho : o.op = .binOp .eql 4 x y 4) (hx : ρ x = .bool p) (hy : ρ y = .bool q) : (execOp ρ o).run Try.prog w = .ok (.value (.bool (p == q))) w := by
  simp only [execOp, ho, hx, hy]
  go_simp
section
variable {Q : Exit → Act → World → Prop} {base : Nat} {fs : List (Fact base)} {ψ : Nat → Bool → World → Prop} {tg : Nat → Nat} {V : Nat → Value} {i : Nat} {o : Oper} {a : Act} {w : World}
end
end Go.Proofs.Ytijmjkkjopplbaa

