/- A part of the proof of the laws of rationals: Exec. -/
import Derived.Test.YtijmjkkjopplbaaPal
import Derived.Test.YtijmjkkjopplbaaPac
import Derived.Test.YtijmjkkjopplbaaPkRationalNormalizesa
import Derived.Test.YtijmjkkjopplbaaPab
import Derived.Test.YtijmjkkjopplbaaPaa
import Derived.Test.YtijmjkkjopplbaaPak
namespace Go.Proofs.Ytijmjkkjopplbaa
open Go.RowKit
set_option linter.unusedVariables false
set_option maxRecDepth 100000

section
variable {o : Oper} {ρ : Operand → Value} {w : World}
theorem ex_fieldAddr {x : Operand} {g : Nat} (k : Nat) (hk : k = 0 ∨ k = 1) (ho : o.op = .fieldAddr 24 x k) (hx : ρ x = ptr g) : (execOp ρ o).run Try.prog w = .ok (.value (.pointer (some ⟨g, k, none⟩))) w := by
  rcases hk with rfl | rfl <;>
  · simp only [execOp, ho, hx, ptr]
    go_simp
theorem ex_load_neg {x : Operand} {g : Nat} {q : Bool} {A : Option Addr} {n c : Nat} (ho : o.op = .load 4 x) (hx : ρ x = .pointer (some ⟨g, 0, none⟩)) (hb : Blk w g 24 #[.bool q, .slice A n c]) :
    (execOp ρ o).run Try.prog w = .ok (.value (.bool q)) w := by
  have c0 := hb.cell 0
  simp only [execOp, ho, hx]
  go_simp
theorem ex_load_mag {x : Operand} {g : Nat} {q : Bool} {A : Option Addr} {n c : Nat} (ho : o.op = .load 22 x) (hx : ρ x = .pointer (some ⟨g, 1, none⟩)) (hb : Blk w g 24 #[.bool q, .slice A n c]) :
    (execOp ρ o).run Try.prog w = .ok (.value (.slice A n c)) w := by
  have c1 := hb.cell 1
  simp only [execOp, ho, hx]
  go_simp
theorem ex_neq_bool {x y : Operand} {p q : Bool} (ho : o.op = .binOp .neq 4 x y 4) (hx : ρ x = .bool p) (hy : ρ y = .bool q) : (execOp ρ o).run Try.prog w = .ok (.value (.bool (p != q))) w := by
  simp only [execOp, ho, hx, hy]
  go_simp
  cases p <;> cases q <;> rfl
end

section
variable {Q : Exit → Act → World → Prop} {base : Nat} {fs : List (Fact base)} {ψ : Nat → Bool → World → Prop} {tg : Nat → Nat} {V : Nat → Value} {i : Nat} {o : Oper} {a : Act} {w : World}
end
end Go.Proofs.Ytijmjkkjopplbaa

