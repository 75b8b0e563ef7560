/- Tuples, in a region that draws its order. -/
import Derived.Test.YtdbgalohppfkfaaExec
import Derived.Test.YtdbgalohppfkfaaDivMod
namespace Go.Proofs.Ytdbgalohppfkfaa
open Go.RowKit
set_option linter.unusedVariables false
/-- Two Ints and a flag. -/
def Tup3 (w : World) (v : Value) (a b : Int) (t : Bool) : Prop := ∃ v1 v2, v = .tuple #[v1, v2, .bool t] ∧ IntV w v1 a ∧ IntV w v2 b
theorem Tup3.below {w w' : World} {v : Value} {a b : Int} {t : Bool} (h : Tup3 w v a b t) (hb : Below w.heap.size w w') : Tup3 w' v a b t := let ⟨v1, v2, h1, h2, h3⟩ := h; ⟨v1, v2, h1, h2.below hb, h3.below hb⟩
theorem Tup3.only {w w' : World} {g : Nat} {v : Value} {a b : Int} {t : Bool} (h : Tup3 w v a b t) (hn : NumFree w g) (ho : Only w w' g) : Tup3 w' v a b t := let ⟨v1, v2, h1, h2, h3⟩ := h; ⟨v1, v2, h1, h2.only hn ho, h3.only hn ho⟩
def Fact.tup3 {base : Nat} (a b : Int) (t : Bool) : Fact base := { p := fun _ v w => Tup3 w v a b t, st := fun _ _ _ _ h hb => h.below hb, st2 := fun _ _ _ _ _ h _ hn ho => h.only hn ho, hal := fun _ _ _ h => by cases h }
section
variable {o : Oper} {ρ : Operand → Value} {w : World}
theorem ex_extract0 {x : Operand} {a b c : Value} (ho : o.op = .extract x 0) (hx : ρ x = .tuple #[a, b, c]) : (execOp ρ o).run Try.prog w = .ok (.value a) w := by
  simp only [execOp, ho, hx]; go_simp
theorem ex_extract1 {x : Operand} {a b c : Value} (ho : o.op = .extract x 1) (hx : ρ x = .tuple #[a, b, c]) : (execOp ρ o).run Try.prog w = .ok (.value b) w := by
  simp only [execOp, ho, hx]; go_simp
theorem ex_extract2 {x : Operand} {a b c : Value} (ho : o.op = .extract x 2) (hx : ρ x = .tuple #[a, b, c]) : (execOp ρ o).run Try.prog w = .ok (.value c) w := by
  simp only [execOp, ho, hx]; go_simp
end
section
variable {Q : Exit → Act → World → Prop} {base : Nat} {fs : List (Fact base)} {ψ : Nat → Bool → World → Prop} {tg : Nat → Nat} {V : Nat → Value} {i : Nat} {o : Oper} {a : Act} {w : World}
theorem ob_extract0 {x : Operand} {v : Value} {z y : Int} {t : Bool} (ho : o.op = .extract x 0) (hx : a.eval x = v) (hv : Tup3 w v z y t) (hf : fs.getD i (Fact.top base) = Fact.int z) : Ob Try.prog Q fs ψ tg .val V i o a w := by
  obtain ⟨v1, v2, rfl, h1, h2⟩ := hv
  exact ob_pure (ex_extract0 ho hx) (by rw [hf]; exact h1)
theorem ob_extract1 {x : Operand} {v : Value} {z y : Int} {t : Bool} (ho : o.op = .extract x 1) (hx : a.eval x = v) (hv : Tup3 w v z y t) (hf : fs.getD i (Fact.top base) = Fact.int y) : Ob Try.prog Q fs ψ tg .val V i o a w := by
  obtain ⟨v1, v2, rfl, h1, h2⟩ := hv
  exact ob_pure (ex_extract1 ho hx) (by rw [hf]; exact h2)
theorem ob_extract2 {x : Operand} {v : Value} {z y : Int} {t : Bool} (ho : o.op = .extract x 2) (hx : a.eval x = v) (hv : Tup3 w v z y t) (hf : fs.getD i (Fact.top base) = Fact.eq (.bool t)) : Ob Try.prog Q fs ψ tg .val V i o a w := by
  obtain ⟨v1, v2, rfl, h1, h2⟩ := hv
  exact ob_pure (ex_extract2 ho hx) (by rw [hf]; exact rfl)
end
end Go.Proofs.Ytdbgalohppfkfaa
