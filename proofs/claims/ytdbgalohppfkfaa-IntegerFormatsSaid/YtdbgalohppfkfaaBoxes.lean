/- Regions that draw their order: boxes of any type, with any content that stays. -/
import Derived.Test.YtdbgalohppfkfaaExec
namespace Go.Proofs.Ytdbgalohppfkfaa
open Go.RowKit
set_option linter.unusedVariables false

/-- What a box may hold: a predicate on its cells that stays. -/
structure Cont where
  p : World → List Value → Prop
  st : ∀ w w' cs, p w cs → Below w.heap.size w w' → p w' cs
  st2 : ∀ w w' g cs, p w cs → NumFree w g → Only w w' g → p w' cs
  nn : ∀ w cs, p w cs → ∀ v ∈ cs, NoNum v
/-- The Int with this sign and these limbs, canonical or not. -/
def Cont.raw (neg : Bool) (xs : List Int) : Cont where
  p w cs := ∃ A c, cs = [.bool neg, .slice A xs.length c] ∧ SlV w (.slice A xs.length c) xs
  st := fun w w' cs ⟨A, c, h1, h2⟩ hb => ⟨A, c, h1, h2.below hb⟩
  st2 := fun w w' g cs ⟨A, c, h1, h2⟩ hn ho => ⟨A, c, h1, h2.only hn ho⟩
  nn := fun w cs ⟨A, c, h1, h2⟩ v hv => by
    rw [h1] at hv
    simp at hv
    rcases hv with rfl | rfl <;> intro n <;> simp
/-- A new box of type T, with the cells z0 at first; when it is filled it holds C. -/
def Fact.boxC {base : Nat} (T : TypeId) (z0 : List Value) (hz : ∀ v ∈ z0, NoNum v) (C : Cont) : Fact base :=
  { p := fun b v w => ∃ g cs, v = ptr g ∧ base ≤ g ∧ Blk w g T (List.toArray cs) ∧ (∀ v ∈ cs, NoNum v) ∧ (b = false → cs = z0) ∧ (b = true → C.p w cs), al := true,
    st := fun _ _ _ _ ⟨g, cs, h1, h2, h3, h4, h5, h6⟩ hb => ⟨g, cs, h1, h2, h3.below hb, h4, h5, fun h => C.st _ _ _ (h6 h) hb⟩,
    st2 := fun _ _ _ _ _ ⟨g, cs, h1, h2, h3, h4, h5, h6⟩ hne hn ho => ⟨g, cs, h1, h2, h3.only ho (fun e => hne rfl (by rw [h1, e])), h4, h5, fun h => C.st2 _ _ _ _ (h6 h) hn ho⟩,
    hal := fun _ _ _ _ ⟨g, cs, h1, h2, h3, _⟩ => ⟨g, h1, h2, h3.lt⟩ }
/-- A value whose cells are these. -/
def Fact.cells {base : Nat} (f : Value → List Value → Prop) (C : Cont) : Fact base :=
  { p := fun _ v w => ∃ cs, f v cs ∧ C.p w cs, st := fun _ _ _ _ ⟨cs, h1, h2⟩ hb => ⟨cs, h1, C.st _ _ _ h2 hb⟩, st2 := fun _ _ _ _ _ ⟨cs, h1, h2⟩ _ hn ho => ⟨cs, h1, C.st2 _ _ _ _ h2 hn ho⟩, hal := fun _ _ _ h => by cases h }
/-- The cells of an Int's value. -/
def cellsI (v : Value) (cs : List Value) : Prop := ∃ a b, v = .agg #[a, b] ∧ cs = [a, b]
theorem zeroI : ∀ v ∈ [Value.bool false, Value.slice none 0 0], NoNum v := fun v hv => by
  simp at hv
  rcases hv with rfl | rfl <;> intro n <;> simp

section
variable {P : Program} {Q : Exit → Act → World → Prop} {base : Nat} {fs : List (Fact base)} {ψ : Nat → Bool → World → Prop} {tg : Nat → Nat} {V : Nat → Value} {i : Nat} {o : Oper} {a : Act} {w : World}
theorem ob_allocC {s : Nat} {T : TypeId} {z0 : List Value} {hz : ∀ v ∈ z0, NoNum v} {C : Cont} (h : (execOp a.eval o).run P w = .ok (.value (ptr w.heap.size)) (w.alloc (.cells (List.toArray z0) T))) (hsz : base ≤ w.heap.size)
    (hf : fs.getD i (Fact.top base) = Fact.boxC T z0 hz C) : Ob P Q fs ψ tg (.alloc s) V i o a w :=
  ob_alloc h (by rw [hf]; exact ⟨w.heap.size, z0, rfl, hsz, Blk.new _ _ _, hz, fun _ => rfl, fun h => by cases h⟩)
theorem ob_fillC {l g : Nat} {T : TypeId} {z0 cs : List Value} {hz : ∀ v ∈ z0, NoNum v} {C : Cont} {cs0 : List Value} (hk : Blk w g T (List.toArray cs0)) (hn : ∀ v ∈ cs0, NoNum v)
    (h : ∃ w', (execOp a.eval o).run P w = .ok .skip w' ∧ Blk w' g T (List.toArray cs) ∧ Only w w' g) (hV : V l = ptr g) (hbase : base ≤ g) (hC : C.p w cs)
    (hf : fs.getD l (Fact.top base) = Fact.boxC T z0 hz C) (hf2 : fs.getD i (Fact.top base) = Fact.top base) : Ob P Q fs ψ tg (.fill l) V i o a w := by
  obtain ⟨w', h1, h2, h3⟩ := h
  have hnf := hk.numFree (by simpa using hn)
  refine ob_fill h1 hV hnf h3 ?_ (by rw [hf2]; exact trivial)
  rw [hf]
  exact ⟨g, cs, hV, hbase, h2, C.nn _ _ hC, (fun h => by cases h), fun _ => C.st2 _ _ _ _ hC hnf h3⟩
end
section
variable {o : Oper} {ρ : Operand → Value} {w : World}
theorem ex_storeI {x y : Operand} {g : Nat} {cs cs0 : List Value} {v : Value} (ho : o.op = .store 24 x y) (hx : ρ x = ptr g) (hy : ρ y = v) (hv : ∃ q A n c, v = .agg #[.bool q, .slice A n c] ∧ cs = [.bool q, .slice A n c])
    (hb : Blk w g 24 (List.toArray cs0)) (h0 : ∃ q A n c, cs0 = [.bool q, .slice A n c]) :
    ∃ w', (execOp ρ o).run Try.prog w = .ok .skip w' ∧ Blk w' g 24 (List.toArray cs) ∧ Only w w' g := by
  obtain ⟨q, A, n, c, rfl, rfl⟩ := hv
  obtain ⟨q', A', n', c', rfl⟩ := h0
  exact ⟨_, ex_store_int ho hx hy hb, blk_fill hb, only_two _ _ _ _⟩
end
theorem raw_form {w : World} {neg : Bool} {xs : List Int} {v : Value} {cs : List Value} (h : cellsI v cs) (hC : (Cont.raw neg xs).p w cs) : ∃ q A n c, v = .agg #[.bool q, .slice A n c] ∧ cs = [.bool q, .slice A n c] := by
  obtain ⟨a, b, rfl, rfl⟩ := h
  obtain ⟨A, c, e, _⟩ := hC
  simp only [List.cons.injEq, and_true] at e
  obtain ⟨rfl, rfl⟩ := e
  exact ⟨_, _, _, _, rfl, rfl⟩
end Go.Proofs.Ytdbgalohppfkfaa
