/- A part of the proof of the laws of rationals: Tup, Rat, RatOps, RatLib, PairE, LongR, Longs. -/
import Derived.Test.YtijmjkkjopplbaaPam
import Derived.Test.YtijmjkkjopplbaaPab
import Derived.Test.YtijmjkkjopplbaaPad
import Derived.Test.YtijmjkkjopplbaaPal
import Derived.Test.YtijmjkkjopplbaaPac
import Derived.Test.YtijmjkkjopplbaaPaa
import Derived.Test.YtijmjkkjopplbaaPak
namespace Go.Proofs.Ytijmjkkjopplbaa
open Go.RowKit
set_option linter.unusedVariables false
set_option maxRecDepth 100000
/-- Two Ints and a flag. -/
def Tup3 (w : World) (v : Value) (a b : Int) (t : Bool) : Prop := ∃ v1 v2, v = .tuple #[v1, v2, .bool t] ∧ IntV w v1 a ∧ IntV w v2 b
theorem Tup3.below {w w' : World} {v : Value} {a b : Int} {t : Bool} (h : Tup3 w v a b t) (hb : Below w.heap.size w w') : Tup3 w' v a b t := let ⟨v1, v2, h1, h2, h3⟩ := h; ⟨v1, v2, h1, h2.below hb, h3.below hb⟩
theorem Tup3.only {w w' : World} {g : Nat} {v : Value} {a b : Int} {t : Bool} (h : Tup3 w v a b t) (hn : NumFree w g) (ho : Only w w' g) : Tup3 w' v a b t := let ⟨v1, v2, h1, h2, h3⟩ := h; ⟨v1, v2, h1, h2.only hn ho, h3.only hn ho⟩
def Fact.tup3 {base : Nat} (a b : Int) (t : Bool) : Fact base := { p := fun _ v w => Tup3 w v a b t, st := fun _ _ _ _ h hb => h.below hb, st2 := fun _ _ _ _ _ h _ hn ho => h.only hn ho, hal := fun _ _ _ h => by cases h }
section
variable {o : Oper} {ρ : Operand → Value} {w : World}
theorem ex_extract0 {x : Operand} {a b c : Value} (ho : o.op = .extract x 0) (hx : ρ x = .tuple #[a, b, c]) : (execOp ρ o).run Try.prog w = .ok (.value a) w := by
  simp only [execOp, ho, hx]; go_simp
theorem ex_extract1 {x : Operand} {a b c : Value} (ho : o.op = .extract x 1) (hx : ρ x = .tuple #[a, b, c]) : (execOp ρ o).run Try.prog w = .ok (.value b) w := by
  simp only [execOp, ho, hx]; go_simp
theorem ex_extract2 {x : Operand} {a b c : Value} (ho : o.op = .extract x 2) (hx : ρ x = .tuple #[a, b, c]) : (execOp ρ o).run Try.prog w = .ok (.value c) w := by
  simp only [execOp, ho, hx]; go_simp
end
section
variable {Q : Exit → Act → World → Prop} {base : Nat} {fs : List (Fact base)} {ψ : Nat → Bool → World → Prop} {tg : Nat → Nat} {V : Nat → Value} {i : Nat} {o : Oper} {a : Act} {w : World}
theorem ob_extract0 {x : Operand} {v : Value} {z y : Int} {t : Bool} (ho : o.op = .extract x 0) (hx : a.eval x = v) (hv : Tup3 w v z y t) (hf : fs.getD i (Fact.top base) = Fact.int z) : Ob Try.prog Q fs ψ tg .val V i o a w := by
  obtain ⟨v1, v2, rfl, h1, h2⟩ := hv
  exact ob_pure (ex_extract0 ho hx) (by rw [hf]; exact h1)
theorem ob_extract1 {x : Operand} {v : Value} {z y : Int} {t : Bool} (ho : o.op = .extract x 1) (hx : a.eval x = v) (hv : Tup3 w v z y t) (hf : fs.getD i (Fact.top base) = Fact.int y) : Ob Try.prog Q fs ψ tg .val V i o a w := by
  obtain ⟨v1, v2, rfl, h1, h2⟩ := hv
  exact ob_pure (ex_extract1 ho hx) (by rw [hf]; exact h2)
theorem ob_extract2 {x : Operand} {v : Value} {z y : Int} {t : Bool} (ho : o.op = .extract x 2) (hx : a.eval x = v) (hv : Tup3 w v z y t) (hf : fs.getD i (Fact.top base) = Fact.eq (.bool t)) : Ob Try.prog Q fs ψ tg .val V i o a w := by
  obtain ⟨v1, v2, rfl, h1, h2⟩ := hv
  exact ob_pure (ex_extract2 ho hx) (by rw [hf]; exact rfl)
end
end Go.Proofs.Ytijmjkkjopplbaa

namespace Go.Proofs.Ytijmjkkjopplbaa
open Go.RowKit
set_option linter.unusedVariables false
set_option maxRecDepth 100000

/-- How an Int is known: canonical, or as an argument with at most n limbs. -/
inductive NumK
  | V (z : Int)
  | A (z : Int) (n : Nat)
  | R (neg : Bool) (xs : List Int)
/-- An Int of known sign and limbs. -/
def IntR (w : World) (v : Value) (neg : Bool) (xs : List Int) : Prop := ∃ A c, v = .agg #[.bool neg, .slice A xs.length c] ∧ SlV w (.slice A xs.length c) xs
theorem IntR.below {w w' : World} {v : Value} {neg : Bool} {xs : List Int} (h : IntR w v neg xs) (hb : Below w.heap.size w w') : IntR w' v neg xs := let ⟨A, c, h1, h2⟩ := h; ⟨A, c, h1, h2.below hb⟩
theorem IntR.only {w w' : World} {g : Nat} {v : Value} {neg : Bool} {xs : List Int} (h : IntR w v neg xs) (hn : NumFree w g) (ho : Only w w' g) : IntR w' v neg xs := let ⟨A, c, h1, h2⟩ := h; ⟨A, c, h1, h2.only hn ho⟩
theorem IntR.form {w : World} {v : Value} {neg : Bool} {xs : List Int} (h : IntR w v neg xs) : ∃ q A n c, v = .agg #[.bool q, .slice A n c] := let ⟨A, c, h1, h2⟩ := h; ⟨neg, A, _, c, h1⟩
def NumK.p (k : NumK) (w : World) (v : Value) : Prop := match k with
  | .V z => IntV w v z
  | .A z n => IntA w v z n
  | .R neg xs => IntR w v neg xs
theorem NumK.p.below {k : NumK} {w w' : World} {v : Value} (h : k.p w v) (hb : Below w.heap.size w w') : k.p w' v := by
  cases k with
  | V z => exact IntV.below h hb
  | A z n => exact IntA.below h hb
  | R neg xs => exact IntR.below h hb
theorem NumK.p.only {k : NumK} {w w' : World} {g : Nat} {v : Value} (h : k.p w v) (hn : NumFree w g) (ho : Only w w' g) : k.p w' v := by
  cases k with
  | V z => exact IntV.only h hn ho
  | A z n => exact IntA.only h hn ho
  | R neg xs => exact IntR.only h hn ho
theorem NumK.p.form {k : NumK} {w : World} {v : Value} (h : k.p w v) : ∃ q A n c, v = .agg #[.bool q, .slice A n c] := by
  cases k with
  | V z => exact IntV.form h
  | A z n => exact IntA.form h
  | R neg xs => exact IntR.form h
theorem noNum4 (q1 : Bool) (A1 : Option Addr) (n1 c1 : Nat) (q2 : Bool) (A2 : Option Addr) (n2 c2 : Nat) : ∀ v ∈ [Value.bool q1, .slice A1 n1 c1, .bool q2, .slice A2 n2 c2], NoNum v := fun v hv => by
  simp at hv
  rcases hv with rfl | rfl | rfl | rfl <;> intro n <;> simp
/-- Two Ints, one behind the other. -/
def Cont.pair (a b : NumK) : Cont where
  p w cs := ∃ q1 A1 n1 c1 q2 A2 n2 c2, cs = [.bool q1, .slice A1 n1 c1, .bool q2, .slice A2 n2 c2] ∧ a.p w (.agg #[.bool q1, .slice A1 n1 c1]) ∧ b.p w (.agg #[.bool q2, .slice A2 n2 c2])
  st := fun w w' cs ⟨q1, A1, n1, c1, q2, A2, n2, c2, h, h1, h2⟩ hb => ⟨q1, A1, n1, c1, q2, A2, n2, c2, h, h1.below hb, h2.below hb⟩
  st2 := fun w w' g cs ⟨q1, A1, n1, c1, q2, A2, n2, c2, h, h1, h2⟩ hn ho => ⟨q1, A1, n1, c1, q2, A2, n2, c2, h, h1.only hn ho, h2.only hn ho⟩
  nn := fun w cs ⟨q1, A1, n1, c1, q2, A2, n2, c2, h, h1, h2⟩ => by rw [h]; exact noNum4 _ _ _ _ _ _ _ _
  len := 4
  ln := fun w cs ⟨q1, A1, n1, c1, q2, A2, n2, c2, h, h1, h2⟩ => by rw [h]; rfl
/-- The cells of a pair's value. -/
def cellsR (v : Value) (cs : List Value) : Prop := ∃ a b c d, v = .agg #[a, b, c, d] ∧ cs = [a, b, c, d]
/-- This value is a pair of Ints. -/
def Pair (w : World) (v : Value) (a b : NumK) : Prop := ∃ cs, cellsR v cs ∧ (Cont.pair a b).p w cs
theorem Pair.below {w w' : World} {v : Value} {a b : NumK} (h : Pair w v a b) (hb : Below w.heap.size w w') : Pair w' v a b := let ⟨cs, h1, h2⟩ := h; ⟨cs, h1, (Cont.pair a b).st _ _ _ h2 hb⟩
theorem Pair.only {w w' : World} {g : Nat} {v : Value} {a b : NumK} (h : Pair w v a b) (hn : NumFree w g) (ho : Only w w' g) : Pair w' v a b := let ⟨cs, h1, h2⟩ := h; ⟨cs, h1, (Cont.pair a b).st2 _ _ _ _ h2 hn ho⟩
theorem Pair.mk {w : World} {q1 q2 : Bool} {A1 A2 : Option Addr} {n1 c1 n2 c2 : Nat} {a b : NumK} (h1 : a.p w (.agg #[.bool q1, .slice A1 n1 c1])) (h2 : b.p w (.agg #[.bool q2, .slice A2 n2 c2])) : Pair w (.agg #[.bool q1, .slice A1 n1 c1, .bool q2, .slice A2 n2 c2]) a b :=
  ⟨_, ⟨_, _, _, _, rfl, rfl⟩, _, _, _, _, _, _, _, _, rfl, h1, h2⟩
theorem Pair.form {w : World} {v : Value} {a b : NumK} (h : Pair w v a b) : ∃ q1 A1 n1 c1 q2 A2 n2 c2, v = .agg #[.bool q1, .slice A1 n1 c1, .bool q2, .slice A2 n2 c2] ∧ a.p w (.agg #[.bool q1, .slice A1 n1 c1]) ∧ b.p w (.agg #[.bool q2, .slice A2 n2 c2]) := by
  obtain ⟨cs, ⟨x, y, z, t, rfl, rfl⟩, q1, A1, n1, c1, q2, A2, n2, c2, he, h1, h2⟩ := h
  simp only [List.cons.injEq, and_true] at he
  obtain ⟨rfl, rfl, rfl, rfl⟩ := he
  exact ⟨_, _, _, _, _, _, _, _, rfl, h1, h2⟩
/-- A slice of two Ints, in a block of its own. -/
def Ints2 (w : World) (v : Value) (a b : NumK) : Prop := ∃ g q1 A1 n1 c1 q2 A2 n2 c2, v = .slice (some ⟨g, 0, none⟩) 2 2 ∧ Blk w g 24 #[.bool q1, .slice A1 n1 c1, .bool q2, .slice A2 n2 c2] ∧ a.p w (.agg #[.bool q1, .slice A1 n1 c1]) ∧ b.p w (.agg #[.bool q2, .slice A2 n2 c2])
theorem Ints2.below {w w' : World} {v : Value} {a b : NumK} (h : Ints2 w v a b) (hb : Below w.heap.size w w') : Ints2 w' v a b :=
  let ⟨g, q1, A1, n1, c1, q2, A2, n2, c2, h, hk, h1, h2⟩ := h; ⟨g, q1, A1, n1, c1, q2, A2, n2, c2, h, hk.below hb, h1.below hb, h2.below hb⟩
theorem Ints2.only {w w' : World} {g : Nat} {v : Value} {a b : NumK} (h : Ints2 w v a b) (hn : NumFree w g) (ho : Only w w' g) : Ints2 w' v a b :=
  let ⟨g', q1, A1, n1, c1, q2, A2, n2, c2, h, hk, h1, h2⟩ := h
  ⟨g', q1, A1, n1, c1, q2, A2, n2, c2, h, hk.only ho (fun e => by subst e; exact absurd (hn.2 _ hk) (by simp)), h1.only hn ho, h2.only hn ho⟩
def Fact.ints2 {base : Nat} (a b : NumK) : Fact base := { p := fun _ v w => Ints2 w v a b, st := fun _ _ _ _ h hb => h.below hb, st2 := fun _ _ _ _ _ h _ hn ho => h.only hn ho, hal := fun _ _ _ h => by cases h }
/-- An Int that is known so. -/
def Fact.num {base : Nat} (a : NumK) : Fact base := { p := fun _ v w => a.p w v, st := fun _ _ _ _ h hb => h.below hb, st2 := fun _ _ _ _ _ h _ hn ho => h.only hn ho, hal := fun _ _ _ h => by cases h }
def Fact.pair {base : Nat} (a b : NumK) : Fact base := { p := fun _ v w => Pair w v a b, st := fun _ _ _ _ h hb => h.below hb, st2 := fun _ _ _ _ _ h _ hn ho => h.only hn ho, hal := fun _ _ _ h => by cases h }
/-- A pair and a flag. -/
def PairB (w : World) (v : Value) (a b : NumK) (t : Bool) : Prop := ∃ v1, v = .tuple #[v1, .bool t] ∧ Pair w v1 a b
theorem PairB.below {w w' : World} {v : Value} {a b : NumK} {t : Bool} (h : PairB w v a b t) (hb : Below w.heap.size w w') : PairB w' v a b t := let ⟨v1, h1, h2⟩ := h; ⟨v1, h1, h2.below hb⟩
theorem PairB.only {w w' : World} {g : Nat} {v : Value} {a b : NumK} {t : Bool} (h : PairB w v a b t) (hn : NumFree w g) (ho : Only w w' g) : PairB w' v a b t := let ⟨v1, h1, h2⟩ := h; ⟨v1, h1, h2.only hn ho⟩
def Fact.pairB {base : Nat} (a b : NumK) (t : Bool) : Fact base := { p := fun _ v w => PairB w v a b t, st := fun _ _ _ _ h hb => h.below hb, st2 := fun _ _ _ _ _ h _ hn ho => h.only hn ho, hal := fun _ _ _ h => by cases h }
/-- Box g, of type T, holds a pair. -/
def BoxR (w : World) (g : Nat) (T : TypeId) (a b : NumK) : Prop := ∃ q1 A1 n1 c1 q2 A2 n2 c2, Blk w g T #[.bool q1, .slice A1 n1 c1, .bool q2, .slice A2 n2 c2] ∧ a.p w (.agg #[.bool q1, .slice A1 n1 c1]) ∧ b.p w (.agg #[.bool q2, .slice A2 n2 c2])
theorem BoxR.below {w w' : World} {g : Nat} {T : TypeId} {a b : NumK} (h : BoxR w g T a b) (hb : Below w.heap.size w w') : BoxR w' g T a b :=
  let ⟨q1, A1, n1, c1, q2, A2, n2, c2, hk, h1, h2⟩ := h; ⟨q1, A1, n1, c1, q2, A2, n2, c2, hk.below hb, h1.below hb, h2.below hb⟩
theorem BoxR.only {w w' : World} {g k : Nat} {T : TypeId} {a b : NumK} (h : BoxR w g T a b) (hg : g ≠ k) (hn : NumFree w k) (ho : Only w w' k) : BoxR w' g T a b :=
  let ⟨q1, A1, n1, c1, q2, A2, n2, c2, hk, h1, h2⟩ := h; ⟨q1, A1, n1, c1, q2, A2, n2, c2, hk.only ho hg, h1.only hn ho, h2.only hn ho⟩
theorem BoxR.lt {w : World} {g : Nat} {T : TypeId} {a b : NumK} (h : BoxR w g T a b) : g < w.heap.size := let ⟨_, _, _, _, _, _, _, _, hk, _⟩ := h; hk.lt
/-- A new box for a pair. -/
def Fact.boxR {base : Nat} (T : TypeId) (hT : T ≠ 24) (a b : NumK) : Fact base :=
  { p := fun t v w => ∃ g, v = ptr g ∧ base ≤ g ∧ (t = false → Blk w g T #[.bool false, .slice none 0 0, .bool false, .slice none 0 0]) ∧ (t = true → BoxR w g T a b), al := true,
    st := fun _ _ _ _ ⟨g, h1, h2, h3, h4⟩ hb => ⟨g, h1, h2, fun e => (h3 e).below hb, fun e => (h4 e).below hb⟩,
    st2 := fun _ _ _ _ _ ⟨g, h1, h2, h3, h4⟩ hne hn ho => ⟨g, h1, h2, fun e => (h3 e).only ho (fun e => hne rfl (by rw [h1, e])), fun e => (h4 e).only (fun e => hne rfl (by rw [h1, e])) hn ho⟩,
    hal := fun t _ _ _ ⟨g, h1, h2, h3, h4⟩ => ⟨g, h1, h2, by cases t; exact (h3 rfl).lt; exact (h4 rfl).lt⟩ }
section
variable {o : Oper} {ρ : Operand → Value} {w : World}
theorem ex_build0 (ho : o.op = .build 24 #[]) : (execOp ρ o).run Try.prog w = .ok (.value (.agg #[.bool false, .slice none 0 0])) w := by
  simp only [execOp, ho]; go_simp
theorem ex_buildSlice2 {x y : Operand} {a b c d : Value} (ho : o.op = .buildSlice 82 2 #[(0, x), (1, y)]) (hx : ρ x = .agg #[a, b]) (hy : ρ y = .agg #[c, d]) :
    (execOp ρ o).run Try.prog w = .ok (.value (.slice (some ⟨w.heap.size, 0, none⟩) 2 2)) (w.alloc (.cells #[a, b, c, d] 24)) := by
  simp only [execOp, ho]; go_simp
theorem ex_load_at0 {x : Operand} {g : Nat} {T : TypeId} {q1 : Bool} {A1 : Option Addr} {n1 c1 : Nat} {c d : Value} (ho : o.op = .load 24 x) (hx : ρ x = .pointer (some ⟨g, 0, none⟩)) (hb : Blk w g T #[.bool q1, .slice A1 n1 c1, c, d]) :
    (execOp ρ o).run Try.prog w = .ok (.value (.agg #[.bool q1, .slice A1 n1 c1])) w := by
  have c0 := hb.cell 0
  have c1 := hb.cell 1
  simp only [execOp, ho, hx]
  go_simp
theorem ex_load_at2 {x : Operand} {g : Nat} {T : TypeId} {q1 : Bool} {A1 : Option Addr} {n1 c1 : Nat} {c d : Value} (ho : o.op = .load 24 x) (hx : ρ x = .pointer (some ⟨g, 2, none⟩)) (hb : Blk w g T #[c, d, .bool q1, .slice A1 n1 c1]) :
    (execOp ρ o).run Try.prog w = .ok (.value (.agg #[.bool q1, .slice A1 n1 c1])) w := by
  have c0 := hb.cell 2
  have c1 := hb.cell 3
  simp only [execOp, ho, hx]
  go_simp
theorem ex_buildR {x y : Operand} {q1 q2 : Bool} {A1 A2 : Option Addr} {n1 c1 n2 c2 : Nat} (ho : o.op = .build 26 #[(0, x), (1, y)]) (hx : ρ x = .agg #[.bool q1, .slice A1 n1 c1]) (hy : ρ y = .agg #[.bool q2, .slice A2 n2 c2]) : (execOp ρ o).run Try.prog w = .ok (.value (.agg #[.bool q1, .slice A1 n1 c1, .bool q2, .slice A2 n2 c2])) w := by
  simp only [execOp, ho]; go_simp
theorem ex_loadR {x : Operand} {g : Nat} {q1 q2 : Bool} {A1 A2 : Option Addr} {n1 c1 n2 c2 : Nat} (ho : o.op = .load 26 x) (hx : ρ x = ptr g) (hb : Blk w g 26 #[.bool q1, .slice A1 n1 c1, .bool q2, .slice A2 n2 c2]) : (execOp ρ o).run Try.prog w = .ok (.value (.agg #[.bool q1, .slice A1 n1 c1, .bool q2, .slice A2 n2 c2])) w := by
  have c0 := hb.cell 0
  have c1 := hb.cell 1
  have c2 := hb.cell 2
  have c3 := hb.cell 3
  simp only [execOp, ho, hx, ptr]
  go_simp
theorem ex_fieldAddrR0 {x : Operand} {g : Nat} (ho : o.op = .fieldAddr 26 x 0) (hx : ρ x = ptr g) : (execOp ρ o).run Try.prog w = .ok (.value (.pointer (some ⟨g, 0, none⟩))) w := by
  simp only [execOp, ho, hx, ptr]; go_simp
theorem ex_fieldAddrR1 {x : Operand} {g : Nat} (ho : o.op = .fieldAddr 26 x 1) (hx : ρ x = ptr g) : (execOp ρ o).run Try.prog w = .ok (.value (.pointer (some ⟨g, 2, none⟩))) w := by
  simp only [execOp, ho, hx, ptr]; go_simp
theorem ex_allocR (ho : o.op = .alloc 26) : (execOp ρ o).run Try.prog w = .ok (.value (ptr w.heap.size)) (w.alloc (.cells #[.bool false, .slice none 0 0, .bool false, .slice none 0 0] 26)) := by
  simp only [execOp, ho, ptr]; go_simp
theorem ex_storeR {x y : Operand} {g : Nat} {q1 q2 : Bool} {A1 A2 : Option Addr} {n1 c1 n2 c2 : Nat} {p1 p2 : Bool} {B1 B2 : Option Addr} {m1 d1 m2 d2 : Nat} (ho : o.op = .store 26 x y) (hx : ρ x = ptr g) (hy : ρ y = .agg #[.bool q1, .slice A1 n1 c1, .bool q2, .slice A2 n2 c2]) (hb : Blk w g 26 #[.bool p1, .slice B1 m1 d1, .bool p2, .slice B2 m2 d2]) :
    (execOp ρ o).run Try.prog w = .ok .skip ((((w.setCell ⟨g, 0, none⟩ (.bool q1)).setCell ⟨g, 1, none⟩ (.slice A1 n1 c1)).setCell ⟨g, 2, none⟩ (.bool q2)).setCell ⟨g, 3, none⟩ (.slice A2 n2 c2)) := by
  have c0 := hb.cell 0
  have c1 := hb.cell 1
  have c2 := hb.cell 2
  have c3 := hb.cell 3
  have f0 := hb.free 0
  have f1 := hb.free 1
  have f2 := hb.free 2
  have f3 := hb.free 3
  simp only [execOp, ho, hx, hy, ptr]
  go_simp
theorem ex_buildF {x y : Operand} {q1 q2 : Bool} {A1 A2 : Option Addr} {n1 c1 n2 c2 : Nat} (ho : o.op = .build 56 #[(0, x), (1, y)]) (hx : ρ x = .agg #[.bool q1, .slice A1 n1 c1]) (hy : ρ y = .agg #[.bool q2, .slice A2 n2 c2]) : (execOp ρ o).run Try.prog w = .ok (.value (.agg #[.bool q1, .slice A1 n1 c1, .bool q2, .slice A2 n2 c2])) w := by
  simp only [execOp, ho]; go_simp
theorem ex_fieldAddrF0 {x : Operand} {g : Nat} (ho : o.op = .fieldAddr 56 x 0) (hx : ρ x = ptr g) : (execOp ρ o).run Try.prog w = .ok (.value (.pointer (some ⟨g, 0, none⟩))) w := by
  simp only [execOp, ho, hx, ptr]; go_simp
theorem ex_fieldAddrF1 {x : Operand} {g : Nat} (ho : o.op = .fieldAddr 56 x 1) (hx : ρ x = ptr g) : (execOp ρ o).run Try.prog w = .ok (.value (.pointer (some ⟨g, 2, none⟩))) w := by
  simp only [execOp, ho, hx, ptr]; go_simp
theorem ex_allocF (ho : o.op = .alloc 56) : (execOp ρ o).run Try.prog w = .ok (.value (ptr w.heap.size)) (w.alloc (.cells #[.bool false, .slice none 0 0, .bool false, .slice none 0 0] 56)) := by
  simp only [execOp, ho, ptr]; go_simp
theorem ex_storeF {x y : Operand} {g : Nat} {q1 q2 : Bool} {A1 A2 : Option Addr} {n1 c1 n2 c2 : Nat} {p1 p2 : Bool} {B1 B2 : Option Addr} {m1 d1 m2 d2 : Nat} (ho : o.op = .store 56 x y) (hx : ρ x = ptr g) (hy : ρ y = .agg #[.bool q1, .slice A1 n1 c1, .bool q2, .slice A2 n2 c2]) (hb : Blk w g 56 #[.bool p1, .slice B1 m1 d1, .bool p2, .slice B2 m2 d2]) :
    (execOp ρ o).run Try.prog w = .ok .skip ((((w.setCell ⟨g, 0, none⟩ (.bool q1)).setCell ⟨g, 1, none⟩ (.slice A1 n1 c1)).setCell ⟨g, 2, none⟩ (.bool q2)).setCell ⟨g, 3, none⟩ (.slice A2 n2 c2)) := by
  have c0 := hb.cell 0
  have c1 := hb.cell 1
  have c2 := hb.cell 2
  have c3 := hb.cell 3
  have f0 := hb.free 0
  have f1 := hb.free 1
  have f2 := hb.free 2
  have f3 := hb.free 3
  simp only [execOp, ho, hx, hy, ptr]
  go_simp
theorem ex_zeroR (ho : o.op = .build 26 #[]) : (execOp ρ o).run Try.prog w = .ok (.value (.agg #[.bool false, .slice none 0 0, .bool false, .slice none 0 0])) w := by
  simp only [execOp, ho]; go_simp
end
end Go.Proofs.Ytijmjkkjopplbaa

namespace Go.Proofs.Ytijmjkkjopplbaa
open Go.RowKit
set_option linter.unusedVariables false
set_option maxRecDepth 100000

section
variable {w : World}
theorem Pair.arg {v : Value} {p q : Int} {n : Nat} (h : Pair w v (.V p) (.V q)) (hp : Sm n p) (hq : Sm n q) : Pair w v (.A p n) (.A q n) := by
  obtain ⟨q1, A1, n1, c1, q2, A2, n2, c2, rfl, h1, h2⟩ := h.form
  exact Pair.mk (a := .A p n) (b := .A q n) (IntV.arg h1 hp) (IntV.arg h2 hq)
theorem only_four (w : World) (g : Nat) (x y z t : Value) : Only w ((((w.setCell ⟨g, 0, none⟩ x).setCell ⟨g, 1, none⟩ y).setCell ⟨g, 2, none⟩ z).setCell ⟨g, 3, none⟩ t) g :=
  (((only_set w g 0 x).trans (only_set _ g 1 y)).trans (only_set _ g 2 z)).trans (only_set _ g 3 t)
theorem blk_four {g : Nat} {T : TypeId} {a b c d x y z t : Value} (hb : Blk w g T #[a, b, c, d]) : Blk ((((w.setCell ⟨g, 0, none⟩ x).setCell ⟨g, 1, none⟩ y).setCell ⟨g, 2, none⟩ z).setCell ⟨g, 3, none⟩ t) g T #[x, y, z, t] :=
  (((hb.set 0 _).set 1 _).set 2 _).set 3 _
theorem noNum4' (q1 : Bool) (A1 : Option Addr) (n1 c1 : Nat) (q2 : Bool) (A2 : Option Addr) (n2 c2 : Nat) : ∀ v ∈ (#[Value.bool q1, .slice A1 n1 c1, .bool q2, .slice A2 n2 c2] : Array Value).toList, NoNum v := noNum4 q1 A1 n1 c1 q2 A2 n2 c2
theorem Rne : 26 ≠ 24 := by decide
end
section
variable {Q : Exit → Act → World → Prop} {base : Nat} {fs : List (Fact base)} {ψ : Nat → Bool → World → Prop} {tg : Nat → Nat} {V : Nat → Value} {i : Nat} {o : Oper} {a : Act} {w : World}
theorem ob_ints2 {x y : Operand} {v1 v2 : Value} {A B : NumK} (ho : o.op = .buildSlice 82 2 #[(0, x), (1, y)]) (hx : a.eval x = v1) (h1 : A.p w v1) (hy : a.eval y = v2) (h2 : B.p w v2)
    (hf : fs.getD i (Fact.top base) = Fact.ints2 A B) : Ob Try.prog Q fs ψ tg .val V i o a w := by
  obtain ⟨q1, A1, n1, c1, rfl⟩ := h1.form
  obtain ⟨q2, A2, n2, c2, rfl⟩ := h2.form
  have hb := bw_alloc (Below.refl _ w) (.cells #[.bool q1, .slice A1 n1 c1, .bool q2, .slice A2 n2 c2] 24)
  exact ob_grow (ex_buildSlice2 ho hx hy) hb (by rw [hf]; exact ⟨_, _, _, _, _, _, _, _, _, rfl, Blk.new _ _ _, h1.below hb, h2.below hb⟩)
theorem ob_pairB0 {x : Operand} {v : Value} {A B : NumK} {t : Bool} (ho : o.op = .extract x 0) (hx : a.eval x = v) (hv : PairB w v A B t) (hf : fs.getD i (Fact.top base) = Fact.pair A B) : Ob Try.prog Q fs ψ tg .val V i o a w := by
  obtain ⟨v1, rfl, h1⟩ := hv
  refine ob_pure (v := v1) ?_ (by rw [hf]; exact h1)
  simp only [execOp, ho, hx]; go_simp
theorem ob_pairB1 {x : Operand} {v : Value} {A B : NumK} {t : Bool} (ho : o.op = .extract x 1) (hx : a.eval x = v) (hv : PairB w v A B t) (hf : fs.getD i (Fact.top base) = Fact.eq (.bool t)) : Ob Try.prog Q fs ψ tg .val V i o a w := by
  obtain ⟨v1, rfl, h1⟩ := hv
  refine ob_pure (v := .bool t) ?_ (by rw [hf]; exact rfl)
  simp only [execOp, ho, hx]; go_simp
theorem ob_buildR {x y : Operand} {v1 v2 : Value} {A B : NumK} (ho : o.op = .build 26 #[(0, x), (1, y)]) (hx : a.eval x = v1) (h1 : A.p w v1) (hy : a.eval y = v2) (h2 : B.p w v2)
    (hf : fs.getD i (Fact.top base) = Fact.pair A B) : Ob Try.prog Q fs ψ tg .val V i o a w := by
  obtain ⟨q1, A1, n1, c1, rfl⟩ := h1.form
  obtain ⟨q2, A2, n2, c2, rfl⟩ := h2.form
  exact ob_pure (ex_buildR ho hx hy) (by rw [hf]; exact Pair.mk h1 h2)
theorem ob_allocR {s : Nat} {A B : NumK} (ho : o.op = .alloc 26) (hsz : base ≤ w.heap.size) (hf : fs.getD i (Fact.top base) = Fact.boxR 26 Rne A B) : Ob Try.prog Q fs ψ tg (.alloc s) V i o a w :=
  ob_alloc (ex_allocR ho) (by rw [hf]; exact ⟨_, rfl, hsz, fun _ => Blk.new _ _ _, fun h => by cases h⟩)
theorem ob_fillR {l g : Nat} {x y : Operand} {v : Value} {A B : NumK} (ho : o.op = .store 26 x y) (hx : a.eval x = ptr g) (hy : a.eval y = v) (hV : V l = ptr g) (hbase : base ≤ g)
    (hk : Blk w g 26 #[.bool false, .slice none 0 0, .bool false, .slice none 0 0]) (hv : Pair w v A B)
    (hf : fs.getD l (Fact.top base) = Fact.boxR 26 Rne A B) (hf2 : fs.getD i (Fact.top base) = Fact.top base) : Ob Try.prog Q fs ψ tg (.fill l) V i o a w := by
  obtain ⟨q1, A1, n1, c1, q2, A2, n2, c2, rfl, h1, h2⟩ := hv.form
  have hn := hk.numFree (noNum4' _ _ _ _ _ _ _ _) (fun e => absurd e Rne)
  refine ob_fill (ex_storeR ho hx hy hk) hV hn (only_four _ _ _ _ _ _) ?_ (by rw [hf2]; exact trivial)
  rw [hf]
  exact ⟨g, hV, hbase, fun h => (by cases h), fun _ => ⟨q1, A1, n1, c1, q2, A2, n2, c2, blk_four hk, h1.only hn (only_four _ _ _ _ _ _), h2.only hn (only_four _ _ _ _ _ _)⟩⟩
theorem ob_fillOldR {l : Nat} {x y : Operand} {v : Value} {A B : NumK} {p1 p2 : Bool} {B1 B2 : Option Addr} {m1 d1 m2 d2 : Nat} (ho : o.op = .store 26 x y) (hx : a.eval x = ptr (tg l)) (hy : a.eval y = v)
    (hk : Blk w (tg l) 26 #[.bool p1, .slice B1 m1 d1, .bool p2, .slice B2 m2 d2]) (hv : Pair w v A B)
    (hψ : ∀ w', BoxR w' (tg l) 26 A B → ψ l true w') (hf2 : fs.getD i (Fact.top base) = Fact.top base) : Ob Try.prog Q fs ψ tg (.fillOld l) V i o a w := by
  obtain ⟨q1, A1, n1, c1, q2, A2, n2, c2, rfl, h1, h2⟩ := hv.form
  have hn := hk.numFree (noNum4' _ _ _ _ _ _ _ _) (fun e => absurd e Rne)
  exact ob_fillOld (ex_storeR ho hx hy hk) hn (only_four _ _ _ _ _ _) (hψ _ ⟨q1, A1, n1, c1, q2, A2, n2, c2, blk_four hk, h1.only hn (only_four _ _ _ _ _ _), h2.only hn (only_four _ _ _ _ _ _)⟩) (by rw [hf2]; exact trivial)
theorem Fne : 56 ≠ 24 := by decide
theorem ob_buildF {x y : Operand} {v1 v2 : Value} {A B : NumK} (ho : o.op = .build 56 #[(0, x), (1, y)]) (hx : a.eval x = v1) (h1 : A.p w v1) (hy : a.eval y = v2) (h2 : B.p w v2)
    (hf : fs.getD i (Fact.top base) = Fact.pair A B) : Ob Try.prog Q fs ψ tg .val V i o a w := by
  obtain ⟨q1, A1, n1, c1, rfl⟩ := h1.form
  obtain ⟨q2, A2, n2, c2, rfl⟩ := h2.form
  exact ob_pure (ex_buildF ho hx hy) (by rw [hf]; exact Pair.mk h1 h2)
theorem ob_allocF {s : Nat} {A B : NumK} (ho : o.op = .alloc 56) (hsz : base ≤ w.heap.size) (hf : fs.getD i (Fact.top base) = Fact.boxR 56 Fne A B) : Ob Try.prog Q fs ψ tg (.alloc s) V i o a w :=
  ob_alloc (ex_allocF ho) (by rw [hf]; exact ⟨_, rfl, hsz, fun _ => Blk.new _ _ _, fun h => by cases h⟩)
theorem ob_fillF {l g : Nat} {x y : Operand} {v : Value} {A B : NumK} (ho : o.op = .store 56 x y) (hx : a.eval x = ptr g) (hy : a.eval y = v) (hV : V l = ptr g) (hbase : base ≤ g)
    (hk : Blk w g 56 #[.bool false, .slice none 0 0, .bool false, .slice none 0 0]) (hv : Pair w v A B)
    (hf : fs.getD l (Fact.top base) = Fact.boxR 56 Fne A B) (hf2 : fs.getD i (Fact.top base) = Fact.top base) : Ob Try.prog Q fs ψ tg (.fill l) V i o a w := by
  obtain ⟨q1, A1, n1, c1, q2, A2, n2, c2, rfl, h1, h2⟩ := hv.form
  have hn := hk.numFree (noNum4' _ _ _ _ _ _ _ _) (fun e => absurd e Fne)
  refine ob_fill (ex_storeF ho hx hy hk) hV hn (only_four _ _ _ _ _ _) ?_ (by rw [hf2]; exact trivial)
  rw [hf]
  exact ⟨g, hV, hbase, fun h => (by cases h), fun _ => ⟨q1, A1, n1, c1, q2, A2, n2, c2, blk_four hk, h1.only hn (only_four _ _ _ _ _ _), h2.only hn (only_four _ _ _ _ _ _)⟩⟩
theorem ob_fillOldF {l : Nat} {x y : Operand} {v : Value} {A B : NumK} {p1 p2 : Bool} {B1 B2 : Option Addr} {m1 d1 m2 d2 : Nat} (ho : o.op = .store 56 x y) (hx : a.eval x = ptr (tg l)) (hy : a.eval y = v)
    (hk : Blk w (tg l) 56 #[.bool p1, .slice B1 m1 d1, .bool p2, .slice B2 m2 d2]) (hv : Pair w v A B)
    (hψ : ∀ w', BoxR w' (tg l) 56 A B → ψ l true w') (hf2 : fs.getD i (Fact.top base) = Fact.top base) : Ob Try.prog Q fs ψ tg (.fillOld l) V i o a w := by
  obtain ⟨q1, A1, n1, c1, q2, A2, n2, c2, rfl, h1, h2⟩ := hv.form
  have hn := hk.numFree (noNum4' _ _ _ _ _ _ _ _) (fun e => absurd e Fne)
  exact ob_fillOld (ex_storeF ho hx hy hk) hn (only_four _ _ _ _ _ _) (hψ _ ⟨q1, A1, n1, c1, q2, A2, n2, c2, blk_four hk, h1.only hn (only_four _ _ _ _ _ _), h2.only hn (only_four _ _ _ _ _ _)⟩) (by rw [hf2]; exact trivial)
end
end Go.Proofs.Ytijmjkkjopplbaa

namespace Go.Proofs.Ytijmjkkjopplbaa
open Go.RowKit
set_option linter.unusedVariables false
set_option maxRecDepth 100000

section
theorem ex_leq_int {ρ : Operand → Value} {o : Oper} {w : World} {x y : Operand} {p q : Int} (ho : o.op = .binOp .leq 3 x y 3) (hx : ρ x = .int .i64 p) (hy : ρ y = .int .i64 q) :
    (execOp ρ o).run Try.prog w = .ok (.value (.bool (decide (p ≤ q)))) w := by
  simp only [execOp, ho, hx, hy]; go_simp
theorem ex_gtr_int {ρ : Operand → Value} {o : Oper} {w : World} {x y : Operand} {p q : Int} (ho : o.op = .binOp .gtr 3 x y 3) (hx : ρ x = .int .i64 p) (hy : ρ y = .int .i64 q) :
    (execOp ρ o).run Try.prog w = .ok (.value (.bool (decide (q < p)))) w := by
  simp only [execOp, ho, hx, hy]; go_simp
theorem ex_pick_true {ρ : Operand → Value} {o : Oper} {w : World} {x y z : Operand} {v : Value} (ho : o.op = .pick x y z) (hx : ρ x = .bool true) (hy : ρ y = v) : (execOp ρ o).run Try.prog w = .ok (.value v) w := by
  simp only [execOp, ho, hx, hy]; go_simp
theorem ex_pick_false {ρ : Operand → Value} {o : Oper} {w : World} {x y z : Operand} {v : Value} (ho : o.op = .pick x y z) (hx : ρ x = .bool false) (hz : ρ z = v) : (execOp ρ o).run Try.prog w = .ok (.value v) w := by
  simp only [execOp, ho, hx, hz]; go_simp
theorem ex_add_str {ρ : Operand → Value} {o : Oper} {w : World} {x y : Operand} {s t : ByteArray} (ho : o.op = .binOp .add 9 x y 9) (hx : ρ x = .string s) (hy : ρ y = .string t) (hst : s.size + t.size ≤ 9223372036854775807) : (execOp ρ o).run Try.prog w = .ok (.value (.string (s ++ t))) w := by
  simp only [execOp, ho, hx, hy]; go_simp
variable {Q : Exit → Act → World → Prop} {base : Nat} {fs : List (Fact base)} {ψ : Nat → Bool → World → Prop} {tg : Nat → Nat} {V : Nat → Value} {i : Nat} {o : Oper} {a : Act} {w : World}
end
/-- Numerator and denominator have at most n limbs. -/
def RS (n : Nat) (x : Rat) : Prop := Sm n x.num ∧ Sm n (x.den : Int)
theorem den_pos (x : Rat) : (0 : Int) < (x.den : Int) := by have := x.den_nz; omega
theorem RS.to {m n : Nat} {x : Rat} (h : RS m x) (hn : m ≤ n) : RS n x := ⟨h.1.to hn, h.2.to hn⟩
theorem RS.of {n : Nat} {p q : Int} (hp : Sm n p) (hq : Sm n q) (h1 : 1 ≤ n) : RS n (Rat.divInt p q) := by
  have h := of_sm hp hq h1
  have := rat_sm h.1 h.2 (ofD_pos p q)
  rw [of_val] at this
  exact this
theorem RS.neg {n : Nat} {x : Rat} (h : RS n x) : RS n (-x) := by
  unfold RS
  rw [Rat.neg_num, Rat.neg_den]
  exact ⟨h.1.opp, h.2⟩
theorem RS.add {m n k : Nat} {x y : Rat} (hx : RS m x) (hy : RS n y) (hk : m + n < k) : RS k (x + y) := by
  have e := add_divInt (p := x.num) (r := y.num) (den_pos x) (den_pos y)
  rw [Rat.num_divInt_den, Rat.num_divInt_den] at e
  rw [← e]
  exact rat_sm ((hx.1.times hy.2 (Nat.le_refl _)).plus (hy.1.times hx.2 (show n + m ≤ m + n by omega)) hk hk) (hx.2.times hy.2 (by omega)) (Int.mul_pos (den_pos x) (den_pos y))
theorem RS.floor {n : Nat} {x : Rat} (hx : RS n x) : Sm n x.floor := by
  rw [Rat.floor_def]; exact hx.1.quo
/-- An argument that denotes x. -/
def RatA (w : World) (v : Value) (x : Rat) (n : Nat) : Prop := ∃ p q, Pair w v (.A p n) (.A q n) ∧ Rat.divInt p q = x
/-- The canonical pair of x. -/
def RatV (w : World) (v : Value) (x : Rat) : Prop := Pair w v (.V x.num) (.V (x.den : Int))
theorem RatA.below {w w' : World} {v : Value} {x : Rat} {n : Nat} (h : RatA w v x n) (hb : Below w.heap.size w w') : RatA w' v x n := let ⟨p, q, h1, h2⟩ := h; ⟨p, q, h1.below hb, h2⟩
theorem RatA.only {w w' : World} {g : Nat} {v : Value} {x : Rat} {n : Nat} (h : RatA w v x n) (hn : NumFree w g) (ho : Only w w' g) : RatA w' v x n := let ⟨p, q, h1, h2⟩ := h; ⟨p, q, h1.only hn ho, h2⟩
theorem RatV.below {w w' : World} {v : Value} {x : Rat} (h : RatV w v x) (hb : Below w.heap.size w w') : RatV w' v x := Pair.below h hb
theorem RatV.only {w w' : World} {g : Nat} {v : Value} {x : Rat} (h : RatV w v x) (hn : NumFree w g) (ho : Only w w' g) : RatV w' v x := Pair.only h hn ho
theorem RatV.arg {w : World} {v : Value} {x : Rat} {n : Nat} (h : RatV w v x) (hs : RS n x) : RatA w v x n := ⟨_, _, Pair.arg h hs.1 hs.2, Rat.num_divInt_den x⟩
theorem RatA.of {w : World} {v : Value} {p q : Int} {n : Nat} (h : Pair w v (.A p n) (.A q n)) : RatA w v (Rat.divInt p q) n := ⟨p, q, h, rfl⟩
theorem Pair.sm1 {w : World} {v : Value} {p q : Int} {n : Nat} (h : Pair w v (.A p n) (.A q n)) : Sm n p := by
  obtain ⟨_, _, _, _, _, _, _, _, _, h1, _⟩ := h.form
  exact IntA.sm h1
theorem Pair.sm2 {w : World} {v : Value} {p q : Int} {n : Nat} (h : Pair w v (.A p n) (.A q n)) : Sm n q := by
  obtain ⟨_, _, _, _, _, _, _, _, _, _, h2⟩ := h.form
  exact IntA.sm h2
theorem RatA.rs {w : World} {v : Value} {x : Rat} {n : Nat} (h : RatA w v x n) (h1 : 1 ≤ n) : RS n x := by
  obtain ⟨p, q, h2, rfl⟩ := h
  exact RS.of h2.sm1 h2.sm2 h1
theorem Pair.mono {w : World} {v : Value} {p q : Int} {n m : Nat} (h : Pair w v (.A p n) (.A q n)) (hm : n ≤ m) : Pair w v (.A p m) (.A q m) := by
  obtain ⟨_, _, _, _, _, _, _, _, rfl, h1, h2⟩ := h.form
  exact Pair.mk (a := .A p m) (b := .A q m) (IntA.mono h1 hm) (IntA.mono h2 hm)
theorem RatA.mono {w : World} {v : Value} {x : Rat} {n m : Nat} (h : RatA w v x n) (hm : n ≤ m) : RatA w v x m := let ⟨p, q, h1, h2⟩ := h; ⟨p, q, h1.mono hm, h2⟩
theorem NumK.mapA {w : World} {a : NumK} {x : Int} {n : Nat} (f : ∀ u, a.p w u → IntA w u x n) : ∀ u, a.p w u → (NumK.A x n).p w u := f
theorem Pair.mapA {w : World} {v : Value} {A B : NumK} {a b : Int} {n m : Nat} (h : Pair w v A B) (f : ∀ {u : Value}, A.p w u → IntA w u a n) (g : ∀ {u : Value}, B.p w u → IntA w u b m) : Pair w v (.A a n) (.A b m) := by
  obtain ⟨_, _, _, _, _, _, _, _, rfl, h1, h2⟩ := h.form
  exact Pair.mk (a := .A a n) (b := .A b m) (f h1) (g h2)
theorem Ints2.mapA {w : World} {v : Value} {A B : NumK} {a b : Int} {n m : Nat} (h : Ints2 w v A B) (f : ∀ {u : Value}, A.p w u → IntA w u a n) (g : ∀ {u : Value}, B.p w u → IntA w u b m) : Ints2 w v (.A a n) (.A b m) := by
  obtain ⟨g', q1, A1, n1, c1, q2, A2, n2, c2, e, hk, h1, h2⟩ := h
  exact ⟨g', q1, A1, n1, c1, q2, A2, n2, c2, e, hk, f h1, g h2⟩
def half : Rat := Rat.divInt 1 2
theorem RS.half : RS 1 half := RS.of (Sm.one (n := 1) (by decide) (by decide)) (Sm.one (n := 2) (by decide) (by decide)) (by decide)
/-- A function hands back the canonical pair of x. -/
def RetR (w : World) (x : Rat) (e : Ending) : Prop := ∃ v, e = .returned v ∧ RatV w v x
theorem RetR.val {w : World} {q1 q2 : Bool} {A1 A2 : Option Addr} {n1 c1 n2 c2 : Nat} {x : Rat} (h1 : IntV w (.agg #[.bool q1, .slice A1 n1 c1]) x.num) (h2 : IntV w (.agg #[.bool q2, .slice A2 n2 c2]) (x.den : Int)) :
    RatV w (.agg #[.bool q1, .slice A1 n1 c1, .bool q2, .slice A2 n2 c2]) x := Pair.mk (a := .V x.num) (b := .V (x.den : Int)) h1 h2
theorem RS.int {n : Nat} {a : Int} (h : Sm n a) (h1 : 1 ≤ n) : RS n ((a : Int) : Rat) := by
  unfold RS
  rw [Rat.num_intCast, Rat.den_intCast]
  exact ⟨h, (Sm.one (n := 1) (by decide) (by decide)).to h1⟩
end Go.Proofs.Ytijmjkkjopplbaa

namespace Go.Proofs.Ytijmjkkjopplbaa
open Go.RowKit
set_option linter.unusedVariables false
set_option maxRecDepth 100000

/-- A pair and an error. -/
def PairE (w : World) (v : Value) (a b : NumK) (c : Int) : Prop := ∃ v1, v = .tuple #[v1, .int .i64 c] ∧ Pair w v1 a b
theorem PairE.below {w w' : World} {v : Value} {a b : NumK} {c : Int} (h : PairE w v a b c) (hb : Below w.heap.size w w') : PairE w' v a b c := let ⟨v1, h1, h2⟩ := h; ⟨v1, h1, h2.below hb⟩
theorem PairE.only {w w' : World} {g : Nat} {v : Value} {a b : NumK} {c : Int} (h : PairE w v a b c) (hn : NumFree w g) (ho : Only w w' g) : PairE w' v a b c := let ⟨v1, h1, h2⟩ := h; ⟨v1, h1, h2.only hn ho⟩
def Fact.pairE {base : Nat} (a b : NumK) (c : Int) : Fact base := { p := fun _ v w => PairE w v a b c, st := fun _ _ _ _ h hb => h.below hb, st2 := fun _ _ _ _ _ h _ hn ho => h.only hn ho, hal := fun _ _ _ h => by cases h }
theorem ex_eql_err {ρ : Operand → Value} {o : Oper} {w : World} {x y : Operand} {p q : Int} (ho : o.op = .binOp .eql 40 x y 40) (hx : ρ x = .int .i64 p) (hy : ρ y = .int .i64 q) :
    (execOp ρ o).run Try.prog w = .ok (.value (.bool (p == q))) w := by
  simp only [execOp, ho, hx, hy]; go_simp
theorem ex_eql_str {ρ : Operand → Value} {o : Oper} {w : World} {x y : Operand} {s t : ByteArray} (ho : o.op = .binOp .eql 9 x y 9) (hx : ρ x = .string s) (hy : ρ y = .string t) (h : s = t) :
    (execOp ρ o).run Try.prog w = .ok (.value (.bool true)) w := by
  subst h
  simp only [execOp, ho, hx, hy]; go_simp
section
variable {Q : Exit → Act → World → Prop} {base : Nat} {fs : List (Fact base)} {ψ : Nat → Bool → World → Prop} {tg : Nat → Nat} {V : Nat → Value} {i : Nat} {o : Oper} {a : Act} {w : World}
theorem ob_pairE0 {x : Operand} {v : Value} {A B : NumK} {c : Int} (ho : o.op = .extract x 0) (hx : a.eval x = v) (hv : PairE w v A B c) (hf : fs.getD i (Fact.top base) = Fact.pair A B) : Ob Try.prog Q fs ψ tg .val V i o a w := by
  obtain ⟨v1, rfl, h1⟩ := hv
  refine ob_pure (v := v1) ?_ (by rw [hf]; exact h1)
  simp only [execOp, ho, hx]; go_simp
theorem ob_pairE1 {x : Operand} {v : Value} {A B : NumK} {c : Int} (ho : o.op = .extract x 1) (hx : a.eval x = v) (hv : PairE w v A B c) (hf : fs.getD i (Fact.top base) = Fact.eq (.int .i64 c)) : Ob Try.prog Q fs ψ tg .val V i o a w := by
  obtain ⟨v1, rfl, h1⟩ := hv
  refine ob_pure (v := .int .i64 c) ?_ (by rw [hf]; exact rfl)
  simp only [execOp, ho, hx]; go_simp
end
end Go.Proofs.Ytijmjkkjopplbaa

namespace Go.Proofs.Ytijmjkkjopplbaa
open Go.RowKit
set_option linter.unusedVariables false
set_option maxRecDepth 100000

/-- The k Rats of block g: their cells. -/
def RatsAt (w : World) (g k : Nat) (s1 : Nat → Bool) (A1 : Nat → Option Addr) (n1 c1 : Nat → Nat) (s2 : Nat → Bool) (A2 : Nat → Option Addr) (n2 c2 : Nat → Nat) : Prop :=
  ∀ j, j < k → w.cell? ⟨g, j * 4, none⟩ = some (.bool (s1 j)) ∧ w.cell? ⟨g, j * 4 + 1, none⟩ = some (.slice (A1 j) (n1 j) (c1 j)) ∧ w.cell? ⟨g, j * 4 + 2, none⟩ = some (.bool (s2 j)) ∧ w.cell? ⟨g, j * 4 + 3, none⟩ = some (.slice (A2 j) (n2 j) (c2 j))
theorem RatsAt.below {w w' : World} {g k : Nat} {s1 : Nat → Bool} {A1 : Nat → Option Addr} {n1 c1 : Nat → Nat} {s2 : Nat → Bool} {A2 : Nat → Option Addr} {n2 c2 : Nat → Nat} (h : RatsAt w g k s1 A1 n1 c1 s2 A2 n2 c2) (hb : Below w.heap.size w w') : RatsAt w' g k s1 A1 n1 c1 s2 A2 n2 c2 :=
  fun j hj => let ⟨a, b, c, d⟩ := h j hj; ⟨cell_below hb a, cell_below hb b, cell_below hb c, cell_below hb d⟩
set_option maxHeartbeats 4000000 in
theorem longR_any (w : World) (g k : Nat) (s1 : Nat → Bool) (A1 : Nat → Option Addr) (n1 c1 : Nat → Nat) (s2 : Nat → Bool) (A2 : Nat → Option Addr) (n2 c2 : Nat → Nat) (hk : k ≤ 3) (h : RatsAt w g k s1 A1 n1 c1 s2 A2 n2 c2)
    (i : Nat) (hi : i ≤ k) (hs : ∀ j, j < i → n1 j ≤ 8 ∧ n2 j ≤ 8) (hl : i < k → 8 < n1 i ∨ 8 < n2 i) :
    Calls Try.prog 15 #[.slice (some ⟨g, 0, none⟩) k k] w fun e w' => e = .returned (.bool (decide (i < k))) ∧ Below w.heap.size w w' := by
  have H := hid h
  have HS := hid hs
  have HL := hid hl
  have HB := hid (Below.refl w.heap.size w)
  clear h hs hl
  go_enter Try.func15, Try.ntmps15
  go_wp2
  go_loopw [7] (fun iv wr => ∃ j : Nat, iv = .int .i64 (j : Int) ∧ j ≤ i ∧ Hid (Below w.heap.size w wr)) (fun v _ => k - (intOf v).toNat)
  case atStart => exact ⟨0, rfl, by omega, HB⟩
  case round =>
    clear HB
    obtain ⟨j, rfl, hj, HB⟩ := hrel
    have H := hid (H.out.below HB.out)
    by_cases hjk : j < k
    · have hd : decide ((j : Int) < (k : Int)) = true := by rw [decide_eq_true_eq]; omega
      obtain ⟨u0, u1, u2, u3⟩ := H.out j hjk
      go_wp2
      case roundEnd =>
        rename_i hx1 hx2
        have hji : j < i := by
          rcases Nat.lt_or_ge j i with h | h
          · exact h
          · have : j = i := by omega
            subst this
            have := HL.out hjk
            omega
        refine ⟨⟨j + 1, by go_num, by omega, hid (bw_alloc HB.out _)⟩, ?_⟩
        simp [intOf]
        omega
      all_goals
        have hji : i < k := by
          rcases Nat.lt_or_ge j i with h | h
          · have := HS.out j h
            omega
          · omega
        have e : decide (i < k) = true := decide_eq_true hji
        rw [e]
        go_ret
        exact ⟨rfl, bw_alloc HB.out _⟩
    · have hd : decide ((j : Int) < (k : Int)) = false := by rw [decide_eq_false_iff_not]; omega
      have e : decide (i < k) = false := by rw [decide_eq_false_iff_not]; omega
      go_wp2
      rw [e]
      go_ret
      exact ⟨rfl, HB.out⟩
end Go.Proofs.Ytijmjkkjopplbaa

namespace Go.Proofs.Ytijmjkkjopplbaa
open Go.RowKit
set_option linter.unusedVariables false
set_option maxRecDepth 100000

theorem long1 (w : World) (g : Nat) (s01 : Bool) (A01 : Option Addr) (n01 c01 : Nat) (s02 : Bool) (A02 : Option Addr) (n02 c02 : Nat) (hb : Blk w g 26 #[.bool s01, .slice A01 n01 c01, .bool s02, .slice A02 n02 c02]) (b : Bool) (h : b = true ↔ (8 < n01 ∨ 8 < n02)) :
    Calls Try.prog 15 #[.slice (some ⟨g, 0, none⟩) 1 1] w fun e w' => e = .returned (.bool b) ∧ Below w.heap.size w w' := by
  have H : RatsAt w g 1 (fun j => match j with | _ => s01) (fun j => match j with | _ => A01) (fun j => match j with | _ => n01) (fun j => match j with | _ => c01) (fun j => match j with | _ => s02) (fun j => match j with | _ => A02) (fun j => match j with | _ => n02) (fun j => match j with | _ => c02) := by
    intro j hj
    rcases j with _ | j
    · exact ⟨hb.cell 0, hb.cell 1, hb.cell 2, hb.cell 3⟩
    omega
  by_cases h0 : 8 < n01 ∨ 8 < n02
  · have e : b = decide (0 < 1) := by rw [h.2 (by omega)]; rfl
    rw [e]
    exact longR_any w g 1 _ _ _ _ _ _ _ _ (by decide) H 0 (by decide) (fun j hj => by omega) (fun _ => h0)
  have hf : b = false := by cases hh : b with | false => rfl | true => have := h.1 hh; omega
  have e : b = decide (1 < 1) := by rw [hf]; rfl
  rw [e]
  exact longR_any w g 1 _ _ _ _ _ _ _ _ (by decide) H 1 (by decide) (fun j hj => by rcases j with _ | j; (show n01 ≤ 8 ∧ n02 ≤ 8; omega); omega) (fun h => by omega)
theorem long2 (w : World) (g : Nat) (s01 : Bool) (A01 : Option Addr) (n01 c01 : Nat) (s02 : Bool) (A02 : Option Addr) (n02 c02 : Nat) (s11 : Bool) (A11 : Option Addr) (n11 c11 : Nat) (s12 : Bool) (A12 : Option Addr) (n12 c12 : Nat) (hb : Blk w g 26 #[.bool s01, .slice A01 n01 c01, .bool s02, .slice A02 n02 c02, .bool s11, .slice A11 n11 c11, .bool s12, .slice A12 n12 c12]) (b : Bool) (h : b = true ↔ (8 < n01 ∨ 8 < n02 ∨ 8 < n11 ∨ 8 < n12)) :
    Calls Try.prog 15 #[.slice (some ⟨g, 0, none⟩) 2 2] w fun e w' => e = .returned (.bool b) ∧ Below w.heap.size w w' := by
  have H : RatsAt w g 2 (fun j => match j with | 0 => s01 | _ => s11) (fun j => match j with | 0 => A01 | _ => A11) (fun j => match j with | 0 => n01 | _ => n11) (fun j => match j with | 0 => c01 | _ => c11) (fun j => match j with | 0 => s02 | _ => s12) (fun j => match j with | 0 => A02 | _ => A12) (fun j => match j with | 0 => n02 | _ => n12) (fun j => match j with | 0 => c02 | _ => c12) := by
    intro j hj
    rcases j with _ | j
    · exact ⟨hb.cell 0, hb.cell 1, hb.cell 2, hb.cell 3⟩
    rcases j with _ | j
    · exact ⟨hb.cell 4, hb.cell 5, hb.cell 6, hb.cell 7⟩
    omega
  by_cases h0 : 8 < n01 ∨ 8 < n02
  · have e : b = decide (0 < 2) := by rw [h.2 (by omega)]; rfl
    rw [e]
    exact longR_any w g 2 _ _ _ _ _ _ _ _ (by decide) H 0 (by decide) (fun j hj => by omega) (fun _ => h0)
  by_cases h1 : 8 < n11 ∨ 8 < n12
  · have e : b = decide (1 < 2) := by rw [h.2 (by omega)]; rfl
    rw [e]
    exact longR_any w g 2 _ _ _ _ _ _ _ _ (by decide) H 1 (by decide) (fun j hj => by rcases j with _ | j; (show n01 ≤ 8 ∧ n02 ≤ 8; omega); omega) (fun _ => h1)
  have hf : b = false := by cases hh : b with | false => rfl | true => have := h.1 hh; omega
  have e : b = decide (2 < 2) := by rw [hf]; rfl
  rw [e]
  exact longR_any w g 2 _ _ _ _ _ _ _ _ (by decide) H 2 (by decide) (fun j hj => by rcases j with _ | j; (show n01 ≤ 8 ∧ n02 ≤ 8; omega); rcases j with _ | j; (show n11 ≤ 8 ∧ n12 ≤ 8; omega); omega) (fun h => by omega)
theorem long3 (w : World) (g : Nat) (s01 : Bool) (A01 : Option Addr) (n01 c01 : Nat) (s02 : Bool) (A02 : Option Addr) (n02 c02 : Nat) (s11 : Bool) (A11 : Option Addr) (n11 c11 : Nat) (s12 : Bool) (A12 : Option Addr) (n12 c12 : Nat) (s21 : Bool) (A21 : Option Addr) (n21 c21 : Nat) (s22 : Bool) (A22 : Option Addr) (n22 c22 : Nat) (hb : Blk w g 26 #[.bool s01, .slice A01 n01 c01, .bool s02, .slice A02 n02 c02, .bool s11, .slice A11 n11 c11, .bool s12, .slice A12 n12 c12, .bool s21, .slice A21 n21 c21, .bool s22, .slice A22 n22 c22]) (b : Bool) (h : b = true ↔ (8 < n01 ∨ 8 < n02 ∨ 8 < n11 ∨ 8 < n12 ∨ 8 < n21 ∨ 8 < n22)) :
    Calls Try.prog 15 #[.slice (some ⟨g, 0, none⟩) 3 3] w fun e w' => e = .returned (.bool b) ∧ Below w.heap.size w w' := by
  have H : RatsAt w g 3 (fun j => match j with | 0 => s01 | 1 => s11 | _ => s21) (fun j => match j with | 0 => A01 | 1 => A11 | _ => A21) (fun j => match j with | 0 => n01 | 1 => n11 | _ => n21) (fun j => match j with | 0 => c01 | 1 => c11 | _ => c21) (fun j => match j with | 0 => s02 | 1 => s12 | _ => s22) (fun j => match j with | 0 => A02 | 1 => A12 | _ => A22) (fun j => match j with | 0 => n02 | 1 => n12 | _ => n22) (fun j => match j with | 0 => c02 | 1 => c12 | _ => c22) := by
    intro j hj
    rcases j with _ | j
    · exact ⟨hb.cell 0, hb.cell 1, hb.cell 2, hb.cell 3⟩
    rcases j with _ | j
    · exact ⟨hb.cell 4, hb.cell 5, hb.cell 6, hb.cell 7⟩
    rcases j with _ | j
    · exact ⟨hb.cell 8, hb.cell 9, hb.cell 10, hb.cell 11⟩
    omega
  by_cases h0 : 8 < n01 ∨ 8 < n02
  · have e : b = decide (0 < 3) := by rw [h.2 (by omega)]; rfl
    rw [e]
    exact longR_any w g 3 _ _ _ _ _ _ _ _ (by decide) H 0 (by decide) (fun j hj => by omega) (fun _ => h0)
  by_cases h1 : 8 < n11 ∨ 8 < n12
  · have e : b = decide (1 < 3) := by rw [h.2 (by omega)]; rfl
    rw [e]
    exact longR_any w g 3 _ _ _ _ _ _ _ _ (by decide) H 1 (by decide) (fun j hj => by rcases j with _ | j; (show n01 ≤ 8 ∧ n02 ≤ 8; omega); omega) (fun _ => h1)
  by_cases h2 : 8 < n21 ∨ 8 < n22
  · have e : b = decide (2 < 3) := by rw [h.2 (by omega)]; rfl
    rw [e]
    exact longR_any w g 3 _ _ _ _ _ _ _ _ (by decide) H 2 (by decide) (fun j hj => by rcases j with _ | j; (show n01 ≤ 8 ∧ n02 ≤ 8; omega); rcases j with _ | j; (show n11 ≤ 8 ∧ n12 ≤ 8; omega); omega) (fun _ => h2)
  have hf : b = false := by cases hh : b with | false => rfl | true => have := h.1 hh; omega
  have e : b = decide (3 < 3) := by rw [hf]; rfl
  rw [e]
  exact longR_any w g 3 _ _ _ _ _ _ _ _ (by decide) H 3 (by decide) (fun j hj => by rcases j with _ | j; (show n01 ≤ 8 ∧ n02 ≤ 8; omega); rcases j with _ | j; (show n11 ≤ 8 ∧ n12 ≤ 8; omega); rcases j with _ | j; (show n21 ≤ 8 ∧ n22 ≤ 8; omega); omega) (fun h => by omega)
end Go.Proofs.Ytijmjkkjopplbaa

