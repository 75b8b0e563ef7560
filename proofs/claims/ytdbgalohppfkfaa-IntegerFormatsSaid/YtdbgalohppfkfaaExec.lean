/- What single operations do, in a region that draws its order. -/
import Derived.Test.YtdbgalohppfkfaaOps
import Derived.Test.YtdbgalohppfkfaaField
namespace Go.Proofs.Ytdbgalohppfkfaa
open Go.RowKit
set_option linter.unusedVariables false

theorem ev_const (a : Act) (v : Value) : a.eval (.const v) = v := rfl
section
variable {o : Oper} {ρ : Operand → Value} {w : World}
theorem ex_load_int {x : Operand} {g : Nat} {q : Bool} {A : Option Addr} {n c : Nat} (ho : o.op = .load 24 x) (hx : ρ x = ptr g) (hb : Blk w g 24 #[.bool q, .slice A n c]) :
    (execOp ρ o).run Try.prog w = .ok (.value (.agg #[.bool q, .slice A n c])) w := by
  have c0 := hb.cell 0
  have c1 := hb.cell 1
  simp only [execOp, ho, hx, ptr]
  go_simp
/-- This number is that of a function with a body. -/
def isGo (P : Program) (f : FuncId) : Bool := match P.funcs[f]? with | some fn => fn.name != "runtime.NumGoroutine" && fn.body.isSome | none => false
theorem run_call {f : FuncId} (vs : Array Value) (hfn : isGo Try.prog f = true) : (callFunc f vs).run Try.prog w = .ok (.enter f vs) w := by
  unfold isGo at hfn
  unfold callFunc
  cases hf : Try.prog.funcs[f]? with
  | none => rw [hf] at hfn; cases hfn
  | some fn =>
    rw [hf] at hfn
    simp only [Bool.and_eq_true, bne_iff_ne, ne_eq] at hfn
    obtain ⟨h1, h2⟩ := hfn
    obtain ⟨b, hb⟩ := Option.isSome_iff_exists.1 h2
    simp [go_sem, hf, h1, hb]
theorem ex_call {f : FuncId} {args : Array Operand} {ts : Array TypeId} {vs : Array Value} (ho : o.op = .call { callee := .value (.func f), args := args, argTypes := ts }) (hf : ρ (.func f) = .func (.func f) #[] #[]) (hv : args.map ρ = vs) (hfn : isGo Try.prog f = true) :
    (execOp ρ o).run Try.prog w = .ok (.enter f vs) w := by
  have h := run_call (w := w) vs hfn
  simp only [execOp, ho, resolve, hf, hv]
  go_simp
theorem ex_alloc_int (ho : o.op = .alloc 24) : (execOp ρ o).run Try.prog w = .ok (.value (ptr w.heap.size)) (w.alloc (.cells #[.bool false, .slice none 0 0] 24)) := by
  simp only [execOp, ho, ptr]
  go_simp
theorem ex_store_int {x y : Operand} {g : Nat} {q q' : Bool} {A A' : Option Addr} {n c n' c' : Nat} (ho : o.op = .store 24 x y) (hx : ρ x = ptr g) (hy : ρ y = .agg #[.bool q, .slice A n c]) (hb : Blk w g 24 #[.bool q', .slice A' n' c']) :
    (execOp ρ o).run Try.prog w = .ok .skip ((w.setCell ⟨g, 0, none⟩ (.bool q)).setCell ⟨g, 1, none⟩ (.slice A n c)) := by
  have c0 := hb.cell 0
  have c1 := hb.cell 1
  have f0 := hb.free 0
  have f1 := hb.free 1
  simp only [execOp, ho, hx, hy, ptr]
  go_simp
theorem ex_fieldAddr {x : Operand} {g : Nat} (k : Nat) (hk : k = 0 ∨ k = 1) (ho : o.op = .fieldAddr 24 x k) (hx : ρ x = ptr g) : (execOp ρ o).run Try.prog w = .ok (.value (.pointer (some ⟨g, k, none⟩))) w := by
  rcases hk with rfl | rfl <;>
  · simp only [execOp, ho, hx, ptr]
    go_simp
theorem ex_load_neg {x : Operand} {g : Nat} {q : Bool} {A : Option Addr} {n c : Nat} (ho : o.op = .load 4 x) (hx : ρ x = .pointer (some ⟨g, 0, none⟩)) (hb : Blk w g 24 #[.bool q, .slice A n c]) :
    (execOp ρ o).run Try.prog w = .ok (.value (.bool q)) w := by
  have c0 := hb.cell 0
  simp only [execOp, ho, hx]
  go_simp
theorem ex_load_mag {x : Operand} {g : Nat} {q : Bool} {A : Option Addr} {n c : Nat} (ho : o.op = .load 22 x) (hx : ρ x = .pointer (some ⟨g, 1, none⟩)) (hb : Blk w g 24 #[.bool q, .slice A n c]) :
    (execOp ρ o).run Try.prog w = .ok (.value (.slice A n c)) w := by
  have c1 := hb.cell 1
  simp only [execOp, ho, hx]
  go_simp
theorem ex_neq_bool {x y : Operand} {p q : Bool} (ho : o.op = .binOp .neq 4 x y 4) (hx : ρ x = .bool p) (hy : ρ y = .bool q) : (execOp ρ o).run Try.prog w = .ok (.value (.bool (p != q))) w := by
  simp only [execOp, ho, hx, hy]
  go_simp
  cases p <;> cases q <;> rfl
theorem ex_field_mag {x : Operand} {q : Bool} {s : Value} (ho : o.op = .field 24 x 1) (hx : ρ x = .agg #[.bool q, s]) : (execOp ρ o).run Try.prog w = .ok (.value s) w := by
  have h := field_mag q s w
  simp only [execOp, ho, hx]
  go_simp
theorem ex_move {x : Operand} (ho : o.op = .move x) : (execOp ρ o).run Try.prog w = .ok (.value (ρ x)) w := by
  simp only [execOp, ho]; rfl
theorem ex_moveV {x : Operand} {v : Value} (ho : o.op = .move x) (hx : ρ x = v) : (execOp ρ o).run Try.prog w = .ok (.value v) w := by
  simp only [execOp, ho, hx]; rfl
theorem ex_assignV {x : Operand} {v : Value} (ho : o.op = .assign x) (hx : ρ x = v) : (execOp ρ o).run Try.prog w = .ok (.value v) w := by
  simp only [execOp, ho, hx]; rfl
theorem ex_assign {x : Operand} (ho : o.op = .assign x) : (execOp ρ o).run Try.prog w = .ok (.value (ρ x)) w := by
  simp only [execOp, ho]; rfl
end

section
variable {Q : Exit → Act → World → Prop} {base : Nat} {fs : List (Fact base)} {ψ : Nat → Bool → World → Prop} {tg : Nat → Nat} {V : Nat → Value} {i : Nat} {o : Oper} {a : Act} {w : World}
theorem blk_fill {g : Nat} {q q' : Bool} {A A' : Option Addr} {n c n' c' : Nat} (hb : Blk w g 24 #[.bool q', .slice A' n' c']) :
    Blk ((w.setCell ⟨g, 0, none⟩ (.bool q)).setCell ⟨g, 1, none⟩ (.slice A n c)) g 24 #[.bool q, .slice A n c] := (hb.set 0 _).set 1 _
theorem only_two (w : World) (g : Nat) (x y : Value) : Only w ((w.setCell ⟨g, 0, none⟩ x).setCell ⟨g, 1, none⟩ y) g := (only_set w g 0 x).trans (only_set _ g 1 y)
theorem ob_load_int {x : Operand} {g : Nat} {q : Bool} {A : Option Addr} {n c : Nat} (ho : o.op = .load 24 x) (hx : a.eval x = ptr g) (hb : Blk w g 24 #[.bool q, .slice A n c])
    (hf : fs.getD i (Fact.top base) = Fact.eq (.agg #[.bool q, .slice A n c])) : Ob Try.prog Q fs ψ tg .val V i o a w :=
  ob_pure (ex_load_int ho hx hb) (by rw [hf]; exact rfl)
theorem ob_alloc_int {s : Nat} {z : Int} (ho : o.op = .alloc 24) (hsz : base ≤ w.heap.size) (hf : fs.getD i (Fact.top base) = Fact.box z) : Ob Try.prog Q fs ψ tg (.alloc s) V i o a w :=
  ob_alloc (ex_alloc_int ho) (by rw [hf]; exact ⟨_, rfl, hsz, BoxI.new _⟩)
theorem ob_fill_int {l g : Nat} {x y : Operand} {v : Value} {z z0 : Int} (ho : o.op = .store 24 x y) (hx : a.eval x = ptr g) (hy : a.eval y = v) (hV : V l = ptr g) (hbase : base ≤ g) (hb : BoxI w g z0) (hv : IntV w v z)
    (hf : fs.getD l (Fact.top base) = Fact.box z) (hf2 : fs.getD i (Fact.top base) = Fact.top base) : Ob Try.prog Q fs ψ tg (.fill l) V i o a w := by
  obtain ⟨q', A', n', c', hk, _⟩ := id hb
  obtain ⟨q, A, n, c, rfl⟩ := hv.form
  refine ob_fill (ex_store_int ho hx hy hk) hV hb.numFree (only_two _ _ _ _) ?_ (by rw [hf2]; exact trivial)
  rw [hf]
  exact ⟨g, hV, hbase, q, A, n, c, blk_fill hk, hv.only hb.numFree (only_two _ _ _ _)⟩
theorem ob_fillOld_int {l : Nat} {x y : Operand} {v : Value} {z : Int} {q' : Bool} {A' : Option Addr} {n' c' : Nat} (ho : o.op = .store 24 x y) (hx : a.eval x = ptr (tg l)) (hy : a.eval y = v) (hk : Blk w (tg l) 24 #[.bool q', .slice A' n' c']) (hv : IntV w v z)
    (hψ : ∀ w', BoxI w' (tg l) z → ψ l true w') (hf2 : fs.getD i (Fact.top base) = Fact.top base) : Ob Try.prog Q fs ψ tg (.fillOld l) V i o a w := by
  have hb := hk.numFree (noNum_int _ _ _ _)
  obtain ⟨q, A, n, c, rfl⟩ := hv.form
  exact ob_fillOld (ex_store_int ho hx hy hk) hb (only_two _ _ _ _) (hψ _ ⟨q, A, n, c, blk_fill hk, hv.only hb (only_two _ _ _ _)⟩) (by rw [hf2]; exact trivial)
theorem ob_go {f : FuncId} {args : Array Operand} {ts : Array TypeId} {vs : Array Value} {R : Ending → World → Prop} (ho : o.op = .call { callee := .value (.func f), args := args, argTypes := ts }) (hv : args.map a.eval = vs) (hfn : isGo Try.prog f = true)
    (hc : Calls Try.prog f vs w R) (hR : ∀ e w', R e w' → ∃ v, e = .returned v ∧ Below w.heap.size w w' ∧ (fs.getD i (Fact.top base)).p false v w') : Ob Try.prog Q fs ψ tg .val V i o a w :=
  ob_call (ex_call ho rfl hv hfn) (hc.mono hR)
end
end Go.Proofs.Ytdbgalohppfkfaa
