/- A part of the proof of the laws of rationals: Ops, Exec, Boxes. -/
import Derived.Test.YtijmjkkjopplbaaPac
import Derived.Test.YtijmjkkjopplbaaPab
import Derived.Test.YtijmjkkjopplbaaPaa
import Derived.Test.YtijmjkkjopplbaaPak
namespace Go.Proofs.Ytijmjkkjopplbaa
open Go.RowKit
set_option linter.unusedVariables false
set_option maxRecDepth 100000

/-- Block g holds just these cells, of this type, none of them frozen. -/
def Blk (w : World) (g : Nat) (T : TypeId) (cs : Array Value) : Prop := w.heap[g]? = some (.cells cs T)
theorem Blk.new (w : World) (T : TypeId) (cs : Array Value) : Blk (w.alloc (.cells cs T)) w.heap.size T cs := by unfold Blk World.alloc; simp
theorem Blk.lt {w : World} {g : Nat} {T : TypeId} {cs : Array Value} (h : Blk w g T cs) : g < w.heap.size := by
  rcases Nat.lt_or_ge g w.heap.size with h1 | h1
  · exact h1
  · unfold Blk at h; rw [Array.getElem?_eq_none h1] at h; cases h
theorem Blk.below {w w' : World} {g : Nat} {T : TypeId} {cs : Array Value} (h : Blk w g T cs) (hb : Below w.heap.size w w') : Blk w' g T cs := by
  have := h.lt
  unfold Blk at h ⊢
  rw [hb.block g this]; exact h
theorem Blk.only {w w' : World} {g k : Nat} {T : TypeId} {cs : Array Value} (h : Blk w g T cs) (ho : Only w w' k) (hk : g ≠ k) : Blk w' g T cs := by
  unfold Blk at h ⊢
  rw [ho.block g hk]; exact h
theorem Blk.cell {w : World} {g : Nat} {T : TypeId} {cs : Array Value} (h : Blk w g T cs) (o : Nat) : w.cell? ⟨g, o, none⟩ = cs[o]? := by
  unfold World.cell?
  unfold Blk at h
  simp [h]
theorem Blk.free {w : World} {g : Nat} {T : TypeId} {cs : Array Value} (h : Blk w g T cs) (o : Nat) : w.frozen? ⟨g, o, none⟩ = false := by
  unfold World.frozen?
  unfold Blk at h
  simp [h]
theorem Blk.bx {w : World} {g : Nat} {T : TypeId} {a b : Value} (h : Blk w g T #[a, b]) : Bx w g a b := ⟨h.cell 0, h.cell 1, h.free 0, h.free 1⟩
theorem Blk.set {w : World} {g : Nat} {T : TypeId} {cs : Array Value} (h : Blk w g T cs) (o : Nat) (y : Value) : Blk (w.setCell ⟨g, o, none⟩ y) g T (cs.setIfInBounds o y) := by
  unfold Blk at h ⊢
  unfold World.setCell
  rw [Array.getElem?_modify]
  simp [h]
def NoNum (v : Value) : Prop := ∀ n, v ≠ .int .u32 n
theorem Blk.numFree {w : World} {g : Nat} {T : TypeId} {cs : Array Value} (h : Blk w g T cs) (hc : ∀ v ∈ cs.toList, NoNum v) (hw : T = 24 → cs.size ≤ 2 := by intro _; simp) : NumFree w g := ⟨fun o n e => by
  rw [h.cell o] at e
  exact hc _ (by have := Array.mem_of_getElem? e; simpa using this) n rfl, fun cs' e => by
  unfold Blk at h
  rw [h] at e
  injection e with e
  injection e with e1 e2
  subst e1
  exact hw e2⟩
theorem only_set (w : World) (g o : Nat) (y : Value) : Only w (w.setCell ⟨g, o, none⟩ y) g :=
  ⟨rfl, rfl, rfl, by unfold World.setCell; simp, fun b hb => by unfold World.setCell; rw [Array.getElem?_modify, if_neg (Ne.symm hb)]⟩
theorem Only.refl (w : World) (g : Nat) : Only w w g := ⟨rfl, rfl, rfl, rfl, fun _ _ => rfl⟩
theorem Only.trans {w w' w2 : World} {g : Nat} (h : Only w w' g) (k : Only w' w2 g) : Only w w2 g :=
  ⟨k.os.trans h.os, k.tape.trans h.tape, k.output.trans h.output, k.size.trans h.size, fun b hb => (k.block b hb).trans (h.block b hb)⟩

theorem SlV.only {w w' : World} {g : Nat} {s : Value} {xs : List Int} (h : SlV w s xs) (hn : NumFree w g) (ho : Only w w' g) : SlV w' s xs := by
  obtain ⟨A, c, h1, h2, h3, h4⟩ := h
  refine ⟨A, c, h1, h2, h3, fun h0 => ?_⟩
  obtain ⟨b, o, e, hcl⟩ := h4 h0
  refine ⟨b, o, e, fun j hj => ?_⟩
  have hj' := hcl j hj
  have hb : b ≠ g := fun e => by subst e; exact hn.1 _ _ hj'
  unfold World.cell? at hj' ⊢
  rw [ho.block b hb]; exact hj'
theorem IntV.only {w w' : World} {g : Nat} {v : Value} {z : Int} (h : IntV w v z) (hn : NumFree w g) (ho : Only w w' g) : IntV w' v z :=
  let ⟨a, b, c, h1, h2, h3⟩ := h; ⟨a, b, c, h1, h2.only hn ho, h3⟩
theorem IntA.only {w w' : World} {g : Nat} {v : Value} {z : Int} {n : Nat} (h : IntA w v z n) (hn : NumFree w g) (ho : Only w w' g) : IntA w' v z n :=
  let ⟨a, b, c, h1, h2, h3⟩ := h; ⟨a, b, c, h1, h2.only hn ho, h3⟩

/-- Box g holds the canonical Int of z. -/
def BoxI (w : World) (g : Nat) (z : Int) : Prop := ∃ q A n c, Blk w g 24 #[.bool q, .slice A n c] ∧ IntV w (.agg #[.bool q, .slice A n c]) z
theorem noNum_int (q : Bool) (A : Option Addr) (n c : Nat) : ∀ v ∈ (#[Value.bool q, Value.slice A n c] : Array Value).toList, NoNum v := fun v hv => by
  simp at hv
  rcases hv with rfl | rfl <;> intro n <;> simp
theorem BoxI.below {w w' : World} {g : Nat} {z : Int} (h : BoxI w g z) (hb : Below w.heap.size w w') : BoxI w' g z := let ⟨q, A, n, c, h1, h2⟩ := h; ⟨q, A, n, c, h1.below hb, h2.below hb⟩
theorem BoxI.only {w w' : World} {g k : Nat} {z : Int} (h : BoxI w g z) (hk : g ≠ k) (hn : NumFree w k) (ho : Only w w' k) : BoxI w' g z := let ⟨q, A, n, c, h1, h2⟩ := h; ⟨q, A, n, c, h1.only ho hk, h2.only hn ho⟩
theorem BoxI.numFree {w : World} {g : Nat} {z : Int} (h : BoxI w g z) : NumFree w g := let ⟨q, A, n, c, h1, h2⟩ := h; h1.numFree (noNum_int q A n c)
theorem BoxI.lt {w : World} {g : Nat} {z : Int} (h : BoxI w g z) : g < w.heap.size := let ⟨q, A, n, c, h1, h2⟩ := h; h1.lt
theorem BoxI.new (w : World) : BoxI (w.alloc (.cells #[.bool false, .slice none 0 0] 24)) w.heap.size 0 := ⟨_, _, _, _, Blk.new _ _ _, IntV.zero _⟩

def Fact.int {base : Nat} (z : Int) : Fact base := { p := fun _ v w => IntV w v z, st := fun _ _ _ _ h hb => h.below hb, st2 := fun _ _ _ _ _ h _ hn ho => h.only hn ho, hal := fun _ _ _ h => by cases h }
def Fact.slv {base : Nat} (xs : List Int) : Fact base := { p := fun _ v w => SlV w v xs, st := fun _ _ _ _ h hb => h.below hb, st2 := fun _ _ _ _ _ h _ hn ho => h.only hn ho, hal := fun _ _ _ h => by cases h }
/-- A slice that reads as the canonical limbs of this number. -/
def LimV (w : World) (s : Value) (z : Int) : Prop := ∃ xs, SlV w s xs ∧ Lb xs ∧ Cn xs ∧ nv xs = z
theorem LimV.below {w w' : World} {s : Value} {z : Int} (h : LimV w s z) (hb : Below w.heap.size w w') : LimV w' s z := let ⟨xs, h1, h2⟩ := h; ⟨xs, h1.below hb, h2⟩
theorem LimV.only {w w' : World} {g : Nat} {s : Value} {z : Int} (h : LimV w s z) (hn : NumFree w g) (ho : Only w w' g) : LimV w' s z := let ⟨xs, h1, h2⟩ := h; ⟨xs, h1.only hn ho, h2⟩
theorem IntV.mag {w : World} {q : Bool} {s : Value} {z : Int} (h : IntV w (.agg #[.bool q, s]) z) : LimV w s (z.natAbs : Int) := by
  obtain ⟨g', s', xs, e, h1, h2, h3, h4, h5⟩ := h
  simp only [Value.agg.injEq, Array.mk.injEq, List.cons.injEq, and_true, Value.bool.injEq] at e
  obtain ⟨rfl, rfl⟩ := e
  refine ⟨xs, h1, h2, h3, ?_⟩
  have := nv_nonneg h2
  cases q with
  | false => rw [sg_false] at h5; omega
  | true => rw [sg_true] at h5; omega
def Fact.lim {base : Nat} (z : Int) : Fact base := { p := fun _ v w => LimV w v z, st := fun _ _ _ _ h hb => h.below hb, st2 := fun _ _ _ _ _ h _ hn ho => h.only hn ho, hal := fun _ _ _ h => by cases h }
/-- A new box; when it is filled it holds z. -/
def Fact.box {base : Nat} (z : Int) : Fact base :=
  { p := fun b v w => ∃ g, v = ptr g ∧ base ≤ g ∧ BoxI w g (if b = true then z else 0), al := true,
    st := fun _ _ _ _ ⟨g, h1, h2, h3⟩ hb => ⟨g, h1, h2, h3.below hb⟩,
    st2 := fun _ _ _ _ _ ⟨g, h1, h2, h3⟩ hne hn ho => ⟨g, h1, h2, h3.only (fun e => hne rfl (by rw [h1, e])) hn ho⟩,
    hal := fun _ _ _ _ ⟨g, h1, h2, h3⟩ => ⟨g, h1, h2, h3.lt⟩ }

section
variable {P : Program} {Q : Exit → Act → World → Prop} {base : Nat} {fs : List (Fact base)} {ψ : Nat → Bool → World → Prop} {tg : Nat → Nat} {V : Nat → Value} {i : Nat} {o : Oper} {a : Act} {w : World}
theorem ob_pure {v : Value} (h : (execOp a.eval o).run P w = .ok (.value v) w) (hp : (fs.getD i (Fact.top base)).p false v w) : Ob P Q fs ψ tg .val V i o a w := by
  show Oper.wp P o a w _ Q
  unfold Oper.wp
  rw [h]
  exact ⟨v, rfl, Below.refl _ _, hp⟩
theorem ob_grow {v : Value} {w' : World} (h : (execOp a.eval o).run P w = .ok (.value v) w') (hb : Below w.heap.size w w') (hp : (fs.getD i (Fact.top base)).p false v w') : Ob P Q fs ψ tg .val V i o a w := by
  show Oper.wp P o a w _ Q
  unfold Oper.wp
  rw [h]
  exact ⟨v, rfl, hb, hp⟩
theorem ob_call {f : FuncId} {args : Array Value} (h : (execOp a.eval o).run P w = .ok (.enter f args) w)
    (hc : Calls P f args w fun e w' => ∃ v, e = .returned v ∧ Below w.heap.size w w' ∧ (fs.getD i (Fact.top base)).p false v w') : Ob P Q fs ψ tg .val V i o a w := by
  show Oper.wp P o a w _ Q
  unfold Oper.wp
  rw [h]
  refine hc.mono fun e w' ⟨v, he, hb, hp⟩ => ?_
  subst he
  exact ⟨v, rfl, hb, hp⟩
theorem ob_alloc {s : Nat} {ob : Obj} (h : (execOp a.eval o).run P w = .ok (.value (ptr w.heap.size)) (w.alloc ob)) (hp : (fs.getD i (Fact.top base)).p false (ptr w.heap.size) (w.alloc ob)) : Ob P Q fs ψ tg (.alloc s) V i o a w := by
  show Oper.wp P o a w _ Q
  unfold Oper.wp
  rw [h]
  exact ⟨rfl, bw_alloc (Below.refl _ _) _, hp⟩
theorem ob_fill {l g : Nat} {w' : World} (h : (execOp a.eval o).run P w = .ok .skip w') (hg : V l = ptr g) (hn : NumFree w g) (ho : Only w w' g) (hp : (fs.getD l (Fact.top base)).p true (V l) w') (hp2 : (fs.getD i (Fact.top base)).p false undef w') :
    Ob P Q fs ψ tg (.fill l) V i o a w := by
  show Oper.wp P o a w _ Q
  unfold Oper.wp
  rw [h]
  exact ⟨g, rfl, hg, hn, ho, hp, hp2⟩
theorem ob_fillOld {l : Nat} {w' : World} (h : (execOp a.eval o).run P w = .ok .skip w') (hn : NumFree w (tg l)) (ho : Only w w' (tg l)) (hp : ψ l true w') (hp2 : (fs.getD i (Fact.top base)).p false undef w') :
    Ob P Q fs ψ tg (.fillOld l) V i o a w := by
  show Oper.wp P o a w _ Q
  unfold Oper.wp
  rw [h]
  exact ⟨rfl, hn, ho, hp, hp2⟩
end

/-- The frame behind the region, written out. -/
def puts : List Oper → Nat → (Nat → Value) → Act → Act
  | [], _, _, a => a
  | o :: r, k, V, a => puts r (k + 1) V (a.put o.dst (V k))
theorem puts_size (l : List Oper) (k : Nat) (V : Nat → Value) (a : Act) : (puts l k V a).tmps.size = a.tmps.size := by
  induction l generalizing k a with
  | nil => rfl
  | cons o r ih => unfold puts; rw [ih, put_size]
theorem puts_defers (l : List Oper) (k : Nat) (V : Nat → Value) (a : Act) : (puts l k V a).defers = a.defers := by
  induction l generalizing k a with
  | nil => rfl
  | cons o r ih => unfold puts; rw [ih, put_defers']
theorem slot_puts_none (l : List Oper) (k : Nat) (V : Nat → Value) (a : Act) (t : Nat) (h : ∀ o ∈ l, o.dst ≠ some t) : slot (puts l k V a) t = slot a t := by
  induction l generalizing k a with
  | nil => rfl
  | cons o r ih =>
    unfold puts
    rw [ih _ _ (fun o' ho' => h o' (List.mem_cons_of_mem _ ho')), slot_put_other _ _ _ _ (h o (List.mem_cons_self ..))]
theorem slot_puts_some (l : List Oper) (k : Nat) (V : Nat → Value) (a : Act) (t i : Nat) (ht : t < a.tmps.size) (hi : (l[i]?).bind (·.dst) = some t) (hu : ∀ j, j ≠ i → (l[j]?).bind (·.dst) ≠ some t) :
    slot (puts l k V a) t = V (k + i) := by
  induction l generalizing k a i with
  | nil => simp at hi
  | cons o r ih =>
    unfold puts
    cases i with
    | zero =>
      have hd : o.dst = some t := by simpa using hi
      rw [slot_puts_none _ _ _ _ _ (fun o' ho' e => ?_), hd, slot_put_same _ _ _ ht]
      · rfl
      · obtain ⟨j, hj, rfl⟩ := List.getElem_of_mem ho'
        exact hu (j + 1) (by omega) (by simp [List.getElem?_eq_getElem hj, e])
    | succ i =>
      rw [ih (k + 1) (a.put o.dst (V k)) i (by rw [put_size]; exact ht) (by simpa using hi) (fun j hj => by have := hu (j + 1) (by omega); simpa using this)]
      congr 1; omega
theorem FrameOk.lit {ops : Array Oper} {a0 a : Act} {V : Nat → Value} {n : Nat} (h : FrameOk ops a0 (fun i => decide (i < ops.size)) V a) (hs : shapeG ops n = true) (hn : n = a0.tmps.size) : a = puts ops.toList 0 V a0 := by
  have key : ∀ t, t < a0.tmps.size → slot a t = slot (puts ops.toList 0 V a0) t := fun t ht => by
    by_cases hx : ∃ i, dstOf ops i = some t
    · obtain ⟨i, hi⟩ := hx
      have hlt : i < ops.size := by
        rcases Nat.lt_or_ge i ops.size with h1 | h1
        · exact h1
        · unfold dstOf at hi; rw [Array.getElem?_eq_none h1] at hi; cases hi
      have ho : ops[i]? = some ops[i] := Array.getElem?_eq_getElem hlt
      rw [h.new i t (by simpa using hlt) hi, slot_puts_some _ _ _ _ t i ht (by unfold dstOf at hi; simpa using hi) (fun j hj => ?_), Nat.zero_add]
      have := (shape_spec hs ho).2 t (by unfold dstOf at hi; rw [ho] at hi; exact hi)
      have h2 := this.2 j hj
      unfold dstOf at h2
      simpa using h2
    · rw [h.old t (fun i _ e => hx ⟨i, e⟩), slot_puts_none]
      intro o ho e
      obtain ⟨j, hj, rfl⟩ := List.getElem_of_mem ho
      refine hx ⟨j, ?_⟩
      unfold dstOf
      have hj' : j < ops.size := by simpa using hj
      rw [Array.getElem?_eq_getElem hj']
      simpa using e
  have hsz : (puts ops.toList 0 V a0).tmps.size = a0.tmps.size := puts_size ..
  have e1 : a.tmps = (puts ops.toList 0 V a0).tmps := by
    refine Array.ext (by rw [h.size, hsz]) fun t h1 h2 => ?_
    have := key t (by rw [← h.size]; exact h1)
    unfold slot at this
    simpa [Array.getD_eq_getD_getElem?, h1, h2] using this
  have e2 : a.defers = (puts ops.toList 0 V a0).defers := by rw [puts_defers, h.defers]
  cases a
  cases hp : puts ops.toList 0 V a0
  rw [hp] at e1 e2
  simp at e1 e2
  rw [e1, e2]
/-- Each operation, one behind the other. -/
def EachOp (S : Nat → Oper → Prop) : Nat → List Oper → Prop
  | _, [] => True
  | k, o :: r => S k o ∧ EachOp S (k + 1) r
theorem EachOp.get {S : Nat → Oper → Prop} {k : Nat} {l : List Oper} (h : EachOp S k l) (i : Nat) (o : Oper) (ho : l[i]? = some o) : S (k + i) o := by
  induction l generalizing k i with
  | nil => simp at ho
  | cons x r ih =>
    cases i with
    | zero => simp at ho; subst ho; exact h.1
    | succ i =>
      have := ih h.2 i (by simpa using ho)
      rwa [show k + 1 + i = k + (i + 1) by omega] at this
/-- An operation that must have come up ahead. -/
theorem dep_of {o : Oper} {L : Nat → Bool} (hdep : ∀ e ∈ o.after, Region.binds .any e = true → L e.on = true) (k : Nat) (h : (o.after.any fun e => Region.binds .any e && e.on == k) = true) : L k = true := by
  obtain ⟨e, he, h5⟩ := Array.any_eq_true'.1 h
  rw [Bool.and_eq_true, beq_iff_eq] at h5
  rw [← h5.2]
  exact hdep e he h5.1
/-- An operation that waits for one that has not come up. -/
def waitsB (ops : Array Oper) (s i : Nat) : Bool := match ops[s]? with | none => false | some o => o.after.any fun e => Region.binds .any e && e.on == i
theorem not_yet {ops : Array Oper} {L : Nat → Bool} (hcl : ∀ j o, L j = true → ops[j]? = some o → ∀ e ∈ o.after, Region.binds .any e = true → L e.on = true) (s i : Nat) (hL : L i = false) (h : waitsB ops s i = true) : L s = false := by
  unfold waitsB at h
  cases hs : L s with
  | false => rfl
  | true =>
    cases ho : ops[s]? with
    | none => rw [ho] at h; cases h
    | some o =>
      rw [ho] at h
      obtain ⟨e, he, h5⟩ := Array.any_eq_true'.1 h
      rw [Bool.and_eq_true, beq_iff_eq] at h5
      have := hcl s o hs ho e he h5.1
      rw [h5.2, hL] at this
      cases this
/-- A slot that no operation of the region writes. -/
def noDst (ops : Array Oper) (t : Nat) : Bool := ops.all fun o => o.dst != some t
theorem old_slot {ops : Array Oper} {a0 a : Act} {L : Nat → Bool} {V : Nat → Value} (hf : FrameOk ops a0 L V a) (t : Nat) (h : noDst ops t = true) : a.eval (.tmp t) = slot a0 t := by
  refine hf.old t fun i _ e => ?_
  unfold dstOf at e
  cases ho : ops[i]? with
  | none => rw [ho] at e; cases e
  | some o =>
    rw [ho] at e
    have := Array.all_eq_true'.1 h o (Array.mem_of_getElem? ho)
    have e' : o.dst = some t := e
    rw [e'] at this
    simp at this
theorem new_slot {ops : Array Oper} {a0 a : Act} {L : Nat → Bool} {V : Nat → Value} (hf : FrameOk ops a0 L V a) (i t : Nat) (hi : L i = true) (h : dstOf ops i = some t) : a.eval (.tmp t) = V i := hf.new i t hi h

theorem wp_run_each {P : Program} {Q : Exit → Act → World → Prop} (d : Option (Nat × Bool)) {l : List Oper} {a0 : Act} {W : World} (hm : P.follows .mixedOrders = true) (m n : Nat) (hlm : l.length = m) (hn : n = a0.tmps.size) (hs : shapeG l.toArray n = true)
    (fs : List (Fact W.heap.size)) (ro : List Role) (G : World → Prop) (ψ : Nat → Bool → World → Prop) (sT : List Nat) (tg : Nat → Nat) (hro : rolesB l.toArray ro (fs.map Fact.al) sT = true)
    (hG0 : G W) (hG1 : ∀ w w', G w → Below w.heap.size w w' → G w') (hG2 : ∀ w w' g, G w → (W.heap.size ≤ g ∨ ∃ l, l < sT.length ∧ g = tg l) → NumFree w g → Only w w' g → G w')
    (hψ0 : ∀ l, l < sT.length → ψ l false W) (hψ1 : ∀ l b w w', l < sT.length → ψ l b w → Below w.heap.size w w' → ψ l b w') (hψ2 : ∀ l b w w' g, l < sT.length → ψ l b w → g ≠ tg l → NumFree w g → Only w w' g → ψ l b w')
    (htg : ∀ l, l < sT.length → tg l < W.heap.size) (htn : ∀ l k, l < sT.length → k < sT.length → l ≠ k → tg l ≠ tg k)
    (hstep : EachOp (fun i o => ∀ L V a w, FrameOk l.toArray a0 L V a → G w → W.heap.size ≤ w.heap.size → (∀ j, L j = true → (fs.getD j (Fact.top _)).p ((ro.getD j .val).al && L (ro.getD j .val).st) (V j) w) →
      (∀ l, l < sT.length → ψ l (L (sT.getD l 0)) w) → L i = false → (∀ e ∈ o.after, Region.binds .any e = true → L e.on = true) → (∀ j o, L j = true → l.toArray[j]? = some o → ∀ e ∈ o.after, Region.binds .any e = true → L e.on = true) → ObG P l.toArray Q fs ψ tg (ro.getD i .val) V i o a w) 0 l)
    (hend : ∀ V w, G w → W.heap.size ≤ w.heap.size → (∀ j, j < m → (fs.getD j (Fact.top _)).p (ro.getD j .val).al (V j) w) → (∀ l, l < sT.length → ψ l true w) →
      (∀ i j, i ≠ j → (ro.getD i .val).al = true → (ro.getD j .val).al = true → V i ≠ V j) → Q .normal (puts l 0 V a0) w) : Run P l.toArray Q a0 W d := by
  refine wp_region_facts (d := d) hm n hn hs fs ro G ψ sT tg hro hG0 hG1 hG2 hψ0 hψ1 hψ2 htg htn (fun i o ho L V a w hf hg hsz hL hφ hψ hdep hcl => ?_) (fun V a w hf hg hsz hφ hψ hne => ?_)
  · have := hstep.get i o (by simpa using ho)
    rw [Nat.zero_add] at this
    exact this L V a w hf hg hsz hφ hψ hL hdep hcl
  · have e := hf.lit hs hn
    rw [e]
    exact hend V w hg hsz (fun j hj => hφ j (by simpa [hlm] using hj)) hψ hne
theorem wp_region_eachG {P : Program} {Q : Exit → Act → World → Prop} {id : Nat} {d : Bool} {l : List Oper} {a0 : Act} {W : World} (hm : P.follows .mixedOrders = true) (m n : Nat) (hlm : l.length = m) (hn : n = a0.tmps.size) (hs : shapeG l.toArray n = true)
    (fs : List (Fact W.heap.size)) (ro : List Role) (G : World → Prop) (ψ : Nat → Bool → World → Prop) (sT : List Nat) (tg : Nat → Nat) (hro : rolesB l.toArray ro (fs.map Fact.al) sT = true)
    (hG0 : G W) (hG1 : ∀ w w', G w → Below w.heap.size w w' → G w') (hG2 : ∀ w w' g, G w → (W.heap.size ≤ g ∨ ∃ l, l < sT.length ∧ g = tg l) → NumFree w g → Only w w' g → G w')
    (hψ0 : ∀ l, l < sT.length → ψ l false W) (hψ1 : ∀ l b w w', l < sT.length → ψ l b w → Below w.heap.size w w' → ψ l b w') (hψ2 : ∀ l b w w' g, l < sT.length → ψ l b w → g ≠ tg l → NumFree w g → Only w w' g → ψ l b w')
    (htg : ∀ l, l < sT.length → tg l < W.heap.size) (htn : ∀ l k, l < sT.length → k < sT.length → l ≠ k → tg l ≠ tg k)
    (hstep : EachOp (fun i o => ∀ L V a w, FrameOk l.toArray a0 L V a → G w → W.heap.size ≤ w.heap.size → (∀ j, L j = true → (fs.getD j (Fact.top _)).p ((ro.getD j .val).al && L (ro.getD j .val).st) (V j) w) →
      (∀ l, l < sT.length → ψ l (L (sT.getD l 0)) w) → L i = false → (∀ e ∈ o.after, Region.binds .any e = true → L e.on = true) → (∀ j o, L j = true → l.toArray[j]? = some o → ∀ e ∈ o.after, Region.binds .any e = true → L e.on = true) → ObG P l.toArray Q fs ψ tg (ro.getD i .val) V i o a w) 0 l)
    (hend : ∀ V w, G w → W.heap.size ≤ w.heap.size → (∀ j, j < m → (fs.getD j (Fact.top _)).p (ro.getD j .val).al (V j) w) → (∀ l, l < sT.length → ψ l true w) →
      (∀ i j, i ≠ j → (ro.getD i .val).al = true → (ro.getD j .val).al = true → V i ≠ V j) → Q .normal (puts l 0 V a0) w) : (Code.region id l.toArray d).wp P Q a0 W :=
  wp_run_each (some (id, d)) hm m n hlm hn hs fs ro G ψ sT tg hro hG0 hG1 hG2 hψ0 hψ1 hψ2 htg htn hstep hend
theorem wanted_none {ops : Array Oper} {o : Oper} {ts : Array Value} (h : o.guard = none) : Region.wanted o (yielded ops ts) = true := by unfold Region.wanted; rw [h]
theorem EachOp.imp {S T : Nat → Oper → Prop} {k : Nat} {l : List Oper} (h : EachOp S k l) (hi : ∀ i o, l[i]? = some o → S (k + i) o → T (k + i) o) : EachOp T k l := by
  induction l generalizing k with
  | nil => trivial
  | cons x r ih =>
    refine ⟨by have := hi 0 x rfl; simpa using this h.1, ih h.2 fun i o ho hs => ?_⟩
    have := hi (i + 1) o (by simpa using ho)
    rw [show k + (i + 1) = k + 1 + i by omega] at this
    exact this hs
theorem wp_region_each {P : Program} {Q : Exit → Act → World → Prop} {id : Nat} {d : Bool} {l : List Oper} {a0 : Act} {W : World} (hm : P.follows .mixedOrders = true) (m n : Nat) (hlm : l.length = m) (hn : n = a0.tmps.size) (hs : shapeB l.toArray n = true)
    (fs : List (Fact W.heap.size)) (ro : List Role) (G : World → Prop) (ψ : Nat → Bool → World → Prop) (sT : List Nat) (tg : Nat → Nat) (hro : rolesB l.toArray ro (fs.map Fact.al) sT = true)
    (hG0 : G W) (hG1 : ∀ w w', G w → Below w.heap.size w w' → G w') (hG2 : ∀ w w' g, G w → (W.heap.size ≤ g ∨ ∃ l, l < sT.length ∧ g = tg l) → NumFree w g → Only w w' g → G w')
    (hψ0 : ∀ l, l < sT.length → ψ l false W) (hψ1 : ∀ l b w w', l < sT.length → ψ l b w → Below w.heap.size w w' → ψ l b w') (hψ2 : ∀ l b w w' g, l < sT.length → ψ l b w → g ≠ tg l → NumFree w g → Only w w' g → ψ l b w')
    (htg : ∀ l, l < sT.length → tg l < W.heap.size) (htn : ∀ l k, l < sT.length → k < sT.length → l ≠ k → tg l ≠ tg k)
    (hstep : EachOp (fun i o => ∀ L V a w, FrameOk l.toArray a0 L V a → G w → W.heap.size ≤ w.heap.size → (∀ j, L j = true → (fs.getD j (Fact.top _)).p ((ro.getD j .val).al && L (ro.getD j .val).st) (V j) w) →
      (∀ l, l < sT.length → ψ l (L (sT.getD l 0)) w) → L i = false → (∀ e ∈ o.after, Region.binds .any e = true → L e.on = true) → (∀ j o, L j = true → l.toArray[j]? = some o → ∀ e ∈ o.after, Region.binds .any e = true → L e.on = true) → Ob P Q fs ψ tg (ro.getD i .val) V i o a w) 0 l)
    (hend : ∀ V w, G w → W.heap.size ≤ w.heap.size → (∀ j, j < m → (fs.getD j (Fact.top _)).p (ro.getD j .val).al (V j) w) → (∀ l, l < sT.length → ψ l true w) →
      (∀ i j, i ≠ j → (ro.getD i .val).al = true → (ro.getD j .val).al = true → V i ≠ V j) → Q .normal (puts l 0 V a0) w) : (Code.region id l.toArray d).wp P Q a0 W :=
  wp_run_each (some (id, d)) hm m n hlm hn (shapeG_of hs) fs ro G ψ sT tg hro hG0 hG1 hG2 hψ0 hψ1 hψ2 htg htn (hstep.imp fun i o ho h L V a w h1 h2 h3 h4 h5 h6 h7 h8 => .inl ⟨wanted_none (shapeB_guard hs (by simpa using ho)), h L V a w h1 h2 h3 h4 h5 h6 h7 h8⟩) hend
theorem wp_list_each {P : Program} {Q : Exit → Act → World → Prop} {l : List Oper} {a0 : Act} {W : World} (hm : P.follows .mixedOrders = true) (m n : Nat) (hlm : l.length = m) (hn : n = a0.tmps.size) (hs : shapeB l.toArray n = true)
    (fs : List (Fact W.heap.size)) (ro : List Role) (G : World → Prop) (ψ : Nat → Bool → World → Prop) (sT : List Nat) (tg : Nat → Nat) (hro : rolesB l.toArray ro (fs.map Fact.al) sT = true)
    (hG0 : G W) (hG1 : ∀ w w', G w → Below w.heap.size w w' → G w') (hG2 : ∀ w w' g, G w → (W.heap.size ≤ g ∨ ∃ l, l < sT.length ∧ g = tg l) → NumFree w g → Only w w' g → G w')
    (hψ0 : ∀ l, l < sT.length → ψ l false W) (hψ1 : ∀ l b w w', l < sT.length → ψ l b w → Below w.heap.size w w' → ψ l b w') (hψ2 : ∀ l b w w' g, l < sT.length → ψ l b w → g ≠ tg l → NumFree w g → Only w w' g → ψ l b w')
    (htg : ∀ l, l < sT.length → tg l < W.heap.size) (htn : ∀ l k, l < sT.length → k < sT.length → l ≠ k → tg l ≠ tg k)
    (hstep : EachOp (fun i o => ∀ L V a w, FrameOk l.toArray a0 L V a → G w → W.heap.size ≤ w.heap.size → (∀ j, L j = true → (fs.getD j (Fact.top _)).p ((ro.getD j .val).al && L (ro.getD j .val).st) (V j) w) →
      (∀ l, l < sT.length → ψ l (L (sT.getD l 0)) w) → L i = false → (∀ e ∈ o.after, Region.binds .any e = true → L e.on = true) → (∀ j o, L j = true → l.toArray[j]? = some o → ∀ e ∈ o.after, Region.binds .any e = true → L e.on = true) → Ob P Q fs ψ tg (ro.getD i .val) V i o a w) 0 l)
    (hend : ∀ V w, G w → W.heap.size ≤ w.heap.size → (∀ j, j < m → (fs.getD j (Fact.top _)).p (ro.getD j .val).al (V j) w) → (∀ l, l < sT.length → ψ l true w) →
      (∀ i j, i ≠ j → (ro.getD i .val).al = true → (ro.getD j .val).al = true → V i ≠ V j) → Q .normal (puts l 0 V a0) w) : wpList P l.toArray Q l a0 W := by
  have h := wp_run_each none hm m n hlm hn (shapeG_of hs) fs ro G ψ sT tg hro hG0 hG1 hG2 hψ0 hψ1 hψ2 htg htn (hstep.imp fun i o ho h L V a w h1 h2 h3 h4 h5 h6 h7 h8 => .inl ⟨wanted_none (shapeB_guard hs (by simpa using ho)), h L V a w h1 h2 h3 h4 h5 h6 h7 h8⟩) hend
  exact h
/-- A guarded operation: its guard has yielded. -/
theorem yielded_of {ops : Array Oper} {a0 a : Act} {L : Nat → Bool} {V : Nat → Value} {b : Bool} (hf : FrameOk ops a0 L V a) {n : Nat} (hs : shapeG ops n = true) (hn : n = a0.tmps.size) (j t : Nat) (hj : L j = true) (hd : dstOf ops j = some t) (hV : V j = .bool b) : yielded ops a.tmps j = some b := by
  have h1 := hf.new j t hj hd
  unfold yielded
  have hb : (ops[j]?).bind (·.dst) = some t := hd
  rw [hb]
  have ho : ∃ o, ops[j]? = some o ∧ o.dst = some t := by
    cases h : ops[j]? with
    | none => rw [h] at hb; cases hb
    | some o => rw [h] at hb; exact ⟨o, rfl, hb⟩
  obtain ⟨o, ho, hod⟩ := ho
  have hlt : t < a.tmps.size := by rw [hf.size, ← hn]; exact ((shape_spec hs ho).2 t hod).1
  unfold slot at h1
  rw [Array.getD_eq_getD_getElem?, Array.getElem?_eq_getElem hlt] at h1
  show (match a.tmps[t]? with | some (.bool b) => some b | _ => none) = some b
  rw [Array.getElem?_eq_getElem hlt]
  have h2 : a.tmps[t] = .bool b := by rw [← hV, ← h1]; rfl
  rw [h2]
theorem og_none {P : Program} {ops : Array Oper} {Q : Exit → Act → World → Prop} {base : Nat} {fs : List (Fact base)} {ψ : Nat → Bool → World → Prop} {tg : Nat → Nat} {r : Role} {V : Nat → Value} {i : Nat} {o : Oper} {a : Act} {w : World} (hg : o.guard = none)
    (h : Ob P Q fs ψ tg r V i o a w) : ObG P ops Q fs ψ tg r V i o a w := .inl ⟨wanted_none hg, h⟩
theorem og_want {P : Program} {ops : Array Oper} {Q : Exit → Act → World → Prop} {base : Nat} {fs : List (Fact base)} {ψ : Nat → Bool → World → Prop} {tg : Nat → Nat} {r : Role} {V : Nat → Value} {i j : Nat} {b : Bool} {o : Oper} {a : Act} {w : World} (hg : o.guard = some (j, b))
    (hy : yielded ops a.tmps j = some b) (h : Ob P Q fs ψ tg r V i o a w) : ObG P ops Q fs ψ tg r V i o a w := .inl ⟨by unfold Region.wanted; rw [hg]; show (yielded ops a.tmps j == some b) = true; rw [hy]; simp, h⟩
theorem og_skip {P : Program} {ops : Array Oper} {Q : Exit → Act → World → Prop} {base : Nat} {fs : List (Fact base)} {ψ : Nat → Bool → World → Prop} {tg : Nat → Nat} {V : Nat → Value} {i j : Nat} {b c : Bool} {o : Oper} {a : Act} {w : World} (hg : o.guard = some (j, b))
    (hy : yielded ops a.tmps j = some c) (hbc : (c == b) = false) (hf : fs.getD i (Fact.top base) = Fact.eq undef) : ObG P ops Q fs ψ tg .val V i o a w :=
  .inr ⟨by unfold Region.wanted; rw [hg]; show (yielded ops a.tmps j == some b) = false; rw [hy]; cases b <;> cases c <;> simp_all, rfl, by rw [hf]; exact rfl⟩
/-- A guarded operation whose guard was itself not wanted. -/
theorem yielded_undef {ops : Array Oper} {a0 a : Act} {L : Nat → Bool} {V : Nat → Value} (hf : FrameOk ops a0 L V a) {n : Nat} (hs : shapeG ops n = true) (hn : n = a0.tmps.size) (j t : Nat) (hj : L j = true) (hd : dstOf ops j = some t) (hV : V j = undef) : yielded ops a.tmps j = none := by
  have h1 := hf.new j t hj hd
  unfold yielded
  have hb : (ops[j]?).bind (·.dst) = some t := hd
  rw [hb]
  have ho : ∃ o, ops[j]? = some o ∧ o.dst = some t := by
    cases h : ops[j]? with
    | none => rw [h] at hb; cases hb
    | some o => rw [h] at hb; exact ⟨o, rfl, hb⟩
  obtain ⟨o, ho, hod⟩ := ho
  have hlt : t < a.tmps.size := by rw [hf.size, ← hn]; exact ((shape_spec hs ho).2 t hod).1
  unfold slot at h1
  rw [Array.getD_eq_getD_getElem?, Array.getElem?_eq_getElem hlt] at h1
  show (match a.tmps[t]? with | some (.bool b) => some b | _ => none) = none
  rw [Array.getElem?_eq_getElem hlt]
  have h2 : a.tmps[t] = undef := by rw [← hV, ← h1]; rfl
  rw [h2]
  rfl
theorem og_skip2 {P : Program} {ops : Array Oper} {Q : Exit → Act → World → Prop} {base : Nat} {fs : List (Fact base)} {ψ : Nat → Bool → World → Prop} {tg : Nat → Nat} {V : Nat → Value} {i j : Nat} {b : Bool} {o : Oper} {a : Act} {w : World} (hg : o.guard = some (j, b))
    (hy : yielded ops a.tmps j = none) (hf : fs.getD i (Fact.top base) = Fact.eq undef) : ObG P ops Q fs ψ tg .val V i o a w :=
  .inr ⟨by unfold Region.wanted; rw [hg]; show (yielded ops a.tmps j == some b) = false; rw [hy]; rfl, rfl, by rw [hf]; exact rfl⟩
/-- The walk stops where the operation that writes this slot opens a region. -/
def Halted (p : Prop) : Prop := p
theorem halt_at (t : Nat) {P : Program} {ops : Array Oper} {Q : Exit → Act → World → Prop} {l : List Oper} {a : Act} {w : World} (h : (l.head?.bind (·.dst)) = some t) (k : Halted (wpList P ops Q l a w)) : wpList P ops Q l a w := k
end Go.Proofs.Ytijmjkkjopplbaa

namespace Go.Proofs.Ytijmjkkjopplbaa
open Go.RowKit
set_option linter.unusedVariables false
set_option maxRecDepth 100000

theorem ev_const (a : Act) (v : Value) : a.eval (.const v) = v := rfl
section
variable {o : Oper} {ρ : Operand → Value} {w : World}
theorem ex_load_int {x : Operand} {g : Nat} {q : Bool} {A : Option Addr} {n c : Nat} (ho : o.op = .load 24 x) (hx : ρ x = ptr g) (hb : Blk w g 24 #[.bool q, .slice A n c]) :
    (execOp ρ o).run Try.prog w = .ok (.value (.agg #[.bool q, .slice A n c])) w := by
  have c0 := hb.cell 0
  have c1 := hb.cell 1
  simp only [execOp, ho, hx, ptr]
  go_simp
/-- This number is that of a function with a body. -/
def isGo (P : Program) (f : FuncId) : Bool := match P.funcs[f]? with | some fn => fn.name != "runtime.NumGoroutine" && fn.body.isSome | none => false
theorem run_call {f : FuncId} (vs : Array Value) (hfn : isGo Try.prog f = true) : (callFunc f vs).run Try.prog w = .ok (.enter f vs) w := by
  unfold isGo at hfn
  unfold callFunc
  cases hf : Try.prog.funcs[f]? with
  | none => rw [hf] at hfn; cases hfn
  | some fn =>
    rw [hf] at hfn
    simp only [Bool.and_eq_true, bne_iff_ne, ne_eq] at hfn
    obtain ⟨h1, h2⟩ := hfn
    obtain ⟨b, hb⟩ := Option.isSome_iff_exists.1 h2
    simp [go_sem, hf, h1, hb]
theorem ex_call {f : FuncId} {args : Array Operand} {ts : Array TypeId} {vs : Array Value} (ho : o.op = .call { callee := .value (.func f), args := args, argTypes := ts }) (hf : ρ (.func f) = .func (.func f) #[] #[]) (hv : args.map ρ = vs) (hfn : isGo Try.prog f = true) :
    (execOp ρ o).run Try.prog w = .ok (.enter f vs) w := by
  have h := run_call (w := w) vs hfn
  simp only [execOp, ho, resolve, hf, hv]
  go_simp
theorem ex_alloc_int (ho : o.op = .alloc 24) : (execOp ρ o).run Try.prog w = .ok (.value (ptr w.heap.size)) (w.alloc (.cells #[.bool false, .slice none 0 0] 24)) := by
  simp only [execOp, ho, ptr]
  go_simp
theorem ex_store_int {x y : Operand} {g : Nat} {q q' : Bool} {A A' : Option Addr} {n c n' c' : Nat} (ho : o.op = .store 24 x y) (hx : ρ x = ptr g) (hy : ρ y = .agg #[.bool q, .slice A n c]) (hb : Blk w g 24 #[.bool q', .slice A' n' c']) :
    (execOp ρ o).run Try.prog w = .ok .skip ((w.setCell ⟨g, 0, none⟩ (.bool q)).setCell ⟨g, 1, none⟩ (.slice A n c)) := by
  have c0 := hb.cell 0
  have c1 := hb.cell 1
  have f0 := hb.free 0
  have f1 := hb.free 1
  simp only [execOp, ho, hx, hy, ptr]
  go_simp
theorem ex_field_mag {x : Operand} {q : Bool} {s : Value} (ho : o.op = .field 24 x 1) (hx : ρ x = .agg #[.bool q, s]) : (execOp ρ o).run Try.prog w = .ok (.value s) w := by
  have h := field_mag q s w
  simp only [execOp, ho, hx]
  go_simp
theorem ex_moveV {x : Operand} {v : Value} (ho : o.op = .move x) (hx : ρ x = v) : (execOp ρ o).run Try.prog w = .ok (.value v) w := by
  simp only [execOp, ho, hx]; rfl
theorem ex_assignV {x : Operand} {v : Value} (ho : o.op = .assign x) (hx : ρ x = v) : (execOp ρ o).run Try.prog w = .ok (.value v) w := by
  simp only [execOp, ho, hx]; rfl
end

section
variable {Q : Exit → Act → World → Prop} {base : Nat} {fs : List (Fact base)} {ψ : Nat → Bool → World → Prop} {tg : Nat → Nat} {V : Nat → Value} {i : Nat} {o : Oper} {a : Act} {w : World}
theorem blk_fill {g : Nat} {q q' : Bool} {A A' : Option Addr} {n c n' c' : Nat} (hb : Blk w g 24 #[.bool q', .slice A' n' c']) :
    Blk ((w.setCell ⟨g, 0, none⟩ (.bool q)).setCell ⟨g, 1, none⟩ (.slice A n c)) g 24 #[.bool q, .slice A n c] := (hb.set 0 _).set 1 _
theorem only_two (w : World) (g : Nat) (x y : Value) : Only w ((w.setCell ⟨g, 0, none⟩ x).setCell ⟨g, 1, none⟩ y) g := (only_set w g 0 x).trans (only_set _ g 1 y)
theorem ob_load_int {x : Operand} {g : Nat} {q : Bool} {A : Option Addr} {n c : Nat} (ho : o.op = .load 24 x) (hx : a.eval x = ptr g) (hb : Blk w g 24 #[.bool q, .slice A n c])
    (hf : fs.getD i (Fact.top base) = Fact.eq (.agg #[.bool q, .slice A n c])) : Ob Try.prog Q fs ψ tg .val V i o a w :=
  ob_pure (ex_load_int ho hx hb) (by rw [hf]; exact rfl)
theorem ob_alloc_int {s : Nat} {z : Int} (ho : o.op = .alloc 24) (hsz : base ≤ w.heap.size) (hf : fs.getD i (Fact.top base) = Fact.box z) : Ob Try.prog Q fs ψ tg (.alloc s) V i o a w :=
  ob_alloc (ex_alloc_int ho) (by rw [hf]; exact ⟨_, rfl, hsz, BoxI.new _⟩)
theorem ob_fill_int {l g : Nat} {x y : Operand} {v : Value} {z z0 : Int} (ho : o.op = .store 24 x y) (hx : a.eval x = ptr g) (hy : a.eval y = v) (hV : V l = ptr g) (hbase : base ≤ g) (hb : BoxI w g z0) (hv : IntV w v z)
    (hf : fs.getD l (Fact.top base) = Fact.box z) (hf2 : fs.getD i (Fact.top base) = Fact.top base) : Ob Try.prog Q fs ψ tg (.fill l) V i o a w := by
  obtain ⟨q', A', n', c', hk, _⟩ := id hb
  obtain ⟨q, A, n, c, rfl⟩ := hv.form
  refine ob_fill (ex_store_int ho hx hy hk) hV hb.numFree (only_two _ _ _ _) ?_ (by rw [hf2]; exact trivial)
  rw [hf]
  exact ⟨g, hV, hbase, q, A, n, c, blk_fill hk, hv.only hb.numFree (only_two _ _ _ _)⟩
theorem ob_fillOld_int {l : Nat} {x y : Operand} {v : Value} {z : Int} {q' : Bool} {A' : Option Addr} {n' c' : Nat} (ho : o.op = .store 24 x y) (hx : a.eval x = ptr (tg l)) (hy : a.eval y = v) (hk : Blk w (tg l) 24 #[.bool q', .slice A' n' c']) (hv : IntV w v z)
    (hψ : ∀ w', BoxI w' (tg l) z → ψ l true w') (hf2 : fs.getD i (Fact.top base) = Fact.top base) : Ob Try.prog Q fs ψ tg (.fillOld l) V i o a w := by
  have hb := hk.numFree (noNum_int _ _ _ _)
  obtain ⟨q, A, n, c, rfl⟩ := hv.form
  exact ob_fillOld (ex_store_int ho hx hy hk) hb (only_two _ _ _ _) (hψ _ ⟨q, A, n, c, blk_fill hk, hv.only hb (only_two _ _ _ _)⟩) (by rw [hf2]; exact trivial)
theorem ob_go {f : FuncId} {args : Array Operand} {ts : Array TypeId} {vs : Array Value} {R : Ending → World → Prop} (ho : o.op = .call { callee := .value (.func f), args := args, argTypes := ts }) (hv : args.map a.eval = vs) (hfn : isGo Try.prog f = true)
    (hc : Calls Try.prog f vs w R) (hR : ∀ e w', R e w' → ∃ v, e = .returned v ∧ Below w.heap.size w w' ∧ (fs.getD i (Fact.top base)).p false v w') : Ob Try.prog Q fs ψ tg .val V i o a w :=
  ob_call (ex_call ho rfl hv hfn) (hc.mono hR)
end
end Go.Proofs.Ytijmjkkjopplbaa

namespace Go.Proofs.Ytijmjkkjopplbaa
open Go.RowKit
set_option linter.unusedVariables false
set_option maxRecDepth 100000

/-- What a box may hold: a predicate on its cells that stays. -/
structure Cont where
  p : World → List Value → Prop
  st : ∀ w w' cs, p w cs → Below w.heap.size w w' → p w' cs
  st2 : ∀ w w' g cs, p w cs → NumFree w g → Only w w' g → p w' cs
  nn : ∀ w cs, p w cs → ∀ v ∈ cs, NoNum v
  len : Nat
  ln : ∀ w cs, p w cs → cs.length = len
/-- A value whose cells are these. -/
def Fact.cells {base : Nat} (f : Value → List Value → Prop) (C : Cont) : Fact base :=
  { p := fun _ v w => ∃ cs, f v cs ∧ C.p w cs, st := fun _ _ _ _ ⟨cs, h1, h2⟩ hb => ⟨cs, h1, C.st _ _ _ h2 hb⟩, st2 := fun _ _ _ _ _ ⟨cs, h1, h2⟩ _ hn ho => ⟨cs, h1, C.st2 _ _ _ _ h2 hn ho⟩, hal := fun _ _ _ h => by cases h }
section
variable {P : Program} {Q : Exit → Act → World → Prop} {base : Nat} {fs : List (Fact base)} {ψ : Nat → Bool → World → Prop} {tg : Nat → Nat} {V : Nat → Value} {i : Nat} {o : Oper} {a : Act} {w : World}
end
section
variable {o : Oper} {ρ : Operand → Value} {w : World}
end
end Go.Proofs.Ytijmjkkjopplbaa

