/- A part of the proof of the laws of rationals: Region. -/
import Derived.WalkKit
import Derived.Orders
namespace Go.Proofs.Ytijmjkkjopplbaa
open Go.RowKit

def upd {α : Type} (f : Nat → α) (i : Nat) (x : α) : Nat → α := fun j => if j = i then x else f j
theorem upd_same {α : Type} (f : Nat → α) (i : Nat) (x : α) : upd f i x i = x := if_pos rfl
theorem upd_other {α : Type} (f : Nat → α) {i j : Nat} (x : α) (h : j ≠ i) : upd f i x j = f j := if_neg h
def dstOf (ops : Array Oper) (i : Nat) : Option Tmp := (ops[i]?).bind (·.dst)
def slot (a : Act) (t : Nat) : Value := a.tmps.getD t undef
/-- The frame: what the listed operations have yielded lies in their slots; the other slots are as they were. -/
structure FrameOk (ops : Array Oper) (a0 : Act) (L : Nat → Bool) (V : Nat → Value) (a : Act) : Prop where
  defers : a.defers = a0.defers
  size : a.tmps.size = a0.tmps.size
  old : ∀ t, (∀ i, L i = true → dstOf ops i ≠ some t) → slot a t = slot a0 t
  new : ∀ i t, L i = true → dstOf ops i = some t → slot a t = V i
/-- The checks of a region's own shape, by 'decide'. -/
def shapeB (ops : Array Oper) (n : Nat) : Bool :=
  (List.range ops.size).all fun i => match ops[i]? with
    | none => true
    | some o => o.guard.isNone && o.after.all (fun e => !Region.binds .any e || decide (e.on < i)) && (match o.dst with
      | none => true
      | some t => decide (t < n) && (List.range ops.size).all fun j => j == i || dstOf ops j != some t)

/-- The same for a region whose operations may be guarded. -/
def shapeG (ops : Array Oper) (n : Nat) : Bool :=
  (List.range ops.size).all fun i => match ops[i]? with
    | none => true
    | some o => o.after.all (fun e => !Region.binds .any e || decide (e.on < i)) && (match o.dst with
      | none => true
      | some t => decide (t < n) && (List.range ops.size).all fun j => j == i || dstOf ops j != some t)
theorem shapeG_of {ops : Array Oper} {n : Nat} (h : shapeB ops n = true) : shapeG ops n = true := by
  unfold shapeB at h
  unfold shapeG
  rw [List.all_eq_true] at h ⊢
  intro i hi
  have h1 := h i hi
  cases ho : ops[i]? with
  | none => rfl
  | some o =>
    rw [ho] at h1
    simp only [Bool.and_eq_true] at h1 ⊢
    exact ⟨h1.1.2, h1.2⟩
theorem shapeB_guard {ops : Array Oper} {n : Nat} (h : shapeB ops n = true) {i : Nat} {o : Oper} (ho : ops[i]? = some o) : o.guard = none := by
  have hi : i < ops.size := (Array.getElem?_eq_some_iff.1 ho).1
  unfold shapeB at h
  rw [List.all_eq_true] at h
  have h1 := h i (List.mem_range.2 hi)
  simp only [ho, Bool.and_eq_true] at h1
  simpa using h1.1.1
theorem slot_put_same (a : Act) (t : Nat) (v : Value) (h : t < a.tmps.size) : slot (a.put (some t) v) t = v := by
  unfold slot Act.put
  simp [Array.getD_eq_getD_getElem?, h]
theorem slot_put_other (a : Act) (d : Option Tmp) (t : Nat) (v : Value) (h : d ≠ some t) : slot (a.put d v) t = slot a t := by
  cases d with
  | none => rfl
  | some s =>
    have hs : s ≠ t := fun e => h (by rw [e])
    unfold slot Act.put
    simp [Array.getD_eq_getD_getElem?, Array.getElem?_setIfInBounds_ne hs]
theorem put_size (a : Act) (d : Option Tmp) (v : Value) : (a.put d v).tmps.size = a.tmps.size := by
  cases d with
  | none => rfl
  | some s => unfold Act.put; simp
theorem put_defers' (a : Act) (d : Option Tmp) (v : Value) : (a.put d v).defers = a.defers := by
  cases d <;> rfl
theorem shape_spec {ops : Array Oper} {n : Nat} (h : shapeG ops n = true) {i : Nat} {o : Oper} (ho : ops[i]? = some o) :
    (∀ e ∈ o.after, Region.binds .any e = true → e.on < i) ∧ ∀ t, o.dst = some t → t < n ∧ ∀ j, j ≠ i → dstOf ops j ≠ some t := by
  have hi : i < ops.size := (Array.getElem?_eq_some_iff.1 ho).1
  unfold shapeG at h
  rw [List.all_eq_true] at h
  have h1 := h i (List.mem_range.2 hi)
  simp only [ho, Bool.and_eq_true] at h1
  obtain ⟨h3, h4⟩ := h1
  refine ⟨fun e he => ?_, fun t ht => ?_⟩
  · intro hb
    have := Array.all_eq_true'.1 h3 e he
    rw [hb] at this
    simpa using this
  · rw [ht] at h4
    simp only [Bool.and_eq_true, decide_eq_true_eq, List.all_eq_true, Bool.or_eq_true, beq_iff_eq, bne_iff_ne] at h4
    refine ⟨h4.1, fun j hj => ?_⟩
    by_cases hjs : j < ops.size
    · rcases h4.2 j (List.mem_range.2 hjs) with h5 | h5
      · exact absurd h5 hj
      · exact h5
    · unfold dstOf
      rw [Array.getElem?_eq_none (by omega)]
      simp
theorem FrameOk.put {ops : Array Oper} {a0 a : Act} {L : Nat → Bool} {V : Nat → Value} {n i : Nat} {o : Oper} (hs : shapeG ops n = true) (hn : n = a0.tmps.size) (ho : ops[i]? = some o)
    (h : FrameOk ops a0 L V a) (v : Value) : FrameOk ops a0 (upd L i true) (upd V i v) (a.put o.dst v) := by
  have hd : dstOf ops i = o.dst := by unfold dstOf; rw [ho]; rfl
  obtain ⟨_, hs2⟩ := shape_spec hs ho
  refine ⟨by rw [put_defers']; exact h.defers, by rw [put_size]; exact h.size, fun t ht => ?_, fun j t hj ht => ?_⟩
  · have h1 := ht i (by rw [upd_same])
    rw [hd] at h1
    rw [slot_put_other _ _ _ _ h1]
    refine h.old t fun j hj => ?_
    by_cases e : j = i
    · rw [e, hd]; exact h1
    · exact ht j (by rw [upd_other _ _ e]; exact hj)
  · by_cases e : j = i
    · subst e
      rw [hd] at ht
      rw [ht, upd_same]
      exact slot_put_same _ _ _ (by rw [h.size, ← hn]; exact (hs2 t ht).1)
    · rw [upd_other _ _ e] at hj ⊢
      rw [slot_put_other _ _ _ _ (fun e2 => (hs2 t e2).2 j e ht)]
      exact h.new j t hj ht

section
variable {P : Program} {ops : Array Oper} {Q : Exit → Act → World → Prop}
/-- What is to be shown of one operation: it yields, and the invariant goes on. -/
def StepOk (P : Program) (ops : Array Oper) (Q : Exit → Act → World → Prop) (I : (Nat → Bool) → (Nat → Value) → World → Prop) (L : Nat → Bool) (V : Nat → Value) (i : Nat) (o : Oper) (a : Act) (w : World) : Prop :=
  if Region.wanted o (yielded ops a.tmps) = true then o.wp P a w (fun a' w' => ∃ v, a' = a.put o.dst v ∧ I (upd L i true) (upd V i v) w') Q
  else I (upd L i true) (upd V i undef) w

theorem wpAny_inv (I : (Nat → Bool) → (Nat → Value) → World → Prop) (a0 : Act) (n : Nat) (hn : n = a0.tmps.size) (hs : shapeG ops n = true)
    (hstep : ∀ i o, ops[i]? = some o → ∀ L V a w, FrameOk ops a0 L V a → I L V w → L i = false → (∀ e ∈ o.after, Region.binds .any e = true → L e.on = true) → StepOk P ops Q I L V i o a w)
    (hend : ∀ L V a w, (∀ i, i < ops.size → L i = true) → FrameOk ops a0 L V a → I L V w → Q .normal a w) :
    ∀ (fuel : Nat) (listed : Array Bool) (V : Nat → Value) (a : Act) (w : World), listed.size = ops.size → listed.toList.count false ≤ fuel →
      FrameOk ops a0 (fun i => listed.getD i false) V a → I (fun i => listed.getD i false) V w → wpAny P .any ops Q fuel listed a w := by
  have ends : ∀ (listed : Array Bool) (V : Nat → Value) (a : Act) (w : World), listed.size = ops.size → FrameOk ops a0 (fun i => listed.getD i false) V a → I (fun i => listed.getD i false) V w →
      Region.ready .any ops listed = [] → Q .normal a w := by
    intro listed V a w hl hf hI hr
    refine hend _ V a w (fun i => ?_) hf hI
    induction i using Nat.strongRecOn with
    | ind i ih =>
      intro hi
      rcases hb : listed.getD i false with _ | _
      · exfalso
        have ho : ops[i]? = some ops[i] := Array.getElem?_eq_getElem hi
        have hm : i ∈ Region.ready .any ops listed := by
          refine mem_ready.2 ⟨?_, ops[i], ho, fun e he hb => ih e.on ((shape_spec hs ho).1 e he hb) (by have := (shape_spec hs ho).1 e he hb; omega)⟩
          have hi2 : i < listed.size := by omega
          simp [Array.getD_eq_getD_getElem?, hi2] at hb ⊢
          exact hb
        rw [hr] at hm
        cases hm
      · rfl
  intro fuel
  induction fuel with
  | zero =>
    intro listed V a w hl hc hf hI
    have hr : Region.ready .any ops listed = [] := by
      rcases hr : Region.ready .any ops listed with _ | ⟨i, rs⟩
      · rfl
      · exfalso
        have hm : i ∈ Region.ready .any ops listed := by rw [hr]; exact List.mem_cons_self ..
        have h1 := (mem_ready.1 hm).1
        have hi2 : i < listed.size := by
          rcases Nat.lt_or_ge i listed.size with h | h
          · exact h
          · simp [Array.getD_eq_getD_getElem?, Array.getElem?_eq_none h] at h1
        simp [Array.getD_eq_getD_getElem?, hi2] at h1
        have : 0 < listed.toList.count false := List.count_pos_iff.2 (by rw [← h1]; simp)
        omega
    exact ⟨hr, ends listed V a w hl hf hI hr⟩
  | succ fuel ih =>
    intro listed V a w hl hc hf hI
    refine ⟨ends listed V a w hl hf hI, fun i hi => ?_⟩
    obtain ⟨h1, o, ho, hall⟩ := mem_ready.1 hi
    have hi2 : i < listed.size := by
      rcases Nat.lt_or_ge i listed.size with h | h
      · exact h
      · simp [Array.getD_eq_getD_getElem?, Array.getElem?_eq_none h] at h1
    have h1' := h1
    simp [Array.getD_eq_getD_getElem?, hi2] at h1'
    have hL : (fun i => listed.getD i false) i = false := by
      simp [Array.getD_eq_getD_getElem?, hi2, h1']
    have hst := hstep i o ho _ V a w hf hI hL (fun e he hb => hall e he hb)
    have hupd : (fun j => (listed.setIfInBounds i true).getD j false) = upd (fun j => listed.getD j false) i true := by
      funext j
      by_cases e : j = i
      · subst e
        rw [upd_same]
        simp [Array.getD_eq_getD_getElem?, hi2]
      · rw [upd_other _ _ e]
        simp [Array.getD_eq_getD_getElem?, Array.getElem?_setIfInBounds_ne (Ne.symm e)]
    unfold wpOp
    simp only [ho]
    have go : ∀ v w', I (upd (fun j => listed.getD j false) i true) (upd V i v) w' → wpAny P .any ops Q fuel (listed.setIfInBounds i true) (a.put o.dst v) w' := by
      intro v w' hI'
      refine ih _ (upd V i v) _ _ (by simpa using hl) ?_ ?_ ?_
      · rw [Array.toList_setIfInBounds, List.count_set (by simpa using hi2)]
        have hg : listed.toList[i]'(by simpa using hi2) = false := by simpa using h1'
        rw [hg]
        have h3 : 0 < listed.toList.count false := List.count_pos_iff.2 (by rw [← hg]; simp)
        rw [if_pos (by rfl), if_neg (by decide)]
        omega
      · rw [hupd]; exact hf.put hs hn ho v
      · rw [hupd]; exact hI'
    unfold StepOk at hst
    by_cases hw : Region.wanted o (yielded ops a.tmps) = true
    · rw [if_pos hw] at hst ⊢
      refine .inl (Oper.wp_mono (fun a' w' hk => ?_) hst)
      obtain ⟨v, rfl, hI'⟩ := hk
      exact go v _ hI'
    · rw [if_neg hw] at hst ⊢
      exact go undef _ hst

/-- The region by its invariant. -/
theorem wp_region_invT {id : Nat} {a0 : Act} {w : World} (hm : P.follows .mixedOrders = true) (I : (Nat → Bool) → (Nat → Value) → World → Prop) (n : Nat) (hn : n = a0.tmps.size) (hs : shapeG ops n = true)
    (h0 : I (fun _ => false) (fun _ => undef) w.drew)
    (hstep : ∀ i o, ops[i]? = some o → ∀ L V a w, FrameOk ops a0 L V a → I L V w → L i = false → (∀ e ∈ o.after, Region.binds .any e = true → L e.on = true) → StepOk P ops Q I L V i o a w)
    (hend : ∀ L V a w, (∀ i, i < ops.size → L i = true) → FrameOk ops a0 L V a → I L V w → Q .normal a w) : (Code.region id ops true).wp P Q a0 w := by
  refine wp_region_any hm ?_
  have hL : (fun i => (Array.replicate ops.size false).getD i false) = fun _ => false := by
    funext i
    simp [Array.getD_eq_getD_getElem?, Array.getElem?_replicate]
    split <;> rfl
  refine wpAny_inv I a0 n hn hs hstep hend ops.size _ (fun _ => undef) a0 _ (by simp) ?_ ?_ ?_
  · rw [Array.toList_replicate]
    exact Nat.le_trans List.count_le_length (by simp)
  · rw [hL]
    exact ⟨rfl, rfl, fun t _ => rfl, fun i t h => by cases h⟩
  · rw [hL]; exact h0

theorem wpOps_inv (I : (Nat → Bool) → (Nat → Value) → World → Prop) (a0 : Act) (n : Nat) (hn : n = a0.tmps.size) (hs : shapeG ops n = true)
    (hstep : ∀ i o, ops[i]? = some o → ∀ L V a w, FrameOk ops a0 L V a → I L V w → L i = false → (∀ e ∈ o.after, Region.binds .any e = true → L e.on = true) → StepOk P ops Q I L V i o a w)
    (hend : ∀ L V a w, (∀ i, i < ops.size → L i = true) → FrameOk ops a0 L V a → I L V w → Q .normal a w) :
    ∀ m k, k + m = ops.size → ∀ V a w, FrameOk ops a0 (fun i => decide (i < k)) V a → I (fun i => decide (i < k)) V w → wpOps P ops Q (List.range' k m) a w := by
  intro m
  induction m with
  | zero =>
    intro k hk V a w hf hI
    exact hend _ V a w (fun i hi => by rw [decide_eq_true_eq]; omega) hf hI
  | succ m ih =>
    intro k hk V a w hf hI
    have hlt : k < ops.size := by omega
    have ho : ops[k]? = some ops[k] := Array.getElem?_eq_getElem hlt
    have hst := hstep k _ ho _ V a w hf hI (by simp) (fun e he hb => by have := (shape_spec hs ho).1 e he hb; rw [decide_eq_true_eq]; exact this)
    have hupd : upd (fun i => decide (i < k)) k true = fun i => decide (i < k + 1) := by
      funext j
      by_cases e : j = k
      · subst e; rw [upd_same]; simp
      · rw [upd_other _ _ e]
        exact decide_eq_decide.2 (by omega)
    rw [List.range'_succ, wpOps_cons]
    unfold wpOp
    simp only [ho]
    have go : ∀ v w', I (upd (fun i => decide (i < k)) k true) (upd V k v) w' → wpOps P ops Q (List.range' (k + 1) m) (a.put ops[k].dst v) w' := by
      intro v w' hI'
      refine ih (k + 1) (by omega) (upd V k v) _ _ ?_ ?_
      · rw [← hupd]; exact hf.put hs hn ho v
      · rw [← hupd]; exact hI'
    unfold StepOk at hst
    by_cases hw : Region.wanted ops[k] (yielded ops a.tmps) = true
    · rw [if_pos hw] at hst ⊢
      refine .inl (Oper.wp_mono (fun a' w' hk' => ?_) hst)
      obtain ⟨v, rfl, hI'⟩ := hk'
      exact go v _ hI'
    · rw [if_neg hw] at hst ⊢
      exact go undef _ hst
/-- What is to be shown: a region that draws or not, or a region that the walk has opened. -/
def Run (P : Program) (ops : Array Oper) (Q : Exit → Act → World → Prop) (a : Act) (w : World) : Option (Nat × Bool) → Prop
  | some (id, b) => (Code.region id ops b).wp P Q a w
  | none => wpList P ops Q ops.toList a w
/-- The same, whether the region draws its order or keeps that of the text. -/
theorem wp_region_inv {d : Option (Nat × Bool)} {a0 : Act} {w : World} (hm : P.follows .mixedOrders = true) (I : (Nat → Bool) → (Nat → Value) → World → Prop) (n : Nat) (hn : n = a0.tmps.size) (hs : shapeG ops n = true)
    (h0 : I (fun _ => false) (fun _ => undef) w.drew) (h1 : I (fun _ => false) (fun _ => undef) w)
    (hstep : ∀ i o, ops[i]? = some o → ∀ L V a w, FrameOk ops a0 L V a → I L V w → L i = false → (∀ e ∈ o.after, Region.binds .any e = true → L e.on = true) → StepOk P ops Q I L V i o a w)
    (hend : ∀ L V a w, (∀ i, i < ops.size → L i = true) → FrameOk ops a0 L V a → I L V w → Q .normal a w) : Run P ops Q a0 w d := by
  have hin : wpOps P ops Q (List.range' 0 ops.size) a0 w := by
    have e : (fun i => decide (i < 0)) = fun _ : Nat => false := by funext i; simp
    refine wpOps_inv I a0 n hn hs hstep hend ops.size 0 (by omega) (fun _ => undef) a0 w ?_ ?_
    · rw [e]; exact ⟨rfl, rfl, fun t _ => rfl, fun i t h => by cases h⟩
    · rw [e]; exact h1
  match d with
  | none =>
    show wpList P ops Q ops.toList a0 w
    rw [← wpOps_eq_wpList ops.toList 0 (by simp)]
    simpa using hin
  | some (id, true) => exact wp_region_invT hm I n hn hs h0 hstep hend
  | some (id, false) =>
    refine wp_region ?_
    rw [List.range_eq_range']
    exact hin

/-- Block g holds no limbs, and is no slice of more than one Int. -/
def NumFree (w : World) (g : Nat) : Prop := (∀ o n, w.cell? ⟨g, o, none⟩ ≠ some (.int .u32 n)) ∧ ∀ cs, w.heap[g]? = some (.cells cs 24) → cs.size ≤ 2
/-- Only block g may have changed. -/
structure Only (w w' : World) (g : Nat) : Prop where
  os : w'.os = w.os
  tape : w'.tape = w.tape
  output : w'.output = w.output
  size : w'.heap.size = w.heap.size
  block : ∀ b, b ≠ g → w'.heap[b]? = w.heap[b]?
/-- A box: its address is a block of its own. -/
def ptr (g : Nat) : Value := .pointer (some ⟨g, 0, none⟩)
theorem ptr_inj {g h : Nat} (e : ptr g = ptr h) : g = h := by unfold ptr at e; simpa using e

theorem below_only {B : Nat} {w0 w w' : World} {g : Nat} (h : Below B w0 w) (k : Only w w' g) (hg : B ≤ g) : Below B w0 w' :=
  ⟨k.os.trans h.os, k.tape.trans h.tape, k.output.trans h.output, by rw [k.size]; exact h.size, fun b hb => by rw [k.block b (by omega)]; exact h.block b hb⟩

/-- A fact on what an operation has yielded. It stays when the world grows and when a block without limbs is filled. The Bool: the box of that operation has been filled. -/
structure Fact (base : Nat) where
  p : Bool → Value → World → Prop
  al : Bool := false
  st : ∀ b v w w', p b v w → Below w.heap.size w w' → p b v w'
  st2 : ∀ b v w w' g, p b v w → (al = true → v ≠ ptr g) → NumFree w g → Only w w' g → p b v w'
  hal : ∀ b v w, al = true → p b v w → ∃ g, v = ptr g ∧ base ≤ g ∧ g < w.heap.size
def Fact.top (base : Nat) : Fact base := { p := fun _ _ _ => True, st := fun _ _ _ _ _ _ => trivial, st2 := fun _ _ _ _ _ _ _ _ _ => trivial, hal := fun _ _ _ h => by cases h }
def Fact.eq {base : Nat} (x : Value) : Fact base := { p := fun _ v _ => v = x, st := fun _ _ _ _ h _ => h, st2 := fun _ _ _ _ _ h _ _ _ => h, hal := fun _ _ _ h => by cases h }
/-- What an operation does: it yields; it makes a box, which operation s fills; it fills the box of operation l; it fills the old box l. -/
inductive Role
  | val
  | alloc (s : Nat)
  | fill (l : Nat)
  | fillOld (l : Nat)
deriving DecidableEq

def Role.al : Role → Bool
  | .alloc _ => true
  | _ => false
def Role.st : Role → Nat
  | .alloc s => s
  | _ => 0
def Role.fills : Role → Bool
  | .fill _ => true
  | .fillOld _ => true
  | _ => false
/-- The checks of the roles, by 'decide': als: which facts are boxes; sT: which operations fill the old boxes. -/
def rolesB (ops : Array Oper) (ro : List Role) (als : List Bool) (sT : List Nat) : Bool :=
  ro.length == ops.size && als == ro.map Role.al &&
  (List.range ops.size).all (fun i => match ro.getD i .val with
    | .val => true
    | .alloc s => decide (s < ops.size) && ro.getD s .val == .fill i && (match ops[s]? with | none => false | some o => o.after.any fun e => Region.binds .any e && e.on == i)
    | .fill l => decide (l < ops.size) && ro.getD l .val == .alloc i
    | .fillOld l => sT[l]? == some i) &&
  (List.range sT.length).all (fun l => decide (sT.getD l 0 < ops.size) && ro.getD (sT.getD l 0) .val == .fillOld l)

/-- What is left to be shown of an operation, by its role. -/
def Ob (P : Program) (Q : Exit → Act → World → Prop) {base : Nat} (fs : List (Fact base)) (ψ : Nat → Bool → World → Prop) (tg : Nat → Nat) (r : Role) (V : Nat → Value) (i : Nat) (o : Oper) (a : Act) (w : World) : Prop :=
  match r with
  | .val => o.wp P a w (fun a' w' => ∃ v, a' = a.put o.dst v ∧ Below w.heap.size w w' ∧ (fs.getD i (Fact.top base)).p false v w') Q
  | .alloc _ => o.wp P a w (fun a' w' => a' = a.put o.dst (ptr w.heap.size) ∧ Below w.heap.size w w' ∧ (fs.getD i (Fact.top base)).p false (ptr w.heap.size) w') Q
  | .fill l => o.wp P a w (fun a' w' => ∃ g, a' = a.put o.dst undef ∧ V l = ptr g ∧ NumFree w g ∧ Only w w' g ∧ (fs.getD l (Fact.top base)).p true (V l) w' ∧ (fs.getD i (Fact.top base)).p false undef w') Q
  | .fillOld l => o.wp P a w (fun a' w' => a' = a.put o.dst undef ∧ NumFree w (tg l) ∧ Only w w' (tg l) ∧ ψ l true w' ∧ (fs.getD i (Fact.top base)).p false undef w') Q

/-- An operation that may be guarded: it is wanted, or it is not and nothing happens. -/
def ObG (P : Program) (ops : Array Oper) (Q : Exit → Act → World → Prop) {base : Nat} (fs : List (Fact base)) (ψ : Nat → Bool → World → Prop) (tg : Nat → Nat) (r : Role) (V : Nat → Value) (i : Nat) (o : Oper) (a : Act) (w : World) : Prop :=
  (Region.wanted o (yielded ops a.tmps) = true ∧ Ob P Q fs ψ tg r V i o a w) ∨ (Region.wanted o (yielded ops a.tmps) = false ∧ r = .val ∧ (fs.getD i (Fact.top base)).p false undef w)

structure Facts (ops : Array Oper) (base : Nat) (fs : List (Fact base)) (ro : List Role) (G : World → Prop) (ψ : Nat → Bool → World → Prop) (sT : List Nat) (L : Nat → Bool) (V : Nat → Value) (w : World) : Prop where
  glob : G w
  size : base ≤ w.heap.size
  has : ∀ j, L j = true → (fs.getD j (Fact.top base)).p ((ro.getD j .val).al && L (ro.getD j .val).st) (V j) w
  old : ∀ l, l < sT.length → ψ l (L (sT.getD l 0)) w
  ne : ∀ i j, i ≠ j → (ro.getD i .val).al = true → (ro.getD j .val).al = true → L i = true → L j = true → V i ≠ V j
  out : ∀ i, ops.size ≤ i → L i = false
  deps : ∀ j o, L j = true → ops[j]? = some o → ∀ e ∈ o.after, Region.binds .any e = true → L e.on = true

theorem wp_region_facts {d : Option (Nat × Bool)} {a0 : Act} {W : World} (hm : P.follows .mixedOrders = true) (n : Nat) (hn : n = a0.tmps.size) (hs : shapeG ops n = true)
    (fs : List (Fact W.heap.size)) (ro : List Role) (G : World → Prop) (ψ : Nat → Bool → World → Prop) (sT : List Nat) (tg : Nat → Nat) (hro : rolesB ops ro (fs.map Fact.al) sT = true)
    (hG0 : G W) (hG1 : ∀ w w', G w → Below w.heap.size w w' → G w') (hG2 : ∀ w w' g, G w → (W.heap.size ≤ g ∨ ∃ l, l < sT.length ∧ g = tg l) → NumFree w g → Only w w' g → G w')
    (hψ0 : ∀ l, l < sT.length → ψ l false W) (hψ1 : ∀ l b w w', l < sT.length → ψ l b w → Below w.heap.size w w' → ψ l b w') (hψ2 : ∀ l b w w' g, l < sT.length → ψ l b w → g ≠ tg l → NumFree w g → Only w w' g → ψ l b w')
    (htg : ∀ l, l < sT.length → tg l < W.heap.size) (htn : ∀ l k, l < sT.length → k < sT.length → l ≠ k → tg l ≠ tg k)
    (hstep : ∀ i o, ops[i]? = some o → ∀ L V a w, FrameOk ops a0 L V a → G w → W.heap.size ≤ w.heap.size → L i = false → (∀ j, L j = true → (fs.getD j (Fact.top _)).p ((ro.getD j .val).al && L (ro.getD j .val).st) (V j) w) →
      (∀ l, l < sT.length → ψ l (L (sT.getD l 0)) w) → (∀ e ∈ o.after, Region.binds .any e = true → L e.on = true) → (∀ j o, L j = true → ops[j]? = some o → ∀ e ∈ o.after, Region.binds .any e = true → L e.on = true) → ObG P ops Q fs ψ tg (ro.getD i .val) V i o a w)
    (hend : ∀ V a w, FrameOk ops a0 (fun i => decide (i < ops.size)) V a → G w → W.heap.size ≤ w.heap.size → (∀ j, j < ops.size → (fs.getD j (Fact.top _)).p (ro.getD j .val).al (V j) w) → (∀ l, l < sT.length → ψ l true w) →
      (∀ i j, i ≠ j → (ro.getD i .val).al = true → (ro.getD j .val).al = true → V i ≠ V j) → Q .normal a w) : Run P ops Q a0 W d := by
  unfold rolesB at hro
  simp only [Bool.and_eq_true, beq_iff_eq, List.all_eq_true, List.mem_range, decide_eq_true_eq] at hro
  obtain ⟨⟨⟨hrl, hals⟩, hr1⟩, hr2⟩ := hro
  have hlen : fs.length = ops.size := by rw [← hrl, ← List.length_map (f := Fact.al), hals, List.length_map]
  have hal : ∀ j, (fs.getD j (Fact.top W.heap.size)).al = (ro.getD j .val).al := fun j => by
    have h1 : (fs.map Fact.al).getD j false = (ro.map Role.al).getD j false := by rw [hals]
    rw [List.getD_eq_getElem?_getD, List.getD_eq_getElem?_getD, List.getElem?_map, List.getElem?_map] at h1
    rw [List.getD_eq_getElem?_getD, List.getD_eq_getElem?_getD]
    cases hf : fs[j]? <;> cases hg : ro[j]? <;> simp_all [Fact.top, Role.al]
  have hout : ∀ j, ops.size ≤ j → ro.getD j .val = .val := fun j hj => by
    rw [List.getD_eq_getElem?_getD, List.getElem?_eq_none (by omega)]; rfl
  have hlt : ∀ j, ro.getD j .val ≠ .val → j < ops.size := fun j hj => by
    rcases Nat.lt_or_ge j ops.size with h | h
    · exact h
    · exact absurd (hout j h) hj
  have hA : ∀ l s, ro.getD l .val = .alloc s → s < ops.size ∧ ro.getD s .val = .fill l ∧ ∃ o e, ops[s]? = some o ∧ e ∈ o.after ∧ Region.binds .any e = true ∧ e.on = l := fun l s h => by
    have h1 := hr1 l (hlt l (by rw [h]; intro h; cases h))
    rw [h] at h1
    simp only [Bool.and_eq_true, decide_eq_true_eq, beq_iff_eq] at h1
    obtain ⟨⟨h2, h3⟩, h4⟩ := h1
    refine ⟨h2, h3, ?_⟩
    cases ho : ops[s]? with
    | none => rw [ho] at h4; cases h4
    | some o =>
      rw [ho] at h4
      obtain ⟨e, he, h5⟩ := Array.any_eq_true'.1 h4
      rw [Bool.and_eq_true, beq_iff_eq] at h5
      exact ⟨o, e, rfl, he, h5.1, h5.2⟩
  have hF : ∀ i l, ro.getD i .val = .fill l → ro.getD l .val = .alloc i := fun i l h => by
    have h1 := hr1 i (hlt i (by rw [h]; intro h; cases h))
    rw [h] at h1
    simp only [Bool.and_eq_true, decide_eq_true_eq, beq_iff_eq] at h1
    exact h1.2
  have hO : ∀ i l, ro.getD i .val = .fillOld l → l < sT.length ∧ sT.getD l 0 = i := fun i l h => by
    have h1 := hr1 i (hlt i (by rw [h]; intro h; cases h))
    rw [h] at h1
    simp only [beq_iff_eq] at h1
    obtain ⟨h2, h3⟩ := List.getElem?_eq_some_iff.1 h1
    exact ⟨h2, by rw [List.getD_eq_getElem?_getD, h1]; rfl⟩
  have hal2 : ∀ j, (ro.getD j .val).al = true → ro.getD j .val = .alloc (ro.getD j .val).st := fun j h => by
    cases hr : ro.getD j .val <;> rw [hr] at h <;> first | rfl | cases h
  refine wp_region_inv hm (Facts ops W.heap.size fs ro G ψ sT) n hn hs
    ⟨hG1 _ _ hG0 (Below.refl _ _).drew, Nat.le_refl _, (fun j h => by cases h), (fun l hl => hψ1 _ _ _ _ hl (hψ0 l hl) (Below.refl _ _).drew), (fun i j _ _ _ h => by cases h), (fun _ _ => rfl), (fun j o h => by cases h)⟩
    ⟨hG0, Nat.le_refl _, (fun j h => by cases h), (fun l hl => hψ0 l hl), (fun i j _ _ _ h => by cases h), (fun _ _ => rfl), (fun j o h => by cases h)⟩ ?_ ?_
  · intro i o ho L V a w hf hX hL hdep
    have hi : i < ops.size := (Array.getElem?_eq_some_iff.1 ho).1
    have hob := hstep i o ho L V a w hf hX.glob hX.size hL hX.has hX.old hdep hX.deps
    have hout' : ∀ j, ops.size ≤ j → upd L i true j = false := fun j hj => by rw [upd_other _ _ (by omega)]; exact hX.out j hj
    have hdeps : ∀ j o, upd L i true j = true → ops[j]? = some o → ∀ e ∈ o.after, Region.binds .any e = true → upd L i true e.on = true := fun j o' hj ho' e he hb => by
      have h1 : L e.on = true := by
        by_cases ej : j = i
        · subst ej
          rw [ho] at ho'
          injection ho' with ho'
          subst ho'
          exact hdep e he hb
        · rw [upd_other _ _ ej] at hj
          exact hX.deps j o' hj ho' e he hb
      by_cases e2 : e.on = i
      · rw [e2, upd_same]
      · rw [upd_other _ _ e2]; exact h1
    -- a step that yields
    have yield : ∀ (v : Value) (w' : World), (∀ l, ro.getD i .val ≠ .fill l) → (∀ l, ro.getD i .val ≠ .fillOld l) → Below w.heap.size w w' → (fs.getD i (Fact.top _)).p false v w' → ((ro.getD i .val).al = true → v = ptr w.heap.size) →
        Facts ops W.heap.size fs ro G ψ sT (upd L i true) (upd V i v) w' := by
      intro v w' hn1 hn2 hbw hv hav
      have hst : ∀ j, (ro.getD j .val).al = true → (ro.getD j .val).st ≠ i := fun j hj e => by
        have := (hA j _ (hal2 j hj)).2.1
        rw [e] at this
        exact hn1 _ this
      refine ⟨hG1 _ _ hX.glob hbw, Nat.le_trans hX.size hbw.size, fun j hj => ?_, fun l hl => ?_, fun p q hpq hp hq hLp hLq => ?_, hout', hdeps⟩
      · by_cases e : j = i
        · subst e
          rw [upd_same]
          cases hj2 : (ro.getD j .val).al with
          | false => exact hv
          | true =>
            rw [upd_other _ _ (hst j hj2)]
            have h3 := hA j _ (hal2 j hj2)
            obtain ⟨_, _, o', e', ho', he', hb', hon'⟩ := h3
            have h4 : L (ro.getD j .val).st = false := by
              cases hLs : L (ro.getD j .val).st with
              | false => rfl
              | true =>
                have := hX.deps _ _ hLs ho' e' he' hb'
                rw [hon', hL] at this
                cases this
            rw [h4]; exact hv
        · rw [upd_other _ _ e] at hj ⊢
          have h1 := (fs.getD j (Fact.top _)).st _ _ _ _ (hX.has j hj) hbw
          cases hj2 : (ro.getD j .val).al with
          | false => rw [hj2] at h1; exact h1
          | true => rw [upd_other _ _ (hst j hj2)]; rw [hj2] at h1; exact h1
      · have h1 : sT.getD l 0 ≠ i := fun e => by
          have := (hr2 l hl).2
          rw [e] at this
          exact hn2 _ this
        rw [upd_other _ _ h1]
        exact hψ1 _ _ _ _ hl (hX.old l hl) hbw
      · have key : ∀ r, (ro.getD r .val).al = true → L r = true → V r ≠ ptr w.heap.size := fun r hr hLr e => by
          obtain ⟨g, h1, h2, h3⟩ := (fs.getD r (Fact.top _)).hal _ _ _ ((hal r).trans hr) (hX.has r hLr)
          rw [h1] at e
          have := ptr_inj e
          omega
        by_cases ep : p = i
        · subst ep
          have eq : q ≠ p := Ne.symm hpq
          rw [upd_same, upd_other _ _ eq, hav hp]
          rw [upd_other _ _ eq] at hLq
          exact (key q hq hLq).symm
        · by_cases eq : q = i
          · subst eq
            rw [upd_same, upd_other _ _ ep, hav hq]
            rw [upd_other _ _ ep] at hLp
            exact key p hp hLp
          · rw [upd_other _ _ ep, upd_other _ _ eq]
            rw [upd_other _ _ ep] at hLp
            rw [upd_other _ _ eq] at hLq
            exact hX.ne p q hpq hp hq hLp hLq
    have nefill : (ro.getD i .val).al = false → ∀ p q, p ≠ q → (ro.getD p .val).al = true → (ro.getD q .val).al = true → upd L i true p = true → upd L i true q = true → upd V i undef p ≠ upd V i undef q := fun hni p q hpq hp hq hLp hLq => by
      have ep : p ≠ i := fun e => by rw [e, hni] at hp; cases hp
      have eq : q ≠ i := fun e => by rw [e, hni] at hq; cases hq
      rw [upd_other _ _ ep, upd_other _ _ eq]
      rw [upd_other _ _ ep] at hLp
      rw [upd_other _ _ eq] at hLq
      exact hX.ne p q hpq hp hq hLp hLq
    unfold StepOk
    rcases hob with ⟨hw, hob⟩ | ⟨hw, hrv, hob⟩
    rotate_left
    · rw [if_neg (by rw [hw]; decide)]
      exact yield undef w (by rw [hrv]; intro l h; cases h) (by rw [hrv]; intro l h; cases h) (Below.refl _ _) hob (by rw [hrv]; intro h; cases h)
    rw [if_pos hw]
    cases hr : ro.getD i .val with
    | val =>
      rw [hr] at hob
      refine Oper.wp_mono (fun a' w' hk => ?_) hob
      obtain ⟨v, ha, hbw, hv⟩ := hk
      exact ⟨v, ha, yield v w' (by rw [hr]; intro l h; cases h) (by rw [hr]; intro l h; cases h) hbw hv (by rw [hr]; intro h; cases h)⟩
    | alloc s =>
      rw [hr] at hob
      refine Oper.wp_mono (fun a' w' hk => ?_) hob
      obtain ⟨ha, hbw, hv⟩ := hk
      exact ⟨_, ha, yield _ w' (by rw [hr]; intro l h; cases h) (by rw [hr]; intro l h; cases h) hbw hv (fun _ => rfl)⟩
    | fill l =>
      rw [hr] at hob
      refine Oper.wp_mono (fun a' w' hk => ?_) hob
      obtain ⟨g, ha, hg, hnf, honly, hv, hv2⟩ := hk
      have hrl' := hF i l hr
      obtain ⟨_, _, o', e', ho', he', hb', hon'⟩ := hA l i hrl'
      rw [ho] at ho'
      injection ho' with ho'
      subst ho'
      have hLl : L l = true := by rw [← hon']; exact hdep e' he' hb'
      have hll : (ro.getD l .val).al = true := by rw [hrl']; rfl
      have hli : l ≠ i := fun e => by rw [e, hr] at hrl'; cases hrl'
      have hgW : W.heap.size ≤ g := by
        obtain ⟨g1, h1, h2, _⟩ := (fs.getD l (Fact.top _)).hal _ _ _ ((hal l).trans hll) (hX.has l hLl)
        rw [hg] at h1
        have := ptr_inj h1
        omega
      refine ⟨undef, ha, hG2 _ _ g hX.glob (.inl hgW) hnf honly, by rw [honly.size]; exact hX.size, fun j hj => ?_, fun k hk => ?_, nefill (by rw [hr]; rfl), hout', hdeps⟩
      · by_cases e : j = i
        · subst e
          rw [upd_same, hr]
          exact hv2
        · rw [upd_other _ _ e] at hj ⊢
          by_cases ejl : j = l
          · subst ejl
            rw [hrl']
            show (fs.getD j (Fact.top _)).p (true && upd L i true i) (V j) w'
            rw [upd_same]
            exact hv
          · have h1 := (fs.getD j (Fact.top _)).st2 _ _ _ _ g (hX.has j hj) (fun haj e3 => hX.ne j l ejl ((hal j).symm.trans haj) hll hj hLl (e3.trans hg.symm)) hnf honly
            cases hj2 : (ro.getD j .val).al with
            | false => rw [hj2] at h1; exact h1
            | true =>
              have h5 : (ro.getD j .val).st ≠ i := fun e => by
                have h6 := (hA j _ (hal2 j hj2)).2.1
                rw [e, hr] at h6
                injection h6 with h6
                exact ejl h6.symm
              rw [upd_other _ _ h5]; rw [hj2] at h1; exact h1
      · have h1 : sT.getD k 0 ≠ i := fun e => by
          have := (hr2 k hk).2
          rw [e, hr] at this
          cases this
        rw [upd_other _ _ h1]
        exact hψ2 _ _ _ _ g hk (hX.old k hk) (fun e => by have := htg k hk; omega) hnf honly
    | fillOld l =>
      rw [hr] at hob
      refine Oper.wp_mono (fun a' w' hk => ?_) hob
      obtain ⟨ha, hnf, honly, hv, hv2⟩ := hk
      obtain ⟨hl, hsl⟩ := hO i l hr
      have htl := htg l hl
      refine ⟨undef, ha, hG2 _ _ _ hX.glob (.inr ⟨l, hl, rfl⟩) hnf honly, by rw [honly.size]; exact hX.size, fun j hj => ?_, fun k hk => ?_, nefill (by rw [hr]; rfl), hout', hdeps⟩
      · by_cases e : j = i
        · subst e
          rw [upd_same, hr]
          exact hv2
        · rw [upd_other _ _ e] at hj ⊢
          have h1 := (fs.getD j (Fact.top _)).st2 _ _ _ _ (tg l) (hX.has j hj) (fun haj e3 => by
            obtain ⟨g1, h1, h2, _⟩ := (fs.getD j (Fact.top _)).hal _ _ _ haj (hX.has j hj)
            rw [h1] at e3
            have := ptr_inj e3
            omega) hnf honly
          cases hj2 : (ro.getD j .val).al with
          | false => rw [hj2] at h1; exact h1
          | true =>
            have h5 : (ro.getD j .val).st ≠ i := fun e => by
              have h6 := (hA j _ (hal2 j hj2)).2.1
              rw [e, hr] at h6
              cases h6
            rw [upd_other _ _ h5]; rw [hj2] at h1; exact h1
      · by_cases ek : k = l
        · subst ek
          rw [hsl, upd_same]
          exact hv
        · have h1 : sT.getD k 0 ≠ i := fun e => by
            have := (hr2 k hk).2
            rw [e, hr] at this
            injection this with this
            exact ek this.symm
          rw [upd_other _ _ h1]
          exact hψ2 _ _ _ _ (tg l) hk (hX.old k hk) (htn l k hl hk (Ne.symm ek)) hnf honly
  · intro L V a w hall hf hX
    have hLe : L = fun i => decide (i < ops.size) := by
      funext i
      by_cases h : i < ops.size
      · rw [hall i h]; simp [h]
      · rw [hX.out i (by omega)]; simp [h]
    subst hLe
    have hroll : ∀ i, (ro.getD i .val).al = true → i < ops.size := fun i h => hlt i (fun e => by rw [e] at h; cases h)
    refine hend V a w hf hX.glob hX.size (fun j hj => ?_) (fun l hl => ?_) (fun p q hpq hp hq => hX.ne p q hpq hp hq (by simpa using hroll p hp) (by simpa using hroll q hq))
    · have h1 := hX.has j (by simpa using hj)
      cases hj2 : (ro.getD j .val).al with
      | false => rw [hj2] at h1; exact h1
      | true =>
        have := (hA j _ (hal2 j hj2)).1
        rw [hj2] at h1
        have h2 : (fs.getD j (Fact.top _)).p (true && decide ((ro.getD j .val).st < ops.size)) (V j) w := h1
        rw [decide_eq_true this] at h2
        exact h2
    · have h1 : ψ l (decide (sT.getD l 0 < ops.size)) w := hX.old l hl
      rw [decide_eq_true (hr2 l hl).1] at h1
      exact h1
end
end Go.Proofs.Ytijmjkkjopplbaa

