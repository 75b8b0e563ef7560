/- What an api.Int is in memory; walks: signed, magnitude, Small. -/
import Derived.Test.YtdbgalohppfkfaaPlus
namespace Go.Proofs.Ytdbgalohppfkfaa
open Go.RowKit

/-- The sign put to an absolute value. -/
def sg (neg : Bool) (n : Int) : Int := if neg then -n else n
/-- This value is an Int of the number z, canonical or not, with at most n limbs. -/
def IntA (w : World) (v : Value) (z : Int) (n : Nat) : Prop := ∃ neg s xs, v = .agg #[.bool neg, s] ∧ SlV w s xs ∧ Lb xs ∧ xs.length ≤ n ∧ z = sg neg (nv xs)
/-- This value is the canonical Int of the number z. -/
def IntV (w : World) (v : Value) (z : Int) : Prop := ∃ neg s xs, v = .agg #[.bool neg, s] ∧ SlV w s xs ∧ Lb xs ∧ Cn xs ∧ (neg = true → xs ≠ []) ∧ z = sg neg (nv xs)
/-- The number has at most n limbs. -/
def Sm (n : Nat) (z : Int) : Prop := -bp n < z ∧ z < bp n
def RetI (w : World) (z : Int) (e : Ending) : Prop := ∃ v, e = .returned v ∧ IntV w v z

theorem IntA.below {w w' : World} {v : Value} {z : Int} {n : Nat} (h : IntA w v z n) (hb : Below w.heap.size w w') : IntA w' v z n := let ⟨a, b, c, h1, h2, h3⟩ := h; ⟨a, b, c, h1, h2.below hb, h3⟩
theorem IntV.below {w w' : World} {v : Value} {z : Int} (h : IntV w v z) (hb : Below w.heap.size w w') : IntV w' v z := let ⟨a, b, c, h1, h2, h3⟩ := h; ⟨a, b, c, h1, h2.below hb, h3⟩
theorem IntA.mono {w : World} {v : Value} {z : Int} {n m : Nat} (h : IntA w v z n) (hm : n ≤ m) : IntA w v z m := let ⟨a, b, c, h1, h2, h3, h4, h5⟩ := h; ⟨a, b, c, h1, h2, h3, Nat.le_trans h4 hm, h5⟩
theorem sg_false (n : Int) : sg false n = n := rfl
theorem sg_true (n : Int) : sg true n = -n := rfl
theorem sm_sg {neg : Bool} {xs : List Int} (h : Lb xs) {n : Nat} (hn : xs.length ≤ n) : Sm n (sg neg (nv xs)) := by
  have h1 := nv_nonneg h
  have h2 := nv_lt h
  have h3 := bp_mono hn
  cases neg
  · exact ⟨by rw [sg_false]; omega, by rw [sg_false]; omega⟩
  · exact ⟨by rw [sg_true]; omega, by rw [sg_true]; omega⟩
theorem IntA.sm {w : World} {v : Value} {z : Int} {n : Nat} (h : IntA w v z n) : Sm n z := by
  obtain ⟨neg, s, xs, _, _, hl, hn, rfl⟩ := h
  exact sm_sg hl hn
theorem nv_of_sm {neg : Bool} {xs : List Int} {n : Nat} (h : Sm n (sg neg (nv xs))) : nv xs < bp n := by
  unfold Sm at h
  cases neg
  · exact h.2
  · have := h.1; rw [sg_true] at this; omega
theorem IntV.arg {w : World} {v : Value} {z : Int} {n : Nat} (h : IntV w v z) (hz : Sm n z) : IntA w v z n := by
  obtain ⟨neg, s, xs, h1, h2, h3, h4, h5, rfl⟩ := h
  exact ⟨neg, s, xs, h1, h2, h3, h4.length_le h3 (nv_of_sm hz), rfl⟩
theorem IntV.zero (w : World) : IntV w (.agg #[.bool false, .slice none 0 0]) 0 := ⟨false, _, [], rfl, ⟨none, 0, rfl, Nat.le_refl _, Sl.nil _ _⟩, Lb.nil, Cn.nil, (fun h => by cases h), rfl⟩

/-- A cell that holds no number is no limb's: what is stored there changes no limbs. -/
theorem SlV.setCell {w : World} {s : Value} {xs : List Int} (h : SlV w s xs) {a : Addr} {u : Value} (hc : w.cell? a = some u) (hu : ∀ n, u ≠ .int .u32 n) (y : Value) : SlV (w.setCell a y) s xs := by
  obtain ⟨A, c, h1, h2, h3, h4⟩ := h
  refine ⟨A, c, h1, h2, h3, fun h0 => ?_⟩
  obtain ⟨b, o, e, hcl⟩ := h4 h0
  refine ⟨b, o, e, fun j hj => ?_⟩
  have hj' := hcl j hj
  rw [World.cell?_setCell_other (h := fun e => ?_)]
  · exact hj'
  · rw [e, hj'] at hc
    injection hc with hc
    exact hu _ hc.symm
theorem IntV.setCell {w : World} {v : Value} {z : Int} (h : IntV w v z) {a : Addr} {u : Value} (hc : w.cell? a = some u) (hu : ∀ n, u ≠ .int .u32 n) (y : Value) : IntV (w.setCell a y) v z :=
  let ⟨a1, b, c, h1, h2, h3⟩ := h
  ⟨a1, b, c, h1, h2.setCell hc hu y, h3⟩

theorem Own.new (w : World) (xs : List Int) : Own (w.alloc (.cells (xs.map (Value.int .u32)).toArray 33)) w.heap.size xs := by
  unfold Own World.alloc
  simp
/-- What a box of two cells holds behind calls that leave it alone. -/
theorem box_cells {w w1 : World} {a b : Value} {T : TypeId} (h : Below (w.heap.size + 1) (w.alloc (.cells #[a, b] T)) w1) :
    w1.cell? ⟨w.heap.size, 0, none⟩ = some a ∧ w1.cell? ⟨w.heap.size, 1, none⟩ = some b ∧ w1.frozen? ⟨w.heap.size, 0, none⟩ = false ∧ w1.frozen? ⟨w.heap.size, 1, none⟩ = false := by
  refine ⟨?_, ?_, ?_, ?_⟩
  · rw [h.cell (Nat.lt_succ_self _)]; simp
  · rw [h.cell (Nat.lt_succ_self _)]; simp
  · rw [h.frozen (Nat.lt_succ_self _)]; unfold World.frozen? World.alloc; simp
  · rw [h.frozen (Nat.lt_succ_self _)]; unfold World.frozen? World.alloc; simp

theorem IntV.form {w : World} {v : Value} {z : Int} (h : IntV w v z) : ∃ neg A n c, v = .agg #[.bool neg, .slice A n c] :=
  let ⟨neg, _, xs, h1, ⟨A, c, h2, _, _⟩, _⟩ := h
  ⟨neg, A, xs.length, c, by rw [h1, h2]⟩
theorem IntA.form {w : World} {v : Value} {z : Int} {m : Nat} (h : IntA w v z m) : ∃ neg A n c, v = .agg #[.bool neg, .slice A n c] :=
  let ⟨neg, _, xs, h1, ⟨A, c, h2, _, _⟩, _⟩ := h
  ⟨neg, A, xs.length, c, by rw [h1, h2]⟩
/-- An Int is stored into a box: it stays what it is. -/
theorem IntV.boxed {w : World} {v : Value} {z : Int} (h : IntV w v z) {g n0 c0 : Nat} {b0 : Bool} {A0 : Option Addr} (k0 : w.cell? ⟨g, 0, none⟩ = some (.bool b0)) (k1 : w.cell? ⟨g, 1, none⟩ = some (.slice A0 n0 c0)) (x y : Value) :
    IntV ((w.setCell ⟨g, 0, none⟩ x).setCell ⟨g, 1, none⟩ y) v z :=
  (h.setCell k0 (fun _ e => by cases e) x).setCell (a := ⟨g, 1, none⟩) (u := .slice A0 n0 c0) (by rw [World.cell?_setCell_other (h := by simp)]; exact k1) (fun _ e => by cases e) y

/-- The end of a function whose result is an Int in a box of its own. -/
theorem fin_box {w0 w1 : World} {g n0 c0 : Nat} {v : Value} {z : Int} {b0 : Bool} {A0 : Option Addr} (hb : Below w0.heap.size w0 w1) (hg : w0.heap.size ≤ g)
    (k0 : w1.cell? ⟨g, 0, none⟩ = some (.bool b0)) (k1 : w1.cell? ⟨g, 1, none⟩ = some (.slice A0 n0 c0)) (hv : IntV w1 v z) :
    ∃ neg A n c, v = .agg #[.bool neg, .slice A n c] ∧ Hid (RetI ((w1.setCell ⟨g, 0, none⟩ (.bool neg)).setCell ⟨g, 1, none⟩ (.slice A n c)) z (.returned (.agg #[.bool neg, .slice A n c])) ∧
      Below w0.heap.size w0 ((w1.setCell ⟨g, 0, none⟩ (.bool neg)).setCell ⟨g, 1, none⟩ (.slice A n c))) := by
  have hI := hv.boxed k0 k1
  obtain ⟨neg, A, n, c, rfl⟩ := hv.form
  exact ⟨neg, A, n, c, rfl, ⟨_, rfl, hI _ _⟩, (hb.setCell hg _).setCell hg _⟩

theorem fin_agg {w0 w1 : World} {g n0 c0 n c : Nat} {z : Int} {b0 neg : Bool} {A0 A : Option Addr} (hb : Below w0.heap.size w0 w1) (hg : w0.heap.size ≤ g)
    (k0 : w1.cell? ⟨g, 0, none⟩ = some (.bool b0)) (k1 : w1.cell? ⟨g, 1, none⟩ = some (.slice A0 n0 c0)) (hv : IntV w1 (.agg #[.bool neg, .slice A n c]) z) :
    Hid (RetI ((w1.setCell ⟨g, 0, none⟩ (.bool neg)).setCell ⟨g, 1, none⟩ (.slice A n c)) z (.returned (.agg #[.bool neg, .slice A n c])) ∧
      Below w0.heap.size w0 ((w1.setCell ⟨g, 0, none⟩ (.bool neg)).setCell ⟨g, 1, none⟩ (.slice A n c))) :=
  ⟨⟨_, rfl, hv.boxed k0 k1 _ _⟩, (hb.setCell hg _).setCell hg _⟩
/-- Block g is a box of two cells. -/
def Bx (w : World) (g : Nat) (a b : Value) : Prop := w.cell? ⟨g, 0, none⟩ = some a ∧ w.cell? ⟨g, 1, none⟩ = some b ∧ w.frozen? ⟨g, 0, none⟩ = false ∧ w.frozen? ⟨g, 1, none⟩ = false
theorem Bx.below {w w' : World} {g : Nat} {a b : Value} (h : Bx w g a b) (hb : Below w.heap.size w w') : Bx w' g a b := by
  have hl := lt_of_cell h.1
  exact ⟨cell_below hb h.1, cell_below hb h.2.1, (hb.frozen (p := ⟨g, 0, none⟩) hl).trans h.2.2.1, (hb.frozen (p := ⟨g, 1, none⟩) hl).trans h.2.2.2⟩
theorem Bx.new (w : World) (a b : Value) (T : TypeId) : Bx (w.alloc (.cells #[a, b] T)) w.heap.size a b := box_cells (Below.refl _ _)
theorem Bx.alloc {w : World} {g : Nat} {a b : Value} (h : Bx w g a b) (o : Obj) : Bx (w.alloc o) g a b := h.below ((Below.refl _ _).alloc (Nat.le_refl _) _)
theorem bw_alloc {w0 w : World} (h : Below w0.heap.size w0 w) (o : Obj) : Below w0.heap.size w0 (w.alloc o) := h.alloc h.size o
theorem bw_step {w0 w w1 : World} (h : Below w0.heap.size w0 w) (k : Below w.heap.size w w1) : Below w0.heap.size w0 w1 := h.trans (k.mono h.size)
theorem bw_keep {w0 w w1 : World} (h : Hid (Below w0.heap.size w0 w)) (k : Below w.heap.size w w1) : Hid (Below w0.heap.size w0 w1) := bw_step h k
theorem bw_drew (w : World) : Hid (Below w.heap.size w w.drew) := (Below.refl _ _).drew

/-- Two boxes, one behind the other. -/
theorem Bx.two (w : World) (a b c d : Value) (T : TypeId) : Bx ((w.alloc (.cells #[a, b] T)).alloc (.cells #[c, d] T)) w.heap.size a b ∧ Bx ((w.alloc (.cells #[a, b] T)).alloc (.cells #[c, d] T)) (w.heap.size + 1) c d := by
  refine ⟨(Bx.new _ _ _ _).alloc _, ?_⟩
  have := Bx.new (w.alloc (.cells #[a, b] T)) c d T
  rwa [World.size_alloc] at this
/-- Three boxes. -/
theorem Bx.three (w : World) (a b c d x y : Value) (T : TypeId) : Bx (((w.alloc (.cells #[a, b] T)).alloc (.cells #[c, d] T)).alloc (.cells #[x, y] T)) w.heap.size a b ∧
    Bx (((w.alloc (.cells #[a, b] T)).alloc (.cells #[c, d] T)).alloc (.cells #[x, y] T)) (w.heap.size + 1) c d ∧ Bx (((w.alloc (.cells #[a, b] T)).alloc (.cells #[c, d] T)).alloc (.cells #[x, y] T)) (w.heap.size + 1 + 1) x y := by
  refine ⟨(Bx.two ..).1.alloc _, (Bx.two ..).2.alloc _, ?_⟩
  have := Bx.new ((w.alloc (.cells #[a, b] T)).alloc (.cells #[c, d] T)) x y T
  rwa [World.size_alloc, World.size_alloc] at this
/-- Four boxes. -/
theorem Bx.four (w : World) (a b c d x y p q : Value) (T : TypeId) :
    Bx ((((w.alloc (.cells #[a, b] T)).alloc (.cells #[c, d] T)).alloc (.cells #[x, y] T)).alloc (.cells #[p, q] T)) w.heap.size a b ∧ Bx ((((w.alloc (.cells #[a, b] T)).alloc (.cells #[c, d] T)).alloc (.cells #[x, y] T)).alloc (.cells #[p, q] T)) (w.heap.size + 1) c d ∧
    Bx ((((w.alloc (.cells #[a, b] T)).alloc (.cells #[c, d] T)).alloc (.cells #[x, y] T)).alloc (.cells #[p, q] T)) (w.heap.size + 1 + 1) x y ∧ Bx ((((w.alloc (.cells #[a, b] T)).alloc (.cells #[c, d] T)).alloc (.cells #[x, y] T)).alloc (.cells #[p, q] T)) (w.heap.size + 1 + 1 + 1) p q := by
  refine ⟨(Bx.three ..).1.alloc _, (Bx.three ..).2.1.alloc _, (Bx.three ..).2.2.alloc _, ?_⟩
  have := Bx.new (((w.alloc (.cells #[a, b] T)).alloc (.cells #[c, d] T)).alloc (.cells #[x, y] T)) p q T
  rwa [World.size_alloc, World.size_alloc, World.size_alloc] at this
theorem bw_two (w : World) (o p : Obj) : Below w.heap.size w ((w.alloc o).alloc p) := bw_alloc (bw_alloc (Below.refl _ _) _) _

/-- What a cell holds, whatever it is. -/
def cv (w : World) (a : Addr) : Value := (w.cell? a).getD undef
theorem cvx {w : World} {a : Addr} {u : Value} (h : w.cell? a = some u) : w.cell? a = some (cv w a) := by unfold cv; rw [h]; rfl
theorem cvb {w w' : World} {a : Addr} {u : Value} (hb : Below w.heap.size w w') (h : w.cell? a = some u) : w'.cell? a = some (cv w' a) := cvx (cell_below hb h)
theorem frozen_below {w w' : World} {a : Addr} {u : Value} (hb : Below w.heap.size w w') (h : w.cell? a = some u) (hf : w.frozen? a = false) : w'.frozen? a = false := by rw [hb.frozen (lt_of_cell h)]; exact hf
theorem frozen_set (w : World) (a b : Addr) (v : Value) : (w.setCell a v).frozen? b = w.frozen? b := by simp
theorem st_far {w : World} {a b c : Addr} {v x y : Value} (h : w.cell? c = some v) (h1 : a ≠ c) (h2 : b ≠ c) : ((w.setCell a x).setCell b y).cell? c = some v := by
  rw [World.cell?_setCell_other (h := h2), World.cell?_setCell_other (h := h1)]; exact h
theorem st_cv {w : World} {a b c : Addr} {v x y : Value} (h : w.cell? c = some v) : ((w.setCell a x).setCell b y).cell? c = some (cv ((w.setCell a x).setCell b y) c) := by
  have one : ∀ (W : World) (p : Addr) (z v : Value), W.cell? c = some v → ∃ u, (W.setCell p z).cell? c = some u := fun W p z v hv => by
    by_cases e : p = c
    · subst e; exact ⟨_, World.cell?_setCell_same _ _ _ hv⟩
    · exact ⟨_, by rw [World.cell?_setCell_other (h := e)]; exact hv⟩
  obtain ⟨u, hu⟩ := one w a x v h
  obtain ⟨u2, hu2⟩ := one _ b y u hu
  exact cvx hu2
theorem st_fr {w : World} {a b c : Addr} {x y : Value} (h : w.frozen? c = false) : ((w.setCell a x).setCell b y).frozen? c = false := by rw [frozen_set, frozen_set]; exact h

theorem st1_far {w : World} {a c : Addr} {v x : Value} (h : w.cell? c = some v) (h1 : a ≠ c) : (w.setCell a x).cell? c = some v := by
  rw [World.cell?_setCell_other (h := h1)]; exact h
theorem st1_cv {w : World} {a c : Addr} {v x : Value} (h : w.cell? c = some v) : (w.setCell a x).cell? c = some (cv (w.setCell a x) c) := by
  by_cases e : a = c
  · subst e; exact cvx (World.cell?_setCell_same _ _ _ h)
  · exact cvx (by rw [World.cell?_setCell_other (h := e)]; exact h)
theorem st1_fr {w : World} {a c : Addr} {x : Value} (h : w.frozen? c = false) : (w.setCell a x).frozen? c = false := by rw [frozen_set]; exact h

theorem magnitude_any (w : World) (v s : Value) (neg : Bool) (xs : List Int) (hv : v = .agg #[.bool neg, s]) (h : SlV w s xs) :
    Calls Try.prog 45 #[v] w fun e w' => (∃ s', e = .returned s' ∧ Cut s xs s' (tr xs)) ∧ Below w.heap.size w w' := by
  subst hv
  go_enter Try.func45, Try.ntmps45
  go_wp2_with (go_at_call 60; (with_reducible refine (trim_any _ _ xs (h.below ((Below.refl _ _).alloc (Nat.le_refl _) _))).mono ?_); rintro e w' ⟨⟨vt, rfl, ht⟩, rfl⟩)
  go_ret
  exact ⟨⟨_, rfl, ht⟩, (Below.refl _ _).alloc (Nat.le_refl _) _⟩

theorem signed_any (w : World) (s : Value) (neg : Bool) (xs : List Int) (h : SlV w s xs) (hb : Lb xs) :
    Calls Try.prog 44 #[.bool neg, s] w fun e w' => RetI w' (sg neg (nv xs)) e ∧ Below w.heap.size w w' := by
  have H := hid h
  have HB := hid hb
  clear hb
  go_enter Try.func44, Try.ntmps44
  go_wp2_with (go_at_call 60; (with_reducible refine (trim_any _ _ xs (h.below ((Below.refl _ _).alloc (Nat.le_refl _) _))).mono ?_); rintro e w' ⟨⟨vt, rfl, ht⟩, rfl⟩; obtain ⟨A, c, rfl, hc, _⟩ := ht _ h; have HT := hid ht; clear ht h)
  · have hl : (tr xs).length = 0 := by rename_i hh; simpa using hh
    have hz : nv xs = 0 := by rw [← nv_tr, List.eq_nil_of_length_eq_zero hl]; rfl
    refine bodyPost_ret (v := .agg #[.bool false, .slice none 0 0]) (by simp [results, Try.results44, go_sem]) rfl ⟨⟨_, rfl, ?_⟩, (Below.refl _ _).alloc (Nat.le_refl _) _⟩
    rw [hz]
    cases neg
    · exact IntV.zero _
    · exact IntV.zero _
  · have hl : (tr xs).length ≠ 0 := by rename_i hh; simpa using hh
    refine bodyPost_ret (v := .agg #[.bool neg, .slice A (tr xs).length c]) (by simp [results, Try.results44, go_sem]) rfl ⟨⟨_, rfl, ?_⟩, (Below.refl _ _).alloc (Nat.le_refl _) _⟩
    exact ⟨neg, _, tr xs, rfl, HT.out _ (H.out.below ((Below.refl _ _).alloc (Nat.le_refl _) _)), HB.out.tr, Cn.tr _, (fun _ e => hl (by rw [e]; rfl)), by rw [nv_tr]⟩
end Go.Proofs.Ytdbgalohppfkfaa
