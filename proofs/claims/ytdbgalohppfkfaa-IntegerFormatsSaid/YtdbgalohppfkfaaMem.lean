/- What memory holds: a slice of limbs that is read, a block of limbs that the call itself made. Facts on worlds, no walk. -/
import Derived.WalkKit
import Derived.WalkSpells
import Derived.WalkLawsBesides
import Derived.Deep.Draws
import Derived.Deep.LoopGhost
import Derived.Deep.QuietTactic
import Derived.BigQuiet
import Derived.Deep.RegionHeld3
import Derived.Deep.DeepCutAuto
import Derived.Deep.CutBlock
import Derived.Test.YtdbgalohppfkfaaPure
namespace Go.Proofs.Ytdbgalohppfkfaa
open Go.RowKit

theorem hid {p : Prop} (h : p) : Hid p := h

/-- A slice at this address reads as these limbs. -/
def Sl (w : World) (A : Option Addr) (xs : List Int) : Prop :=
  xs.length ≤ 1099511627776 ∧ (0 < xs.length → ∃ b o, A = some ⟨b, o, none⟩ ∧ ∀ j, j < xs.length → w.cell? ⟨b, o + j, none⟩ = some (.int .u32 (lm xs j)))
/-- Block g holds just these limbs, none of them frozen. -/
def Own (w : World) (g : Nat) (xs : List Int) : Prop := w.heap[g]? = some (.cells (xs.map (Value.int .u32)).toArray 33)

theorem lt_of_cell {w : World} {a : Addr} {v : Value} (h : w.cell? a = some v) : a.block < w.heap.size := by
  unfold World.cell? at h
  rcases Nat.lt_or_ge a.block w.heap.size with h1 | h1
  · exact h1
  · rw [Array.getElem?_eq_none h1] at h; cases h
theorem cell_below {w w' : World} (h : Below w.heap.size w w') {a : Addr} {v : Value} (hc : w.cell? a = some v) : w'.cell? a = some v := by
  rw [h.cell (lt_of_cell hc)]; exact hc

theorem Sl.len {w : World} {A : Option Addr} {xs : List Int} (h : Sl w A xs) : xs.length ≤ 1099511627776 := h.1
theorem Sl.nil (w : World) (A : Option Addr) : Sl w A [] := ⟨by decide, fun h => absurd h (by decide)⟩
theorem Sl.at {w : World} {A : Option Addr} {xs : List Int} (h : Sl w A xs) (h0 : 0 < xs.length) :
    ∃ b o, A = some ⟨b, o, none⟩ ∧ ∀ j, j < xs.length → w.cell? ⟨b, o + j, none⟩ = some (.int .u32 (lm xs j)) := h.2 h0
theorem Sl.below {w w' : World} {A : Option Addr} {xs : List Int} (h : Sl w A xs) (hb : Below w.heap.size w w') : Sl w' A xs :=
  ⟨h.1, fun h0 => let ⟨b, o, e, hc⟩ := h.2 h0; ⟨b, o, e, fun j hj => cell_below hb (hc j hj)⟩⟩
theorem Sl.drew {w : World} {A : Option Addr} {xs : List Int} (h : Sl w A xs) (n : Nat) : Sl (w.drewN n) A xs := h
theorem Sl.take {w : World} {A : Option Addr} {xs : List Int} (h : Sl w A xs) (n : Nat) : Sl w A (xs.take n) :=
  ⟨by rw [List.length_take]; have := h.1; omega, fun h0 => by
    rw [List.length_take] at h0
    obtain ⟨b, o, e, hc⟩ := h.2 (by omega)
    refine ⟨b, o, e, fun j hj => ?_⟩
    rw [List.length_take] at hj
    rw [lm_take (by omega)]; exact hc j (by omega)⟩

theorem Own.cell {w : World} {g : Nat} {xs : List Int} (h : Own w g xs) {j : Nat} (hj : j < xs.length) : w.cell? ⟨g, j, none⟩ = some (.int .u32 (lm xs j)) := by
  unfold World.cell?
  unfold Own at h
  simp [h, hj, lm_getElem hj]
theorem Own.free {w : World} {g : Nat} {xs : List Int} (h : Own w g xs) (j : Nat) : w.frozen? ⟨g, j, none⟩ = false := by
  unfold World.frozen?
  unfold Own at h
  simp [h]
theorem Own.lt {w : World} {g : Nat} {xs : List Int} (h : Own w g xs) : g < w.heap.size := by
  rcases Nat.lt_or_ge g w.heap.size with h1 | h1
  · exact h1
  · unfold Own at h; rw [Array.getElem?_eq_none h1] at h; cases h
theorem Own.set {w : World} {g : Nat} {xs : List Int} (h : Own w g xs) (j : Nat) (y : Int) : Own (w.setCell ⟨g, j, none⟩ (.int .u32 y)) g (xs.set j y) := by
  unfold Own at h ⊢
  unfold World.setCell
  rw [Array.getElem?_modify]
  simp [h, List.map_set]
theorem Own.below {w w' : World} {g B : Nat} {xs : List Int} (h : Own w g xs) (hb : Below B w w') (hg : g < B) : Own w' g xs := by
  unfold Own at h ⊢
  rw [hb.block g hg]; exact h
theorem Own.drew {w : World} {g : Nat} {xs : List Int} (h : Own w g xs) (n : Nat) : Own (w.drewN n) g xs := h
theorem Own.alloc {w : World} {g : Nat} {xs : List Int} (h : Own w g xs) (o : Obj) : Own (w.alloc o) g xs := by
  have hl := h.lt
  unfold Own at h ⊢
  rw [Below.heap_alloc w o g hl]; exact h
theorem Own.sl {w : World} {g : Nat} {xs : List Int} (h : Own w g xs) (hl : xs.length ≤ 1099511627776) : Sl w (some ⟨g, 0, none⟩) xs :=
  ⟨hl, fun _ => ⟨g, 0, rfl, fun j hj => by rw [Nat.zero_add]; exact h.cell hj⟩⟩
/-- What 'make' lays. -/
def zs (n : Nat) : Array Value := ((List.replicate n (0 : Int)).map (Value.int .u32)).toArray
theorem Own.made (w : World) (n : Nat) : Own (w.alloc (.cells (zs n) 33)) w.heap.size (List.replicate n 0) := by
  unfold Own World.alloc zs
  simp

theorem below_drewN {B : Nat} {a w : World} (h : Below B a w) (n : Nat) : Below B a (w.drewN n) := ⟨h.os, h.tape, h.output, h.size, h.block⟩
theorem below_next {B : Nat} {w w1 w2 : World} (h : Below B w w1) (k : Below w1.heap.size w1 w2) (hB : B ≤ w1.heap.size) : Below B w w2 := h.trans (k.mono hB)
/-- This value is a slice that reads as these limbs. -/
def SlV (w : World) (v : Value) (xs : List Int) : Prop := ∃ A c, v = .slice A xs.length c ∧ xs.length ≤ c ∧ Sl w A xs
theorem SlV.mk {w : World} {A : Option Addr} {n c : Nat} {xs : List Int} (h : Sl w A xs) (hn : xs.length = n) (hc : n ≤ c) : SlV w (.slice A n c) xs := by
  subst hn; exact ⟨A, c, rfl, hc, h⟩
theorem SlV.len {w : World} {v : Value} {xs : List Int} (h : SlV w v xs) : xs.length ≤ 1099511627776 := let ⟨_, _, _, _, h3⟩ := h; h3.1
theorem SlV.below {w w' : World} {v : Value} {xs : List Int} (h : SlV w v xs) (hb : Below w.heap.size w w') : SlV w' v xs := let ⟨A, c, h1, h2, h3⟩ := h; ⟨A, c, h1, h2, h3.below hb⟩
theorem SlV.drew {w : World} {v : Value} {xs : List Int} (h : SlV w v xs) (n : Nat) : SlV (w.drewN n) v xs := h
theorem Own.slv {w : World} {g n c : Nat} {xs : List Int} (h : Own w g xs) (hl : xs.length = n) (hb : n ≤ 1099511627776) (hc : n ≤ c) : SlV w (.slice (some ⟨g, 0, none⟩) n c) xs := by
  subst hl; exact ⟨_, c, rfl, hc, h.sl hb⟩
/-- The second value is a cut of the first one: in whatever world the first reads as xs, the second reads as ys. -/
def Cut (s : Value) (xs : List Int) (s' : Value) (ys : List Int) : Prop := ∀ W, SlV W s xs → SlV W s' ys
theorem Cut.take {A : Option Addr} {xs : List Int} {n c m d : Nat} (hm : m ≤ n) (hd : m ≤ d) (hn : xs.length = n) : Cut (.slice A n c) xs (.slice A m d) (xs.take m) := fun W h => by
  obtain ⟨B, e, h1, h2, h3⟩ := h
  injection h1 with h1 h4 h5
  subst h1
  exact .mk (h3.take m) (by rw [List.length_take]; omega) hd
/-- The call hands back a slice that reads as these limbs. -/
def RetSl (w : World) (xs : List Int) (e : Ending) : Prop := ∃ v, e = .returned v ∧ SlV w v xs
theorem RetSl.mk {w : World} {A : Option Addr} {n c : Nat} {xs : List Int} (h : Sl w A xs) (hn : xs.length = n) (hc : n ≤ c) : RetSl w xs (.returned (.slice A n c)) := ⟨_, rfl, .mk h hn hc⟩
theorem RetSl.of {w : World} {v : Value} {xs : List Int} (h : SlV w v xs) : RetSl w xs (.returned v) := ⟨_, rfl, h⟩
/-- The call hands back canonical limbs of this number. -/
def RetN (w : World) (z : Int) (e : Ending) : Prop := ∃ xs, RetSl w xs e ∧ Lb xs ∧ Cn xs ∧ nv xs = z
/-- The world is the old one, some orders having been drawn. -/
def Dr (w w' : World) : Prop := ∃ n, w' = w.drewN n
theorem Dr.refl (w : World) : Dr w w := ⟨0, rfl⟩
theorem Dr.step {w w' : World} (h : Dr w w') (n : Nat) : Dr w (w'.drewN n) := by
  obtain ⟨m, rfl⟩ := h
  exact ⟨m + n, World.drewN_drewN ..⟩
theorem Dr.drew {w w' : World} (h : Dr w w') : Dr w w'.drew := h.step 1
theorem Dr.trans {w w' w2 : World} (h : Dr w w') (k : Dr w' w2) : Dr w w2 := by
  obtain ⟨m, rfl⟩ := k
  exact h.step m
theorem Dr.below {w w' : World} (h : Dr w w') : Below w.heap.size w w' := by
  obtain ⟨m, rfl⟩ := h
  exact below_drewN (Below.refl _ _) m
end Go.Proofs.Ytdbgalohppfkfaa
