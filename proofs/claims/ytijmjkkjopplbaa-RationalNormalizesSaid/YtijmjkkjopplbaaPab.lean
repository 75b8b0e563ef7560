/- A part of the proof of the laws of rationals: Mem, Cut. -/
import Derived.WalkKit
import Derived.WalkSpells
import Derived.WalkLawsBesides
import Derived.Deep.Draws
import Derived.Deep.LoopGhost
import Derived.Deep.QuietTactic
import Derived.BigQuiet
import Derived.Deep.RegionHeld3
import Derived.Deep.DeepCutAuto
import Derived.Deep.CutBlock
import Derived.Test.YtijmjkkjopplbaaPaa
namespace Go.Proofs.Ytijmjkkjopplbaa
open Go.RowKit

theorem hid {p : Prop} (h : p) : Hid p := h

/-- A slice at this address reads as these limbs. -/
def Sl (w : World) (A : Option Addr) (xs : List Int) : Prop :=
  xs.length ≤ 1099511627776 ∧ (0 < xs.length → ∃ b o, A = some ⟨b, o, none⟩ ∧ ∀ j, j < xs.length → w.cell? ⟨b, o + j, none⟩ = some (.int .u32 (lm xs j)))
/-- Block g holds just these limbs, none of them frozen. -/
def Own (w : World) (g : Nat) (xs : List Int) : Prop := w.heap[g]? = some (.cells (xs.map (Value.int .u32)).toArray 31)

theorem lt_of_cell {w : World} {a : Addr} {v : Value} (h : w.cell? a = some v) : a.block < w.heap.size := by
  unfold World.cell? at h
  rcases Nat.lt_or_ge a.block w.heap.size with h1 | h1
  · exact h1
  · rw [Array.getElem?_eq_none h1] at h; cases h
theorem cell_below {w w' : World} (h : Below w.heap.size w w') {a : Addr} {v : Value} (hc : w.cell? a = some v) : w'.cell? a = some v := by
  rw [h.cell (lt_of_cell hc)]; exact hc

theorem Sl.len {w : World} {A : Option Addr} {xs : List Int} (h : Sl w A xs) : xs.length ≤ 1099511627776 := h.1
theorem Sl.nil (w : World) (A : Option Addr) : Sl w A [] := ⟨by decide, fun h => absurd h (by decide)⟩
theorem Sl.at {w : World} {A : Option Addr} {xs : List Int} (h : Sl w A xs) (h0 : 0 < xs.length) :
    ∃ b o, A = some ⟨b, o, none⟩ ∧ ∀ j, j < xs.length → w.cell? ⟨b, o + j, none⟩ = some (.int .u32 (lm xs j)) := h.2 h0
theorem Sl.below {w w' : World} {A : Option Addr} {xs : List Int} (h : Sl w A xs) (hb : Below w.heap.size w w') : Sl w' A xs :=
  ⟨h.1, fun h0 => let ⟨b, o, e, hc⟩ := h.2 h0; ⟨b, o, e, fun j hj => cell_below hb (hc j hj)⟩⟩
theorem Sl.drew {w : World} {A : Option Addr} {xs : List Int} (h : Sl w A xs) (n : Nat) : Sl (w.drewN n) A xs := h
theorem Sl.take {w : World} {A : Option Addr} {xs : List Int} (h : Sl w A xs) (n : Nat) : Sl w A (xs.take n) :=
  ⟨by rw [List.length_take]; have := h.1; omega, fun h0 => by
    rw [List.length_take] at h0
    obtain ⟨b, o, e, hc⟩ := h.2 (by omega)
    refine ⟨b, o, e, fun j hj => ?_⟩
    rw [List.length_take] at hj
    rw [lm_take (by omega)]; exact hc j (by omega)⟩

theorem Own.cell {w : World} {g : Nat} {xs : List Int} (h : Own w g xs) {j : Nat} (hj : j < xs.length) : w.cell? ⟨g, j, none⟩ = some (.int .u32 (lm xs j)) := by
  unfold World.cell?
  unfold Own at h
  simp [h, hj, lm_getElem hj]
theorem Own.free {w : World} {g : Nat} {xs : List Int} (h : Own w g xs) (j : Nat) : w.frozen? ⟨g, j, none⟩ = false := by
  unfold World.frozen?
  unfold Own at h
  simp [h]
theorem Own.lt {w : World} {g : Nat} {xs : List Int} (h : Own w g xs) : g < w.heap.size := by
  rcases Nat.lt_or_ge g w.heap.size with h1 | h1
  · exact h1
  · unfold Own at h; rw [Array.getElem?_eq_none h1] at h; cases h
theorem Own.set {w : World} {g : Nat} {xs : List Int} (h : Own w g xs) (j : Nat) (y : Int) : Own (w.setCell ⟨g, j, none⟩ (.int .u32 y)) g (xs.set j y) := by
  unfold Own at h ⊢
  unfold World.setCell
  rw [Array.getElem?_modify]
  simp [h, List.map_set]
theorem Own.below {w w' : World} {g B : Nat} {xs : List Int} (h : Own w g xs) (hb : Below B w w') (hg : g < B) : Own w' g xs := by
  unfold Own at h ⊢
  rw [hb.block g hg]; exact h
theorem Own.drew {w : World} {g : Nat} {xs : List Int} (h : Own w g xs) (n : Nat) : Own (w.drewN n) g xs := h
theorem Own.alloc {w : World} {g : Nat} {xs : List Int} (h : Own w g xs) (o : Obj) : Own (w.alloc o) g xs := by
  have hl := h.lt
  unfold Own at h ⊢
  rw [Below.heap_alloc w o g hl]; exact h
theorem Own.sl {w : World} {g : Nat} {xs : List Int} (h : Own w g xs) (hl : xs.length ≤ 1099511627776) : Sl w (some ⟨g, 0, none⟩) xs :=
  ⟨hl, fun _ => ⟨g, 0, rfl, fun j hj => by rw [Nat.zero_add]; exact h.cell hj⟩⟩
/-- What 'make' lays. -/
def zs (n : Nat) : Array Value := ((List.replicate n (0 : Int)).map (Value.int .u32)).toArray
theorem Own.made (w : World) (n : Nat) : Own (w.alloc (.cells (zs n) 31)) w.heap.size (List.replicate n 0) := by
  unfold Own World.alloc zs
  simp

theorem below_drewN {B : Nat} {a w : World} (h : Below B a w) (n : Nat) : Below B a (w.drewN n) := ⟨h.os, h.tape, h.output, h.size, h.block⟩
/-- This value is a slice that reads as these limbs. -/
def SlV (w : World) (v : Value) (xs : List Int) : Prop := ∃ A c, v = .slice A xs.length c ∧ xs.length ≤ c ∧ Sl w A xs
theorem SlV.mk {w : World} {A : Option Addr} {n c : Nat} {xs : List Int} (h : Sl w A xs) (hn : xs.length = n) (hc : n ≤ c) : SlV w (.slice A n c) xs := by
  subst hn; exact ⟨A, c, rfl, hc, h⟩
theorem SlV.len {w : World} {v : Value} {xs : List Int} (h : SlV w v xs) : xs.length ≤ 1099511627776 := let ⟨_, _, _, _, h3⟩ := h; h3.1
theorem SlV.below {w w' : World} {v : Value} {xs : List Int} (h : SlV w v xs) (hb : Below w.heap.size w w') : SlV w' v xs := let ⟨A, c, h1, h2, h3⟩ := h; ⟨A, c, h1, h2, h3.below hb⟩
theorem SlV.drew {w : World} {v : Value} {xs : List Int} (h : SlV w v xs) (n : Nat) : SlV (w.drewN n) v xs := h
theorem Own.slv {w : World} {g n c : Nat} {xs : List Int} (h : Own w g xs) (hl : xs.length = n) (hb : n ≤ 1099511627776) (hc : n ≤ c) : SlV w (.slice (some ⟨g, 0, none⟩) n c) xs := by
  subst hl; exact ⟨_, c, rfl, hc, h.sl hb⟩
/-- The second value is a cut of the first one: in whatever world the first reads as xs, the second reads as ys. -/
def Cut (s : Value) (xs : List Int) (s' : Value) (ys : List Int) : Prop := ∀ W, SlV W s xs → SlV W s' ys
theorem Cut.take {A : Option Addr} {xs : List Int} {n c m d : Nat} (hm : m ≤ n) (hd : m ≤ d) (hn : xs.length = n) : Cut (.slice A n c) xs (.slice A m d) (xs.take m) := fun W h => by
  obtain ⟨B, e, h1, h2, h3⟩ := h
  injection h1 with h1 h4 h5
  subst h1
  exact .mk (h3.take m) (by rw [List.length_take]; omega) hd
/-- The call hands back a slice that reads as these limbs. -/
def RetSl (w : World) (xs : List Int) (e : Ending) : Prop := ∃ v, e = .returned v ∧ SlV w v xs
theorem RetSl.mk {w : World} {A : Option Addr} {n c : Nat} {xs : List Int} (h : Sl w A xs) (hn : xs.length = n) (hc : n ≤ c) : RetSl w xs (.returned (.slice A n c)) := ⟨_, rfl, .mk h hn hc⟩
theorem RetSl.of {w : World} {v : Value} {xs : List Int} (h : SlV w v xs) : RetSl w xs (.returned v) := ⟨_, rfl, h⟩
/-- The call hands back canonical limbs of this number. -/
def RetN (w : World) (z : Int) (e : Ending) : Prop := ∃ xs, RetSl w xs e ∧ Lb xs ∧ Cn xs ∧ nv xs = z
/-- The world is the old one, some orders having been drawn. -/
def Dr (w w' : World) : Prop := ∃ n, w' = w.drewN n
theorem Dr.refl (w : World) : Dr w w := ⟨0, rfl⟩
theorem Dr.step {w w' : World} (h : Dr w w') (n : Nat) : Dr w (w'.drewN n) := by
  obtain ⟨m, rfl⟩ := h
  exact ⟨m + n, World.drewN_drewN ..⟩
theorem Dr.drew {w w' : World} (h : Dr w w') : Dr w w'.drew := h.step 1
theorem Dr.trans {w w' w2 : World} (h : Dr w w') (k : Dr w' w2) : Dr w w2 := by
  obtain ⟨m, rfl⟩ := k
  exact h.step m
theorem Dr.below {w w' : World} (h : Dr w w') : Below w.heap.size w w' := by
  obtain ⟨m, rfl⟩ := h
  exact below_drewN (Below.refl _ _) m
end Go.Proofs.Ytijmjkkjopplbaa

namespace Go.Proofs.Ytijmjkkjopplbaa
open Go.RowKit
set_option linter.unusedVariables false
set_option maxRecDepth 100000

/-- What a cut of a block reads lies in that block. -/
theorem Cut.block (w : World) {g n c : Nat} {xs ys : List Int} {s' : Value} (h : Cut (.slice (some ⟨g, 0, none⟩) n c) xs s' ys) (hn : xs.length = n) (hc : n ≤ c) (hl : n ≤ 1099511627776) :
    ∃ A m d, s' = .slice A m d ∧ m = ys.length ∧ (0 < m → ∃ o, A = some ⟨g, o, none⟩) := by
  let W : World := { w with heap := (List.replicate g (Obj.cells #[] 31 (0, 0)) ++ [Obj.cells (xs.map (Value.int .u32)).toArray 31]).toArray }
  have hO : Own W g xs := by
    unfold Own
    show (List.replicate g (Obj.cells #[] 31 (0, 0)) ++ [Obj.cells (xs.map (Value.int .u32)).toArray 31]).toArray[g]? = _
    simp
  obtain ⟨A, d, e, hd, hsl⟩ := h W (hO.slv hn hl hc)
  refine ⟨A, _, d, e, rfl, fun h0 => ?_⟩
  obtain ⟨b, o, rfl, hcl⟩ := hsl.at h0
  have h1 := hcl 0 h0
  refine ⟨o, ?_⟩
  have hb : b = g := by
    have hlt := lt_of_cell h1
    have hsz : W.heap.size = g + 1 := by simp [W]
    rw [hsz] at hlt
    rcases Nat.lt_or_ge b g with hbg | hbg
    · exfalso
      have hh : W.heap[b]? = some (Obj.cells #[] 31 (0, 0)) := by
        show (List.replicate g (Obj.cells #[] 31 (0, 0)) ++ [Obj.cells (xs.map (Value.int .u32)).toArray 31]).toArray[b]? = _
        simp [List.getElem?_append, hbg]
      unfold World.cell? at h1
      rw [hh] at h1
      simp at h1
    · have : b < g + 1 := hlt
      omega
  rw [hb]


/-- This value is a slice of a block of limbs. -/
def Tg (w : World) (v : Value) : Prop := ∃ A n c, v = .slice A n c ∧ (0 < n → ∃ g o xs, A = some ⟨g, o, none⟩ ∧ Own w g xs)
theorem Cut.tg {w : World} {g n c : Nat} {xs ys : List Int} {s' : Value} (h : Cut (.slice (some ⟨g, 0, none⟩) n c) xs s' ys) (hn : xs.length = n) (hc : n ≤ c) (hl : n ≤ 1099511627776) (ho : Own w g xs) : Tg w s' := by
  obtain ⟨A, m, d, rfl, hm, hA⟩ := Cut.block w h hn hc hl
  exact ⟨A, m, d, rfl, fun h0 => let ⟨o, e⟩ := hA h0; ⟨g, o, xs, e, ho⟩⟩
/-- The blocks of limbs are as they were. -/
def Keeps (w w' : World) : Prop := ∀ g xs, Own w g xs → Own w' g xs
theorem Keeps.slv {w w' : World} (h : Keeps w w') {v : Value} {xs : List Int} (hv : SlV w v xs) (ht : Tg w v) : SlV w' v xs ∧ Tg w' v := by
  obtain ⟨A, n, c, rfl, hA⟩ := ht
  obtain ⟨A', c', e, hc, hsl⟩ := hv
  injection e with e1 e2 e3
  subst e1 e2 e3
  refine ⟨⟨A, c, rfl, hc, hsl.1, fun h0 => ?_⟩, A, _, c, rfl, fun h0 => let ⟨g, o, ys, e, ho⟩ := hA h0; ⟨g, o, ys, e, h g ys ho⟩⟩
  obtain ⟨g, o, ys, rfl, ho⟩ := hA h0
  obtain ⟨b, o', e, hcl⟩ := hsl.at h0
  injection e with e
  injection e with e4 e5
  subst e4 e5
  refine ⟨g, o, rfl, fun j hj => ?_⟩
  have h1 := hcl j hj
  have h2 := h g ys ho
  unfold World.cell? at h1 ⊢
  rw [ho] at h1
  rw [h2]
  exact h1
theorem Below.tg {w w' : World} (h : Below w.heap.size w w') {v : Value} (ht : Tg w v) : Tg w' v := by
  obtain ⟨A, n, c, rfl, hA⟩ := ht
  exact ⟨A, n, c, rfl, fun h0 => let ⟨g, o, ys, e, ho⟩ := hA h0; ⟨g, o, ys, e, ho.below h ho.lt⟩⟩
end Go.Proofs.Ytijmjkkjopplbaa

