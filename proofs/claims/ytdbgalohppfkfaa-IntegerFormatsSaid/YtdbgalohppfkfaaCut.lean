/- A cut of a block lies in that block; slices of blocks of limbs. -/
import Derived.Test.YtdbgalohppfkfaaMem
namespace Go.Proofs.Ytdbgalohppfkfaa
open Go.RowKit
set_option linter.unusedVariables false

/-- What a cut of a block reads lies in that block. -/
theorem Cut.block (w : World) {g n c : Nat} {xs ys : List Int} {s' : Value} (h : Cut (.slice (some ⟨g, 0, none⟩) n c) xs s' ys) (hn : xs.length = n) (hc : n ≤ c) (hl : n ≤ 1099511627776) :
    ∃ A m d, s' = .slice A m d ∧ m = ys.length ∧ (0 < m → ∃ o, A = some ⟨g, o, none⟩) := by
  let W : World := { w with heap := (List.replicate g (Obj.cells #[] 33 (0, 0)) ++ [Obj.cells (xs.map (Value.int .u32)).toArray 33]).toArray }
  have hO : Own W g xs := by
    unfold Own
    show (List.replicate g (Obj.cells #[] 33 (0, 0)) ++ [Obj.cells (xs.map (Value.int .u32)).toArray 33]).toArray[g]? = _
    simp
  obtain ⟨A, d, e, hd, hsl⟩ := h W (hO.slv hn hl hc)
  refine ⟨A, _, d, e, rfl, fun h0 => ?_⟩
  obtain ⟨b, o, rfl, hcl⟩ := hsl.at h0
  have h1 := hcl 0 h0
  refine ⟨o, ?_⟩
  have hb : b = g := by
    have hlt := lt_of_cell h1
    have hsz : W.heap.size = g + 1 := by simp [W]
    rw [hsz] at hlt
    rcases Nat.lt_or_ge b g with hbg | hbg
    · exfalso
      have hh : W.heap[b]? = some (Obj.cells #[] 33 (0, 0)) := by
        show (List.replicate g (Obj.cells #[] 33 (0, 0)) ++ [Obj.cells (xs.map (Value.int .u32)).toArray 33]).toArray[b]? = _
        simp [List.getElem?_append, hbg]
      unfold World.cell? at h1
      rw [hh] at h1
      simp at h1
    · have : b < g + 1 := hlt
      omega
  rw [hb]


/-- This value is a slice of a block of limbs. -/
def Tg (w : World) (v : Value) : Prop := ∃ A n c, v = .slice A n c ∧ (0 < n → ∃ g o xs, A = some ⟨g, o, none⟩ ∧ Own w g xs)
theorem Cut.tg {w : World} {g n c : Nat} {xs ys : List Int} {s' : Value} (h : Cut (.slice (some ⟨g, 0, none⟩) n c) xs s' ys) (hn : xs.length = n) (hc : n ≤ c) (hl : n ≤ 1099511627776) (ho : Own w g xs) : Tg w s' := by
  obtain ⟨A, m, d, rfl, hm, hA⟩ := Cut.block w h hn hc hl
  exact ⟨A, m, d, rfl, fun h0 => let ⟨o, e⟩ := hA h0; ⟨g, o, xs, e, ho⟩⟩
/-- The blocks of limbs are as they were. -/
def Keeps (w w' : World) : Prop := ∀ g xs, Own w g xs → Own w' g xs
theorem Keeps.slv {w w' : World} (h : Keeps w w') {v : Value} {xs : List Int} (hv : SlV w v xs) (ht : Tg w v) : SlV w' v xs ∧ Tg w' v := by
  obtain ⟨A, n, c, rfl, hA⟩ := ht
  obtain ⟨A', c', e, hc, hsl⟩ := hv
  injection e with e1 e2 e3
  subst e1 e2 e3
  refine ⟨⟨A, c, rfl, hc, hsl.1, fun h0 => ?_⟩, A, _, c, rfl, fun h0 => let ⟨g, o, ys, e, ho⟩ := hA h0; ⟨g, o, ys, e, h g ys ho⟩⟩
  obtain ⟨g, o, ys, rfl, ho⟩ := hA h0
  obtain ⟨b, o', e, hcl⟩ := hsl.at h0
  injection e with e
  injection e with e4 e5
  subst e4 e5
  refine ⟨g, o, rfl, fun j hj => ?_⟩
  have h1 := hcl j hj
  have h2 := h g ys ho
  unfold World.cell? at h1 ⊢
  rw [ho] at h1
  rw [h2]
  exact h1
theorem Below.tg {w w' : World} (h : Below w.heap.size w w') {v : Value} (ht : Tg w v) : Tg w' v := by
  obtain ⟨A, n, c, rfl, hA⟩ := ht
  exact ⟨A, n, c, rfl, fun h0 => let ⟨g, o, ys, e, ho⟩ := hA h0; ⟨g, o, ys, e, ho.below h ho.lt⟩⟩
end Go.Proofs.Ytdbgalohppfkfaa
