/- How an api.Int that comes in is opened. -/
import Derived.Test.YtdbgalohppfkfaaIntV
import Derived.KernelRfl
import Derived.Carry
import Derived.Lib.SmallJoins
import Derived.ProofKit
import Derived.OpenShut
namespace Go.Proofs.Ytdbgalohppfkfaa
open Go.RowKit Go.Joins Go.ChangeShapes
set_option linter.unusedVariables false

/-- An api.Int that came in: its shape, and, where it is short, the limbs that it reads as. -/
def ArgI (W : World) (v : Value) : Prop := ∃ neg A n c, v = .agg #[.bool neg, .slice A n c] ∧ n ≤ 9223372036854775807 ∧ (n ≤ 1099511627776 → ∃ xs, xs.length = n ∧ SlV W (.slice A n c) xs ∧ Lb xs)
theorem int_cells : Try.prog.cellsOf 24 = 2 := by kernel_rfl
theorem u32_cells : Try.prog.cellsOf 33 = 1 := by kernel_rfl
theorem slice_cells {a b c : Nat} {A B : Option Addr} {n : Nat} (h : [Value.slice A a b] = [Value.slice B n c]) : A = B ∧ a = n ∧ b = c := by
  simp at h; exact h
theorem argI {H : Type} {enc : TypeId × Value → H} {W : World} {base : Nat} {v : Value} {d : DataW H} {p : List MemPlace} (hv : Value.okWide Try.prog W .any base 24 v)
    (h : DataW.Trod enc Try.prog W 0 (fun _ => true) true 24 v d p) : ArgI W v := by
  obtain ⟨c0, c1, y0, y1, m, rfl, rfl, rfl, hy0, hy1⟩ := open_agg2 Try.underlying24 (by kernel_rfl) int_cells hv h
  obtain ⟨neg, e0, _⟩ := DataW.trod_bool Try.underlying4 hy0
  simp at e0
  subst e0
  rcases open_ints Try.underlying22 Try.underlying33 u32_cells hy1 with ⟨hcs, _⟩ | ⟨x, l, c, zs, hcs, _, hl, hm, hz, _, hcell, hwz⟩
  · simp at hcs
    subst hcs
    exact ⟨neg, none, 0, 0, rfl, by decide, fun _ => ⟨[], rfl, ⟨none, 0, rfl, Nat.le_refl _, Sl.nil _ _⟩, Lb.nil⟩⟩
  · simp at hcs
    subst hcs
    unfold maxLen at hm
    refine ⟨neg, some x, l, c, rfl, by omega, fun hsh => ?_⟩
    have hzl : zs.length = c := by simpa using hz
    have hlen : (zs.take l).length = l := by rw [List.length_take]; omega
    refine ⟨zs.take l, hlen, ?_, ?_⟩
    · refine ⟨some x, c, by rw [hlen], by rw [hlen]; exact hl, by rw [hlen]; exact hsh, fun h0 => ?_⟩
      rw [hlen] at h0
      have hx : x.spot = none := by
        have := hcell 0 (by omega)
        unfold Addr.add at this
        rw [if_pos rfl] at this
        unfold World.cell? at this
        split at this
        · split at this
          · cases this
          · rename_i hs; cases hx : x.spot <;> simp_all
        · cases this
      refine ⟨x.block, x.off, by rw [← hx], fun j hj => ?_⟩
      rw [hlen] at hj
      have hc := hcell j (by omega)
      have e : x.add j = ⟨x.block, x.off + j, none⟩ := by
        unfold Addr.add
        split
        · rename_i h0; subst h0; rw [Nat.add_zero, ← hx]
        · rfl
      rw [e] at hc
      rw [hc, lm_take hj]
      rfl
    · intro y hy
      have hwf := hwz y (List.mem_of_mem_take hy)
      have := bounds_u32 hwf
      omega
end Go.Proofs.Ytdbgalohppfkfaa
