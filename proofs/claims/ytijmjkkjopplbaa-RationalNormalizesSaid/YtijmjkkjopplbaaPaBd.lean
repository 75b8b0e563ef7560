/- A part of the proof of the laws of rationals: ArgR. -/
import Derived.ChangeSame
import Derived.Test.YtijmjkkjopplbaaPaBc
import Derived.Test.YtijmjkkjopplbaaPac
import Derived.Test.YtijmjkkjopplbaaPab
import Derived.Test.YtijmjkkjopplbaaPaa
namespace Go.Proofs.Ytijmjkkjopplbaa
open Go.RowKit Go.Joins Go.ChangeShapes Go.WideShapes
set_option linter.unusedVariables false
set_option maxRecDepth 100000

theorem rat_cells : Try.prog.cellsOf 26 = 4 := by kernel_rfl
theorem argI_cells {H : Type} {enc : TypeId × Value → H} {W : World} {fuel : Nat} {c0 c1 : Value} {y : DataW H × List MemPlace}
    (hf : DataW.trod enc Try.prog W 0 (fun _ => true) true fuel 24 [c0, c1] = some y) : ArgI W (.agg #[c0, c1]) := by
  obtain ⟨y0, y1, m, _, _, hy0, hy1⟩ := trod_struct2 Try.underlying24 hf
  have o0 : Try.prog.cellsOf 4 = 1 := by kernel_rfl
  have o1 : Try.prog.cellsOf 22 = 1 := by kernel_rfl
  simp [o0] at hy0
  simp [o1] at hy1
  obtain ⟨neg, e0, _⟩ := DataW.trod_bool Try.underlying4 hy0
  simp at e0
  subst e0
  rcases open_ints Try.underlying22 Try.underlying31 u32_cells hy1 with ⟨hcs, _⟩ | ⟨x, l, c, zs, hcs, _, hl, hm, hz, _, hcell, hwz⟩
  · simp at hcs
    subst hcs
    exact ⟨neg, none, 0, 0, rfl, by decide, fun _ => ⟨[], rfl, ⟨none, 0, rfl, Nat.le_refl _, Sl.nil _ _⟩, Lb.nil⟩⟩
  · simp at hcs
    subst hcs
    unfold maxLen at hm
    refine ⟨neg, some x, l, c, rfl, by omega, fun hsh => ?_⟩
    have hzl : zs.length = c := by simpa using hz
    have hlen : (zs.take l).length = l := by rw [List.length_take]; omega
    refine ⟨zs.take l, hlen, ?_, ?_⟩
    · refine ⟨some x, c, by rw [hlen], by rw [hlen]; exact hl, by rw [hlen]; exact hsh, fun h0 => ?_⟩
      rw [hlen] at h0
      have hx : x.spot = none := by
        have := hcell 0 (by omega)
        unfold Addr.add at this
        rw [if_pos rfl] at this
        unfold World.cell? at this
        split at this
        · split at this
          · cases this
          · rename_i hs; cases hx : x.spot <;> simp_all
        · cases this
      refine ⟨x.block, x.off, by rw [← hx], fun j hj => ?_⟩
      rw [hlen] at hj
      have hc := hcell j (by omega)
      have e : x.add j = ⟨x.block, x.off + j, none⟩ := by
        unfold Addr.add
        split
        · rename_i h0; subst h0; rw [Nat.add_zero, ← hx]
        · rfl
      rw [e] at hc
      rw [hc, lm_take hj]
      rfl
    · intro y hy
      have hwf := hwz y (List.mem_of_mem_take hy)
      have := bounds_u32 hwf
      omega
/-- An api.Rat that came in. -/
def ArgR (W : World) (v : Value) : Prop := ∃ c0 c1 c2 c3, v = .agg #[c0, c1, c2, c3] ∧ ArgI W (.agg #[c0, c1]) ∧ ArgI W (.agg #[c2, c3])
theorem argR {H : Type} {enc : TypeId × Value → H} {W : World} {base : Nat} {v : Value} {d : DataW H} {p : List MemPlace} (hv : Value.okWide Try.prog W .any base 26 v)
    (h : DataW.Trod enc Try.prog W 0 (fun _ => true) true 26 v d p) : ArgR W v := by
  obtain ⟨cs, rfl, hsz⟩ := okWide_struct Try.underlying26 hv
  obtain ⟨c0, c1, c2, c3, rfl⟩ := array4 (hsz.trans rat_cells)
  obtain ⟨fuel, hf⟩ := h
  obtain ⟨y0, y1, m, _, _, hy0, hy1⟩ := trod_struct2 Try.underlying26 hf
  simp [Value.cells, int_cells] at hy0 hy1
  exact ⟨c0, c1, c2, c3, rfl, argI_cells hy0, argI_cells hy1⟩
/-- Too long, or short with what it denotes. -/
theorem ArgR.short {w : World} {v : Value} (h : ArgR w v) : ∃ s1 A1 n1 c1 s2 A2 n2 c2, v = .agg #[.bool s1, .slice A1 n1 c1, .bool s2, .slice A2 n2 c2] ∧ ∀ k ≤ 1099511627776, ((k < n1 ∨ k < n2) ∨
    (n1 ≤ k ∧ n2 ≤ k ∧ ∃ p q, IntA w (.agg #[.bool s1, .slice A1 n1 c1]) p k ∧ IntA w (.agg #[.bool s2, .slice A2 n2 c2]) q k)) := by
  obtain ⟨x0, x1, x2, x3, rfl, h1, h2⟩ := h
  obtain ⟨s1, A1, n1, c1, e1, hn1, hx1⟩ := h1
  obtain ⟨s2, A2, n2, c2, e2, hn2, hx2⟩ := h2
  simp only [Value.agg.injEq, Array.mk.injEq, List.cons.injEq, and_true] at e1 e2
  obtain ⟨rfl, rfl⟩ := e1
  obtain ⟨rfl, rfl⟩ := e2
  refine ⟨s1, A1, n1, c1, s2, A2, n2, c2, rfl, fun k hk => ?_⟩
  rcases Nat.lt_or_ge k n1 with h | h
  · exact .inl (.inl h)
  · rcases Nat.lt_or_ge k n2 with h' | h'
    · exact .inl (.inr h')
    · obtain ⟨xs, a1, a2, a3⟩ := hx1 (by omega)
      obtain ⟨ys, b1, b2, b3⟩ := hx2 (by omega)
      subst a1 b1
      exact .inr ⟨h, h', _, _, ⟨_, _, xs, rfl, a2, a3, by omega, rfl⟩, ⟨_, _, ys, rfl, b2, b3, by omega, rfl⟩⟩
end Go.Proofs.Ytijmjkkjopplbaa

