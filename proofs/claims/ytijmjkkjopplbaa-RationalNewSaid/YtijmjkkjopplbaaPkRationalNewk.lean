/- A part of the proof of the laws of rationals: ArgI, ArgS. -/
import Derived.KernelRfl
import Derived.Carry
import Derived.Lib.SmallJoins
import Derived.ProofKit
import Derived.OpenShut
import Derived.Test.YtijmjkkjopplbaaPaBc
import Derived.Test.YtijmjkkjopplbaaPac
import Derived.Test.YtijmjkkjopplbaaPkRationalNewa
import Derived.Test.YtijmjkkjopplbaaPab
import Derived.Test.YtijmjkkjopplbaaPaa
namespace Go.Proofs.Ytijmjkkjopplbaa
open Go.RowKit Go.Joins Go.ChangeShapes
set_option linter.unusedVariables false
set_option maxRecDepth 100000

theorem argI {H : Type} {enc : TypeId × Value → H} {W : World} {base : Nat} {v : Value} {d : DataW H} {p : List MemPlace} (hv : Value.okWide Try.prog W .any base 24 v)
    (h : DataW.Trod enc Try.prog W 0 (fun _ => true) true 24 v d p) : ArgI W v := by
  obtain ⟨c0, c1, y0, y1, m, rfl, rfl, rfl, hy0, hy1⟩ := open_agg2 Try.underlying24 (by kernel_rfl) int_cells hv h
  obtain ⟨neg, e0, _⟩ := DataW.trod_bool Try.underlying4 hy0
  simp at e0
  subst e0
  rcases open_ints Try.underlying22 Try.underlying31 u32_cells hy1 with ⟨hcs, _⟩ | ⟨x, l, c, zs, hcs, _, hl, hm, hz, _, hcell, hwz⟩
  · simp at hcs
    subst hcs
    exact ⟨neg, none, 0, 0, rfl, by decide, fun _ => ⟨[], rfl, ⟨none, 0, rfl, Nat.le_refl _, Sl.nil _ _⟩, Lb.nil⟩⟩
  · simp at hcs
    subst hcs
    unfold maxLen at hm
    refine ⟨neg, some x, l, c, rfl, by omega, fun hsh => ?_⟩
    have hzl : zs.length = c := by simpa using hz
    have hlen : (zs.take l).length = l := by rw [List.length_take]; omega
    refine ⟨zs.take l, hlen, ?_, ?_⟩
    · refine ⟨some x, c, by rw [hlen], by rw [hlen]; exact hl, by rw [hlen]; exact hsh, fun h0 => ?_⟩
      rw [hlen] at h0
      have hx : x.spot = none := by
        have := hcell 0 (by omega)
        unfold Addr.add at this
        rw [if_pos rfl] at this
        unfold World.cell? at this
        split at this
        · split at this
          · cases this
          · rename_i hs; cases hx : x.spot <;> simp_all
        · cases this
      refine ⟨x.block, x.off, by rw [← hx], fun j hj => ?_⟩
      rw [hlen] at hj
      have hc := hcell j (by omega)
      have e : x.add j = ⟨x.block, x.off + j, none⟩ := by
        unfold Addr.add
        split
        · rename_i h0; subst h0; rw [Nat.add_zero, ← hx]
        · rfl
      rw [e] at hc
      rw [hc, lm_take hj]
      rfl
    · intro y hy
      have hwf := hwz y (List.mem_of_mem_take hy)
      have := bounds_u32 hwf
      omega
end Go.Proofs.Ytijmjkkjopplbaa

namespace Go.Proofs.Ytijmjkkjopplbaa
open Go.RowKit
set_option linter.unusedVariables false
set_option maxRecDepth 100000

/-- An argument whose shape is known: too long, or a number. -/
theorem ArgI.short {w : World} {s : Bool} {A : Option Addr} {n c : Nat} (h : ArgI w (.agg #[.bool s, .slice A n c])) (k : Nat) (hk : k ≤ 1099511627776) :
    k < n ∨ (n ≤ k ∧ ∃ z, IntA w (.agg #[.bool s, .slice A n c]) z k) := by
  obtain ⟨neg, A', n', c', e, hn, hx⟩ := h
  simp only [Value.agg.injEq, Array.mk.injEq, List.cons.injEq, and_true, Value.bool.injEq, Value.slice.injEq] at e
  obtain ⟨rfl, rfl, rfl, rfl⟩ := e
  rcases Nat.lt_or_ge k n with h | h
  · exact .inl h
  · obtain ⟨xs, h1, h2, h3⟩ := hx (by omega)
    exact .inr ⟨h, _, _, _, xs, rfl, h2, h3, by omega, rfl⟩
end Go.Proofs.Ytijmjkkjopplbaa

