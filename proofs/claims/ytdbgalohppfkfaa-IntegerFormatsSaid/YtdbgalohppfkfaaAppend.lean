/- append of limbs: a copy of a slice; one limb behind a row of the call's own. -/
import Derived.Test.YtdbgalohppfkfaaWalk
import Derived.Laws.OwnMore
namespace Go.Proofs.Ytdbgalohppfkfaa
open Go.RowKit

/-- A row of the call's own, from block base on, that reads as these limbs. -/
def Row (w : World) (base : Nat) (v : Value) (xs : List Int) : Prop := w.ownsRow base 33 1 v xs.length (xs.map (Value.int .u32))
theorem Row.nil (w : World) (base : Nat) : Row w base (.slice none 0 0) [] := ⟨by simp, .inl ⟨rfl, rfl⟩⟩
theorem Row.slv {w : World} {base : Nat} {v : Value} {xs : List Int} (h : Row w base v xs) (hl : xs.length ≤ 1099511627776) : SlV w v xs := by
  rcases h.2 with ⟨rfl, h0⟩ | ⟨g, cap, cur, rfl, hb, hh, hc, hm, hsz, htk⟩
  · obtain rfl := List.eq_nil_of_length_eq_zero h0
    exact ⟨none, 0, rfl, Nat.le_refl _, Sl.nil _ _⟩
  · refine ⟨_, cap, rfl, hc, hl, fun h0 => ⟨g, 0, rfl, fun j hj => ?_⟩⟩
    have e := World.ownsRow.cells h (g := g) rfl j (.int .u32 (lm xs j)) (by rw [List.getElem?_map, List.getElem?_eq_getElem hj, lm_getElem hj]; rfl)
    unfold Addr.add at e
    split at e
    · rename_i h; subst h; exact e
    · exact e
theorem Row.len {w : World} {base : Nat} {v : Value} {xs : List Int} (h : Row w base v xs) : ∃ A c, v = .slice A xs.length c := by
  rcases h.2 with ⟨rfl, h0⟩ | ⟨g, cap, cur, rfl, _⟩
  · exact ⟨none, 0, by rw [h0]⟩
  · exact ⟨_, cap, rfl⟩
theorem Row.below {w w' : World} {base : Nat} {v : Value} {xs : List Int} (h : Row w base v xs) (hb : Below w.heap.size w w') : Row w' base v xs :=
  World.ownsRow.kept (row := none) h ⟨hb.os, hb.tape, hb.output, hb.size, fun i hi _ => hb.block i hi⟩ (by cases v.ownBlock <;> simp)

/-- 'append([]uint32(nil), xs...)' -/
theorem run_copy_u32 (w : World) (v : Value) (xs : List Int) (ty : TypeId) (h : SlV w v xs) :
    ∃ v' w', (Builtin.append_ #[22, 22] ty #[.slice none 0 0, v]).run Try.prog w = .ok v' w' ∧ Row w' w.heap.size v' xs ∧ Below w.heap.size w w' := by
  obtain ⟨i, hi, hz0, hz1, hz2⟩ := info_parts u32_info
  obtain ⟨A, c, rfl, hc, hl, hr⟩ := h
  rcases Nat.eq_zero_or_pos xs.length with h0 | h0
  · cases A with
    | none =>
      obtain rfl := List.eq_nil_of_length_eq_zero h0
      refine ⟨.slice none 0 0, w, ?_, Row.nil _ _, Below.refl _ _⟩
      simp [Builtin.append_, run_underlying Try.underlying22, sizeOf, typeInfo, hi, Builtin.lenOf, Builtin.firstCells]
    | some a =>
      obtain rfl := List.eq_nil_of_length_eq_zero h0
      obtain ⟨v', w', e, hown, hg, _⟩ := run_append_own (P := Try.prog) w w.heap.size 22 ty 33 i (.int .u32 0) 1 4 Try.underlying22 hi hz0 hz1 hz2 rfl (by decide) (.slice none 0 0) 0 [] ⟨by simp, .inl ⟨rfl, rfl⟩⟩
        a 0 c [] rfl (fun j u hu => by simp at hu) (fun u hu => by cases hu) (by unfold maxLen; omega) (by omega) (Nat.le_refl _)
      exact ⟨v', w', e, hown, (Below.refl _ _).grown hg (Nat.le_refl _) (fun k hk => by cases hk)⟩
  · obtain ⟨b, o, rfl, hcl⟩ := hr h0
    obtain ⟨v', w', e, hown, hg, _⟩ := run_append_own (P := Try.prog) w w.heap.size 22 ty 33 i (.int .u32 0) 1 4 Try.underlying22 hi hz0 hz1 hz2 rfl (by decide) (.slice none 0 0) 0 [] ⟨by simp, .inl ⟨rfl, rfl⟩⟩
      ⟨b, o, none⟩ xs.length c (xs.map (Value.int .u32)) (by simp) (fun j u hu => by
        rw [List.getElem?_map] at hu
        rcases Nat.lt_or_ge j xs.length with hj | hj
        · rw [List.getElem?_eq_getElem hj] at hu
          simp at hu
          subst hu
          have := hcl j hj
          rw [lm_getElem hj] at this
          unfold Addr.add
          split
          · rename_i h; subst h; exact this
          · exact this
        · rw [List.getElem?_eq_none hj] at hu; cases hu) (fun u hu => by
        obtain ⟨y, _, rfl⟩ := List.mem_map.1 hu
        rfl) (by unfold maxLen; omega) (by omega) (Nat.le_refl _)
    refine ⟨v', w', e, ?_, (Below.refl _ _).grown hg (Nat.le_refl _) (fun k hk => by cases hk)⟩
    rw [Nat.zero_add, List.nil_append] at hown
    exact hown
theorem wp_copy_u32 {ops : Array Oper} {rest : List Oper} {o : Oper} {a : Act} {Q : Exit → Act → World → Prop} {w : World} (hgd : o.guard = none) (x : Operand)
    (ho : o.op = .call { callee := .builtin .append, args := #[.const (.slice none 0 0), x], argTypes := #[22, 22] })
    (v : Value) (xs : List Int) (hx : a.eval x = v) (hv : SlV w v xs)
    (h : ∀ v' w', Row w' w.heap.size v' xs → Below w.heap.size w w' → wpList Try.prog ops Q rest (a.put o.dst v') w') : wpList Try.prog ops Q (o :: rest) a w := by
  refine wpList_plain hgd fun K hK => ?_
  obtain ⟨v', w', e, h1, h2⟩ := run_copy_u32 w v xs o.type hv
  unfold Oper.wp execOp
  have hc : a.eval (.const (.slice none 0 0)) = .slice none 0 0 := rfl
  simp only [ho, resolve, invoke, builtin, Sem.run_bind, Sem.run_pure, Result.andThen_ok, List.map_toArray, List.map_cons, List.map_nil, hx, hc, e]
  exact hK _ _ (h v' w' h1 h2)
end Go.Proofs.Ytdbgalohppfkfaa
