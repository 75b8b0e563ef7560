/- Walks: the laws' own helpers long, copied. -/
import Derived.Deep.RegionLawGrows
import Derived.Test.YtdbgalohppfkfaaNorm
import Derived.Test.YtdbgalohppfkfaaAppend
namespace Go.Proofs.Ytdbgalohppfkfaa
open Go.RowKit
set_option linter.unusedVariables false

theorem long_any (w : World) (neg : Bool) (A : Option Addr) (n c : Nat) :
    Calls Try.prog 19 #[.agg #[.bool neg, .slice A n c]] w fun e w' => e = .returned (.bool (decide (40 < (n : Int)))) ∧ Below w.heap.size w w' := by
  go_enter Try.func19, Try.ntmps19
  go_wp2
  go_ret
  exact ⟨by first | rfl | simp, bw_alloc (Below.refl _ w) _⟩

theorem step_copy_u32 {ops : Array Oper} {o : Oper} {a : Act} {w : World} {K : Act → World → Prop} {Q : Exit → Act → World → Prop} {E : Prop} (hgd : o.guard = none) (x : Operand)
    (ho : o.op = .call { callee := .builtin .append, args := #[.const (.slice none 0 0), x], argTypes := #[22, 22] })
    (v : Value) (xs : List Int) (hx : a.eval x = v) (hv : SlV w v xs)
    (h : ∀ v' w', Row w' w.heap.size v' xs → Below w.heap.size w w' → K (a.put o.dst v') w') :
    if Region.wanted o (yielded ops a.tmps) = true then Oper.wp Try.prog o a w K Q else E := by
  have hw : Region.wanted o (yielded ops a.tmps) = true := by simp [Region.wanted, hgd]
  rw [if_pos hw]
  obtain ⟨v', w', e, h1, h2⟩ := run_copy_u32 w v xs o.type hv
  unfold Oper.wp execOp
  have hc : a.eval (.const (.slice none 0 0)) = .slice none 0 0 := rfl
  simp only [ho, resolve, invoke, builtin, Sem.run_bind, Sem.run_pure, Result.andThen_ok, List.map_toArray, List.map_cons, List.map_nil, hx, hc, e]
  exact h v' w' h1 h2

theorem Row.setCell {w : World} {base k o : Nat} {v : Value} {xs : List Int} (h : Row w base v xs) (hk : k < base) (y : Value) : Row (w.setCell ⟨k, o, none⟩ y) base v xs := by
  refine ⟨h.1, ?_⟩
  rcases h.2 with h0 | ⟨g, cap, cur, rfl, h1, h2, h3⟩
  · exact .inl h0
  · refine .inr ⟨g, cap, cur, rfl, h1, ?_, h3⟩
    unfold World.setCell
    simp only [Array.getElem?_modify]
    rw [if_neg (by omega)]; exact h2
theorem Row.mono {w : World} {base base' : Nat} {v : Value} {xs : List Int} (h : Row w base v xs) (hb : base' ≤ base) : Row w base' v xs := by
  refine ⟨h.1, ?_⟩
  rcases h.2 with h0 | ⟨g, cap, cur, rfl, h1, h3⟩
  · exact .inl h0
  · exact .inr ⟨g, cap, cur, rfl, by omega, h3⟩
theorem copied_any (w : World) (neg : Bool) (s : Value) (xs : List Int) (hs : SlV w s xs) :
    Calls Try.prog 21 #[.agg #[.bool neg, s]] w fun e w' => (∃ s', e = .returned (.agg #[.bool neg, s']) ∧ Row w' w.heap.size s' xs) ∧ Below w.heap.size w w' := by
  obtain ⟨W, hW⟩ : ∃ W, W = (w.alloc (.cells #[.bool neg, s] 24)).alloc (.cells #[.bool false, .slice none 0 0] 24) := ⟨_, rfl⟩
  have X := Bx.two w (.bool neg) s (.bool false) (.slice none 0 0) 24
  rw [← hW] at X
  obtain ⟨x0, x1⟩ := X
  have HB : Below w.heap.size w W := by rw [hW]; exact bw_alloc (bw_alloc (Below.refl _ _) _) _
  have S0 := hid (hs.below HB)
  have HS := hid (show w.heap.size + 1 < W.heap.size from lt_of_cell x1.1)
  have HB := hid HB
  obtain ⟨k0, k1, f0, f1⟩ := id x0
  obtain ⟨k2, k3, f2, f3⟩ := id x1
  clear hs
  go_enter Try.func21, Try.ntmps21
  go_wp2
  rw [← hW]
  clear hW
  go_region_law (refine step_copy_u32 rfl _ rfl s xs (by simp [Act.eval]) (S0.out.drew 1) ?_; intro v' w' hr hb; have hb : Below W.heap.size W w' := bw_step (Below.refl _ W).drew hb; obtain ⟨A5, c5, rfl⟩ := hr.len; obtain ⟨k0, k1, f0, f1⟩ := x0.below hb; obtain ⟨k2, k3, f2, f3⟩ := x1.below hb; have HR := hid hr; have HBB := hid hb; clear hr hb)
  all_goals
    have F := hid (show Row ((w'.setCell ⟨w.heap.size + 1, 0, none⟩ (.bool neg)).setCell ⟨w.heap.size + 1, 1, none⟩ (.slice A5 xs.length c5)) w.heap.size (.slice A5 xs.length c5) xs ∧ Below w.heap.size w ((w'.setCell ⟨w.heap.size + 1, 0, none⟩ (.bool neg)).setCell ⟨w.heap.size + 1, 1, none⟩ (.slice A5 xs.length c5)) from
      ⟨((HR.out.setCell HS.out _).setCell HS.out _).mono (by have := HS.out; show _ ≤ W.heap.size; omega), ((bw_step HB.out HBB.out).setCell (Nat.le_succ _) _).setCell (Nat.le_succ _) _⟩)
    clear k0 k1 f0 f1
    go_wp2
    exact bodyPost_ret (v := .agg #[.bool neg, .slice A5 xs.length c5]) (by simp [results, Try.results21, go_sem, k2, k3]) rfl ⟨⟨_, rfl, F.out.1⟩, F.out.2⟩
end Go.Proofs.Ytdbgalohppfkfaa
