/- A part of the proof of the laws of rationals: Push. -/
import Derived.Laws.IdiomStrings
import Derived.Lib.BufferRead
import Derived.Test.YtijmjkkjopplbaaPam
import Derived.Test.YtijmjkkjopplbaaPab
import Derived.Test.YtijmjkkjopplbaaPaa
import Derived.Test.YtijmjkkjopplbaaPac
namespace Go.Proofs.Ytijmjkkjopplbaa
open Go.RowKit
set_option linter.unusedVariables false
set_option maxRecDepth 100000

theorem row_below {w w' : World} {base size n : Nat} {e : TypeId} {v : Value} {xs : List Value} (h : w.ownsRow base e size v n xs) (hg : w.grownBy w' v.ownBlock) (hb : base ≤ w.heap.size) : Below base w w' :=
  (Below.refl _ _).grown hg hb (fun k hk => by
    rcases h.2 with ⟨rfl, _⟩ | ⟨g, cap, cur, rfl, hbg, _⟩
    · cases hk
    · have hk : some g = some k := hk
      injection hk with hk; omega)
theorem add_flat (g i : Nat) : (⟨g, 0, none⟩ : Addr).add i = ⟨g, i, none⟩ := by
  unfold Addr.add
  split
  · rename_i h; subst h; rfl
  · simp
/-- A value of one cell put behind a row of the call's own: for any element type. -/
theorem wp_push {ops : Array Oper} {rest : List Oper} {o : Oper} {a : Act} {Q : Exit → Act → World → Prop} {w : World} (hgd : o.guard = none) (s x : Operand) (t e : TypeId)
    (ho : o.op = .call { callee := .builtin .append, args := #[s, x], argTypes := #[t, t] }) (ht : Try.prog.underlying t = some (.slice e)) {z : Value} {by_ : Nat} (hby0 : by_ ≤ 8)
    (hinfo : (Try.prog.info? e).map (fun i => (i.zero, i.size, i.bytes)) = some (some z, 1, by_)) (hz : z.cells.size = 1)
    (y : Value) (hy : y.oneCell' = true) (v : Value) (n base : Nat) (xs : List Value) (hr : w.ownsRow base e 1 v n xs) (hbase : base ≤ w.heap.size) (hlen : n < 1099511627776)
    (hs : a.eval s = v) (hx : a.eval x = .slice (some ⟨w.heap.size, 0, none⟩) 1 1)
    (h : ∀ v' w', w'.ownsRow base e 1 v' (n + 1) (xs ++ [y]) → Below base w w' → (∀ (g : Nat) (cur : Array Value) (t' : TypeId), t' ≠ e → w.heap[g]? = some (.cells cur t') → w'.heap[g]? = some (.cells cur t')) → wpList Try.prog ops Q rest (a.put o.dst v') w') : wpList Try.prog ops Q (o :: rest) a (w.alloc (.cells #[y] e)) := by
  obtain ⟨i, hi, hz0, hz1, hz2⟩ := info_parts hinfo
  have hb : Below w.heap.size w (w.alloc (.cells #[y] e)) := (Below.refl _ _).alloc (Nat.le_refl _) _
  have hr2 : (w.alloc (.cells #[y] e)).ownsRow base e 1 v n xs :=
    World.ownsRow.kept (row := none) hr ⟨hb.os, hb.tape, hb.output, hb.size, fun i hi _ => hb.block i hi⟩ (by cases v.ownBlock <;> simp)
  refine wpList_append_own (P := Try.prog) _ hgd s x t ho base e i z 1 by_ ht hi hz0 hz1 hz2 hz (by decide) v n xs hs hr2 ⟨w.heap.size, 0, none⟩ 1 1 [y] hx rfl (fun j u hu => ?_) (fun u hu => ?_) (by unfold maxLen; omega) ?_ (Nat.le_trans hbase hb.size) ?_
  · rcases j with _ | j
    · injection hu with hu
      subst hu
      rw [add_flat]; simp
    · simp at hu
  · rw [List.mem_singleton.1 hu]; exact hy
  · have := Nat.mul_le_mul_left (n + 1) hby0
    omega
  · intro v' w' h1 h2 _
    refine h v' w' h1 ((hb.mono hbase).trans (row_below hr2 h2 (Nat.le_trans hbase hb.size))) (fun g cur t' ht' hg => ?_)
    have hlt : g < w.heap.size := by
      rcases Nat.lt_or_ge g w.heap.size with h1 | h1
      · exact h1
      · rw [Array.getElem?_eq_none h1] at hg; cases hg
    rw [h2.block g (Nat.lt_of_lt_of_le hlt hb.size) (fun e1 => ?_), hb.block g hlt, hg]
    rcases hr.2 with ⟨rfl, _⟩ | ⟨g', cap, cur', rfl, _, h3, _⟩
    · cases e1
    · have e2 : some g = some g' := e1
      injection e2 with e2
      subst e2
      rw [hg] at h3
      injection h3 with h3
      injection h3 with _ h3
      exact ht' h3

/-- A row of bytes of the call's own. -/
def bv (b : UInt8) : Value := .int .u8 (b.toNat : Int)
def Row8 (w : World) (base : Nat) (v : Value) (bs : List UInt8) : Prop := w.ownsRow base 5 1 v bs.length (bs.map bv)
theorem Row8.nil (w : World) (base : Nat) : Row8 w base (.slice none 0 0) [] := ⟨by simp, .inl ⟨rfl, rfl⟩⟩
theorem Row8.len {w : World} {base : Nat} {v : Value} {bs : List UInt8} (h : Row8 w base v bs) : ∃ A c, v = .slice A bs.length c ∧ bs.length ≤ c ∧ (0 < bs.length → ∃ g, A = some ⟨g, 0, none⟩ ∧ ∀ j (hj : j < bs.length), w.cell? ⟨g, j, none⟩ = some (bv bs[j])) := by
  rcases h.2 with ⟨rfl, h0⟩ | ⟨g, cap, cur, rfl, h1, h2, h3, h4, h5, h6⟩
  · exact ⟨none, 0, by rw [h0], by omega, fun h => by omega⟩
  · refine ⟨_, cap, rfl, h3, fun _ => ⟨g, rfl, fun j hj => ?_⟩⟩
    have e := World.ownsRow.cells h (g := g) rfl j (bv bs[j]) (by rw [List.getElem?_map, List.getElem?_eq_getElem hj]; rfl)
    rw [add_flat] at e
    exact e
theorem Row8.below {w w' : World} {base : Nat} {v : Value} {bs : List UInt8} (h : Row8 w base v bs) (hb : Below w.heap.size w w') : Row8 w' base v bs :=
  World.ownsRow.kept (row := none) h ⟨hb.os, hb.tape, hb.output, hb.size, fun i hi _ => hb.block i hi⟩ (by cases v.ownBlock <;> simp)
theorem u8_info : (Try.prog.info? 5).map (fun i => (i.zero, i.size, i.bytes)) = some (some (.int .u8 0), 1, 1) := by kernel_rfl
theorem wp_push_u8 {ops : Array Oper} {rest : List Oper} {o : Oper} {a : Act} {Q : Exit → Act → World → Prop} {w : World} (hgd : o.guard = none) (s x : Operand)
    (ho : o.op = .call { callee := .builtin .append, args := #[s, x], argTypes := #[47, 47] }) (y : Int) (b : UInt8) (hy : y = (b.toNat : Int)) (v : Value) (base : Nat) (bs : List UInt8) (hr : Row8 w base v bs) (hbase : base ≤ w.heap.size) (hlen : bs.length < 1099511627776)
    (hs : a.eval s = v) (hx : a.eval x = .slice (some ⟨w.heap.size, 0, none⟩) 1 1)
    (h : ∀ v' w', Row8 w' base v' (bs ++ [b]) → Below base w w' → Keeps w w' → wpList Try.prog ops Q rest (a.put o.dst v') w') : wpList Try.prog ops Q (o :: rest) a (w.alloc (.cells #[.int .u8 y] 5)) := by
  subst hy
  refine wp_push hgd s x _ _ ho Try.underlying47 (by_ := 1) (by decide) u8_info rfl (bv b) rfl v bs.length base (bs.map bv) hr hbase hlen hs hx (fun v' w' h1 h2 h3 => h v' w' ?_ h2 (fun g xs hg => h3 g _ _ (by decide) hg))
  unfold Row8
  rw [List.length_append, List.map_append]
  exact h1
/-- Block g holds just these bytes. -/
def Own8 (w : World) (g : Nat) (bs : List UInt8) : Prop := w.heap[g]? = some (.cells (bs.map bv).toArray 5)
theorem Own8.cell {w : World} {g : Nat} {bs : List UInt8} (h : Own8 w g bs) {j : Nat} (hj : j < bs.length) : w.cell? ⟨g, j, none⟩ = some (bv bs[j]) := by
  unfold World.cell?
  unfold Own8 at h
  simp [h, hj]
theorem Own8.free {w : World} {g : Nat} {bs : List UInt8} (h : Own8 w g bs) (j : Nat) : w.frozen? ⟨g, j, none⟩ = false := by
  unfold World.frozen?
  unfold Own8 at h
  simp [h]
theorem Own8.set {w : World} {g : Nat} {bs : List UInt8} (h : Own8 w g bs) (j : Nat) (b : UInt8) : Own8 (w.setCell ⟨g, j, none⟩ (bv b)) g (bs.set j b) := by
  unfold Own8 at h ⊢
  unfold World.setCell
  rw [Array.getElem?_modify]
  simp [h, List.map_set]
theorem Own8.drew {w : World} {g : Nat} {bs : List UInt8} (h : Own8 w g bs) : Own8 w.drew g bs := h
def zs8 (n : Nat) : Array Value := ((List.replicate n (0 : UInt8)).map bv).toArray
theorem Own8.made (w : World) (n : Nat) : Own8 (w.alloc (.cells (zs8 n) 5)) w.heap.size (List.replicate n 0) := by
  unfold Own8 World.alloc zs8
  simp
theorem make_u8 (n : Nat) (hn : n ≤ 1099511627777) (w : World) : (Instr.makeSlice 47 (.int .i64 (n : Int)) (.int .i64 (n : Int))).run Try.prog w =
    .ok (.slice (some ⟨w.heap.size, 0, none⟩) n n) (w.alloc (.cells (zs8 n) 5)) := by
  obtain ⟨i, hi, hz0, hz1, hz2⟩ := info_parts u8_info
  have h := run_make (P := Try.prog) w 47 5 i (.int .u8 0) Try.underlying47 hi hz0 .i64 .i64 (n : Int) (n : Int) (by omega) (Int.le_refl _) (by rw [hz2]; omega) (by omega)
  rw [h, hz1]
  have e : madeCells #[.int .u8 0] n = zs8 n := by
    unfold madeCells zs8
    refine Array.ext (by simp) fun i h1 h2 => ?_
    simp [Nat.mod_one, bv]
  simp only [Int.toNat_natCast, Nat.mul_one, Value.cells, e]
/-- 'string(out)' -/
theorem string_own (w : World) (g n c : Nat) (bs : List UInt8) (h : Own8 w g bs) (hn : bs.length = n) : (convert 47 9 (.slice (some ⟨g, 0, none⟩) n c)).run Try.prog w = .ok (.string ⟨bs.toArray⟩) w := by
  subst hn
  exact run_convert_bytes_back w 47 9 5 ⟨g, 0, none⟩ c bs Try.underlying47 Try.underlying5 Try.underlying9 (fun j hj => by rw [add_flat]; exact h.cell hj)
end Go.Proofs.Ytijmjkkjopplbaa

