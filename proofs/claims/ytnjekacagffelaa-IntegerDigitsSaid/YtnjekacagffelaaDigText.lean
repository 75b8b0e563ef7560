/- Which texts are those of numbers, the other way round: plain facts. -/
import Derived.Test.YtnjekacagffelaaNumText
namespace Go.Proofs.Ytnjekacagffelaa
set_option linter.unusedVariables false

theorem digs_of_rev : ∀ r : List UInt8, (∀ x ∈ r, 48 ≤ x.toNat ∧ x.toNat ≤ 57) → r ≠ [] → ((r.reverse[0]?).getD 0).toNat ≠ 48 →
    digs (dv ⟨r.reverse.toArray⟩ r.length).toNat = r ∧ 0 < dv ⟨r.reverse.toArray⟩ r.length
  | [], _, h, _ => absurd rfl h
  | [x], ha, _, hh => by
    have hx := ha x (by simp)
    have h1 : (x.toNat : Int) - 48 = dv ⟨[x].reverse.toArray⟩ [x].length := by
      rw [List.length_singleton, dv, dv, bt_list]; simp
    have h2 : x.toNat ≠ 48 := by simpa using hh
    rw [← h1]
    refine ⟨?_, by omega⟩
    rw [show ((x.toNat : Int) - 48).toNat = x.toNat - 48 by omega, digs_pos (by omega), show (x.toNat - 48) / 10 = 0 by omega, digs_zero, show (x.toNat - 48) % 10 = x.toNat - 48 by omega]
    refine congrArg (fun y => [y]) (UInt8.toNat_inj.1 ?_)
    rw [dg_toNat (by omega)]; omega
  | x :: y :: r, ha, _, hh => by
    have hx := ha x (by simp)
    have hl : 0 < (y :: r).reverse.length := by simp
    rw [List.reverse_cons, List.getElem?_append_left hl] at hh
    obtain ⟨h1, h2⟩ := digs_of_rev (y :: r) (fun z hz => ha z (List.mem_cons_of_mem _ hz)) (by simp) hh
    have h3 := dv_snoc (y :: r).reverse x
    rw [List.length_reverse] at h3
    rw [List.reverse_cons, List.length_cons, h3]
    generalize dv ⟨(y :: r).reverse.toArray⟩ (y :: r).length = D at *
    refine ⟨?_, by omega⟩
    rw [show (10 * D + ((x.toNat : Int) - 48)).toNat = 10 * D.toNat + (x.toNat - 48) by omega, digs_pos (by omega), show (10 * D.toNat + (x.toNat - 48)) / 10 = D.toNat by omega, h1, show (10 * D.toNat + (x.toNat - 48)) % 10 = x.toNat - 48 by omega]
    refine congrArg (fun z => z :: y :: r) (UInt8.toNat_inj.1 ?_)
    rw [dg_toNat (by omega)]; omega
theorem digs_of {l : List UInt8} (ha : ∀ x ∈ l, 48 ≤ x.toNat ∧ x.toNat ≤ 57) (hn : l ≠ []) (hh : ((l[0]?).getD 0).toNat ≠ 48) :
    (digs (dv ⟨l.toArray⟩ l.length).toNat).reverse = l ∧ 0 < dv ⟨l.toArray⟩ l.length := by
  have h := digs_of_rev l.reverse (fun x hx => ha x (List.mem_reverse.1 hx)) (by simpa using hn) (by rw [List.reverse_reverse]; exact hh)
  rw [List.reverse_reverse, List.length_reverse] at h
  exact ⟨by rw [h.1, List.reverse_reverse], h.2⟩
/-- A number's text, read and written again. -/
theorem text_of {l : List UInt8} (ha : ∀ x ∈ l, 48 ≤ x.toNat ∧ x.toNat ≤ 57) (hn : l ≠ []) (hh : ((l[0]?).getD 0).toNat ≠ 48) (neg : Bool) :
    text (sg neg (dv ⟨l.toArray⟩ l.length)) = (if neg then [45] else []) ++ l := by
  obtain ⟨h1, h2⟩ := digs_of ha hn hh
  generalize dv ⟨l.toArray⟩ l.length = D at *
  cases neg with
  | false =>
    rw [sg_false]
    unfold text
    rw [if_neg (by omega), if_neg (by omega), show D.natAbs = D.toNat by omega, h1]; rfl
  | true =>
    rw [sg_true]
    unfold text
    rw [if_neg (by omega), if_pos (by omega), show (-D).natAbs = D.toNat by omega, h1]; rfl
/-- The texts that IntegerDigits makes. -/
theorem dsB_cons (l : List UInt8) : ngB ⟨(45 :: l).toArray⟩ = true ∧ dsB ⟨(45 :: l).toArray⟩ = ⟨l.toArray⟩ := by
  have e1 : ngB ⟨(45 :: l).toArray⟩ = true := by unfold ngB; rw [bt_list]; rfl
  refine ⟨e1, ?_⟩
  unfold dsB
  rw [if_pos e1, size_list, List.length_cons]
  exact extract_list _ _
theorem dsB_plain {l : List UInt8} (h : ((l[0]?).getD 0).toNat ≠ 45) : ngB ⟨l.toArray⟩ = false ∧ dsB ⟨l.toArray⟩ = ⟨l.toArray⟩ := by
  have e1 : ngB ⟨l.toArray⟩ = false := by unfold ngB; rw [bt_list, beq_eq_false_iff_ne]; exact h
  refine ⟨e1, ?_⟩
  unfold dsB
  rw [if_neg (by rw [e1]; decide)]
theorem dsB_signed (neg : Bool) {l : List UInt8} (h : ((l[0]?).getD 0).toNat ≠ 45) : ngB ⟨((if neg then [45] else []) ++ l).toArray⟩ = neg ∧ dsB ⟨((if neg then [45] else []) ++ l).toArray⟩ = ⟨l.toArray⟩ := by
  cases neg with
  | false => exact dsB_plain h
  | true => exact dsB_cons l
theorem num_of {s : ByteArray} {l : List UInt8} (hd : dsB s = ⟨l.toArray⟩) (ha : ∀ x ∈ l, 48 ≤ x.toNat ∧ x.toNat ≤ 57) (hn : l ≠ []) (hh : ((l[0]?).getD 0).toNat ≠ 48) : Num s := by
  refine ⟨?_, ?_, ?_⟩
  · rw [hd, size_list]; exact List.length_pos_iff.2 hn
  · rw [hd]; exact alld_list ha
  · rw [hd, bt_list]; exact fun h => hh h.1
theorem not_num_of {s : ByteArray} {l : List UInt8} (hd : dsB s = ⟨l.toArray⟩) {x : UInt8} (hx : x ∈ l) (h57 : 57 < x.toNat) : ¬ Num s := by
  intro h
  obtain ⟨i, hi, rfl⟩ := List.getElem_of_mem hx
  have := h.2.1 i (by rw [hd, size_list]; exact hi)
  rw [hd, bt_list, List.getElem?_eq_getElem hi] at this
  have h2 := this.2
  simp at h2
  omega
end Go.Proofs.Ytnjekacagffelaa
