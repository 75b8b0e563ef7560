/- A part of the proof of the laws of rationals: NumP, NumText. -/
import Derived.Lib.Strings
import Derived.Test.YtijmjkkjopplbaaPac
import Derived.Test.YtijmjkkjopplbaaPab
import Derived.Test.YtijmjkkjopplbaaPaa
namespace Go.Proofs.Ytijmjkkjopplbaa
open Go.RowKit
set_option linter.unusedVariables false
set_option maxRecDepth 100000

/-- Byte i of a text, 0 behind its end. -/
def bt (t : ByteArray) (i : Nat) : Nat := if h : i < t.size then (t[i]'h).toNat else 0
theorem bt_get {t : ByteArray} {i : Nat} (h : i < t.size) : bt t i = (t[i]'h).toNat := dif_pos h
theorem bt_out {t : ByteArray} {i : Nat} (h : ¬ i < t.size) : bt t i = 0 := dif_neg h
def ngB (s : ByteArray) : Bool := bt s 0 == 45
def dsB (s : ByteArray) : ByteArray := if ngB s = true then s.extract 1 s.size else s
def AllD (t : ByteArray) : Prop := ∀ i, i < t.size → 48 ≤ bt t i ∧ bt t i ≤ 57
/-- The text is a decimal number. -/
def Num (s : ByteArray) : Prop := 0 < (dsB s).size ∧ AllD (dsB s) ∧ ¬ (bt (dsB s) 0 = 48 ∧ (ngB s = true ∨ 1 < (dsB s).size))
/-- The number that the first k digits denote. -/
def dv (t : ByteArray) : Nat → Int
  | 0 => 0
  | k + 1 => 10 * dv t k + ((bt t k : Int) - 48)
theorem bt_extract (s : ByteArray) (a i : Nat) (h : a ≤ s.size) : bt (s.extract a s.size) i = bt s (a + i) := by
  unfold bt
  by_cases hi : a + i < s.size
  · have h1 : i < (s.extract a s.size).size := by simp; omega
    rw [dif_pos hi, dif_pos h1, ByteArray.getElem_extract]
  · have h1 : ¬ i < (s.extract a s.size).size := by simp; omega
    rw [dif_neg hi, dif_neg h1]
theorem empty_iff (t : ByteArray) : t.toList.isEmpty = decide (t.size = 0) := by
  rw [Lib.toList_data, Lib.size_eq]
  cases t.data.toList <;> simp
theorem num_not_digit {s t : ByteArray} (ht : dsB s = t) {i : Nat} (hi : i < t.size) (h : ¬ (48 ≤ bt t i ∧ bt t i ≤ 57)) : ¬ Num s := fun hn => by
  have := hn.2.1 i (by rw [ht]; exact hi)
  rw [ht] at this
  exact h this
end Go.Proofs.Ytijmjkkjopplbaa

namespace Go.Proofs.Ytijmjkkjopplbaa
set_option linter.unusedVariables false
set_option maxRecDepth 100000

theorem bt_list (l : List UInt8) (i : Nat) : bt ⟨l.toArray⟩ i = ((l[i]?).getD 0).toNat := by
  unfold bt
  by_cases h : i < l.length
  · rw [dif_pos (show i < ByteArray.size ⟨l.toArray⟩ from h)]
    rw [List.getElem?_eq_getElem h]; rfl
  · rw [dif_neg (show ¬ i < ByteArray.size ⟨l.toArray⟩ from h), List.getElem?_eq_none (by omega)]; rfl
theorem size_list (l : List UInt8) : ByteArray.size ⟨l.toArray⟩ = l.length := rfl
theorem dv_congr {s t : ByteArray} : ∀ {k : Nat}, (∀ i, i < k → bt s i = bt t i) → dv s k = dv t k
  | 0, _ => rfl
  | k + 1, h => by rw [dv, dv, dv_congr (k := k) (fun i hi => h i (by omega)), h k (by omega)]
theorem dv_snoc (l : List UInt8) (x : UInt8) : dv ⟨(l ++ [x]).toArray⟩ (l.length + 1) = 10 * dv ⟨l.toArray⟩ l.length + ((x.toNat : Int) - 48) := by
  rw [dv, bt_list, dv_congr (t := ⟨l.toArray⟩) (fun i hi => by rw [bt_list, bt_list, List.getElem?_append_left hi])]
  simp
theorem digs_dv : ∀ n : Nat, dv ⟨(digs n).reverse.toArray⟩ (digs n).length = n := by
  intro n
  induction n using Nat.strongRecOn with
  | ind n ih =>
    rcases Nat.eq_zero_or_pos n with h | h
    · subst h; rw [digs_zero]; rfl
    · rw [digs_pos h, List.reverse_cons, List.length_cons]
      have h1 := dv_snoc (digs (n / 10)).reverse (dg (n % 10))
      rw [List.length_reverse] at h1
      rw [h1, ih (n / 10) (by omega), dg_toNat (by omega)]
      omega
theorem digs_all : ∀ (n : Nat), ∀ x ∈ digs n, 48 ≤ x.toNat ∧ x.toNat ≤ 57 := by
  intro n
  induction n using Nat.strongRecOn with
  | ind n ih =>
    rcases Nat.eq_zero_or_pos n with h | h
    · subst h; rw [digs_zero]; intro x hx; cases hx
    · rw [digs_pos h]
      intro x hx
      rcases List.mem_cons.1 hx with h | h
      · subst h; rw [dg_toNat (by omega)]; omega
      · exact ih (n / 10) (by omega) x h
theorem digs_head : ∀ (n : Nat), 0 < n → ((digs n).reverse[0]?.getD 0).toNat ≠ 48 := by
  intro n
  induction n using Nat.strongRecOn with
  | ind n ih =>
    intro h
    rw [digs_pos h, List.reverse_cons]
    rcases Nat.eq_zero_or_pos (n / 10) with h0 | h0
    · rw [h0, digs_zero]
      simp
      rw [dg_toNat (by omega)]; omega
    · have hl : 0 < (digs (n / 10)).reverse.length := by rw [List.length_reverse]; exact List.length_pos_iff.2 (digs_ne h0)
      rw [List.getElem?_append_left hl]
      exact ih (n / 10) (by omega) h0
theorem extract_list (x : UInt8) (l : List UInt8) : (ByteArray.mk (x :: l).toArray).extract 1 (l.length + 1) = ⟨l.toArray⟩ := by
  apply ByteArray.ext
  apply Array.ext'
  simp
theorem alld_list {l : List UInt8} (h : ∀ x ∈ l, 48 ≤ x.toNat ∧ x.toNat ≤ 57) : AllD ⟨l.toArray⟩ := fun i hi => by
  rw [size_list] at hi
  rw [bt_list, List.getElem?_eq_getElem hi]
  exact h _ (List.getElem_mem hi)
theorem bt_head {l : List UInt8} (h : ∀ x ∈ l, 48 ≤ x.toNat ∧ x.toNat ≤ 57) : (bt ⟨l.toArray⟩ 0 == 45) = false := by
  rw [bt_list, beq_eq_false_iff_ne]
  cases l with
  | nil => decide
  | cons x l => have := h x (by simp); simp; omega
theorem text_num (z : Int) : Num ⟨(text z).toArray⟩ ∧ ngB ⟨(text z).toArray⟩ = decide (z < 0) ∧ sg (decide (z < 0)) (dv (dsB ⟨(text z).toArray⟩) (dsB ⟨(text z).toArray⟩).size) = z ∧
    (dsB ⟨(text z).toArray⟩).size ≤ (digs z.natAbs).length + 1 := by
  by_cases h0 : z = 0
  · subst h0
    have e1 : ngB ⟨(text 0).toArray⟩ = false := by decide
    have e2 : dsB ⟨(text 0).toArray⟩ = ⟨[48].toArray⟩ := by unfold dsB; rw [if_neg (by rw [e1]; decide)]; rfl
    have e3 : bt ⟨[48].toArray⟩ 0 = 48 := by decide
    refine ⟨⟨by rw [e2]; decide, ?_, by rw [e1, e2]; decide⟩, e1, by rw [e2]; decide, by rw [e2]; exact Nat.le_add_left 1 _⟩
    rw [e2]
    exact alld_list (fun x hx => by rw [List.mem_singleton] at hx; subst hx; decide)
  · have hn : 0 < z.natAbs := by omega
    have ha := digs_all z.natAbs
    have har : ∀ x ∈ (digs z.natAbs).reverse, 48 ≤ x.toNat ∧ x.toNat ≤ 57 := fun x hx => ha x (List.mem_reverse.1 hx)
    have hh := digs_head z.natAbs hn
    have hp := List.length_pos_iff.2 (digs_ne hn)
    have hd := digs_dv z.natAbs
    have key : (dsB ⟨(text z).toArray⟩ = ⟨(digs z.natAbs).reverse.toArray⟩) ∧ ngB ⟨(text z).toArray⟩ = decide (z < 0) := by
      by_cases hz : z < 0
      · have et : text z = 45 :: (digs z.natAbs).reverse := by unfold text; rw [if_neg h0, if_pos hz]; rfl
        rw [et]
        have e1 : ngB ⟨(45 :: (digs z.natAbs).reverse).toArray⟩ = true := by unfold ngB; rw [bt_list]; rfl
        refine ⟨?_, by rw [e1, decide_eq_true hz]⟩
        unfold dsB
        rw [if_pos e1, size_list, List.length_cons]
        exact extract_list _ _
      · have et : text z = (digs z.natAbs).reverse := by unfold text; rw [if_neg h0, if_neg hz]; rfl
        rw [et]
        have e1 : ngB ⟨(digs z.natAbs).reverse.toArray⟩ = false := bt_head har
        refine ⟨?_, by rw [e1, decide_eq_false hz]⟩
        unfold dsB
        rw [if_neg (by rw [e1]; decide)]
    obtain ⟨k1, k2⟩ := key
    refine ⟨⟨?_, ?_, ?_⟩, k2, ?_, ?_⟩
    · rw [k1, size_list, List.length_reverse]; exact hp
    · rw [k1]; exact alld_list har
    · rw [k1, bt_list]; exact fun h => hh h.1
    · rw [k1, size_list, List.length_reverse, hd]
      by_cases hz : z < 0
      · rw [decide_eq_true hz, sg_true]; omega
      · rw [decide_eq_false hz, sg_false]; omega
    · rw [k1, size_list, List.length_reverse]; omega
end Go.Proofs.Ytijmjkkjopplbaa

