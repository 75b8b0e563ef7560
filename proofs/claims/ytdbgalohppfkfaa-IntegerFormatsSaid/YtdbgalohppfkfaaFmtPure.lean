/- NumP, NumText, DigText, RFmtPure in one text. -/
import Derived.Test.YtdbgalohppfkfaaWalk
import Derived.Test.YtdbgalohppfkfaaIntV
import Derived.Lib.Strings
import Derived.Test.YtdbgalohppfkfaaText
/- The texts of numbers: what they are. -/
namespace Go.Proofs.Ytdbgalohppfkfaa
open Go.RowKit
set_option linter.unusedVariables false

/-- Byte i of a text, 0 behind its end. -/
def bt (t : ByteArray) (i : Nat) : Nat := if h : i < t.size then (t[i]'h).toNat else 0
theorem bt_get {t : ByteArray} {i : Nat} (h : i < t.size) : bt t i = (t[i]'h).toNat := dif_pos h
theorem bt_out {t : ByteArray} {i : Nat} (h : ¬ i < t.size) : bt t i = 0 := dif_neg h
def ngB (s : ByteArray) : Bool := bt s 0 == 45
def dsB (s : ByteArray) : ByteArray := if ngB s = true then s.extract 1 s.size else s
def AllD (t : ByteArray) : Prop := ∀ i, i < t.size → 48 ≤ bt t i ∧ bt t i ≤ 57
/-- The text is a decimal number. -/
def Num (s : ByteArray) : Prop := 0 < (dsB s).size ∧ AllD (dsB s) ∧ ¬ (bt (dsB s) 0 = 48 ∧ (ngB s = true ∨ 1 < (dsB s).size))
/-- The number that the first k digits denote. -/
def dv (t : ByteArray) : Nat → Int
  | 0 => 0
  | k + 1 => 10 * dv t k + ((bt t k : Int) - 48)
theorem extract_size (s : ByteArray) (h : 0 < s.size) : (s.extract 1 s.size).size = s.size - 1 := by simp
theorem bt_extract (s : ByteArray) (a i : Nat) (h : a ≤ s.size) : bt (s.extract a s.size) i = bt s (a + i) := by
  unfold bt
  by_cases hi : a + i < s.size
  · have h1 : i < (s.extract a s.size).size := by simp; omega
    rw [dif_pos hi, dif_pos h1, ByteArray.getElem_extract]
  · have h1 : ¬ i < (s.extract a s.size).size := by simp; omega
    rw [dif_neg hi, dif_neg h1]
theorem empty_iff (t : ByteArray) : t.toList.isEmpty = decide (t.size = 0) := by
  rw [Lib.toList_data, Lib.size_eq]
  cases t.data.toList <;> simp
theorem num_not_digit {s t : ByteArray} (ht : dsB s = t) {i : Nat} (hi : i < t.size) (h : ¬ (48 ≤ bt t i ∧ bt t i ≤ 57)) : ¬ Num s := fun hn => by
  have := hn.2.1 i (by rw [ht]; exact hi)
  rw [ht] at this
  exact h this
end Go.Proofs.Ytdbgalohppfkfaa
/- The text of a number is a number's text, and denotes it: plain facts. -/
namespace Go.Proofs.Ytdbgalohppfkfaa
set_option linter.unusedVariables false

theorem bt_list (l : List UInt8) (i : Nat) : bt ⟨l.toArray⟩ i = ((l[i]?).getD 0).toNat := by
  unfold bt
  by_cases h : i < l.length
  · rw [dif_pos (show i < ByteArray.size ⟨l.toArray⟩ from h)]
    rw [List.getElem?_eq_getElem h]; rfl
  · rw [dif_neg (show ¬ i < ByteArray.size ⟨l.toArray⟩ from h), List.getElem?_eq_none (by omega)]; rfl
theorem size_list (l : List UInt8) : ByteArray.size ⟨l.toArray⟩ = l.length := rfl
theorem dv_congr {s t : ByteArray} : ∀ {k : Nat}, (∀ i, i < k → bt s i = bt t i) → dv s k = dv t k
  | 0, _ => rfl
  | k + 1, h => by rw [dv, dv, dv_congr (k := k) (fun i hi => h i (by omega)), h k (by omega)]
theorem dv_snoc (l : List UInt8) (x : UInt8) : dv ⟨(l ++ [x]).toArray⟩ (l.length + 1) = 10 * dv ⟨l.toArray⟩ l.length + ((x.toNat : Int) - 48) := by
  rw [dv, bt_list, dv_congr (t := ⟨l.toArray⟩) (fun i hi => by rw [bt_list, bt_list, List.getElem?_append_left hi])]
  simp
theorem digs_dv : ∀ n : Nat, dv ⟨(digs n).reverse.toArray⟩ (digs n).length = n := by
  intro n
  induction n using Nat.strongRecOn with
  | ind n ih =>
    rcases Nat.eq_zero_or_pos n with h | h
    · subst h; rw [digs_zero]; rfl
    · rw [digs_pos h, List.reverse_cons, List.length_cons]
      have h1 := dv_snoc (digs (n / 10)).reverse (dg (n % 10))
      rw [List.length_reverse] at h1
      rw [h1, ih (n / 10) (by omega), dg_toNat (by omega)]
      omega
theorem digs_all : ∀ (n : Nat), ∀ x ∈ digs n, 48 ≤ x.toNat ∧ x.toNat ≤ 57 := by
  intro n
  induction n using Nat.strongRecOn with
  | ind n ih =>
    rcases Nat.eq_zero_or_pos n with h | h
    · subst h; rw [digs_zero]; intro x hx; cases hx
    · rw [digs_pos h]
      intro x hx
      rcases List.mem_cons.1 hx with h | h
      · subst h; rw [dg_toNat (by omega)]; omega
      · exact ih (n / 10) (by omega) x h
theorem digs_head : ∀ (n : Nat), 0 < n → ((digs n).reverse[0]?.getD 0).toNat ≠ 48 := by
  intro n
  induction n using Nat.strongRecOn with
  | ind n ih =>
    intro h
    rw [digs_pos h, List.reverse_cons]
    rcases Nat.eq_zero_or_pos (n / 10) with h0 | h0
    · rw [h0, digs_zero]
      simp
      rw [dg_toNat (by omega)]; omega
    · have hl : 0 < (digs (n / 10)).reverse.length := by rw [List.length_reverse]; exact List.length_pos_iff.2 (digs_ne h0)
      rw [List.getElem?_append_left hl]
      exact ih (n / 10) (by omega) h0
theorem extract_list (x : UInt8) (l : List UInt8) : (ByteArray.mk (x :: l).toArray).extract 1 (l.length + 1) = ⟨l.toArray⟩ := by
  apply ByteArray.ext
  apply Array.ext'
  simp
theorem alld_list {l : List UInt8} (h : ∀ x ∈ l, 48 ≤ x.toNat ∧ x.toNat ≤ 57) : AllD ⟨l.toArray⟩ := fun i hi => by
  rw [size_list] at hi
  rw [bt_list, List.getElem?_eq_getElem hi]
  exact h _ (List.getElem_mem hi)
theorem bt_head {l : List UInt8} (h : ∀ x ∈ l, 48 ≤ x.toNat ∧ x.toNat ≤ 57) : (bt ⟨l.toArray⟩ 0 == 45) = false := by
  rw [bt_list, beq_eq_false_iff_ne]
  cases l with
  | nil => decide
  | cons x l => have := h x (by simp); simp; omega
theorem text_num (z : Int) : Num ⟨(text z).toArray⟩ ∧ ngB ⟨(text z).toArray⟩ = decide (z < 0) ∧ sg (decide (z < 0)) (dv (dsB ⟨(text z).toArray⟩) (dsB ⟨(text z).toArray⟩).size) = z ∧
    (dsB ⟨(text z).toArray⟩).size ≤ (digs z.natAbs).length + 1 := by
  by_cases h0 : z = 0
  · subst h0
    have e1 : ngB ⟨(text 0).toArray⟩ = false := by decide
    have e2 : dsB ⟨(text 0).toArray⟩ = ⟨[48].toArray⟩ := by unfold dsB; rw [if_neg (by rw [e1]; decide)]; rfl
    have e3 : bt ⟨[48].toArray⟩ 0 = 48 := by decide
    refine ⟨⟨by rw [e2]; decide, ?_, by rw [e1, e2]; decide⟩, e1, by rw [e2]; decide, by rw [e2]; exact Nat.le_add_left 1 _⟩
    rw [e2]
    exact alld_list (fun x hx => by rw [List.mem_singleton] at hx; subst hx; decide)
  · have hn : 0 < z.natAbs := by omega
    have ha := digs_all z.natAbs
    have har : ∀ x ∈ (digs z.natAbs).reverse, 48 ≤ x.toNat ∧ x.toNat ≤ 57 := fun x hx => ha x (List.mem_reverse.1 hx)
    have hh := digs_head z.natAbs hn
    have hp := List.length_pos_iff.2 (digs_ne hn)
    have hd := digs_dv z.natAbs
    have key : (dsB ⟨(text z).toArray⟩ = ⟨(digs z.natAbs).reverse.toArray⟩) ∧ ngB ⟨(text z).toArray⟩ = decide (z < 0) := by
      by_cases hz : z < 0
      · have et : text z = 45 :: (digs z.natAbs).reverse := by unfold text; rw [if_neg h0, if_pos hz]; rfl
        rw [et]
        have e1 : ngB ⟨(45 :: (digs z.natAbs).reverse).toArray⟩ = true := by unfold ngB; rw [bt_list]; rfl
        refine ⟨?_, by rw [e1, decide_eq_true hz]⟩
        unfold dsB
        rw [if_pos e1, size_list, List.length_cons]
        exact extract_list _ _
      · have et : text z = (digs z.natAbs).reverse := by unfold text; rw [if_neg h0, if_neg hz]; rfl
        rw [et]
        have e1 : ngB ⟨(digs z.natAbs).reverse.toArray⟩ = false := bt_head har
        refine ⟨?_, by rw [e1, decide_eq_false hz]⟩
        unfold dsB
        rw [if_neg (by rw [e1]; decide)]
    obtain ⟨k1, k2⟩ := key
    refine ⟨⟨?_, ?_, ?_⟩, k2, ?_, ?_⟩
    · rw [k1, size_list, List.length_reverse]; exact hp
    · rw [k1]; exact alld_list har
    · rw [k1, bt_list]; exact fun h => hh h.1
    · rw [k1, size_list, List.length_reverse, hd]
      by_cases hz : z < 0
      · rw [decide_eq_true hz, sg_true]; omega
      · rw [decide_eq_false hz, sg_false]; omega
    · rw [k1, size_list, List.length_reverse]; omega
end Go.Proofs.Ytdbgalohppfkfaa
/- Which texts are those of numbers, the other way round: plain facts. -/
namespace Go.Proofs.Ytdbgalohppfkfaa
set_option linter.unusedVariables false

theorem digs_of_rev : ∀ r : List UInt8, (∀ x ∈ r, 48 ≤ x.toNat ∧ x.toNat ≤ 57) → r ≠ [] → ((r.reverse[0]?).getD 0).toNat ≠ 48 →
    digs (dv ⟨r.reverse.toArray⟩ r.length).toNat = r ∧ 0 < dv ⟨r.reverse.toArray⟩ r.length
  | [], _, h, _ => absurd rfl h
  | [x], ha, _, hh => by
    have hx := ha x (by simp)
    have h1 : (x.toNat : Int) - 48 = dv ⟨[x].reverse.toArray⟩ [x].length := by
      rw [List.length_singleton, dv, dv, bt_list]; simp
    have h2 : x.toNat ≠ 48 := by simpa using hh
    rw [← h1]
    refine ⟨?_, by omega⟩
    rw [show ((x.toNat : Int) - 48).toNat = x.toNat - 48 by omega, digs_pos (by omega), show (x.toNat - 48) / 10 = 0 by omega, digs_zero, show (x.toNat - 48) % 10 = x.toNat - 48 by omega]
    refine congrArg (fun y => [y]) (UInt8.toNat_inj.1 ?_)
    rw [dg_toNat (by omega)]; omega
  | x :: y :: r, ha, _, hh => by
    have hx := ha x (by simp)
    have hl : 0 < (y :: r).reverse.length := by simp
    rw [List.reverse_cons, List.getElem?_append_left hl] at hh
    obtain ⟨h1, h2⟩ := digs_of_rev (y :: r) (fun z hz => ha z (List.mem_cons_of_mem _ hz)) (by simp) hh
    have h3 := dv_snoc (y :: r).reverse x
    rw [List.length_reverse] at h3
    rw [List.reverse_cons, List.length_cons, h3]
    generalize dv ⟨(y :: r).reverse.toArray⟩ (y :: r).length = D at *
    refine ⟨?_, by omega⟩
    rw [show (10 * D + ((x.toNat : Int) - 48)).toNat = 10 * D.toNat + (x.toNat - 48) by omega, digs_pos (by omega), show (10 * D.toNat + (x.toNat - 48)) / 10 = D.toNat by omega, h1, show (10 * D.toNat + (x.toNat - 48)) % 10 = x.toNat - 48 by omega]
    refine congrArg (fun z => z :: y :: r) (UInt8.toNat_inj.1 ?_)
    rw [dg_toNat (by omega)]; omega
theorem digs_of {l : List UInt8} (ha : ∀ x ∈ l, 48 ≤ x.toNat ∧ x.toNat ≤ 57) (hn : l ≠ []) (hh : ((l[0]?).getD 0).toNat ≠ 48) :
    (digs (dv ⟨l.toArray⟩ l.length).toNat).reverse = l ∧ 0 < dv ⟨l.toArray⟩ l.length := by
  have h := digs_of_rev l.reverse (fun x hx => ha x (List.mem_reverse.1 hx)) (by simpa using hn) (by rw [List.reverse_reverse]; exact hh)
  rw [List.reverse_reverse, List.length_reverse] at h
  exact ⟨by rw [h.1, List.reverse_reverse], h.2⟩
/-- A number's text, read and written again. -/
theorem text_of {l : List UInt8} (ha : ∀ x ∈ l, 48 ≤ x.toNat ∧ x.toNat ≤ 57) (hn : l ≠ []) (hh : ((l[0]?).getD 0).toNat ≠ 48) (neg : Bool) :
    text (sg neg (dv ⟨l.toArray⟩ l.length)) = (if neg then [45] else []) ++ l := by
  obtain ⟨h1, h2⟩ := digs_of ha hn hh
  generalize dv ⟨l.toArray⟩ l.length = D at *
  cases neg with
  | false =>
    rw [sg_false]
    unfold text
    rw [if_neg (by omega), if_neg (by omega), show D.natAbs = D.toNat by omega, h1]; rfl
  | true =>
    rw [sg_true]
    unfold text
    rw [if_neg (by omega), if_pos (by omega), show (-D).natAbs = D.toNat by omega, h1]; rfl
/-- The texts that IntegerDigits makes. -/
theorem dsB_cons (l : List UInt8) : ngB ⟨(45 :: l).toArray⟩ = true ∧ dsB ⟨(45 :: l).toArray⟩ = ⟨l.toArray⟩ := by
  have e1 : ngB ⟨(45 :: l).toArray⟩ = true := by unfold ngB; rw [bt_list]; rfl
  refine ⟨e1, ?_⟩
  unfold dsB
  rw [if_pos e1, size_list, List.length_cons]
  exact extract_list _ _
theorem dsB_plain {l : List UInt8} (h : ((l[0]?).getD 0).toNat ≠ 45) : ngB ⟨l.toArray⟩ = false ∧ dsB ⟨l.toArray⟩ = ⟨l.toArray⟩ := by
  have e1 : ngB ⟨l.toArray⟩ = false := by unfold ngB; rw [bt_list, beq_eq_false_iff_ne]; exact h
  refine ⟨e1, ?_⟩
  unfold dsB
  rw [if_neg (by rw [e1]; decide)]
theorem dsB_signed (neg : Bool) {l : List UInt8} (h : ((l[0]?).getD 0).toNat ≠ 45) : ngB ⟨((if neg then [45] else []) ++ l).toArray⟩ = neg ∧ dsB ⟨((if neg then [45] else []) ++ l).toArray⟩ = ⟨l.toArray⟩ := by
  cases neg with
  | false => exact dsB_plain h
  | true => exact dsB_cons l
theorem num_of {s : ByteArray} {l : List UInt8} (hd : dsB s = ⟨l.toArray⟩) (ha : ∀ x ∈ l, 48 ≤ x.toNat ∧ x.toNat ≤ 57) (hn : l ≠ []) (hh : ((l[0]?).getD 0).toNat ≠ 48) : Num s := by
  refine ⟨?_, ?_, ?_⟩
  · rw [hd, size_list]; exact List.length_pos_iff.2 hn
  · rw [hd]; exact alld_list ha
  · rw [hd, bt_list]; exact fun h => hh h.1
theorem not_num_of {s : ByteArray} {l : List UInt8} (hd : dsB s = ⟨l.toArray⟩) {x : UInt8} (hx : x ∈ l) (h57 : 57 < x.toNat) : ¬ Num s := by
  intro h
  obtain ⟨i, hi, rfl⟩ := List.getElem_of_mem hx
  have := h.2.1 i (by rw [hd, size_list]; exact hi)
  rw [hd, bt_list, List.getElem?_eq_getElem hi] at this
  have h2 := this.2
  simp at h2
  omega
end Go.Proofs.Ytdbgalohppfkfaa
/- What the reference's Format writes: plain facts. -/
namespace Go.Proofs.Ytdbgalohppfkfaa
set_option linter.unusedVariables false
/-- The number that a list of digits denotes. -/
def lv (l : List UInt8) : Int := dv ⟨l.toArray⟩ l.length
theorem lv_nil : lv [] = 0 := rfl
theorem lv_snoc (l : List UInt8) (x : UInt8) : lv (l ++ [x]) = 10 * lv l + ((x.toNat : Int) - 48) := by
  have h := dv_snoc l x
  unfold lv
  rw [List.length_append, List.length_singleton, h]
theorem lv_append (l : List UInt8) : ∀ p : List UInt8, lv (p ++ l) = lv p * 10 ^ l.length + lv l := by
  induction l with
  | nil => intro p; rw [List.append_nil, lv_nil, List.length_nil, Int.pow_zero]; omega
  | cons y l ih =>
    intro p
    have h1 := ih (p ++ [y])
    have h2 := ih [y]
    have h3 := lv_snoc [] y
    rw [List.nil_append, lv_nil] at h3
    rw [List.append_assoc, List.singleton_append] at h1
    rw [List.singleton_append] at h2
    rw [h1, h2, lv_snoc, h3, List.length_cons, Int.pow_succ]
    generalize (10 : Int) ^ l.length = P
    grind
theorem lv_cons (x : UInt8) (l : List UInt8) : lv (x :: l) = ((x.toNat : Int) - 48) * 10 ^ l.length + lv l := by
  have h := lv_append l [x]
  have h3 := lv_snoc [] x
  rw [List.nil_append, lv_nil] at h3
  rw [List.singleton_append] at h
  rw [h, h3]; grind
theorem lv_zero {x : UInt8} (h : x.toNat = 48) (l : List UInt8) : lv (x :: l) = lv l := by
  rw [lv_cons, h]; grind
/-- One digit more. -/
theorem fmt_step {q n N0 : Int} {i : Nat} {l : List UInt8} (hi : i < 9) (h : (q * 10 ^ (9 - i) + n) * 10 ^ l.length + lv l = N0) (h0 : 0 ≤ n) (h1 : n < 10 ^ (9 - i)) {y : UInt8} (hy : (y.toNat : Int) = 48 + n % 10) :
    (q * 10 ^ (9 - (i + 1)) + n / 10) * 10 ^ (y :: l).length + lv (y :: l) = N0 ∧ n / 10 < 10 ^ (9 - (i + 1)) := by
  rw [lv_cons, List.length_cons, ← h]
  obtain ⟨P, hP⟩ : ∃ P, (10 : Int) ^ (9 - (i + 1)) = P := ⟨_, rfl⟩
  have hP2 : (10 : Int) ^ (9 - i) = P * 10 := by rw [show 9 - i = (9 - (i + 1)) + 1 by omega, Int.pow_succ, hP]
  rw [hP, hP2, Int.pow_succ]
  rw [hP2] at h1
  have h2 := Int.emod_add_mul_ediv n 10
  have h3 := Int.emod_nonneg n (show (10 : Int) ≠ 0 by decide)
  refine ⟨?_, by omega⟩
  rw [hy, show 48 + n % 10 - 48 = n % 10 by omega]
  clear h h0 h1 h3 hy hi hP hP2
  generalize n / 10 = d at *
  generalize n % 10 = r at *
  generalize lv l = V
  generalize (10 : Int) ^ l.length = R
  subst h2
  simp only [Int.add_mul, Int.mul_assoc, Int.add_assoc, Int.mul_comm R 10, Int.mul_left_comm d 10]
  omega
theorem lv_nonneg {l : List UInt8} (h : ∀ x ∈ l, 48 ≤ x.toNat ∧ x.toNat ≤ 57) : 0 ≤ lv l := by
  induction l with
  | nil => exact Int.le_refl _
  | cons x l ih =>
    rw [lv_cons]
    have h1 := ih (fun y hy => h y (List.mem_cons_of_mem _ hy))
    have h2 := h x (by simp)
    have h3 : 0 ≤ ((x.toNat : Int) - 48) * 10 ^ l.length := Int.mul_nonneg (by omega) (Int.le_of_lt (Int.pow_pos (by decide)))
    omega
theorem ten_lt (n : Nat) : (n : Int) < 10 ^ n := by
  induction n with
  | zero => decide
  | succ n ih => rw [Int.pow_succ]; omega
/-- How long the text is. -/
theorem fmt_len {x N0 : Int} {l : List UInt8} {K : Nat} (hx : 1 ≤ x) (h : x * 10 ^ l.length + lv l = N0) (hl : ∀ x ∈ l, 48 ≤ x.toNat ∧ x.toNat ≤ 57) (hN : N0 < 10 ^ K) : l.length < K := by
  rcases Nat.lt_or_ge l.length K with h1 | h1
  · exact h1
  · exfalso
    have h2 : (10 : Int) ^ K ≤ 10 ^ l.length := by
      obtain ⟨d, hd⟩ := Nat.le.dest h1
      rw [← hd, Int.pow_add]
      have := Int.mul_le_mul_of_nonneg_left (show (1 : Int) ≤ 10 ^ d from Int.pow_pos (by decide)) (Int.le_of_lt (Int.pow_pos (n := 10) (m := K) (by decide)))
      omega
    have h3 := lv_nonneg hl
    have h4 := Int.mul_le_mul_of_nonneg_right hx (Int.le_of_lt (Int.pow_pos (n := 10) (m := l.length) (by decide)))
    omega
theorem text_end {l : List UInt8} {z : Int} (hl : ∀ x ∈ l, 48 ≤ x.toNat ∧ x.toNat ≤ 57) (hn : l ≠ []) (hh : ((l[0]?).getD 0).toNat ≠ 48) (h : lv l = (z.natAbs : Int)) (neg : Bool) (hz : neg = decide (z < 0)) :
    text z = (if neg then [45] else []) ++ l := by
  have h1 := text_of hl hn hh neg
  unfold lv at h
  rw [h] at h1
  rw [← h1]
  subst hz
  congr 1
  by_cases hz : z < 0
  · rw [decide_eq_true hz, sg_true]; omega
  · rw [decide_eq_false hz, sg_false]; omega
theorem dash_cat (l : List UInt8) : (⟨#[45]⟩ : ByteArray) ++ ⟨l.toArray⟩ = ⟨(45 :: l).toArray⟩ := by
  apply ByteArray.ext
  apply Array.ext'
  simp
theorem byte_cat (y : UInt8) (l : List UInt8) : (⟨#[y]⟩ : ByteArray) ++ ⟨l.toArray⟩ = ⟨(y :: l).toArray⟩ := by
  apply ByteArray.ext
  apply Array.ext'
  simp
end Go.Proofs.Ytdbgalohppfkfaa
