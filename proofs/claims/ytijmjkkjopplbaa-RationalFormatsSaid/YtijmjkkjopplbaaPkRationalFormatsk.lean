/- A part of the proof of the laws of rationals: DigText, RFmtPure. -/
import Derived.Test.YtijmjkkjopplbaaPac
import Derived.Test.YtijmjkkjopplbaaPkRationalFormatsa
import Derived.Test.YtijmjkkjopplbaaPab
import Derived.Test.YtijmjkkjopplbaaPag
import Derived.Test.YtijmjkkjopplbaaPaa
namespace Go.Proofs.Ytijmjkkjopplbaa
set_option linter.unusedVariables false
set_option maxRecDepth 100000

theorem digs_of_rev : ∀ r : List UInt8, (∀ x ∈ r, 48 ≤ x.toNat ∧ x.toNat ≤ 57) → r ≠ [] → ((r.reverse[0]?).getD 0).toNat ≠ 48 →
    digs (dv ⟨r.reverse.toArray⟩ r.length).toNat = r ∧ 0 < dv ⟨r.reverse.toArray⟩ r.length
  | [], _, h, _ => absurd rfl h
  | [x], ha, _, hh => by
    have hx := ha x (by simp)
    have h1 : (x.toNat : Int) - 48 = dv ⟨[x].reverse.toArray⟩ [x].length := by
      rw [List.length_singleton, dv, dv, bt_list]; simp
    have h2 : x.toNat ≠ 48 := by simpa using hh
    rw [← h1]
    refine ⟨?_, by omega⟩
    rw [show ((x.toNat : Int) - 48).toNat = x.toNat - 48 by omega, digs_pos (by omega), show (x.toNat - 48) / 10 = 0 by omega, digs_zero, show (x.toNat - 48) % 10 = x.toNat - 48 by omega]
    refine congrArg (fun y => [y]) (UInt8.toNat_inj.1 ?_)
    rw [dg_toNat (by omega)]; omega
  | x :: y :: r, ha, _, hh => by
    have hx := ha x (by simp)
    have hl : 0 < (y :: r).reverse.length := by simp
    rw [List.reverse_cons, List.getElem?_append_left hl] at hh
    obtain ⟨h1, h2⟩ := digs_of_rev (y :: r) (fun z hz => ha z (List.mem_cons_of_mem _ hz)) (by simp) hh
    have h3 := dv_snoc (y :: r).reverse x
    rw [List.length_reverse] at h3
    rw [List.reverse_cons, List.length_cons, h3]
    generalize dv ⟨(y :: r).reverse.toArray⟩ (y :: r).length = D at *
    refine ⟨?_, by omega⟩
    rw [show (10 * D + ((x.toNat : Int) - 48)).toNat = 10 * D.toNat + (x.toNat - 48) by omega, digs_pos (by omega), show (10 * D.toNat + (x.toNat - 48)) / 10 = D.toNat by omega, h1, show (10 * D.toNat + (x.toNat - 48)) % 10 = x.toNat - 48 by omega]
    refine congrArg (fun z => z :: y :: r) (UInt8.toNat_inj.1 ?_)
    rw [dg_toNat (by omega)]; omega
theorem digs_of {l : List UInt8} (ha : ∀ x ∈ l, 48 ≤ x.toNat ∧ x.toNat ≤ 57) (hn : l ≠ []) (hh : ((l[0]?).getD 0).toNat ≠ 48) :
    (digs (dv ⟨l.toArray⟩ l.length).toNat).reverse = l ∧ 0 < dv ⟨l.toArray⟩ l.length := by
  have h := digs_of_rev l.reverse (fun x hx => ha x (List.mem_reverse.1 hx)) (by simpa using hn) (by rw [List.reverse_reverse]; exact hh)
  rw [List.reverse_reverse, List.length_reverse] at h
  exact ⟨by rw [h.1, List.reverse_reverse], h.2⟩
/-- A number's text, read and written again. -/
theorem text_of {l : List UInt8} (ha : ∀ x ∈ l, 48 ≤ x.toNat ∧ x.toNat ≤ 57) (hn : l ≠ []) (hh : ((l[0]?).getD 0).toNat ≠ 48) (neg : Bool) :
    text (sg neg (dv ⟨l.toArray⟩ l.length)) = (if neg then [45] else []) ++ l := by
  obtain ⟨h1, h2⟩ := digs_of ha hn hh
  generalize dv ⟨l.toArray⟩ l.length = D at *
  cases neg with
  | false =>
    rw [sg_false]
    unfold text
    rw [if_neg (by omega), if_neg (by omega), show D.natAbs = D.toNat by omega, h1]; rfl
  | true =>
    rw [sg_true]
    unfold text
    rw [if_neg (by omega), if_pos (by omega), show (-D).natAbs = D.toNat by omega, h1]; rfl
end Go.Proofs.Ytijmjkkjopplbaa

namespace Go.Proofs.Ytijmjkkjopplbaa
set_option linter.unusedVariables false
set_option maxRecDepth 100000
/-- The number that a list of digits denotes. -/
def lv (l : List UInt8) : Int := dv ⟨l.toArray⟩ l.length
theorem lv_nil : lv [] = 0 := rfl
theorem lv_snoc (l : List UInt8) (x : UInt8) : lv (l ++ [x]) = 10 * lv l + ((x.toNat : Int) - 48) := by
  have h := dv_snoc l x
  unfold lv
  rw [List.length_append, List.length_singleton, h]
theorem lv_append (l : List UInt8) : ∀ p : List UInt8, lv (p ++ l) = lv p * 10 ^ l.length + lv l := by
  induction l with
  | nil => intro p; rw [List.append_nil, lv_nil, List.length_nil, Int.pow_zero]; omega
  | cons y l ih =>
    intro p
    have h1 := ih (p ++ [y])
    have h2 := ih [y]
    have h3 := lv_snoc [] y
    rw [List.nil_append, lv_nil] at h3
    rw [List.append_assoc, List.singleton_append] at h1
    rw [List.singleton_append] at h2
    rw [h1, h2, lv_snoc, h3, List.length_cons, Int.pow_succ]
    generalize (10 : Int) ^ l.length = P
    grind
theorem lv_cons (x : UInt8) (l : List UInt8) : lv (x :: l) = ((x.toNat : Int) - 48) * 10 ^ l.length + lv l := by
  have h := lv_append l [x]
  have h3 := lv_snoc [] x
  rw [List.nil_append, lv_nil] at h3
  rw [List.singleton_append] at h
  rw [h, h3]; grind
theorem lv_zero {x : UInt8} (h : x.toNat = 48) (l : List UInt8) : lv (x :: l) = lv l := by
  rw [lv_cons, h]; grind
/-- One digit more. -/
theorem fmt_step {q n N0 : Int} {i : Nat} {l : List UInt8} (hi : i < 9) (h : (q * 10 ^ (9 - i) + n) * 10 ^ l.length + lv l = N0) (h0 : 0 ≤ n) (h1 : n < 10 ^ (9 - i)) {y : UInt8} (hy : (y.toNat : Int) = 48 + n % 10) :
    (q * 10 ^ (9 - (i + 1)) + n / 10) * 10 ^ (y :: l).length + lv (y :: l) = N0 ∧ n / 10 < 10 ^ (9 - (i + 1)) := by
  rw [lv_cons, List.length_cons, ← h]
  obtain ⟨P, hP⟩ : ∃ P, (10 : Int) ^ (9 - (i + 1)) = P := ⟨_, rfl⟩
  have hP2 : (10 : Int) ^ (9 - i) = P * 10 := by rw [show 9 - i = (9 - (i + 1)) + 1 by omega, Int.pow_succ, hP]
  rw [hP, hP2, Int.pow_succ]
  rw [hP2] at h1
  have h2 := Int.emod_add_mul_ediv n 10
  have h3 := Int.emod_nonneg n (show (10 : Int) ≠ 0 by decide)
  refine ⟨?_, by omega⟩
  rw [hy, show 48 + n % 10 - 48 = n % 10 by omega]
  clear h h0 h1 h3 hy hi hP hP2
  generalize n / 10 = d at *
  generalize n % 10 = r at *
  generalize lv l = V
  generalize (10 : Int) ^ l.length = R
  subst h2
  simp only [Int.add_mul, Int.mul_assoc, Int.add_assoc, Int.mul_comm R 10, Int.mul_left_comm d 10]
  omega
theorem lv_nonneg {l : List UInt8} (h : ∀ x ∈ l, 48 ≤ x.toNat ∧ x.toNat ≤ 57) : 0 ≤ lv l := by
  induction l with
  | nil => exact Int.le_refl _
  | cons x l ih =>
    rw [lv_cons]
    have h1 := ih (fun y hy => h y (List.mem_cons_of_mem _ hy))
    have h2 := h x (by simp)
    have h3 : 0 ≤ ((x.toNat : Int) - 48) * 10 ^ l.length := Int.mul_nonneg (by omega) (Int.le_of_lt (Int.pow_pos (by decide)))
    omega
/-- How long the text is. -/
theorem fmt_len {x N0 : Int} {l : List UInt8} {K : Nat} (hx : 1 ≤ x) (h : x * 10 ^ l.length + lv l = N0) (hl : ∀ x ∈ l, 48 ≤ x.toNat ∧ x.toNat ≤ 57) (hN : N0 < 10 ^ K) : l.length < K := by
  rcases Nat.lt_or_ge l.length K with h1 | h1
  · exact h1
  · exfalso
    have h2 : (10 : Int) ^ K ≤ 10 ^ l.length := by
      obtain ⟨d, hd⟩ := Nat.le.dest h1
      rw [← hd, Int.pow_add]
      have := Int.mul_le_mul_of_nonneg_left (show (1 : Int) ≤ 10 ^ d from Int.pow_pos (by decide)) (Int.le_of_lt (Int.pow_pos (n := 10) (m := K) (by decide)))
      omega
    have h3 := lv_nonneg hl
    have h4 := Int.mul_le_mul_of_nonneg_right hx (Int.le_of_lt (Int.pow_pos (n := 10) (m := l.length) (by decide)))
    omega
theorem text_end {l : List UInt8} {z : Int} (hl : ∀ x ∈ l, 48 ≤ x.toNat ∧ x.toNat ≤ 57) (hn : l ≠ []) (hh : ((l[0]?).getD 0).toNat ≠ 48) (h : lv l = (z.natAbs : Int)) (neg : Bool) (hz : neg = decide (z < 0)) :
    text z = (if neg then [45] else []) ++ l := by
  have h1 := text_of hl hn hh neg
  unfold lv at h
  rw [h] at h1
  rw [← h1]
  subst hz
  congr 1
  by_cases hz : z < 0
  · rw [decide_eq_true hz, sg_true]; omega
  · rw [decide_eq_false hz, sg_false]; omega
theorem dash_cat (l : List UInt8) : (⟨#[45]⟩ : ByteArray) ++ ⟨l.toArray⟩ = ⟨(45 :: l).toArray⟩ := by
  apply ByteArray.ext
  apply Array.ext'
  simp
theorem byte_cat (y : UInt8) (l : List UInt8) : (⟨#[y]⟩ : ByteArray) ++ ⟨l.toArray⟩ = ⟨(y :: l).toArray⟩ := by
  apply ByteArray.ext
  apply Array.ext'
  simp
end Go.Proofs.Ytijmjkkjopplbaa

