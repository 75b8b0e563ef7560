/- A part of the proof of the laws of rationals: Pure, Knuth, Text. -/
namespace Go.Proofs.Ytijmjkkjopplbaa

/-- The number that limbs denote, the least significant one first. -/
def nv : List Int → Int
  | [] => 0
  | x :: xs => x + 4294967296 * nv xs
/-- Limb i, and 0 behind the last one. -/
def lm (xs : List Int) (i : Nat) : Int := xs.getD i 0
/-- All are limbs of 32 bits. -/
def Lb (xs : List Int) : Prop := ∀ x, x ∈ xs → 0 ≤ x ∧ x < 4294967296
/-- The power of the base. -/
def bp : Nat → Int
  | 0 => 1
  | n + 1 => 4294967296 * bp n
/-- No zero at the end. -/
def Cn (xs : List Int) : Prop := 0 < xs.length → lm xs (xs.length - 1) ≠ 0

theorem bp_zero : bp 0 = 1 := rfl
theorem bp_one : bp 1 = 4294967296 := rfl
theorem bp_succ (n : Nat) : bp (n + 1) = 4294967296 * bp n := rfl
theorem bp_pos (n : Nat) : 0 < bp n := by
  induction n with
  | zero => decide
  | succ n ih => rw [bp_succ]; omega
theorem bp_add (m n : Nat) : bp (m + n) = bp m * bp n := by
  induction m with
  | zero => simp [bp_zero]
  | succ m ih => rw [Nat.succ_add, bp_succ, bp_succ, ih, Int.mul_assoc]
theorem bp_mono {m n : Nat} (h : m ≤ n) : bp m ≤ bp n := by
  obtain ⟨k, rfl⟩ := Nat.exists_eq_add_of_le h
  rw [bp_add]
  have h1 := bp_pos m
  have h2 := bp_pos k
  have h3 := Int.mul_le_mul_of_nonneg_left (show (1 : Int) ≤ bp k by omega) (Int.le_of_lt h1)
  omega

theorem nv_nil : nv [] = 0 := rfl
theorem nv_cons (x : Int) (xs : List Int) : nv (x :: xs) = x + 4294967296 * nv xs := rfl
theorem Lb.nil : Lb [] := fun _ h => by cases h
theorem Lb.tail {x : Int} {xs : List Int} (h : Lb (x :: xs)) : Lb xs := fun y hy => h y (List.mem_cons_of_mem _ hy)
theorem Lb.head {x : Int} {xs : List Int} (h : Lb (x :: xs)) : 0 ≤ x ∧ x < 4294967296 := h x (List.mem_cons_self ..)
theorem Lb.cons {x : Int} {xs : List Int} (h0 : 0 ≤ x) (h1 : x < 4294967296) (h : Lb xs) : Lb (x :: xs) := fun y hy => by
  rcases List.mem_cons.1 hy with rfl | hy
  · exact ⟨h0, h1⟩
  · exact h y hy
theorem Lb.append {xs ys : List Int} (h : Lb xs) (k : Lb ys) : Lb (xs ++ ys) := fun y hy => by
  rcases List.mem_append.1 hy with hy | hy
  · exact h y hy
  · exact k y hy
theorem Lb.take {xs : List Int} (h : Lb xs) (n : Nat) : Lb (xs.take n) := fun y hy => h y (List.mem_of_mem_take hy)
theorem Lb.drop {xs : List Int} (h : Lb xs) (n : Nat) : Lb (xs.drop n) := fun y hy => h y (List.mem_of_mem_drop hy)
theorem Lb.lm {xs : List Int} (h : Lb xs) (i : Nat) : 0 ≤ lm xs i ∧ lm xs i < 4294967296 := by
  unfold Proofs.Ytijmjkkjopplbaa.lm
  rw [List.getD_eq_getElem?_getD]
  by_cases hi : i < xs.length
  · rw [List.getElem?_eq_getElem hi]; exact h _ (List.getElem_mem hi)
  · rw [List.getElem?_eq_none (by omega)]; decide
theorem Lb.replicate (n : Nat) : Lb (List.replicate n 0) := fun y hy => by
  have := List.eq_of_mem_replicate hy; subst this; decide
theorem Lb.set {xs : List Int} (h : Lb xs) (i : Nat) {y : Int} (h0 : 0 ≤ y) (h1 : y < 4294967296) : Lb (xs.set i y) := fun z hz => by
  rcases List.mem_or_eq_of_mem_set hz with hz | rfl
  · exact h z hz
  · exact ⟨h0, h1⟩

theorem lm_cons_zero (x : Int) (xs : List Int) : lm (x :: xs) 0 = x := rfl
theorem lm_cons_succ (x : Int) (xs : List Int) (i : Nat) : lm (x :: xs) (i + 1) = lm xs i := by simp [lm]
theorem lm_out {xs : List Int} {i : Nat} (h : xs.length ≤ i) : lm xs i = 0 := by
  unfold lm; rw [List.getD_eq_getElem?_getD, List.getElem?_eq_none h]; rfl
theorem lm_getElem {xs : List Int} {i : Nat} (h : i < xs.length) : lm xs i = xs[i] := by
  unfold lm; rw [List.getD_eq_getElem?_getD, List.getElem?_eq_getElem h]; rfl
theorem lm_set_same {xs : List Int} {i : Nat} (y : Int) (h : i < xs.length) : lm (xs.set i y) i = y := by
  unfold lm; rw [List.getD_eq_getElem?_getD, List.getElem?_set_self h]; rfl
theorem lm_set_other {xs : List Int} {i j : Nat} (y : Int) (h : i ≠ j) : lm (xs.set i y) j = lm xs j := by
  unfold lm; rw [List.getD_eq_getElem?_getD, List.getElem?_set_ne h, List.getD_eq_getElem?_getD]
theorem lm_replicate (n i : Nat) : lm (List.replicate n 0) i = 0 := by
  unfold lm; rw [List.getD_eq_getElem?_getD, List.getElem?_replicate]; split <;> rfl
theorem lm_take {xs : List Int} {i n : Nat} (h : i < n) : lm (xs.take n) i = lm xs i := by
  unfold lm; rw [List.getD_eq_getElem?_getD, List.getD_eq_getElem?_getD, List.getElem?_take_of_lt h]
theorem lm_drop (xs : List Int) (i n : Nat) : lm (xs.drop n) i = lm xs (n + i) := by
  unfold lm; rw [List.getD_eq_getElem?_getD, List.getD_eq_getElem?_getD, List.getElem?_drop]
theorem ext_lm {xs ys : List Int} (hl : xs.length = ys.length) (h : ∀ i, i < xs.length → lm xs i = lm ys i) : xs = ys := by
  refine List.ext_getElem hl fun i h1 h2 => ?_
  have := h i h1
  rwa [lm_getElem h1, lm_getElem h2] at this

theorem nv_nonneg {xs : List Int} (h : Lb xs) : 0 ≤ nv xs := by
  induction xs with
  | nil => decide
  | cons x xs ih => rw [nv_cons]; have := ih h.tail; have := h.head; omega
theorem nv_lt {xs : List Int} (h : Lb xs) : nv xs < bp xs.length := by
  induction xs with
  | nil => decide
  | cons x xs ih => rw [nv_cons, List.length_cons, bp_succ]; have := ih h.tail; have := h.head; omega
theorem nv_append (xs ys : List Int) : nv (xs ++ ys) = nv xs + bp xs.length * nv ys := by
  induction xs with
  | nil => simp [nv_nil, bp_zero]
  | cons x xs ih => rw [List.cons_append, nv_cons, nv_cons, ih, List.length_cons, bp_succ]; grind
theorem nv_take_succ (xs : List Int) (n : Nat) : nv (xs.take (n + 1)) = nv (xs.take n) + bp n * lm xs n := by
  induction xs generalizing n with
  | nil => simp [nv_nil, lm]
  | cons x xs ih =>
    cases n with
    | zero => simp [nv_cons, nv_nil, bp_zero, lm]
    | succ n => rw [List.take_succ_cons, List.take_succ_cons, nv_cons, nv_cons, ih, lm_cons_succ, bp_succ]; grind
theorem nv_take_all {xs : List Int} {n : Nat} (h : xs.length ≤ n) : nv (xs.take n) = nv xs := by rw [List.take_of_length_le h]
theorem nv_split (xs : List Int) (n : Nat) (h : n ≤ xs.length) : nv xs = nv (xs.take n) + bp n * nv (xs.drop n) := by
  have e := nv_append (xs.take n) (xs.drop n)
  rw [List.take_append_drop, List.length_take, Nat.min_eq_left h] at e
  exact e
theorem nv_set (xs : List Int) (i : Nat) (y : Int) (h : i < xs.length) : nv (xs.set i y) = nv xs + bp i * (y - lm xs i) := by
  induction xs generalizing i with
  | nil => simp at h
  | cons x xs ih =>
    cases i with
    | zero => rw [List.set_cons_zero, nv_cons, nv_cons, lm_cons_zero, bp_zero]; omega
    | succ i => rw [List.set_cons_succ, nv_cons, nv_cons, lm_cons_succ, bp_succ, ih i (by simpa using h)]; grind
theorem nv_replicate (n : Nat) : nv (List.replicate n 0) = 0 := by
  induction n with
  | zero => rfl
  | succ n ih => rw [List.replicate_succ, nv_cons, ih]; rfl

theorem Cn.nil : Cn [] := fun h => absurd h (by simp)
/-- What limbs without a zero at the end denote is at least the power of the base below their number. -/
theorem Cn.le {xs : List Int} (h : Lb xs) (hc : Cn xs) (hl : 0 < xs.length) : bp (xs.length - 1) ≤ nv xs := by
  have h0 := hc hl
  have hb := h.lm (xs.length - 1)
  have e := nv_take_succ xs (xs.length - 1)
  rw [show xs.length - 1 + 1 = xs.length from by omega, List.take_of_length_le (Nat.le_refl _)] at e
  have hn := nv_nonneg (h.take (xs.length - 1))
  have hp := bp_pos (xs.length - 1)
  have h3 := Int.mul_le_mul_of_nonneg_left (show (1 : Int) ≤ lm xs (xs.length - 1) by omega) (Int.le_of_lt hp)
  omega
theorem Cn.pos {xs : List Int} (h : Lb xs) (hc : Cn xs) (hl : 0 < xs.length) : 0 < nv xs := by
  have := hc.le h hl
  have := bp_pos (xs.length - 1)
  omega
theorem Cn.zero {xs : List Int} (h : Lb xs) (hc : Cn xs) (hz : nv xs = 0) : xs = [] := by
  rcases Nat.eq_zero_or_pos xs.length with hl | hl
  · exact List.eq_nil_of_length_eq_zero hl
  · have := hc.pos h hl; omega
/-- Fewer limbs denote less. -/
theorem Cn.lt_of_length {xs ys : List Int} (hx : Lb xs) (hy : Lb ys) (hc : Cn ys) (hl : xs.length < ys.length) : nv xs < nv ys := by
  have h1 := nv_lt hx
  have h2 := hc.le hy (by omega)
  have h3 := bp_mono (show xs.length ≤ ys.length - 1 by omega)
  omega
theorem Cn.length_le {xs : List Int} (h : Lb xs) (hc : Cn xs) {n : Nat} (hn : nv xs < bp n) : xs.length ≤ n := by
  rcases Nat.lt_or_ge n xs.length with hl | hl
  · have h2 := hc.le h (by omega)
    have h3 := bp_mono (show n ≤ xs.length - 1 by omega)
    omega
  · exact hl

/-- Limbs of the same number, compared from the greatest one on. -/
theorem nv_lt_of_limb {xs ys : List Int} (hx : Lb xs) (hy : Lb ys) (hl : xs.length = ys.length) {i : Nat} (hi : i < xs.length)
    (he : ∀ j, i < j → lm xs j = lm ys j) (hlt : lm xs i < lm ys i) : nv xs < nv ys := by
  have hd : xs.drop (i + 1) = ys.drop (i + 1) := by
    refine ext_lm (by simp; omega) fun j _ => ?_
    rw [lm_drop, lm_drop]; exact he _ (by omega)
  rw [nv_split xs (i + 1) (by omega), nv_split ys (i + 1) (by omega), hd, nv_take_succ, nv_take_succ]
  have h1 := nv_lt (hx.take i)
  have h2 := nv_nonneg (hy.take i)
  rw [List.length_take, Nat.min_eq_left (by omega)] at h1
  have h3 := Int.mul_le_mul_of_nonneg_left (show lm xs i + 1 ≤ lm ys i by omega) (Int.le_of_lt (bp_pos i))
  rw [Int.mul_add] at h3
  omega
theorem nv_eq_of_limbs {xs ys : List Int} (hl : xs.length = ys.length) (he : ∀ j, j < xs.length → lm xs j = lm ys j) : nv xs = nv ys := by rw [ext_lm hl he]
theorem nv_inj {xs ys : List Int} (hx : Lb xs) (hy : Lb ys) (hl : xs.length = ys.length) (h : nv xs = nv ys) : xs = ys := by
  induction xs generalizing ys with
  | nil => cases ys with
    | nil => rfl
    | cons y ys => simp at hl
  | cons x xs ih =>
    cases ys with
    | nil => simp at hl
    | cons y ys =>
      rw [nv_cons, nv_cons] at h
      have h1 := hx.head
      have h2 := hy.head
      have e : x = y := by omega
      subst e
      rw [ih hx.tail hy.tail (by simpa using hl) (by omega)]
/-- Canonical limbs are determined by the number that they denote. -/
theorem Cn.inj {xs ys : List Int} (hx : Lb xs) (hy : Lb ys) (cx : Cn xs) (cy : Cn ys) (h : nv xs = nv ys) : xs = ys := by
  rcases Nat.lt_trichotomy xs.length ys.length with hl | hl | hl
  · have := cy.lt_of_length hx hy hl; omega
  · exact nv_inj hx hy hl h
  · have := cx.lt_of_length hy hx hl; omega

/-- The comparison's answer: -1, 0 or 1. -/
def cm (a b : Int) : Int := if a < b then -1 else if a = b then 0 else 1
theorem cm_lt {a b : Int} (h : a < b) : cm a b = -1 := if_pos h
theorem cm_gt {a b : Int} (h : b < a) : cm a b = 1 := by unfold cm; rw [if_neg (by omega), if_neg (by omega)]
theorem cm_eq {a b : Int} (h : a = b) : cm a b = 0 := by unfold cm; rw [if_neg (by omega), if_pos h]

/-- How many limbs are left when the zeros at the end are gone. -/
def tl : List Int → Nat
  | [] => 0
  | x :: xs => if tl xs = 0 then (if x = 0 then 0 else 1) else tl xs + 1
/-- The limbs without the zeros at the end. -/
def tr (xs : List Int) : List Int := xs.take (tl xs)
theorem tl_le (xs : List Int) : tl xs ≤ xs.length := by
  induction xs with
  | nil => exact Nat.le_refl _
  | cons x xs ih => unfold tl; rw [List.length_cons]; split
                    · split <;> omega
                    · omega
theorem tr_length (xs : List Int) : (tr xs).length = tl xs := by unfold tr; rw [List.length_take]; have := tl_le xs; omega
theorem tl_spec (xs : List Int) (n : Nat) (hn : n ≤ xs.length) (hz : ∀ j, n ≤ j → lm xs j = 0) (h : 0 < n → lm xs (n - 1) ≠ 0) : tl xs = n := by
  induction xs generalizing n with
  | nil => simp at hn; subst hn; rfl
  | cons x xs ih =>
    cases n with
    | zero =>
      have h1 := ih 0 (by omega) (fun j _ => by have := hz (j + 1) (by omega); rwa [lm_cons_succ] at this) (fun h => absurd h (by omega))
      have h0 := hz 0 (by omega)
      rw [lm_cons_zero] at h0
      unfold tl; rw [h1, if_pos rfl, if_pos h0]
    | succ n =>
      have h1 := ih n (by simpa using hn) (fun j hj => by have := hz (j + 1) (by omega); rwa [lm_cons_succ] at this) (fun h2 => by
        have := h (by omega)
        rwa [show n + 1 - 1 = (n - 1) + 1 from by omega, lm_cons_succ] at this)
      unfold tl; rw [h1]
      cases n with
      | zero =>
        have := h (by omega)
        rw [show 0 + 1 - 1 = 0 from rfl, lm_cons_zero] at this
        rw [if_pos rfl, if_neg this]
      | succ n => rw [if_neg (by omega)]
theorem tl_zero {xs : List Int} {j : Nat} (h : tl xs ≤ j) : lm xs j = 0 := by
  induction xs generalizing j with
  | nil => rfl
  | cons x xs ih =>
    unfold tl at h
    cases j with
    | zero =>
      rw [lm_cons_zero]
      by_cases h1 : tl xs = 0
      · rw [if_pos h1] at h
        by_cases h2 : x = 0
        · exact h2
        · rw [if_neg h2] at h; omega
      · rw [if_neg h1] at h; omega
    | succ j =>
      rw [lm_cons_succ]
      refine ih ?_
      by_cases h1 : tl xs = 0
      · omega
      · rw [if_neg h1] at h; omega
theorem tl_last {xs : List Int} (h : 0 < tl xs) : lm xs (tl xs - 1) ≠ 0 := by
  induction xs with
  | nil => simp [tl] at h
  | cons x xs ih =>
    unfold tl at h ⊢
    by_cases h1 : tl xs = 0
    · rw [if_pos h1] at h ⊢
      by_cases h2 : x = 0
      · rw [if_pos h2] at h; omega
      · rw [if_neg h2]; exact h2
    · rw [if_neg h1]
      rw [show tl xs + 1 - 1 = (tl xs - 1) + 1 from by omega, lm_cons_succ]
      exact ih (by omega)
theorem Cn.tr (xs : List Int) : Cn (tr xs) := fun h => by
  rw [tr_length] at h ⊢
  unfold Proofs.Ytijmjkkjopplbaa.tr
  rw [lm_take (by omega)]
  exact tl_last h
theorem Lb.tr {xs : List Int} (h : Lb xs) : Lb (tr xs) := h.take _
theorem nv_tr (xs : List Int) : nv (tr xs) = nv xs := by
  have e := nv_split xs (tl xs) (tl_le xs)
  have hz : nv (xs.drop (tl xs)) = 0 := by
    have : xs.drop (tl xs) = List.replicate (xs.length - tl xs) 0 := by
      refine ext_lm (by simp) fun j _ => ?_
      rw [lm_drop, lm_replicate]; exact tl_zero (by omega)
    rw [this, nv_replicate]
  rw [hz, Int.mul_zero, Int.add_zero] at e
  exact e.symm
theorem nv_take_set_succ {os : List Int} {k : Nat} (h : k < os.length) (y : Int) : nv ((os.set k y).take (k + 1)) = nv (os.take k) + bp k * y := by
  rw [nv_take_succ, lm_set_same _ h, List.take_set_of_le (Nat.le_refl k)]
theorem nv_set_last {os : List Int} {n : Nat} (h : os.length = n + 1) (y : Int) : nv (os.set n y) = nv (os.take n) + bp n * y := by
  rw [← nv_take_set_succ (by omega) y, nv_take_all (by simp; omega)]
/-- One round of an addition. -/
theorem plus_step {a b c x y p s : Int} (h : a + p * c = b) (hs : c + (x + y) = s) : a + p * (s % 4294967296) + 4294967296 * p * (s / 4294967296) = b + p * x + p * y := by
  have e := Int.emod_add_mul_ediv s 4294967296
  generalize s % 4294967296 = r at *
  generalize s / 4294967296 = q at *
  grind

/-- One limb of a difference, computed in words of 64 bits. -/
theorem minus_digit {x y b d : Int} (hx0 : 0 ≤ x) (hx1 : x < 4294967296) (hy0 : 0 ≤ y) (hy1 : y < 4294967296) (hb0 : 0 ≤ b) (hb1 : b ≤ 1)
    (hd : d = ((x - y) % 18446744073709551616 - b) % 18446744073709551616) :
    x - y - b = d % 4294967296 - 4294967296 * (d / 9223372036854775808) ∧ 0 ≤ d / 9223372036854775808 ∧ d / 9223372036854775808 ≤ 1 := by omega
theorem minus_step {a b c x y p r q : Int} (h : a - p * c = b) (hs : x - y - c = r - 4294967296 * q) : a + p * r - 4294967296 * p * q = b + p * x - p * y := by grind

theorem nv_drop_succ {xs : List Int} {t : Nat} (h : t < xs.length) : nv (xs.drop t) = lm xs t + 4294967296 * nv (xs.drop (t + 1)) := by
  rw [List.drop_eq_getElem_cons h, nv_cons, lm_getElem h]
theorem nv_drop_set {os : List Int} {t : Nat} (h : t < os.length) (q : Int) : nv ((os.set t q).drop t) = q + 4294967296 * nv (os.drop (t + 1)) := by
  rw [nv_drop_succ (by simpa using h), lm_set_same _ h, List.drop_set_of_lt (by omega)]
theorem mul_bounds {x y p q : Int} (hx0 : 0 ≤ x) (hx1 : x ≤ p) (hy0 : 0 ≤ y) (hy1 : y ≤ q) : 0 ≤ x * y ∧ x * y ≤ p * q :=
  ⟨Int.mul_nonneg hx0 hy0, Int.mul_le_mul hx1 hy1 hy0 (by omega)⟩
/-- The product of two limbs. -/
theorem limb_mul {x y : Int} (hx : 0 ≤ x ∧ x < 4294967296) (hy : 0 ≤ y ∧ y < 4294967296) : 0 ≤ x * y ∧ x * y ≤ 18446744065119617025 :=
  mul_bounds (p := 4294967295) (q := 4294967295) hx.1 (by omega) hy.1 (by omega)
theorem smul_step {a b c x y p s z : Int} (h : a + p * c = b * y + z) (hs : c + x * y = s) : a + p * (s % 4294967296) + 4294967296 * p * (s / 4294967296) = (b + p * x) * y + z := by
  have e := Int.emod_add_mul_ediv s 4294967296
  generalize s % 4294967296 = r at *
  generalize s / 4294967296 = q at *
  grind
/-- One round of a long division by one limb. -/
theorem sdiv_step {X Q b r x s : Int} (h : X = Q * b + r) (hs : x + r * 4294967296 = s) : x + 4294967296 * X = (s / b + 4294967296 * Q) * b + s % b := by
  have e := Int.emod_add_mul_ediv s b
  generalize s % b = u at *
  generalize s / b = v at *
  grind
theorem sdiv_digit {b r x s : Int} (hb : 0 < b) (hr0 : 0 ≤ r) (hr1 : r < b) (hx : 0 ≤ x ∧ x < 4294967296) (hs : x + r * 4294967296 = s) : 0 ≤ s / b ∧ s / b < 4294967296 := by
  refine ⟨Int.ediv_nonneg (by omega) (by omega), Int.ediv_lt_of_lt_mul hb ?_⟩
  have h1 : (r + 1) * 4294967296 ≤ b * 4294967296 := Int.mul_le_mul_of_nonneg_right (by omega) (by omega)
  have h2 : b * 4294967296 = 4294967296 * b := Int.mul_comm _ _
  omega
theorem div_mod_unique {a b q r : Int} (h : a = q * b + r) (h0 : 0 ≤ r) (h1 : r < b) : q = a / b ∧ r = a % b := by
  have hb : 0 < b := by omega
  have e : a = r + b * q := by rw [h]; grind
  constructor
  · rw [e, Int.add_mul_ediv_left _ _ (by omega), Int.ediv_eq_zero_of_lt h0 h1, Int.zero_add]
  · rw [e, Int.add_mul_emod_self_left, Int.emod_eq_of_lt h0 h1]
/-- One round of a multiplication's inner loop: T the whole row, p the place's power, o what stands there. -/
theorem mul_step {T R c x y o s p : Int} (h : T + p * c = R) (hs : c + (x * y + o) = s) : T + p * (s % 4294967296 - o) + 4294967296 * p * (s / 4294967296) = R + p * (x * y) := by
  have e := Int.emod_add_mul_ediv s 4294967296
  generalize s % 4294967296 = r at *
  generalize s / 4294967296 = q at *
  grind

/-- One round of a shift to the left: p the power, o what stands in the place. -/
theorem shl_step {a b x p o t s : Int} (h : a + t * o = b * p) (hs : x * p = s) : a + t * (o + s % 4294967296) + 4294967296 * t * (s / 4294967296) = (b + t * x) * p := by
  have e := Int.emod_add_mul_ediv s 4294967296
  generalize s % 4294967296 = r at *
  generalize s / 4294967296 = q at *
  grind
theorem two_pow_int (n : Nat) : (2 : Int) ^ n = ((2 ^ n : Nat) : Int) := by rw [Int.natCast_pow]; rfl
/-- A power of 2 below the base divides the base. -/
theorem pow_dvd {n : Nat} (h : n ≤ 32) : ∃ q, 0 < q ∧ (4294967296 : Int) = 2 ^ n * q := by
  refine ⟨2 ^ (32 - n), Int.pow_pos (by decide), ?_⟩
  rw [← Int.pow_add, show n + (32 - n) = 32 from by omega]; rfl
theorem pow_pos2 (n : Nat) : (0 : Int) < 2 ^ n := Int.pow_pos (by decide)
theorem pow_lt32 {n : Nat} (h : n < 32) : (2 : Int) ^ n ≤ 2147483648 := by
  obtain ⟨q, hq, e⟩ := pow_dvd (show n + 1 ≤ 32 by omega)
  have hp := pow_pos2 n
  rw [Int.pow_succ] at e
  have : 2 ^ n * 2 * 1 ≤ 2 ^ n * 2 * q := Int.mul_le_mul_of_nonneg_left (by omega) (by omega)
  omega
/-- The low limb of a multiple of p is a multiple of p. -/
theorem low_multiple {x p q : Int} (hp : 0 < p) (e : 4294967296 = p * q) : ∃ z, x * p % 4294967296 = z * p ∧ 0 ≤ z ∧ z < q := by
  have hq : 0 < q := by
    rcases Int.lt_trichotomy q 0 with h | h | h
    · have := Int.mul_neg_of_pos_of_neg hp h; omega
    · subst h; simp at e
    · exact h
  refine ⟨x % q, ?_, Int.emod_nonneg _ (by omega), Int.emod_lt_of_pos _ hq⟩
  rw [e, Int.mul_comm x p, Int.mul_emod_mul_of_pos _ _ hp, Int.mul_comm]
end Go.Proofs.Ytijmjkkjopplbaa

namespace Go.Proofs.Ytijmjkkjopplbaa

/-- The limbs from off on, m of them. -/
def win (os : List Int) (off m : Nat) : List Int := (os.drop off).take m
theorem win_set {os : List Int} {off m k : Nat} (y : Int) : win (os.set (off + k) y) off m = (win os off m).set k y := by
  unfold win
  rw [List.drop_set, if_neg (by omega), List.take_set, show off + k - off = k from by omega]
theorem Lb.win {os : List Int} (h : Lb os) (off m : Nat) : Lb (win os off m) := (h.drop off).take m

/-- The quotient, by its two bounds. -/
theorem div_of_bounds {U V Q : Int} (h0 : Q * V ≤ U) (h1 : U < (Q + 1) * V) : U / V = Q ∧ U % V = U - Q * V := by
  have e : U = Q * V + (U - Q * V) := by omega
  rw [Int.add_mul, Int.one_mul] at h1
  obtain ⟨a, b⟩ := div_mod_unique e (by omega) (by omega)
  exact ⟨a.symm, b.symm⟩
theorem div_bounds {U V : Int} (hV : 0 < V) : U / V * V ≤ U ∧ U < (U / V + 1) * V := by
  have e := Int.emod_add_mul_ediv U V
  have h0 := Int.emod_nonneg U (show V ≠ 0 by omega)
  have h1 := Int.emod_lt_of_pos U hV
  rw [Int.mul_comm] at e
  rw [Int.add_mul, Int.one_mul]
  omega

/-- What the three greatest limbs of the dividend and the two of the divisor tell of a digit q that is not too great. -/
theorem knuth_test {U V q W T P vl ul : Int} (hP : 0 < P) (hV : V = W * P + vl) (hU : U = T * P + ul) (hvl : 0 ≤ vl) (hul : ul < P) (hq : 0 ≤ q) (h : q * V ≤ U) : q * W ≤ T := by
  have h1 : 0 ≤ q * vl := Int.mul_nonneg hq hvl
  rcases (show T < q * W ∨ q * W ≤ T by omega) with hc | hc
  · have h2 := Int.mul_le_mul_of_nonneg_right (show T + 1 ≤ q * W by omega) (Int.le_of_lt hP)
    rw [Int.add_mul, Int.one_mul] at h2
    rw [hV, Int.mul_add, ← Int.mul_assoc] at h
    omega
  · exact hc
theorem knuth_top {q v1 v0 top u0 : Int} (hv0 : 0 ≤ v0) (hu0 : u0 < 4294967296) (hq : 0 ≤ q) (h : q * (v1 * 4294967296 + v0) ≤ top * 4294967296 + u0) : q * v1 ≤ top := by
  have h1 : 0 ≤ q * v0 := Int.mul_nonneg hq hv0
  rw [Int.mul_add, ← Int.mul_assoc] at h
  omega
/-- A digit that passes the test is at most one too great. -/
theorem knuth_exit {U V q W T P vl ul : Int} (hP : 0 < P) (hV : V = W * P + vl) (hU : U = T * P + ul) (hvl : vl < P) (hul : 0 ≤ ul) (hq : 1 ≤ q) (hqW : q ≤ W + 1) (h : q * W ≤ T) : (q - 1) * V ≤ U := by
  have h1 : (q - 1) * (W * P + vl) ≤ (q - 1) * (W * P + P) := Int.mul_le_mul_of_nonneg_left (by omega) (by omega)
  have h2 : ((q - 1) * (W + 1)) * P ≤ T * P := by
    refine Int.mul_le_mul_of_nonneg_right ?_ (Int.le_of_lt hP)
    have e : (q - 1) * (W + 1) = q * W + q - W - 1 := by grind
    omega
  have e : (q - 1) * (W * P + P) = ((q - 1) * (W + 1)) * P := by grind
  rw [hV, hU]
  omega
/-- The loop's test says that the digit is too great. -/
theorem knuth_down {U V q W T P vl ul v1 v0 top u0 rest : Int} (hP : 0 < P) (hV : V = W * P + vl) (hU : U = T * P + ul) (hvl : 0 ≤ vl) (hul : ul < P) (hVp : 0 < V) (hq : U / V ≤ q) (hq0 : 0 ≤ q)
    (hW : W = v1 * 4294967296 + v0) (hT : T = top * 4294967296 + u0) (hr : rest = top - q * v1) (h : rest * 4294967296 + u0 < q * v0) : U / V ≤ q - 1 := by
  rcases (show U / V < q ∨ q ≤ U / V by omega) with hc | hc
  · omega
  · obtain ⟨b0, b1⟩ := div_bounds (U := U) hVp
    have e : U / V = q := by omega
    rw [e] at b0
    have h1 := knuth_test hP hV hU hvl hul hq0 b0
    rw [hW, hT] at h1
    have e2 : q * (v1 * 4294967296 + v0) = q * v1 * 4294967296 + q * v0 := by grind
    rw [hr, Int.sub_mul] at h
    omega
/-- The loop is left with a digit that passes the test. -/
theorem knuth_left {q W T v1 v0 top u0 rest : Int} (hq0 : 0 ≤ q) (hq1 : q < 4294967296) (hv0 : 0 ≤ v0) (hv1 : v0 < 4294967296) (hu0 : 0 ≤ u0)
    (hW : W = v1 * 4294967296 + v0) (hT : T = top * 4294967296 + u0) (hr : rest = top - q * v1) (h : 4294967296 ≤ rest ∨ q * v0 ≤ rest * 4294967296 + u0) : q * W ≤ T := by
  have e2 : q * (v1 * 4294967296 + v0) = q * v1 * 4294967296 + q * v0 := by grind
  have h3 : q * v0 ≤ 4294967295 * 4294967295 := Int.mul_le_mul (by omega) (by omega) hv0 (by decide)
  rw [hW, hT, e2]
  rcases h with h | h
  · rw [hr] at h
    omega
  · rw [hr, Int.sub_mul] at h
    omega
/-- One place of the subtraction of q times the divisor. -/
theorem ksub_step {a b c d x y q p k s l r t : Int} (h : a = b - q * c + p * (k + d)) (hs : k + q * y = s) (hl : s % 4294967296 = l) (hd : x - l - d = r - 4294967296 * t) :
    a + p * r = (b + p * x) - q * (c + p * y) + 4294967296 * p * (s / 4294967296 + t) := by
  have e := Int.emod_add_mul_ediv s 4294967296
  rw [hl] at e
  generalize s / 4294967296 = z at *
  grind

/-- The divisor by its two greatest limbs, the dividend by its three greatest ones. -/
theorem knuth_parts {os vs : List Int} {off m : Nat} (hlb : Lb os) (hlv : Lb vs) (hoff : off + (m + 3) ≤ os.length) (hvl : m + 2 ≤ vs.length) : ∃ vl ul, nv (vs.take (m + 2)) = (lm vs (m + 1) * 4294967296 + lm vs m) * bp m + vl ∧ 0 ≤ vl ∧ vl < bp m ∧
    nv (win os off (m + 3)) = ((lm os (off + (m + 1)) + lm os (off + (m + 2)) * 4294967296) * 4294967296 + lm os (off + m)) * bp m + ul ∧ 0 ≤ ul ∧ ul < bp m := by
  refine ⟨nv (vs.take m), nv ((os.drop off).take m), ?_, nv_nonneg (hlv.take m), ?_, ?_, nv_nonneg ((hlb.drop off).take m), ?_⟩
  · rw [nv_take_succ, nv_take_succ, bp_succ]; grind
  · have := nv_lt (hlv.take m)
    rwa [List.length_take, Nat.min_eq_left (by omega)] at this
  · unfold win
    rw [nv_take_succ, nv_take_succ, nv_take_succ, lm_drop, lm_drop, lm_drop]; simp only [bp_succ]; grind
  · have := nv_lt ((hlb.drop off).take m)
    rwa [List.length_take, List.length_drop, Nat.min_eq_left (by omega)] at this
/-- The first estimate is not too small, and its rest is small. -/
theorem knuth_start {U V W T P vl ul v1 v0 top u0 u2 u1 q0 : Int} (hP : 0 < P) (hV : V = W * P + vl) (hU : U = T * P + ul) (hvl : 0 ≤ vl ∧ vl < P) (hul : 0 ≤ ul ∧ ul < P) (hW : W = v1 * 4294967296 + v0) (hT : T = top * 4294967296 + u0)
    (htop : top = u1 + u2 * 4294967296) (hv1 : 2147483648 ≤ v1 ∧ v1 < 4294967296) (hv0 : 0 ≤ v0 ∧ v0 < 4294967296) (hu0 : 0 ≤ u0 ∧ u0 < 4294967296) (hu1 : 0 ≤ u1 ∧ u1 < 4294967296) (hu2 : 0 ≤ u2)
    (hlt : U < V * 4294967296) (hq : q0 = min (top / v1) 4294967295) : 0 < V ∧ U / V ≤ q0 ∧ top - q0 * v1 < 8589934592 := by
  have hW1 : 1 ≤ W := by omega
  have hWP := Int.mul_le_mul_of_nonneg_right hW1 (Int.le_of_lt hP)
  have hVp : 0 < V := by omega
  obtain ⟨b0, b1⟩ := div_bounds (U := U) hVp
  have hT0 : 0 ≤ T := by omega
  have hTP : 0 ≤ T * P := Int.mul_nonneg hT0 (Int.le_of_lt hP)
  have hQ0 : 0 ≤ U / V := Int.ediv_nonneg (by omega) (by omega)
  have h1 := knuth_test hP hV hU hvl.1 hul.2 hQ0 b0
  rw [hW, hT] at h1
  have h2 := knuth_top hv0.1 hu0.2 hQ0 h1
  have h3 : U / V ≤ top / v1 := Int.le_ediv_of_mul_le (by omega) h2
  have h4 : U / V < 4294967296 := Int.ediv_lt_of_lt_mul hVp (by rw [Int.mul_comm]; exact hlt)
  refine ⟨hVp, by omega, ?_⟩
  -- the greatest limb of the dividend is at most that of the divisor
  have h5 : u2 ≤ v1 := by
    rcases (show u2 ≤ v1 ∨ v1 + 1 ≤ u2 by omega) with h | h
    · exact h
    · have e1 : (v1 + 1) * 4294967296 * 4294967296 ≤ T := by omega
      have e2 := Int.mul_le_mul_of_nonneg_right e1 (Int.le_of_lt hP)
      have e3 : V * 4294967296 < (v1 + 1) * 4294967296 * 4294967296 * P := by
        have e4 : W + 1 ≤ (v1 + 1) * 4294967296 := by omega
        have e5 := Int.mul_le_mul_of_nonneg_right e4 (Int.le_of_lt hP)
        rw [Int.add_mul, Int.one_mul] at e5
        have e6 : (v1 + 1) * 4294967296 * 4294967296 * P = ((v1 + 1) * 4294967296 * P) * 4294967296 := by grind
        omega
      omega
  have hm := Int.emod_add_mul_ediv top v1
  have hm1 := Int.emod_lt_of_pos top (show 0 < v1 by omega)
  rcases (show q0 = top / v1 ∨ q0 = 4294967295 by omega) with h | h
  · rw [h, Int.mul_comm]; omega
  · rw [h]; omega

theorem nv_win_zero (os : List Int) (off : Nat) : nv (win os off 0) = 0 := by unfold win; simp [nv_nil]
theorem nv_win_succ (os : List Int) (off k : Nat) : nv (win os off (k + 1)) = nv (win os off k) + bp k * lm os (off + k) := by unfold win; rw [nv_take_succ, lm_drop]
theorem win_set_low {os : List Int} {off k : Nat} (y : Int) : win (os.set (off + k) y) off k = win os off k := by
  rw [win_set]; exact List.set_eq_of_length_le (by unfold win; rw [List.length_take]; omega)
theorem nv_win_set {os : List Int} {off k : Nat} (h : off + k < os.length) (y : Int) : nv (win (os.set (off + k) y) off (k + 1)) = nv (win os off k) + bp k * y := by
  rw [nv_win_succ, lm_set_same _ h, win_set_low]
theorem nv_win_lt {os : List Int} (h : Lb os) (off k : Nat) : 0 ≤ nv (win os off k) ∧ nv (win os off k) < bp k := by
  refine ⟨nv_nonneg (h.win _ _), ?_⟩
  have h1 := nv_lt (h.win off k)
  have h2 : (win os off k).length ≤ k := by unfold win; rw [List.length_take]; omega
  have := bp_mono h2
  omega
/-- The digit that the test leaves is at most one too great. -/
theorem knuth_over {U V q W T P vl ul v1 v0 : Int} (hP : 0 < P) (hV : V = W * P + vl) (hU : U = T * P + ul) (hvl : vl < P) (hul : 0 ≤ ul) (hVp : 0 < V) (hq0 : 0 ≤ q) (hq1 : q ≤ 4294967295)
    (hv1 : 2147483648 ≤ v1) (hv0 : 0 ≤ v0) (hW : W = v1 * 4294967296 + v0) (h : q * W ≤ T) : (q - 1) * V ≤ U := by
  rcases (show q = 0 ∨ 1 ≤ q by omega) with e | e
  · subst e
    have hT : 0 ≤ T := by omega
    have := Int.mul_nonneg hT (Int.le_of_lt hP)
    omega
  · exact knuth_exit hP hV hU hvl hul e (by omega) h

/-- Limbs of a number below the power of n places: what stands behind n places is 0. -/
theorem nv_take_of_lt {xs : List Int} (h : Lb xs) {n : Nat} (hn : nv xs < bp n) : nv (xs.take n) = nv xs := by
  rcases Nat.lt_or_ge n xs.length with hl | hl
  · have e := nv_split xs n (Nat.le_of_lt hl)
    have h1 := nv_nonneg (h.take n)
    have h2 := nv_nonneg (h.drop n)
    have h3 := bp_pos n
    rcases (show nv (xs.drop n) = 0 ∨ 1 ≤ nv (xs.drop n) by omega) with h0 | h0
    · rw [e, h0]; omega
    · have := Int.mul_le_mul_of_nonneg_left h0 (Int.le_of_lt h3)
      omega
  · rw [List.take_of_length_le hl]
/-- The divisor, shifted so that its highest bit is set. -/
theorem norm_divisor {ys vs : List Int} {m s : Nat} (hb : Lb ys) (hl : ys.length = m + 2) (hvb : Lb vs) (hvl : vs.length = m + 2 + 1) (hv : nv vs = nv ys * 2 ^ s)
    (h1 : 2147483648 ≤ lm ys (m + 1) * 2 ^ s) (h2 : lm ys (m + 1) * 2 ^ s < 4294967296) (hs : s < 32) :
    nv (vs.take (m + 2)) = nv vs ∧ 2147483648 ≤ lm vs (m + 1) ∧ bp (m + 1) * 2 ^ s ≤ nv vs ∧ nv vs < bp (m + 2) := by
  have hp := pow_pos2 s
  obtain ⟨q, hq0, hq⟩ := pow_dvd (show s ≤ 32 by omega)
  generalize (2 : Int) ^ s = p at *
  have ey := nv_take_succ ys (m + 1)
  rw [show m + 1 + 1 = m + 2 from rfl, List.take_of_length_le (by omega)] at ey
  have hy0 := nv_nonneg (hb.take (m + 1))
  have hy1 := nv_lt (hb.take (m + 1))
  rw [List.length_take, Nat.min_eq_left (by omega)] at hy1
  have hbp := bp_pos (m + 1)
  have htop : lm ys (m + 1) + 1 ≤ q := by
    rcases (show lm ys (m + 1) + 1 ≤ q ∨ q ≤ lm ys (m + 1) by omega) with h | h
    · exact h
    · have := Int.mul_le_mul_of_nonneg_right h (Int.le_of_lt hp)
      rw [Int.mul_comm q p, ← hq] at this
      omega
  have hytop : 1 ≤ lm ys (m + 1) := by
    rcases (show lm ys (m + 1) ≤ 0 ∨ 1 ≤ lm ys (m + 1) by omega) with h | h
    · have := Int.mul_nonpos_of_nonpos_of_nonneg h (Int.le_of_lt hp); omega
    · exact h
  have e1 : nv ys * p = nv (ys.take (m + 1)) * p + bp (m + 1) * (lm ys (m + 1) * p) := by rw [ey]; grind
  have e2 : nv (ys.take (m + 1)) * p < bp (m + 1) * p := Int.mul_lt_mul_of_pos_right hy1 hp
  have e3 : 0 ≤ nv (ys.take (m + 1)) * p := Int.mul_nonneg hy0 (Int.le_of_lt hp)
  have e4 : bp (m + 1) * p + bp (m + 1) * (lm ys (m + 1) * p) ≤ bp (m + 2) := by
    have : (lm ys (m + 1) + 1) * p ≤ q * p := Int.mul_le_mul_of_nonneg_right htop (Int.le_of_lt hp)
    have h5 := Int.mul_le_mul_of_nonneg_left this (Int.le_of_lt hbp)
    rw [Int.mul_comm q p, ← hq, Int.add_mul, Int.one_mul, Int.mul_add] at h5
    have e8 : bp (m + 2) = 4294967296 * bp (m + 1) := bp_succ (m + 1)
    rw [Int.mul_comm (bp (m + 1)) 4294967296] at h5
    omega
  have hlt : nv vs < bp (m + 2) := by omega
  have e5 := Int.mul_le_mul_of_nonneg_left h1 (Int.le_of_lt hbp)
  have e6 : bp (m + 1) * p ≤ nv vs := by
    have : 1 * p ≤ lm ys (m + 1) * p := Int.mul_le_mul_of_nonneg_right hytop (Int.le_of_lt hp)
    have h7 := Int.mul_le_mul_of_nonneg_left this (Int.le_of_lt hbp)
    rw [Int.one_mul] at h7
    omega
  refine ⟨nv_take_of_lt hvb hlt, ?_, e6, hlt⟩
  have ev := nv_take_succ vs (m + 1)
  rw [show m + 1 + 1 = m + 2 from rfl, nv_take_of_lt hvb hlt] at ev
  have hv1 := nv_lt (hvb.take (m + 1))
  rw [List.length_take, Nat.min_eq_left (by omega)] at hv1
  rcases (show 2147483648 ≤ lm vs (m + 1) ∨ lm vs (m + 1) + 1 ≤ 2147483648 by omega) with h | h
  · exact h
  · have := Int.mul_le_mul_of_nonneg_left h (Int.le_of_lt hbp)
    rw [Int.mul_add, Int.mul_one] at this
    omega
/-- The dividend, shifted by the same: its head is less than the divisor. -/
theorem norm_dividend {xs us : List Int} {m t : Nat} {p V : Int} (hb : Lb xs) (hl : xs.length = t + (m + 2)) (hub : Lb us) (hul : us.length = t + (m + 2) + 1) (hu : nv us = nv xs * p) (hp : 0 < p) (hV : bp (m + 1) * p ≤ V) : nv (us.drop (t + 1)) < V := by
  have e := nv_split us (t + 1) (by omega)
  have h1 := nv_nonneg (hub.take (t + 1))
  have h2 := nv_lt hb
  have h3 := Int.mul_lt_mul_of_pos_right h2 hp
  rw [hl, show t + (m + 2) = (t + 1) + (m + 1) from by omega, bp_add, Int.mul_assoc] at h3
  have hbp := bp_pos (t + 1)
  rcases (show nv (us.drop (t + 1)) < bp (m + 1) * p ∨ bp (m + 1) * p ≤ nv (us.drop (t + 1)) by omega) with h | h
  · omega
  · have := Int.mul_le_mul_of_nonneg_left h (Int.le_of_lt hbp)
    omega

/-- A row by a window: what stands ahead of it, the window, what stands behind. -/
theorem nv_window (os : List Int) (i n : Nat) (h : i + n ≤ os.length) : nv os = nv (os.take i) + bp i * (nv (win os i n) + bp n * nv (os.drop (i + n))) := by
  have e1 := nv_split os i (by omega)
  have e2 := nv_split (os.drop i) n (by rw [List.length_drop]; omega)
  rw [List.drop_drop] at e2
  rw [e1, e2]; rfl
theorem long_before {os : List Int} {i m : Nat} {V : Int} (hb : Lb os) (hl : i + (m + 3) ≤ os.length) (hV : V ≤ bp (m + 2)) (hhead : nv (os.drop (i + 1)) < V) :
    nv (win os i (m + 3)) < V * 4294967296 ∧ nv (os.drop (i + (m + 3))) = 0 := by
  have h1 := nv_take_of_lt (hb.drop (i + 1)) (show nv (os.drop (i + 1)) < bp (m + 2) by omega)
  have e1 : nv (win os i (m + 3)) = lm os i + 4294967296 * nv ((os.drop (i + 1)).take (m + 2)) := by
    unfold win
    rw [List.drop_eq_getElem_cons (show i < os.length by omega), List.take_succ_cons, nv_cons, lm_getElem (show i < os.length by omega)]
  have h2 := hb.lm i
  refine ⟨by rw [e1, h1]; omega, ?_⟩
  have e2 := nv_split (os.drop (i + 1)) (m + 2) (by rw [List.length_drop]; omega)
  rw [List.drop_drop, show i + 1 + (m + 2) = i + (m + 3) from by omega, h1] at e2
  have h3 := bp_pos (m + 2)
  have h4 := nv_nonneg (hb.drop (i + (m + 3)))
  rcases (show nv (os.drop (i + (m + 3))) = 0 ∨ 1 ≤ nv (os.drop (i + (m + 3))) by omega) with h | h
  · exact h
  · have := Int.mul_le_mul_of_nonneg_left h (Int.le_of_lt h3)
    omega
theorem long_after {os os' qs : List Int} {i m : Nat} {V U0 : Int} (hVp : 0 < V) (hl : i + (m + 3) ≤ os.length) (hl' : os'.length = os.length) (hz : nv (os.drop (i + (m + 3))) = 0)
    (hsame : ∀ j, j < i ∨ i + (m + 3) ≤ j → lm os' j = lm os j) (hwin : nv (win os' i (m + 3)) = nv (win os i (m + 3)) % V) (hq : i < qs.length)
    (hval : nv os + V * (bp (i + 1) * nv (qs.drop (i + 1))) = U0) :
    nv os' + V * (bp i * nv ((qs.set i (nv (win os i (m + 3)) / V)).drop i)) = U0 ∧ nv (os'.drop i) < V := by
  have e0 : os'.take i = os.take i := ext_lm (by simp; omega) fun j hj => by
    rw [List.length_take] at hj
    rw [lm_take (by omega), lm_take (by omega)]; exact hsame j (by omega)
  have e1 : os'.drop (i + (m + 3)) = os.drop (i + (m + 3)) := ext_lm (by simp; omega) fun j _ => by
    rw [lm_drop, lm_drop]; exact hsame _ (by omega)
  have w0 := nv_window os i (m + 3) hl
  have w1 := nv_window os' i (m + 3) (by omega)
  rw [hz, Int.mul_zero, Int.add_zero] at w0
  rw [e0, e1, hz, Int.mul_zero, Int.add_zero, hwin] at w1
  have em := Int.emod_add_mul_ediv (nv (win os i (m + 3))) V
  have hm1 := Int.emod_lt_of_pos (nv (win os i (m + 3))) hVp
  constructor
  · rw [nv_drop_set hq, ← hval, w0, w1, bp_succ]
    generalize nv (win os i (m + 3)) % V = r at *
    generalize nv (win os i (m + 3)) / V = q at *
    grind
  · have e2 := nv_split (os'.drop i) (m + 3) (by rw [List.length_drop]; omega)
    rw [List.drop_drop, e1, hz, Int.mul_zero, Int.add_zero] at e2
    rw [e2]
    show nv (win os' i (m + 3)) < V
    rw [hwin]; exact hm1
/-- The division of the multiples. -/
theorem div_scaled {a b p q r : Int} (hp : 0 < p) (hr0 : 0 ≤ r) (hr : r < b * p) (h : r + b * p * q = a * p) : q = a / b ∧ r = a % b * p := by
  have h1 : r = p * (a - b * q) := by grind
  have h2 : 0 ≤ a - b * q := by
    rcases (show 0 ≤ a - b * q ∨ a - b * q ≤ -1 by omega) with h | h
    · exact h
    · have := Int.mul_le_mul_of_nonneg_left h (Int.le_of_lt hp); omega
  have h3 : a - b * q < b := by
    rcases (show a - b * q < b ∨ b ≤ a - b * q by omega) with h | h
    · exact h
    · have := Int.mul_le_mul_of_nonneg_left h (Int.le_of_lt hp)
      rw [Int.mul_comm p b] at this
      omega
  obtain ⟨e1, e2⟩ := div_mod_unique (show a = q * b + (a - b * q) by grind) h2 h3
  exact ⟨e1, by rw [h1, e2, Int.mul_comm]⟩
end Go.Proofs.Ytijmjkkjopplbaa

namespace Go.Proofs.Ytijmjkkjopplbaa
set_option linter.unusedVariables false
set_option maxRecDepth 100000

def dg (d : Nat) : UInt8 := UInt8.ofNat (48 + d)
theorem dg_toNat {d : Nat} (h : d < 10) : (dg d).toNat = 48 + d := by
  unfold dg; rw [UInt8.toNat_ofNat']; omega
/-- The decimal digits, the last one first. -/
def digs (n : Nat) : List UInt8 := if h : n = 0 then [] else dg (n % 10) :: digs (n / 10)
termination_by n
decreasing_by omega
theorem digs_zero : digs 0 = [] := by rw [digs]; simp
theorem digs_pos {n : Nat} (h : 0 < n) : digs n = dg (n % 10) :: digs (n / 10) := by rw [digs]; simp; omega
theorem digs_len : ∀ (k n : Nat), n < 10 ^ k → (digs n).length ≤ k := by
  intro k
  induction k with
  | zero => intro n h; rw [show n = 0 by simpa using h, digs_zero]; simp
  | succ k ih =>
    intro n h
    rcases Nat.eq_zero_or_pos n with h0 | h0
    · rw [h0, digs_zero]; simp
    · rw [digs_pos h0, List.length_cons]
      have := ih (n / 10) (by rw [Nat.pow_succ] at h; omega)
      omega
theorem digs_ne {n : Nat} (h : 0 < n) : digs n ≠ [] := by rw [digs_pos h]; simp
/-- The text of a number. -/
def text (z : Int) : List UInt8 := if z = 0 then [48] else (if z < 0 then [45] else []) ++ (digs z.natAbs).reverse
theorem bp_ten (n : Nat) : bp n ≤ 10 ^ (10 * n) := by
  induction n with
  | zero => simp [bp_zero]
  | succ n ih =>
    rw [bp_succ, show 10 * (n + 1) = 10 * n + 10 by omega, Int.pow_add]
    have h : (0 : Int) < 10 ^ (10 * n) := Int.pow_pos (by decide)
    have e : (10 : Int) ^ 10 = 10000000000 := by decide
    rw [e]
    omega
theorem digs_len_bp {z : Int} {n : Nat} (h0 : 0 ≤ z) (h : z < bp n) : (digs z.toNat).length ≤ 10 * n := by
  refine digs_len _ _ ?_
  have h1 := bp_ten n
  have e : ((10 : Int) ^ (10 * n)) = ((10 ^ (10 * n) : Nat) : Int) := by rw [Int.natCast_pow]; rfl
  rw [e] at h1
  omega
/-- One digit of a number is written. -/
theorem digs_step {Q r P : Nat} (h : 0 < Q * (10 * P) + r) (hr : r < 10 * P) : digs (Q * (10 * P) + r) = dg (r % 10) :: digs (Q * P + r / 10) ∧ r / 10 < P := by
  have e : Q * (10 * P) = 10 * (Q * P) := by rw [Nat.mul_left_comm]
  rw [digs_pos h, e]
  refine ⟨?_, by omega⟩
  rw [show (10 * (Q * P) + r) % 10 = r % 10 by omega, show (10 * (Q * P) + r) / 10 = Q * P + r / 10 by omega]
end Go.Proofs.Ytijmjkkjopplbaa

