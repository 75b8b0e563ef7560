/- Plain facts about limbs: the number that a list of limbs denotes, and when such a list is canonical. No program in sight. -/
namespace Go.Proofs.Ytdbgalohppfkfaa

/-- The number that limbs denote, the least significant one first. -/
def nv : List Int → Int
  | [] => 0
  | x :: xs => x + 4294967296 * nv xs
/-- Limb i, and 0 behind the last one. -/
def lm (xs : List Int) (i : Nat) : Int := xs.getD i 0
/-- All are limbs of 32 bits. -/
def Lb (xs : List Int) : Prop := ∀ x, x ∈ xs → 0 ≤ x ∧ x < 4294967296
/-- The power of the base. -/
def bp : Nat → Int
  | 0 => 1
  | n + 1 => 4294967296 * bp n
/-- No zero at the end. -/
def Cn (xs : List Int) : Prop := 0 < xs.length → lm xs (xs.length - 1) ≠ 0

theorem bp_zero : bp 0 = 1 := rfl
theorem bp_one : bp 1 = 4294967296 := rfl
theorem bp_succ (n : Nat) : bp (n + 1) = 4294967296 * bp n := rfl
theorem bp_pos (n : Nat) : 0 < bp n := by
  induction n with
  | zero => decide
  | succ n ih => rw [bp_succ]; omega
theorem bp_add (m n : Nat) : bp (m + n) = bp m * bp n := by
  induction m with
  | zero => simp [bp_zero]
  | succ m ih => rw [Nat.succ_add, bp_succ, bp_succ, ih, Int.mul_assoc]
theorem bp_mono {m n : Nat} (h : m ≤ n) : bp m ≤ bp n := by
  obtain ⟨k, rfl⟩ := Nat.exists_eq_add_of_le h
  rw [bp_add]
  have h1 := bp_pos m
  have h2 := bp_pos k
  have h3 := Int.mul_le_mul_of_nonneg_left (show (1 : Int) ≤ bp k by omega) (Int.le_of_lt h1)
  omega

theorem nv_nil : nv [] = 0 := rfl
theorem nv_cons (x : Int) (xs : List Int) : nv (x :: xs) = x + 4294967296 * nv xs := rfl
theorem Lb.nil : Lb [] := fun _ h => by cases h
theorem Lb.tail {x : Int} {xs : List Int} (h : Lb (x :: xs)) : Lb xs := fun y hy => h y (List.mem_cons_of_mem _ hy)
theorem Lb.head {x : Int} {xs : List Int} (h : Lb (x :: xs)) : 0 ≤ x ∧ x < 4294967296 := h x (List.mem_cons_self ..)
theorem Lb.cons {x : Int} {xs : List Int} (h0 : 0 ≤ x) (h1 : x < 4294967296) (h : Lb xs) : Lb (x :: xs) := fun y hy => by
  rcases List.mem_cons.1 hy with rfl | hy
  · exact ⟨h0, h1⟩
  · exact h y hy
theorem Lb.append {xs ys : List Int} (h : Lb xs) (k : Lb ys) : Lb (xs ++ ys) := fun y hy => by
  rcases List.mem_append.1 hy with hy | hy
  · exact h y hy
  · exact k y hy
theorem Lb.take {xs : List Int} (h : Lb xs) (n : Nat) : Lb (xs.take n) := fun y hy => h y (List.mem_of_mem_take hy)
theorem Lb.drop {xs : List Int} (h : Lb xs) (n : Nat) : Lb (xs.drop n) := fun y hy => h y (List.mem_of_mem_drop hy)
theorem Lb.lm {xs : List Int} (h : Lb xs) (i : Nat) : 0 ≤ lm xs i ∧ lm xs i < 4294967296 := by
  unfold Proofs.Ytdbgalohppfkfaa.lm
  rw [List.getD_eq_getElem?_getD]
  by_cases hi : i < xs.length
  · rw [List.getElem?_eq_getElem hi]; exact h _ (List.getElem_mem hi)
  · rw [List.getElem?_eq_none (by omega)]; decide
theorem Lb.replicate (n : Nat) : Lb (List.replicate n 0) := fun y hy => by
  have := List.eq_of_mem_replicate hy; subst this; decide
theorem Lb.set {xs : List Int} (h : Lb xs) (i : Nat) {y : Int} (h0 : 0 ≤ y) (h1 : y < 4294967296) : Lb (xs.set i y) := fun z hz => by
  rcases List.mem_or_eq_of_mem_set hz with hz | rfl
  · exact h z hz
  · exact ⟨h0, h1⟩

theorem lm_cons_zero (x : Int) (xs : List Int) : lm (x :: xs) 0 = x := rfl
theorem lm_cons_succ (x : Int) (xs : List Int) (i : Nat) : lm (x :: xs) (i + 1) = lm xs i := by simp [lm]
theorem lm_out {xs : List Int} {i : Nat} (h : xs.length ≤ i) : lm xs i = 0 := by
  unfold lm; rw [List.getD_eq_getElem?_getD, List.getElem?_eq_none h]; rfl
theorem lm_getElem {xs : List Int} {i : Nat} (h : i < xs.length) : lm xs i = xs[i] := by
  unfold lm; rw [List.getD_eq_getElem?_getD, List.getElem?_eq_getElem h]; rfl
theorem lm_set_same {xs : List Int} {i : Nat} (y : Int) (h : i < xs.length) : lm (xs.set i y) i = y := by
  unfold lm; rw [List.getD_eq_getElem?_getD, List.getElem?_set_self h]; rfl
theorem lm_set_other {xs : List Int} {i j : Nat} (y : Int) (h : i ≠ j) : lm (xs.set i y) j = lm xs j := by
  unfold lm; rw [List.getD_eq_getElem?_getD, List.getElem?_set_ne h, List.getD_eq_getElem?_getD]
theorem lm_replicate (n i : Nat) : lm (List.replicate n 0) i = 0 := by
  unfold lm; rw [List.getD_eq_getElem?_getD, List.getElem?_replicate]; split <;> rfl
theorem lm_take {xs : List Int} {i n : Nat} (h : i < n) : lm (xs.take n) i = lm xs i := by
  unfold lm; rw [List.getD_eq_getElem?_getD, List.getD_eq_getElem?_getD, List.getElem?_take_of_lt h]
theorem lm_drop (xs : List Int) (i n : Nat) : lm (xs.drop n) i = lm xs (n + i) := by
  unfold lm; rw [List.getD_eq_getElem?_getD, List.getD_eq_getElem?_getD, List.getElem?_drop]
theorem lm_append_left {xs ys : List Int} {i : Nat} (h : i < xs.length) : lm (xs ++ ys) i = lm xs i := by
  unfold lm; rw [List.getD_eq_getElem?_getD, List.getD_eq_getElem?_getD, List.getElem?_append_left h]
theorem lm_append_right {xs ys : List Int} (i : Nat) : lm (xs ++ ys) (xs.length + i) = lm ys i := by
  unfold lm; rw [List.getD_eq_getElem?_getD, List.getD_eq_getElem?_getD, List.getElem?_append_right (by omega)]; congr 2; omega
theorem ext_lm {xs ys : List Int} (hl : xs.length = ys.length) (h : ∀ i, i < xs.length → lm xs i = lm ys i) : xs = ys := by
  refine List.ext_getElem hl fun i h1 h2 => ?_
  have := h i h1
  rwa [lm_getElem h1, lm_getElem h2] at this

theorem nv_nonneg {xs : List Int} (h : Lb xs) : 0 ≤ nv xs := by
  induction xs with
  | nil => decide
  | cons x xs ih => rw [nv_cons]; have := ih h.tail; have := h.head; omega
theorem nv_lt {xs : List Int} (h : Lb xs) : nv xs < bp xs.length := by
  induction xs with
  | nil => decide
  | cons x xs ih => rw [nv_cons, List.length_cons, bp_succ]; have := ih h.tail; have := h.head; omega
theorem nv_append (xs ys : List Int) : nv (xs ++ ys) = nv xs + bp xs.length * nv ys := by
  induction xs with
  | nil => simp [nv_nil, bp_zero]
  | cons x xs ih => rw [List.cons_append, nv_cons, nv_cons, ih, List.length_cons, bp_succ]; grind
theorem nv_take_succ (xs : List Int) (n : Nat) : nv (xs.take (n + 1)) = nv (xs.take n) + bp n * lm xs n := by
  induction xs generalizing n with
  | nil => simp [nv_nil, lm]
  | cons x xs ih =>
    cases n with
    | zero => simp [nv_cons, nv_nil, bp_zero, lm]
    | succ n => rw [List.take_succ_cons, List.take_succ_cons, nv_cons, nv_cons, ih, lm_cons_succ, bp_succ]; grind
theorem nv_take_all {xs : List Int} {n : Nat} (h : xs.length ≤ n) : nv (xs.take n) = nv xs := by rw [List.take_of_length_le h]
theorem nv_split (xs : List Int) (n : Nat) (h : n ≤ xs.length) : nv xs = nv (xs.take n) + bp n * nv (xs.drop n) := by
  have e := nv_append (xs.take n) (xs.drop n)
  rw [List.take_append_drop, List.length_take, Nat.min_eq_left h] at e
  exact e
theorem nv_set (xs : List Int) (i : Nat) (y : Int) (h : i < xs.length) : nv (xs.set i y) = nv xs + bp i * (y - lm xs i) := by
  induction xs generalizing i with
  | nil => simp at h
  | cons x xs ih =>
    cases i with
    | zero => rw [List.set_cons_zero, nv_cons, nv_cons, lm_cons_zero, bp_zero]; omega
    | succ i => rw [List.set_cons_succ, nv_cons, nv_cons, lm_cons_succ, bp_succ, ih i (by simpa using h)]; grind
theorem nv_replicate (n : Nat) : nv (List.replicate n 0) = 0 := by
  induction n with
  | zero => rfl
  | succ n ih => rw [List.replicate_succ, nv_cons, ih]; rfl

theorem Cn.nil : Cn [] := fun h => absurd h (by simp)
/-- What limbs without a zero at the end denote is at least the power of the base below their number. -/
theorem Cn.le {xs : List Int} (h : Lb xs) (hc : Cn xs) (hl : 0 < xs.length) : bp (xs.length - 1) ≤ nv xs := by
  have h0 := hc hl
  have hb := h.lm (xs.length - 1)
  have e := nv_take_succ xs (xs.length - 1)
  rw [show xs.length - 1 + 1 = xs.length from by omega, List.take_of_length_le (Nat.le_refl _)] at e
  have hn := nv_nonneg (h.take (xs.length - 1))
  have hp := bp_pos (xs.length - 1)
  have h3 := Int.mul_le_mul_of_nonneg_left (show (1 : Int) ≤ lm xs (xs.length - 1) by omega) (Int.le_of_lt hp)
  omega
theorem Cn.pos {xs : List Int} (h : Lb xs) (hc : Cn xs) (hl : 0 < xs.length) : 0 < nv xs := by
  have := hc.le h hl
  have := bp_pos (xs.length - 1)
  omega
theorem Cn.zero {xs : List Int} (h : Lb xs) (hc : Cn xs) (hz : nv xs = 0) : xs = [] := by
  rcases Nat.eq_zero_or_pos xs.length with hl | hl
  · exact List.eq_nil_of_length_eq_zero hl
  · have := hc.pos h hl; omega
/-- Fewer limbs denote less. -/
theorem Cn.lt_of_length {xs ys : List Int} (hx : Lb xs) (hy : Lb ys) (hc : Cn ys) (hl : xs.length < ys.length) : nv xs < nv ys := by
  have h1 := nv_lt hx
  have h2 := hc.le hy (by omega)
  have h3 := bp_mono (show xs.length ≤ ys.length - 1 by omega)
  omega
theorem Cn.length_le {xs : List Int} (h : Lb xs) (hc : Cn xs) {n : Nat} (hn : nv xs < bp n) : xs.length ≤ n := by
  rcases Nat.lt_or_ge n xs.length with hl | hl
  · have h2 := hc.le h (by omega)
    have h3 := bp_mono (show n ≤ xs.length - 1 by omega)
    omega
  · exact hl

/-- Limbs of the same number, compared from the greatest one on. -/
theorem nv_lt_of_limb {xs ys : List Int} (hx : Lb xs) (hy : Lb ys) (hl : xs.length = ys.length) {i : Nat} (hi : i < xs.length)
    (he : ∀ j, i < j → lm xs j = lm ys j) (hlt : lm xs i < lm ys i) : nv xs < nv ys := by
  have hd : xs.drop (i + 1) = ys.drop (i + 1) := by
    refine ext_lm (by simp; omega) fun j _ => ?_
    rw [lm_drop, lm_drop]; exact he _ (by omega)
  rw [nv_split xs (i + 1) (by omega), nv_split ys (i + 1) (by omega), hd, nv_take_succ, nv_take_succ]
  have h1 := nv_lt (hx.take i)
  have h2 := nv_nonneg (hy.take i)
  rw [List.length_take, Nat.min_eq_left (by omega)] at h1
  have h3 := Int.mul_le_mul_of_nonneg_left (show lm xs i + 1 ≤ lm ys i by omega) (Int.le_of_lt (bp_pos i))
  rw [Int.mul_add] at h3
  omega
theorem nv_eq_of_limbs {xs ys : List Int} (hl : xs.length = ys.length) (he : ∀ j, j < xs.length → lm xs j = lm ys j) : nv xs = nv ys := by rw [ext_lm hl he]
theorem nv_inj {xs ys : List Int} (hx : Lb xs) (hy : Lb ys) (hl : xs.length = ys.length) (h : nv xs = nv ys) : xs = ys := by
  induction xs generalizing ys with
  | nil => cases ys with
    | nil => rfl
    | cons y ys => simp at hl
  | cons x xs ih =>
    cases ys with
    | nil => simp at hl
    | cons y ys =>
      rw [nv_cons, nv_cons] at h
      have h1 := hx.head
      have h2 := hy.head
      have e : x = y := by omega
      subst e
      rw [ih hx.tail hy.tail (by simpa using hl) (by omega)]
/-- Canonical limbs are determined by the number that they denote. -/
theorem Cn.inj {xs ys : List Int} (hx : Lb xs) (hy : Lb ys) (cx : Cn xs) (cy : Cn ys) (h : nv xs = nv ys) : xs = ys := by
  rcases Nat.lt_trichotomy xs.length ys.length with hl | hl | hl
  · have := cy.lt_of_length hx hy hl; omega
  · exact nv_inj hx hy hl h
  · have := cx.lt_of_length hy hx hl; omega

/-- The comparison's answer: -1, 0 or 1. -/
def cm (a b : Int) : Int := if a < b then -1 else if a = b then 0 else 1
theorem cm_lt {a b : Int} (h : a < b) : cm a b = -1 := if_pos h
theorem cm_gt {a b : Int} (h : b < a) : cm a b = 1 := by unfold cm; rw [if_neg (by omega), if_neg (by omega)]
theorem cm_eq {a b : Int} (h : a = b) : cm a b = 0 := by unfold cm; rw [if_neg (by omega), if_pos h]

/-- How many limbs are left when the zeros at the end are gone. -/
def tl : List Int → Nat
  | [] => 0
  | x :: xs => if tl xs = 0 then (if x = 0 then 0 else 1) else tl xs + 1
/-- The limbs without the zeros at the end. -/
def tr (xs : List Int) : List Int := xs.take (tl xs)
theorem tl_le (xs : List Int) : tl xs ≤ xs.length := by
  induction xs with
  | nil => exact Nat.le_refl _
  | cons x xs ih => unfold tl; rw [List.length_cons]; split
                    · split <;> omega
                    · omega
theorem tr_length (xs : List Int) : (tr xs).length = tl xs := by unfold tr; rw [List.length_take]; have := tl_le xs; omega
theorem tl_spec (xs : List Int) (n : Nat) (hn : n ≤ xs.length) (hz : ∀ j, n ≤ j → lm xs j = 0) (h : 0 < n → lm xs (n - 1) ≠ 0) : tl xs = n := by
  induction xs generalizing n with
  | nil => simp at hn; subst hn; rfl
  | cons x xs ih =>
    cases n with
    | zero =>
      have h1 := ih 0 (by omega) (fun j _ => by have := hz (j + 1) (by omega); rwa [lm_cons_succ] at this) (fun h => absurd h (by omega))
      have h0 := hz 0 (by omega)
      rw [lm_cons_zero] at h0
      unfold tl; rw [h1, if_pos rfl, if_pos h0]
    | succ n =>
      have h1 := ih n (by simpa using hn) (fun j hj => by have := hz (j + 1) (by omega); rwa [lm_cons_succ] at this) (fun h2 => by
        have := h (by omega)
        rwa [show n + 1 - 1 = (n - 1) + 1 from by omega, lm_cons_succ] at this)
      unfold tl; rw [h1]
      cases n with
      | zero =>
        have := h (by omega)
        rw [show 0 + 1 - 1 = 0 from rfl, lm_cons_zero] at this
        rw [if_pos rfl, if_neg this]
      | succ n => rw [if_neg (by omega)]
theorem tl_zero {xs : List Int} {j : Nat} (h : tl xs ≤ j) : lm xs j = 0 := by
  induction xs generalizing j with
  | nil => rfl
  | cons x xs ih =>
    unfold tl at h
    cases j with
    | zero =>
      rw [lm_cons_zero]
      by_cases h1 : tl xs = 0
      · rw [if_pos h1] at h
        by_cases h2 : x = 0
        · exact h2
        · rw [if_neg h2] at h; omega
      · rw [if_neg h1] at h; omega
    | succ j =>
      rw [lm_cons_succ]
      refine ih ?_
      by_cases h1 : tl xs = 0
      · omega
      · rw [if_neg h1] at h; omega
theorem tl_last {xs : List Int} (h : 0 < tl xs) : lm xs (tl xs - 1) ≠ 0 := by
  induction xs with
  | nil => simp [tl] at h
  | cons x xs ih =>
    unfold tl at h ⊢
    by_cases h1 : tl xs = 0
    · rw [if_pos h1] at h ⊢
      by_cases h2 : x = 0
      · rw [if_pos h2] at h; omega
      · rw [if_neg h2]; exact h2
    · rw [if_neg h1]
      rw [show tl xs + 1 - 1 = (tl xs - 1) + 1 from by omega, lm_cons_succ]
      exact ih (by omega)
theorem Cn.tr (xs : List Int) : Cn (tr xs) := fun h => by
  rw [tr_length] at h ⊢
  unfold Proofs.Ytdbgalohppfkfaa.tr
  rw [lm_take (by omega)]
  exact tl_last h
theorem Lb.tr {xs : List Int} (h : Lb xs) : Lb (tr xs) := h.take _
theorem nv_tr (xs : List Int) : nv (tr xs) = nv xs := by
  have e := nv_split xs (tl xs) (tl_le xs)
  have hz : nv (xs.drop (tl xs)) = 0 := by
    have : xs.drop (tl xs) = List.replicate (xs.length - tl xs) 0 := by
      refine ext_lm (by simp) fun j _ => ?_
      rw [lm_drop, lm_replicate]; exact tl_zero (by omega)
    rw [this, nv_replicate]
  rw [hz, Int.mul_zero, Int.add_zero] at e
  exact e.symm
theorem tr_of_Cn {xs : List Int} (h : Cn xs) : tr xs = xs := by
  have : tl xs = xs.length := tl_spec xs _ (Nat.le_refl _) (fun j hj => lm_out hj) h
  unfold tr; rw [this, List.take_of_length_le (Nat.le_refl _)]
theorem tr_tr (xs : List Int) : tr (tr xs) = tr xs := tr_of_Cn (Cn.tr xs)

theorem nv_take_set_succ {os : List Int} {k : Nat} (h : k < os.length) (y : Int) : nv ((os.set k y).take (k + 1)) = nv (os.take k) + bp k * y := by
  rw [nv_take_succ, lm_set_same _ h, List.take_set_of_le (Nat.le_refl k)]
theorem nv_set_last {os : List Int} {n : Nat} (h : os.length = n + 1) (y : Int) : nv (os.set n y) = nv (os.take n) + bp n * y := by
  rw [← nv_take_set_succ (by omega) y, nv_take_all (by simp; omega)]
/-- One round of an addition. -/
theorem plus_step {a b c x y p s : Int} (h : a + p * c = b) (hs : c + (x + y) = s) : a + p * (s % 4294967296) + 4294967296 * p * (s / 4294967296) = b + p * x + p * y := by
  have e := Int.emod_add_mul_ediv s 4294967296
  generalize s % 4294967296 = r at *
  generalize s / 4294967296 = q at *
  grind

/-- One limb of a difference, computed in words of 64 bits. -/
theorem minus_digit {x y b d : Int} (hx0 : 0 ≤ x) (hx1 : x < 4294967296) (hy0 : 0 ≤ y) (hy1 : y < 4294967296) (hb0 : 0 ≤ b) (hb1 : b ≤ 1)
    (hd : d = ((x - y) % 18446744073709551616 - b) % 18446744073709551616) :
    x - y - b = d % 4294967296 - 4294967296 * (d / 9223372036854775808) ∧ 0 ≤ d / 9223372036854775808 ∧ d / 9223372036854775808 ≤ 1 := by omega
theorem minus_step {a b c x y p r q : Int} (h : a - p * c = b) (hs : x - y - c = r - 4294967296 * q) : a + p * r - 4294967296 * p * q = b + p * x - p * y := by grind

theorem nv_drop_succ {xs : List Int} {t : Nat} (h : t < xs.length) : nv (xs.drop t) = lm xs t + 4294967296 * nv (xs.drop (t + 1)) := by
  rw [List.drop_eq_getElem_cons h, nv_cons, lm_getElem h]
theorem nv_drop_set {os : List Int} {t : Nat} (h : t < os.length) (q : Int) : nv ((os.set t q).drop t) = q + 4294967296 * nv (os.drop (t + 1)) := by
  rw [nv_drop_succ (by simpa using h), lm_set_same _ h, List.drop_set_of_lt (by omega)]
theorem mul_bounds {x y p q : Int} (hx0 : 0 ≤ x) (hx1 : x ≤ p) (hy0 : 0 ≤ y) (hy1 : y ≤ q) : 0 ≤ x * y ∧ x * y ≤ p * q :=
  ⟨Int.mul_nonneg hx0 hy0, Int.mul_le_mul hx1 hy1 hy0 (by omega)⟩
/-- The product of two limbs. -/
theorem limb_mul {x y : Int} (hx : 0 ≤ x ∧ x < 4294967296) (hy : 0 ≤ y ∧ y < 4294967296) : 0 ≤ x * y ∧ x * y ≤ 18446744065119617025 :=
  mul_bounds (p := 4294967295) (q := 4294967295) hx.1 (by omega) hy.1 (by omega)
theorem smul_step {a b c x y p s z : Int} (h : a + p * c = b * y + z) (hs : c + x * y = s) : a + p * (s % 4294967296) + 4294967296 * p * (s / 4294967296) = (b + p * x) * y + z := by
  have e := Int.emod_add_mul_ediv s 4294967296
  generalize s % 4294967296 = r at *
  generalize s / 4294967296 = q at *
  grind
/-- One round of a long division by one limb. -/
theorem sdiv_step {X Q b r x s : Int} (h : X = Q * b + r) (hs : x + r * 4294967296 = s) : x + 4294967296 * X = (s / b + 4294967296 * Q) * b + s % b := by
  have e := Int.emod_add_mul_ediv s b
  generalize s % b = u at *
  generalize s / b = v at *
  grind
theorem sdiv_digit {b r x s : Int} (hb : 0 < b) (hr0 : 0 ≤ r) (hr1 : r < b) (hx : 0 ≤ x ∧ x < 4294967296) (hs : x + r * 4294967296 = s) : 0 ≤ s / b ∧ s / b < 4294967296 := by
  refine ⟨Int.ediv_nonneg (by omega) (by omega), Int.ediv_lt_of_lt_mul hb ?_⟩
  have h1 : (r + 1) * 4294967296 ≤ b * 4294967296 := Int.mul_le_mul_of_nonneg_right (by omega) (by omega)
  have h2 : b * 4294967296 = 4294967296 * b := Int.mul_comm _ _
  omega
theorem div_mod_unique {a b q r : Int} (h : a = q * b + r) (h0 : 0 ≤ r) (h1 : r < b) : q = a / b ∧ r = a % b := by
  have hb : 0 < b := by omega
  have e : a = r + b * q := by rw [h]; grind
  constructor
  · rw [e, Int.add_mul_ediv_left _ _ (by omega), Int.ediv_eq_zero_of_lt h0 h1, Int.zero_add]
  · rw [e, Int.add_mul_emod_self_left, Int.emod_eq_of_lt h0 h1]
/-- One round of a multiplication's inner loop: T the whole row, p the place's power, o what stands there. -/
theorem mul_step {T R c x y o s p : Int} (h : T + p * c = R) (hs : c + (x * y + o) = s) : T + p * (s % 4294967296 - o) + 4294967296 * p * (s / 4294967296) = R + p * (x * y) := by
  have e := Int.emod_add_mul_ediv s 4294967296
  generalize s % 4294967296 = r at *
  generalize s / 4294967296 = q at *
  grind

/-- One round of a shift to the left: p the power, o what stands in the place. -/
theorem shl_step {a b x p o t s : Int} (h : a + t * o = b * p) (hs : x * p = s) : a + t * (o + s % 4294967296) + 4294967296 * t * (s / 4294967296) = (b + t * x) * p := by
  have e := Int.emod_add_mul_ediv s 4294967296
  generalize s % 4294967296 = r at *
  generalize s / 4294967296 = q at *
  grind
theorem two_pow_int (n : Nat) : (2 : Int) ^ n = ((2 ^ n : Nat) : Int) := by rw [Int.natCast_pow]; rfl
/-- A power of 2 below the base divides the base. -/
theorem pow_dvd {n : Nat} (h : n ≤ 32) : ∃ q, 0 < q ∧ (4294967296 : Int) = 2 ^ n * q := by
  refine ⟨2 ^ (32 - n), Int.pow_pos (by decide), ?_⟩
  rw [← Int.pow_add, show n + (32 - n) = 32 from by omega]; rfl
theorem pow_pos2 (n : Nat) : (0 : Int) < 2 ^ n := Int.pow_pos (by decide)
theorem pow_lt32 {n : Nat} (h : n < 32) : (2 : Int) ^ n ≤ 2147483648 := by
  obtain ⟨q, hq, e⟩ := pow_dvd (show n + 1 ≤ 32 by omega)
  have hp := pow_pos2 n
  rw [Int.pow_succ] at e
  have : 2 ^ n * 2 * 1 ≤ 2 ^ n * 2 * q := Int.mul_le_mul_of_nonneg_left (by omega) (by omega)
  omega
/-- The low limb of a multiple of p is a multiple of p. -/
theorem low_multiple {x p q : Int} (hp : 0 < p) (e : 4294967296 = p * q) : ∃ z, x * p % 4294967296 = z * p ∧ 0 ≤ z ∧ z < q := by
  have hq : 0 < q := by
    rcases Int.lt_trichotomy q 0 with h | h | h
    · have := Int.mul_neg_of_pos_of_neg hp h; omega
    · subst h; simp at e
    · exact h
  refine ⟨x % q, ?_, Int.emod_nonneg _ (by omega), Int.emod_lt_of_pos _ hq⟩
  rw [e, Int.mul_comm x p, Int.mul_emod_mul_of_pos _ _ hp, Int.mul_comm]
end Go.Proofs.Ytdbgalohppfkfaa
