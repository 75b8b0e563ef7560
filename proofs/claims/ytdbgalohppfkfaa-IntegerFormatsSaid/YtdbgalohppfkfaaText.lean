/- The decimal text of a number: plain facts, no program in sight. -/
import Derived.Test.YtdbgalohppfkfaaPure
namespace Go.Proofs.Ytdbgalohppfkfaa
set_option linter.unusedVariables false

def dg (d : Nat) : UInt8 := UInt8.ofNat (48 + d)
theorem dg_toNat {d : Nat} (h : d < 10) : (dg d).toNat = 48 + d := by
  unfold dg; rw [UInt8.toNat_ofNat']; omega
/-- The decimal digits, the last one first. -/
def digs (n : Nat) : List UInt8 := if h : n = 0 then [] else dg (n % 10) :: digs (n / 10)
termination_by n
decreasing_by omega
theorem digs_zero : digs 0 = [] := by rw [digs]; simp
theorem digs_pos {n : Nat} (h : 0 < n) : digs n = dg (n % 10) :: digs (n / 10) := by rw [digs]; simp; omega
theorem digs_len : ∀ (k n : Nat), n < 10 ^ k → (digs n).length ≤ k := by
  intro k
  induction k with
  | zero => intro n h; rw [show n = 0 by simpa using h, digs_zero]; simp
  | succ k ih =>
    intro n h
    rcases Nat.eq_zero_or_pos n with h0 | h0
    · rw [h0, digs_zero]; simp
    · rw [digs_pos h0, List.length_cons]
      have := ih (n / 10) (by rw [Nat.pow_succ] at h; omega)
      omega
theorem digs_ne {n : Nat} (h : 0 < n) : digs n ≠ [] := by rw [digs_pos h]; simp
/-- The text of a number. -/
def text (z : Int) : List UInt8 := if z = 0 then [48] else (if z < 0 then [45] else []) ++ (digs z.natAbs).reverse
theorem bp_ten (n : Nat) : bp n ≤ 10 ^ (10 * n) := by
  induction n with
  | zero => simp [bp_zero]
  | succ n ih =>
    rw [bp_succ, show 10 * (n + 1) = 10 * n + 10 by omega, Int.pow_add]
    have h : (0 : Int) < 10 ^ (10 * n) := Int.pow_pos (by decide)
    have e : (10 : Int) ^ 10 = 10000000000 := by decide
    rw [e]
    omega
theorem digs_len_bp {z : Int} {n : Nat} (h0 : 0 ≤ z) (h : z < bp n) : (digs z.toNat).length ≤ 10 * n := by
  refine digs_len _ _ ?_
  have h1 := bp_ten n
  have e : ((10 : Int) ^ (10 * n)) = ((10 ^ (10 * n) : Nat) : Int) := by rw [Int.natCast_pow]; rfl
  rw [e] at h1
  omega
/-- One digit of a number is written. -/
theorem digs_step {Q r P : Nat} (h : 0 < Q * (10 * P) + r) (hr : r < 10 * P) : digs (Q * (10 * P) + r) = dg (r % 10) :: digs (Q * P + r / 10) ∧ r / 10 < P := by
  have e : Q * (10 * P) = 10 * (Q * P) := by rw [Nat.mul_left_comm]
  rw [digs_pos h, e]
  refine ⟨?_, by omega⟩
  rw [show (10 * (Q * P) + r) % 10 = r % 10 by omega, show (10 * (Q * P) + r) / 10 = Q * P + r / 10 by omega]
end Go.Proofs.Ytdbgalohppfkfaa
