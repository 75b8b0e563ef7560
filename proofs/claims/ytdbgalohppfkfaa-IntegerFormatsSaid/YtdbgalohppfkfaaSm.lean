/- How many limbs the results of arithmetic have: plain facts. -/
import Derived.Test.YtdbgalohppfkfaaIntV
namespace Go.Proofs.Ytdbgalohppfkfaa

theorem Sm.to {m n : Nat} {a : Int} (h : Sm m a) (hn : m ≤ n) : Sm n a := by
  obtain ⟨x, y⟩ := h
  have := bp_mono hn
  exact ⟨by omega, by omega⟩
theorem Sm.plus {m n k : Nat} {a b : Int} (h : Sm m a) (l : Sm n b) (hm : m < k) (hn : n < k) : Sm k (a + b) := by
  obtain ⟨p, rfl⟩ : ∃ p, k = p + 1 := ⟨k - 1, by omega⟩
  obtain ⟨x, y⟩ := h
  obtain ⟨u, v⟩ := l
  have h1 := bp_mono (show m ≤ p by omega)
  have h2 := bp_mono (show n ≤ p by omega)
  have h3 := bp_pos p
  have h4 := bp_succ p
  exact ⟨by omega, by omega⟩
theorem Sm.opp {n : Nat} {z : Int} (h : Sm n z) : Sm n (-z) := ⟨by have := h.2; omega, by have := h.1; omega⟩
theorem Sm.minus {m n k : Nat} {a b : Int} (h : Sm m a) (l : Sm n b) (hm : m < k) (hn : n < k) : Sm k (a - b) := by
  rw [Int.sub_eq_add_neg]; exact h.plus l.opp hm hn
theorem Sm.times {m n k : Nat} {a b : Int} (h : Sm m a) (l : Sm n b) (hk : m + n ≤ k) : Sm k (a * b) := by
  refine Sm.to (m := m + n) ?_ hk
  have h1 : (a.natAbs : Int) < bp m := by obtain ⟨x, y⟩ := h; omega
  have h2 : (b.natAbs : Int) < bp n := by obtain ⟨x, y⟩ := l; omega
  have h3 : ((a * b).natAbs : Int) < bp (m + n) := by
    rw [Int.natAbs_mul, bp_add, Int.natCast_mul]
    have h4 := Int.mul_le_mul_of_nonneg_right (show (a.natAbs : Int) ≤ bp m by omega) (show (0 : Int) ≤ b.natAbs by omega)
    have h5 := Int.mul_lt_mul_of_pos_left h2 (bp_pos m)
    omega
  exact ⟨by omega, by omega⟩
theorem Sm.absv {n : Nat} {z : Int} (h : Sm n z) : Sm n (z.natAbs : Int) := by obtain ⟨x, y⟩ := h; exact ⟨by omega, by omega⟩
theorem Sm.quo {m : Nat} {a b : Int} (h : Sm m a) : Sm m (a / b) := by
  have := Int.natAbs_ediv_le_natAbs a b
  obtain ⟨x, y⟩ := h
  exact ⟨by omega, by omega⟩
theorem Sm.rem {m : Nat} {a b : Int} (h : Sm m b) (hb : b ≠ 0) : Sm m (a % b) := by
  have h0 := Int.emod_nonneg a hb
  have h1 := Int.emod_lt a hb
  obtain ⟨x, y⟩ := h
  exact ⟨by omega, by omega⟩
/-- A number of absolute value at most that of a small one. -/
theorem Sm.le {n : Nat} {a b : Int} (h : Sm n b) (hab : a.natAbs ≤ b.natAbs) : Sm n a := by obtain ⟨x, y⟩ := h; exact ⟨by omega, by omega⟩
theorem Sm.i64 {n : Int} (h0 : -9223372036854775808 ≤ n) (h1 : n < 9223372036854775808) : Sm 2 n := by
  have e : bp 2 = 18446744073709551616 := by decide
  exact ⟨by rw [e]; omega, by rw [e]; omega⟩
theorem Sm.one {n : Int} (h0 : -4294967296 < n) (h1 : n < 4294967296) : Sm 1 n := by
  have e : bp 1 = 4294967296 := by decide
  exact ⟨by rw [e]; omega, by rw [e]; omega⟩
theorem Sm.gcd {n : Nat} {a b : Int} (h : Sm n a) (k : Sm n b) : Sm n ((Int.gcd a b : Nat) : Int) := by
  by_cases ha : a = 0
  · rw [ha, Int.gcd_zero_left]; exact k.absv
  · refine Sm.le h ?_
    have h1 : Int.gcd a b ∣ a.natAbs := Nat.gcd_dvd_left _ _
    have h2 := Nat.le_of_dvd (by omega : 0 < a.natAbs) h1
    omega
theorem gcd_emod {x y : Int} (hx : 0 ≤ x) (hy : 0 ≤ y) : Int.gcd y (x % y) = Int.gcd x y := by
  obtain ⟨m, rfl⟩ := Int.eq_ofNat_of_zero_le hx
  obtain ⟨n, rfl⟩ := Int.eq_ofNat_of_zero_le hy
  rw [show ((m : Int) % (n : Int)) = ((m % n : Nat) : Int) from rfl, Int.gcd_natCast_natCast, Int.gcd_natCast_natCast, Nat.gcd_comm m n, Nat.gcd_rec n m, Nat.gcd_comm]
theorem gcd_zero' {x : Int} (hx : 0 ≤ x) : ((Int.gcd x 0 : Nat) : Int) = x := by
  rw [Int.gcd_zero_right]; omega
theorem gcd_natAbs (a b : Int) : Int.gcd (a.natAbs : Int) (b.natAbs : Int) = Int.gcd a b := by
  rw [Int.gcd_natCast_natCast]; rfl
end Go.Proofs.Ytdbgalohppfkfaa
