/- A part of the proof of the laws of rationals: Bits. -/
import Derived.Laws.BitsAllLaws
import Derived.Test.YtijmjkkjopplbaaPaa
namespace Go.Proofs.Ytijmjkkjopplbaa
set_option linter.unusedVariables false
set_option maxRecDepth 100000

theorem bp_two (j : Nat) : bp j = 2 ^ (32 * j) := by
  induction j with
  | zero => rfl
  | succ j ih => rw [bp_succ, ih, show 32 * (j + 1) = 32 * j + 32 by omega, Int.pow_add, Int.mul_comm]; rfl
theorem lm_digit {xs : List Int} (h : Lb xs) (j : Nat) : lm xs j = (nv xs / bp j) % 4294967296 := by
  have hp := bp_pos j
  have e := nv_append (xs.take j) (xs.drop j)
  rw [List.take_append_drop] at e
  rcases Nat.lt_or_ge j xs.length with hj | hj
  · have hlen : (xs.take j).length = j := by rw [List.length_take]; omega
    rw [hlen] at e
    have h1 : Lb (xs.take j) := fun y hy => h y (List.mem_of_mem_take hy)
    have h0 := nv_nonneg h1
    have h2 := nv_lt h1
    rw [hlen] at h2
    have e2 : nv xs / bp j = nv (xs.drop j) := by
      rw [e, Int.add_mul_ediv_left _ _ (by omega), Int.ediv_eq_zero_of_lt h0 h2]; omega
    rw [e2, nv_drop_succ hj]
    have := h.lm j
    omega
  · rw [lm_out hj]
    have h1 := nv_lt h
    have h2 := bp_mono hj
    rw [Int.ediv_eq_zero_of_lt (nv_nonneg h) (by omega)]; rfl
theorem emod_mul_ediv {y p M : Int} (hp : 0 < p) (hM : 0 < M) : y % (p * M) / p = y / p % M := by
  have h1 := Int.emod_add_mul_ediv y p
  have h2 := Int.emod_nonneg y (show p ≠ 0 by omega)
  have h3 := Int.emod_lt_of_pos y hp
  have h4 := Int.emod_add_mul_ediv (y / p) M
  have h5 := Int.emod_nonneg (y / p) (show M ≠ 0 by omega)
  have h6 := Int.emod_lt_of_pos (y / p) hM
  generalize y / p = t at *
  generalize y % p = r at *
  generalize t / M = u at *
  generalize t % M = k at *
  have e : y = (p * k + r) + (p * M) * u := by rw [← h1, ← h4]; grind
  have b0 : 0 ≤ p * k := Int.mul_nonneg (by omega) h5
  have b1 : p * (k + 1) ≤ p * M := Int.mul_le_mul_of_nonneg_left (by omega) (by omega)
  rw [Int.mul_add, Int.mul_one] at b1
  rw [e, Int.add_mul_emod_self_left, Int.emod_eq_of_lt (by omega) (by omega), Int.add_comm, Int.add_mul_ediv_left _ _ (by omega), Int.ediv_eq_zero_of_lt h2 h3]
  omega
/-- Bit i of a number stands in its limb. -/
theorem lm_bit {xs : List Int} (h : Lb xs) (i : Nat) : lm xs (i / 32) / 2 ^ (i % 32) % 2 = nv xs / 2 ^ i % 2 := by
  rw [lm_digit h]
  have hp := bp_pos (i / 32)
  have e : (2 : Int) ^ i = bp (i / 32) * 2 ^ (i % 32) := by rw [bp_two, ← Int.pow_add]; congr 1; omega
  rw [e, ← Int.ediv_ediv_of_nonneg (by omega)]
  generalize nv xs / bp (i / 32) = y
  have hs : i % 32 < 32 := Nat.mod_lt _ (by decide)
  have h32 : (4294967296 : Int) = 2 ^ (i % 32) * (2 * 2 ^ (31 - i % 32)) := by
    rw [← Int.pow_succ', ← Int.pow_add, show i % 32 + (31 - i % 32 + 1) = 32 by omega]; rfl
  have p0 := pow_pos2 (i % 32)
  have q0 := pow_pos2 (31 - i % 32)
  rw [h32, emod_mul_ediv p0 (by omega)]
  exact Int.emod_emod_of_dvd _ (Int.dvd_mul_right 2 _)
theorem lm_multiple {xs : List Int} (h : Lb xs) (i : Nat) (h0 : nv xs % 2 ^ (i + 1) = 0) : lm xs (i / 32) % 2 ^ (i % 32 + 1) = 0 := by
  rw [lm_digit h]
  have hp := bp_pos (i / 32)
  have hs : i % 32 < 32 := Nat.mod_lt _ (by decide)
  have e : (2 : Int) ^ (i + 1) = bp (i / 32) * 2 ^ (i % 32 + 1) := by rw [bp_two, ← Int.pow_add]; congr 1; omega
  have h32 : (4294967296 : Int) = 2 ^ (i % 32 + 1) * 2 ^ (31 - i % 32) := by
    rw [← Int.pow_add, show i % 32 + 1 + (31 - i % 32) = 32 by omega]; rfl
  have e2 := Int.emod_add_mul_ediv (nv xs) (2 ^ (i + 1))
  rw [h0, e, Int.zero_add] at e2
  rw [← e2, Int.mul_assoc, Int.mul_ediv_cancel_left _ (by omega), h32]
  rw [Int.emod_emod_of_dvd _ (Int.dvd_mul_right _ _)]
  exact Int.mul_emod_right _ _
theorem u32_set_bit {x : Int} {s : Nat} (hx0 : 0 ≤ x) (hx1 : x < 4294967296) (hs : s < 32) (h : x % 2 ^ (s + 1) = 0) : bits .or .u32 x (2 ^ s) = x + 2 ^ s ∧ x + 2 ^ s < 4294967296 := by
  have hp := pow_pos2 s
  have h32 : (4294967296 : Int) = 2 ^ (s + 1) * 2 ^ (31 - s) := by
    rw [← Int.pow_add, show s + 1 + (31 - s) = 32 by omega]; rfl
  have e2 : (2 : Int) ^ (s + 1) = 2 * 2 ^ s := by rw [Int.pow_succ, Int.mul_comm]
  have h1 := Int.emod_add_mul_ediv x (2 ^ (s + 1))
  rw [h, Int.zero_add] at h1
  have hb : x + 2 ^ s < 4294967296 := by
    obtain ⟨u, hu⟩ : ∃ u, u = x / 2 ^ (s + 1) := ⟨_, rfl⟩
    rw [← hu] at h1
    rw [h32] at hx1 ⊢
    have hlt : u < 2 ^ (31 - s) := by
      rw [← h1] at hx1
      exact Int.lt_of_mul_lt_mul_left hx1 (by omega)
    have := Int.mul_le_mul_of_nonneg_left (show u + 1 ≤ 2 ^ (31 - s) by omega) (show 0 ≤ (2 : Int) ^ (s + 1) by omega)
    rw [Int.mul_add, Int.mul_one] at this
    omega
  refine ⟨?_, hb⟩
  obtain ⟨a, rfl⟩ := Int.eq_ofNat_of_zero_le hx0
  have hpn : ((2 : Int) ^ s) = ((2 ^ s : Nat) : Int) := by rw [Int.natCast_pow]; rfl
  have hpn2 : ((2 : Int) ^ (s + 1)) = ((2 ^ (s + 1) : Nat) : Int) := by rw [Int.natCast_pow]; rfl
  rw [hpn] at hb ⊢
  rw [hpn2] at h
  have ha : a % 2 ^ (s + 1) = 0 := by omega
  rw [u32_or_nat _ _ (by omega) (by omega)]
  obtain ⟨u, hu⟩ : ∃ u, a = 2 ^ (s + 1) * u := ⟨a / 2 ^ (s + 1), by have := Nat.mod_add_div a (2 ^ (s + 1)); omega⟩
  have hlt : (2 : Nat) ^ s < 2 ^ (s + 1) := Nat.pow_lt_pow_right (by decide) (by omega)
  rw [hu, ← Nat.two_pow_add_eq_or_of_lt hlt]
  omega
end Go.Proofs.Ytijmjkkjopplbaa

