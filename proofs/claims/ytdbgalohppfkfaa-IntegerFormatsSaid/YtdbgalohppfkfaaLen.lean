/- Walks: math/bits.Len32, LeadingZeros32. -/
import Derived.Test.YtdbgalohppfkfaaWalk
namespace Go.Proofs.Ytdbgalohppfkfaa
open Go.RowKit

theorem len_tab (S : ByteArray) (hs : S.size = 256)
    (hS : ∀ n : Fin 256, 1 ≤ n.val → 1 ≤ (S[n.val]'(by rw [hs]; exact n.isLt)).toNat ∧ (S[n.val]'(by rw [hs]; exact n.isLt)).toNat ≤ 8 ∧ 2 ^ ((S[n.val]'(by rw [hs]; exact n.isLt)).toNat - 1) ≤ n.val ∧ n.val < 2 ^ (S[n.val]'(by rw [hs]; exact n.isLt)).toNat)
    (t : Int) (h : t.toNat < S.size) (a : Nat) (ha : a ≤ 24) (ht : 1 ≤ t) (x : Int) (hx : t * 2 ^ a ≤ x) (hx2 : x < (t + 1) * 2 ^ a) :
    ∃ y : Nat, ((S[t.toNat]'h).toNat : Int) = y ∧ 1 ≤ y + a ∧ y + a ≤ 32 ∧ (2 : Int) ^ (y + a - 1) ≤ x ∧ x < 2 ^ (y + a) := by
  obtain ⟨k1, k2, k3, k4⟩ := hS ⟨t.toNat, by omega⟩ (by simp; omega)
  simp only at k1 k2 k3 k4
  generalize (S[t.toNat]'h).toNat = y at *
  have hp := pow_pos2 a
  have e1 : (2 : Int) ^ (y + a - 1) = 2 ^ (y - 1) * 2 ^ a := by rw [show y + a - 1 = (y - 1) + a from by omega, Int.pow_add]
  have e2 : (2 : Int) ^ (y + a) = 2 ^ y * 2 ^ a := Int.pow_add ..
  refine ⟨y, rfl, by omega, by omega, ?_, ?_⟩
  · rw [e1]
    have : (2 : Int) ^ (y - 1) ≤ t := by rw [two_pow_int]; omega
    have := Int.mul_le_mul_of_nonneg_right this (Int.le_of_lt hp)
    omega
  · rw [e2]
    have : t + 1 ≤ (2 : Int) ^ y := by rw [two_pow_int]; omega
    have := Int.mul_le_mul_of_nonneg_right this (Int.le_of_lt hp)
    omega

theorem wrap_len (y a : Nat) (h : y + a ≤ 32) : wrap64 ((a : Int) + wrap64 (y : Int)) = ((y + a : Nat) : Int) := by unfold wrap64; omega
theorem wrap_len0 (y : Nat) (h : y + 0 ≤ 32) : wrap64 (wrap64 (y : Int)) = (y : Int) := by unfold wrap64; omega
theorem len_fin (S : ByteArray) (hs : S.size = 256)
    (hS : ∀ n : Fin 256, 1 ≤ n.val → 1 ≤ (S[n.val]'(by rw [hs]; exact n.isLt)).toNat ∧ (S[n.val]'(by rw [hs]; exact n.isLt)).toNat ≤ 8 ∧ 2 ^ ((S[n.val]'(by rw [hs]; exact n.isLt)).toNat - 1) ≤ n.val ∧ n.val < 2 ^ (S[n.val]'(by rw [hs]; exact n.isLt)).toNat)
    (t : Int) (h : t.toNat < S.size) (c : Int) (a : Nat) (hca : c = a) (ha : a ≤ 24) (ht : 1 ≤ t) (x : Int) (hx : t * 2 ^ a ≤ x) (hx2 : x < (t + 1) * 2 ^ a) :
    ∃ k : Nat, Ending.returned (.int .i64 (wrap64 (c + wrap64 ((S[t.toNat]'h).toNat : Int)))) = .returned (.int .i64 k) ∧ 1 ≤ k ∧ k ≤ 32 ∧ (2 : Int) ^ (k - 1) ≤ x ∧ x < 2 ^ k := by
  obtain ⟨y, hy, g1, g2, g3, g4⟩ := len_tab S hs hS t h a ha ht x hx hx2
  rw [hy]
  exact ⟨y + a, int_of (by rw [hca]; exact wrap_len y a g2), g1, g2, g3, g4⟩
theorem len_fin0 (S : ByteArray) (hs : S.size = 256)
    (hS : ∀ n : Fin 256, 1 ≤ n.val → 1 ≤ (S[n.val]'(by rw [hs]; exact n.isLt)).toNat ∧ (S[n.val]'(by rw [hs]; exact n.isLt)).toNat ≤ 8 ∧ 2 ^ ((S[n.val]'(by rw [hs]; exact n.isLt)).toNat - 1) ≤ n.val ∧ n.val < 2 ^ (S[n.val]'(by rw [hs]; exact n.isLt)).toNat)
    (t : Int) (h : t.toNat < S.size) (ht : 1 ≤ t) :
    ∃ k : Nat, Ending.returned (.int .i64 (wrap64 (wrap64 ((S[t.toNat]'h).toNat : Int)))) = .returned (.int .i64 k) ∧ 1 ≤ k ∧ k ≤ 32 ∧ (2 : Int) ^ (k - 1) ≤ t ∧ t < 2 ^ k := by
  obtain ⟨y, hy, g1, g2, g3, g4⟩ := len_tab S hs hS t h 0 (by omega) ht t (by omega) (by omega)
  rw [hy]
  exact ⟨y, int_of (wrap_len0 y g2), g1, g2, g3, g4⟩

set_option maxRecDepth 100000 in
set_option maxHeartbeats 2000000 in
theorem len32_any (x : Int) (w : World) (h0 : 0 < x) (h1 : x < 4294967296) :
    Calls Try.prog 68 #[.int .u32 x] w fun e w' => (∃ k : Nat, e = .returned (.int .i64 k) ∧ 1 ≤ k ∧ k ≤ 32 ∧ (2 : Int) ^ (k - 1) ≤ x ∧ x < 2 ^ k) ∧ w = w' := by
  by_cases c1 : 65536 ≤ x
  · by_cases c2 : 256 ≤ x / 65536
    · obtain ⟨t, ht⟩ : ∃ t, x / 65536 / 256 = t := ⟨_, rfl⟩
      have t0 : 1 ≤ t := by omega
      have t1 : t < 256 := by omega
      have hx : t * 2 ^ 24 ≤ x ∧ x < (t + 1) * 2 ^ 24 := by omega
      go_enter Try.func68, Try.ntmps68
      go_wp2
      go_ret
      refine ⟨?_, rfl⟩
      show ∃ k : Nat, Ending.returned (.int .i64 (wrap64 (24 + wrap64 _))) = _ ∧ _
      exact len_fin _ (by decide +kernel) (by decide +kernel) t _ 24 24 rfl (by omega) t0 x hx.1 hx.2
    · obtain ⟨t, ht⟩ : ∃ t, x / 65536 = t := ⟨_, rfl⟩
      have t0 : 1 ≤ t := by omega
      have t1 : t < 256 := by omega
      have hx : t * 2 ^ 16 ≤ x ∧ x < (t + 1) * 2 ^ 16 := by omega
      rw [ht] at c2
      go_enter Try.func68, Try.ntmps68
      go_wp2
      go_ret
      refine ⟨?_, rfl⟩
      show ∃ k : Nat, Ending.returned (.int .i64 (wrap64 (16 + wrap64 _))) = _ ∧ _
      exact len_fin _ (by decide +kernel) (by decide +kernel) t _ 16 16 rfl (by omega) t0 x hx.1 hx.2
  · by_cases c2 : 256 ≤ x
    · obtain ⟨t, ht⟩ : ∃ t, x / 256 = t := ⟨_, rfl⟩
      have t0 : 1 ≤ t := by omega
      have t1 : t < 256 := by omega
      have hx : t * 2 ^ 8 ≤ x ∧ x < (t + 1) * 2 ^ 8 := by omega
      go_enter Try.func68, Try.ntmps68
      go_wp2
      go_ret
      refine ⟨?_, rfl⟩
      show ∃ k : Nat, Ending.returned (.int .i64 (wrap64 (8 + wrap64 _))) = _ ∧ _
      exact len_fin _ (by decide +kernel) (by decide +kernel) t _ 8 8 rfl (by omega) t0 x hx.1 hx.2
    · go_enter Try.func68, Try.ntmps68
      go_wp2
      go_ret
      refine ⟨?_, rfl⟩
      show ∃ k : Nat, Ending.returned (.int .i64 (wrap64 (wrap64 _))) = _ ∧ _
      exact len_fin0 _ (by decide +kernel) (by decide +kernel) x _ (by omega)

/-- How far a limb is shifted until its highest bit is set. -/
theorem leadingZeros_any (x : Int) (w : World) (h0 : 0 < x) (h1 : x < 4294967296) :
    Calls Try.prog 62 #[.int .u32 x] w fun e w' => (∃ s : Nat, e = .returned (.int .i64 s) ∧ s < 32 ∧ 2147483648 ≤ x * 2 ^ s ∧ x * 2 ^ s < 4294967296) ∧ w = w' := by
  go_enter Try.func62, Try.ntmps62
  go_wp2_with (go_at_call 68; (with_reducible refine (len32_any x _ h0 h1).mono ?_); rintro e w' ⟨⟨k, rfl, k0, k1, k2, k3⟩, rfl⟩)
  go_ret
  refine ⟨⟨32 - k, int_of (by omega), by omega, ?_, ?_⟩, rfl⟩
  · have e : (2147483648 : Int) = 2 ^ (k - 1) * 2 ^ (32 - k) := by rw [← Int.pow_add, show k - 1 + (32 - k) = 31 from by omega]; rfl
    rw [e]; exact Int.mul_le_mul_of_nonneg_right k2 (Int.le_of_lt (pow_pos2 _))
  · have e : (4294967296 : Int) = 2 ^ k * 2 ^ (32 - k) := by rw [← Int.pow_add, show k + (32 - k) = 32 from by omega]; rfl
    rw [e]; exact Int.mul_lt_mul_of_pos_right k3 (pow_pos2 _)
end Go.Proofs.Ytdbgalohppfkfaa
