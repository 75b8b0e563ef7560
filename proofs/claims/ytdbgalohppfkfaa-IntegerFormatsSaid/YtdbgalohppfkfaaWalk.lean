/- Facts that the walks lay ahead: a make of limbs, max of two. -/
import Derived.Test.YtdbgalohppfkfaaProg
import Derived.Test.YtdbgalohppfkfaaMem
namespace Go.Proofs.Ytdbgalohppfkfaa
open Go.RowKit

theorem int_of {k : IntKind} {a b : Int} (h : a = b) : Ending.returned (.int k a) = .returned (.int k b) := by rw [h]
theorem wrap_u64 (x : Int) : IntKind.u64.wrap x = x % 18446744073709551616 := by
  simp [IntKind.wrap, IntKind.bits, IntKind.signed]
theorem u32_info : (Try.prog.info? 33).map (fun i => (i.zero, i.size, i.bytes)) = some (some (.int .u32 0), 1, 4) := by kernel_rfl
theorem madeCells_zs (n : Nat) : madeCells #[.int .u32 0] n = zs n := by
  unfold madeCells zs
  refine Array.ext (by simp) fun i h1 h2 => ?_
  simp [Nat.mod_one]
/-- 'make([]uint32, n)' -/
theorem make_u32 (n : Nat) (hn : n ≤ 1099511627777) (w : World) : (Instr.makeSlice 22 (.int .i64 (n : Int)) (.int .i64 (n : Int))).run Try.prog w =
    .ok (.slice (some ⟨w.heap.size, 0, none⟩) n n) (w.alloc (.cells (zs n) 33)) := by
  obtain ⟨i, hi, hz0, hz1, hz2⟩ := info_parts u32_info
  have h := run_make (P := Try.prog) w 22 33 i (.int .u32 0) Try.underlying22 hi hz0 .i64 .i64 (n : Int) (n : Int) (by omega) (Int.le_refl _) (by rw [hz2]; omega) (by omega)
  rw [h, hz1]
  simp only [Int.toNat_natCast, Nat.mul_one, Value.cells, madeCells_zs]
theorem make_u32_succ (n : Nat) (hn : n ≤ 1099511627776) (w : World) : (Instr.makeSlice 22 (.int .i64 ((n : Int) + 1)) (.int .i64 ((n : Int) + 1))).run Try.prog w =
    .ok (.slice (some ⟨w.heap.size, 0, none⟩) (n + 1) (n + 1)) (w.alloc (.cells (zs (n + 1)) 33)) := make_u32 (n + 1) (by omega) w
theorem make_u32_add (m n : Nat) (hn : m + n ≤ 1099511627777) (w : World) : (Instr.makeSlice 22 (.int .i64 ((m : Int) + (n : Int))) (.int .i64 ((m : Int) + (n : Int)))).run Try.prog w =
    .ok (.slice (some ⟨w.heap.size, 0, none⟩) (m + n) (m + n)) (w.alloc (.cells (zs (m + n)) 33)) := make_u32 (m + n) hn w
theorem i64_add (m n : Nat) (h : m + n < 9223372036854775808) : IntKind.i64.wrap ((m : Int) + (n : Int)) = (m : Int) + (n : Int) := by rw [IntKind.wrap_i64]; omega
theorem u64_in {x : Int} (h0 : 0 ≤ x) (h1 : x < 18446744073709551616) : IntKind.u64.wrap x = x := by rw [IntKind.wrap_u64]; omega
theorem wrap_u32m (x : Int) : IntKind.u32.wrap x = x % 4294967296 := by simp [IntKind.wrap, IntKind.bits, IntKind.signed]
theorem max_nat (m n : Nat) (w : World) (ts : Array TypeId) (t : TypeId) : (Builtin.max_ ts t #[.int .i64 (m : Int), .int .i64 (n : Int)]).run Try.prog w = .ok (.int .i64 ((max m n : Nat) : Int)) w := by
  simp only [Builtin.max_, Builtin.max2, List.foldlM_cons, List.foldlM_nil, gt_iff_lt]
  simp; split <;> omega
theorem min_nat (m n : Nat) (w : World) (ts : Array TypeId) (t : TypeId) : (Builtin.min_ ts t #[.int .i64 (m : Int), .int .i64 (n : Int)]).run Try.prog w = .ok (.int .i64 ((min m n : Nat) : Int)) w := by
  simp only [Builtin.min_, Builtin.min2, List.foldlM_cons, List.foldlM_nil]
  simp; split <;> omega
/-- 'or' of a word and of a multiple of a greater power of 2 is a sum. -/
theorem u64_or_high {x y p : Int} {i : Nat} (hp : p = 2 ^ i) (hx0 : 0 ≤ x) (hx1 : x < p) (hy0 : 0 ≤ y) (h : y * p < 18446744073709551616) (hb : x < 18446744073709551616) :
    bits .or .u64 x (y * p) = x + y * p ∧ bits .or .u64 (y * p) x = x + y * p := by
  subst hp
  obtain ⟨a, rfl⟩ := Int.eq_ofNat_of_zero_le hx0
  obtain ⟨b, rfl⟩ := Int.eq_ofNat_of_zero_le hy0
  have e : ((b : Int) * 2 ^ i) = ((2 ^ i * b : Nat) : Int) := by rw [Nat.mul_comm, Int.natCast_mul, Int.natCast_pow]; rfl
  rw [e] at h ⊢
  have ha : a < 2 ^ i := by
    have e2 : ((2 : Int) ^ i) = ((2 ^ i : Nat) : Int) := by rw [Int.natCast_pow]; rfl
    rw [e2] at hx1; omega
  rw [u64_or_nat _ _ (by omega) (by omega), u64_or_nat _ _ (by omega) (by omega), Nat.or_comm, ← Nat.two_pow_add_eq_or_of_lt ha]
  omega
theorem u64_or32 {x y : Int} (hx0 : 0 ≤ x) (hx1 : x < 4294967296) (hy0 : 0 ≤ y) (hy1 : y < 4294967296) : bits .or .u64 x (y * 4294967296) = x + y * 4294967296 :=
  (u64_or_high (p := 4294967296) (i := 32) rfl hx0 hx1 hy0 (by omega) (by omega)).1
theorem u64_or32' {x y : Int} (hx0 : 0 ≤ x) (hx1 : x < 4294967296) (hy0 : 0 ≤ y) (hy1 : y < 4294967296) : bits .or .u64 (y * 4294967296) x = x + y * 4294967296 :=
  (u64_or_high (p := 4294967296) (i := 32) rfl hx0 hx1 hy0 (by omega) (by omega)).2
theorem u64_or_zero {x : Int} (hx0 : 0 ≤ x) (hx1 : x < 18446744073709551616) : bits .or .u64 0 x = x := by
  obtain ⟨a, rfl⟩ := Int.eq_ofNat_of_zero_le hx0
  have := u64_or_nat 0 a (by decide) (by omega)
  rw [Nat.zero_or] at this; exact this
theorem u64_and_low {s : Int} (h0 : 0 ≤ s) (h1 : s < 18446744073709551616) : bits .and .u64 s 4294967295 = s % 4294967296 := by
  obtain ⟨a, rfl⟩ := Int.eq_ofNat_of_zero_le h0
  have h := u64_and_nat a 4294967295 (by omega) (by decide)
  have e : a &&& 4294967295 = a % 4294967296 := Nat.and_two_pow_sub_one_eq_mod a 32
  rw [e] at h
  exact h
end Go.Proofs.Ytdbgalohppfkfaa
