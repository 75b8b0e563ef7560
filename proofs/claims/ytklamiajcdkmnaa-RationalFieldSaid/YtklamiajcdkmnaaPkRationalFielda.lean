/- A part of the proof of the laws of rationals: Walk, IntV, RatPure. -/
import Derived.Test.YtklamiajcdkmnaaProg
import Derived.Test.YtklamiajcdkmnaaPab
import Derived.Test.YtklamiajcdkmnaaPaa
import Derived.Test.YtklamiajcdkmnaaPac
import Derived.Test.YtklamiajcdkmnaaPad
namespace Go.Proofs.Ytklamiajcdkmnaa
open Go.RowKit

theorem u64_or32 {x y : Int} (hx0 : 0 ≤ x) (hx1 : x < 4294967296) (hy0 : 0 ≤ y) (hy1 : y < 4294967296) : bits .or .u64 x (y * 4294967296) = x + y * 4294967296 :=
  (u64_or_high (p := 4294967296) (i := 32) rfl hx0 hx1 hy0 (by omega) (by omega)).1
theorem u64_or_zero {x : Int} (hx0 : 0 ≤ x) (hx1 : x < 18446744073709551616) : bits .or .u64 0 x = x := by
  obtain ⟨a, rfl⟩ := Int.eq_ofNat_of_zero_le hx0
  have := u64_or_nat 0 a (by decide) (by omega)
  rw [Nat.zero_or] at this; exact this
end Go.Proofs.Ytklamiajcdkmnaa

namespace Go.Proofs.Ytklamiajcdkmnaa
open Go.RowKit

theorem bw_two (w : World) (o p : Obj) : Below w.heap.size w ((w.alloc o).alloc p) := bw_alloc (bw_alloc (Below.refl _ _) _) _

end Go.Proofs.Ytklamiajcdkmnaa

namespace Go.Proofs.Ytklamiajcdkmnaa
set_option linter.unusedVariables false
set_option maxRecDepth 100000

theorem num_sign {n d : Int} (hd : 0 < d) : cm (Rat.divInt n d).num 0 = cm n 0 := by
  rw [rat_num hd]
  have hg := gcd_pos' (p := n) hd
  have h1 := Int.ediv_mul_cancel (Int.gcd_dvd_left (a := n) (b := d))
  generalize (Int.gcd n d : Int) = g at *
  generalize n / g = a at *
  subst h1
  rcases Int.lt_trichotomy a 0 with h | h | h
  · rw [cm_lt h, cm_lt (Int.mul_neg_of_neg_of_pos h hg)]
  · subst h; rw [Int.zero_mul]
  · rw [cm_gt h, cm_gt (Int.mul_pos h hg)]
theorem sub_divInt {p q r s : Int} (hq : 0 < q) (hs : 0 < s) : Rat.divInt p q - Rat.divInt r s = Rat.divInt (p * s - r * q) (q * s) := by
  rw [Rat.sub_eq_add_neg, Rat.neg_divInt, Rat.divInt_add_divInt _ _ (by omega) (by omega), Int.neg_mul, Int.sub_eq_add_neg]
theorem cm_diff (a b : Int) : cm (a - b) 0 = cm a b := by
  rcases Int.lt_trichotomy a b with h | h | h
  · rw [cm_lt h, cm_lt (by omega)]
  · rw [cm_eq h, cm_eq (by omega)]
  · rw [cm_gt h, cm_gt (by omega)]
theorem cm_cross {p q r s : Int} (hq : 0 < q) (hs : 0 < s) : cm (p * s) (r * q) = cm (Rat.divInt p q - Rat.divInt r s).num 0 := by
  rw [sub_divInt hq hs, num_sign (Int.mul_pos hq hs), cm_diff]
end Go.Proofs.Ytklamiajcdkmnaa

