/- A part of the proof of the laws of rationals: RatPure. -/
import Derived.Test.YtijmjkkjopplbaaPac
import Derived.Test.YtijmjkkjopplbaaPba
import Derived.Test.YtijmjkkjopplbaaPab
import Derived.Test.YtijmjkkjopplbaaPaa
import Derived.Test.YtijmjkkjopplbaaPad
namespace Go.Proofs.Ytijmjkkjopplbaa
set_option linter.unusedVariables false
set_option maxRecDepth 100000

theorem num_sign {n d : Int} (hd : 0 < d) : cm (Rat.divInt n d).num 0 = cm n 0 := by
  rw [rat_num hd]
  have hg := gcd_pos' (p := n) hd
  have h1 := Int.ediv_mul_cancel (Int.gcd_dvd_left (a := n) (b := d))
  generalize (Int.gcd n d : Int) = g at *
  generalize n / g = a at *
  subst h1
  rcases Int.lt_trichotomy a 0 with h | h | h
  · rw [cm_lt h, cm_lt (Int.mul_neg_of_neg_of_pos h hg)]
  · subst h; rw [Int.zero_mul]
  · rw [cm_gt h, cm_gt (Int.mul_pos h hg)]
theorem sub_divInt {p q r s : Int} (hq : 0 < q) (hs : 0 < s) : Rat.divInt p q - Rat.divInt r s = Rat.divInt (p * s - r * q) (q * s) := by
  rw [Rat.sub_eq_add_neg, Rat.neg_divInt, Rat.divInt_add_divInt _ _ (by omega) (by omega), Int.neg_mul, Int.sub_eq_add_neg]
theorem cm_diff (a b : Int) : cm (a - b) 0 = cm a b := by
  rcases Int.lt_trichotomy a b with h | h | h
  · rw [cm_lt h, cm_lt (by omega)]
  · rw [cm_eq h, cm_eq (by omega)]
  · rw [cm_gt h, cm_gt (by omega)]
theorem cm_cross {p q r s : Int} (hq : 0 < q) (hs : 0 < s) : cm (p * s) (r * q) = cm (Rat.divInt p q - Rat.divInt r s).num 0 := by
  rw [sub_divInt hq hs, num_sign (Int.mul_pos hq hs), cm_diff]
end Go.Proofs.Ytijmjkkjopplbaa

