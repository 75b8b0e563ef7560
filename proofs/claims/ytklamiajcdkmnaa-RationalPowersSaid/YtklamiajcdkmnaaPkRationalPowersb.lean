/- A part of the proof of the laws of rationals: RatPure. -/
import Derived.Test.YtklamiajcdkmnaaPac
import Derived.Test.YtklamiajcdkmnaaPba
import Derived.Test.YtklamiajcdkmnaaPab
import Derived.Test.YtklamiajcdkmnaaPaa
import Derived.Test.YtklamiajcdkmnaaPad
namespace Go.Proofs.Ytklamiajcdkmnaa
set_option linter.unusedVariables false
set_option maxRecDepth 100000

theorem num_sign {n d : Int} (hd : 0 < d) : cm (Rat.divInt n d).num 0 = cm n 0 := by
  rw [rat_num hd]
  have hg := gcd_pos' (p := n) hd
  have h1 := Int.ediv_mul_cancel (Int.gcd_dvd_left (a := n) (b := d))
  generalize (Int.gcd n d : Int) = g at *
  generalize n / g = a at *
  subst h1
  rcases Int.lt_trichotomy a 0 with h | h | h
  · rw [cm_lt h, cm_lt (Int.mul_neg_of_neg_of_pos h hg)]
  · subst h; rw [Int.zero_mul]
  · rw [cm_gt h, cm_gt (Int.mul_pos h hg)]
end Go.Proofs.Ytklamiajcdkmnaa

