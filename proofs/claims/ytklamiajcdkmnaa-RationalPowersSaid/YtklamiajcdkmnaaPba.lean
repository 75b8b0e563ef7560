/- A part of the proof of the laws of rationals: Walk, IntV. -/
import Derived.Test.YtklamiajcdkmnaaProg
import Derived.Test.YtklamiajcdkmnaaPab
import Derived.Test.YtklamiajcdkmnaaPaa
import Derived.Test.YtklamiajcdkmnaaPac
namespace Go.Proofs.Ytklamiajcdkmnaa
open Go.RowKit

theorem u64_or32 {x y : Int} (hx0 : 0 ≤ x) (hx1 : x < 4294967296) (hy0 : 0 ≤ y) (hy1 : y < 4294967296) : bits .or .u64 x (y * 4294967296) = x + y * 4294967296 :=
  (u64_or_high (p := 4294967296) (i := 32) rfl hx0 hx1 hy0 (by omega) (by omega)).1
theorem u64_or_zero {x : Int} (hx0 : 0 ≤ x) (hx1 : x < 18446744073709551616) : bits .or .u64 0 x = x := by
  obtain ⟨a, rfl⟩ := Int.eq_ofNat_of_zero_le hx0
  have := u64_or_nat 0 a (by decide) (by omega)
  rw [Nat.zero_or] at this; exact this
end Go.Proofs.Ytklamiajcdkmnaa

namespace Go.Proofs.Ytklamiajcdkmnaa
open Go.RowKit

theorem bw_two (w : World) (o p : Obj) : Below w.heap.size w ((w.alloc o).alloc p) := bw_alloc (bw_alloc (Below.refl _ _) _) _

end Go.Proofs.Ytklamiajcdkmnaa

