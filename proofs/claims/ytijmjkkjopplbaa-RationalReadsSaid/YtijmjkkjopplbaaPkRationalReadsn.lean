/- A part of the proof of the laws of rationals: TextOps. -/
import Derived.Test.YtijmjkkjopplbaaPal
import Derived.Test.YtijmjkkjopplbaaPkRationalReadsb
import Derived.Test.YtijmjkkjopplbaaPac
import Derived.Test.YtijmjkkjopplbaaPkRationalReadsa
import Derived.Test.YtijmjkkjopplbaaPab
import Derived.Test.YtijmjkkjopplbaaPag
import Derived.Test.YtijmjkkjopplbaaPaa
import Derived.Test.YtijmjkkjopplbaaPak
namespace Go.Proofs.Ytijmjkkjopplbaa
open Go.RowKit
set_option linter.unusedVariables false
set_option maxRecDepth 100000
section
variable {o : Oper} {ρ : Operand → Value} {w : World}
theorem ex_index_str {x i : Operand} {s : ByteArray} {k d : Nat} (ho : o.op = .index 9 x i) (hx : ρ x = .string s) (hi : ρ i = .int .i64 (k : Int)) (h : k < s.size) (hd : (s[k]'h).toNat = d) :
    (execOp ρ o).run Try.prog w = .ok (.value (.int .u8 (d : Int))) w := by
  subst hd
  simp only [execOp, ho, hx, hi]
  go_simp
theorem ex_index_str0 {x i : Operand} {s : ByteArray} (ho : o.op = .index 9 x i) (hx : ρ x = .string s) (hi : ρ i = .int .i64 0) (h : 0 < s.size) :
    (execOp ρ o).run Try.prog w = .ok (.value (.int .u8 ((s[0]'h).toNat : Int))) w := by
  simp only [execOp, ho, hx, hi]
  go_simp
theorem ex_sub_u8 {x : Operand} {d : Int} (ho : o.op = .binOp .sub 5 x (.const (.int .u8 48)) 5) (hx : ρ x = .int .u8 d) (h1 : 48 ≤ d) (h2 : d ≤ 57) (hc : ρ (.const (.int .u8 48)) = .int .u8 48 := by rfl) :
    (execOp ρ o).run Try.prog w = .ok (.value (.int .u8 (d - 48))) w := by
  have e : IntKind.u8.wrap (d - 48) = d - 48 := by simp [IntKind.wrap, IntKind.bits, IntKind.signed]; omega
  simp only [execOp, ho, hx, hc]
  go_simp
theorem ex_conv_u8 {x : Operand} {d : Int} (ho : o.op = .convert 5 2 x) (hx : ρ x = .int .u8 d) (h1 : 0 ≤ d) (h2 : d ≤ 255) :
    (execOp ρ o).run Try.prog w = .ok (.value (.int .i64 d)) w := by
  have e : IntKind.i64.wrap d = d := by rw [IntKind.wrap_i64]; omega
  simp only [execOp, ho, hx]
  go_simp
theorem ex_dash {x : Operand} {s : ByteArray} {h : 0 < s.size} (ho : o.op = .binOp .eql 5 x (.const (.int .u8 45)) 5) (hx : ρ x = .int .u8 ((s[0]'h).toNat : Int)) (hc : ρ (.const (.int .u8 45)) = .int .u8 45) :
    (execOp ρ o).run Try.prog w = .ok (.value (.bool (ngB s))) w := by
  have e : ngB s = (((s[0]'h).toNat : Int) == 45) := by
    unfold ngB
    rw [bt_get h]
    by_cases h1 : (s[0]'h).toNat = 45
    · rw [h1]; rfl
    · rw [beq_eq_false_iff_ne.2 h1, beq_eq_false_iff_ne.2 (by omega)]
  rw [e]
  clear e
  simp only [execOp, ho, hx, hc]
  go_simp
end
end Go.Proofs.Ytijmjkkjopplbaa

