/- A field of an Int that is no variable. -/
import Derived.Test.YtdbgalohppfkfaaIntV
namespace Go.Proofs.Ytdbgalohppfkfaa
open Go.RowKit
theorem field_neg (b : Bool) (s : Value) (w : World) : (Instr.field 24 (.agg #[.bool b, s]) 0).run Try.prog w = .ok (.bool b) w := by
  simp [Instr.field, run_underlying Try.underlying24, asAgg, part, sizeOf, typeInfo]
theorem field_mag (b : Bool) (s : Value) (w : World) : (Instr.field 24 (.agg #[.bool b, s]) 1).run Try.prog w = .ok s w := by
  simp [Instr.field, run_underlying Try.underlying24, asAgg, part, sizeOf, typeInfo]
end Go.Proofs.Ytdbgalohppfkfaa
