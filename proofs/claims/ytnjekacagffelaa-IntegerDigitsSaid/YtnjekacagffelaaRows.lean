/-
  No cell of these rows narrows 'for every input' (looked for: loops, veiled, ifaces, maps, wideKeys, modest, calm, conditions, laid).
  DERIVED. THE GIVEN ROWS OF THIS SEAT. 8 by the template 'for every input the law returns true; each argument reads behind the call as it read before'; 0 by the template 'total and deterministic' (their statements: YtnjekacagffelaaTotals.lean).
  GIVEN WITH THE SEED: the statements are not yours to turn. If you find one false, say at which input.
  Laid BY PROGRAM, IN A SANDBOX (cutbox-rows.mjs): the forced cells as the released guide's own fill.sh prints them over the translation 149934d0943604bb… (all of the seat's roots in one cut). By AI agents, Wed Nov 11 2026. No macro, syntax, notation, axiom, sorry.
-/
import Derived.Test.YtnjekacagffelaaChecked
import GoSem.Claim
import GoSem.ClaimJoined
import GoSem.ClaimMapViews
import Derived.JoinedTies
import Derived.KernelRfl
namespace Go.Proofs.Ytnjekacagffelaa
/- THE CELL 'sum', in the pinned program and in every row, IS THE sha256 OF THE DUMP (.gsa) THAT YtnjekacagffelaaProg.lean LOADS. Nothing in Lean hashes anything: it is a label: what it is worth is what the hold of that sum in a sandbox is worth. -/
noncomputable def Try.pinned : Pinned := { name := "ytnjekacagffelaa", sum := "149934d0943604bba3886de395850b51d3da27b66e566bc5b91dd49aeb6d99bc", checked := Try.checked }
namespace Rows
def none {H : Type} : Left H := { results := [], args := [] }

/-- 'quadformlaw01.IntegerAdds': WHATEVER THE INPUT: true; the input reads as it did. -/
def integerAddsSpec : ChangeSpec := { name := "integerAdds", fn := fun _ => fun
  | [d1, d2] => { results := [.lit (.bool true)], args := [d1, d2] }
  | _ => none }
def integerAddsRow : OpenClaim := { program := "ytnjekacagffelaa", sum := "149934d0943604bba3886de395850b51d3da27b66e566bc5b91dd49aeb6d99bc", func := "quadform/quadformlaw01.IntegerAdds", spec := "integerAdds", apart := false }
def IntegerAddsSaid : Prop := integerAddsRow.holds Try.pinned (OpenSpec.ofChange integerAddsSpec)

/-- ITS FALSE NEIGHBOUR: 'it returns false'. Refute it at one input. -/
def integerAddsWrong : ChangeSpec := { name := "integerAdds", fn := fun _ => fun
  | [d1, d2] => { results := [.lit (.bool false)], args := [d1, d2] }
  | _ => none }
def IntegerAddsWrongFalsely : Prop := integerAddsRow.holds Try.pinned (OpenSpec.ofChange integerAddsWrong)

/-- 'quadformlaw01.IntegerMultiplies': WHATEVER THE INPUT: true; the input reads as it did. -/
def integerMultipliesSpec : ChangeSpec := { name := "integerMultiplies", fn := fun _ => fun
  | [d1, d2] => { results := [.lit (.bool true)], args := [d1, d2] }
  | _ => none }
def integerMultipliesRow : OpenClaim := { program := "ytnjekacagffelaa", sum := "149934d0943604bba3886de395850b51d3da27b66e566bc5b91dd49aeb6d99bc", func := "quadform/quadformlaw01.IntegerMultiplies", spec := "integerMultiplies", apart := false }
def IntegerMultipliesSaid : Prop := integerMultipliesRow.holds Try.pinned (OpenSpec.ofChange integerMultipliesSpec)

/-- ITS FALSE NEIGHBOUR: 'it returns false'. Refute it at one input. -/
def integerMultipliesWrong : ChangeSpec := { name := "integerMultiplies", fn := fun _ => fun
  | [d1, d2] => { results := [.lit (.bool false)], args := [d1, d2] }
  | _ => none }
def IntegerMultipliesWrongFalsely : Prop := integerMultipliesRow.holds Try.pinned (OpenSpec.ofChange integerMultipliesWrong)

/-- 'quadformlaw01.IntegerPowers': WHATEVER THE INPUT: true; the input reads as it did. -/
def integerPowersSpec : ChangeSpec := { name := "integerPowers", fn := fun _ => fun
  | [d1, d2] => { results := [.lit (.bool true)], args := [d1, d2] }
  | _ => none }
def integerPowersRow : OpenClaim := { program := "ytnjekacagffelaa", sum := "149934d0943604bba3886de395850b51d3da27b66e566bc5b91dd49aeb6d99bc", func := "quadform/quadformlaw01.IntegerPowers", spec := "integerPowers", apart := false }
def IntegerPowersSaid : Prop := integerPowersRow.holds Try.pinned (OpenSpec.ofChange integerPowersSpec)

/-- ITS FALSE NEIGHBOUR: 'it returns false'. Refute it at one input. -/
def integerPowersWrong : ChangeSpec := { name := "integerPowers", fn := fun _ => fun
  | [d1, d2] => { results := [.lit (.bool false)], args := [d1, d2] }
  | _ => none }
def IntegerPowersWrongFalsely : Prop := integerPowersRow.holds Try.pinned (OpenSpec.ofChange integerPowersWrong)

/-- 'quadformlaw01.IntegerRing': WHATEVER THE INPUT: true; the input reads as it did. -/
def integerRingSpec : ChangeSpec := { name := "integerRing", fn := fun _ => fun
  | [d1, d2, d3] => { results := [.lit (.bool true)], args := [d1, d2, d3] }
  | _ => none }
def integerRingRow : OpenClaim := { program := "ytnjekacagffelaa", sum := "149934d0943604bba3886de395850b51d3da27b66e566bc5b91dd49aeb6d99bc", func := "quadform/quadformlaw01.IntegerRing", spec := "integerRing", apart := false }
def IntegerRingSaid : Prop := integerRingRow.holds Try.pinned (OpenSpec.ofChange integerRingSpec)

/-- ITS FALSE NEIGHBOUR: 'it returns false'. Refute it at one input. -/
def integerRingWrong : ChangeSpec := { name := "integerRing", fn := fun _ => fun
  | [d1, d2, d3] => { results := [.lit (.bool false)], args := [d1, d2, d3] }
  | _ => none }
def IntegerRingWrongFalsely : Prop := integerRingRow.holds Try.pinned (OpenSpec.ofChange integerRingWrong)

/-- 'quadformlaw01.IntegerPlain': WHATEVER THE INPUT: true; the input reads as it did. -/
def integerPlainSpec : ChangeSpec := { name := "integerPlain", fn := fun _ => fun
  | [d1, d2] => { results := [.lit (.bool true)], args := [d1, d2] }
  | _ => none }
def integerPlainRow : OpenClaim := { program := "ytnjekacagffelaa", sum := "149934d0943604bba3886de395850b51d3da27b66e566bc5b91dd49aeb6d99bc", func := "quadform/quadformlaw01.IntegerPlain", spec := "integerPlain", apart := false }
def IntegerPlainSaid : Prop := integerPlainRow.holds Try.pinned (OpenSpec.ofChange integerPlainSpec)

/-- ITS FALSE NEIGHBOUR: 'it returns false'. Refute it at one input. -/
def integerPlainWrong : ChangeSpec := { name := "integerPlain", fn := fun _ => fun
  | [d1, d2] => { results := [.lit (.bool false)], args := [d1, d2] }
  | _ => none }
def IntegerPlainWrongFalsely : Prop := integerPlainRow.holds Try.pinned (OpenSpec.ofChange integerPlainWrong)

/-- 'quadformlaw01.IntegerParses': WHATEVER THE INPUT: true; the input reads as it did. -/
def integerParsesSpec : ChangeSpec := { name := "integerParses", fn := fun _ => fun
  | [d] => { results := [.lit (.bool true)], args := [d] }
  | _ => none }
def integerParsesRow : OpenClaim := { program := "ytnjekacagffelaa", sum := "149934d0943604bba3886de395850b51d3da27b66e566bc5b91dd49aeb6d99bc", func := "quadform/quadformlaw01.IntegerParses", spec := "integerParses", apart := false }
def IntegerParsesSaid : Prop := integerParsesRow.holds Try.pinned (OpenSpec.ofChange integerParsesSpec)

/-- ITS FALSE NEIGHBOUR: 'it returns false'. Refute it at one input. -/
def integerParsesWrong : ChangeSpec := { name := "integerParses", fn := fun _ => fun
  | [d] => { results := [.lit (.bool false)], args := [d] }
  | _ => none }
def IntegerParsesWrongFalsely : Prop := integerParsesRow.holds Try.pinned (OpenSpec.ofChange integerParsesWrong)

/-- 'quadformlaw01.IntegerDigits': WHATEVER THE INPUT: true; the input reads as it did. -/
def integerDigitsSpec : ChangeSpec := { name := "integerDigits", fn := fun _ => fun
  | [d1, d2, d3] => { results := [.lit (.bool true)], args := [d1, d2, d3] }
  | _ => none }
def integerDigitsRow : OpenClaim := { program := "ytnjekacagffelaa", sum := "149934d0943604bba3886de395850b51d3da27b66e566bc5b91dd49aeb6d99bc", func := "quadform/quadformlaw01.IntegerDigits", spec := "integerDigits", apart := false }
def IntegerDigitsSaid : Prop := integerDigitsRow.holds Try.pinned (OpenSpec.ofChange integerDigitsSpec)

/-- ITS FALSE NEIGHBOUR: 'it returns false'. Refute it at one input. -/
def integerDigitsWrong : ChangeSpec := { name := "integerDigits", fn := fun _ => fun
  | [d1, d2, d3] => { results := [.lit (.bool false)], args := [d1, d2, d3] }
  | _ => none }
def IntegerDigitsWrongFalsely : Prop := integerDigitsRow.holds Try.pinned (OpenSpec.ofChange integerDigitsWrong)

/-- 'quadformlaw01.IntegerRoundTrip': WHATEVER THE INPUT: true; the input reads as it did. -/
def integerRoundTripSpec : ChangeSpec := { name := "integerRoundTrip", fn := fun _ => fun
  | [d] => { results := [.lit (.bool true)], args := [d] }
  | _ => none }
def integerRoundTripRow : OpenClaim := { program := "ytnjekacagffelaa", sum := "149934d0943604bba3886de395850b51d3da27b66e566bc5b91dd49aeb6d99bc", func := "quadform/quadformlaw01.IntegerRoundTrip", spec := "integerRoundTrip", apart := false }
def IntegerRoundTripSaid : Prop := integerRoundTripRow.holds Try.pinned (OpenSpec.ofChange integerRoundTripSpec)

/-- ITS FALSE NEIGHBOUR: 'it returns false'. Refute it at one input. -/
def integerRoundTripWrong : ChangeSpec := { name := "integerRoundTrip", fn := fun _ => fun
  | [d] => { results := [.lit (.bool false)], args := [d] }
  | _ => none }
def IntegerRoundTripWrongFalsely : Prop := integerRoundTripRow.holds Try.pinned (OpenSpec.ofChange integerRoundTripWrong)

/- THE SECOND FORM. 'bulk': how many values and letters a reading holds, each counted each time it is reached (what is shared counts as often as it is met; a slice's spare places count too). A statement '..UptoSaid' is the law's where the arguments, and the package variables that the reading takes, are together of bulk at most 1048576: NARROWER than '..Said'. Prove '..Said' where nothing that the law and all that it calls make is longer than what came in: it says more and counts as full. Else prove '..UptoSaid'. A law counts once. -/
mutual
def uptoBulk {H : Type} : DataW H → Nat
  | .lit (.string bytes) => bytes.length + 1
  | .lit _ => 1
  | .nil => 1
  | .ptr d => uptoBulk d + 1
  | .slice elems spare => uptoBulkAll elems + uptoBulkAll spare + 1
  | .agg parts => uptoBulkAll parts + 1
  | .iface _ d => uptoBulk d + 1
  | .map entries => uptoBulkEntries entries + 1
  | .held _ => 1
def uptoBulkAll {H : Type} : List (DataW H) → Nat
  | [] => 0
  | d :: r => uptoBulk d + uptoBulkAll r
def uptoBulkEntries {H : Type} : List (Lit × DataW H) → Nat
  | [] => 0
  | x :: r => uptoBulkEntry x + uptoBulkEntries r
def uptoBulkEntry {H : Type} : Lit × DataW H → Nat
  | (.string bytes, d) => bytes.length + uptoBulk d + 1
  | (_, d) => uptoBulk d + 1
 end
def uptoSmall : (H : Type) → List (DataW H) → Bool := fun _ ds => decide (uptoBulkAll ds ≤ 1048576)
def OpenSpec.upto (s : _root_.Go.ChangeSpec) : _root_.Go.OpenSpec := { _root_.Go.OpenSpec.ofChange s with cond := some uptoSmall }

/-- 'quadformlaw01.IntegerAdds', WHERE WHAT IT READS IS OF BULK AT MOST 1048576: true; the input reads as it did. -/
def integerAddsUptoRow : OpenClaim := { program := "ytnjekacagffelaa", sum := "149934d0943604bba3886de395850b51d3da27b66e566bc5b91dd49aeb6d99bc", func := "quadform/quadformlaw01.IntegerAdds", spec := "integerAdds", apart := false, narrowed := true }
def IntegerAddsUptoSaid : Prop := integerAddsUptoRow.holds Try.pinned (OpenSpec.upto integerAddsSpec)

/-- 'quadformlaw01.IntegerMultiplies', WHERE WHAT IT READS IS OF BULK AT MOST 1048576: true; the input reads as it did. -/
def integerMultipliesUptoRow : OpenClaim := { program := "ytnjekacagffelaa", sum := "149934d0943604bba3886de395850b51d3da27b66e566bc5b91dd49aeb6d99bc", func := "quadform/quadformlaw01.IntegerMultiplies", spec := "integerMultiplies", apart := false, narrowed := true }
def IntegerMultipliesUptoSaid : Prop := integerMultipliesUptoRow.holds Try.pinned (OpenSpec.upto integerMultipliesSpec)

/-- 'quadformlaw01.IntegerPowers', WHERE WHAT IT READS IS OF BULK AT MOST 1048576: true; the input reads as it did. -/
def integerPowersUptoRow : OpenClaim := { program := "ytnjekacagffelaa", sum := "149934d0943604bba3886de395850b51d3da27b66e566bc5b91dd49aeb6d99bc", func := "quadform/quadformlaw01.IntegerPowers", spec := "integerPowers", apart := false, narrowed := true }
def IntegerPowersUptoSaid : Prop := integerPowersUptoRow.holds Try.pinned (OpenSpec.upto integerPowersSpec)

/-- 'quadformlaw01.IntegerRing', WHERE WHAT IT READS IS OF BULK AT MOST 1048576: true; the input reads as it did. -/
def integerRingUptoRow : OpenClaim := { program := "ytnjekacagffelaa", sum := "149934d0943604bba3886de395850b51d3da27b66e566bc5b91dd49aeb6d99bc", func := "quadform/quadformlaw01.IntegerRing", spec := "integerRing", apart := false, narrowed := true }
def IntegerRingUptoSaid : Prop := integerRingUptoRow.holds Try.pinned (OpenSpec.upto integerRingSpec)

/-- 'quadformlaw01.IntegerPlain', WHERE WHAT IT READS IS OF BULK AT MOST 1048576: true; the input reads as it did. -/
def integerPlainUptoRow : OpenClaim := { program := "ytnjekacagffelaa", sum := "149934d0943604bba3886de395850b51d3da27b66e566bc5b91dd49aeb6d99bc", func := "quadform/quadformlaw01.IntegerPlain", spec := "integerPlain", apart := false, narrowed := true }
def IntegerPlainUptoSaid : Prop := integerPlainUptoRow.holds Try.pinned (OpenSpec.upto integerPlainSpec)

/-- 'quadformlaw01.IntegerParses', WHERE WHAT IT READS IS OF BULK AT MOST 1048576: true; the input reads as it did. -/
def integerParsesUptoRow : OpenClaim := { program := "ytnjekacagffelaa", sum := "149934d0943604bba3886de395850b51d3da27b66e566bc5b91dd49aeb6d99bc", func := "quadform/quadformlaw01.IntegerParses", spec := "integerParses", apart := false, narrowed := true }
def IntegerParsesUptoSaid : Prop := integerParsesUptoRow.holds Try.pinned (OpenSpec.upto integerParsesSpec)

/-- 'quadformlaw01.IntegerDigits', WHERE WHAT IT READS IS OF BULK AT MOST 1048576: true; the input reads as it did. -/
def integerDigitsUptoRow : OpenClaim := { program := "ytnjekacagffelaa", sum := "149934d0943604bba3886de395850b51d3da27b66e566bc5b91dd49aeb6d99bc", func := "quadform/quadformlaw01.IntegerDigits", spec := "integerDigits", apart := false, narrowed := true }
def IntegerDigitsUptoSaid : Prop := integerDigitsUptoRow.holds Try.pinned (OpenSpec.upto integerDigitsSpec)

/-- 'quadformlaw01.IntegerRoundTrip', WHERE WHAT IT READS IS OF BULK AT MOST 1048576: true; the input reads as it did. -/
def integerRoundTripUptoRow : OpenClaim := { program := "ytnjekacagffelaa", sum := "149934d0943604bba3886de395850b51d3da27b66e566bc5b91dd49aeb6d99bc", func := "quadform/quadformlaw01.IntegerRoundTrip", spec := "integerRoundTrip", apart := false, narrowed := true }
def IntegerRoundTripUptoSaid : Prop := integerRoundTripUptoRow.holds Try.pinned (OpenSpec.upto integerRoundTripSpec)

end Rows
end Go.Proofs.Ytnjekacagffelaa
