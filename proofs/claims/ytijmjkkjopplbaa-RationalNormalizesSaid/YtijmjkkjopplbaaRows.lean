/-
  No cell of these rows narrows 'for every input' (looked for: loops, veiled, ifaces, maps, wideKeys, modest, calm, conditions, laid).
  DERIVED. THE GIVEN ROWS OF THIS SEAT. 12 by the template 'for every input the law returns true; each argument reads behind the call as it read before'; 0 by the template 'total and deterministic' (their statements: YtijmjkkjopplbaaTotals.lean).
  GIVEN WITH THE SEED: the statements are not yours to turn. If you find one false, say at which input.
  Laid BY PROGRAM, IN A SANDBOX (cutbox-rows.mjs): the forced cells as the released guide's own fill.sh prints them over the translation 727de3be5cc60f47… (all of the seat's roots in one cut). By AI agents, Wed Nov 11 2026. No macro, syntax, notation, axiom, sorry.
-/
import Derived.Test.YtijmjkkjopplbaaChecked
import GoSem.Claim
import GoSem.ClaimJoined
import GoSem.ClaimMapViews
import Derived.JoinedTies
import Derived.KernelRfl
namespace Go.Proofs.Ytijmjkkjopplbaa
/- THE CELL 'sum', in the pinned program and in every row, IS THE sha256 OF THE DUMP (.gsa) THAT YtijmjkkjopplbaaProg.lean LOADS. Nothing in Lean hashes anything: it is a label: what it is worth is what the hold of that sum in a sandbox is worth. -/
noncomputable def Try.pinned : Pinned := { name := "ytijmjkkjopplbaa", sum := "727de3be5cc60f4719aa91b74cdc1de1f70caf89c87e07892ee3cbf93037774f", checked := Try.checked }
namespace Rows
def none {H : Type} : Left H := { results := [], args := [] }

/-- 'quadformlaw02.RationalNormalizes': WHATEVER THE INPUT: true; the input reads as it did. -/
def rationalNormalizesSpec : ChangeSpec := { name := "rationalNormalizes", fn := fun _ => fun
  | [d] => { results := [.lit (.bool true)], args := [d] }
  | _ => none }
def rationalNormalizesRow : OpenClaim := { program := "ytijmjkkjopplbaa", sum := "727de3be5cc60f4719aa91b74cdc1de1f70caf89c87e07892ee3cbf93037774f", func := "quadform/quadformlaw02.RationalNormalizes", spec := "rationalNormalizes", inPlace := ["internal/bytealg.IndexByteString", "internal/bytealg.IndexString"], named := ["internal/bytealg.MaxLen"], apart := false }
def RationalNormalizesSaid : Prop := rationalNormalizesRow.holds Try.pinned (OpenSpec.ofChange rationalNormalizesSpec)

/-- ITS FALSE NEIGHBOUR: 'it returns false'. Refute it at one input. -/
def rationalNormalizesWrong : ChangeSpec := { name := "rationalNormalizes", fn := fun _ => fun
  | [d] => { results := [.lit (.bool false)], args := [d] }
  | _ => none }
def RationalNormalizesWrongFalsely : Prop := rationalNormalizesRow.holds Try.pinned (OpenSpec.ofChange rationalNormalizesWrong)

/-- 'quadformlaw02.RationalFloors': WHATEVER THE INPUT: true; the input reads as it did. -/
def rationalFloorsSpec : ChangeSpec := { name := "rationalFloors", fn := fun _ => fun
  | [d] => { results := [.lit (.bool true)], args := [d] }
  | _ => none }
def rationalFloorsRow : OpenClaim := { program := "ytijmjkkjopplbaa", sum := "727de3be5cc60f4719aa91b74cdc1de1f70caf89c87e07892ee3cbf93037774f", func := "quadform/quadformlaw02.RationalFloors", spec := "rationalFloors", inPlace := ["internal/bytealg.IndexByteString", "internal/bytealg.IndexString"], named := ["internal/bytealg.MaxLen"], apart := false }
def RationalFloorsSaid : Prop := rationalFloorsRow.holds Try.pinned (OpenSpec.ofChange rationalFloorsSpec)

/-- ITS FALSE NEIGHBOUR: 'it returns false'. Refute it at one input. -/
def rationalFloorsWrong : ChangeSpec := { name := "rationalFloors", fn := fun _ => fun
  | [d] => { results := [.lit (.bool false)], args := [d] }
  | _ => none }
def RationalFloorsWrongFalsely : Prop := rationalFloorsRow.holds Try.pinned (OpenSpec.ofChange rationalFloorsWrong)

/-- 'quadformlaw02.RationalBetween': WHATEVER THE INPUT: true; the input reads as it did. -/
def rationalBetweenSpec : ChangeSpec := { name := "rationalBetween", fn := fun _ => fun
  | [d] => { results := [.lit (.bool true)], args := [d] }
  | _ => none }
def rationalBetweenRow : OpenClaim := { program := "ytijmjkkjopplbaa", sum := "727de3be5cc60f4719aa91b74cdc1de1f70caf89c87e07892ee3cbf93037774f", func := "quadform/quadformlaw02.RationalBetween", spec := "rationalBetween", inPlace := ["internal/bytealg.IndexByteString", "internal/bytealg.IndexString"], named := ["internal/bytealg.MaxLen"], apart := false }
def RationalBetweenSaid : Prop := rationalBetweenRow.holds Try.pinned (OpenSpec.ofChange rationalBetweenSpec)

/-- ITS FALSE NEIGHBOUR: 'it returns false'. Refute it at one input. -/
def rationalBetweenWrong : ChangeSpec := { name := "rationalBetween", fn := fun _ => fun
  | [d] => { results := [.lit (.bool false)], args := [d] }
  | _ => none }
def RationalBetweenWrongFalsely : Prop := rationalBetweenRow.holds Try.pinned (OpenSpec.ofChange rationalBetweenWrong)

/-- 'quadformlaw02.RationalParses': WHATEVER THE INPUT: true; the input reads as it did. -/
def rationalParsesSpec : ChangeSpec := { name := "rationalParses", fn := fun _ => fun
  | [d] => { results := [.lit (.bool true)], args := [d] }
  | _ => none }
def rationalParsesRow : OpenClaim := { program := "ytijmjkkjopplbaa", sum := "727de3be5cc60f4719aa91b74cdc1de1f70caf89c87e07892ee3cbf93037774f", func := "quadform/quadformlaw02.RationalParses", spec := "rationalParses", inPlace := ["internal/bytealg.IndexByteString", "internal/bytealg.IndexString"], named := ["internal/bytealg.MaxLen"], apart := false }
def RationalParsesSaid : Prop := rationalParsesRow.holds Try.pinned (OpenSpec.ofChange rationalParsesSpec)

/-- ITS FALSE NEIGHBOUR: 'it returns false'. Refute it at one input. -/
def rationalParsesWrong : ChangeSpec := { name := "rationalParses", fn := fun _ => fun
  | [d] => { results := [.lit (.bool false)], args := [d] }
  | _ => none }
def RationalParsesWrongFalsely : Prop := rationalParsesRow.holds Try.pinned (OpenSpec.ofChange rationalParsesWrong)

/-- 'quadformlaw02.RationalReads': WHATEVER THE INPUT: true; the input reads as it did. -/
def rationalReadsSpec : ChangeSpec := { name := "rationalReads", fn := fun _ => fun
  | [d1, d2, d3] => { results := [.lit (.bool true)], args := [d1, d2, d3] }
  | _ => none }
def rationalReadsRow : OpenClaim := { program := "ytijmjkkjopplbaa", sum := "727de3be5cc60f4719aa91b74cdc1de1f70caf89c87e07892ee3cbf93037774f", func := "quadform/quadformlaw02.RationalReads", spec := "rationalReads", inPlace := ["internal/bytealg.IndexByteString", "internal/bytealg.IndexString"], named := ["internal/bytealg.MaxLen"], apart := false }
def RationalReadsSaid : Prop := rationalReadsRow.holds Try.pinned (OpenSpec.ofChange rationalReadsSpec)

/-- ITS FALSE NEIGHBOUR: 'it returns false'. Refute it at one input. -/
def rationalReadsWrong : ChangeSpec := { name := "rationalReads", fn := fun _ => fun
  | [d1, d2, d3] => { results := [.lit (.bool false)], args := [d1, d2, d3] }
  | _ => none }
def RationalReadsWrongFalsely : Prop := rationalReadsRow.holds Try.pinned (OpenSpec.ofChange rationalReadsWrong)

/-- 'quadformlaw02.RationalLengths': WHATEVER THE INPUT: true; the input reads as it did. -/
def rationalLengthsSpec : ChangeSpec := { name := "rationalLengths", fn := fun _ => fun
  | [d1, d2, d3] => { results := [.lit (.bool true)], args := [d1, d2, d3] }
  | _ => none }
def rationalLengthsRow : OpenClaim := { program := "ytijmjkkjopplbaa", sum := "727de3be5cc60f4719aa91b74cdc1de1f70caf89c87e07892ee3cbf93037774f", func := "quadform/quadformlaw02.RationalLengths", spec := "rationalLengths", inPlace := ["internal/bytealg.IndexByteString", "internal/bytealg.IndexString"], named := ["internal/bytealg.MaxLen"], apart := false }
def RationalLengthsSaid : Prop := rationalLengthsRow.holds Try.pinned (OpenSpec.ofChange rationalLengthsSpec)

/-- ITS FALSE NEIGHBOUR: 'it returns false'. Refute it at one input. -/
def rationalLengthsWrong : ChangeSpec := { name := "rationalLengths", fn := fun _ => fun
  | [d1, d2, d3] => { results := [.lit (.bool false)], args := [d1, d2, d3] }
  | _ => none }
def RationalLengthsWrongFalsely : Prop := rationalLengthsRow.holds Try.pinned (OpenSpec.ofChange rationalLengthsWrong)

/-- 'quadformlaw02.RationalFormats': WHATEVER THE INPUT: true; the input reads as it did. -/
def rationalFormatsSpec : ChangeSpec := { name := "rationalFormats", fn := fun _ => fun
  | [d] => { results := [.lit (.bool true)], args := [d] }
  | _ => none }
def rationalFormatsRow : OpenClaim := { program := "ytijmjkkjopplbaa", sum := "727de3be5cc60f4719aa91b74cdc1de1f70caf89c87e07892ee3cbf93037774f", func := "quadform/quadformlaw02.RationalFormats", spec := "rationalFormats", inPlace := ["internal/bytealg.IndexByteString", "internal/bytealg.IndexString"], named := ["internal/bytealg.MaxLen"], apart := false }
def RationalFormatsSaid : Prop := rationalFormatsRow.holds Try.pinned (OpenSpec.ofChange rationalFormatsSpec)

/-- ITS FALSE NEIGHBOUR: 'it returns false'. Refute it at one input. -/
def rationalFormatsWrong : ChangeSpec := { name := "rationalFormats", fn := fun _ => fun
  | [d] => { results := [.lit (.bool false)], args := [d] }
  | _ => none }
def RationalFormatsWrongFalsely : Prop := rationalFormatsRow.holds Try.pinned (OpenSpec.ofChange rationalFormatsWrong)

/-- 'quadformlaw02.RationalRoundTrip': WHATEVER THE INPUT: true; the input reads as it did. -/
def rationalRoundTripSpec : ChangeSpec := { name := "rationalRoundTrip", fn := fun _ => fun
  | [d] => { results := [.lit (.bool true)], args := [d] }
  | _ => none }
def rationalRoundTripRow : OpenClaim := { program := "ytijmjkkjopplbaa", sum := "727de3be5cc60f4719aa91b74cdc1de1f70caf89c87e07892ee3cbf93037774f", func := "quadform/quadformlaw02.RationalRoundTrip", spec := "rationalRoundTrip", inPlace := ["internal/bytealg.IndexByteString", "internal/bytealg.IndexString"], named := ["internal/bytealg.MaxLen"], apart := false }
def RationalRoundTripSaid : Prop := rationalRoundTripRow.holds Try.pinned (OpenSpec.ofChange rationalRoundTripSpec)

/-- ITS FALSE NEIGHBOUR: 'it returns false'. Refute it at one input. -/
def rationalRoundTripWrong : ChangeSpec := { name := "rationalRoundTrip", fn := fun _ => fun
  | [d] => { results := [.lit (.bool false)], args := [d] }
  | _ => none }
def RationalRoundTripWrongFalsely : Prop := rationalRoundTripRow.holds Try.pinned (OpenSpec.ofChange rationalRoundTripWrong)

/-- 'quadformlaw02.RationalNew': WHATEVER THE INPUT: true; the input reads as it did. -/
def rationalNewSpec : ChangeSpec := { name := "rationalNew", fn := fun _ => fun
  | [d1, d2] => { results := [.lit (.bool true)], args := [d1, d2] }
  | _ => none }
def rationalNewRow : OpenClaim := { program := "ytijmjkkjopplbaa", sum := "727de3be5cc60f4719aa91b74cdc1de1f70caf89c87e07892ee3cbf93037774f", func := "quadform/quadformlaw02.RationalNew", spec := "rationalNew", inPlace := ["internal/bytealg.IndexByteString", "internal/bytealg.IndexString"], named := ["internal/bytealg.MaxLen"], apart := false }
def RationalNewSaid : Prop := rationalNewRow.holds Try.pinned (OpenSpec.ofChange rationalNewSpec)

/-- ITS FALSE NEIGHBOUR: 'it returns false'. Refute it at one input. -/
def rationalNewWrong : ChangeSpec := { name := "rationalNew", fn := fun _ => fun
  | [d1, d2] => { results := [.lit (.bool false)], args := [d1, d2] }
  | _ => none }
def RationalNewWrongFalsely : Prop := rationalNewRow.holds Try.pinned (OpenSpec.ofChange rationalNewWrong)

/-- 'quadformlaw02.RationalMultiplies': WHATEVER THE INPUT: true; the input reads as it did. -/
def rationalMultipliesSpec : ChangeSpec := { name := "rationalMultiplies", fn := fun _ => fun
  | [d1, d2] => { results := [.lit (.bool true)], args := [d1, d2] }
  | _ => none }
def rationalMultipliesRow : OpenClaim := { program := "ytijmjkkjopplbaa", sum := "727de3be5cc60f4719aa91b74cdc1de1f70caf89c87e07892ee3cbf93037774f", func := "quadform/quadformlaw02.RationalMultiplies", spec := "rationalMultiplies", inPlace := ["internal/bytealg.IndexByteString", "internal/bytealg.IndexString"], named := ["internal/bytealg.MaxLen"], apart := false }
def RationalMultipliesSaid : Prop := rationalMultipliesRow.holds Try.pinned (OpenSpec.ofChange rationalMultipliesSpec)

/-- ITS FALSE NEIGHBOUR: 'it returns false'. Refute it at one input. -/
def rationalMultipliesWrong : ChangeSpec := { name := "rationalMultiplies", fn := fun _ => fun
  | [d1, d2] => { results := [.lit (.bool false)], args := [d1, d2] }
  | _ => none }
def RationalMultipliesWrongFalsely : Prop := rationalMultipliesRow.holds Try.pinned (OpenSpec.ofChange rationalMultipliesWrong)

/-- 'quadformlaw02.RationalDivides': WHATEVER THE INPUT: true; the input reads as it did. -/
def rationalDividesSpec : ChangeSpec := { name := "rationalDivides", fn := fun _ => fun
  | [d1, d2] => { results := [.lit (.bool true)], args := [d1, d2] }
  | _ => none }
def rationalDividesRow : OpenClaim := { program := "ytijmjkkjopplbaa", sum := "727de3be5cc60f4719aa91b74cdc1de1f70caf89c87e07892ee3cbf93037774f", func := "quadform/quadformlaw02.RationalDivides", spec := "rationalDivides", inPlace := ["internal/bytealg.IndexByteString", "internal/bytealg.IndexString"], named := ["internal/bytealg.MaxLen"], apart := false }
def RationalDividesSaid : Prop := rationalDividesRow.holds Try.pinned (OpenSpec.ofChange rationalDividesSpec)

/-- ITS FALSE NEIGHBOUR: 'it returns false'. Refute it at one input. -/
def rationalDividesWrong : ChangeSpec := { name := "rationalDivides", fn := fun _ => fun
  | [d1, d2] => { results := [.lit (.bool false)], args := [d1, d2] }
  | _ => none }
def RationalDividesWrongFalsely : Prop := rationalDividesRow.holds Try.pinned (OpenSpec.ofChange rationalDividesWrong)

/-- 'quadformlaw02.RationalCompares': WHATEVER THE INPUT: true; the input reads as it did. -/
def rationalComparesSpec : ChangeSpec := { name := "rationalCompares", fn := fun _ => fun
  | [d1, d2] => { results := [.lit (.bool true)], args := [d1, d2] }
  | _ => none }
def rationalComparesRow : OpenClaim := { program := "ytijmjkkjopplbaa", sum := "727de3be5cc60f4719aa91b74cdc1de1f70caf89c87e07892ee3cbf93037774f", func := "quadform/quadformlaw02.RationalCompares", spec := "rationalCompares", inPlace := ["internal/bytealg.IndexByteString", "internal/bytealg.IndexString"], unfollowed := true, recurses := true, named := ["internal/bytealg.MaxLen"], apart := false }
def RationalComparesSaid : Prop := rationalComparesRow.holds Try.pinned (OpenSpec.ofChange rationalComparesSpec)

/-- ITS FALSE NEIGHBOUR: 'it returns false'. Refute it at one input. -/
def rationalComparesWrong : ChangeSpec := { name := "rationalCompares", fn := fun _ => fun
  | [d1, d2] => { results := [.lit (.bool false)], args := [d1, d2] }
  | _ => none }
def RationalComparesWrongFalsely : Prop := rationalComparesRow.holds Try.pinned (OpenSpec.ofChange rationalComparesWrong)

/- THE SECOND FORM. 'bulk': how many values and letters a reading holds, each counted each time it is reached (what is shared counts as often as it is met; a slice's spare places count too). A statement '..UptoSaid' is the law's where the arguments, and the package variables that the reading takes, are together of bulk at most 1048576: NARROWER than '..Said'. Prove '..Said' where nothing that the law and all that it calls make is longer than what came in: it says more and counts as full. Else prove '..UptoSaid'. A law counts once. -/
mutual
def uptoBulk {H : Type} : DataW H → Nat
  | .lit (.string bytes) => bytes.length + 1
  | .lit _ => 1
  | .nil => 1
  | .ptr d => uptoBulk d + 1
  | .slice elems spare => uptoBulkAll elems + uptoBulkAll spare + 1
  | .agg parts => uptoBulkAll parts + 1
  | .iface _ d => uptoBulk d + 1
  | .map entries => uptoBulkEntries entries + 1
  | .held _ => 1
def uptoBulkAll {H : Type} : List (DataW H) → Nat
  | [] => 0
  | d :: r => uptoBulk d + uptoBulkAll r
def uptoBulkEntries {H : Type} : List (Lit × DataW H) → Nat
  | [] => 0
  | x :: r => uptoBulkEntry x + uptoBulkEntries r
def uptoBulkEntry {H : Type} : Lit × DataW H → Nat
  | (.string bytes, d) => bytes.length + uptoBulk d + 1
  | (_, d) => uptoBulk d + 1
 end
def uptoSmall : (H : Type) → List (DataW H) → Bool := fun _ ds => decide (uptoBulkAll ds ≤ 1048576)
def OpenSpec.upto (s : _root_.Go.ChangeSpec) : _root_.Go.OpenSpec := { _root_.Go.OpenSpec.ofChange s with cond := some uptoSmall }

/-- 'quadformlaw02.RationalNormalizes', WHERE WHAT IT READS IS OF BULK AT MOST 1048576: true; the input reads as it did. -/
def rationalNormalizesUptoRow : OpenClaim := { program := "ytijmjkkjopplbaa", sum := "727de3be5cc60f4719aa91b74cdc1de1f70caf89c87e07892ee3cbf93037774f", func := "quadform/quadformlaw02.RationalNormalizes", spec := "rationalNormalizes", inPlace := ["internal/bytealg.IndexByteString", "internal/bytealg.IndexString"], named := ["internal/bytealg.MaxLen"], apart := false, narrowed := true }
def RationalNormalizesUptoSaid : Prop := rationalNormalizesUptoRow.holds Try.pinned (OpenSpec.upto rationalNormalizesSpec)

/-- 'quadformlaw02.RationalFloors', WHERE WHAT IT READS IS OF BULK AT MOST 1048576: true; the input reads as it did. -/
def rationalFloorsUptoRow : OpenClaim := { program := "ytijmjkkjopplbaa", sum := "727de3be5cc60f4719aa91b74cdc1de1f70caf89c87e07892ee3cbf93037774f", func := "quadform/quadformlaw02.RationalFloors", spec := "rationalFloors", inPlace := ["internal/bytealg.IndexByteString", "internal/bytealg.IndexString"], named := ["internal/bytealg.MaxLen"], apart := false, narrowed := true }
def RationalFloorsUptoSaid : Prop := rationalFloorsUptoRow.holds Try.pinned (OpenSpec.upto rationalFloorsSpec)

/-- 'quadformlaw02.RationalBetween', WHERE WHAT IT READS IS OF BULK AT MOST 1048576: true; the input reads as it did. -/
def rationalBetweenUptoRow : OpenClaim := { program := "ytijmjkkjopplbaa", sum := "727de3be5cc60f4719aa91b74cdc1de1f70caf89c87e07892ee3cbf93037774f", func := "quadform/quadformlaw02.RationalBetween", spec := "rationalBetween", inPlace := ["internal/bytealg.IndexByteString", "internal/bytealg.IndexString"], named := ["internal/bytealg.MaxLen"], apart := false, narrowed := true }
def RationalBetweenUptoSaid : Prop := rationalBetweenUptoRow.holds Try.pinned (OpenSpec.upto rationalBetweenSpec)

/-- 'quadformlaw02.RationalParses', WHERE WHAT IT READS IS OF BULK AT MOST 1048576: true; the input reads as it did. -/
def rationalParsesUptoRow : OpenClaim := { program := "ytijmjkkjopplbaa", sum := "727de3be5cc60f4719aa91b74cdc1de1f70caf89c87e07892ee3cbf93037774f", func := "quadform/quadformlaw02.RationalParses", spec := "rationalParses", inPlace := ["internal/bytealg.IndexByteString", "internal/bytealg.IndexString"], named := ["internal/bytealg.MaxLen"], apart := false, narrowed := true }
def RationalParsesUptoSaid : Prop := rationalParsesUptoRow.holds Try.pinned (OpenSpec.upto rationalParsesSpec)

/-- 'quadformlaw02.RationalReads', WHERE WHAT IT READS IS OF BULK AT MOST 1048576: true; the input reads as it did. -/
def rationalReadsUptoRow : OpenClaim := { program := "ytijmjkkjopplbaa", sum := "727de3be5cc60f4719aa91b74cdc1de1f70caf89c87e07892ee3cbf93037774f", func := "quadform/quadformlaw02.RationalReads", spec := "rationalReads", inPlace := ["internal/bytealg.IndexByteString", "internal/bytealg.IndexString"], named := ["internal/bytealg.MaxLen"], apart := false, narrowed := true }
def RationalReadsUptoSaid : Prop := rationalReadsUptoRow.holds Try.pinned (OpenSpec.upto rationalReadsSpec)

/-- 'quadformlaw02.RationalLengths', WHERE WHAT IT READS IS OF BULK AT MOST 1048576: true; the input reads as it did. -/
def rationalLengthsUptoRow : OpenClaim := { program := "ytijmjkkjopplbaa", sum := "727de3be5cc60f4719aa91b74cdc1de1f70caf89c87e07892ee3cbf93037774f", func := "quadform/quadformlaw02.RationalLengths", spec := "rationalLengths", inPlace := ["internal/bytealg.IndexByteString", "internal/bytealg.IndexString"], named := ["internal/bytealg.MaxLen"], apart := false, narrowed := true }
def RationalLengthsUptoSaid : Prop := rationalLengthsUptoRow.holds Try.pinned (OpenSpec.upto rationalLengthsSpec)

/-- 'quadformlaw02.RationalFormats', WHERE WHAT IT READS IS OF BULK AT MOST 1048576: true; the input reads as it did. -/
def rationalFormatsUptoRow : OpenClaim := { program := "ytijmjkkjopplbaa", sum := "727de3be5cc60f4719aa91b74cdc1de1f70caf89c87e07892ee3cbf93037774f", func := "quadform/quadformlaw02.RationalFormats", spec := "rationalFormats", inPlace := ["internal/bytealg.IndexByteString", "internal/bytealg.IndexString"], named := ["internal/bytealg.MaxLen"], apart := false, narrowed := true }
def RationalFormatsUptoSaid : Prop := rationalFormatsUptoRow.holds Try.pinned (OpenSpec.upto rationalFormatsSpec)

/-- 'quadformlaw02.RationalRoundTrip', WHERE WHAT IT READS IS OF BULK AT MOST 1048576: true; the input reads as it did. -/
def rationalRoundTripUptoRow : OpenClaim := { program := "ytijmjkkjopplbaa", sum := "727de3be5cc60f4719aa91b74cdc1de1f70caf89c87e07892ee3cbf93037774f", func := "quadform/quadformlaw02.RationalRoundTrip", spec := "rationalRoundTrip", inPlace := ["internal/bytealg.IndexByteString", "internal/bytealg.IndexString"], named := ["internal/bytealg.MaxLen"], apart := false, narrowed := true }
def RationalRoundTripUptoSaid : Prop := rationalRoundTripUptoRow.holds Try.pinned (OpenSpec.upto rationalRoundTripSpec)

/-- 'quadformlaw02.RationalNew', WHERE WHAT IT READS IS OF BULK AT MOST 1048576: true; the input reads as it did. -/
def rationalNewUptoRow : OpenClaim := { program := "ytijmjkkjopplbaa", sum := "727de3be5cc60f4719aa91b74cdc1de1f70caf89c87e07892ee3cbf93037774f", func := "quadform/quadformlaw02.RationalNew", spec := "rationalNew", inPlace := ["internal/bytealg.IndexByteString", "internal/bytealg.IndexString"], named := ["internal/bytealg.MaxLen"], apart := false, narrowed := true }
def RationalNewUptoSaid : Prop := rationalNewUptoRow.holds Try.pinned (OpenSpec.upto rationalNewSpec)

/-- 'quadformlaw02.RationalMultiplies', WHERE WHAT IT READS IS OF BULK AT MOST 1048576: true; the input reads as it did. -/
def rationalMultipliesUptoRow : OpenClaim := { program := "ytijmjkkjopplbaa", sum := "727de3be5cc60f4719aa91b74cdc1de1f70caf89c87e07892ee3cbf93037774f", func := "quadform/quadformlaw02.RationalMultiplies", spec := "rationalMultiplies", inPlace := ["internal/bytealg.IndexByteString", "internal/bytealg.IndexString"], named := ["internal/bytealg.MaxLen"], apart := false, narrowed := true }
def RationalMultipliesUptoSaid : Prop := rationalMultipliesUptoRow.holds Try.pinned (OpenSpec.upto rationalMultipliesSpec)

/-- 'quadformlaw02.RationalDivides', WHERE WHAT IT READS IS OF BULK AT MOST 1048576: true; the input reads as it did. -/
def rationalDividesUptoRow : OpenClaim := { program := "ytijmjkkjopplbaa", sum := "727de3be5cc60f4719aa91b74cdc1de1f70caf89c87e07892ee3cbf93037774f", func := "quadform/quadformlaw02.RationalDivides", spec := "rationalDivides", inPlace := ["internal/bytealg.IndexByteString", "internal/bytealg.IndexString"], named := ["internal/bytealg.MaxLen"], apart := false, narrowed := true }
def RationalDividesUptoSaid : Prop := rationalDividesUptoRow.holds Try.pinned (OpenSpec.upto rationalDividesSpec)

/-- 'quadformlaw02.RationalCompares', WHERE WHAT IT READS IS OF BULK AT MOST 1048576: true; the input reads as it did. -/
def rationalComparesUptoRow : OpenClaim := { program := "ytijmjkkjopplbaa", sum := "727de3be5cc60f4719aa91b74cdc1de1f70caf89c87e07892ee3cbf93037774f", func := "quadform/quadformlaw02.RationalCompares", spec := "rationalCompares", inPlace := ["internal/bytealg.IndexByteString", "internal/bytealg.IndexString"], unfollowed := true, recurses := true, named := ["internal/bytealg.MaxLen"], apart := false, narrowed := true }
def RationalComparesUptoSaid : Prop := rationalComparesUptoRow.holds Try.pinned (OpenSpec.upto rationalComparesSpec)

end Rows
end Go.Proofs.Ytijmjkkjopplbaa
