/-
  No cell of these rows narrows 'for every input' (looked for: loops, veiled, ifaces, maps, wideKeys, modest, calm, conditions, laid).
  DERIVED. THE GIVEN ROWS OF THIS SEAT. 12 by the template 'for every input the law returns true; each argument reads behind the call as it read before'; 0 by the template 'total and deterministic' (their statements: YtdbgalohppfkfaaTotals.lean).
  GIVEN WITH THE SEED: the statements are not yours to turn. If you find one false, say at which input.
  Laid BY PROGRAM, IN A SANDBOX (cutbox-rows.mjs): the forced cells as the released guide's own fill.sh prints them over the translation 53045af53cd29846… (all of the seat's roots in one cut). By AI agents, Wed Nov 11 2026. No macro, syntax, notation, axiom, sorry.
-/
import Derived.Test.YtdbgalohppfkfaaChecked
import GoSem.Claim
import GoSem.ClaimJoined
import GoSem.ClaimMapViews
import Derived.JoinedTies
import Derived.KernelRfl
namespace Go.Proofs.Ytdbgalohppfkfaa
/- THE CELL 'sum', in the pinned program and in every row, IS THE sha256 OF THE DUMP (.gsa) THAT YtdbgalohppfkfaaProg.lean LOADS. Nothing in Lean hashes anything: it is a label: what it is worth is what the hold of that sum in a sandbox is worth. -/
noncomputable def Try.pinned : Pinned := { name := "ytdbgalohppfkfaa", sum := "53045af53cd29846daa0f11ffa9d725c99e4df9ef050102704313e0722c6e312", checked := Try.checked }
namespace Rows
def none {H : Type} : Left H := { results := [], args := [] }

/-- 'quadformlaw01.IntegerLimits': WHATEVER THE INPUT: true; the input reads as it did. -/
def integerLimitsSpec : ChangeSpec := { name := "integerLimits", fn := fun _ => fun
  | [] => { results := [.lit (.bool true)], args := [] }
  | _ => none }
def integerLimitsRow : OpenClaim := { program := "ytdbgalohppfkfaa", sum := "53045af53cd29846daa0f11ffa9d725c99e4df9ef050102704313e0722c6e312", func := "quadform/quadformlaw01.IntegerLimits", spec := "integerLimits", apart := false }
def IntegerLimitsSaid : Prop := integerLimitsRow.holds Try.pinned (OpenSpec.ofChange integerLimitsSpec)

/-- ITS FALSE NEIGHBOUR: 'it returns false'. Refute it at one input. -/
def integerLimitsWrong : ChangeSpec := { name := "integerLimits", fn := fun _ => fun
  | [] => { results := [.lit (.bool false)], args := [] }
  | _ => none }
def IntegerLimitsWrongFalsely : Prop := integerLimitsRow.holds Try.pinned (OpenSpec.ofChange integerLimitsWrong)

/-- 'quadformlaw01.IntegerNormalizes': WHATEVER THE INPUT: true; the input reads as it did. -/
def integerNormalizesSpec : ChangeSpec := { name := "integerNormalizes", fn := fun _ => fun
  | [d] => { results := [.lit (.bool true)], args := [d] }
  | _ => none }
def integerNormalizesRow : OpenClaim := { program := "ytdbgalohppfkfaa", sum := "53045af53cd29846daa0f11ffa9d725c99e4df9ef050102704313e0722c6e312", func := "quadform/quadformlaw01.IntegerNormalizes", spec := "integerNormalizes", apart := false }
def IntegerNormalizesSaid : Prop := integerNormalizesRow.holds Try.pinned (OpenSpec.ofChange integerNormalizesSpec)

/-- ITS FALSE NEIGHBOUR: 'it returns false'. Refute it at one input. -/
def integerNormalizesWrong : ChangeSpec := { name := "integerNormalizes", fn := fun _ => fun
  | [d] => { results := [.lit (.bool false)], args := [d] }
  | _ => none }
def IntegerNormalizesWrongFalsely : Prop := integerNormalizesRow.holds Try.pinned (OpenSpec.ofChange integerNormalizesWrong)

/-- 'quadformlaw01.IntegerSmall': WHATEVER THE INPUT: true; the input reads as it did. -/
def integerSmallSpec : ChangeSpec := { name := "integerSmall", fn := fun _ => fun
  | [d] => { results := [.lit (.bool true)], args := [d] }
  | _ => none }
def integerSmallRow : OpenClaim := { program := "ytdbgalohppfkfaa", sum := "53045af53cd29846daa0f11ffa9d725c99e4df9ef050102704313e0722c6e312", func := "quadform/quadformlaw01.IntegerSmall", spec := "integerSmall", apart := false }
def IntegerSmallSaid : Prop := integerSmallRow.holds Try.pinned (OpenSpec.ofChange integerSmallSpec)

/-- ITS FALSE NEIGHBOUR: 'it returns false'. Refute it at one input. -/
def integerSmallWrong : ChangeSpec := { name := "integerSmall", fn := fun _ => fun
  | [d] => { results := [.lit (.bool false)], args := [d] }
  | _ => none }
def IntegerSmallWrongFalsely : Prop := integerSmallRow.holds Try.pinned (OpenSpec.ofChange integerSmallWrong)

/-- 'quadformlaw01.IntegerFits': WHATEVER THE INPUT: true; the input reads as it did. -/
def integerFitsSpec : ChangeSpec := { name := "integerFits", fn := fun _ => fun
  | [d] => { results := [.lit (.bool true)], args := [d] }
  | _ => none }
def integerFitsRow : OpenClaim := { program := "ytdbgalohppfkfaa", sum := "53045af53cd29846daa0f11ffa9d725c99e4df9ef050102704313e0722c6e312", func := "quadform/quadformlaw01.IntegerFits", spec := "integerFits", apart := false }
def IntegerFitsSaid : Prop := integerFitsRow.holds Try.pinned (OpenSpec.ofChange integerFitsSpec)

/-- ITS FALSE NEIGHBOUR: 'it returns false'. Refute it at one input. -/
def integerFitsWrong : ChangeSpec := { name := "integerFits", fn := fun _ => fun
  | [d] => { results := [.lit (.bool false)], args := [d] }
  | _ => none }
def IntegerFitsWrongFalsely : Prop := integerFitsRow.holds Try.pinned (OpenSpec.ofChange integerFitsWrong)

/-- 'quadformlaw01.IntegerDivides': WHATEVER THE INPUT: true; the input reads as it did. -/
def integerDividesSpec : ChangeSpec := { name := "integerDivides", fn := fun _ => fun
  | [d1, d2] => { results := [.lit (.bool true)], args := [d1, d2] }
  | _ => none }
def integerDividesRow : OpenClaim := { program := "ytdbgalohppfkfaa", sum := "53045af53cd29846daa0f11ffa9d725c99e4df9ef050102704313e0722c6e312", func := "quadform/quadformlaw01.IntegerDivides", spec := "integerDivides", apart := false }
def IntegerDividesSaid : Prop := integerDividesRow.holds Try.pinned (OpenSpec.ofChange integerDividesSpec)

/-- ITS FALSE NEIGHBOUR: 'it returns false'. Refute it at one input. -/
def integerDividesWrong : ChangeSpec := { name := "integerDivides", fn := fun _ => fun
  | [d1, d2] => { results := [.lit (.bool false)], args := [d1, d2] }
  | _ => none }
def IntegerDividesWrongFalsely : Prop := integerDividesRow.holds Try.pinned (OpenSpec.ofChange integerDividesWrong)

/-- 'quadformlaw01.IntegerDivision': WHATEVER THE INPUT: true; the input reads as it did. -/
def integerDivisionSpec : ChangeSpec := { name := "integerDivision", fn := fun _ => fun
  | [d1, d2] => { results := [.lit (.bool true)], args := [d1, d2] }
  | _ => none }
def integerDivisionRow : OpenClaim := { program := "ytdbgalohppfkfaa", sum := "53045af53cd29846daa0f11ffa9d725c99e4df9ef050102704313e0722c6e312", func := "quadform/quadformlaw01.IntegerDivision", spec := "integerDivision", apart := false }
def IntegerDivisionSaid : Prop := integerDivisionRow.holds Try.pinned (OpenSpec.ofChange integerDivisionSpec)

/-- ITS FALSE NEIGHBOUR: 'it returns false'. Refute it at one input. -/
def integerDivisionWrong : ChangeSpec := { name := "integerDivision", fn := fun _ => fun
  | [d1, d2] => { results := [.lit (.bool false)], args := [d1, d2] }
  | _ => none }
def IntegerDivisionWrongFalsely : Prop := integerDivisionRow.holds Try.pinned (OpenSpec.ofChange integerDivisionWrong)

/-- 'quadformlaw01.IntegerRoots': WHATEVER THE INPUT: true; the input reads as it did. -/
def integerRootsSpec : ChangeSpec := { name := "integerRoots", fn := fun _ => fun
  | [d] => { results := [.lit (.bool true)], args := [d] }
  | _ => none }
def integerRootsRow : OpenClaim := { program := "ytdbgalohppfkfaa", sum := "53045af53cd29846daa0f11ffa9d725c99e4df9ef050102704313e0722c6e312", func := "quadform/quadformlaw01.IntegerRoots", spec := "integerRoots", apart := false }
def IntegerRootsSaid : Prop := integerRootsRow.holds Try.pinned (OpenSpec.ofChange integerRootsSpec)

/-- ITS FALSE NEIGHBOUR: 'it returns false'. Refute it at one input. -/
def integerRootsWrong : ChangeSpec := { name := "integerRoots", fn := fun _ => fun
  | [d] => { results := [.lit (.bool false)], args := [d] }
  | _ => none }
def IntegerRootsWrongFalsely : Prop := integerRootsRow.holds Try.pinned (OpenSpec.ofChange integerRootsWrong)

/-- 'quadformlaw01.IntegerSquares': WHATEVER THE INPUT: true; the input reads as it did. -/
def integerSquaresSpec : ChangeSpec := { name := "integerSquares", fn := fun _ => fun
  | [d1, d2] => { results := [.lit (.bool true)], args := [d1, d2] }
  | _ => none }
def integerSquaresRow : OpenClaim := { program := "ytdbgalohppfkfaa", sum := "53045af53cd29846daa0f11ffa9d725c99e4df9ef050102704313e0722c6e312", func := "quadform/quadformlaw01.IntegerSquares", spec := "integerSquares", apart := false }
def IntegerSquaresSaid : Prop := integerSquaresRow.holds Try.pinned (OpenSpec.ofChange integerSquaresSpec)

/-- ITS FALSE NEIGHBOUR: 'it returns false'. Refute it at one input. -/
def integerSquaresWrong : ChangeSpec := { name := "integerSquares", fn := fun _ => fun
  | [d1, d2] => { results := [.lit (.bool false)], args := [d1, d2] }
  | _ => none }
def IntegerSquaresWrongFalsely : Prop := integerSquaresRow.holds Try.pinned (OpenSpec.ofChange integerSquaresWrong)

/-- 'quadformlaw01.IntegerFormats': WHATEVER THE INPUT: true; the input reads as it did. -/
def integerFormatsSpec : ChangeSpec := { name := "integerFormats", fn := fun _ => fun
  | [d] => { results := [.lit (.bool true)], args := [d] }
  | _ => none }
def integerFormatsRow : OpenClaim := { program := "ytdbgalohppfkfaa", sum := "53045af53cd29846daa0f11ffa9d725c99e4df9ef050102704313e0722c6e312", func := "quadform/quadformlaw01.IntegerFormats", spec := "integerFormats", apart := false }
def IntegerFormatsSaid : Prop := integerFormatsRow.holds Try.pinned (OpenSpec.ofChange integerFormatsSpec)

/-- ITS FALSE NEIGHBOUR: 'it returns false'. Refute it at one input. -/
def integerFormatsWrong : ChangeSpec := { name := "integerFormats", fn := fun _ => fun
  | [d] => { results := [.lit (.bool false)], args := [d] }
  | _ => none }
def IntegerFormatsWrongFalsely : Prop := integerFormatsRow.holds Try.pinned (OpenSpec.ofChange integerFormatsWrong)

/-- 'quadformlaw01.IntegerGcds': WHATEVER THE INPUT: true; the input reads as it did. -/
def integerGcdsSpec : ChangeSpec := { name := "integerGcds", fn := fun _ => fun
  | [d1, d2] => { results := [.lit (.bool true)], args := [d1, d2] }
  | _ => none }
def integerGcdsRow : OpenClaim := { program := "ytdbgalohppfkfaa", sum := "53045af53cd29846daa0f11ffa9d725c99e4df9ef050102704313e0722c6e312", func := "quadform/quadformlaw01.IntegerGcds", spec := "integerGcds", apart := false }
def IntegerGcdsSaid : Prop := integerGcdsRow.holds Try.pinned (OpenSpec.ofChange integerGcdsSpec)

/-- ITS FALSE NEIGHBOUR: 'it returns false'. Refute it at one input. -/
def integerGcdsWrong : ChangeSpec := { name := "integerGcds", fn := fun _ => fun
  | [d1, d2] => { results := [.lit (.bool false)], args := [d1, d2] }
  | _ => none }
def IntegerGcdsWrongFalsely : Prop := integerGcdsRow.holds Try.pinned (OpenSpec.ofChange integerGcdsWrong)

/-- 'quadformlaw01.IntegerCommon': WHATEVER THE INPUT: true; the input reads as it did. -/
def integerCommonSpec : ChangeSpec := { name := "integerCommon", fn := fun _ => fun
  | [d1, d2, d3] => { results := [.lit (.bool true)], args := [d1, d2, d3] }
  | _ => none }
def integerCommonRow : OpenClaim := { program := "ytdbgalohppfkfaa", sum := "53045af53cd29846daa0f11ffa9d725c99e4df9ef050102704313e0722c6e312", func := "quadform/quadformlaw01.IntegerCommon", spec := "integerCommon", apart := false }
def IntegerCommonSaid : Prop := integerCommonRow.holds Try.pinned (OpenSpec.ofChange integerCommonSpec)

/-- ITS FALSE NEIGHBOUR: 'it returns false'. Refute it at one input. -/
def integerCommonWrong : ChangeSpec := { name := "integerCommon", fn := fun _ => fun
  | [d1, d2, d3] => { results := [.lit (.bool false)], args := [d1, d2, d3] }
  | _ => none }
def IntegerCommonWrongFalsely : Prop := integerCommonRow.holds Try.pinned (OpenSpec.ofChange integerCommonWrong)

/-- 'quadformlaw01.IntegerCompares': WHATEVER THE INPUT: true; the input reads as it did. -/
def integerComparesSpec : ChangeSpec := { name := "integerCompares", fn := fun _ => fun
  | [d1, d2] => { results := [.lit (.bool true)], args := [d1, d2] }
  | _ => none }
def integerComparesRow : OpenClaim := { program := "ytdbgalohppfkfaa", sum := "53045af53cd29846daa0f11ffa9d725c99e4df9ef050102704313e0722c6e312", func := "quadform/quadformlaw01.IntegerCompares", spec := "integerCompares", apart := false }
def IntegerComparesSaid : Prop := integerComparesRow.holds Try.pinned (OpenSpec.ofChange integerComparesSpec)

/-- ITS FALSE NEIGHBOUR: 'it returns false'. Refute it at one input. -/
def integerComparesWrong : ChangeSpec := { name := "integerCompares", fn := fun _ => fun
  | [d1, d2] => { results := [.lit (.bool false)], args := [d1, d2] }
  | _ => none }
def IntegerComparesWrongFalsely : Prop := integerComparesRow.holds Try.pinned (OpenSpec.ofChange integerComparesWrong)

/- THE SECOND FORM. 'bulk': how many values and letters a reading holds, each counted each time it is reached (what is shared counts as often as it is met; a slice's spare places count too). A statement '..UptoSaid' is the law's where the arguments, and the package variables that the reading takes, are together of bulk at most 1048576: NARROWER than '..Said'. Prove '..Said' where nothing that the law and all that it calls make is longer than what came in: it says more and counts as full. Else prove '..UptoSaid'. A law counts once. -/
mutual
def uptoBulk {H : Type} : DataW H → Nat
  | .lit (.string bytes) => bytes.length + 1
  | .lit _ => 1
  | .nil => 1
  | .ptr d => uptoBulk d + 1
  | .slice elems spare => uptoBulkAll elems + uptoBulkAll spare + 1
  | .agg parts => uptoBulkAll parts + 1
  | .iface _ d => uptoBulk d + 1
  | .map entries => uptoBulkEntries entries + 1
  | .held _ => 1
def uptoBulkAll {H : Type} : List (DataW H) → Nat
  | [] => 0
  | d :: r => uptoBulk d + uptoBulkAll r
def uptoBulkEntries {H : Type} : List (Lit × DataW H) → Nat
  | [] => 0
  | x :: r => uptoBulkEntry x + uptoBulkEntries r
def uptoBulkEntry {H : Type} : Lit × DataW H → Nat
  | (.string bytes, d) => bytes.length + uptoBulk d + 1
  | (_, d) => uptoBulk d + 1
 end
def uptoSmall : (H : Type) → List (DataW H) → Bool := fun _ ds => decide (uptoBulkAll ds ≤ 1048576)
def OpenSpec.upto (s : _root_.Go.ChangeSpec) : _root_.Go.OpenSpec := { _root_.Go.OpenSpec.ofChange s with cond := some uptoSmall }

/-- 'quadformlaw01.IntegerLimits', WHERE WHAT IT READS IS OF BULK AT MOST 1048576: true; the input reads as it did. -/
def integerLimitsUptoRow : OpenClaim := { program := "ytdbgalohppfkfaa", sum := "53045af53cd29846daa0f11ffa9d725c99e4df9ef050102704313e0722c6e312", func := "quadform/quadformlaw01.IntegerLimits", spec := "integerLimits", apart := false, narrowed := true }
def IntegerLimitsUptoSaid : Prop := integerLimitsUptoRow.holds Try.pinned (OpenSpec.upto integerLimitsSpec)

/-- 'quadformlaw01.IntegerNormalizes', WHERE WHAT IT READS IS OF BULK AT MOST 1048576: true; the input reads as it did. -/
def integerNormalizesUptoRow : OpenClaim := { program := "ytdbgalohppfkfaa", sum := "53045af53cd29846daa0f11ffa9d725c99e4df9ef050102704313e0722c6e312", func := "quadform/quadformlaw01.IntegerNormalizes", spec := "integerNormalizes", apart := false, narrowed := true }
def IntegerNormalizesUptoSaid : Prop := integerNormalizesUptoRow.holds Try.pinned (OpenSpec.upto integerNormalizesSpec)

/-- 'quadformlaw01.IntegerSmall', WHERE WHAT IT READS IS OF BULK AT MOST 1048576: true; the input reads as it did. -/
def integerSmallUptoRow : OpenClaim := { program := "ytdbgalohppfkfaa", sum := "53045af53cd29846daa0f11ffa9d725c99e4df9ef050102704313e0722c6e312", func := "quadform/quadformlaw01.IntegerSmall", spec := "integerSmall", apart := false, narrowed := true }
def IntegerSmallUptoSaid : Prop := integerSmallUptoRow.holds Try.pinned (OpenSpec.upto integerSmallSpec)

/-- 'quadformlaw01.IntegerFits', WHERE WHAT IT READS IS OF BULK AT MOST 1048576: true; the input reads as it did. -/
def integerFitsUptoRow : OpenClaim := { program := "ytdbgalohppfkfaa", sum := "53045af53cd29846daa0f11ffa9d725c99e4df9ef050102704313e0722c6e312", func := "quadform/quadformlaw01.IntegerFits", spec := "integerFits", apart := false, narrowed := true }
def IntegerFitsUptoSaid : Prop := integerFitsUptoRow.holds Try.pinned (OpenSpec.upto integerFitsSpec)

/-- 'quadformlaw01.IntegerDivides', WHERE WHAT IT READS IS OF BULK AT MOST 1048576: true; the input reads as it did. -/
def integerDividesUptoRow : OpenClaim := { program := "ytdbgalohppfkfaa", sum := "53045af53cd29846daa0f11ffa9d725c99e4df9ef050102704313e0722c6e312", func := "quadform/quadformlaw01.IntegerDivides", spec := "integerDivides", apart := false, narrowed := true }
def IntegerDividesUptoSaid : Prop := integerDividesUptoRow.holds Try.pinned (OpenSpec.upto integerDividesSpec)

/-- 'quadformlaw01.IntegerDivision', WHERE WHAT IT READS IS OF BULK AT MOST 1048576: true; the input reads as it did. -/
def integerDivisionUptoRow : OpenClaim := { program := "ytdbgalohppfkfaa", sum := "53045af53cd29846daa0f11ffa9d725c99e4df9ef050102704313e0722c6e312", func := "quadform/quadformlaw01.IntegerDivision", spec := "integerDivision", apart := false, narrowed := true }
def IntegerDivisionUptoSaid : Prop := integerDivisionUptoRow.holds Try.pinned (OpenSpec.upto integerDivisionSpec)

/-- 'quadformlaw01.IntegerRoots', WHERE WHAT IT READS IS OF BULK AT MOST 1048576: true; the input reads as it did. -/
def integerRootsUptoRow : OpenClaim := { program := "ytdbgalohppfkfaa", sum := "53045af53cd29846daa0f11ffa9d725c99e4df9ef050102704313e0722c6e312", func := "quadform/quadformlaw01.IntegerRoots", spec := "integerRoots", apart := false, narrowed := true }
def IntegerRootsUptoSaid : Prop := integerRootsUptoRow.holds Try.pinned (OpenSpec.upto integerRootsSpec)

/-- 'quadformlaw01.IntegerSquares', WHERE WHAT IT READS IS OF BULK AT MOST 1048576: true; the input reads as it did. -/
def integerSquaresUptoRow : OpenClaim := { program := "ytdbgalohppfkfaa", sum := "53045af53cd29846daa0f11ffa9d725c99e4df9ef050102704313e0722c6e312", func := "quadform/quadformlaw01.IntegerSquares", spec := "integerSquares", apart := false, narrowed := true }
def IntegerSquaresUptoSaid : Prop := integerSquaresUptoRow.holds Try.pinned (OpenSpec.upto integerSquaresSpec)

/-- 'quadformlaw01.IntegerFormats', WHERE WHAT IT READS IS OF BULK AT MOST 1048576: true; the input reads as it did. -/
def integerFormatsUptoRow : OpenClaim := { program := "ytdbgalohppfkfaa", sum := "53045af53cd29846daa0f11ffa9d725c99e4df9ef050102704313e0722c6e312", func := "quadform/quadformlaw01.IntegerFormats", spec := "integerFormats", apart := false, narrowed := true }
def IntegerFormatsUptoSaid : Prop := integerFormatsUptoRow.holds Try.pinned (OpenSpec.upto integerFormatsSpec)

/-- 'quadformlaw01.IntegerGcds', WHERE WHAT IT READS IS OF BULK AT MOST 1048576: true; the input reads as it did. -/
def integerGcdsUptoRow : OpenClaim := { program := "ytdbgalohppfkfaa", sum := "53045af53cd29846daa0f11ffa9d725c99e4df9ef050102704313e0722c6e312", func := "quadform/quadformlaw01.IntegerGcds", spec := "integerGcds", apart := false, narrowed := true }
def IntegerGcdsUptoSaid : Prop := integerGcdsUptoRow.holds Try.pinned (OpenSpec.upto integerGcdsSpec)

/-- 'quadformlaw01.IntegerCommon', WHERE WHAT IT READS IS OF BULK AT MOST 1048576: true; the input reads as it did. -/
def integerCommonUptoRow : OpenClaim := { program := "ytdbgalohppfkfaa", sum := "53045af53cd29846daa0f11ffa9d725c99e4df9ef050102704313e0722c6e312", func := "quadform/quadformlaw01.IntegerCommon", spec := "integerCommon", apart := false, narrowed := true }
def IntegerCommonUptoSaid : Prop := integerCommonUptoRow.holds Try.pinned (OpenSpec.upto integerCommonSpec)

/-- 'quadformlaw01.IntegerCompares', WHERE WHAT IT READS IS OF BULK AT MOST 1048576: true; the input reads as it did. -/
def integerComparesUptoRow : OpenClaim := { program := "ytdbgalohppfkfaa", sum := "53045af53cd29846daa0f11ffa9d725c99e4df9ef050102704313e0722c6e312", func := "quadform/quadformlaw01.IntegerCompares", spec := "integerCompares", apart := false, narrowed := true }
def IntegerComparesUptoSaid : Prop := integerComparesUptoRow.holds Try.pinned (OpenSpec.upto integerComparesSpec)

end Rows
end Go.Proofs.Ytdbgalohppfkfaa
