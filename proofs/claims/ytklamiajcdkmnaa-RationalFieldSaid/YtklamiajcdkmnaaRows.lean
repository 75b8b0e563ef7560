/-
  No cell of these rows narrows 'for every input' (looked for: loops, veiled, ifaces, maps, wideKeys, modest, calm, conditions, laid).
  DERIVED. THE GIVEN ROWS OF THIS SEAT. 3 by the template 'for every input the law returns true; each argument reads behind the call as it read before'; 0 by the template 'total and deterministic' (their statements: YtklamiajcdkmnaaTotals.lean).
  GIVEN WITH THE SEED: the statements are not yours to turn. If you find one false, say at which input.
  Laid BY PROGRAM, IN A SANDBOX (cutbox-rows.mjs): the forced cells as the released guide's own fill.sh prints them over the translation 768a1d2be652a7ae… (all of the seat's roots in one cut). By AI agents, Wed Nov 11 2026. No macro, syntax, notation, axiom, sorry.
-/
import Derived.Test.YtklamiajcdkmnaaChecked
import GoSem.Claim
import GoSem.ClaimJoined
import GoSem.ClaimMapViews
import Derived.JoinedTies
import Derived.KernelRfl
namespace Go.Proofs.Ytklamiajcdkmnaa
/- THE CELL 'sum', in the pinned program and in every row, IS THE sha256 OF THE DUMP (.gsa) THAT YtklamiajcdkmnaaProg.lean LOADS. Nothing in Lean hashes anything: it is a label: what it is worth is what the hold of that sum in a sandbox is worth. -/
noncomputable def Try.pinned : Pinned := { name := "ytklamiajcdkmnaa", sum := "768a1d2be652a7aed4810ec5e898fe288975ead0a8b7ac2e62d8c06ede1ea9e3", checked := Try.checked }
namespace Rows
def none {H : Type} : Left H := { results := [], args := [] }

/-- 'quadformlaw02.RationalAdds': WHATEVER THE INPUT: true; the input reads as it did. -/
def rationalAddsSpec : ChangeSpec := { name := "rationalAdds", fn := fun _ => fun
  | [d1, d2] => { results := [.lit (.bool true)], args := [d1, d2] }
  | _ => none }
def rationalAddsRow : OpenClaim := { program := "ytklamiajcdkmnaa", sum := "768a1d2be652a7aed4810ec5e898fe288975ead0a8b7ac2e62d8c06ede1ea9e3", func := "quadform/quadformlaw02.RationalAdds", spec := "rationalAdds", inPlace := ["internal/bytealg.IndexByteString", "internal/bytealg.IndexString"], named := ["internal/bytealg.MaxLen"], apart := false }
def RationalAddsSaid : Prop := rationalAddsRow.holds Try.pinned (OpenSpec.ofChange rationalAddsSpec)

/-- ITS FALSE NEIGHBOUR: 'it returns false'. Refute it at one input. -/
def rationalAddsWrong : ChangeSpec := { name := "rationalAdds", fn := fun _ => fun
  | [d1, d2] => { results := [.lit (.bool false)], args := [d1, d2] }
  | _ => none }
def RationalAddsWrongFalsely : Prop := rationalAddsRow.holds Try.pinned (OpenSpec.ofChange rationalAddsWrong)

/-- 'quadformlaw02.RationalField': WHATEVER THE INPUT: true; the input reads as it did. -/
def rationalFieldSpec : ChangeSpec := { name := "rationalField", fn := fun _ => fun
  | [d1, d2, d3] => { results := [.lit (.bool true)], args := [d1, d2, d3] }
  | _ => none }
def rationalFieldRow : OpenClaim := { program := "ytklamiajcdkmnaa", sum := "768a1d2be652a7aed4810ec5e898fe288975ead0a8b7ac2e62d8c06ede1ea9e3", func := "quadform/quadformlaw02.RationalField", spec := "rationalField", inPlace := ["internal/bytealg.IndexByteString", "internal/bytealg.IndexString"], unfollowed := true, recurses := true, named := ["internal/bytealg.MaxLen"], apart := false }
def RationalFieldSaid : Prop := rationalFieldRow.holds Try.pinned (OpenSpec.ofChange rationalFieldSpec)

/-- ITS FALSE NEIGHBOUR: 'it returns false'. Refute it at one input. -/
def rationalFieldWrong : ChangeSpec := { name := "rationalField", fn := fun _ => fun
  | [d1, d2, d3] => { results := [.lit (.bool false)], args := [d1, d2, d3] }
  | _ => none }
def RationalFieldWrongFalsely : Prop := rationalFieldRow.holds Try.pinned (OpenSpec.ofChange rationalFieldWrong)

/-- 'quadformlaw02.RationalPowers': WHATEVER THE INPUT: true; the input reads as it did. -/
def rationalPowersSpec : ChangeSpec := { name := "rationalPowers", fn := fun _ => fun
  | [d1, d2] => { results := [.lit (.bool true)], args := [d1, d2] }
  | _ => none }
def rationalPowersRow : OpenClaim := { program := "ytklamiajcdkmnaa", sum := "768a1d2be652a7aed4810ec5e898fe288975ead0a8b7ac2e62d8c06ede1ea9e3", func := "quadform/quadformlaw02.RationalPowers", spec := "rationalPowers", inPlace := ["internal/bytealg.IndexByteString", "internal/bytealg.IndexString"], named := ["internal/bytealg.MaxLen"], apart := false }
def RationalPowersSaid : Prop := rationalPowersRow.holds Try.pinned (OpenSpec.ofChange rationalPowersSpec)

/-- ITS FALSE NEIGHBOUR: 'it returns false'. Refute it at one input. -/
def rationalPowersWrong : ChangeSpec := { name := "rationalPowers", fn := fun _ => fun
  | [d1, d2] => { results := [.lit (.bool false)], args := [d1, d2] }
  | _ => none }
def RationalPowersWrongFalsely : Prop := rationalPowersRow.holds Try.pinned (OpenSpec.ofChange rationalPowersWrong)

/- THE SECOND FORM. 'bulk': how many values and letters a reading holds, each counted each time it is reached (what is shared counts as often as it is met; a slice's spare places count too). A statement '..UptoSaid' is the law's where the arguments, and the package variables that the reading takes, are together of bulk at most 1048576: NARROWER than '..Said'. Prove '..Said' where nothing that the law and all that it calls make is longer than what came in: it says more and counts as full. Else prove '..UptoSaid'. A law counts once. -/
mutual
def uptoBulk {H : Type} : DataW H → Nat
  | .lit (.string bytes) => bytes.length + 1
  | .lit _ => 1
  | .nil => 1
  | .ptr d => uptoBulk d + 1
  | .slice elems spare => uptoBulkAll elems + uptoBulkAll spare + 1
  | .agg parts => uptoBulkAll parts + 1
  | .iface _ d => uptoBulk d + 1
  | .map entries => uptoBulkEntries entries + 1
  | .held _ => 1
def uptoBulkAll {H : Type} : List (DataW H) → Nat
  | [] => 0
  | d :: r => uptoBulk d + uptoBulkAll r
def uptoBulkEntries {H : Type} : List (Lit × DataW H) → Nat
  | [] => 0
  | x :: r => uptoBulkEntry x + uptoBulkEntries r
def uptoBulkEntry {H : Type} : Lit × DataW H → Nat
  | (.string bytes, d) => bytes.length + uptoBulk d + 1
  | (_, d) => uptoBulk d + 1
 end
def uptoSmall : (H : Type) → List (DataW H) → Bool := fun _ ds => decide (uptoBulkAll ds ≤ 1048576)
def OpenSpec.upto (s : _root_.Go.ChangeSpec) : _root_.Go.OpenSpec := { _root_.Go.OpenSpec.ofChange s with cond := some uptoSmall }

/-- 'quadformlaw02.RationalAdds', WHERE WHAT IT READS IS OF BULK AT MOST 1048576: true; the input reads as it did. -/
def rationalAddsUptoRow : OpenClaim := { program := "ytklamiajcdkmnaa", sum := "768a1d2be652a7aed4810ec5e898fe288975ead0a8b7ac2e62d8c06ede1ea9e3", func := "quadform/quadformlaw02.RationalAdds", spec := "rationalAdds", inPlace := ["internal/bytealg.IndexByteString", "internal/bytealg.IndexString"], named := ["internal/bytealg.MaxLen"], apart := false, narrowed := true }
def RationalAddsUptoSaid : Prop := rationalAddsUptoRow.holds Try.pinned (OpenSpec.upto rationalAddsSpec)

/-- 'quadformlaw02.RationalField', WHERE WHAT IT READS IS OF BULK AT MOST 1048576: true; the input reads as it did. -/
def rationalFieldUptoRow : OpenClaim := { program := "ytklamiajcdkmnaa", sum := "768a1d2be652a7aed4810ec5e898fe288975ead0a8b7ac2e62d8c06ede1ea9e3", func := "quadform/quadformlaw02.RationalField", spec := "rationalField", inPlace := ["internal/bytealg.IndexByteString", "internal/bytealg.IndexString"], unfollowed := true, recurses := true, named := ["internal/bytealg.MaxLen"], apart := false, narrowed := true }
def RationalFieldUptoSaid : Prop := rationalFieldUptoRow.holds Try.pinned (OpenSpec.upto rationalFieldSpec)

/-- 'quadformlaw02.RationalPowers', WHERE WHAT IT READS IS OF BULK AT MOST 1048576: true; the input reads as it did. -/
def rationalPowersUptoRow : OpenClaim := { program := "ytklamiajcdkmnaa", sum := "768a1d2be652a7aed4810ec5e898fe288975ead0a8b7ac2e62d8c06ede1ea9e3", func := "quadform/quadformlaw02.RationalPowers", spec := "rationalPowers", inPlace := ["internal/bytealg.IndexByteString", "internal/bytealg.IndexString"], named := ["internal/bytealg.MaxLen"], apart := false, narrowed := true }
def RationalPowersUptoSaid : Prop := rationalPowersUptoRow.holds Try.pinned (OpenSpec.upto rationalPowersSpec)

end Rows
end Go.Proofs.Ytklamiajcdkmnaa
