/- A part of the proof of the laws of rationals: Facts. -/
import Derived.JoinedOf
import Derived.KernelRfl
import Derived.Carry
import Derived.Lib.SmallJoins
import Derived.ProofKit
import Derived.OpenShut
import Derived.Test.YtijmjkkjopplbaaPaBc
import Derived.Test.YtijmjkkjopplbaaPaBe
import Derived.Test.YtijmjkkjopplbaaPac
import Derived.Test.YtijmjkkjopplbaaPab
import Derived.Test.YtijmjkkjopplbaaPaa
namespace Go.Proofs.Ytijmjkkjopplbaa
open Go.RowKit Go.Joins Go.ChangeShapes

/-- The closed facts of a row, put together. -/
theorem joined_of {P : Program} {f : FuncId} {fn : Func} {s : ChangeSpec} {c : OpenClaim}
    (h1 : (c.wf (OpenSpec.ofChange s) && laidOutB P && mapsRowed P &&
      fn.params.all (P.readableRec ·) && namedTie P c.named s.vars &&
      (c.stops == []) && (P.stops == []) && (c.knobs == []) && (P.stopKnobs == []) &&
      (c.inPlace == P.inPlace f) && (c.unfollowed == P.unfollowed f) && (c.recurses == P.recurses f) && (c.named == P.varsNamed f) &&
      (c.maps == (fn.params.toList ++ s.plain.varTypes P).any (P.mapsRec ·)) && (c.ifaces == (fn.params.toList ++ s.plain.varTypes P).any (P.ifacesRec ·)) && (c.mapsOut == P.mapsAmong fn.resultTypes.toList) &&
      (c.loops == (fn.params.toList ++ s.plain.varTypes P).any (P.loopsFrom ·)) && (c.wideKeys == (fn.params.toList ++ s.plain.varTypes P ++ fn.resultTypes.toList).any (P.wideKeysFrom ·)) &&
      s.vars.all (P.varReadable ·) && fn.resultTypes.all (fun t => P.readableRec t && decide (t < P.types.size)) && (c.ifacesOut == fn.resultTypes.toList.any (P.ifacesRec ·)) && (c.loopsOut == fn.resultTypes.toList.any (P.loopsFrom ·)) && (c.plainKeys == P.plainKeys) && c.shortTexts.isNone && P.stopsHeard) = true)
    (h2 : P.mayEnter = true) (h3 : (c.lifted == P.liftsFinal) = true) (h4 : (P.make == some c.make) = true)
    (h5 : ((c.kinds == (if c.domain.isEmpty then [] else fn.params.toList.map fun t => match P.underlying t with | some (.int k) => some k | _ => none)) && (c.pinned == c.pinnedBy) &&
      (c.veiled == (fn.params.toList ++ s.plain.varTypes P ++ fn.resultTypes.toList).any (P.veiledRec ·)) && c.veiledFits P fn.params.toList (fn.params.toList ++ s.plain.varTypes P ++ fn.resultTypes.toList)) = true) :
    joinedFacts P f fn s c = true := by
  unfold joinedFacts
  rw [h1, h2, h3, h4]
  simp only [Bool.and_self, Bool.true_and]
  exact h5

end Go.Proofs.Ytijmjkkjopplbaa

