/- A part of the proof of the laws of rationals: TextR. -/
import Derived.Test.YtijmjkkjopplbaaPae
import Derived.Test.YtijmjkkjopplbaaPam
import Derived.Test.YtijmjkkjopplbaaPbh
import Derived.Test.YtijmjkkjopplbaaPal
import Derived.Test.YtijmjkkjopplbaaPab
import Derived.Test.YtijmjkkjopplbaaPaf
import Derived.Test.YtijmjkkjopplbaaPkRationalRoundTripa
import Derived.Test.YtijmjkkjopplbaaPad
import Derived.Test.YtijmjkkjopplbaaPbb
import Derived.Test.YtijmjkkjopplbaaPac
import Derived.Test.YtijmjkkjopplbaaPav
import Derived.Test.YtijmjkkjopplbaaPay
import Derived.Test.YtijmjkkjopplbaaPao
import Derived.Test.YtijmjkkjopplbaaPat
import Derived.Test.YtijmjkkjopplbaaPba
import Derived.Test.YtijmjkkjopplbaaPaa
import Derived.Test.YtijmjkkjopplbaaPai
import Derived.Test.YtijmjkkjopplbaaPah
import Derived.Test.YtijmjkkjopplbaaPag
import Derived.Test.YtijmjkkjopplbaaPaj
import Derived.Test.YtijmjkkjopplbaaPax
import Derived.Test.YtijmjkkjopplbaaPap
import Derived.Test.YtijmjkkjopplbaaPas
import Derived.Test.YtijmjkkjopplbaaPbf
import Derived.Test.YtijmjkkjopplbaaPbe
import Derived.Test.YtijmjkkjopplbaaPbg
import Derived.Test.YtijmjkkjopplbaaPbd
import Derived.Test.YtijmjkkjopplbaaPbj
import Derived.Test.YtijmjkkjopplbaaPau
import Derived.Test.YtijmjkkjopplbaaPbi
import Derived.Test.YtijmjkkjopplbaaPar
import Derived.Test.YtijmjkkjopplbaaPaw
import Derived.Test.YtijmjkkjopplbaaPbk
import Derived.Test.YtijmjkkjopplbaaPan
import Derived.Test.YtijmjkkjopplbaaPbc
import Derived.Test.YtijmjkkjopplbaaPaq
import Derived.Test.YtijmjkkjopplbaaPbl
import Derived.Test.YtijmjkkjopplbaaPkRationalRoundTripb
import Derived.Test.YtijmjkkjopplbaaPbm
import Derived.Test.YtijmjkkjopplbaaPak
import Derived.Test.YtijmjkkjopplbaaPaz
namespace Go.Proofs.Ytijmjkkjopplbaa
open Go.RowKit
set_option linter.unusedVariables false
set_option maxRecDepth 100000

theorem cut_not (a : List UInt8) (h : ∀ x ∈ a, x ≠ 47) : cutF ⟨a.toArray⟩ 47 = false ∧ cutB ⟨a.toArray⟩ 47 = ⟨a.toArray⟩ ∧ cutA ⟨a.toArray⟩ 47 = ByteArray.empty := by
  have hi : cutI ⟨a.toArray⟩ 47 = -1 := indexByte_none a 47 h
  have h0 : ¬ 0 ≤ cutI ⟨a.toArray⟩ 47 := by omega
  exact ⟨decide_eq_false h0, by unfold cutB; rw [if_neg h0], by unfold cutA; rw [if_neg h0]⟩
theorem rE_whole {n : Nat} {a : Int} (ha : Sm n a) (hn : n ≤ 190) :
    rE ⟨(text a).toArray⟩ = 0 ∧ rP ⟨(text a).toArray⟩ = a ∧ rQ ⟨(text a).toArray⟩ = 1 := by
  obtain ⟨c1, c2, c3⟩ := cut_not (text a) (text_no47 a)
  obtain ⟨p1, p2⟩ := pc_text ha hn
  have e : rE ⟨(text a).toArray⟩ = 0 := by unfold rE; rw [c1, c2, p1]; simp [rcf]
  refine ⟨e, ?_, ?_⟩
  · unfold rP; rw [e, if_pos rfl, c2, p2]
  · unfold rQ; rw [e, if_pos rfl, c1]; rfl
end Go.Proofs.Ytijmjkkjopplbaa

