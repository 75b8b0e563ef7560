/- The laws of an ordered field hold: for all Rats, at any sizes. -/
import Derived.ProofKit
import Derived.OpenShut
import Derived.ChangeOld
import Derived.ShutString
import Derived.Test.YtklamiajcdkmnaaPae
import Derived.Test.YtklamiajcdkmnaaPam
import Derived.Test.YtklamiajcdkmnaaPaBc
import Derived.Test.YtklamiajcdkmnaaPaBd
import Derived.Test.YtklamiajcdkmnaaPaBb
import Derived.Test.YtklamiajcdkmnaaPkRationalFieldh
import Derived.Test.YtklamiajcdkmnaaPal
import Derived.Test.YtklamiajcdkmnaaPab
import Derived.Test.YtklamiajcdkmnaaPaf
import Derived.Test.YtklamiajcdkmnaaPad
import Derived.Test.YtklamiajcdkmnaaPkRationalFieldb
import Derived.Test.YtklamiajcdkmnaaPaBf
import Derived.Test.YtklamiajcdkmnaaPac
import Derived.Test.YtklamiajcdkmnaaPav
import Derived.Test.YtklamiajcdkmnaaPay
import Derived.Test.YtklamiajcdkmnaaPao
import Derived.Test.YtklamiajcdkmnaaPaBe
import Derived.Test.YtklamiajcdkmnaaPkRationalFieldm
import Derived.Test.YtklamiajcdkmnaaPat
import Derived.Test.YtklamiajcdkmnaaPkRationalFielda
import Derived.Test.YtklamiajcdkmnaaPaa
import Derived.Test.YtklamiajcdkmnaaPan
import Derived.Test.YtklamiajcdkmnaaPai
import Derived.Test.YtklamiajcdkmnaaPah
import Derived.Test.YtklamiajcdkmnaaPag
import Derived.Test.YtklamiajcdkmnaaPkRationalFieldc
import Derived.Test.YtklamiajcdkmnaaPaj
import Derived.Test.YtklamiajcdkmnaaPax
import Derived.Test.YtklamiajcdkmnaaPap
import Derived.Test.YtklamiajcdkmnaaPas
import Derived.Test.YtklamiajcdkmnaaPkRationalFieldf
import Derived.Test.YtklamiajcdkmnaaPkRationalFielde
import Derived.Test.YtklamiajcdkmnaaPkRationalFieldg
import Derived.Test.YtklamiajcdkmnaaPkRationalFieldd
import Derived.Test.YtklamiajcdkmnaaPkRationalFieldl
import Derived.Test.YtklamiajcdkmnaaPkRationalFieldj
import Derived.Test.YtklamiajcdkmnaaPau
import Derived.Test.YtklamiajcdkmnaaPkRationalFieldi
import Derived.Test.YtklamiajcdkmnaaPar
import Derived.Test.YtklamiajcdkmnaaPaw
import Derived.Test.YtklamiajcdkmnaaPaBa
import Derived.Test.YtklamiajcdkmnaaPaq
import Derived.Test.YtklamiajcdkmnaaPkRationalFieldn
import Derived.Test.YtklamiajcdkmnaaPkRationalFieldk
import Derived.Test.YtklamiajcdkmnaaPak
import Derived.Test.YtklamiajcdkmnaaPaz
import Derived.Test.YtklamiajcdkmnaaPkRationalFieldo
namespace Go.Proofs.Ytklamiajcdkmnaa.rationalField
open Go.ChangeShapes Go.WideShapes Go.ChangeAt Go.RowKit
open Go.ChangeMaps (open_string shut_string)
set_option linter.unusedVariables false
set_option maxRecDepth 100000 in
theorem lifted (os : Os) (started : os.Started) (H : Type) (enc : TypeId × Value → H) :
    ReturnsInHanded {} Try.checked os 4 .any (Rows.rationalFieldSpec.pre6 enc Try.prog Try.f4 Rows.rationalFieldRow.domain false) (Rows.rationalFieldSpec.post enc Try.prog Try.f4 false true false false) := by
  refine returnsInHanded_of_change (C := Try.checked) own started (by kernel_rfl) Try.func4
    (ChangeSpec.witness6 (enc := enc) (C := Try.checked) false ⟨#[], #[.agg #[.bool false, .slice none 0 0, .bool false, .slice none 0 0], .agg #[.bool false, .slice none 0 0, .bool false, .slice none 0 0], .agg #[.bool false, .slice none 0 0, .bool false, .slice none 0 0]], []⟩ 8 (by kernel_rfl) (by kernel_rfl) (by kernel_rfl) (by kernel_rfl)) ?_
  intro W base args ds gs before hval0 hW hcnd _
  have hval : ∀ (j : Nat) t v, Try.f4.params[j]? = some t → args[j]? = some v → Value.okWide Try.prog W .any base t v := hval0
  have hW' := hW
  obtain ⟨p, q, hA0, hV, rfl, hfz, hnd⟩ := hW
  have hA : DataW.TrodAll enc Try.prog W 0 (fun _ => true) true Try.f4.params.toList args.toList ds p := hA0
  rw [Try.params4] at hA hval
  obtain ⟨v0, vs0, d0, ds0, p0, q0, hargs, rfl, rfl, h0, r0⟩ := trodAll_cons hA
  obtain ⟨v1, vs1, d1, ds1, p1, q1, rfl, rfl, rfl, h1, r1⟩ := trodAll_cons r0
  obtain ⟨v2, vs2, d2, ds2, p2, q2, rfl, rfl, rfl, h2, r2⟩ := trodAll_cons r1
  obtain ⟨rfl, rfl, rfl⟩ := trodAll_nil r2
  obtain rfl : args = #[v0, v1, v2] := by cases args; simp_all
  obtain ⟨rfl, rfl⟩ := trodVars_none hV
  have a0 := argR (hval 0 26 v0 rfl rfl) h0
  have k0 := h0
  have lt0 : ∀ x ∈ p0, x.block < W.heap.size := by obtain ⟨m, hm⟩ := k0; exact DataW.trod_lt m _ _ _ hm
  have a1 := argR (hval 1 26 v1 rfl rfl) h1
  have k1 := h1
  have lt1 : ∀ x ∈ p1, x.block < W.heap.size := by obtain ⟨m, hm⟩ := k1; exact DataW.trod_lt m _ _ _ hm
  have a2 := argR (hval 2 26 v2 rfl rfl) h2
  have k2 := h2
  have lt2 : ∀ x ∈ p2, x.block < W.heap.size := by obtain ⟨m, hm⟩ := k2; exact DataW.trod_lt m _ _ _ hm
  clear hA0 hval0
  refine (rationalField_walk W v0 a0 v1 a1 v2 a2).mono fun e W' ⟨he, bel⟩ => ?_
  subst he
  exact ⟨_, rfl, _, _, _, [], _, [], hW', trodAll_mk1 (shut_bool Try.underlying4 _), (trodAll_cons_mk (Below.trod laidOut (by kernel_rfl) (of_decide_eq_true (by kernel_rfl)) k0 bel lt0) (trodAll_cons_mk (Below.trod laidOut (by kernel_rfl) (of_decide_eq_true (by kernel_rfl)) k1 bel lt1) (trodAll_cons_mk (Below.trod laidOut (by kernel_rfl) (of_decide_eq_true (by kernel_rfl)) k2 bel lt2) trodAll_mk0))), rfl, bel.frame _, fun h => by cases h⟩
theorem over : Rows.rationalFieldRow.holds Try.pinned (OpenSpec.ofChange Rows.rationalFieldSpec) :=
  OpenClaim.holds_of_wide 4 Try.f4 rfl rfl rfl rfl rfl rfl rfl ⟨rfl, rfl, rfl, rfl, rfl⟩ rfl rfl rfl rfl rfl (by as_aux_lemma => kernel_rfl) Try.func4
    (joined_of (by as_aux_lemma => kernel_rfl) mayEnter (by show (_ == Try.prog.liftsFinal) = true; rw [liftsFinal]; rfl) (by show (Try.prog.make == _) = true; rw [make_cut]; rfl) (by as_aux_lemma => kernel_rfl))
    (of_decide_eq_true (by kernel_rfl)) (by unfold Func.isWrapper; first | (rw [if_pos (by decide +kernel)]; kernel_rfl) | (rw [if_neg (by decide +kernel)]; exact ⟨rfl, rfl⟩))
    (fun os started H enc _ => lifted os started H enc)
end Go.Proofs.Ytklamiajcdkmnaa.rationalField
namespace Go.Proofs.Ytklamiajcdkmnaa
/-- The laws of an ordered field hold: for all Rats, at any sizes. -/
theorem rationalField_holds : Rows.RationalFieldSaid := rationalField.over
end Go.Proofs.Ytklamiajcdkmnaa

