/- The reference: Abs. -/
import Derived.Test.YtdbgalohppfkfaaRMake
namespace Go.Proofs.Ytdbgalohppfkfaa
open Go.RowKit
set_option linter.unusedVariables false

theorem rabs_any (w : World) (v : Value) (a : Int) (n : Nat) (ha : IntA w v a n) :
    Calls Try.prog 32 #[v] w fun e w' => RetI w' ((a.natAbs : Int)) e ∧ Below w.heap.size w w' := by
  obtain ⟨na, s, xs, rfl, hs, hl, hxn, rfl⟩ := ha
  obtain ⟨W, hW⟩ : ∃ W, W = (w.alloc (.cells #[.bool na, s] 24)).alloc (.cells #[.bool false, .slice none 0 0] 24) := ⟨_, rfl⟩
  have X := Bx.two w (.bool na) s (.bool false) (.slice none 0 0) 24
  rw [← hW] at X
  obtain ⟨x0, x1⟩ := X
  have HB : Below w.heap.size w W := by rw [hW]; exact bw_alloc (bw_alloc (Below.refl _ _) _) _
  have S0 := hid (hs.below HB)
  have HL := hid hl
  have E := hid (show sg false (nv xs) = ((sg na (nv xs)).natAbs : Int) from by (have h := nv_nonneg hl; cases na <;> simp [sg] <;> omega))
  clear hl hs
  obtain ⟨k0, k1, f0, f1⟩ := id x0
  go_enter Try.func32, Try.ntmps32
  go_wp2_with fail
  rw [← hW]
  clear hW
  refine (rmake_any _ false s xs S0.out HL.out).mono ?_
  rintro e w1 ⟨⟨v1, rfl, hv1⟩, hb1⟩
  have HB := hid (bw_step HB hb1)
  obtain ⟨k2, k3, f2, f3⟩ := x1.below hb1
  obtain ⟨q, A, m, c, rfl⟩ := hv1.form
  rw [E.out] at hv1
  have F := hid (fin_any HB.out (g := w.heap.size + 1) (Nat.le_succ _) k2 k3 hv1 (.bool q) (.slice A m c))
  clear hb1 hv1 x0 x1 k0 k1 f0 f1
  go_wp2
  exact bodyPost_ret (v := .agg #[.bool q, .slice A m c]) (by simp [results, Try.results32, go_sem, k2, k3]) rfl ⟨⟨_, rfl, F.out.1⟩, F.out.2⟩
end Go.Proofs.Ytdbgalohppfkfaa
