/- A part of the proof of the laws of rationals: RCmp. -/
import Derived.Test.YtklamiajcdkmnaaPam
import Derived.Test.YtklamiajcdkmnaaPac
import Derived.Test.YtklamiajcdkmnaaPab
import Derived.Test.YtklamiajcdkmnaaPaa
import Derived.Test.YtklamiajcdkmnaaPkRationalFielda
namespace Go.Proofs.Ytklamiajcdkmnaa
open Go.RowKit
set_option linter.unusedVariables false
set_option maxRecDepth 100000

theorem rcmp_any (w : World) (v u : Value) (xs ys : List Int) (hx : SlV w v xs) (hy : SlV w u ys) (bx : Lb xs) (by_ : Lb ys) (cx : Cn xs) (cy : Cn ys) :
    Calls Try.prog 56 #[v, u] w fun e w' => e = .returned (.int .i64 (cm (nv xs) (nv ys))) ∧ Dr w w' := by
  obtain ⟨A, c, rfl, hcl, hx⟩ := hx
  obtain ⟨B, d, rfl, hdl, hy⟩ := hy
  have lx := hx.len
  have ly := hy.len
  rcases Nat.lt_trichotomy xs.length ys.length with hl | hl | hl
  · have He := hid (cm_lt (cy.lt_of_length bx by_ hl))
    clear bx by_ cx cy hx hy
    have h1 : ((xs.length : Int) == (ys.length : Int)) = false := by rw [beq_eq_false_iff_ne]; omega
    have h2 : ((xs.length : Int) != (ys.length : Int)) = true := by rw [bne_iff_ne]; omega
    go_enter Try.func56, Try.ntmps56
    go_wp2
    go_ret
    exact ⟨by rw [He.out]; rfl, Dr.refl _⟩
  · have HX := hid hx
    have HY := hid hy
    have HE := hid (show ∀ j, xs.length ≤ j → lm xs j = lm ys j from fun j hj => by rw [lm_out hj, lm_out (by omega)])
    have HL := hid hl
    have HBX := hid bx
    have HBY := hid by_
    have h1 : ((xs.length : Int) == (ys.length : Int)) = true := by rw [beq_iff_eq]; omega
    have h2 : ((xs.length : Int) != (ys.length : Int)) = false := by rw [bne_eq_false_iff_eq]; omega
    clear hx hy hl bx by_ cx cy
    go_enter Try.func56, Try.ntmps56
    go_wp2
    go_loopg [5] xs.length (fun gk v w' => ∃ i : Int, v = .int .i64 i ∧ -1 ≤ i ∧ i < xs.length ∧ Hid (∀ j : Nat, i < j → lm xs j = lm ys j) ∧ gk = (i + 1).toNat ∧ Dr w w')
    case atStart => exact ⟨(xs.length : Int) - 1, rfl, by omega, by omega, hid (fun j hj => HE.out j (by omega)), by omega, Dr.refl _⟩
    case round =>
      obtain ⟨i, rfl, hi0, hi1, hj, hg, ⟨n, rfl⟩⟩ := hrel
      have HG := hid hg
      clear hg
      by_cases h0 : 0 ≤ i
      · obtain ⟨k, rfl⟩ := Int.eq_ofNat_of_zero_le h0
        have hk : k < xs.length := by omega
        have hk2 : k < ys.length := by have := HL.out; omega
        obtain ⟨b, o, rfl, hc⟩ := HX.out.at (by omega)
        obtain ⟨b2, o2, rfl, hc2⟩ := HY.out.at (by omega)
        have c1 := hc k hk
        have c2 := hc2 k hk2
        clear hc hc2
        have hk3 : (k : Int) < (ys.length : Int) := by omega
        rcases Int.lt_trichotomy (lm xs k) (lm ys k) with he | he | he
        · have e1 : (lm xs k != lm ys k) = true := by rw [bne_iff_ne]; omega
          have HC := hid (cm_lt (nv_lt_of_limb HBX.out HBY.out HL.out hk (fun j hj' => hj.out j (by omega)) he))
          go_wp2
          go_quiet (fail)
          go_wp2
          go_quiet (fail)
          go_wp2
          go_ret
          exact ⟨by rw [HC.out]; rfl, by repeat (first | exact Dr.refl _ | apply Dr.step)⟩
        · have e1 : (lm xs k != lm ys k) = false := by rw [bne_eq_false_iff_eq]; exact he
          have HC := hid he
          clear he
          go_wp2
          go_quiet (fail)
          go_wp2
          go_roundg k
          case measure => have := HG.out; omega
          case rel => exact ⟨(k : Int) - 1, rfl, by omega, by omega, hid (fun j hj' => by
              by_cases e : j = k
              · subst e; exact HC.out
              · exact hj.out j (by omega)), by omega, by repeat (first | exact Dr.refl _ | apply Dr.step)⟩
        · have e1 : (lm xs k != lm ys k) = true := by rw [bne_iff_ne]; omega
          have HC := hid (cm_gt (nv_lt_of_limb HBY.out HBX.out HL.out.symm hk2 (fun j hj' => (hj.out j (by omega)).symm) he))
          go_wp2
          go_quiet (fail)
          go_wp2
          go_quiet (fail)
          go_wp2
          go_ret
          exact ⟨by rw [HC.out]; rfl, by repeat (first | exact Dr.refl _ | apply Dr.step)⟩
      · have HC := hid (cm_eq (nv_eq_of_limbs HL.out fun j hj' => hj.out j (by omega)))
        have h3 : decide (0 ≤ i) = false := by simp; omega
        go_wp2
        go_ret
        exact ⟨by rw [HC.out]; rfl, by repeat (first | exact Dr.refl _ | apply Dr.step)⟩
  · have He := hid (cm_gt (cx.lt_of_length by_ bx hl))
    clear bx by_ cx cy hx hy
    have h1 : ((xs.length : Int) == (ys.length : Int)) = false := by rw [beq_eq_false_iff_ne]; omega
    have h2 : ((xs.length : Int) != (ys.length : Int)) = true := by rw [bne_iff_ne]; omega
    go_enter Try.func56, Try.ntmps56
    go_wp2
    go_ret
    exact ⟨by rw [He.out]; rfl, Dr.refl _⟩

end Go.Proofs.Ytklamiajcdkmnaa

