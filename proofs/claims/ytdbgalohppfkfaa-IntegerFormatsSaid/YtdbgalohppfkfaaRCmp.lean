/- The reference: cmp, trim. -/
import Derived.Test.YtdbgalohppfkfaaLimb
import Derived.Test.YtdbgalohppfkfaaAppend
namespace Go.Proofs.Ytdbgalohppfkfaa
open Go.RowKit
set_option linter.unusedVariables false

theorem rcmp_len (w : World) (v u : Value) (xs ys : List Int) (hx : SlV w v xs) (hy : SlV w u ys) (bx : Lb xs) (by_ : Lb ys) (hl : xs.length = ys.length) :
    Calls Try.prog 49 #[v, u] w fun e w' => e = .returned (.int .i64 (cm (nv xs) (nv ys))) ∧ Dr w w' := by
  obtain ⟨A, c, rfl, hcl, hx⟩ := hx
  obtain ⟨B, d, rfl, hdl, hy⟩ := hy
  have lx := hx.len
  have ly := hy.len
  have HX := hid hx
  have HY := hid hy
  have HE := hid (show ∀ j, xs.length ≤ j → lm xs j = lm ys j from fun j hj => by rw [lm_out hj, lm_out (by omega)])
  have HL := hid hl
  have HBX := hid bx
  have HBY := hid by_
  have h1 : ((xs.length : Int) == (ys.length : Int)) = true := by rw [beq_iff_eq]; omega
  have h2 : ((xs.length : Int) != (ys.length : Int)) = false := by rw [bne_eq_false_iff_eq]; omega
  clear hx hy hl bx by_
  go_enter Try.func49, Try.ntmps49
  go_wp2
  go_loopg [5] xs.length (fun gk v w' => ∃ i : Int, v = .int .i64 i ∧ -1 ≤ i ∧ i < xs.length ∧ Hid (∀ j : Nat, i < j → lm xs j = lm ys j) ∧ gk = (i + 1).toNat ∧ Dr w w')
  case atStart => exact ⟨(xs.length : Int) - 1, rfl, by omega, by omega, hid (fun j hj => HE.out j (by omega)), by omega, Dr.refl _⟩
  case round =>
    obtain ⟨i, rfl, hi0, hi1, hj, hg, ⟨n, rfl⟩⟩ := hrel
    have HG := hid hg
    clear hg
    by_cases h0 : 0 ≤ i
    · obtain ⟨k, rfl⟩ := Int.eq_ofNat_of_zero_le h0
      have hk : k < xs.length := by omega
      have hk2 : k < ys.length := by have := HL.out; omega
      obtain ⟨b, o, rfl, hc⟩ := HX.out.at (by omega)
      obtain ⟨b2, o2, rfl, hc2⟩ := HY.out.at (by omega)
      have c1 := hc k hk
      have c2 := hc2 k hk2
      clear hc hc2
      have hk3 : (k : Int) < (ys.length : Int) := by omega
      rcases Int.lt_trichotomy (lm xs k) (lm ys k) with he | he | he
      · have e1 : (lm xs k != lm ys k) = true := by rw [bne_iff_ne]; omega
        have HC := hid (cm_lt (nv_lt_of_limb HBX.out HBY.out HL.out hk (fun j hj' => hj.out j (by omega)) he))
        go_wp2
        go_quiet (fail)
        go_wp2
        go_quiet (fail)
        go_wp2
        go_ret
        exact ⟨by rw [HC.out]; rfl, by repeat (first | exact Dr.refl _ | apply Dr.step)⟩
      · have e1 : (lm xs k != lm ys k) = false := by rw [bne_eq_false_iff_eq]; exact he
        have HC := hid he
        clear he
        go_wp2
        go_quiet (fail)
        go_wp2
        go_roundg k
        case measure => have := HG.out; omega
        case rel => exact ⟨(k : Int) - 1, rfl, by omega, by omega, hid (fun j hj' => by
            by_cases e : j = k
            · subst e; exact HC.out
            · exact hj.out j (by omega)), by omega, by repeat (first | exact Dr.refl _ | apply Dr.step)⟩
      · have e1 : (lm xs k != lm ys k) = true := by rw [bne_iff_ne]; omega
        have HC := hid (cm_gt (nv_lt_of_limb HBY.out HBX.out HL.out.symm hk2 (fun j hj' => (hj.out j (by omega)).symm) he))
        go_wp2
        go_quiet (fail)
        go_wp2
        go_quiet (fail)
        go_wp2
        go_ret
        exact ⟨by rw [HC.out]; rfl, by repeat (first | exact Dr.refl _ | apply Dr.step)⟩
    · have HC := hid (cm_eq (nv_eq_of_limbs HL.out fun j hj' => hj.out j (by omega)))
      have h3 : decide (0 ≤ i) = false := by simp; omega
      go_wp2
      go_ret
      exact ⟨by rw [HC.out]; rfl, by repeat (first | exact Dr.refl _ | apply Dr.step)⟩

theorem rcmp_any (w : World) (v u : Value) (xs ys : List Int) (hx : SlV w v xs) (hy : SlV w u ys) (bx : Lb xs) (by_ : Lb ys) (cx : Cn xs) (cy : Cn ys) :
    Calls Try.prog 49 #[v, u] w fun e w' => e = .returned (.int .i64 (cm (nv xs) (nv ys))) ∧ Dr w w' := by
  obtain ⟨A, c, rfl, hcl, hx⟩ := hx
  obtain ⟨B, d, rfl, hdl, hy⟩ := hy
  have lx := hx.len
  have ly := hy.len
  rcases Nat.lt_trichotomy xs.length ys.length with hl | hl | hl
  · have He := hid (cm_lt (cy.lt_of_length bx by_ hl))
    clear bx by_ cx cy hx hy
    have h1 : ((xs.length : Int) == (ys.length : Int)) = false := by rw [beq_eq_false_iff_ne]; omega
    have h2 : ((xs.length : Int) != (ys.length : Int)) = true := by rw [bne_iff_ne]; omega
    go_enter Try.func49, Try.ntmps49
    go_wp2
    go_ret
    exact ⟨by rw [He.out]; rfl, Dr.refl _⟩
  · have HX := hid hx
    have HY := hid hy
    have HE := hid (show ∀ j, xs.length ≤ j → lm xs j = lm ys j from fun j hj => by rw [lm_out hj, lm_out (by omega)])
    have HL := hid hl
    have HBX := hid bx
    have HBY := hid by_
    have h1 : ((xs.length : Int) == (ys.length : Int)) = true := by rw [beq_iff_eq]; omega
    have h2 : ((xs.length : Int) != (ys.length : Int)) = false := by rw [bne_eq_false_iff_eq]; omega
    clear hx hy hl bx by_ cx cy
    go_enter Try.func49, Try.ntmps49
    go_wp2
    go_loopg [5] xs.length (fun gk v w' => ∃ i : Int, v = .int .i64 i ∧ -1 ≤ i ∧ i < xs.length ∧ Hid (∀ j : Nat, i < j → lm xs j = lm ys j) ∧ gk = (i + 1).toNat ∧ Dr w w')
    case atStart => exact ⟨(xs.length : Int) - 1, rfl, by omega, by omega, hid (fun j hj => HE.out j (by omega)), by omega, Dr.refl _⟩
    case round =>
      obtain ⟨i, rfl, hi0, hi1, hj, hg, ⟨n, rfl⟩⟩ := hrel
      have HG := hid hg
      clear hg
      by_cases h0 : 0 ≤ i
      · obtain ⟨k, rfl⟩ := Int.eq_ofNat_of_zero_le h0
        have hk : k < xs.length := by omega
        have hk2 : k < ys.length := by have := HL.out; omega
        obtain ⟨b, o, rfl, hc⟩ := HX.out.at (by omega)
        obtain ⟨b2, o2, rfl, hc2⟩ := HY.out.at (by omega)
        have c1 := hc k hk
        have c2 := hc2 k hk2
        clear hc hc2
        have hk3 : (k : Int) < (ys.length : Int) := by omega
        rcases Int.lt_trichotomy (lm xs k) (lm ys k) with he | he | he
        · have e1 : (lm xs k != lm ys k) = true := by rw [bne_iff_ne]; omega
          have HC := hid (cm_lt (nv_lt_of_limb HBX.out HBY.out HL.out hk (fun j hj' => hj.out j (by omega)) he))
          go_wp2
          go_quiet (fail)
          go_wp2
          go_quiet (fail)
          go_wp2
          go_ret
          exact ⟨by rw [HC.out]; rfl, by repeat (first | exact Dr.refl _ | apply Dr.step)⟩
        · have e1 : (lm xs k != lm ys k) = false := by rw [bne_eq_false_iff_eq]; exact he
          have HC := hid he
          clear he
          go_wp2
          go_quiet (fail)
          go_wp2
          go_roundg k
          case measure => have := HG.out; omega
          case rel => exact ⟨(k : Int) - 1, rfl, by omega, by omega, hid (fun j hj' => by
              by_cases e : j = k
              · subst e; exact HC.out
              · exact hj.out j (by omega)), by omega, by repeat (first | exact Dr.refl _ | apply Dr.step)⟩
        · have e1 : (lm xs k != lm ys k) = true := by rw [bne_iff_ne]; omega
          have HC := hid (cm_gt (nv_lt_of_limb HBY.out HBX.out HL.out.symm hk2 (fun j hj' => (hj.out j (by omega)).symm) he))
          go_wp2
          go_quiet (fail)
          go_wp2
          go_quiet (fail)
          go_wp2
          go_ret
          exact ⟨by rw [HC.out]; rfl, by repeat (first | exact Dr.refl _ | apply Dr.step)⟩
      · have HC := hid (cm_eq (nv_eq_of_limbs HL.out fun j hj' => hj.out j (by omega)))
        have h3 : decide (0 ≤ i) = false := by simp; omega
        go_wp2
        go_ret
        exact ⟨by rw [HC.out]; rfl, by repeat (first | exact Dr.refl _ | apply Dr.step)⟩
  · have He := hid (cm_gt (cx.lt_of_length by_ bx hl))
    clear bx by_ cx cy hx hy
    have h1 : ((xs.length : Int) == (ys.length : Int)) = false := by rw [beq_eq_false_iff_ne]; omega
    have h2 : ((xs.length : Int) != (ys.length : Int)) = true := by rw [bne_iff_ne]; omega
    go_enter Try.func49, Try.ntmps49
    go_wp2
    go_ret
    exact ⟨by rw [He.out]; rfl, Dr.refl _⟩

theorem rtrim_any (w : World) (v : Value) (xs : List Int) (h : SlV w v xs) :
    Calls Try.prog 52 #[v] w fun e w' => (∃ s, e = .returned s ∧ Row w' w.heap.size s (tr xs)) ∧ Below w.heap.size w w' := by
  obtain ⟨A, c, rfl, hc, h⟩ := h
  have hl := h.len
  have H := hid h
  clear h
  go_enter Try.func52, Try.ntmps52
  go_wp2
  go_loop [3] (fun v => ∃ k : Nat, v = .int .i64 k ∧ k ≤ xs.length ∧ Hid (∀ j : Nat, k ≤ j → lm xs j = 0)) (fun v => (intOf v).toNat)
  case atStart => exact ⟨xs.length, rfl, Nat.le_refl _, hid (fun j hj => lm_out hj)⟩
  case round =>
    obtain ⟨k, rfl, hk, hj⟩ := hrel
    by_cases h0 : 0 < k
    · obtain ⟨b, o, rfl, hcl⟩ := H.out.at (by omega)
      have c1 := hcl (k - 1) (by omega)
      clear hcl
      obtain ⟨m, rfl⟩ : ∃ m, k = m + 1 := ⟨k - 1, by omega⟩
      simp only [Nat.add_sub_cancel] at c1
      by_cases hz : lm xs m = 0
      · have h1 : (lm xs m == 0) = true := by rw [beq_iff_eq]; exact hz
        have HZ := hid hz
        clear hz
        go_wp2
        go_round
        case rel => exact ⟨m, by go_num, by omega, hid (fun j hj' => by
            by_cases e : j = m
            · subst e; exact HZ.out
            · exact hj.out j (by omega))⟩
        case measure => simp [intOf]
      · have h1 : (lm xs m == 0) = false := by rw [beq_eq_false_iff_ne]; exact hz
        have HT := hid (tl_spec xs (m + 1) hk hj.out (fun _ => hz))
        clear hz
        have S2 := hid (SlV.mk (n := m + 1) (H.out.take (m + 1)) (c := c) (by rw [List.length_take]; omega) (by omega))
        go_wp2_with (at_builtin; refine wp_copy_u32 rfl _ rfl _ (xs.take (m + 1)) rfl S2.out ?_; intro v1 w1 hr hb)
        go_ret
        exact ⟨⟨_, rfl, by unfold tr; rw [HT.out]; exact hr⟩, hb⟩
    · obtain rfl : k = 0 := by omega
      have HT := hid (tl_spec xs 0 (by omega) hj.out (fun h => absurd h (by omega)))
      have h3 : decide ((0 : Int) < 0) = false := by decide
      have S2 := hid (SlV.mk (n := 0) (H.out.take 0) (c := c) (by rw [List.length_take]; omega) (by omega))
      go_wp2_with (at_builtin; refine wp_copy_u32 rfl _ rfl _ (xs.take 0) rfl S2.out ?_; intro v1 w1 hr hb)
      go_ret
      exact ⟨⟨_, rfl, by unfold tr; rw [HT.out]; exact hr⟩, hb⟩
end Go.Proofs.Ytdbgalohppfkfaa
