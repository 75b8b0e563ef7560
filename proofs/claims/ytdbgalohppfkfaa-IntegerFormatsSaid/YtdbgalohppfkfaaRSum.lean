/- The reference: sum, difference. -/
import Derived.Test.YtdbgalohppfkfaaRMake
import Derived.Test.YtdbgalohppfkfaaPush
namespace Go.Proofs.Ytdbgalohppfkfaa
open Go.RowKit
set_option linter.unusedVariables false

theorem nv_snoc (os : List Int) (y : Int) : nv (os ++ [y]) = nv os + bp os.length * y := by
  have h := nv_take_succ (os ++ [y]) os.length
  rw [List.take_of_length_le (by simp), List.take_left] at h
  rw [h]
  congr 2
  rw [lm_getElem (by simp)]; simp
theorem Lb.snoc {os : List Int} (h : Lb os) {y : Int} (h0 : 0 ≤ y) (h1 : y < 4294967296) : Lb (os ++ [y]) := fun z hz => by
  rcases List.mem_append.1 hz with hz | hz
  · exact h z hz
  · rw [List.mem_singleton.1 hz]; exact ⟨h0, h1⟩
/-- The call hands back a row of its own that reads as this number, with at most L limbs. -/
def RetRow (w : World) (B : Nat) (z : Int) (L : Nat) (e : Ending) : Prop := ∃ s os, e = .returned s ∧ Row w B s os ∧ Lb os ∧ nv os = z ∧ os.length ≤ L

set_option maxHeartbeats 1000000 in
theorem rsum_any (w : World) (v u : Value) (xs ys : List Int) (hx : SlV w v xs) (hy : SlV w u ys) (bx : Lb xs) (by_ : Lb ys) (lx : xs.length < 1099511627775) (ly : ys.length < 1099511627775) :
    Calls Try.prog 57 #[v, u] w fun e w' => RetRow w' w.heap.size (nv xs + nv ys) (max xs.length ys.length + 1) e ∧ Below w.heap.size w w' := by
  have HX := hid hx
  have HY := hid hy
  obtain ⟨A, c, rfl, hcl, hx⟩ := hx
  obtain ⟨B, d, rfl, hdl, hy⟩ := hy
  have HBX := hid bx
  have HBY := hid by_
  have SX := hid hx
  have SY := hid hy
  clear hx hy bx by_
  obtain ⟨n, hn⟩ : ∃ n, n = max xs.length ys.length := ⟨_, rfl⟩
  have hn1 : xs.length ≤ n := by omega
  have hn2 : ys.length ≤ n := by omega
  have hn3 : n < 1099511627775 := by omega
  have hn4 : ∀ k, k < n → k < xs.length ∨ k < ys.length := fun k hk => by omega
  have HN4 := hid hn4
  rw [← hn]
  clear hn4 hn
  go_enter Try.func57, Try.ntmps57
  go_wp2
  go_loopw [5, 6, 7] (fun o v i wr => ∃ (cy : Int) (k : Nat) (os : List Int), v = .int .u64 cy ∧ i = .int .i64 k ∧ 0 ≤ cy ∧ cy ≤ 1 ∧ k ≤ n ∧ Hid (os.length = k) ∧ Hid (Row wr w.heap.size o os) ∧ Hid (Lb os) ∧
      Hid (nv os + bp k * cy = nv (xs.take k) + nv (ys.take k)) ∧ Below w.heap.size w wr) (fun _ _ i _ => n - (intOf i).toNat)
  case atStart => exact ⟨0, 0, [], rfl, rfl, by omega, by omega, by omega, hid rfl, hid (Row.nil _ _), hid Lb.nil, hid (by simp [nv_nil]), Below.refl _ _⟩
  case round =>
    obtain ⟨cy, k, os, rfl, rfl, hc0, hc1, hk, hlen, hrow, hlb, hval, hbel⟩ := hrel
    have hsz := hid hbel.size
    have hbx := HBX.out.lm k
    have hby := HBY.out.lm k

    by_cases hkx : k < xs.length
    · by_cases hky : k < ys.length
      · obtain ⟨b1, o1, rfl, hc1x⟩ := SX.out.at (by omega)
        have c1 := cell_below hbel (hc1x k hkx)
        clear hc1x
        obtain ⟨b2, o2, rfl, hc2x⟩ := SY.out.at (by omega)
        have c2 := cell_below hbel (hc2x k hky)
        clear hc2x
        have HL := hid (show os.length < 1099511627776 by have := hlen.out; omega)
        have h2 := hid (Int.emod_nonneg (cy + lm xs k + lm ys k) (show (4294967296 : Int) ≠ 0 by decide))
        have h3 := hid (Int.emod_lt_of_pos (cy + lm xs k + lm ys k) (show (0 : Int) < 4294967296 by decide))
        have hkn : k < n := by omega
        go_wp2_with (at_builtin; refine wp_push_u32 rfl _ _ rfl _ _ w.heap.size os hrow.out hsz.out HL.out rfl rfl ?_; intro v1 w1 hr1 hb1; have HR1 := hid hr1; have HB1 := hid (hbel.trans hb1); clear hr1 hb1)
        go_roundw
        case measure => simp [intOf]; omega
        case rel =>
          have hl := hlen.out
          refine ⟨_, k + 1, os ++ [(cy + lm xs k + lm ys k) % 4294967296], rfl, by go_num, by omega, by omega, by omega, hid (by rw [List.length_append, hl]; rfl), HR1, hid (hlb.out.snoc h2.out h3.out), hid ?_, HB1.out⟩
          rw [nv_snoc, hl, nv_take_succ, nv_take_succ, bp_succ, plus_step hval.out (show cy + (lm xs k + lm ys k) = (cy + lm xs k + lm ys k) by omega)]
          omega
      · have hz := lm_out (xs := ys) (i := k) (by omega)
        have HZ := hid hz
        clear hz
        obtain ⟨b1, o1, rfl, hc1x⟩ := SX.out.at (by omega)
        have c1 := cell_below hbel (hc1x k hkx)
        clear hc1x
        have HL := hid (show os.length < 1099511627776 by have := hlen.out; omega)
        have h2 := hid (Int.emod_nonneg (cy + lm xs k) (show (4294967296 : Int) ≠ 0 by decide))
        have h3 := hid (Int.emod_lt_of_pos (cy + lm xs k) (show (0 : Int) < 4294967296 by decide))
        have hkn : k < n := by omega
        go_wp2_with (at_builtin; refine wp_push_u32 rfl _ _ rfl _ _ w.heap.size os hrow.out hsz.out HL.out rfl rfl ?_; intro v1 w1 hr1 hb1; have HR1 := hid hr1; have HB1 := hid (hbel.trans hb1); clear hr1 hb1)
        go_roundw
        case measure => simp [intOf]; omega
        case rel =>
          have hl := hlen.out
          refine ⟨_, k + 1, os ++ [(cy + lm xs k) % 4294967296], rfl, by go_num, by omega, by omega, by omega, hid (by rw [List.length_append, hl]; rfl), HR1, hid (hlb.out.snoc h2.out h3.out), hid ?_, HB1.out⟩
          rw [nv_snoc, hl, nv_take_succ, nv_take_succ, bp_succ, HZ.out, plus_step (y := 0) hval.out (show cy + (lm xs k + 0) = (cy + lm xs k) by omega)]
          omega
    · have hz := lm_out (xs := xs) (i := k) (by omega)
      have HZ := hid hz
      clear hz
      by_cases hky : k < ys.length
      · obtain ⟨b2, o2, rfl, hc2x⟩ := SY.out.at (by omega)
        have c2 := cell_below hbel (hc2x k hky)
        clear hc2x
        have HL := hid (show os.length < 1099511627776 by have := hlen.out; omega)
        have h2 := hid (Int.emod_nonneg (cy + lm ys k) (show (4294967296 : Int) ≠ 0 by decide))
        have h3 := hid (Int.emod_lt_of_pos (cy + lm ys k) (show (0 : Int) < 4294967296 by decide))
        have hkn : k < n := by omega
        go_wp2_with (at_builtin; refine wp_push_u32 rfl _ _ rfl _ _ w.heap.size os hrow.out hsz.out HL.out rfl rfl ?_; intro v1 w1 hr1 hb1; have HR1 := hid hr1; have HB1 := hid (hbel.trans hb1); clear hr1 hb1)
        go_roundw
        case measure => simp [intOf]; omega
        case rel =>
          have hl := hlen.out
          refine ⟨_, k + 1, os ++ [(cy + lm ys k) % 4294967296], rfl, by go_num, by omega, by omega, by omega, hid (by rw [List.length_append, hl]; rfl), HR1, hid (hlb.out.snoc h2.out h3.out), hid ?_, HB1.out⟩
          rw [nv_snoc, hl, nv_take_succ, nv_take_succ, bp_succ, HZ.out, plus_step (x := 0) hval.out (show cy + (0 + lm ys k) = (cy + lm ys k) by omega)]
          omega
      · have hkn : k = n := by
          rcases Nat.lt_or_ge k n with h | h
          · rcases HN4.out k h with h | h <;> omega
          · omega
        have E := hid hkn
        have HL := hid (show os.length < 1099511627776 by have := hlen.out; omega)
        clear hkn
        have hcm : cy % 4294967296 = cy := by omega
        go_wp2_with (at_builtin; refine wp_push_u32 rfl _ _ rfl _ _ w.heap.size os hrow.out hsz.out HL.out rfl rfl ?_; intro v1 w1 hr1 hb1; have HR1 := hid hr1; have HB1 := hid (hbel.trans hb1); clear hr1 hb1)
        go_ret
        refine ⟨⟨v1, os ++ [cy], rfl, HR1.out, hlb.out.snoc hc0 (by omega), ?_, ?_⟩, HB1.out⟩
        · have e := hval.out
          rw [E.out, nv_take_all hn1, nv_take_all hn2] at e
          rw [nv_snoc, hlen.out, E.out]
          exact e
        · rw [List.length_append, hlen.out, E.out]; exact Nat.le_refl _

theorem diff_digit {x s D : Int} (hx0 : 0 ≤ x) (hx1 : x < 4294967296) (hs0 : 0 ≤ s) (hs1 : s ≤ 4294967296) (hD : IntKind.u64.wrap (x - s) = D) :
    x - s = D % 4294967296 - 4294967296 * (if x < s then 1 else 0) ∧ 0 ≤ D % 4294967296 ∧ D % 4294967296 < 4294967296 := by
  rw [wrap_u64] at hD
  split <;> omega

set_option maxHeartbeats 1000000 in
theorem rdifference_any (w : World) (v u : Value) (xs ys : List Int) (hx : SlV w v xs) (hy : SlV w u ys) (bx : Lb xs) (by_ : Lb ys) (hle : nv ys ≤ nv xs) (hll : ys.length ≤ xs.length) (lx : xs.length < 1099511627776) :
    Calls Try.prog 58 #[v, u] w fun e w' => RetRow w' w.heap.size (nv xs - nv ys) xs.length e ∧ Below w.heap.size w w' := by
  obtain ⟨A, c, rfl, hcl, hx⟩ := hx
  obtain ⟨B, d, rfl, hdl, hy⟩ := hy
  have HBX := hid bx
  have HBY := hid by_
  have SX := hid hx
  have SY := hid hy
  have HLE := hid hle
  clear hx hy bx by_ hle
  go_enter Try.func58, Try.ntmps58
  go_wp2
  go_loopw [5, 6, 7] (fun o v i wr => ∃ (bo : Int) (k : Nat) (os : List Int), v = .int .u64 bo ∧ i = .int .i64 k ∧ 0 ≤ bo ∧ bo ≤ 1 ∧ k ≤ xs.length ∧ Hid (os.length = k) ∧ Hid (Row wr w.heap.size o os) ∧ Hid (Lb os) ∧
      Hid (nv os - bp k * bo = nv (xs.take k) - nv (ys.take k)) ∧ Below w.heap.size w wr) (fun _ _ i _ => xs.length - (intOf i).toNat)
  case atStart => exact ⟨0, 0, [], rfl, rfl, by omega, by omega, by omega, hid rfl, hid (Row.nil _ _), hid Lb.nil, hid (by simp [nv_nil]), Below.refl _ _⟩
  case round =>
    obtain ⟨bo, k, os, rfl, rfl, hc0, hc1, hk, hlen, hrow, hlb, hval, hbel⟩ := hrel
    have hsz := hid hbel.size
    have hbx := HBX.out.lm k
    have hby := HBY.out.lm k
    by_cases hkx : k < xs.length
    · obtain ⟨b1, o1, rfl, hc1x⟩ := SX.out.at (by omega)
      have HX1 := hid (hc1x k hkx)
      have c1 := cell_below hbel HX1.out
      have HL := hid (show os.length < 1099511627776 by have := hlen.out; omega)
      clear hc1x
      by_cases hky : k < ys.length
      · obtain ⟨b2, o2, rfl, hc2x⟩ := SY.out.at (by omega)
        have c2 := cell_below hbel (hc2x k hky)
        clear hc2x
        obtain ⟨D, hD⟩ : ∃ D, IntKind.u64.wrap (lm xs k - (bo + lm ys k)) = D := ⟨_, rfl⟩
        have DG := hid (diff_digit hbx.1 hbx.2 (show 0 ≤ (bo + lm ys k) by omega) (show (bo + lm ys k) ≤ 4294967296 by omega) hD)
        by_cases hbr : lm xs k < (bo + lm ys k)
        · have db : decide (lm xs k < (bo + lm ys k)) = true := by rw [decide_eq_true_eq]; omega
          have DQ := hid (show lm xs k - (bo + lm ys k) = D % 4294967296 - 4294967296 * 1 by have := DG.out.1; rw [if_pos hbr] at this; exact this)
          go_wp2_with (at_builtin; refine wp_push_u32 rfl _ _ rfl _ _ w.heap.size os hrow.out hsz.out HL.out rfl rfl ?_; intro v1 w1 hr1 hb1; have c3 := cell_below (hbel.trans hb1) HX1.out; have HR1 := hid hr1; have HB1 := hid (hbel.trans hb1); clear hr1 hb1)
          go_roundw
          case measure => simp [intOf]; omega
          case rel =>
            have hl := hlen.out
            refine ⟨_, k + 1, os ++ [D % 4294967296], rfl, by go_num, by omega, by omega, by omega, hid (by rw [List.length_append, hl]; rfl), HR1, hid (hlb.out.snoc DG.out.2.1 DG.out.2.2), hid ?_, HB1.out⟩
            rw [nv_snoc, hl, nv_take_succ, nv_take_succ, bp_succ, minus_step (x := lm xs k) (y := lm ys k) hval.out (show lm xs k - lm ys k - bo = D % 4294967296 - 4294967296 * 1 by have := DQ.out; omega)]
            omega
        · have db : decide (lm xs k < (bo + lm ys k)) = false := by rw [decide_eq_false_iff_not]; omega
          have DQ := hid (show lm xs k - (bo + lm ys k) = D % 4294967296 - 4294967296 * 0 by have := DG.out.1; rw [if_neg hbr] at this; exact this)
          go_wp2_with (at_builtin; refine wp_push_u32 rfl _ _ rfl _ _ w.heap.size os hrow.out hsz.out HL.out rfl rfl ?_; intro v1 w1 hr1 hb1; have c3 := cell_below (hbel.trans hb1) HX1.out; have HR1 := hid hr1; have HB1 := hid (hbel.trans hb1); clear hr1 hb1)
          go_roundw
          case measure => simp [intOf]; omega
          case rel =>
            have hl := hlen.out
            refine ⟨_, k + 1, os ++ [D % 4294967296], rfl, by go_num, by omega, by omega, by omega, hid (by rw [List.length_append, hl]; rfl), HR1, hid (hlb.out.snoc DG.out.2.1 DG.out.2.2), hid ?_, HB1.out⟩
            rw [nv_snoc, hl, nv_take_succ, nv_take_succ, bp_succ, minus_step (x := lm xs k) (y := lm ys k) hval.out (show lm xs k - lm ys k - bo = D % 4294967296 - 4294967296 * 0 by have := DQ.out; omega)]
            omega
      · have hz := lm_out (xs := ys) (i := k) (by omega)
        have HZ := hid hz
        clear hz
        obtain ⟨D, hD⟩ : ∃ D, IntKind.u64.wrap (lm xs k - bo) = D := ⟨_, rfl⟩
        have DG := hid (diff_digit hbx.1 hbx.2 (show 0 ≤ bo by omega) (show bo ≤ 4294967296 by omega) hD)
        by_cases hbr : lm xs k < bo
        · have db : decide (lm xs k < bo) = true := by rw [decide_eq_true_eq]; omega
          have DQ := hid (show lm xs k - bo = D % 4294967296 - 4294967296 * 1 by have := DG.out.1; rw [if_pos hbr] at this; exact this)
          go_wp2_with (at_builtin; refine wp_push_u32 rfl _ _ rfl _ _ w.heap.size os hrow.out hsz.out HL.out rfl rfl ?_; intro v1 w1 hr1 hb1; have c3 := cell_below (hbel.trans hb1) HX1.out; have HR1 := hid hr1; have HB1 := hid (hbel.trans hb1); clear hr1 hb1)
          go_roundw
          case measure => simp [intOf]; omega
          case rel =>
            have hl := hlen.out
            refine ⟨_, k + 1, os ++ [D % 4294967296], rfl, by go_num, by omega, by omega, by omega, hid (by rw [List.length_append, hl]; rfl), HR1, hid (hlb.out.snoc DG.out.2.1 DG.out.2.2), hid ?_, HB1.out⟩
            rw [nv_snoc, hl, nv_take_succ, nv_take_succ, bp_succ, HZ.out, minus_step (x := lm xs k) (y := 0) hval.out (show lm xs k - 0 - bo = D % 4294967296 - 4294967296 * 1 by have := DQ.out; omega)]
            omega
        · have db : decide (lm xs k < bo) = false := by rw [decide_eq_false_iff_not]; omega
          have DQ := hid (show lm xs k - bo = D % 4294967296 - 4294967296 * 0 by have := DG.out.1; rw [if_neg hbr] at this; exact this)
          go_wp2_with (at_builtin; refine wp_push_u32 rfl _ _ rfl _ _ w.heap.size os hrow.out hsz.out HL.out rfl rfl ?_; intro v1 w1 hr1 hb1; have c3 := cell_below (hbel.trans hb1) HX1.out; have HR1 := hid hr1; have HB1 := hid (hbel.trans hb1); clear hr1 hb1)
          go_roundw
          case measure => simp [intOf]; omega
          case rel =>
            have hl := hlen.out
            refine ⟨_, k + 1, os ++ [D % 4294967296], rfl, by go_num, by omega, by omega, by omega, hid (by rw [List.length_append, hl]; rfl), HR1, hid (hlb.out.snoc DG.out.2.1 DG.out.2.2), hid ?_, HB1.out⟩
            rw [nv_snoc, hl, nv_take_succ, nv_take_succ, bp_succ, HZ.out, minus_step (x := lm xs k) (y := 0) hval.out (show lm xs k - 0 - bo = D % 4294967296 - 4294967296 * 0 by have := DQ.out; omega)]
            omega
    · have E := hid (show k = xs.length by omega)
      go_wp2
      go_ret
      have e := hval.out
      rw [E.out, nv_take_all (Nat.le_refl _), nv_take_all hll] at e
      have hb0 : bo = 0 := by
        have h1 := nv_lt hlb.out
        rw [hlen.out, E.out] at h1
        have h2 := HLE.out
        rcases (show bo = 0 ∨ bo = 1 by omega) with h | h
        · exact h
        · rw [h] at e; omega
      rw [hb0] at e
      exact ⟨⟨_, os, rfl, hrow.out, hlb.out, by omega, by rw [hlen.out, E.out]; exact Nat.le_refl _⟩, hbel⟩

end Go.Proofs.Ytdbgalohppfkfaa