/- A part of the proof of the laws of rationals: RSum, RDouble, RAdd, RSub. -/
import Derived.Test.YtijmjkkjopplbaaPam
import Derived.Test.YtijmjkkjopplbaaPab
import Derived.Test.YtijmjkkjopplbaaPac
import Derived.Test.YtijmjkkjopplbaaPkRationalNormalizesa
import Derived.Test.YtijmjkkjopplbaaPai
import Derived.Test.YtijmjkkjopplbaaPaa
import Derived.Test.YtijmjkkjopplbaaPas
import Derived.Test.YtijmjkkjopplbaaPkRationalNormalizesf
import Derived.Test.YtijmjkkjopplbaaPkRationalNormalizesd
import Derived.Test.YtijmjkkjopplbaaPar
import Derived.Test.YtijmjkkjopplbaaPkRationalNormalizese
import Derived.Test.YtijmjkkjopplbaaPae
import Derived.Test.YtijmjkkjopplbaaPav
namespace Go.Proofs.Ytijmjkkjopplbaa
open Go.RowKit
set_option linter.unusedVariables false
set_option maxRecDepth 100000

theorem nv_snoc (os : List Int) (y : Int) : nv (os ++ [y]) = nv os + bp os.length * y := by
  have h := nv_take_succ (os ++ [y]) os.length
  rw [List.take_of_length_le (by simp), List.take_left] at h
  rw [h]
  congr 2
  rw [lm_getElem (by simp)]; simp
theorem Lb.snoc {os : List Int} (h : Lb os) {y : Int} (h0 : 0 ≤ y) (h1 : y < 4294967296) : Lb (os ++ [y]) := fun z hz => by
  rcases List.mem_append.1 hz with hz | hz
  · exact h z hz
  · rw [List.mem_singleton.1 hz]; exact ⟨h0, h1⟩
/-- The call hands back a row of its own that reads as this number, with at most L limbs. -/
def RetRow (w : World) (B : Nat) (z : Int) (L : Nat) (e : Ending) : Prop := ∃ s os, e = .returned s ∧ Row w B s os ∧ Lb os ∧ nv os = z ∧ os.length ≤ L

set_option maxHeartbeats 1000000 in
theorem rsum_any (w : World) (v u : Value) (xs ys : List Int) (hx : SlV w v xs) (hy : SlV w u ys) (bx : Lb xs) (by_ : Lb ys) (lx : xs.length < 1099511627775) (ly : ys.length < 1099511627775) :
    Calls Try.prog 91 #[v, u] w fun e w' => RetRow w' w.heap.size (nv xs + nv ys) (max xs.length ys.length + 1) e ∧ Below w.heap.size w w' := by
  have HX := hid hx
  have HY := hid hy
  obtain ⟨A, c, rfl, hcl, hx⟩ := hx
  obtain ⟨B, d, rfl, hdl, hy⟩ := hy
  have HBX := hid bx
  have HBY := hid by_
  have SX := hid hx
  have SY := hid hy
  clear hx hy bx by_
  obtain ⟨n, hn⟩ : ∃ n, n = max xs.length ys.length := ⟨_, rfl⟩
  have hn1 : xs.length ≤ n := by omega
  have hn2 : ys.length ≤ n := by omega
  have hn3 : n < 1099511627775 := by omega
  have hn4 : ∀ k, k < n → k < xs.length ∨ k < ys.length := fun k hk => by omega
  have HN4 := hid hn4
  rw [← hn]
  clear hn4 hn
  go_enter Try.func91, Try.ntmps91
  go_wp2
  go_loopw [5, 6, 7] (fun o v i wr => ∃ (cy : Int) (k : Nat) (os : List Int), v = .int .u64 cy ∧ i = .int .i64 k ∧ 0 ≤ cy ∧ cy ≤ 1 ∧ k ≤ n ∧ Hid (os.length = k) ∧ Hid (Row wr w.heap.size o os) ∧ Hid (Lb os) ∧
      Hid (nv os + bp k * cy = nv (xs.take k) + nv (ys.take k)) ∧ Below w.heap.size w wr) (fun _ _ i _ => n - (intOf i).toNat)
  case atStart => exact ⟨0, 0, [], rfl, rfl, by omega, by omega, by omega, hid rfl, hid (Row.nil _ _), hid Lb.nil, hid (by simp [nv_nil]), Below.refl _ _⟩
  case round =>
    obtain ⟨cy, k, os, rfl, rfl, hc0, hc1, hk, hlen, hrow, hlb, hval, hbel⟩ := hrel
    have hsz := hid hbel.size
    have hbx := HBX.out.lm k
    have hby := HBY.out.lm k

    by_cases hkx : k < xs.length
    · by_cases hky : k < ys.length
      · obtain ⟨b1, o1, rfl, hc1x⟩ := SX.out.at (by omega)
        have c1 := cell_below hbel (hc1x k hkx)
        clear hc1x
        obtain ⟨b2, o2, rfl, hc2x⟩ := SY.out.at (by omega)
        have c2 := cell_below hbel (hc2x k hky)
        clear hc2x
        have HL := hid (show os.length < 1099511627776 by have := hlen.out; omega)
        have h2 := hid (Int.emod_nonneg (cy + lm xs k + lm ys k) (show (4294967296 : Int) ≠ 0 by decide))
        have h3 := hid (Int.emod_lt_of_pos (cy + lm xs k + lm ys k) (show (0 : Int) < 4294967296 by decide))
        have hkn : k < n := by omega
        go_wp2_with (at_builtin; refine wp_push_u32 rfl _ _ rfl _ _ w.heap.size os hrow.out hsz.out HL.out rfl rfl ?_; intro v1 w1 hr1 hb1; have HR1 := hid hr1; have HB1 := hid (hbel.trans hb1); clear hr1 hb1)
        go_roundw
        case measure => simp [intOf]; omega
        case rel =>
          have hl := hlen.out
          refine ⟨_, k + 1, os ++ [(cy + lm xs k + lm ys k) % 4294967296], rfl, by go_num, by omega, by omega, by omega, hid (by rw [List.length_append, hl]; rfl), HR1, hid (hlb.out.snoc h2.out h3.out), hid ?_, HB1.out⟩
          rw [nv_snoc, hl, nv_take_succ, nv_take_succ, bp_succ, plus_step hval.out (show cy + (lm xs k + lm ys k) = (cy + lm xs k + lm ys k) by omega)]
          omega
      · have hz := lm_out (xs := ys) (i := k) (by omega)
        have HZ := hid hz
        clear hz
        obtain ⟨b1, o1, rfl, hc1x⟩ := SX.out.at (by omega)
        have c1 := cell_below hbel (hc1x k hkx)
        clear hc1x
        have HL := hid (show os.length < 1099511627776 by have := hlen.out; omega)
        have h2 := hid (Int.emod_nonneg (cy + lm xs k) (show (4294967296 : Int) ≠ 0 by decide))
        have h3 := hid (Int.emod_lt_of_pos (cy + lm xs k) (show (0 : Int) < 4294967296 by decide))
        have hkn : k < n := by omega
        go_wp2_with (at_builtin; refine wp_push_u32 rfl _ _ rfl _ _ w.heap.size os hrow.out hsz.out HL.out rfl rfl ?_; intro v1 w1 hr1 hb1; have HR1 := hid hr1; have HB1 := hid (hbel.trans hb1); clear hr1 hb1)
        go_roundw
        case measure => simp [intOf]; omega
        case rel =>
          have hl := hlen.out
          refine ⟨_, k + 1, os ++ [(cy + lm xs k) % 4294967296], rfl, by go_num, by omega, by omega, by omega, hid (by rw [List.length_append, hl]; rfl), HR1, hid (hlb.out.snoc h2.out h3.out), hid ?_, HB1.out⟩
          rw [nv_snoc, hl, nv_take_succ, nv_take_succ, bp_succ, HZ.out, plus_step (y := 0) hval.out (show cy + (lm xs k + 0) = (cy + lm xs k) by omega)]
          omega
    · have hz := lm_out (xs := xs) (i := k) (by omega)
      have HZ := hid hz
      clear hz
      by_cases hky : k < ys.length
      · obtain ⟨b2, o2, rfl, hc2x⟩ := SY.out.at (by omega)
        have c2 := cell_below hbel (hc2x k hky)
        clear hc2x
        have HL := hid (show os.length < 1099511627776 by have := hlen.out; omega)
        have h2 := hid (Int.emod_nonneg (cy + lm ys k) (show (4294967296 : Int) ≠ 0 by decide))
        have h3 := hid (Int.emod_lt_of_pos (cy + lm ys k) (show (0 : Int) < 4294967296 by decide))
        have hkn : k < n := by omega
        go_wp2_with (at_builtin; refine wp_push_u32 rfl _ _ rfl _ _ w.heap.size os hrow.out hsz.out HL.out rfl rfl ?_; intro v1 w1 hr1 hb1; have HR1 := hid hr1; have HB1 := hid (hbel.trans hb1); clear hr1 hb1)
        go_roundw
        case measure => simp [intOf]; omega
        case rel =>
          have hl := hlen.out
          refine ⟨_, k + 1, os ++ [(cy + lm ys k) % 4294967296], rfl, by go_num, by omega, by omega, by omega, hid (by rw [List.length_append, hl]; rfl), HR1, hid (hlb.out.snoc h2.out h3.out), hid ?_, HB1.out⟩
          rw [nv_snoc, hl, nv_take_succ, nv_take_succ, bp_succ, HZ.out, plus_step (x := 0) hval.out (show cy + (0 + lm ys k) = (cy + lm ys k) by omega)]
          omega
      · have hkn : k = n := by
          rcases Nat.lt_or_ge k n with h | h
          · rcases HN4.out k h with h | h <;> omega
          · omega
        have E := hid hkn
        have HL := hid (show os.length < 1099511627776 by have := hlen.out; omega)
        clear hkn
        have hcm : cy % 4294967296 = cy := by omega
        go_wp2_with (at_builtin; refine wp_push_u32 rfl _ _ rfl _ _ w.heap.size os hrow.out hsz.out HL.out rfl rfl ?_; intro v1 w1 hr1 hb1; have HR1 := hid hr1; have HB1 := hid (hbel.trans hb1); clear hr1 hb1)
        go_ret
        refine ⟨⟨v1, os ++ [cy], rfl, HR1.out, hlb.out.snoc hc0 (by omega), ?_, ?_⟩, HB1.out⟩
        · have e := hval.out
          rw [E.out, nv_take_all hn1, nv_take_all hn2] at e
          rw [nv_snoc, hlen.out, E.out]
          exact e
        · rw [List.length_append, hlen.out, E.out]; exact Nat.le_refl _

theorem diff_digit {x s D : Int} (hx0 : 0 ≤ x) (hx1 : x < 4294967296) (hs0 : 0 ≤ s) (hs1 : s ≤ 4294967296) (hD : IntKind.u64.wrap (x - s) = D) :
    x - s = D % 4294967296 - 4294967296 * (if x < s then 1 else 0) ∧ 0 ≤ D % 4294967296 ∧ D % 4294967296 < 4294967296 := by
  rw [wrap_u64] at hD
  split <;> omega

set_option maxHeartbeats 1000000 in
theorem rdifference_any (w : World) (v u : Value) (xs ys : List Int) (hx : SlV w v xs) (hy : SlV w u ys) (bx : Lb xs) (by_ : Lb ys) (hle : nv ys ≤ nv xs) (hll : ys.length ≤ xs.length) (lx : xs.length < 1099511627776) :
    Calls Try.prog 92 #[v, u] w fun e w' => RetRow w' w.heap.size (nv xs - nv ys) xs.length e ∧ Below w.heap.size w w' := by
  obtain ⟨A, c, rfl, hcl, hx⟩ := hx
  obtain ⟨B, d, rfl, hdl, hy⟩ := hy
  have HBX := hid bx
  have HBY := hid by_
  have SX := hid hx
  have SY := hid hy
  have HLE := hid hle
  clear hx hy bx by_ hle
  go_enter Try.func92, Try.ntmps92
  go_wp2
  go_loopw [5, 6, 7] (fun o v i wr => ∃ (bo : Int) (k : Nat) (os : List Int), v = .int .u64 bo ∧ i = .int .i64 k ∧ 0 ≤ bo ∧ bo ≤ 1 ∧ k ≤ xs.length ∧ Hid (os.length = k) ∧ Hid (Row wr w.heap.size o os) ∧ Hid (Lb os) ∧
      Hid (nv os - bp k * bo = nv (xs.take k) - nv (ys.take k)) ∧ Below w.heap.size w wr) (fun _ _ i _ => xs.length - (intOf i).toNat)
  case atStart => exact ⟨0, 0, [], rfl, rfl, by omega, by omega, by omega, hid rfl, hid (Row.nil _ _), hid Lb.nil, hid (by simp [nv_nil]), Below.refl _ _⟩
  case round =>
    obtain ⟨bo, k, os, rfl, rfl, hc0, hc1, hk, hlen, hrow, hlb, hval, hbel⟩ := hrel
    have hsz := hid hbel.size
    have hbx := HBX.out.lm k
    have hby := HBY.out.lm k
    by_cases hkx : k < xs.length
    · obtain ⟨b1, o1, rfl, hc1x⟩ := SX.out.at (by omega)
      have HX1 := hid (hc1x k hkx)
      have c1 := cell_below hbel HX1.out
      have HL := hid (show os.length < 1099511627776 by have := hlen.out; omega)
      clear hc1x
      by_cases hky : k < ys.length
      · obtain ⟨b2, o2, rfl, hc2x⟩ := SY.out.at (by omega)
        have c2 := cell_below hbel (hc2x k hky)
        clear hc2x
        obtain ⟨D, hD⟩ : ∃ D, IntKind.u64.wrap (lm xs k - (bo + lm ys k)) = D := ⟨_, rfl⟩
        have DG := hid (diff_digit hbx.1 hbx.2 (show 0 ≤ (bo + lm ys k) by omega) (show (bo + lm ys k) ≤ 4294967296 by omega) hD)
        by_cases hbr : lm xs k < (bo + lm ys k)
        · have db : decide (lm xs k < (bo + lm ys k)) = true := by rw [decide_eq_true_eq]; omega
          have DQ := hid (show lm xs k - (bo + lm ys k) = D % 4294967296 - 4294967296 * 1 by have := DG.out.1; rw [if_pos hbr] at this; exact this)
          go_wp2_with (at_builtin; refine wp_push_u32 rfl _ _ rfl _ _ w.heap.size os hrow.out hsz.out HL.out rfl rfl ?_; intro v1 w1 hr1 hb1; have c3 := cell_below (hbel.trans hb1) HX1.out; have HR1 := hid hr1; have HB1 := hid (hbel.trans hb1); clear hr1 hb1)
          go_roundw
          case measure => simp [intOf]; omega
          case rel =>
            have hl := hlen.out
            refine ⟨_, k + 1, os ++ [D % 4294967296], rfl, by go_num, by omega, by omega, by omega, hid (by rw [List.length_append, hl]; rfl), HR1, hid (hlb.out.snoc DG.out.2.1 DG.out.2.2), hid ?_, HB1.out⟩
            rw [nv_snoc, hl, nv_take_succ, nv_take_succ, bp_succ, minus_step (x := lm xs k) (y := lm ys k) hval.out (show lm xs k - lm ys k - bo = D % 4294967296 - 4294967296 * 1 by have := DQ.out; omega)]
            omega
        · have db : decide (lm xs k < (bo + lm ys k)) = false := by rw [decide_eq_false_iff_not]; omega
          have DQ := hid (show lm xs k - (bo + lm ys k) = D % 4294967296 - 4294967296 * 0 by have := DG.out.1; rw [if_neg hbr] at this; exact this)
          go_wp2_with (at_builtin; refine wp_push_u32 rfl _ _ rfl _ _ w.heap.size os hrow.out hsz.out HL.out rfl rfl ?_; intro v1 w1 hr1 hb1; have c3 := cell_below (hbel.trans hb1) HX1.out; have HR1 := hid hr1; have HB1 := hid (hbel.trans hb1); clear hr1 hb1)
          go_roundw
          case measure => simp [intOf]; omega
          case rel =>
            have hl := hlen.out
            refine ⟨_, k + 1, os ++ [D % 4294967296], rfl, by go_num, by omega, by omega, by omega, hid (by rw [List.length_append, hl]; rfl), HR1, hid (hlb.out.snoc DG.out.2.1 DG.out.2.2), hid ?_, HB1.out⟩
            rw [nv_snoc, hl, nv_take_succ, nv_take_succ, bp_succ, minus_step (x := lm xs k) (y := lm ys k) hval.out (show lm xs k - lm ys k - bo = D % 4294967296 - 4294967296 * 0 by have := DQ.out; omega)]
            omega
      · have hz := lm_out (xs := ys) (i := k) (by omega)
        have HZ := hid hz
        clear hz
        obtain ⟨D, hD⟩ : ∃ D, IntKind.u64.wrap (lm xs k - bo) = D := ⟨_, rfl⟩
        have DG := hid (diff_digit hbx.1 hbx.2 (show 0 ≤ bo by omega) (show bo ≤ 4294967296 by omega) hD)
        by_cases hbr : lm xs k < bo
        · have db : decide (lm xs k < bo) = true := by rw [decide_eq_true_eq]; omega
          have DQ := hid (show lm xs k - bo = D % 4294967296 - 4294967296 * 1 by have := DG.out.1; rw [if_pos hbr] at this; exact this)
          go_wp2_with (at_builtin; refine wp_push_u32 rfl _ _ rfl _ _ w.heap.size os hrow.out hsz.out HL.out rfl rfl ?_; intro v1 w1 hr1 hb1; have c3 := cell_below (hbel.trans hb1) HX1.out; have HR1 := hid hr1; have HB1 := hid (hbel.trans hb1); clear hr1 hb1)
          go_roundw
          case measure => simp [intOf]; omega
          case rel =>
            have hl := hlen.out
            refine ⟨_, k + 1, os ++ [D % 4294967296], rfl, by go_num, by omega, by omega, by omega, hid (by rw [List.length_append, hl]; rfl), HR1, hid (hlb.out.snoc DG.out.2.1 DG.out.2.2), hid ?_, HB1.out⟩
            rw [nv_snoc, hl, nv_take_succ, nv_take_succ, bp_succ, HZ.out, minus_step (x := lm xs k) (y := 0) hval.out (show lm xs k - 0 - bo = D % 4294967296 - 4294967296 * 1 by have := DQ.out; omega)]
            omega
        · have db : decide (lm xs k < bo) = false := by rw [decide_eq_false_iff_not]; omega
          have DQ := hid (show lm xs k - bo = D % 4294967296 - 4294967296 * 0 by have := DG.out.1; rw [if_neg hbr] at this; exact this)
          go_wp2_with (at_builtin; refine wp_push_u32 rfl _ _ rfl _ _ w.heap.size os hrow.out hsz.out HL.out rfl rfl ?_; intro v1 w1 hr1 hb1; have c3 := cell_below (hbel.trans hb1) HX1.out; have HR1 := hid hr1; have HB1 := hid (hbel.trans hb1); clear hr1 hb1)
          go_roundw
          case measure => simp [intOf]; omega
          case rel =>
            have hl := hlen.out
            refine ⟨_, k + 1, os ++ [D % 4294967296], rfl, by go_num, by omega, by omega, by omega, hid (by rw [List.length_append, hl]; rfl), HR1, hid (hlb.out.snoc DG.out.2.1 DG.out.2.2), hid ?_, HB1.out⟩
            rw [nv_snoc, hl, nv_take_succ, nv_take_succ, bp_succ, HZ.out, minus_step (x := lm xs k) (y := 0) hval.out (show lm xs k - 0 - bo = D % 4294967296 - 4294967296 * 0 by have := DQ.out; omega)]
            omega
    · have E := hid (show k = xs.length by omega)
      go_wp2
      go_ret
      have e := hval.out
      rw [E.out, nv_take_all (Nat.le_refl _), nv_take_all hll] at e
      have hb0 : bo = 0 := by
        have h1 := nv_lt hlb.out
        rw [hlen.out, E.out] at h1
        have h2 := HLE.out
        rcases (show bo = 0 ∨ bo = 1 by omega) with h | h
        · exact h
        · rw [h] at e; omega
      rw [hb0] at e
      exact ⟨⟨_, os, rfl, hrow.out, hlb.out, by omega, by rw [hlen.out, E.out]; exact Nat.le_refl _⟩, hbel⟩

end Go.Proofs.Ytijmjkkjopplbaa
namespace Go.Proofs.Ytijmjkkjopplbaa
open Go.RowKit
set_option linter.unusedVariables false
set_option maxRecDepth 100000

theorem u32_or_bit {x b : Int} (hx0 : 0 ≤ x) (hx1 : x < 4294967296) (hb : b = 0 ∨ b = 1) : bits .or .u32 (x * 2 % 4294967296) b = x * 2 % 4294967296 + b := by
  obtain ⟨a, ha⟩ := Int.eq_ofNat_of_zero_le (show 0 ≤ x * 2 % 4294967296 by omega)
  obtain ⟨c, hc⟩ : ∃ c, a = 2 * c := ⟨a / 2, by omega⟩
  obtain ⟨d, hd⟩ := Int.eq_ofNat_of_zero_le (show 0 ≤ b by omega)
  rw [ha, hd, u32_or_nat _ _ (by omega) (by omega), hc]
  have h := Nat.two_pow_add_eq_or_of_lt (i := 1) (show d < 2 ^ 1 by omega) c
  rw [show 2 ^ 1 * c = 2 * c from rfl] at h
  rw [← h]
  omega
theorem rdouble_any (w : World) (v : Value) (xs : List Int) (b : Int) (hx : SlV w v xs) (bx : Lb xs) (hb : b = 0 ∨ b = 1) (lx : xs.length < 1099511627775) :
    Calls Try.prog 110 #[v, .int .u32 b] w fun e w' => RetRow w' w.heap.size (2 * nv xs + b) (xs.length + 1) e ∧ Below w.heap.size w w' := by
  obtain ⟨A, c, rfl, hcl, hx⟩ := hx
  have HBX := hid bx
  have SX := hid hx
  clear hx bx
  go_enter Try.func110, Try.ntmps110
  go_wp2
  go_loopw [1, 5, 10] (fun v o i wr => ∃ (cy : Int) (k : Nat) (os : List Int), v = .int .u32 cy ∧ i = .int .i64 k ∧ (cy = 0 ∨ cy = 1) ∧ k ≤ xs.length ∧ Hid (os.length = k) ∧ Hid (Row wr w.heap.size o os) ∧ Hid (Lb os) ∧
      Hid (nv os + bp k * cy = 2 * nv (xs.take k) + b) ∧ Below w.heap.size w wr) (fun _ _ i _ => xs.length - (intOf i).toNat)
  case atStart => exact ⟨b, 0, [], rfl, rfl, hb, by omega, hid rfl, hid (Row.nil _ _), hid Lb.nil, hid (by simp [nv_nil, bp_zero]), Below.refl _ _⟩
  case round =>
    obtain ⟨cy, k, os, rfl, rfl, hc, hk, hlen, hrow, hlb, hval, hbel⟩ := hrel
    have hsz := hid hbel.size
    have hbx := HBX.out.lm k
    have HL := hid (show os.length < 1099511627776 by have := hlen.out; omega)
    by_cases hkx : k < xs.length
    · obtain ⟨b1, o1, rfl, hc1x⟩ := SX.out.at (by omega)
      have c1 := cell_below hbel (hc1x k hkx)
      clear hc1x
      have hor := u32_or_bit hbx.1 hbx.2 hc
      have h2 := hid (show 0 ≤ lm xs k * 2 % 4294967296 + cy by omega)
      have h3 := hid (show lm xs k * 2 % 4294967296 + cy < 4294967296 by omega)
      have hcy := hid (show lm xs k / 2147483648 = 0 ∨ lm xs k / 2147483648 = 1 by omega)
      have hst := hid (show lm xs k * 2 = 4294967296 * (lm xs k / 2147483648) + lm xs k * 2 % 4294967296 by omega)
      go_wp2_with (at_builtin; refine wp_push_u32 rfl _ _ rfl _ _ w.heap.size os hrow.out hsz.out HL.out rfl rfl ?_; intro v1 w1 hr1 hb1; have HR1 := hid hr1; have HB1 := hid (hbel.trans hb1); clear hr1 hb1)
      go_roundw
      case measure => simp [intOf]; omega
      case rel =>
        have hl := hlen.out
        refine ⟨lm xs k / 2147483648, k + 1, os ++ [lm xs k * 2 % 4294967296 + cy], rfl, by go_num, hcy.out, by omega, hid (by rw [List.length_append, hl]; rfl), HR1, hid (hlb.out.snoc h2.out h3.out), hid ?_, HB1.out⟩
        have e := hval.out
        have e2 := hst.out
        rw [nv_snoc, hl, nv_take_succ, bp_succ]
        generalize lm xs k / 2147483648 = q at *
        generalize lm xs k * 2 % 4294967296 = r at *
        grind
    · have E := hid (show k = xs.length by omega)
      go_wp2_with (at_builtin; refine wp_push_u32 rfl _ _ rfl _ _ w.heap.size os hrow.out hsz.out HL.out rfl rfl ?_; intro v1 w1 hr1 hb1; have HR1 := hid hr1; have HB1 := hid (hbel.trans hb1); clear hr1 hb1)
      go_ret
      refine ⟨⟨v1, os ++ [cy], rfl, HR1.out, hlb.out.snoc (by omega) (by omega), ?_, ?_⟩, HB1.out⟩
      · have e := hval.out
        rw [E.out, nv_take_all (Nat.le_refl _)] at e
        rw [nv_snoc, hlen.out, E.out]
        exact e
      · rw [List.length_append, hlen.out, E.out]; exact Nat.le_refl _
end Go.Proofs.Ytijmjkkjopplbaa

namespace Go.Proofs.Ytijmjkkjopplbaa
open Go.RowKit
set_option linter.unusedVariables false
set_option maxRecDepth 100000

set_option maxHeartbeats 2000000 in
theorem radd_any (w : World) (v u : Value) (a b : Int) (n m : Nat) (ha : IntA w v a n) (hb : IntA w u b m) (hn : n < 549755813888) (hm : m < 549755813888) :
    Calls Try.prog 59 #[v, u] w fun e w' => RetI w' (a + b) e ∧ Below w.heap.size w w' := by
  obtain ⟨na, s, xs, rfl, hs, hl, hxn, rfl⟩ := ha
  obtain ⟨nb, r, ys, rfl, hr, hk, hyn, rfl⟩ := hb
  obtain ⟨W, hW⟩ : ∃ W, W = ((w.alloc (.cells #[.bool na, s] 24)).alloc (.cells #[.bool nb, r] 24)).alloc (.cells #[.bool false, .slice none 0 0] 24) := ⟨_, rfl⟩
  have X := Bx.three w (.bool na) s (.bool nb) r (.bool false) (.slice none 0 0) 24
  rw [← hW] at X
  obtain ⟨x0, x1, x2⟩ := X
  have HB : Below w.heap.size w W := by rw [hW]; exact bw_alloc (bw_alloc (bw_alloc (Below.refl _ _) _) _) _
  have S0 := hid (hs.below HB)
  have R0 := hid (hr.below HB)
  have HL := hid hl
  have HK := hid hk
  have lx : (tr xs).length < 549755813888 := by rw [tr_length]; have := tl_le xs; omega
  have ly : (tr ys).length < 549755813888 := by rw [tr_length]; have := tl_le ys; omega
  obtain ⟨k0, k1, f0, f1⟩ := id x0
  obtain ⟨k2, k3, f2, f3⟩ := id x1
  clear hs hr hl hk
  go_enter Try.func59, Try.ntmps59
  go_wp2_with fail
  rw [← hW]
  clear hW
  go_region_held3 (fun w' => w'.cell? ⟨w.heap.size, 0, none⟩ = some (.bool na) ∧ w'.cell? ⟨w.heap.size, 1, none⟩ = some s ∧ w'.cell? ⟨w.heap.size + 1, 0, none⟩ = some (.bool nb) ∧ w'.cell? ⟨w.heap.size + 1, 1, none⟩ = some r ∧ Hid (Below W.heap.size W w'))
    (first
      | exact ⟨k0, k1, k2, k3, bw_drew W⟩
      | (go_split_ands; have hh := bw_keep (by assumption) (by assumption); exact ⟨cell_below hh k0, cell_below hh k1, cell_below hh k2, cell_below hh k3, hh⟩))
    (first
      | (go_at_call 90; (with_reducible refine (rtrim_any _ s xs ?hz).mono ?_); (case hz => (go_split_ands; exact S0.out.below (Hid.out (by assumption)))); rintro e w4 ⟨⟨s1, rfl, hr1⟩, hb1⟩; have hc1 := hr1.slv (by omega))
      | (go_at_call 90; (with_reducible refine (rtrim_any _ r ys ?hz).mono ?_); (case hz => (go_split_ands; exact R0.out.below (Hid.out (by assumption)))); rintro e w4 ⟨⟨s2, rfl, hr2⟩, hb2⟩; have hc2 := hr2.slv (by omega)))
  rename_i hH
  have HBW := hH.2.2.2.2
  have hh : Below W.heap.size W w4 := HBW.out
  have y0 := x0.below hh
  have y1 := x1.below hh
  have y2 := x2.below hh
  have hB1 := bw_step HB hh
  have hv1 := hc1.below hb2
  have hv2 := hc2
  clear hH HBW hh k0 k1 f0 f1 k2 k3 f2 f3 x0 x1 x2 HB hr1 hr2 hb1 hb2 hc1 hc2 S0 R0
  obtain ⟨k0, k1, f0, f1⟩ := y0
  obtain ⟨k2, k3, f2, f3⟩ := y1
  obtain ⟨k4, k5, f4, f5⟩ := y2
  by_cases hab : na = nb
  · subst hab
    have hab' : (na == na) = true := by simp
    go_wp2_with fail
    go_region_held3 (fun w' => w'.cell? ⟨w.heap.size, 0, none⟩ = some (.bool na) ∧ w'.cell? ⟨w.heap.size + 1 + 1, 0, none⟩ = some (cv w' ⟨w.heap.size + 1 + 1, 0, none⟩) ∧ w'.cell? ⟨w.heap.size + 1 + 1, 1, none⟩ = some (cv w' ⟨w.heap.size + 1 + 1, 1, none⟩) ∧
        w'.frozen? ⟨w.heap.size + 1 + 1, 0, none⟩ = false ∧ w'.frozen? ⟨w.heap.size + 1 + 1, 1, none⟩ = false)
      (first
        | exact ⟨k0, cvx k4, cvx k5, f4, f5⟩
        | (go_split_ands; exact ⟨cell_below (by assumption) (by assumption), cvb (by assumption) (by assumption), cvb (by assumption) (by assumption), frozen_below (by assumption) (by assumption) (by assumption), frozen_below (by assumption) (by assumption) (by assumption)⟩)
        | (go_split_ands; exact ⟨st_far (by assumption) (by simp) (by simp), st_cv (by assumption), st_cv (by assumption), st_fr (by assumption), st_fr (by assumption)⟩))
      (first
        | (go_at_call 91; (with_reducible refine (rsum_any _ _ _ (tr xs) (tr ys) ?g1 ?g2 HL.out.tr HK.out.tr ?g3 ?g4).mono ?_); (case g1 => exact hv1); (case g2 => exact hv2); (case g3 => omega); (case g4 => omega); rintro e w5 ⟨⟨s3, zs, rfl, hr3, hz1, hz3, hz4⟩, hb5⟩; have hs3 := hr3.slv (by omega))
        | (go_at_call 89; (with_reducible refine (rmake_any _ na _ zs hs3 hz1).mono ?_); rintro e w6 ⟨⟨v4, rfl, hv4⟩, hb6⟩; obtain ⟨q4, A4, n4, c4, rfl⟩ := hv4.form))
    rename_i hH
    clear hH
    have h3 : Below w4.heap.size w4 w6 := bw_step (bw_step (Below.refl _ w4).drew hb5) hb6
    have e4 := cell_below h3 k4
    have e5 := cell_below h3 k5
    have HF := fin_agg (bw_step hB1 h3) (by omega) e4 e5 hv4
    rw [hz3, nv_tr, nv_tr] at HF
    clear k0 k1 k2 k3 k4 k5 f0 f1 f2 f3 f4 f5 hb5 hb6 h3 hv4 hs3
    go_wp2
    refine bodyPost_ret (v := .agg #[.bool q4, .slice A4 n4 c4]) (by simp [results, Try.results59, go_sem, e4, e5]) rfl ?_
    have e : sg na (nv xs) + sg na (nv ys) = sg na (nv xs + nv ys) := by cases na <;> simp [sg]; omega
    rw [e]; exact HF.out
  · have hab' : (na == nb) = false := by simp [hab]
    have HA := hid hab
    by_cases hc : nv (tr ys) ≤ nv (tr xs)
    · have hle := hid hc
      have hll := hid (show (tr ys).length ≤ (tr xs).length by
        rcases Nat.lt_or_ge (tr xs).length (tr ys).length with h | h
        · have := (Cn.tr ys).lt_of_length HL.out.tr HK.out.tr h; omega
        · exact h)
      have hcm : decide (0 ≤ cm (nv (tr xs)) (nv (tr ys))) = true := by unfold cm; split <;> simp <;> (try split) <;> omega
      clear hc hab
      go_wp2_with (go_at_call 52; (with_reducible refine (rcmp_any _ _ _ (tr xs) (tr ys) hv1 hv2 HL.out.tr HK.out.tr (Cn.tr _) (Cn.tr _)).mono ?_); rintro e w' ⟨rfl, ⟨nq, rfl⟩⟩)
      go_region_held3 (fun w' => w'.cell? ⟨w.heap.size, 0, none⟩ = some (.bool na) ∧ w'.cell? ⟨w.heap.size + 1 + 1, 0, none⟩ = some (cv w' ⟨w.heap.size + 1 + 1, 0, none⟩) ∧ w'.cell? ⟨w.heap.size + 1 + 1, 1, none⟩ = some (cv w' ⟨w.heap.size + 1 + 1, 1, none⟩) ∧
          w'.frozen? ⟨w.heap.size + 1 + 1, 0, none⟩ = false ∧ w'.frozen? ⟨w.heap.size + 1 + 1, 1, none⟩ = false)
        (first
          | exact ⟨k0, cvx k4, cvx k5, f4, f5⟩
          | (go_split_ands; exact ⟨cell_below (by assumption) (by assumption), cvb (by assumption) (by assumption), cvb (by assumption) (by assumption), frozen_below (by assumption) (by assumption) (by assumption), frozen_below (by assumption) (by assumption) (by assumption)⟩)
          | (go_split_ands; exact ⟨st_far (by assumption) (by simp) (by simp), st_cv (by assumption), st_cv (by assumption), st_fr (by assumption), st_fr (by assumption)⟩))
        (first
          | (go_at_call 92; (with_reducible refine (rdifference_any _ _ _ (tr xs) (tr ys) ?g1 ?g2 HL.out.tr HK.out.tr ?g3 ?g4 (by omega)).mono ?_); (case g1 => exact hv1); (case g2 => exact hv2); (case g3 => exact hle.out); (case g4 => exact hll.out); rintro e w5 ⟨⟨s3, zs, rfl, hr3, hz1, hz3, hz4⟩, hb5⟩; have hs3 := hr3.slv (by omega))
          | (go_at_call 89; (with_reducible refine (rmake_any _ na _ zs hs3 hz1).mono ?_); rintro e w6 ⟨⟨v4, rfl, hv4⟩, hb6⟩; obtain ⟨q4, A4, n4, c4, rfl⟩ := hv4.form))
      rename_i hH
      clear hH
      have h3 : Below w4.heap.size w4 w6 := bw_step (bw_step (below_drewN (Below.refl _ w4) _).drew hb5) hb6
      have e4 := cell_below h3 k4
      have e5 := cell_below h3 k5
      have HF := fin_agg (bw_step hB1 h3) (by omega) e4 e5 hv4
      rw [hz3, nv_tr, nv_tr] at HF
      clear k0 k1 k2 k3 k4 k5 f0 f1 f2 f3 f4 f5 hb5 hb6 h3 hv4 hs3
      go_wp2
      refine bodyPost_ret (v := .agg #[.bool q4, .slice A4 n4 c4]) (by simp [results, Try.results59, go_sem, e4, e5]) rfl ?_
      have e : sg na (nv xs) + sg nb (nv ys) = sg na (nv xs - nv ys) := by have hab := HA.out; revert hab; cases na <;> cases nb <;> simp [sg] <;> omega
      rw [e]; exact HF.out
    · have hle := hid (show nv (tr xs) ≤ nv (tr ys) by omega)
      have hll := hid (show (tr xs).length ≤ (tr ys).length by
        rcases Nat.lt_or_ge (tr ys).length (tr xs).length with h | h
        · have := (Cn.tr xs).lt_of_length HK.out.tr HL.out.tr h; omega
        · exact h)
      have hcm : decide (0 ≤ cm (nv (tr xs)) (nv (tr ys))) = false := by rw [cm_lt (by omega)]; decide
      clear hc hab
      go_wp2_with (go_at_call 52; (with_reducible refine (rcmp_any _ _ _ (tr xs) (tr ys) hv1 hv2 HL.out.tr HK.out.tr (Cn.tr _) (Cn.tr _)).mono ?_); rintro e w' ⟨rfl, ⟨nq, rfl⟩⟩)
      go_region_held3 (fun w' => w'.cell? ⟨w.heap.size + 1, 0, none⟩ = some (.bool nb) ∧ w'.cell? ⟨w.heap.size + 1 + 1, 0, none⟩ = some (cv w' ⟨w.heap.size + 1 + 1, 0, none⟩) ∧ w'.cell? ⟨w.heap.size + 1 + 1, 1, none⟩ = some (cv w' ⟨w.heap.size + 1 + 1, 1, none⟩) ∧
          w'.frozen? ⟨w.heap.size + 1 + 1, 0, none⟩ = false ∧ w'.frozen? ⟨w.heap.size + 1 + 1, 1, none⟩ = false)
        (first
          | exact ⟨k2, cvx k4, cvx k5, f4, f5⟩
          | (go_split_ands; exact ⟨cell_below (by assumption) (by assumption), cvb (by assumption) (by assumption), cvb (by assumption) (by assumption), frozen_below (by assumption) (by assumption) (by assumption), frozen_below (by assumption) (by assumption) (by assumption)⟩)
          | (go_split_ands; exact ⟨st_far (by assumption) (by simp) (by simp), st_cv (by assumption), st_cv (by assumption), st_fr (by assumption), st_fr (by assumption)⟩))
        (first
          | (go_at_call 92; (with_reducible refine (rdifference_any _ _ _ (tr ys) (tr xs) ?g1 ?g2 HK.out.tr HL.out.tr ?g3 ?g4 (by omega)).mono ?_); (case g1 => exact hv2); (case g2 => exact hv1); (case g3 => exact hle.out); (case g4 => exact hll.out); rintro e w5 ⟨⟨s3, zs, rfl, hr3, hz1, hz3, hz4⟩, hb5⟩; have hs3 := hr3.slv (by omega))
          | (go_at_call 89; (with_reducible refine (rmake_any _ nb _ zs hs3 hz1).mono ?_); rintro e w6 ⟨⟨v4, rfl, hv4⟩, hb6⟩; obtain ⟨q4, A4, n4, c4, rfl⟩ := hv4.form))
      rename_i hH
      clear hH
      have h3 : Below w4.heap.size w4 w6 := bw_step (bw_step (below_drewN (Below.refl _ w4) _).drew hb5) hb6
      have e4 := cell_below h3 k4
      have e5 := cell_below h3 k5
      have HF := fin_agg (bw_step hB1 h3) (by omega) e4 e5 hv4
      rw [hz3, nv_tr, nv_tr] at HF
      clear k0 k1 k2 k3 k4 k5 f0 f1 f2 f3 f4 f5 hb5 hb6 h3 hv4 hs3
      go_wp2
      refine bodyPost_ret (v := .agg #[.bool q4, .slice A4 n4 c4]) (by simp [results, Try.results59, go_sem, e4, e5]) rfl ?_
      have e : sg na (nv xs) + sg nb (nv ys) = sg nb (nv ys - nv xs) := by have hab := HA.out; revert hab; cases na <;> cases nb <;> simp [sg] <;> omega
      rw [e]; exact HF.out
end Go.Proofs.Ytijmjkkjopplbaa

namespace Go.Proofs.Ytijmjkkjopplbaa
open Go.RowKit
set_option linter.unusedVariables false
set_option maxRecDepth 100000

set_option maxHeartbeats 2000000 in
theorem rsub_any (w : World) (v u : Value) (a b : Int) (n m : Nat) (ha : IntA w v a n) (hb : IntA w u b m) (hn : n < 549755813888) (hm : m < 549755813888) :
    Calls Try.prog 100 #[v, u] w fun e w' => RetI w' (a - b) e ∧ Below w.heap.size w w' := by
  obtain ⟨na, s, n1, c1, rfl⟩ := ha.form
  obtain ⟨nb, r, n2, c2, rfl⟩ := hb.form
  obtain ⟨W, hW⟩ : ∃ W, W = ((w.alloc (.cells #[.bool na, .slice s n1 c1] 24)).alloc (.cells #[.bool nb, .slice r n2 c2] 24)).alloc (.cells #[.bool false, .slice none 0 0] 24) := ⟨_, rfl⟩
  have X := Bx.three w (.bool na) (.slice s n1 c1) (.bool nb) (.slice r n2 c2) (.bool false) (.slice none 0 0) 24
  rw [← hW] at X
  obtain ⟨x0, x1, x2⟩ := X
  have HB : Below w.heap.size w W := by rw [hW]; exact bw_alloc (bw_alloc (bw_alloc (Below.refl _ _) _) _) _
  have VA := hid (ha.below HB)
  have VB := hid (hb.below HB)
  have SB := hid (hb.sm.neg)
  have HB := hid HB
  have HZ := hid (show w.heap.size + 1 + 1 < W.heap.size from lt_of_cell x2.1)
  obtain ⟨k0, k1, f0, f1⟩ := id x0
  obtain ⟨k2, k3, f2, f3⟩ := id x1
  obtain ⟨k4, k5, f4, f5⟩ := id x2
  clear ha hb
  go_enter Try.func100, Try.ntmps100
  go_wp2_with fail
  rw [← hW]
  clear hW
  go_region_held3 (fun w' => w'.cell? ⟨w.heap.size, 0, none⟩ = some (.bool na) ∧ w'.cell? ⟨w.heap.size, 1, none⟩ = some (.slice s n1 c1) ∧ w'.cell? ⟨w.heap.size + 1, 0, none⟩ = some (.bool nb) ∧ w'.cell? ⟨w.heap.size + 1, 1, none⟩ = some (.slice r n2 c2) ∧
      w'.cell? ⟨w.heap.size + 1 + 1, 0, none⟩ = some (cv w' ⟨w.heap.size + 1 + 1, 0, none⟩) ∧ w'.cell? ⟨w.heap.size + 1 + 1, 1, none⟩ = some (cv w' ⟨w.heap.size + 1 + 1, 1, none⟩) ∧
      w'.frozen? ⟨w.heap.size + 1 + 1, 0, none⟩ = false ∧ w'.frozen? ⟨w.heap.size + 1 + 1, 1, none⟩ = false)
    (first
      | exact ⟨k0, k1, k2, k3, cvx k4, cvx k5, f4, f5⟩
      | (go_split_ands; exact ⟨cell_below (by assumption) (by assumption), cell_below (by assumption) (by assumption), cell_below (by assumption) (by assumption), cell_below (by assumption) (by assumption), cvb (by assumption) (by assumption), cvb (by assumption) (by assumption), frozen_below (by assumption) (by assumption) (by assumption), frozen_below (by assumption) (by assumption) (by assumption)⟩)
      | (go_split_ands; exact ⟨st_far (by assumption) (by simp) (by simp), st_far (by assumption) (by simp) (by simp), st_far (by assumption) (by simp) (by simp), st_far (by assumption) (by simp) (by simp), st_cv (by assumption), st_cv (by assumption), st_fr (by assumption), st_fr (by assumption)⟩))
    (first
      | (go_at_call 61; (with_reducible refine (rneg_any _ _ b m ?g1).mono ?_); (case g1 => exact VB.out); rintro e w5 ⟨⟨v5, rfl, hv5⟩, hb5⟩)
      | (go_at_call 59; (with_reducible refine (radd_any _ _ _ a (-b) n m ?g2 ?g3 hn hm).mono ?_); (case g2 => exact VA.out.below (bw_step (Below.refl _ W).drew hb5)); (case g3 => exact hv5.arg SB.out); rintro e w6 ⟨⟨v6, rfl, hv6⟩, hb6⟩; obtain ⟨q4, A4, n4, c4, rfl⟩ := hv6.form))
  rename_i hH
  clear hH k0 k1 k2 k3 k4 k5 f0 f1 f2 f3 f4 f5
  have hW6 : Below W.heap.size W w6 := bw_step (bw_step (Below.refl _ W).drew hb5) hb6
  obtain ⟨k4, k5, f4, f5⟩ := x2.below hW6
  have HF := fin_agg (bw_step HB.out hW6) (by omega) k4 k5 hv6
  clear hb5 hb6 hv5 hv6 hW6 x0 x1 x2
  go_wp2
  refine bodyPost_ret (v := .agg #[.bool q4, .slice A4 n4 c4]) (by simp [results, Try.results100, go_sem, k4, k5]) rfl ?_
  rw [Int.sub_eq_add_neg]; exact HF.out
end Go.Proofs.Ytijmjkkjopplbaa

