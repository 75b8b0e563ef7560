/- The reference: double. -/
import Derived.Test.YtdbgalohppfkfaaRSum
namespace Go.Proofs.Ytdbgalohppfkfaa
open Go.RowKit
set_option linter.unusedVariables false

theorem u32_or_bit {x b : Int} (hx0 : 0 ≤ x) (hx1 : x < 4294967296) (hb : b = 0 ∨ b = 1) : bits .or .u32 (x * 2 % 4294967296) b = x * 2 % 4294967296 + b := by
  obtain ⟨a, ha⟩ := Int.eq_ofNat_of_zero_le (show 0 ≤ x * 2 % 4294967296 by omega)
  obtain ⟨c, hc⟩ : ∃ c, a = 2 * c := ⟨a / 2, by omega⟩
  obtain ⟨d, hd⟩ := Int.eq_ofNat_of_zero_le (show 0 ≤ b by omega)
  rw [ha, hd, u32_or_nat _ _ (by omega) (by omega), hc]
  have h := Nat.two_pow_add_eq_or_of_lt (i := 1) (show d < 2 ^ 1 by omega) c
  rw [show 2 ^ 1 * c = 2 * c from rfl] at h
  rw [← h]
  omega
theorem rdouble_any (w : World) (v : Value) (xs : List Int) (b : Int) (hx : SlV w v xs) (bx : Lb xs) (hb : b = 0 ∨ b = 1) (lx : xs.length < 1099511627775) :
    Calls Try.prog 66 #[v, .int .u32 b] w fun e w' => RetRow w' w.heap.size (2 * nv xs + b) (xs.length + 1) e ∧ Below w.heap.size w w' := by
  obtain ⟨A, c, rfl, hcl, hx⟩ := hx
  have HBX := hid bx
  have SX := hid hx
  clear hx bx
  go_enter Try.func66, Try.ntmps66
  go_wp2
  go_loopw [1, 5, 10] (fun v o i wr => ∃ (cy : Int) (k : Nat) (os : List Int), v = .int .u32 cy ∧ i = .int .i64 k ∧ (cy = 0 ∨ cy = 1) ∧ k ≤ xs.length ∧ Hid (os.length = k) ∧ Hid (Row wr w.heap.size o os) ∧ Hid (Lb os) ∧
      Hid (nv os + bp k * cy = 2 * nv (xs.take k) + b) ∧ Below w.heap.size w wr) (fun _ _ i _ => xs.length - (intOf i).toNat)
  case atStart => exact ⟨b, 0, [], rfl, rfl, hb, by omega, hid rfl, hid (Row.nil _ _), hid Lb.nil, hid (by simp [nv_nil, bp_zero]), Below.refl _ _⟩
  case round =>
    obtain ⟨cy, k, os, rfl, rfl, hc, hk, hlen, hrow, hlb, hval, hbel⟩ := hrel
    have hsz := hid hbel.size
    have hbx := HBX.out.lm k
    have HL := hid (show os.length < 1099511627776 by have := hlen.out; omega)
    by_cases hkx : k < xs.length
    · obtain ⟨b1, o1, rfl, hc1x⟩ := SX.out.at (by omega)
      have c1 := cell_below hbel (hc1x k hkx)
      clear hc1x
      have hor := u32_or_bit hbx.1 hbx.2 hc
      have h2 := hid (show 0 ≤ lm xs k * 2 % 4294967296 + cy by omega)
      have h3 := hid (show lm xs k * 2 % 4294967296 + cy < 4294967296 by omega)
      have hcy := hid (show lm xs k / 2147483648 = 0 ∨ lm xs k / 2147483648 = 1 by omega)
      have hst := hid (show lm xs k * 2 = 4294967296 * (lm xs k / 2147483648) + lm xs k * 2 % 4294967296 by omega)
      go_wp2_with (at_builtin; refine wp_push_u32 rfl _ _ rfl _ _ w.heap.size os hrow.out hsz.out HL.out rfl rfl ?_; intro v1 w1 hr1 hb1; have HR1 := hid hr1; have HB1 := hid (hbel.trans hb1); clear hr1 hb1)
      go_roundw
      case measure => simp [intOf]; omega
      case rel =>
        have hl := hlen.out
        refine ⟨lm xs k / 2147483648, k + 1, os ++ [lm xs k * 2 % 4294967296 + cy], rfl, by go_num, hcy.out, by omega, hid (by rw [List.length_append, hl]; rfl), HR1, hid (hlb.out.snoc h2.out h3.out), hid ?_, HB1.out⟩
        have e := hval.out
        have e2 := hst.out
        rw [nv_snoc, hl, nv_take_succ, bp_succ]
        generalize lm xs k / 2147483648 = q at *
        generalize lm xs k * 2 % 4294967296 = r at *
        grind
    · have E := hid (show k = xs.length by omega)
      go_wp2_with (at_builtin; refine wp_push_u32 rfl _ _ rfl _ _ w.heap.size os hrow.out hsz.out HL.out rfl rfl ?_; intro v1 w1 hr1 hb1; have HR1 := hid hr1; have HB1 := hid (hbel.trans hb1); clear hr1 hb1)
      go_ret
      refine ⟨⟨v1, os ++ [cy], rfl, HR1.out, hlb.out.snoc (by omega) (by omega), ?_, ?_⟩, HB1.out⟩
      · have e := hval.out
        rw [E.out, nv_take_all (Nat.le_refl _)] at e
        rw [nv_snoc, hlen.out, E.out]
        exact e
      · rw [List.length_append, hlen.out, E.out]; exact Nat.le_refl _
end Go.Proofs.Ytdbgalohppfkfaa
