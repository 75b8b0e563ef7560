/- Walks: plus, minus. -/
import Derived.Test.YtdbgalohppfkfaaLimb
namespace Go.Proofs.Ytdbgalohppfkfaa
open Go.RowKit

theorem plus_any (w : World) (v u : Value) (xs ys : List Int) (hx : SlV w v xs) (hy : SlV w u ys) (bx : Lb xs) (by_ : Lb ys) (lx : xs.length < 1099511627776) (ly : ys.length < 1099511627776) :
    Calls Try.prog 46 #[v, u] w fun e w' => RetN w' (nv xs + nv ys) e ∧ Below w.heap.size w w' := by
  have HX := hid hx
  have HY := hid hy
  obtain ⟨A, c, rfl, hcl, hx⟩ := hx
  obtain ⟨B, d, rfl, hdl, hy⟩ := hy
  have HBX := hid bx
  have HBY := hid by_
  clear hx hy bx by_
  have hmax := max_nat xs.length ys.length
  obtain ⟨n, hn⟩ : ∃ n, n = max xs.length ys.length := ⟨_, rfl⟩
  rw [← hn] at hmax
  have h1 : n < 1099511627776 := by omega
  have HN := hid hn
  clear hn
  have hmk := make_u32_succ n (by omega)
  go_enter Try.func46, Try.ntmps46
  go_wp2
  clear hmax hmk
  go_loopw [7, 18] (fun v i wr => ∃ (cy : Int) (k : Nat) (os : List Int), v = .int .u64 cy ∧ i = .int .i64 k ∧ 0 ≤ cy ∧ cy ≤ 1 ∧ k ≤ n ∧ Hid (os.length = n + 1) ∧ Hid (Own wr w.heap.size os) ∧ Hid (Lb os) ∧
      Hid (nv (os.take k) + bp k * cy = nv (xs.take k) + nv (ys.take k)) ∧ Below w.heap.size w wr) (fun _ i _ => n - (intOf i).toNat)
  case atStart => exact ⟨0, 0, List.replicate (n + 1) 0, rfl, rfl, by omega, by omega, by omega, hid (by simp), hid (Own.made w (n + 1)), hid (Lb.replicate _), hid (by simp [nv_nil]), (Below.refl _ _).alloc (Nat.le_refl _) _⟩
  case round =>
    obtain ⟨cy, k, os, rfl, rfl, hc0, hc1, hk, hlen, hown, hlb, hval, hbel⟩ := hrel
    by_cases hlt : k < n
    · have hcell := hown.out.cell (j := k) (by have := hlen.out; omega)
      have hfree := hown.out.free k
      have hbx := HBX.out.lm k
      have hby := HBY.out.lm k
      go_wp2_with (first | (go_at_call_of 61 (Value.slice A xs.length c); (with_reducible refine (limb_any _ _ _ _ (HX.out.below hbel) (by omega) HBX.out).mono ?_); rintro e w' ⟨rfl, rfl⟩) | (go_at_call 61; (with_reducible refine (limb_any _ _ _ _ (HY.out.below hbel) (by omega) HBY.out).mono ?_); rintro e w' ⟨rfl, rfl⟩))
      go_roundw
      case measure => simp [intOf]; omega
      case rel =>
        have hl := hlen.out
        have h2 := Int.emod_nonneg (cy + (lm xs k + lm ys k)) (show (4294967296 : Int) ≠ 0 by decide)
        have h3 := Int.emod_lt_of_pos (cy + (lm xs k + lm ys k)) (show (0 : Int) < 4294967296 by decide)
        refine ⟨_, k + 1, os.set k ((cy + (lm xs k + lm ys k)) % 4294967296), rfl, by go_num, by omega, by omega, by omega, hid (by rw [List.length_set]; exact hl), hid (hown.out.set _ _), hid (hlb.out.set _ h2 h3), hid ?_, hbel.setCell (Nat.le_refl _) _⟩
        rw [nv_take_set_succ (by omega), nv_take_succ, nv_take_succ, bp_succ, plus_step hval.out rfl]
        omega
    · obtain rfl : k = n := by omega
      have hcell := hown.out.cell (j := k) (by have := hlen.out; omega)
      have hfree := hown.out.free k
      have hl := hlen.out
      have HL := hid hl
      clear hlen hl
      go_wp2_with (go_at_call 60; (with_reducible refine (trim_any _ _ (os.set k cy) ((hown.out.set k cy).slv (by rw [List.length_set]; exact HL.out) (by omega) (Nat.le_refl _))).mono ?_); rintro e w' ⟨⟨vt, rfl, ht⟩, rfl⟩)
      go_ret
      refine ⟨⟨tr (os.set k cy), RetSl.of (ht _ ((hown.out.set k cy).slv (by rw [List.length_set]; exact HL.out) (by omega) (Nat.le_refl _))), (hlb.out.set _ hc0 (by omega)).tr, Cn.tr _, ?_⟩, hbel.setCell (Nat.le_refl _) _⟩
      rw [nv_tr, nv_set_last HL.out, hval.out, nv_take_all (by have := HN.out; omega), nv_take_all (by have := HN.out; omega)]

theorem minus_any (w : World) (v u : Value) (xs ys : List Int) (hx : SlV w v xs) (hy : SlV w u ys) (bx : Lb xs) (by_ : Lb ys) (hle : nv ys ≤ nv xs) (hll : ys.length ≤ xs.length) :
    Calls Try.prog 48 #[v, u] w fun e w' => RetN w' (nv xs - nv ys) e ∧ Below w.heap.size w w' := by
  have HY := hid hy
  obtain ⟨A, c, rfl, hcl, hx⟩ := hx
  have lx := hx.len
  have HX := hid hx
  have HBX := hid bx
  have HBY := hid by_
  have HLE := hid hle
  clear hx hy bx by_ hle
  have hmk := make_u32 xs.length (by omega)
  go_enter Try.func48, Try.ntmps48
  go_wp2
  clear hmk
  go_loopw [6, 14] (fun v i wr => ∃ (bo : Int) (k : Nat) (os : List Int), v = .int .u64 bo ∧ i = .int .i64 k ∧ 0 ≤ bo ∧ bo ≤ 1 ∧ k ≤ xs.length ∧ Hid (os.length = xs.length) ∧ Hid (Own wr w.heap.size os) ∧ Hid (Lb os) ∧
      Hid (nv (os.take k) - bp k * bo = nv (xs.take k) - nv (ys.take k)) ∧ Below w.heap.size w wr) (fun _ i _ => xs.length - (intOf i).toNat)
  case atStart => exact ⟨0, 0, List.replicate xs.length 0, rfl, rfl, by omega, by omega, by omega, hid (by simp), hid (Own.made w xs.length), hid (Lb.replicate _), hid (by simp [nv_nil]), (Below.refl _ _).alloc (Nat.le_refl _) _⟩
  case round =>
    obtain ⟨bo, k, os, rfl, rfl, hc0, hc1, hk, hlen, hown, hlb, hval, hbel⟩ := hrel
    by_cases hlt : k < xs.length
    · have hcell := hown.out.cell (j := k) (by have := hlen.out; omega)
      have hfree := hown.out.free k
      have hbx := HBX.out.lm k
      have hby := HBY.out.lm k
      obtain ⟨b, o, rfl, hc⟩ := HX.out.at (by omega)
      have c1 := cell_below hbel (hc k hlt)
      clear hc
      go_wp2
      go_quiet ((go_at_call 61; exact Calls.quiet_of_same ((limb_any _ _ ys _ ((HY.out.below hbel).drew _) (by omega) HBY.out).mono fun _ _ h => ⟨h.1, h.2.symm⟩)))
      go_wp2
      go_roundw
      case measure => simp [intOf]; omega
      case rel =>
        have hl := hlen.out
        obtain ⟨D, hD⟩ : ∃ D, D = IntKind.u64.wrap (IntKind.u64.wrap (lm xs k - lm ys k) - bo) := ⟨_, rfl⟩
        rw [← hD]
        rw [wrap_u64, wrap_u64] at hD
        obtain ⟨e1, e2, e3⟩ := minus_digit hbx.1 hbx.2 hby.1 hby.2 hc0 hc1 hD
        have h2 := Int.emod_nonneg D (show (4294967296 : Int) ≠ 0 by decide)
        have h3 := Int.emod_lt_of_pos D (show (0 : Int) < 4294967296 by decide)
        refine ⟨_, k + 1, os.set k (D % 4294967296), rfl, by go_num, e2, e3, by omega, hid (by rw [List.length_set]; exact hl), hid ((hown.out.drew _).set _ _), hid (hlb.out.set _ h2 h3), hid ?_, (below_drewN hbel _).setCell (Nat.le_refl _) _⟩
        rw [nv_take_set_succ (by omega), nv_take_succ, nv_take_succ, bp_succ, minus_step hval.out e1]
        omega
    · have HK := hid (show k = xs.length by omega)
      have HL := hid (show os.length = k by rw [hlen.out]; omega)
      clear hlen
      go_wp2_with (go_at_call 60; (with_reducible refine (trim_any _ _ os (hown.out.slv (by rw [HL.out, HK.out]) (by omega) (Nat.le_refl _))).mono ?_); rintro e w' ⟨⟨vt, rfl, ht⟩, rfl⟩)
      go_ret
      refine ⟨⟨tr os, RetSl.of (ht _ (hown.out.slv (by rw [HL.out, HK.out]) (by omega) (Nat.le_refl _))), hlb.out.tr, Cn.tr _, ?_⟩, hbel⟩
      rw [nv_tr]
      have e := hval.out
      rw [nv_take_all (by have := HL.out; omega), nv_take_all (by omega), nv_take_all (by omega)] at e
      have e1 := nv_lt hlb.out
      rw [HL.out] at e1
      have e2 := HLE.out
      have e3 : bo = 0 ∨ bo = 1 := by omega
      rcases e3 with rfl | rfl
      · omega
      · omega
end Go.Proofs.Ytdbgalohppfkfaa
