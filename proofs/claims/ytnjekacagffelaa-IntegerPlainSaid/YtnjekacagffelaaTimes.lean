/- Walk: times. -/
import Derived.Test.YtnjekacagffelaaPlus
namespace Go.Proofs.Ytnjekacagffelaa
open Go.RowKit

set_option maxHeartbeats 1000000 in
theorem times_any (w : World) (v u : Value) (xs ys : List Int) (hx : SlV w v xs) (hy : SlV w u ys) (bx : Lb xs) (by_ : Lb ys) (lx : xs.length ≤ 274877906944) (ly : ys.length ≤ 274877906944) :
    Calls Try.prog 47 #[v, u] w fun e w' => RetN w' (nv xs * nv ys) e ∧ Below w.heap.size w w' := by
  obtain ⟨A, c, rfl, hcl, hx⟩ := hx
  obtain ⟨B, d, rfl, hdl, hy⟩ := hy
  have HX := hid hx
  have HY := hid hy
  have HBX := hid bx
  have HBY := hid by_
  clear hx hy bx by_
  have hmk := make_u32_add xs.length ys.length (by omega)
  have hsum := i64_add xs.length ys.length (by omega)
  go_enter Try.func47, Try.ntmps47
  go_wp2
  clear hmk hsum
  go_loopw [17] (fun i wr => ∃ (k : Nat) (os : List Int), i = .int .i64 k ∧ k ≤ xs.length ∧ Hid (os.length = xs.length + ys.length) ∧ Hid (Own wr w.heap.size os) ∧ Hid (Lb os) ∧
      Hid (nv os = nv (xs.take k) * nv ys) ∧ Hid (∀ j, k + ys.length ≤ j → lm os j = 0) ∧ Below w.heap.size w wr) (fun i _ => xs.length - (intOf i).toNat)
  case atStart => exact ⟨0, List.replicate (xs.length + ys.length) 0, rfl, by omega, hid (by simp), hid (Own.made w (xs.length + ys.length)), hid (Lb.replicate _), hid (by rw [nv_replicate]; simp [nv_nil]), hid (fun j _ => lm_replicate _ _), (Below.refl _ _).alloc (Nat.le_refl _) _⟩
  case round =>
    obtain ⟨k, os, rfl, hk, hlen, hown, hlb, hval, hz, hbel⟩ := hrel
    by_cases hlt : k < xs.length
    · obtain ⟨ab, ao, rfl, hcc⟩ := HX.out.at (by omega)
      have HC1 := hid (hcc k hlt)
      clear hcc
      have hbx := HBX.out.lm k
      go_wp2
      go_loopw [7, 22] (fun v i wr => ∃ (cy : Int) (j : Nat) (os : List Int), v = .int .u64 cy ∧ i = .int .i64 j ∧ 0 ≤ cy ∧ cy < 4294967296 ∧ j ≤ ys.length ∧ Hid (os.length = xs.length + ys.length) ∧ Hid (Own wr w.heap.size os) ∧ Hid (Lb os) ∧
          Hid (nv os + bp (k + j) * cy = nv (xs.take k) * nv ys + bp k * (lm xs k * nv (ys.take j))) ∧ Hid (∀ j, k + ys.length ≤ j → lm os j = 0) ∧ Below w.heap.size w wr) (fun _ i _ => ys.length - (intOf i).toNat)
      case atStart => exact ⟨0, 0, os, rfl, rfl, by omega, by omega, by omega, hlen, hown, hlb, hid (by rw [hval.out]; simp [nv_nil]), hz, hbel⟩
      case round =>
        clear hlen hown hlb hval hz hbel
        obtain ⟨cy, j, os, rfl, rfl, hy0, hy1, hj, hlen, hown, hlb, hval, hz, hbel⟩ := hrel
        have c1 := cell_below hbel HC1.out
        by_cases hjt : j < ys.length
        · obtain ⟨bb, bo, rfl, hcc⟩ := HY.out.at (by omega)
          have c2 := cell_below hbel (hcc j hjt)
          clear hcc
          have hcell := hown.out.cell (j := k + j) (by have := hlen.out; omega)
          have hfree := hown.out.free (k + j)
          have hby := HBY.out.lm j
          have hbo := hlb.out.lm (k + j)
          obtain ⟨m0, m1⟩ := limb_mul hbx hby
          have hsum := i64_add k j (by omega)
          have hix : (k : Int) + (j : Int) < (xs.length : Int) + (ys.length : Int) := by omega
          have hi0 : 0 ≤ (k : Int) + (j : Int) := by omega
          have htn : ((k : Int) + (j : Int)).toNat = k + j := by omega
          have e1 := u64_in m0 (by omega)
          have e2 := u64_in (x := lm xs k * lm ys j + lm os (k + j)) (by omega) (by omega)
          have e3 := u64_in (x := cy + (lm xs k * lm ys j + lm os (k + j))) (by omega) (by omega)
          go_wp2
          go_quiet (fail)
          go_wp2
          go_roundw
          case measure => simp [intOf]; omega
          case rel =>
            have hl := hlen.out
            obtain ⟨s, hs⟩ : ∃ s, cy + (lm xs k * lm ys j + lm os (k + j)) = s := ⟨_, rfl⟩
            rw [hs]
            have h2 := Int.emod_nonneg s (show (4294967296 : Int) ≠ 0 by decide)
            have h3 := Int.emod_lt_of_pos s (show (0 : Int) < 4294967296 by decide)
            refine ⟨_, j + 1, os.set (k + j) (s % 4294967296), rfl, by go_num, by omega, by omega, by omega, hid (by rw [List.length_set]; exact hl), hid ((hown.out.drew _).set _ _), hid (hlb.out.set _ h2 h3), hid ?_,
              hid (fun t ht => by rw [lm_set_other _ (by omega)]; exact hz.out t ht), (below_drewN hbel _).setCell (Nat.le_refl _) _⟩
            rw [nv_set _ _ _ (by omega), ← Nat.add_assoc, bp_succ, mul_step hval.out hs, nv_take_succ, bp_add]
            grind
        · have HJ := hid (show j = ys.length by omega)
          have hcell := hown.out.cell (j := k + j) (by have := hlen.out; omega)
          have hfree := hown.out.free (k + j)
          have hje : (j : Int) = (ys.length : Int) := by omega
          rw [show k + j = k + ys.length from by omega] at hcell hfree
          have hsum := i64_add k ys.length (by omega)
          have hix : (k : Int) + (ys.length : Int) < (xs.length : Int) + (ys.length : Int) := by omega
          have hi0 : 0 ≤ (k : Int) + (ys.length : Int) := by omega
          have htn : ((k : Int) + (ys.length : Int)).toNat = k + ys.length := by omega
          clear hje
          go_wp2
          go_roundw
          case measure => simp [intOf]; omega
          case rel =>
            have hl := hlen.out
            refine ⟨k + 1, os.set (k + ys.length) cy, by go_num, by omega, hid (by rw [List.length_set]; exact hl), hid (hown.out.set _ _), hid (hlb.out.set _ hy0 hy1), hid ?_,
              hid (fun t ht => by rw [lm_set_other _ (by omega)]; exact hz.out t (by omega)), hbel.setCell (Nat.le_refl _) _⟩
            have e := hval.out
            rw [HJ.out, nv_take_all (xs := ys) (Nat.le_refl _)] at e
            rw [nv_set _ _ _ (by omega), hz.out (k + ys.length) (Nat.le_refl _), nv_take_succ, Int.sub_zero, e]
            grind
    · have HK := hid (show k = xs.length by omega)
      go_wp2_with (go_at_call 55; (with_reducible refine (trim_any _ _ os (hown.out.slv hlen.out (by omega) (Nat.le_refl _))).mono ?_); rintro e w' ⟨⟨vt, rfl, ht⟩, rfl⟩)
      go_ret
      refine ⟨⟨tr os, RetSl.of (ht _ (hown.out.slv hlen.out (by omega) (Nat.le_refl _))), hlb.out.tr, Cn.tr _, ?_⟩, hbel⟩
      rw [nv_tr, hval.out, HK.out, nv_take_all (xs := xs) (Nat.le_refl _)]
end Go.Proofs.Ytnjekacagffelaa
