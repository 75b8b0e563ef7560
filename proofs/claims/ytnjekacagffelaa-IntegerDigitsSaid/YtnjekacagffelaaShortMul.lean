/- Walk: shortMultiply. -/
import Derived.Test.YtnjekacagffelaaPlus
namespace Go.Proofs.Ytnjekacagffelaa
open Go.RowKit

theorem shortMultiply_any (w : World) (v : Value) (xs : List Int) (b c : Int) (hx : SlV w v xs) (bx : Lb xs) (hb : 0 ≤ b ∧ b < 4294967296) (hc : 0 ≤ c ∧ c < 4294967296) (lx : xs.length < 1099511627776) :
    Calls Try.prog 52 #[v, .int .u32 b, .int .u32 c] w fun e w' => RetN w' (nv xs * b + c) e ∧ Below w.heap.size w w' := by
  obtain ⟨A, cap, rfl, hcl, hx⟩ := hx
  have HX := hid hx
  have HBX := hid bx
  clear hx bx
  obtain ⟨hb0, hb1⟩ := hb
  obtain ⟨hc0, hc1⟩ := hc
  have hmk := make_u32_succ xs.length (by omega)
  go_enter Try.func52, Try.ntmps52
  go_wp2
  clear hmk
  go_loopw [8, 18] (fun v i wr => ∃ (cy : Int) (k : Nat) (os : List Int), v = .int .u64 cy ∧ i = .int .i64 k ∧ 0 ≤ cy ∧ cy < 4294967296 ∧ k ≤ xs.length ∧ Hid (os.length = xs.length + 1) ∧ Hid (Own wr w.heap.size os) ∧ Hid (Lb os) ∧
      Hid (nv (os.take k) + bp k * cy = nv (xs.take k) * b + c) ∧ Below w.heap.size w wr) (fun _ i _ => xs.length - (intOf i).toNat)
  case atStart => exact ⟨c, 0, List.replicate (xs.length + 1) 0, rfl, rfl, hc0, hc1, by omega, hid (by simp), hid (Own.made w (xs.length + 1)), hid (Lb.replicate _), hid (by simp [nv_nil, bp_zero]), (Below.refl _ _).alloc (Nat.le_refl _) _⟩
  case round =>
    obtain ⟨cy, k, os, rfl, rfl, hy0, hy1, hk, hlen, hown, hlb, hval, hbel⟩ := hrel
    by_cases hlt : k < xs.length
    · have hcell := hown.out.cell (j := k) (by have := hlen.out; omega)
      have hfree := hown.out.free k
      have hbx := HBX.out.lm k
      obtain ⟨ab, ao, rfl, hcc⟩ := HX.out.at (by omega)
      have c1 := cell_below hbel (hcc k hlt)
      clear hcc
      obtain ⟨m0, m1⟩ := limb_mul hbx ⟨hb0, hb1⟩
      go_wp2
      go_roundw
      case measure => simp [intOf]; omega
      case rel =>
        have hl := hlen.out
        obtain ⟨s, hs⟩ : ∃ s, cy + lm xs k * b = s := ⟨_, rfl⟩
        rw [hs]
        have h2 := Int.emod_nonneg s (show (4294967296 : Int) ≠ 0 by decide)
        have h3 := Int.emod_lt_of_pos s (show (0 : Int) < 4294967296 by decide)
        refine ⟨_, k + 1, os.set k (s % 4294967296), rfl, by go_num, by omega, by omega, by omega, hid (by rw [List.length_set]; exact hl), hid (hown.out.set _ _), hid (hlb.out.set _ h2 h3), hid ?_, hbel.setCell (Nat.le_refl _) _⟩
        rw [nv_take_set_succ (by omega), nv_take_succ, bp_succ, smul_step hval.out hs]
    · have HK := hid (show k = xs.length by omega)
      have hcell := hown.out.cell (j := xs.length) (by have := hlen.out; omega)
      have hfree := hown.out.free xs.length
      go_wp2_with (go_at_call 55; (with_reducible refine (trim_any _ _ (os.set xs.length cy) ((hown.out.set xs.length cy).slv (by rw [List.length_set]; exact hlen.out) (by omega) (Nat.le_refl _))).mono ?_); rintro e w' ⟨⟨vt, rfl, ht⟩, rfl⟩)
      go_ret
      refine ⟨⟨tr (os.set xs.length cy), RetSl.of (ht _ ((hown.out.set xs.length cy).slv (by rw [List.length_set]; exact hlen.out) (by omega) (Nat.le_refl _))), (hlb.out.set _ hy0 hy1).tr, Cn.tr _, ?_⟩, hbel.setCell (Nat.le_refl _) _⟩
      rw [nv_tr, nv_set_last hlen.out]
      have e := hval.out
      rw [HK.out, nv_take_all (xs := xs) (Nat.le_refl _)] at e
      exact e

end Go.Proofs.Ytnjekacagffelaa
