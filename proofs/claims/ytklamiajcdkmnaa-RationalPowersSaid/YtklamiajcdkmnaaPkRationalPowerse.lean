/- A part of the proof of the laws of rationals: RMul. -/
import Derived.Test.YtklamiajcdkmnaaPam
import Derived.Test.YtklamiajcdkmnaaPab
import Derived.Test.YtklamiajcdkmnaaPac
import Derived.Test.YtklamiajcdkmnaaPba
import Derived.Test.YtklamiajcdkmnaaPai
import Derived.Test.YtklamiajcdkmnaaPaa
import Derived.Test.YtklamiajcdkmnaaPbd
import Derived.Test.YtklamiajcdkmnaaPar
import Derived.Test.YtklamiajcdkmnaaPbe
namespace Go.Proofs.Ytklamiajcdkmnaa
open Go.RowKit
set_option linter.unusedVariables false
set_option maxRecDepth 100000

set_option maxHeartbeats 2000000 in
theorem rmul_any (w : World) (v u : Value) (a b : Int) (n m : Nat) (ha : IntA w v a n) (hb : IntA w u b m) (hn : n < 549755813888) (hm : m < 549755813888) :
    Calls Try.prog 36 #[v, u] w fun e w' => RetI w' (a * b) e ∧ Below w.heap.size w w' := by
  obtain ⟨na, s, xs, rfl, hs, hl, hxn, rfl⟩ := ha
  obtain ⟨nb, r, ys, rfl, hr, hk, hyn, rfl⟩ := hb
  obtain ⟨W, hW⟩ : ∃ W, W = ((w.alloc (.cells #[.bool na, s] 24)).alloc (.cells #[.bool nb, r] 24)).alloc (.cells #[.bool false, .slice none 0 0] 24) := ⟨_, rfl⟩
  have X := Bx.three w (.bool na) s (.bool nb) r (.bool false) (.slice none 0 0) 24
  rw [← hW] at X
  obtain ⟨x0, x1, x2⟩ := X
  have HB : Below w.heap.size w W := by rw [hW]; exact bw_alloc (bw_alloc (bw_alloc (Below.refl _ _) _) _) _
  obtain ⟨A, c, rfl, hcl, hx⟩ := hs.below HB
  obtain ⟨B, d, rfl, hdl, hy⟩ := hr.below HB
  have HX := hid hx
  have HY := hid hy
  have HBX := hid hl
  have HBY := hid hk
  have HB := hid HB
  have hg : W.heap.size = w.heap.size + 1 + 1 + 1 := by rw [hW]; simp
  have HG := hid hg
  have X0 := hid x0
  have X1 := hid x1
  have X2 := hid x2
  clear hs hr hl hk hx hy
  have hsum := i64_add xs.length ys.length (by omega)
  have hmk := make_u32_add xs.length ys.length (by omega)
  obtain ⟨k0, k1, f0, f1⟩ := id x0
  obtain ⟨k2, k3, f2, f3⟩ := id x1
  go_enter Try.func36, Try.ntmps36
  go_wp2
  rw [← hW]
  have hown := Own.made W (xs.length + ys.length)
  have hbl := bw_alloc (Below.refl _ W) (.cells (zs (xs.length + ys.length)) 79)
  rw [hg] at hown
  clear hmk hsum hW hg k0 k1 f0 f1 k2 k3 f2 f3 x0 x1 x2
  go_loopw [22] (fun i wr => ∃ (k : Nat) (os : List Int), i = .int .i64 k ∧ k ≤ xs.length ∧ Hid (os.length = xs.length + ys.length) ∧ Hid (Own wr (w.heap.size + 1 + 1 + 1) os) ∧ Hid (Lb os) ∧
      Hid (nv os = nv (xs.take k) * nv ys) ∧ Hid (∀ j, k + ys.length ≤ j → lm os j = 0) ∧ Below W.heap.size W wr) (fun i _ => xs.length - (intOf i).toNat)
  case atStart => exact ⟨0, List.replicate (xs.length + ys.length) 0, rfl, by omega, hid (by simp), hid hown, hid (Lb.replicate _), hid (by rw [nv_replicate]; simp [nv_nil]), hid (fun j _ => lm_replicate _ _), hbl⟩
  case round =>
    clear hown hbl
    obtain ⟨k, os, rfl, hk, hlen, hown, hlb, hval, hz, hbel⟩ := hrel
    obtain ⟨k0, k1, f0, f1⟩ := X0.out.below hbel
    obtain ⟨k2, k3, f2, f3⟩ := X1.out.below hbel
    by_cases hlt : k < xs.length
    · obtain ⟨ab, ao, rfl, hcc⟩ := HX.out.at (by omega)
      have c0 := cell_below hbel (hcc k hlt)
      clear hcc
      have hbx := HBX.out.lm k
      go_wp2
      clear k0 k1 f0 f1 k2 k3 f2 f3 c0
      go_loopw [8, 30] (fun v i wr => ∃ (cy : Int) (j : Nat) (os : List Int), v = .int .u64 cy ∧ i = .int .i64 j ∧ 0 ≤ cy ∧ cy < 4294967296 ∧ j ≤ ys.length ∧ Hid (os.length = xs.length + ys.length) ∧ Hid (Own wr (w.heap.size + 1 + 1 + 1) os) ∧ Hid (Lb os) ∧
          Hid (nv os + bp (k + j) * cy = nv (xs.take k) * nv ys + bp k * (lm xs k * nv (ys.take j))) ∧ Hid (∀ j, k + ys.length ≤ j → lm os j = 0) ∧ Below W.heap.size W wr) (fun _ i _ => ys.length - (intOf i).toNat)
      case atStart => exact ⟨0, 0, os, rfl, rfl, by omega, by omega, by omega, hlen, hown, hlb, hid (by rw [hval.out]; simp [nv_nil]), hz, hbel⟩
      case round =>
        clear hlen hown hlb hval hz hbel
        obtain ⟨cy, j, os, rfl, rfl, hy0, hy1, hj, hlen, hown, hlb, hval, hz, hbel⟩ := hrel
        by_cases hjt : j < ys.length
        · obtain ⟨bb, bo, rfl, hcc⟩ := HY.out.at (by omega)
          have c2 := cell_below hbel (hcc j hjt)
          clear hcc
          have hcell := hown.out.cell (j := k + j) (by have := hlen.out; omega)
          have hfree := hown.out.free (k + j)
          have hby := HBY.out.lm j
          have hbo := hlb.out.lm (k + j)
          obtain ⟨m0, m1⟩ := limb_mul hbx hby
          have hsum := i64_add k j (by omega)
          have hix : (k : Int) + (j : Int) < (xs.length : Int) + (ys.length : Int) := by omega
          have hi0 : 0 ≤ (k : Int) + (j : Int) := by omega
          have htn : ((k : Int) + (j : Int)).toNat = k + j := by omega
          have e1 := u64_in m0 (by omega)
          have e2 := u64_in (x := lm xs k * lm ys j + lm os (k + j)) (by omega) (by omega)
          have e3 := u64_in (x := cy + (lm xs k * lm ys j + lm os (k + j))) (by omega) (by omega)
          go_wp2
          go_roundw
          case measure => simp [intOf]; omega
          case rel =>
            have hl := hlen.out
            obtain ⟨s, hs⟩ : ∃ s, cy + (lm xs k * lm ys j + lm os (k + j)) = s := ⟨_, rfl⟩
            rw [hs]
            have h2 := Int.emod_nonneg s (show (4294967296 : Int) ≠ 0 by decide)
            have h3 := Int.emod_lt_of_pos s (show (0 : Int) < 4294967296 by decide)
            refine ⟨_, j + 1, os.set (k + j) (s % 4294967296), rfl, by go_num, by omega, by omega, by omega, hid (by rw [List.length_set]; exact hl), hid (hown.out.set _ _), hid (hlb.out.set _ h2 h3), hid ?_,
              hid (fun t ht => by rw [lm_set_other _ (by omega)]; exact hz.out t ht), hbel.setCell (by rw [HG.out]; exact Nat.le_refl _) _⟩
            rw [nv_set _ _ _ (by omega), ← Nat.add_assoc, bp_succ, mul_step hval.out hs, nv_take_succ, bp_add]
            grind
        · have HJ := hid (show j = ys.length by omega)
          obtain ⟨k0, k1, f0, f1⟩ := X0.out.below hbel
          obtain ⟨k2, k3, f2, f3⟩ := X1.out.below hbel
          have hcell := hown.out.cell (j := k + j) (by have := hlen.out; omega)
          have hfree := hown.out.free (k + j)
          have hje : (j : Int) = (ys.length : Int) := by omega
          rw [show k + j = k + ys.length from by omega] at hcell hfree
          have hsum := i64_add k ys.length (by omega)
          have hix : (k : Int) + (ys.length : Int) < (xs.length : Int) + (ys.length : Int) := by omega
          have hi0 : 0 ≤ (k : Int) + (ys.length : Int) := by omega
          have htn : ((k : Int) + (ys.length : Int)).toNat = k + ys.length := by omega
          clear hje
          go_wp2
          go_roundw
          case measure => simp [intOf]; omega
          case rel =>
            have hl := hlen.out
            refine ⟨k + 1, os.set (k + ys.length) cy, by go_num, by omega, hid (by rw [List.length_set]; exact hl), hid (hown.out.set _ _), hid (hlb.out.set _ hy0 hy1), hid ?_,
              hid (fun t ht => by rw [lm_set_other _ (by omega)]; exact hz.out t (by omega)), hbel.setCell (by rw [HG.out]; exact Nat.le_refl _) _⟩
            have e := hval.out
            rw [HJ.out, nv_take_all (xs := ys) (Nat.le_refl _)] at e
            rw [nv_set _ _ _ (by omega), hz.out (k + ys.length) (Nat.le_refl _), nv_take_succ, Int.sub_zero, e]
            grind
    · have HK := hid (show k = xs.length by omega)
      obtain ⟨nn, hnn⟩ : ∃ nn, (!(na == nb)) = nn := ⟨_, rfl⟩
      have HV := hid (show sg nn (nv os) = sg na (nv xs) * sg nb (nv ys) by
        rw [hval.out, HK.out, nv_take_all (xs := xs) (Nat.le_refl _), ← hnn]
        cases na <;> cases nb <;> simp [sg, Int.neg_mul, Int.mul_neg])
      have hos := hid (hown.out.slv (n := xs.length + ys.length) (c := xs.length + ys.length) hlen.out (by omega) (Nat.le_refl _))
      go_wp2_with fail
      clear hnn
      refine (rmake_any _ nn _ os hos.out hlb.out).mono ?_
      rintro e w6 ⟨⟨v6, rfl, hv6⟩, hb6⟩
      rw [HV.out] at hv6
      have hb6 := bw_step hbel hb6
      clear k0 k1 f0 f1 k2 k3 f2 f3
      obtain ⟨k4, k5, f4, f5⟩ := X2.out.below hb6
      obtain ⟨q4, A4, n4, c4, rfl⟩ := hv6.form
      have HF := fin_agg (bw_step HB.out hb6) (by omega) k4 k5 hv6
      clear hb6 hv6 hbel
      go_wp2
      exact bodyPost_ret (v := .agg #[.bool q4, .slice A4 n4 c4]) (by simp [results, Try.results36, go_sem, k4, k5]) rfl HF.out
end Go.Proofs.Ytklamiajcdkmnaa

