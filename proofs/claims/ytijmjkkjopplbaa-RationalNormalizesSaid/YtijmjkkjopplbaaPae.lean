/- A part of the proof of the laws of rationals: Add, Times, Cmp. -/
import Derived.Test.YtijmjkkjopplbaaPac
import Derived.Test.YtijmjkkjopplbaaPab
import Derived.Test.YtijmjkkjopplbaaPaa
namespace Go.Proofs.Ytijmjkkjopplbaa
open Go.RowKit

theorem add_any (w : World) (v u : Value) (a b : Int) (n m : Nat) (ha : IntA w v a n) (hb : IntA w u b m) (hn : n < 1099511627776) (hm : m < 1099511627776) :
    Calls Try.prog 87 #[v, u] w fun e w' => RetI w' (a + b) e ∧ Below w.heap.size w w' := by
  obtain ⟨na, s, xs, rfl, hs, hl, hxn, rfl⟩ := ha
  obtain ⟨nb, r, ys, rfl, hr, hk, hyn, rfl⟩ := hb
  obtain ⟨W, hW⟩ : ∃ W, W = ((w.alloc (.cells #[.bool na, s] 24)).alloc (.cells #[.bool nb, r] 24)).alloc (.cells #[.bool false, .slice none 0 0] 24) := ⟨_, rfl⟩
  have x0 : Bx W w.heap.size (.bool na) s := by rw [hW]; exact ((Bx.new _ _ _ _).alloc _).alloc _
  have x1 : Bx W (w.heap.size + 1) (.bool nb) r := by rw [hW]; have := (Bx.new (w.alloc (.cells #[.bool na, s] 24)) (.bool nb) r 24).alloc (.cells #[.bool false, .slice none 0 0] 24); rwa [World.size_alloc] at this
  have x2 : Bx W (w.heap.size + 1 + 1) (.bool false) (.slice none 0 0) := by rw [hW]; have := Bx.new ((w.alloc (.cells #[.bool na, s] 24)).alloc (.cells #[.bool nb, r] 24)) (.bool false) (.slice none 0 0) 24; rwa [World.size_alloc, World.size_alloc] at this
  have HB : Below w.heap.size w W := by rw [hW]; exact bw_alloc (bw_alloc (bw_alloc (Below.refl _ _) _) _) _
  obtain ⟨k0, k1, f0, f1⟩ := id x0
  obtain ⟨k2, k3, f2, f3⟩ := id x1
  go_enter Try.func87, Try.ntmps87
  go_wp2_with fail
  rw [← hW]
  have hs' := hs.below HB
  have hr' := hr.below HB
  clear hW hs hr
  go_region_held3 (fun w' => w'.cell? ⟨w.heap.size, 0, none⟩ = some (.bool na) ∧ w'.cell? ⟨w.heap.size, 1, none⟩ = some s ∧ w'.cell? ⟨w.heap.size + 1, 0, none⟩ = some (.bool nb) ∧ w'.cell? ⟨w.heap.size + 1, 1, none⟩ = some r ∧ Hid (Below W.heap.size W w'))
    (first
      | exact ⟨k0, k1, k2, k3, bw_drew W⟩
      | (go_split_ands; have hh := bw_keep (by assumption) (by assumption); exact ⟨cell_below hh k0, cell_below hh k1, cell_below hh k2, cell_below hh k3, hh⟩))
    (first
      | (go_at_call 82; (with_reducible refine (magnitude_any _ _ s na xs rfl ?hz).mono ?_); (case hz => (go_split_ands; exact hs'.below (Hid.out (by assumption)))); rintro e w1 ⟨⟨s1, rfl, hc1⟩, hb1⟩)
      | (go_at_call 82; (with_reducible refine (magnitude_any _ _ r nb ys rfl ?hz).mono ?_); (case hz => (go_split_ands; exact hr'.below (Hid.out (by assumption)))); rintro e w1 ⟨⟨s2, rfl, hc2⟩, hb2⟩))
  clear k0 k1 k2 k3 f0 f1 f2 f3
  have hh : Below W.heap.size W w1 := by go_split_ands; exact Hid.out (by assumption)
  have y0 := x0.below hh
  have y1 := x1.below hh
  have y2 := x2.below hh
  have hB1 := bw_step HB hh
  have hv1 := hc1 _ (hs'.below hh)
  have hv2 := hc2 _ (hr'.below hh)
  obtain ⟨k0, k1, f0, f1⟩ := y0
  obtain ⟨k2, k3, f2, f3⟩ := y1
  obtain ⟨k4, k5, f4, f5⟩ := y2
  by_cases hab : na = nb
  · subst hab
    have hab' : (na == na) = true := by simp
    go_wp2_with fail
    go_region_held3 (fun w' => w'.cell? ⟨w.heap.size, 0, none⟩ = some (.bool na) ∧ w'.cell? ⟨w.heap.size + 1 + 1, 0, none⟩ = some (cv w' ⟨w.heap.size + 1 + 1, 0, none⟩) ∧ w'.cell? ⟨w.heap.size + 1 + 1, 1, none⟩ = some (cv w' ⟨w.heap.size + 1 + 1, 1, none⟩) ∧
        w'.frozen? ⟨w.heap.size + 1 + 1, 0, none⟩ = false ∧ w'.frozen? ⟨w.heap.size + 1 + 1, 1, none⟩ = false)
      (first
        | exact ⟨k0, cvx k4, cvx k5, f4, f5⟩
        | (go_split_ands; exact ⟨cell_below (by assumption) (by assumption), cvb (by assumption) (by assumption), cvb (by assumption) (by assumption), frozen_below (by assumption) (by assumption) (by assumption), frozen_below (by assumption) (by assumption) (by assumption)⟩)
        | (go_split_ands; exact ⟨st_far (by assumption) (by simp) (by simp), st_cv (by assumption), st_cv (by assumption), st_fr (by assumption), st_fr (by assumption)⟩))
      (first
        | (go_at_call 84; (with_reducible refine (plus_any _ _ _ (tr xs) (tr ys) ?g1 ?g2 hl.tr hk.tr ?g3 ?g4).mono ?_); (case g1 => exact hv1); (case g2 => exact hv2); (case g3 => (rw [tr_length]; have := tl_le xs; omega)); (case g4 => (rw [tr_length]; have := tl_le ys; omega)); rintro e w2 ⟨⟨zs, ⟨s3, rfl, hs3⟩, hz1, hz2, hz3⟩, hb2⟩)
        | (go_at_call 86; (with_reducible refine (signed_any _ _ na zs hs3 hz1).mono ?_); rintro e w3 ⟨⟨v4, rfl, hv4⟩, hb3⟩; obtain ⟨q4, A4, n4, c4, rfl⟩ := hv4.form))
    rename_i hH
    clear hH
    have h3 : Below w1.heap.size w1 w3 := bw_step (bw_step (Below.refl _ w1).drew hb2) hb3
    have e4 := cell_below h3 k4
    have e5 := cell_below h3 k5
    have HF := fin_agg (bw_step hB1 h3) (by omega) e4 e5 hv4
    rw [hz3, nv_tr, nv_tr] at HF
    clear k0 k1 k2 k3 k4 k5 f0 f1 f2 f3 f4 f5 hb2 hb3 h3 hv4 hs3
    go_wp2
    refine bodyPost_ret (v := .agg #[.bool q4, .slice A4 n4 c4]) (by simp [results, Try.results87, go_sem, e4, e5]) rfl ?_
    have e : sg na (nv xs) + sg na (nv ys) = sg na (nv xs + nv ys) := by cases na <;> simp [sg]; omega
    rw [e]; exact HF.out
  · have hab' : (na == nb) = false := by simp [hab]
    have HA := hid hab
    by_cases hc : nv (tr ys) ≤ nv (tr xs)
    · have hle := hid hc
      have hll := hid (show (tr ys).length ≤ (tr xs).length by
        rcases Nat.lt_or_ge (tr xs).length (tr ys).length with h | h
        · have := (Cn.tr ys).lt_of_length hl.tr hk.tr h; omega
        · exact h)
      have hcm : decide (0 ≤ cm (nv (tr xs)) (nv (tr ys))) = true := by unfold cm; split <;> simp <;> (try split) <;> omega
      clear hc hab
      go_wp2_with (go_at_call 97; (with_reducible refine (compare_any _ _ _ (tr xs) (tr ys) hv1 hv2 hl.tr hk.tr (Cn.tr _) (Cn.tr _)).mono ?_); rintro e w' ⟨rfl, ⟨nq, rfl⟩⟩)
      go_region_held3 (fun w' => w'.cell? ⟨w.heap.size, 0, none⟩ = some (.bool na) ∧ w'.cell? ⟨w.heap.size + 1 + 1, 0, none⟩ = some (cv w' ⟨w.heap.size + 1 + 1, 0, none⟩) ∧ w'.cell? ⟨w.heap.size + 1 + 1, 1, none⟩ = some (cv w' ⟨w.heap.size + 1 + 1, 1, none⟩) ∧
          w'.frozen? ⟨w.heap.size + 1 + 1, 0, none⟩ = false ∧ w'.frozen? ⟨w.heap.size + 1 + 1, 1, none⟩ = false)
        (first
          | exact ⟨k0, cvx k4, cvx k5, f4, f5⟩
          | (go_split_ands; exact ⟨cell_below (by assumption) (by assumption), cvb (by assumption) (by assumption), cvb (by assumption) (by assumption), frozen_below (by assumption) (by assumption) (by assumption), frozen_below (by assumption) (by assumption) (by assumption)⟩)
          | (go_split_ands; exact ⟨st_far (by assumption) (by simp) (by simp), st_cv (by assumption), st_cv (by assumption), st_fr (by assumption), st_fr (by assumption)⟩))
        (first
          | (go_at_call 85; (with_reducible refine (minus_any _ _ _ (tr xs) (tr ys) ?g1 ?g2 hl.tr hk.tr ?g3 ?g4).mono ?_); (case g1 => exact hv1); (case g2 => exact hv2); (case g3 => exact hle.out); (case g4 => exact hll.out); rintro e w2 ⟨⟨zs, ⟨s3, rfl, hs3⟩, hz1, hz2, hz3⟩, hb2⟩)
          | (go_at_call 86; (with_reducible refine (signed_any _ _ na zs hs3 hz1).mono ?_); rintro e w3 ⟨⟨v4, rfl, hv4⟩, hb3⟩; obtain ⟨q4, A4, n4, c4, rfl⟩ := hv4.form))
      rename_i hH
      clear hH
      have h3 : Below w1.heap.size w1 w3 := bw_step (bw_step (below_drewN (Below.refl _ w1) _).drew hb2) hb3
      have e4 := cell_below h3 k4
      have e5 := cell_below h3 k5
      have HF := fin_agg (bw_step hB1 h3) (by omega) e4 e5 hv4
      rw [hz3, nv_tr, nv_tr] at HF
      clear k0 k1 k2 k3 k4 k5 f0 f1 f2 f3 f4 f5 hb2 hb3 h3 hv4 hs3
      go_wp2
      refine bodyPost_ret (v := .agg #[.bool q4, .slice A4 n4 c4]) (by simp [results, Try.results87, go_sem, e4, e5]) rfl ?_
      have e : sg na (nv xs) + sg nb (nv ys) = sg na (nv xs - nv ys) := by have hab := HA.out; revert hab; cases na <;> cases nb <;> simp [sg] <;> omega
      rw [e]; exact HF.out
    · have hle := hid (show nv (tr xs) ≤ nv (tr ys) by omega)
      have hll := hid (show (tr xs).length ≤ (tr ys).length by
        rcases Nat.lt_or_ge (tr ys).length (tr xs).length with h | h
        · have := (Cn.tr xs).lt_of_length hk.tr hl.tr h; omega
        · exact h)
      have hcm : decide (0 ≤ cm (nv (tr xs)) (nv (tr ys))) = false := by rw [cm_lt (by omega)]; decide
      clear hc hab
      go_wp2_with (go_at_call 97; (with_reducible refine (compare_any _ _ _ (tr xs) (tr ys) hv1 hv2 hl.tr hk.tr (Cn.tr _) (Cn.tr _)).mono ?_); rintro e w' ⟨rfl, ⟨nq, rfl⟩⟩)
      go_region_held3 (fun w' => w'.cell? ⟨w.heap.size + 1, 0, none⟩ = some (.bool nb) ∧ w'.cell? ⟨w.heap.size + 1 + 1, 0, none⟩ = some (cv w' ⟨w.heap.size + 1 + 1, 0, none⟩) ∧ w'.cell? ⟨w.heap.size + 1 + 1, 1, none⟩ = some (cv w' ⟨w.heap.size + 1 + 1, 1, none⟩) ∧
          w'.frozen? ⟨w.heap.size + 1 + 1, 0, none⟩ = false ∧ w'.frozen? ⟨w.heap.size + 1 + 1, 1, none⟩ = false)
        (first
          | exact ⟨k2, cvx k4, cvx k5, f4, f5⟩
          | (go_split_ands; exact ⟨cell_below (by assumption) (by assumption), cvb (by assumption) (by assumption), cvb (by assumption) (by assumption), frozen_below (by assumption) (by assumption) (by assumption), frozen_below (by assumption) (by assumption) (by assumption)⟩)
          | (go_split_ands; exact ⟨st_far (by assumption) (by simp) (by simp), st_cv (by assumption), st_cv (by assumption), st_fr (by assumption), st_fr (by assumption)⟩))
        (first
          | (go_at_call 85; (with_reducible refine (minus_any _ _ _ (tr ys) (tr xs) ?g1 ?g2 hk.tr hl.tr ?g3 ?g4).mono ?_); (case g1 => exact hv2); (case g2 => exact hv1); (case g3 => exact hle.out); (case g4 => exact hll.out); rintro e w2 ⟨⟨zs, ⟨s3, rfl, hs3⟩, hz1, hz2, hz3⟩, hb2⟩)
          | (go_at_call 86; (with_reducible refine (signed_any _ _ nb zs hs3 hz1).mono ?_); rintro e w3 ⟨⟨v4, rfl, hv4⟩, hb3⟩; obtain ⟨q4, A4, n4, c4, rfl⟩ := hv4.form))
      rename_i hH
      clear hH
      have h3 : Below w1.heap.size w1 w3 := bw_step (bw_step (below_drewN (Below.refl _ w1) _).drew hb2) hb3
      have e4 := cell_below h3 k4
      have e5 := cell_below h3 k5
      have HF := fin_agg (bw_step hB1 h3) (by omega) e4 e5 hv4
      rw [hz3, nv_tr, nv_tr] at HF
      clear k0 k1 k2 k3 k4 k5 f0 f1 f2 f3 f4 f5 hb2 hb3 h3 hv4 hs3
      go_wp2
      refine bodyPost_ret (v := .agg #[.bool q4, .slice A4 n4 c4]) (by simp [results, Try.results87, go_sem, e4, e5]) rfl ?_
      have e : sg na (nv xs) + sg nb (nv ys) = sg nb (nv ys - nv xs) := by have hab := HA.out; revert hab; cases na <;> cases nb <;> simp [sg] <;> omega
      rw [e]; exact HF.out
end Go.Proofs.Ytijmjkkjopplbaa

namespace Go.Proofs.Ytijmjkkjopplbaa
open Go.RowKit

set_option maxHeartbeats 1000000 in
theorem times_any (w : World) (v u : Value) (xs ys : List Int) (hx : SlV w v xs) (hy : SlV w u ys) (bx : Lb xs) (by_ : Lb ys) (lx : xs.length ≤ 274877906944) (ly : ys.length ≤ 274877906944) :
    Calls Try.prog 108 #[v, u] w fun e w' => RetN w' (nv xs * nv ys) e ∧ Below w.heap.size w w' := by
  obtain ⟨A, c, rfl, hcl, hx⟩ := hx
  obtain ⟨B, d, rfl, hdl, hy⟩ := hy
  have HX := hid hx
  have HY := hid hy
  have HBX := hid bx
  have HBY := hid by_
  clear hx hy bx by_
  have hmk := make_u32_add xs.length ys.length (by omega)
  have hsum := i64_add xs.length ys.length (by omega)
  go_enter Try.func108, Try.ntmps108
  go_wp2
  clear hmk hsum
  go_loopw [17] (fun i wr => ∃ (k : Nat) (os : List Int), i = .int .i64 k ∧ k ≤ xs.length ∧ Hid (os.length = xs.length + ys.length) ∧ Hid (Own wr w.heap.size os) ∧ Hid (Lb os) ∧
      Hid (nv os = nv (xs.take k) * nv ys) ∧ Hid (∀ j, k + ys.length ≤ j → lm os j = 0) ∧ Below w.heap.size w wr) (fun i _ => xs.length - (intOf i).toNat)
  case atStart => exact ⟨0, List.replicate (xs.length + ys.length) 0, rfl, by omega, hid (by simp), hid (Own.made w (xs.length + ys.length)), hid (Lb.replicate _), hid (by rw [nv_replicate]; simp [nv_nil]), hid (fun j _ => lm_replicate _ _), (Below.refl _ _).alloc (Nat.le_refl _) _⟩
  case round =>
    obtain ⟨k, os, rfl, hk, hlen, hown, hlb, hval, hz, hbel⟩ := hrel
    by_cases hlt : k < xs.length
    · obtain ⟨ab, ao, rfl, hcc⟩ := HX.out.at (by omega)
      have HC1 := hid (hcc k hlt)
      clear hcc
      have hbx := HBX.out.lm k
      go_wp2
      go_loopw [7, 22] (fun v i wr => ∃ (cy : Int) (j : Nat) (os : List Int), v = .int .u64 cy ∧ i = .int .i64 j ∧ 0 ≤ cy ∧ cy < 4294967296 ∧ j ≤ ys.length ∧ Hid (os.length = xs.length + ys.length) ∧ Hid (Own wr w.heap.size os) ∧ Hid (Lb os) ∧
          Hid (nv os + bp (k + j) * cy = nv (xs.take k) * nv ys + bp k * (lm xs k * nv (ys.take j))) ∧ Hid (∀ j, k + ys.length ≤ j → lm os j = 0) ∧ Below w.heap.size w wr) (fun _ i _ => ys.length - (intOf i).toNat)
      case atStart => exact ⟨0, 0, os, rfl, rfl, by omega, by omega, by omega, hlen, hown, hlb, hid (by rw [hval.out]; simp [nv_nil]), hz, hbel⟩
      case round =>
        clear hlen hown hlb hval hz hbel
        obtain ⟨cy, j, os, rfl, rfl, hy0, hy1, hj, hlen, hown, hlb, hval, hz, hbel⟩ := hrel
        have c1 := cell_below hbel HC1.out
        by_cases hjt : j < ys.length
        · obtain ⟨bb, bo, rfl, hcc⟩ := HY.out.at (by omega)
          have c2 := cell_below hbel (hcc j hjt)
          clear hcc
          have hcell := hown.out.cell (j := k + j) (by have := hlen.out; omega)
          have hfree := hown.out.free (k + j)
          have hby := HBY.out.lm j
          have hbo := hlb.out.lm (k + j)
          obtain ⟨m0, m1⟩ := limb_mul hbx hby
          have hsum := i64_add k j (by omega)
          have hix : (k : Int) + (j : Int) < (xs.length : Int) + (ys.length : Int) := by omega
          have hi0 : 0 ≤ (k : Int) + (j : Int) := by omega
          have htn : ((k : Int) + (j : Int)).toNat = k + j := by omega
          have e1 := u64_in m0 (by omega)
          have e2 := u64_in (x := lm xs k * lm ys j + lm os (k + j)) (by omega) (by omega)
          have e3 := u64_in (x := cy + (lm xs k * lm ys j + lm os (k + j))) (by omega) (by omega)
          go_wp2
          go_quiet (fail)
          go_wp2
          go_roundw
          case measure => simp [intOf]; omega
          case rel =>
            have hl := hlen.out
            obtain ⟨s, hs⟩ : ∃ s, cy + (lm xs k * lm ys j + lm os (k + j)) = s := ⟨_, rfl⟩
            rw [hs]
            have h2 := Int.emod_nonneg s (show (4294967296 : Int) ≠ 0 by decide)
            have h3 := Int.emod_lt_of_pos s (show (0 : Int) < 4294967296 by decide)
            refine ⟨_, j + 1, os.set (k + j) (s % 4294967296), rfl, by go_num, by omega, by omega, by omega, hid (by rw [List.length_set]; exact hl), hid ((hown.out.drew _).set _ _), hid (hlb.out.set _ h2 h3), hid ?_,
              hid (fun t ht => by rw [lm_set_other _ (by omega)]; exact hz.out t ht), (below_drewN hbel _).setCell (Nat.le_refl _) _⟩
            rw [nv_set _ _ _ (by omega), ← Nat.add_assoc, bp_succ, mul_step hval.out hs, nv_take_succ, bp_add]
            grind
        · have HJ := hid (show j = ys.length by omega)
          have hcell := hown.out.cell (j := k + j) (by have := hlen.out; omega)
          have hfree := hown.out.free (k + j)
          have hje : (j : Int) = (ys.length : Int) := by omega
          rw [show k + j = k + ys.length from by omega] at hcell hfree
          have hsum := i64_add k ys.length (by omega)
          have hix : (k : Int) + (ys.length : Int) < (xs.length : Int) + (ys.length : Int) := by omega
          have hi0 : 0 ≤ (k : Int) + (ys.length : Int) := by omega
          have htn : ((k : Int) + (ys.length : Int)).toNat = k + ys.length := by omega
          clear hje
          go_wp2
          go_roundw
          case measure => simp [intOf]; omega
          case rel =>
            have hl := hlen.out
            refine ⟨k + 1, os.set (k + ys.length) cy, by go_num, by omega, hid (by rw [List.length_set]; exact hl), hid (hown.out.set _ _), hid (hlb.out.set _ hy0 hy1), hid ?_,
              hid (fun t ht => by rw [lm_set_other _ (by omega)]; exact hz.out t (by omega)), hbel.setCell (Nat.le_refl _) _⟩
            have e := hval.out
            rw [HJ.out, nv_take_all (xs := ys) (Nat.le_refl _)] at e
            rw [nv_set _ _ _ (by omega), hz.out (k + ys.length) (Nat.le_refl _), nv_take_succ, Int.sub_zero, e]
            grind
    · have HK := hid (show k = xs.length by omega)
      go_wp2_with (go_at_call 102; (with_reducible refine (trim_any _ _ os (hown.out.slv hlen.out (by omega) (Nat.le_refl _))).mono ?_); rintro e w' ⟨⟨vt, rfl, ht⟩, rfl⟩)
      go_ret
      refine ⟨⟨tr os, RetSl.of (ht _ (hown.out.slv hlen.out (by omega) (Nat.le_refl _))), hlb.out.tr, Cn.tr _, ?_⟩, hbel⟩
      rw [nv_tr, hval.out, HK.out, nv_take_all (xs := xs) (Nat.le_refl _)]
end Go.Proofs.Ytijmjkkjopplbaa

namespace Go.Proofs.Ytijmjkkjopplbaa
open Go.RowKit
set_option linter.unusedVariables false
set_option maxRecDepth 100000

theorem cm_form (a b : Int) : (a < b ∧ cm a b = -1) ∨ (a = b ∧ cm a b = 0) ∨ (b < a ∧ cm a b = 1) := by
  rcases Int.lt_trichotomy a b with h | h | h
  · exact .inl ⟨h, cm_lt h⟩
  · exact .inr (.inl ⟨h, by subst h; unfold cm; simp⟩)
  · exact .inr (.inr ⟨h, cm_gt h⟩)
theorem cm_signs {a b : Int} (h : cm a 0 < cm b 0) : cm a b = -1 := by
  rcases cm_form a 0 with ⟨h1, e1⟩ | ⟨h1, e1⟩ | ⟨h1, e1⟩ <;> rcases cm_form b 0 with ⟨h2, e2⟩ | ⟨h2, e2⟩ | ⟨h2, e2⟩ <;> first | exact cm_lt (by omega) | (rw [e1, e2] at h; omega)
theorem cm_signs' {a b : Int} (h : cm b 0 < cm a 0) : cm a b = 1 := by
  rcases cm_form a 0 with ⟨h1, e1⟩ | ⟨h1, e1⟩ | ⟨h1, e1⟩ <;> rcases cm_form b 0 with ⟨h2, e2⟩ | ⟨h2, e2⟩ | ⟨h2, e2⟩ <;> first | exact cm_gt (by omega) | (rw [e1, e2] at h; omega)
theorem cm_same {x y : Int} {na nb : Bool} (hx : 0 ≤ x) (hy : 0 ≤ y) (h : cm (sg na x) 0 = cm (sg nb y) 0) : cm (sg na x) 0 * cm x y = cm (sg na x) (sg nb y) := by
  rcases cm_form (sg na x) 0 with ⟨h1, e1⟩ | ⟨h1, e1⟩ | ⟨h1, e1⟩ <;> rcases cm_form (sg nb y) 0 with ⟨h2, e2⟩ | ⟨h2, e2⟩ | ⟨h2, e2⟩ <;>
    rcases cm_form x y with ⟨h3, e3⟩ | ⟨h3, e3⟩ | ⟨h3, e3⟩ <;> rcases cm_form (sg na x) (sg nb y) with ⟨h4, e4⟩ | ⟨h4, e4⟩ | ⟨h4, e4⟩ <;>
    cases na <;> cases nb <;> simp only [sg_false, sg_true] at * <;> first | (exfalso; omega) | (rw [e1, e3]; omega) | (rw [e1, e3, e4]; rfl) | (rw [e1, e4]; omega)
theorem cm_wrap (a b c d : Int) : IntKind.i64.wrap (cm a b * cm c d) = cm a b * cm c d := by
  rcases cm_form a b with ⟨_, e1⟩ | ⟨_, e1⟩ | ⟨_, e1⟩ <;> rcases cm_form c d with ⟨_, e2⟩ | ⟨_, e2⟩ | ⟨_, e2⟩ <;> rw [e1, e2] <;> rfl

theorem cmp_any (w : World) (v u : Value) (a b : Int) (n m : Nat) (ha : IntA w v a n) (hb : IntA w u b m) :
    Calls Try.prog 65 #[v, u] w fun e w' => e = .returned (.int .i64 (cm a b)) ∧ Below w.heap.size w w' := by
  have HA := hid ha
  have HBB := hid hb
  obtain ⟨na, s, xs, rfl, hs, hl, hxn, ea⟩ := ha
  obtain ⟨nb, r, ys, rfl, hr, hk, hyn, eb⟩ := hb
  obtain ⟨W, hW⟩ : ∃ W, W = (w.alloc (.cells #[.bool na, s] 24)).alloc (.cells #[.bool nb, r] 24) := ⟨_, rfl⟩
  have X := Bx.two w (.bool na) s (.bool nb) r 24
  rw [← hW] at X
  obtain ⟨x0, x1⟩ := X
  have HB : Below w.heap.size w W := by rw [hW]; exact bw_alloc (bw_alloc (Below.refl _ _) _) _
  have HA1 := hid (HA.out.below HB)
  have HBB1 := hid (HBB.out.below HB)
  have EA := hid ea
  have EB := hid eb
  have HL := hid hl
  have HK := hid hk
  have S0 := hid (hs.below HB)
  have R0 := hid (hr.below HB)
  have HB0 := hid HB
  clear HA HBB ea eb hl hk hs hr HB
  obtain ⟨k0, k1, f0, f1⟩ := id x0
  obtain ⟨k2, k3, f2, f3⟩ := id x1
  go_enter Try.func65, Try.ntmps65
  go_wp2_with fail
  rw [← hW]
  clear hW
  refine (sign_any _ _ a n HA1.out).mono ?_
  rintro e w1 ⟨rfl, hb1⟩
  have HBB1 := hid (HBB1.out.below hb1)
  have HB1 := hid (bw_step HB0.out hb1)
  have S1 := hid (S0.out.below hb1)
  have R1 := hid (R0.out.below hb1)
  have y0 := x0.below hb1
  have y1 := x1.below hb1
  clear HB0 hb1 S0 R0 k0 k1 f0 f1 k2 k3 f2 f3 x0 x1
  obtain ⟨k0, k1, f0, f1⟩ := id y0
  obtain ⟨k2, k3, f2, f3⟩ := id y1
  go_wp2_with fail
  refine (sign_any _ _ b m HBB1.out).mono ?_
  rintro e w2 ⟨rfl, hb2⟩
  have HB2 := hid (bw_step HB1.out hb2)
  have S2 := hid (S1.out.below hb2)
  have R2 := hid (R1.out.below hb2)
  have x0 := y0.below hb2
  have x1 := y1.below hb2
  clear HB1 hb2 S1 R1 k0 k1 f0 f1 k2 k3 f2 f3 y0 y1
  obtain ⟨k0, k1, f0, f1⟩ := id x0
  obtain ⟨k2, k3, f2, f3⟩ := id x1
  rcases Int.lt_trichotomy (cm a 0) (cm b 0) with h | h | h
  · have h1 : (cm a 0 != cm b 0) = true := by rw [bne_iff_ne]; omega
    have h2 : decide (cm a 0 < cm b 0) = true := decide_eq_true h
    have E := hid (cm_signs h)
    clear h
    go_wp2
    go_ret
    exact ⟨by rw [E.out]; rfl, HB2.out⟩
  · have h1 : (cm a 0 != cm b 0) = false := by rw [h]; simp
    have hw := cm_wrap a 0 (nv (tr xs)) (nv (tr ys))
    have E := hid (show cm a 0 * cm (nv (tr xs)) (nv (tr ys)) = cm a b by
      rw [nv_tr, nv_tr]
      rw [EA.out, EB.out] at h ⊢
      exact cm_same (nv_nonneg HL.out) (nv_nonneg HK.out) h)
    clear h
    go_wp2_with fail
    go_region_held3 (fun w' => w'.cell? ⟨w.heap.size, 0, none⟩ = some (.bool na) ∧ w'.cell? ⟨w.heap.size, 1, none⟩ = some s ∧ w'.cell? ⟨w.heap.size + 1, 0, none⟩ = some (.bool nb) ∧ w'.cell? ⟨w.heap.size + 1, 1, none⟩ = some r ∧ Hid (Below w2.heap.size w2 w'))
      (first
        | exact ⟨k0, k1, k2, k3, bw_drew w2⟩
        | (go_split_ands; have hh := bw_keep (by assumption) (by assumption); exact ⟨cell_below hh k0, cell_below hh k1, cell_below hh k2, cell_below hh k3, hh⟩)
        | (go_split_ands; exact ⟨by assumption, by assumption, by assumption, by assumption, below_drewN (Hid.out (by assumption)) _⟩))
      (first
        | (go_at_call 82; (with_reducible refine (magnitude_any _ _ s na xs rfl ?hz).mono ?_); (case hz => (go_split_ands; exact S2.out.below (Hid.out (by assumption)))); rintro e w1 ⟨⟨s1, rfl, hc1⟩, hb1⟩)
        | (go_at_call 82; (with_reducible refine (magnitude_any _ _ r nb ys rfl ?hz).mono ?_); (case hz => (go_split_ands; exact R2.out.below (Hid.out (by assumption)))); rintro e w1 ⟨⟨s2, rfl, hc2⟩, hb2⟩)
        | (go_at_call 97; (with_reducible refine (compare_any _ _ _ (tr xs) (tr ys) ?g1 ?g2 HL.out.tr HK.out.tr (Cn.tr _) (Cn.tr _)).mono ?_); (case g1 => (go_split_ands; exact hc1 _ (S2.out.below (Hid.out (by assumption))))); (case g2 => (go_split_ands; exact hc2 _ (R2.out.below (Hid.out (by assumption))))); rintro e w' ⟨rfl, ⟨nq, rfl⟩⟩))
    rename_i hH
    have HB3 := hid (bw_step HB2.out hH.2.2.2.2.out)
    clear hH
    go_wp2
    go_ret
    exact ⟨by rw [E.out]; rfl, HB3.out⟩
  · have h1 : (cm a 0 != cm b 0) = true := by rw [bne_iff_ne]; omega
    have h2 : decide (cm a 0 < cm b 0) = false := by rw [decide_eq_false_iff_not]; omega
    have E := hid (cm_signs' h)
    clear h
    go_wp2
    go_ret
    exact ⟨by rw [E.out]; rfl, HB2.out⟩
end Go.Proofs.Ytijmjkkjopplbaa

