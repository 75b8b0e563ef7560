/- Walks: Add, Sub, Neg, Normalize, Sign, Cmp. -/
import Derived.Test.YtnjekacagffelaaInt64
namespace Go.Proofs.Ytnjekacagffelaa
open Go.RowKit

theorem add_any (w : World) (v u : Value) (a b : Int) (n m : Nat) (ha : IntA w v a n) (hb : IntA w u b m) (hn : n < 1099511627776) (hm : m < 1099511627776) :
    Calls Try.prog 14 #[v, u] w fun e w' => RetI w' (a + b) e ∧ Below w.heap.size w w' := by
  obtain ⟨na, s, xs, rfl, hs, hl, hxn, rfl⟩ := ha
  obtain ⟨nb, r, ys, rfl, hr, hk, hyn, rfl⟩ := hb
  obtain ⟨W, hW⟩ : ∃ W, W = ((w.alloc (.cells #[.bool na, s] 24)).alloc (.cells #[.bool nb, r] 24)).alloc (.cells #[.bool false, .slice none 0 0] 24) := ⟨_, rfl⟩
  have x0 : Bx W w.heap.size (.bool na) s := by rw [hW]; exact ((Bx.new _ _ _ _).alloc _).alloc _
  have x1 : Bx W (w.heap.size + 1) (.bool nb) r := by rw [hW]; have := (Bx.new (w.alloc (.cells #[.bool na, s] 24)) (.bool nb) r 24).alloc (.cells #[.bool false, .slice none 0 0] 24); rwa [World.size_alloc] at this
  have x2 : Bx W (w.heap.size + 1 + 1) (.bool false) (.slice none 0 0) := by rw [hW]; have := Bx.new ((w.alloc (.cells #[.bool na, s] 24)).alloc (.cells #[.bool nb, r] 24)) (.bool false) (.slice none 0 0) 24; rwa [World.size_alloc, World.size_alloc] at this
  have HB : Below w.heap.size w W := by rw [hW]; exact bw_alloc (bw_alloc (bw_alloc (Below.refl _ _) _) _) _
  obtain ⟨k0, k1, f0, f1⟩ := id x0
  obtain ⟨k2, k3, f2, f3⟩ := id x1
  go_enter Try.func14, Try.ntmps14
  go_wp2_with fail
  rw [← hW]
  have hs' := hs.below HB
  have hr' := hr.below HB
  clear hW hs hr
  go_region_held3 (fun w' => w'.cell? ⟨w.heap.size, 0, none⟩ = some (.bool na) ∧ w'.cell? ⟨w.heap.size, 1, none⟩ = some s ∧ w'.cell? ⟨w.heap.size + 1, 0, none⟩ = some (.bool nb) ∧ w'.cell? ⟨w.heap.size + 1, 1, none⟩ = some r ∧ Hid (Below W.heap.size W w'))
    (first
      | exact ⟨k0, k1, k2, k3, bw_drew W⟩
      | (go_split_ands; have hh := bw_keep (by assumption) (by assumption); exact ⟨cell_below hh k0, cell_below hh k1, cell_below hh k2, cell_below hh k3, hh⟩))
    (first
      | (go_at_call 37; (with_reducible refine (magnitude_any _ _ s na xs rfl ?hz).mono ?_); (case hz => (go_split_ands; exact hs'.below (Hid.out (by assumption)))); rintro e w1 ⟨⟨s1, rfl, hc1⟩, hb1⟩)
      | (go_at_call 37; (with_reducible refine (magnitude_any _ _ r nb ys rfl ?hz).mono ?_); (case hz => (go_split_ands; exact hr'.below (Hid.out (by assumption)))); rintro e w1 ⟨⟨s2, rfl, hc2⟩, hb2⟩))
  clear k0 k1 k2 k3 f0 f1 f2 f3
  have hh : Below W.heap.size W w1 := by go_split_ands; exact Hid.out (by assumption)
  have y0 := x0.below hh
  have y1 := x1.below hh
  have y2 := x2.below hh
  have hB1 := bw_step HB hh
  have hv1 := hc1 _ (hs'.below hh)
  have hv2 := hc2 _ (hr'.below hh)
  obtain ⟨k0, k1, f0, f1⟩ := y0
  obtain ⟨k2, k3, f2, f3⟩ := y1
  obtain ⟨k4, k5, f4, f5⟩ := y2
  by_cases hab : na = nb
  · subst hab
    have hab' : (na == na) = true := by simp
    go_wp2_with fail
    go_region_held3 (fun w' => w'.cell? ⟨w.heap.size, 0, none⟩ = some (.bool na) ∧ w'.cell? ⟨w.heap.size + 1 + 1, 0, none⟩ = some (cv w' ⟨w.heap.size + 1 + 1, 0, none⟩) ∧ w'.cell? ⟨w.heap.size + 1 + 1, 1, none⟩ = some (cv w' ⟨w.heap.size + 1 + 1, 1, none⟩) ∧
        w'.frozen? ⟨w.heap.size + 1 + 1, 0, none⟩ = false ∧ w'.frozen? ⟨w.heap.size + 1 + 1, 1, none⟩ = false)
      (first
        | exact ⟨k0, cvx k4, cvx k5, f4, f5⟩
        | (go_split_ands; exact ⟨cell_below (by assumption) (by assumption), cvb (by assumption) (by assumption), cvb (by assumption) (by assumption), frozen_below (by assumption) (by assumption) (by assumption), frozen_below (by assumption) (by assumption) (by assumption)⟩)
        | (go_split_ands; exact ⟨st_far (by assumption) (by simp) (by simp), st_cv (by assumption), st_cv (by assumption), st_fr (by assumption), st_fr (by assumption)⟩))
      (first
        | (go_at_call 39; (with_reducible refine (plus_any _ _ _ (tr xs) (tr ys) ?g1 ?g2 hl.tr hk.tr ?g3 ?g4).mono ?_); (case g1 => exact hv1); (case g2 => exact hv2); (case g3 => (rw [tr_length]; have := tl_le xs; omega)); (case g4 => (rw [tr_length]; have := tl_le ys; omega)); rintro e w2 ⟨⟨zs, ⟨s3, rfl, hs3⟩, hz1, hz2, hz3⟩, hb2⟩)
        | (go_at_call 38; (with_reducible refine (signed_any _ _ na zs hs3 hz1).mono ?_); rintro e w3 ⟨⟨v4, rfl, hv4⟩, hb3⟩; obtain ⟨q4, A4, n4, c4, rfl⟩ := hv4.form))
    rename_i hH
    clear hH
    have h3 : Below w1.heap.size w1 w3 := bw_step (bw_step (Below.refl _ w1).drew hb2) hb3
    have e4 := cell_below h3 k4
    have e5 := cell_below h3 k5
    have HF := fin_agg (bw_step hB1 h3) (by omega) e4 e5 hv4
    rw [hz3, nv_tr, nv_tr] at HF
    clear k0 k1 k2 k3 k4 k5 f0 f1 f2 f3 f4 f5 hb2 hb3 h3 hv4 hs3
    go_wp2
    refine bodyPost_ret (v := .agg #[.bool q4, .slice A4 n4 c4]) (by simp [results, Try.results14, go_sem, e4, e5]) rfl ?_
    have e : sg na (nv xs) + sg na (nv ys) = sg na (nv xs + nv ys) := by cases na <;> simp [sg]; omega
    rw [e]; exact HF.out
  · have hab' : (na == nb) = false := by simp [hab]
    have HA := hid hab
    by_cases hc : nv (tr ys) ≤ nv (tr xs)
    · have hle := hid hc
      have hll := hid (show (tr ys).length ≤ (tr xs).length by
        rcases Nat.lt_or_ge (tr xs).length (tr ys).length with h | h
        · have := (Cn.tr ys).lt_of_length hl.tr hk.tr h; omega
        · exact h)
      have hcm : decide (0 ≤ cm (nv (tr xs)) (nv (tr ys))) = true := by unfold cm; split <;> simp <;> (try split) <;> omega
      clear hc hab
      go_wp2_with (go_at_call 40; (with_reducible refine (compare_any _ _ _ (tr xs) (tr ys) hv1 hv2 hl.tr hk.tr (Cn.tr _) (Cn.tr _)).mono ?_); rintro e w' ⟨rfl, ⟨nq, rfl⟩⟩)
      go_region_held3 (fun w' => w'.cell? ⟨w.heap.size, 0, none⟩ = some (.bool na) ∧ w'.cell? ⟨w.heap.size + 1 + 1, 0, none⟩ = some (cv w' ⟨w.heap.size + 1 + 1, 0, none⟩) ∧ w'.cell? ⟨w.heap.size + 1 + 1, 1, none⟩ = some (cv w' ⟨w.heap.size + 1 + 1, 1, none⟩) ∧
          w'.frozen? ⟨w.heap.size + 1 + 1, 0, none⟩ = false ∧ w'.frozen? ⟨w.heap.size + 1 + 1, 1, none⟩ = false)
        (first
          | exact ⟨k0, cvx k4, cvx k5, f4, f5⟩
          | (go_split_ands; exact ⟨cell_below (by assumption) (by assumption), cvb (by assumption) (by assumption), cvb (by assumption) (by assumption), frozen_below (by assumption) (by assumption) (by assumption), frozen_below (by assumption) (by assumption) (by assumption)⟩)
          | (go_split_ands; exact ⟨st_far (by assumption) (by simp) (by simp), st_cv (by assumption), st_cv (by assumption), st_fr (by assumption), st_fr (by assumption)⟩))
        (first
          | (go_at_call 41; (with_reducible refine (minus_any _ _ _ (tr xs) (tr ys) ?g1 ?g2 hl.tr hk.tr ?g3 ?g4).mono ?_); (case g1 => exact hv1); (case g2 => exact hv2); (case g3 => exact hle.out); (case g4 => exact hll.out); rintro e w2 ⟨⟨zs, ⟨s3, rfl, hs3⟩, hz1, hz2, hz3⟩, hb2⟩)
          | (go_at_call 38; (with_reducible refine (signed_any _ _ na zs hs3 hz1).mono ?_); rintro e w3 ⟨⟨v4, rfl, hv4⟩, hb3⟩; obtain ⟨q4, A4, n4, c4, rfl⟩ := hv4.form))
      rename_i hH
      clear hH
      have h3 : Below w1.heap.size w1 w3 := bw_step (bw_step (below_drewN (Below.refl _ w1) _).drew hb2) hb3
      have e4 := cell_below h3 k4
      have e5 := cell_below h3 k5
      have HF := fin_agg (bw_step hB1 h3) (by omega) e4 e5 hv4
      rw [hz3, nv_tr, nv_tr] at HF
      clear k0 k1 k2 k3 k4 k5 f0 f1 f2 f3 f4 f5 hb2 hb3 h3 hv4 hs3
      go_wp2
      refine bodyPost_ret (v := .agg #[.bool q4, .slice A4 n4 c4]) (by simp [results, Try.results14, go_sem, e4, e5]) rfl ?_
      have e : sg na (nv xs) + sg nb (nv ys) = sg na (nv xs - nv ys) := by have hab := HA.out; revert hab; cases na <;> cases nb <;> simp [sg] <;> omega
      rw [e]; exact HF.out
    · have hle := hid (show nv (tr xs) ≤ nv (tr ys) by omega)
      have hll := hid (show (tr xs).length ≤ (tr ys).length by
        rcases Nat.lt_or_ge (tr ys).length (tr xs).length with h | h
        · have := (Cn.tr xs).lt_of_length hk.tr hl.tr h; omega
        · exact h)
      have hcm : decide (0 ≤ cm (nv (tr xs)) (nv (tr ys))) = false := by rw [cm_lt (by omega)]; decide
      clear hc hab
      go_wp2_with (go_at_call 40; (with_reducible refine (compare_any _ _ _ (tr xs) (tr ys) hv1 hv2 hl.tr hk.tr (Cn.tr _) (Cn.tr _)).mono ?_); rintro e w' ⟨rfl, ⟨nq, rfl⟩⟩)
      go_region_held3 (fun w' => w'.cell? ⟨w.heap.size + 1, 0, none⟩ = some (.bool nb) ∧ w'.cell? ⟨w.heap.size + 1 + 1, 0, none⟩ = some (cv w' ⟨w.heap.size + 1 + 1, 0, none⟩) ∧ w'.cell? ⟨w.heap.size + 1 + 1, 1, none⟩ = some (cv w' ⟨w.heap.size + 1 + 1, 1, none⟩) ∧
          w'.frozen? ⟨w.heap.size + 1 + 1, 0, none⟩ = false ∧ w'.frozen? ⟨w.heap.size + 1 + 1, 1, none⟩ = false)
        (first
          | exact ⟨k2, cvx k4, cvx k5, f4, f5⟩
          | (go_split_ands; exact ⟨cell_below (by assumption) (by assumption), cvb (by assumption) (by assumption), cvb (by assumption) (by assumption), frozen_below (by assumption) (by assumption) (by assumption), frozen_below (by assumption) (by assumption) (by assumption)⟩)
          | (go_split_ands; exact ⟨st_far (by assumption) (by simp) (by simp), st_cv (by assumption), st_cv (by assumption), st_fr (by assumption), st_fr (by assumption)⟩))
        (first
          | (go_at_call 41; (with_reducible refine (minus_any _ _ _ (tr ys) (tr xs) ?g1 ?g2 hk.tr hl.tr ?g3 ?g4).mono ?_); (case g1 => exact hv2); (case g2 => exact hv1); (case g3 => exact hle.out); (case g4 => exact hll.out); rintro e w2 ⟨⟨zs, ⟨s3, rfl, hs3⟩, hz1, hz2, hz3⟩, hb2⟩)
          | (go_at_call 38; (with_reducible refine (signed_any _ _ nb zs hs3 hz1).mono ?_); rintro e w3 ⟨⟨v4, rfl, hv4⟩, hb3⟩; obtain ⟨q4, A4, n4, c4, rfl⟩ := hv4.form))
      rename_i hH
      clear hH
      have h3 : Below w1.heap.size w1 w3 := bw_step (bw_step (below_drewN (Below.refl _ w1) _).drew hb2) hb3
      have e4 := cell_below h3 k4
      have e5 := cell_below h3 k5
      have HF := fin_agg (bw_step hB1 h3) (by omega) e4 e5 hv4
      rw [hz3, nv_tr, nv_tr] at HF
      clear k0 k1 k2 k3 k4 k5 f0 f1 f2 f3 f4 f5 hb2 hb3 h3 hv4 hs3
      go_wp2
      refine bodyPost_ret (v := .agg #[.bool q4, .slice A4 n4 c4]) (by simp [results, Try.results14, go_sem, e4, e5]) rfl ?_
      have e : sg na (nv xs) + sg nb (nv ys) = sg nb (nv ys - nv xs) := by have hab := HA.out; revert hab; cases na <;> cases nb <;> simp [sg] <;> omega
      rw [e]; exact HF.out
end Go.Proofs.Ytnjekacagffelaa
