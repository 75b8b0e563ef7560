/- The reference: Add, Sub. -/
import Derived.Test.YtdbgalohppfkfaaRSum
import Derived.Test.YtdbgalohppfkfaaCmp
namespace Go.Proofs.Ytdbgalohppfkfaa
open Go.RowKit
set_option linter.unusedVariables false

theorem tr_le {xs ys : List Int} (hl : Lb xs) (hk : Lb ys) (h : nv (tr ys) ≤ nv (tr xs)) : (tr ys).length ≤ (tr xs).length := by
  rcases Nat.lt_or_ge (tr xs).length (tr ys).length with h1 | h1
  · have := (Cn.tr ys).lt_of_length hl.tr hk.tr h1; omega
  · exact h1

set_option maxHeartbeats 2000000 in
theorem radd_any (w : World) (v u : Value) (a b : Int) (n m : Nat) (ha : IntA w v a n) (hb : IntA w u b m) (hn : n < 549755813888) (hm : m < 549755813888) :
    Calls Try.prog 33 #[v, u] w fun e w' => RetI w' (a + b) e ∧ Below w.heap.size w w' := by
  obtain ⟨na, s, xs, rfl, hs, hl, hxn, rfl⟩ := ha
  obtain ⟨nb, r, ys, rfl, hr, hk, hyn, rfl⟩ := hb
  obtain ⟨W, hW⟩ : ∃ W, W = ((w.alloc (.cells #[.bool na, s] 24)).alloc (.cells #[.bool nb, r] 24)).alloc (.cells #[.bool false, .slice none 0 0] 24) := ⟨_, rfl⟩
  have X := Bx.three w (.bool na) s (.bool nb) r (.bool false) (.slice none 0 0) 24
  rw [← hW] at X
  obtain ⟨x0, x1, x2⟩ := X
  have HB : Below w.heap.size w W := by rw [hW]; exact bw_alloc (bw_alloc (bw_alloc (Below.refl _ _) _) _) _
  have S0 := hid (hs.below HB)
  have R0 := hid (hr.below HB)
  have HL := hid hl
  have HK := hid hk
  have lx : (tr xs).length < 549755813888 := by rw [tr_length]; have := tl_le xs; omega
  have ly : (tr ys).length < 549755813888 := by rw [tr_length]; have := tl_le ys; omega
  obtain ⟨k0, k1, f0, f1⟩ := id x0
  obtain ⟨k2, k3, f2, f3⟩ := id x1
  clear hs hr hl hk
  go_enter Try.func33, Try.ntmps33
  go_wp2_with fail
  rw [← hW]
  clear hW
  go_region_held3 (fun w' => w'.cell? ⟨w.heap.size, 0, none⟩ = some (.bool na) ∧ w'.cell? ⟨w.heap.size, 1, none⟩ = some s ∧ w'.cell? ⟨w.heap.size + 1, 0, none⟩ = some (.bool nb) ∧ w'.cell? ⟨w.heap.size + 1, 1, none⟩ = some r ∧ Hid (Below W.heap.size W w'))
    (first
      | exact ⟨k0, k1, k2, k3, bw_drew W⟩
      | (go_split_ands; have hh := bw_keep (by assumption) (by assumption); exact ⟨cell_below hh k0, cell_below hh k1, cell_below hh k2, cell_below hh k3, hh⟩))
    (first
      | (go_at_call 52; (with_reducible refine (rtrim_any _ s xs ?hz).mono ?_); (case hz => (go_split_ands; exact S0.out.below (Hid.out (by assumption)))); rintro e w4 ⟨⟨s1, rfl, hr1⟩, hb1⟩; have hc1 := hr1.slv (by omega))
      | (go_at_call 52; (with_reducible refine (rtrim_any _ r ys ?hz).mono ?_); (case hz => (go_split_ands; exact R0.out.below (Hid.out (by assumption)))); rintro e w4 ⟨⟨s2, rfl, hr2⟩, hb2⟩; have hc2 := hr2.slv (by omega)))
  rename_i hH
  have HBW := hH.2.2.2.2
  have hh : Below W.heap.size W w4 := HBW.out
  have y0 := x0.below hh
  have y1 := x1.below hh
  have y2 := x2.below hh
  have hB1 := bw_step HB hh
  have hv1 := hc1.below hb2
  have hv2 := hc2
  clear hH HBW hh k0 k1 f0 f1 k2 k3 f2 f3 x0 x1 x2 HB hr1 hr2 hb1 hb2 hc1 hc2 S0 R0
  obtain ⟨k0, k1, f0, f1⟩ := y0
  obtain ⟨k2, k3, f2, f3⟩ := y1
  obtain ⟨k4, k5, f4, f5⟩ := y2
  by_cases hab : na = nb
  · subst hab
    have hab' : (na == na) = true := by simp
    go_wp2_with fail
    go_region_held3 (fun w' => w'.cell? ⟨w.heap.size, 0, none⟩ = some (.bool na) ∧ w'.cell? ⟨w.heap.size + 1 + 1, 0, none⟩ = some (cv w' ⟨w.heap.size + 1 + 1, 0, none⟩) ∧ w'.cell? ⟨w.heap.size + 1 + 1, 1, none⟩ = some (cv w' ⟨w.heap.size + 1 + 1, 1, none⟩) ∧
        w'.frozen? ⟨w.heap.size + 1 + 1, 0, none⟩ = false ∧ w'.frozen? ⟨w.heap.size + 1 + 1, 1, none⟩ = false)
      (first
        | exact ⟨k0, cvx k4, cvx k5, f4, f5⟩
        | (go_split_ands; exact ⟨cell_below (by assumption) (by assumption), cvb (by assumption) (by assumption), cvb (by assumption) (by assumption), frozen_below (by assumption) (by assumption) (by assumption), frozen_below (by assumption) (by assumption) (by assumption)⟩)
        | (go_split_ands; exact ⟨st_far (by assumption) (by simp) (by simp), st_cv (by assumption), st_cv (by assumption), st_fr (by assumption), st_fr (by assumption)⟩))
      (first
        | (go_at_call 57; (with_reducible refine (rsum_any _ _ _ (tr xs) (tr ys) ?g1 ?g2 HL.out.tr HK.out.tr ?g3 ?g4).mono ?_); (case g1 => exact hv1); (case g2 => exact hv2); (case g3 => omega); (case g4 => omega); rintro e w5 ⟨⟨s3, zs, rfl, hr3, hz1, hz3, hz4⟩, hb5⟩; have hs3 := hr3.slv (by omega))
        | (go_at_call 50; (with_reducible refine (rmake_any _ na _ zs hs3 hz1).mono ?_); rintro e w6 ⟨⟨v4, rfl, hv4⟩, hb6⟩; obtain ⟨q4, A4, n4, c4, rfl⟩ := hv4.form))
    rename_i hH
    clear hH
    have h3 : Below w4.heap.size w4 w6 := bw_step (bw_step (Below.refl _ w4).drew hb5) hb6
    have e4 := cell_below h3 k4
    have e5 := cell_below h3 k5
    have HF := fin_agg (bw_step hB1 h3) (by omega) e4 e5 hv4
    rw [hz3, nv_tr, nv_tr] at HF
    clear k0 k1 k2 k3 k4 k5 f0 f1 f2 f3 f4 f5 hb5 hb6 h3 hv4 hs3
    go_wp2
    refine bodyPost_ret (v := .agg #[.bool q4, .slice A4 n4 c4]) (by simp [results, Try.results33, go_sem, e4, e5]) rfl ?_
    have e : sg na (nv xs) + sg na (nv ys) = sg na (nv xs + nv ys) := by cases na <;> simp [sg]; omega
    rw [e]; exact HF.out
  · have hab' : (na == nb) = false := by simp [hab]
    have HA := hid hab
    by_cases hc : nv (tr ys) ≤ nv (tr xs)
    · have hle := hid hc
      have hll := hid (show (tr ys).length ≤ (tr xs).length by
        rcases Nat.lt_or_ge (tr xs).length (tr ys).length with h | h
        · have := (Cn.tr ys).lt_of_length HL.out.tr HK.out.tr h; omega
        · exact h)
      have hcm : decide (0 ≤ cm (nv (tr xs)) (nv (tr ys))) = true := by unfold cm; split <;> simp <;> (try split) <;> omega
      clear hc hab
      go_wp2_with (go_at_call 49; (with_reducible refine (rcmp_any _ _ _ (tr xs) (tr ys) hv1 hv2 HL.out.tr HK.out.tr (Cn.tr _) (Cn.tr _)).mono ?_); rintro e w' ⟨rfl, ⟨nq, rfl⟩⟩)
      go_region_held3 (fun w' => w'.cell? ⟨w.heap.size, 0, none⟩ = some (.bool na) ∧ w'.cell? ⟨w.heap.size + 1 + 1, 0, none⟩ = some (cv w' ⟨w.heap.size + 1 + 1, 0, none⟩) ∧ w'.cell? ⟨w.heap.size + 1 + 1, 1, none⟩ = some (cv w' ⟨w.heap.size + 1 + 1, 1, none⟩) ∧
          w'.frozen? ⟨w.heap.size + 1 + 1, 0, none⟩ = false ∧ w'.frozen? ⟨w.heap.size + 1 + 1, 1, none⟩ = false)
        (first
          | exact ⟨k0, cvx k4, cvx k5, f4, f5⟩
          | (go_split_ands; exact ⟨cell_below (by assumption) (by assumption), cvb (by assumption) (by assumption), cvb (by assumption) (by assumption), frozen_below (by assumption) (by assumption) (by assumption), frozen_below (by assumption) (by assumption) (by assumption)⟩)
          | (go_split_ands; exact ⟨st_far (by assumption) (by simp) (by simp), st_cv (by assumption), st_cv (by assumption), st_fr (by assumption), st_fr (by assumption)⟩))
        (first
          | (go_at_call 58; (with_reducible refine (rdifference_any _ _ _ (tr xs) (tr ys) ?g1 ?g2 HL.out.tr HK.out.tr ?g3 ?g4 (by omega)).mono ?_); (case g1 => exact hv1); (case g2 => exact hv2); (case g3 => exact hle.out); (case g4 => exact hll.out); rintro e w5 ⟨⟨s3, zs, rfl, hr3, hz1, hz3, hz4⟩, hb5⟩; have hs3 := hr3.slv (by omega))
          | (go_at_call 50; (with_reducible refine (rmake_any _ na _ zs hs3 hz1).mono ?_); rintro e w6 ⟨⟨v4, rfl, hv4⟩, hb6⟩; obtain ⟨q4, A4, n4, c4, rfl⟩ := hv4.form))
      rename_i hH
      clear hH
      have h3 : Below w4.heap.size w4 w6 := bw_step (bw_step (below_drewN (Below.refl _ w4) _).drew hb5) hb6
      have e4 := cell_below h3 k4
      have e5 := cell_below h3 k5
      have HF := fin_agg (bw_step hB1 h3) (by omega) e4 e5 hv4
      rw [hz3, nv_tr, nv_tr] at HF
      clear k0 k1 k2 k3 k4 k5 f0 f1 f2 f3 f4 f5 hb5 hb6 h3 hv4 hs3
      go_wp2
      refine bodyPost_ret (v := .agg #[.bool q4, .slice A4 n4 c4]) (by simp [results, Try.results33, go_sem, e4, e5]) rfl ?_
      have e : sg na (nv xs) + sg nb (nv ys) = sg na (nv xs - nv ys) := by have hab := HA.out; revert hab; cases na <;> cases nb <;> simp [sg] <;> omega
      rw [e]; exact HF.out
    · have hle := hid (show nv (tr xs) ≤ nv (tr ys) by omega)
      have hll := hid (show (tr xs).length ≤ (tr ys).length by
        rcases Nat.lt_or_ge (tr ys).length (tr xs).length with h | h
        · have := (Cn.tr xs).lt_of_length HK.out.tr HL.out.tr h; omega
        · exact h)
      have hcm : decide (0 ≤ cm (nv (tr xs)) (nv (tr ys))) = false := by rw [cm_lt (by omega)]; decide
      clear hc hab
      go_wp2_with (go_at_call 49; (with_reducible refine (rcmp_any _ _ _ (tr xs) (tr ys) hv1 hv2 HL.out.tr HK.out.tr (Cn.tr _) (Cn.tr _)).mono ?_); rintro e w' ⟨rfl, ⟨nq, rfl⟩⟩)
      go_region_held3 (fun w' => w'.cell? ⟨w.heap.size + 1, 0, none⟩ = some (.bool nb) ∧ w'.cell? ⟨w.heap.size + 1 + 1, 0, none⟩ = some (cv w' ⟨w.heap.size + 1 + 1, 0, none⟩) ∧ w'.cell? ⟨w.heap.size + 1 + 1, 1, none⟩ = some (cv w' ⟨w.heap.size + 1 + 1, 1, none⟩) ∧
          w'.frozen? ⟨w.heap.size + 1 + 1, 0, none⟩ = false ∧ w'.frozen? ⟨w.heap.size + 1 + 1, 1, none⟩ = false)
        (first
          | exact ⟨k2, cvx k4, cvx k5, f4, f5⟩
          | (go_split_ands; exact ⟨cell_below (by assumption) (by assumption), cvb (by assumption) (by assumption), cvb (by assumption) (by assumption), frozen_below (by assumption) (by assumption) (by assumption), frozen_below (by assumption) (by assumption) (by assumption)⟩)
          | (go_split_ands; exact ⟨st_far (by assumption) (by simp) (by simp), st_cv (by assumption), st_cv (by assumption), st_fr (by assumption), st_fr (by assumption)⟩))
        (first
          | (go_at_call 58; (with_reducible refine (rdifference_any _ _ _ (tr ys) (tr xs) ?g1 ?g2 HK.out.tr HL.out.tr ?g3 ?g4 (by omega)).mono ?_); (case g1 => exact hv2); (case g2 => exact hv1); (case g3 => exact hle.out); (case g4 => exact hll.out); rintro e w5 ⟨⟨s3, zs, rfl, hr3, hz1, hz3, hz4⟩, hb5⟩; have hs3 := hr3.slv (by omega))
          | (go_at_call 50; (with_reducible refine (rmake_any _ nb _ zs hs3 hz1).mono ?_); rintro e w6 ⟨⟨v4, rfl, hv4⟩, hb6⟩; obtain ⟨q4, A4, n4, c4, rfl⟩ := hv4.form))
      rename_i hH
      clear hH
      have h3 : Below w4.heap.size w4 w6 := bw_step (bw_step (below_drewN (Below.refl _ w4) _).drew hb5) hb6
      have e4 := cell_below h3 k4
      have e5 := cell_below h3 k5
      have HF := fin_agg (bw_step hB1 h3) (by omega) e4 e5 hv4
      rw [hz3, nv_tr, nv_tr] at HF
      clear k0 k1 k2 k3 k4 k5 f0 f1 f2 f3 f4 f5 hb5 hb6 h3 hv4 hs3
      go_wp2
      refine bodyPost_ret (v := .agg #[.bool q4, .slice A4 n4 c4]) (by simp [results, Try.results33, go_sem, e4, e5]) rfl ?_
      have e : sg na (nv xs) + sg nb (nv ys) = sg nb (nv ys - nv xs) := by have hab := HA.out; revert hab; cases na <;> cases nb <;> simp [sg] <;> omega
      rw [e]; exact HF.out
end Go.Proofs.Ytdbgalohppfkfaa
