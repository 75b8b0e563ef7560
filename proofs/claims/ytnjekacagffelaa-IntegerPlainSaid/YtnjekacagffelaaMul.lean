/- Walks: Neg, Mul. -/
import Derived.Test.YtnjekacagffelaaNorm
import Derived.Test.YtnjekacagffelaaTimes
namespace Go.Proofs.Ytnjekacagffelaa
open Go.RowKit
set_option linter.unusedVariables false

theorem neg_any (w : World) (v : Value) (a : Int) (n : Nat) (ha : IntA w v a n) :
    Calls Try.prog 18 #[v] w fun e w' => RetI w' (-a) e ∧ Below w.heap.size w w' := by
  have HA := hid ha
  obtain ⟨na, s, n1, c1, rfl⟩ := ha.form
  obtain ⟨W, hW⟩ : ∃ W, W = (w.alloc (.cells #[.bool na, .slice s n1 c1] 24)).alloc (.cells #[.bool false, .slice none 0 0] 24) := ⟨_, rfl⟩
  have X := Bx.two w (.bool na) (.slice s n1 c1) (.bool false) (.slice none 0 0) 24
  rw [← hW] at X
  obtain ⟨x0, x1⟩ := X
  have HB : Below w.heap.size w W := by rw [hW]; exact bw_alloc (bw_alloc (Below.refl _ _) _) _
  have HA := hid (HA.out.below HB)
  clear ha
  go_enter Try.func18, Try.ntmps18
  go_wp2_with fail
  rw [← hW]
  clear hW
  refine (normalize_any _ _ a n HA.out).mono ?_
  rintro e w1 ⟨⟨u1, rfl, hv1, _⟩, hb1⟩
  obtain ⟨q, r, xs, rfl, hr, hl, hc, hnz, hz⟩ := hv1
  obtain ⟨A1, c1', rfl, hcc, hsl⟩ := id hr
  have HB := hid (bw_step HB hb1)
  obtain ⟨k0, k1, f0, f1⟩ := x0.below hb1
  have x1 := x1.below hb1
  have hr2 := (hr.setCell k0 (fun _ e => by cases e) (.bool q)).setCell (a := ⟨w.heap.size, 1, none⟩) (u := .slice s n1 c1) (by rw [World.cell?_setCell_other (h := by simp)]; exact k1) (fun _ e => by cases e) (.slice A1 xs.length c1')
  have HR := hid hr2
  have HL := hid hl
  have HZ := hid (show sg (!q) (nv xs) = -a by rw [hz]; cases q <;> simp [sg])
  have x1 := (x1.setFar1 (k := w.heap.size) (o := 0) (v := .bool q) (by omega)).setFar1 (k := w.heap.size) (o := 1) (v := .slice A1 xs.length c1') (by omega)
  have HB := hid ((HB.out.setCell (p := ⟨w.heap.size, 0, none⟩) (Nat.le_refl _) (.bool q)).setCell (p := ⟨w.heap.size, 1, none⟩) (Nat.le_refl _) (.slice A1 xs.length c1'))
  have X1 := hid x1
  clear hb1 hr hr2 hl hc hnz hz hsl x1 x0 HA
  go_wp2_with fail
  refine (signed_any _ _ (!q) xs HR.out HL.out).mono ?_
  rintro e w2 ⟨⟨v, rfl, hv⟩, hb2⟩
  rw [HZ.out] at hv
  have HB := hid (bw_step HB.out hb2)
  clear k0 k1 f0 f1
  obtain ⟨k2, k3, f2, f3⟩ := X1.out.below hb2
  obtain ⟨q4, A4, n4, c4, rfl⟩ := hv.form
  have F := hid (fin_any HB.out (g := w.heap.size + 1) (Nat.le_succ _) k2 k3 hv (.bool q4) (.slice A4 n4 c4))
  clear hb2 hv
  go_wp2
  exact bodyPost_ret (v := .agg #[.bool q4, .slice A4 n4 c4]) (by simp [results, Try.results18, go_sem, k2, k3]) rfl ⟨⟨_, rfl, F.out.1⟩, F.out.2⟩

set_option maxHeartbeats 2000000 in
theorem mul_any (w : World) (v u : Value) (a b : Int) (n m : Nat) (ha : IntA w v a n) (hb : IntA w u b m) (hn : n ≤ 274877906944) (hm : m ≤ 274877906944) :
    Calls Try.prog 20 #[v, u] w fun e w' => RetI w' (a * b) e ∧ Below w.heap.size w w' := by
  obtain ⟨na, s, xs, rfl, hs, hl, hxn, rfl⟩ := ha
  obtain ⟨nb, r, ys, rfl, hr, hk, hyn, rfl⟩ := hb
  obtain ⟨W, hW⟩ : ∃ W, W = ((w.alloc (.cells #[.bool na, s] 24)).alloc (.cells #[.bool nb, r] 24)).alloc (.cells #[.bool false, .slice none 0 0] 24) := ⟨_, rfl⟩
  have X := Bx.three w (.bool na) s (.bool nb) r (.bool false) (.slice none 0 0) 24
  rw [← hW] at X
  obtain ⟨x0, x1, x2⟩ := X
  have HB : Below w.heap.size w W := by rw [hW]; exact bw_alloc (bw_alloc (bw_alloc (Below.refl _ _) _) _) _
  have S0 := hid (hs.below HB)
  have R0 := hid (hr.below HB)
  have HB := hid HB
  have HL := hid hl
  have HK := hid hk
  have lx : (tr xs).length ≤ 274877906944 := by rw [tr_length]; have := tl_le xs; omega
  have ly : (tr ys).length ≤ 274877906944 := by rw [tr_length]; have := tl_le ys; omega
  obtain ⟨nn, hnn⟩ : ∃ nn, (!(na == nb)) = nn := ⟨_, rfl⟩
  have HV := hid (show sg nn (nv (tr xs) * nv (tr ys)) = sg na (nv xs) * sg nb (nv ys) by
    rw [nv_tr, nv_tr, ← hnn]
    cases na <;> cases nb <;> simp [sg, Int.neg_mul, Int.mul_neg])
  obtain ⟨k0, k1, f0, f1⟩ := id x0
  obtain ⟨k2, k3, f2, f3⟩ := id x1
  obtain ⟨k4, k5, f4, f5⟩ := id x2
  have X2 := hid x2
  clear hs hr hl hk
  go_enter Try.func20, Try.ntmps20
  go_wp2_with fail
  rw [← hW]
  clear hW
  go_region_held3 (fun w' => w'.cell? ⟨w.heap.size, 0, none⟩ = some (.bool na) ∧ w'.cell? ⟨w.heap.size, 1, none⟩ = some s ∧ w'.cell? ⟨w.heap.size + 1, 0, none⟩ = some (.bool nb) ∧ w'.cell? ⟨w.heap.size + 1, 1, none⟩ = some r ∧
      w'.cell? ⟨w.heap.size + 1 + 1, 0, none⟩ = some (cv w' ⟨w.heap.size + 1 + 1, 0, none⟩) ∧ w'.cell? ⟨w.heap.size + 1 + 1, 1, none⟩ = some (cv w' ⟨w.heap.size + 1 + 1, 1, none⟩) ∧
      w'.frozen? ⟨w.heap.size + 1 + 1, 0, none⟩ = false ∧ w'.frozen? ⟨w.heap.size + 1 + 1, 1, none⟩ = false)
    (first
      | exact ⟨k0, k1, k2, k3, cvx k4, cvx k5, f4, f5⟩
      | (go_split_ands; exact ⟨cell_below (by assumption) (by assumption), cell_below (by assumption) (by assumption), cell_below (by assumption) (by assumption), cell_below (by assumption) (by assumption), cvb (by assumption) (by assumption), cvb (by assumption) (by assumption), frozen_below (by assumption) (by assumption) (by assumption), frozen_below (by assumption) (by assumption) (by assumption)⟩)
      | (go_split_ands; exact ⟨st_far (by assumption) (by simp) (by simp), st_far (by assumption) (by simp) (by simp), st_far (by assumption) (by simp) (by simp), st_far (by assumption) (by simp) (by simp), st_cv (by assumption), st_cv (by assumption), st_fr (by assumption), st_fr (by assumption)⟩))
    (first
      | (go_at_call 37; (with_reducible refine (magnitude_any _ (.agg #[.bool na, s]) s na xs rfl ?g1).mono ?_); (case g1 => first | exact S0.out.drew 1 | exact (S0.out.drew 1).below hb2 ); rintro e w4 ⟨⟨s1, rfl, hc1⟩, hb1⟩)
      | (go_at_call 37; (with_reducible refine (magnitude_any _ (.agg #[.bool nb, r]) r nb ys rfl ?g2).mono ?_); (case g2 => first | exact R0.out.drew 1 | exact (R0.out.drew 1).below hb1); rintro e w4 ⟨⟨s2, rfl, hc2⟩, hb2⟩)
      | (go_at_call 47; (with_reducible refine (times_any _ _ _ (tr xs) (tr ys) ?g3 ?g4 HL.out.tr HK.out.tr lx ly).mono ?_); (case g3 => first | exact hc1 _ (((S0.out.drew 1).below hb1).below hb2) | exact hc1 _ (((S0.out.drew 1).below hb2).below hb1)); (case g4 => first | exact hc2 _ (((R0.out.drew 1).below hb1).below hb2) | exact hc2 _ (((R0.out.drew 1).below hb2).below hb1)); rintro e w5 ⟨⟨zs, ⟨s3, rfl, hs3⟩, hz1, hz2, hz3⟩, hb5⟩)
      | (go_at_call 38; (with_reducible refine (signed_any _ _ nn zs hs3 hz1).mono ?_); rintro e w6 ⟨⟨v6, rfl, hv6⟩, hb6⟩; obtain ⟨q4, A4, n4, c4, rfl⟩ := hv6.form))
  rename_i hH
  clear hH k0 k1 k2 k3 k4 k5 f0 f1 f2 f3 f4 f5 hnn
  have hW6 : Below W.heap.size W w6 := bw_step (bw_step (bw_step (bw_step (Below.refl _ W).drew hb1) hb2) hb5) hb6
  obtain ⟨k4, k5, f4, f5⟩ := X2.out.below hW6
  rw [hz3, HV.out] at hv6
  have HF := fin_agg (bw_step HB.out hW6) (by omega) k4 k5 hv6
  clear hb1 hb2 hb5 hb6 hs3 hv6 hW6 x0 x1 x2 hc1 hc2 hz1 hz2 hz3
  go_wp2
  exact bodyPost_ret (v := .agg #[.bool q4, .slice A4 n4 c4]) (by simp [results, Try.results20, go_sem, k4, k5]) rfl HF.out
end Go.Proofs.Ytnjekacagffelaa
