/- The reference: Sub. -/
import Derived.Test.YtdbgalohppfkfaaRAdd
namespace Go.Proofs.Ytdbgalohppfkfaa
open Go.RowKit
set_option linter.unusedVariables false

theorem Sm.neg {n : Nat} {z : Int} (h : Sm n z) : Sm n (-z) := ⟨by have := h.2; omega, by have := h.1; omega⟩

set_option maxHeartbeats 2000000 in
theorem rsub_any (w : World) (v u : Value) (a b : Int) (n m : Nat) (ha : IntA w v a n) (hb : IntA w u b m) (hn : n < 549755813888) (hm : m < 549755813888) :
    Calls Try.prog 56 #[v, u] w fun e w' => RetI w' (a - b) e ∧ Below w.heap.size w w' := by
  obtain ⟨na, s, n1, c1, rfl⟩ := ha.form
  obtain ⟨nb, r, n2, c2, rfl⟩ := hb.form
  obtain ⟨W, hW⟩ : ∃ W, W = ((w.alloc (.cells #[.bool na, .slice s n1 c1] 24)).alloc (.cells #[.bool nb, .slice r n2 c2] 24)).alloc (.cells #[.bool false, .slice none 0 0] 24) := ⟨_, rfl⟩
  have X := Bx.three w (.bool na) (.slice s n1 c1) (.bool nb) (.slice r n2 c2) (.bool false) (.slice none 0 0) 24
  rw [← hW] at X
  obtain ⟨x0, x1, x2⟩ := X
  have HB : Below w.heap.size w W := by rw [hW]; exact bw_alloc (bw_alloc (bw_alloc (Below.refl _ _) _) _) _
  have VA := hid (ha.below HB)
  have VB := hid (hb.below HB)
  have SB := hid (hb.sm.neg)
  have HB := hid HB
  have HZ := hid (show w.heap.size + 1 + 1 < W.heap.size from lt_of_cell x2.1)
  obtain ⟨k0, k1, f0, f1⟩ := id x0
  obtain ⟨k2, k3, f2, f3⟩ := id x1
  obtain ⟨k4, k5, f4, f5⟩ := id x2
  clear ha hb
  go_enter Try.func56, Try.ntmps56
  go_wp2_with fail
  rw [← hW]
  clear hW
  go_region_held3 (fun w' => w'.cell? ⟨w.heap.size, 0, none⟩ = some (.bool na) ∧ w'.cell? ⟨w.heap.size, 1, none⟩ = some (.slice s n1 c1) ∧ w'.cell? ⟨w.heap.size + 1, 0, none⟩ = some (.bool nb) ∧ w'.cell? ⟨w.heap.size + 1, 1, none⟩ = some (.slice r n2 c2) ∧
      w'.cell? ⟨w.heap.size + 1 + 1, 0, none⟩ = some (cv w' ⟨w.heap.size + 1 + 1, 0, none⟩) ∧ w'.cell? ⟨w.heap.size + 1 + 1, 1, none⟩ = some (cv w' ⟨w.heap.size + 1 + 1, 1, none⟩) ∧
      w'.frozen? ⟨w.heap.size + 1 + 1, 0, none⟩ = false ∧ w'.frozen? ⟨w.heap.size + 1 + 1, 1, none⟩ = false)
    (first
      | exact ⟨k0, k1, k2, k3, cvx k4, cvx k5, f4, f5⟩
      | (go_split_ands; exact ⟨cell_below (by assumption) (by assumption), cell_below (by assumption) (by assumption), cell_below (by assumption) (by assumption), cell_below (by assumption) (by assumption), cvb (by assumption) (by assumption), cvb (by assumption) (by assumption), frozen_below (by assumption) (by assumption) (by assumption), frozen_below (by assumption) (by assumption) (by assumption)⟩)
      | (go_split_ands; exact ⟨st_far (by assumption) (by simp) (by simp), st_far (by assumption) (by simp) (by simp), st_far (by assumption) (by simp) (by simp), st_far (by assumption) (by simp) (by simp), st_cv (by assumption), st_cv (by assumption), st_fr (by assumption), st_fr (by assumption)⟩))
    (first
      | (go_at_call 67; (with_reducible refine (rneg_any _ _ b m ?g1).mono ?_); (case g1 => exact VB.out); rintro e w5 ⟨⟨v5, rfl, hv5⟩, hb5⟩)
      | (go_at_call 33; (with_reducible refine (radd_any _ _ _ a (-b) n m ?g2 ?g3 hn hm).mono ?_); (case g2 => exact VA.out.below (bw_step (Below.refl _ W).drew hb5)); (case g3 => exact hv5.arg SB.out); rintro e w6 ⟨⟨v6, rfl, hv6⟩, hb6⟩; obtain ⟨q4, A4, n4, c4, rfl⟩ := hv6.form))
  rename_i hH
  clear hH k0 k1 k2 k3 k4 k5 f0 f1 f2 f3 f4 f5
  have hW6 : Below W.heap.size W w6 := bw_step (bw_step (Below.refl _ W).drew hb5) hb6
  obtain ⟨k4, k5, f4, f5⟩ := x2.below hW6
  have HF := fin_agg (bw_step HB.out hW6) (by omega) k4 k5 hv6
  clear hb5 hb6 hv5 hv6 hW6 x0 x1 x2
  go_wp2
  refine bodyPost_ret (v := .agg #[.bool q4, .slice A4 n4 c4]) (by simp [results, Try.results56, go_sem, k4, k5]) rfl ?_
  rw [Int.sub_eq_add_neg]; exact HF.out
end Go.Proofs.Ytdbgalohppfkfaa
