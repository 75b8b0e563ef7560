/- Walks: Sub. -/
import Derived.Test.YtnjekacagffelaaAdd
namespace Go.Proofs.Ytnjekacagffelaa
open Go.RowKit

theorem IntA.neg {w : World} {s : Value} {neg : Bool} {z : Int} {n : Nat} (h : IntA w (.agg #[.bool neg, s]) z n) : IntA w (.agg #[.bool (!neg), s]) (-z) n := by
  obtain ⟨neg', s', xs, h1, h2, h3, h4, rfl⟩ := h
  simp at h1
  obtain ⟨rfl, rfl⟩ := h1
  exact ⟨!neg, s, xs, rfl, h2, h3, h4, by cases neg <;> simp [sg]⟩

theorem sub_any (w : World) (v u : Value) (a b : Int) (n m : Nat) (ha : IntA w v a n) (hb : IntA w u b m) (hn : n < 1099511627776) (hm : m < 1099511627776) :
    Calls Try.prog 16 #[v, u] w fun e w' => RetI w' (a - b) e ∧ Below w.heap.size w w' := by
  obtain ⟨na, s, n1, c1, rfl⟩ := ha.form
  obtain ⟨nb, r, n2, c2, rfl⟩ := hb.form
  obtain ⟨W, hW⟩ : ∃ W, W = ((w.alloc (.cells #[.bool na, .slice s n1 c1] 24)).alloc (.cells #[.bool nb, .slice r n2 c2] 24)).alloc (.cells #[.bool false, .slice none 0 0] 24) := ⟨_, rfl⟩
  have x2 : Bx W (w.heap.size + 1 + 1) (.bool false) (.slice none 0 0) := by rw [hW]; have := Bx.new ((w.alloc (.cells #[.bool na, .slice s n1 c1] 24)).alloc (.cells #[.bool nb, .slice r n2 c2] 24)) (.bool false) (.slice none 0 0) 24; rwa [World.size_alloc, World.size_alloc] at this
  have HB : Below w.heap.size w W := by rw [hW]; exact bw_alloc (bw_alloc (bw_alloc (Below.refl _ _) _) _) _
  have ha' := ha.below HB
  have hb' := (hb.below HB).neg
  go_enter Try.func16, Try.ntmps16
  go_wp2_with fail
  rw [← hW]
  clear hW ha hb
  refine (add_any _ _ _ a (-b) n m ha' hb' hn hm).mono ?_
  rintro e w1 ⟨⟨v, rfl, hv⟩, hb1⟩
  obtain ⟨k0, k1, f0, f1⟩ := x2.below hb1
  obtain ⟨q4, A4, n4, c4, rfl⟩ := hv.form
  have HF := fin_agg (bw_step HB hb1) (by omega) k0 k1 hv
  clear hb1 ha' hb' HB hv
  go_wp2
  refine bodyPost_ret (v := .agg #[.bool q4, .slice A4 n4 c4]) (by simp [results, Try.results16, go_sem, k0, k1]) rfl ?_
  rw [Int.sub_eq_add_neg]; exact HF.out
end Go.Proofs.Ytnjekacagffelaa
