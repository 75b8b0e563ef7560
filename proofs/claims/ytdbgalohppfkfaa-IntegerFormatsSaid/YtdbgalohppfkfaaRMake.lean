/- The reference: Make, Normalize, Neg, Abs. -/
import Derived.Test.YtdbgalohppfkfaaRCmp
import Derived.Test.YtdbgalohppfkfaaNorm
namespace Go.Proofs.Ytdbgalohppfkfaa
open Go.RowKit
set_option linter.unusedVariables false

theorem rmake_any (w : World) (neg : Bool) (s : Value) (xs : List Int) (hs : SlV w s xs) (hl : Lb xs) :
    Calls Try.prog 50 #[.bool neg, s] w fun e w' => RetI w' (sg neg (nv xs)) e ∧ Below w.heap.size w w' := by
  have x0 := Bx.new w (.bool false) (.slice none 0 0) 24
  have hb := bw_alloc (Below.refl _ w) (.cells #[.bool false, .slice none 0 0] 24)
  have S0 := hid (hs.below hb)
  have HL := hid hl
  clear hs hl
  go_enter Try.func50, Try.ntmps50
  go_wp2_with fail
  refine (rtrim_any _ _ xs S0.out).mono ?_
  rintro e w1 ⟨⟨s1, rfl, hr⟩, hb1⟩
  have HB := hid (bw_step hb hb1)
  obtain ⟨k0, k1, f0, f1⟩ := x0.below hb1
  have hsl := S0.out.len
  have V := hid (hr.slv (by rw [tr_length]; have := tl_le xs; omega))
  obtain ⟨A1, c1, rfl⟩ := hr.len
  clear hb hb1 x0 hr hsl S0
  by_cases h0 : (tr xs).length = 0
  · have hz : nv xs = 0 := by rw [← nv_tr, List.eq_nil_of_length_eq_zero h0]; rfl
    have V2 := hid (show IntV w1 (.agg #[.bool false, .slice A1 (tr xs).length c1]) (sg neg (nv xs)) from ⟨false, _, tr xs, rfl, V.out, HL.out.tr, Cn.tr _, (fun h => by cases h), by rw [nv_tr, hz]; cases neg <;> rfl⟩)
    have F := hid (fin_any HB.out (g := w.heap.size) (Nat.le_refl _) k0 k1 V2.out (.bool false) (.slice A1 (tr xs).length c1))
    have d1 : ¬ 0 < (tr xs).length := by omega
    clear hz h0
    cases neg <;>
    · go_wp2
      exact bodyPost_ret (v := .agg #[.bool false, .slice A1 (tr xs).length c1]) (by simp [results, Try.results50, go_sem, k0, k1]) rfl ⟨⟨_, rfl, F.out.1⟩, F.out.2⟩
  · have V2 := hid (show IntV w1 (.agg #[.bool neg, .slice A1 (tr xs).length c1]) (sg neg (nv xs)) from ⟨neg, _, tr xs, rfl, V.out, HL.out.tr, Cn.tr _, (fun _ e => h0 (by rw [e]; rfl)), by rw [nv_tr]⟩)
    have F := hid (fin_any HB.out (g := w.heap.size) (Nat.le_refl _) k0 k1 V2.out (.bool neg) (.slice A1 (tr xs).length c1))
    have d1 : 0 < (tr xs).length := by omega
    clear h0
    cases neg <;>
    · go_wp2
      exact bodyPost_ret (by simp [results, Try.results50, go_sem, k0, k1]) rfl ⟨⟨_, rfl, F.out.1⟩, F.out.2⟩

theorem rnormalize_any (w : World) (v : Value) (a : Int) (n : Nat) (ha : IntA w v a n) :
    Calls Try.prog 24 #[v] w fun e w' => RetI w' (a) e ∧ Below w.heap.size w w' := by
  obtain ⟨na, s, xs, rfl, hs, hl, hxn, rfl⟩ := ha
  obtain ⟨W, hW⟩ : ∃ W, W = (w.alloc (.cells #[.bool na, s] 24)).alloc (.cells #[.bool false, .slice none 0 0] 24) := ⟨_, rfl⟩
  have X := Bx.two w (.bool na) s (.bool false) (.slice none 0 0) 24
  rw [← hW] at X
  obtain ⟨x0, x1⟩ := X
  have HB : Below w.heap.size w W := by rw [hW]; exact bw_alloc (bw_alloc (Below.refl _ _) _) _
  have S0 := hid (hs.below HB)
  have HL := hid hl
  clear hl hs
  obtain ⟨k0, k1, f0, f1⟩ := id x0
  go_enter Try.func24, Try.ntmps24
  go_wp2_with fail
  rw [← hW]
  clear hW
  refine (rmake_any _ na s xs S0.out HL.out).mono ?_
  rintro e w1 ⟨⟨v1, rfl, hv1⟩, hb1⟩
  have HB := hid (bw_step HB hb1)
  obtain ⟨k2, k3, f2, f3⟩ := x1.below hb1
  obtain ⟨q, A, m, c, rfl⟩ := hv1.form
  have F := hid (fin_any HB.out (g := w.heap.size + 1) (Nat.le_succ _) k2 k3 hv1 (.bool q) (.slice A m c))
  clear hb1 hv1 x0 x1 k0 k1 f0 f1
  go_wp2
  exact bodyPost_ret (v := .agg #[.bool q, .slice A m c]) (by simp [results, Try.results24, go_sem, k2, k3]) rfl ⟨⟨_, rfl, F.out.1⟩, F.out.2⟩

theorem rneg_any (w : World) (v : Value) (a : Int) (n : Nat) (ha : IntA w v a n) :
    Calls Try.prog 67 #[v] w fun e w' => RetI w' (-a) e ∧ Below w.heap.size w w' := by
  obtain ⟨na, s, xs, rfl, hs, hl, hxn, rfl⟩ := ha
  obtain ⟨W, hW⟩ : ∃ W, W = (w.alloc (.cells #[.bool na, s] 24)).alloc (.cells #[.bool false, .slice none 0 0] 24) := ⟨_, rfl⟩
  have X := Bx.two w (.bool na) s (.bool false) (.slice none 0 0) 24
  rw [← hW] at X
  obtain ⟨x0, x1⟩ := X
  have HB : Below w.heap.size w W := by rw [hW]; exact bw_alloc (bw_alloc (Below.refl _ _) _) _
  have S0 := hid (hs.below HB)
  have HL := hid hl
  have E := hid (show sg (!na) (nv xs) = -sg na (nv xs) from by (cases na <;> simp [sg]))
  clear hl hs
  obtain ⟨k0, k1, f0, f1⟩ := id x0
  go_enter Try.func67, Try.ntmps67
  go_wp2_with fail
  rw [← hW]
  clear hW
  refine (rmake_any _ (!na) s xs S0.out HL.out).mono ?_
  rintro e w1 ⟨⟨v1, rfl, hv1⟩, hb1⟩
  have HB := hid (bw_step HB hb1)
  obtain ⟨k2, k3, f2, f3⟩ := x1.below hb1
  obtain ⟨q, A, m, c, rfl⟩ := hv1.form
  rw [E.out] at hv1
  have F := hid (fin_any HB.out (g := w.heap.size + 1) (Nat.le_succ _) k2 k3 hv1 (.bool q) (.slice A m c))
  clear hb1 hv1 x0 x1 k0 k1 f0 f1
  go_wp2
  exact bodyPost_ret (v := .agg #[.bool q, .slice A m c]) (by simp [results, Try.results67, go_sem, k2, k3]) rfl ⟨⟨_, rfl, F.out.1⟩, F.out.2⟩

end Go.Proofs.Ytdbgalohppfkfaa
