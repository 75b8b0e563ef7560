/- The reference: DivMod by zero; Rem, Divides. -/
import Derived.Test.YtdbgalohppfkfaaRDivMod
namespace Go.Proofs.Ytdbgalohppfkfaa
open Go.RowKit
set_option linter.unusedVariables false
set_option maxRecDepth 100000

theorem rdivMod_zero (w : World) (v u : Value) (a : Int) (n m : Nat) (ha : IntA w v a n) (hb : IntA w u 0 m) :
    Calls Try.prog 28 #[v, u] w fun e w' => e = .returned (.tuple #[.agg #[.bool false, .slice none 0 0], .agg #[.bool false, .slice none 0 0], .bool false]) ∧ Below w.heap.size w w' := by
  obtain ⟨na, s, xs, rfl, hs, hl, hxn, ea⟩ := ha
  obtain ⟨nb, r, ys, rfl, hr, hk, hyn, eb⟩ := hb
  obtain ⟨As, cs, rfl, hcs, _⟩ := id hs
  obtain ⟨Ar, cr, rfl, hcr, _⟩ := id hr
  have hz : (tr ys).length = 0 := by
    have h0 : nv ys = 0 := by cases nb <;> simp [sg] at eb <;> omega
    rw [(Cn.tr ys).zero hk.tr (by rw [nv_tr]; exact h0)]; rfl
  have hyc : (((tr ys).length : Int) == 0) = true := by rw [beq_iff_eq]; omega
  have hxl : (tr xs).length ≤ 1099511627776 := by rw [tr_length]; have := tl_le xs; have := hs.len; omega
  have hyl : (tr ys).length ≤ 1099511627776 := by omega
  have HXL := hid hxl
  have HYL := hid hyl
  have SX := hid hs
  have SY := hid hr
  clear hs hr hl hk ea eb hz
  have HB := hid (Below.refl w.heap.size w)
  obtain ⟨W, hW⟩ : ∃ W, W = ((((w.alloc (.cells #[.bool na, .slice As xs.length cs] 24)).alloc (.cells #[.bool nb, .slice Ar ys.length cr] 24)).alloc (.cells #[.bool false, .slice none 0 0] 24)).alloc (.cells #[.bool false, .slice none 0 0] 24)) := ⟨_, rfl⟩
  have hbb : Below w.heap.size w W := by rw [hW]; exact (bw_alloc (bw_alloc (bw_alloc (bw_alloc (Below.refl _ _) _) _) _) _)
  have HB := hid (bw_step HB.out hbb)
  have SX := hid (SX.out.below hbb)
  have SY := hid (SY.out.below hbb)
  have P0 : Hid (Blk W (w.heap.size) 24 #[.bool na, .slice As xs.length cs]) := by
    rw [hW]
    have := (((Blk.new w 24 #[.bool na, .slice As xs.length cs]).below (bw_alloc (Below.refl _ _) (.cells #[.bool nb, .slice Ar ys.length cr] 24))).below (bw_alloc (Below.refl _ _) (.cells #[.bool false, .slice none 0 0] 24))).below (bw_alloc (Below.refl _ _) (.cells #[.bool false, .slice none 0 0] 24))
    exact hid (by simpa only [World.size_alloc] using this)
  have P1 : Hid (Blk W (w.heap.size + 1) 24 #[.bool nb, .slice Ar ys.length cr]) := by
    rw [hW]
    have := ((Blk.new (w.alloc (.cells #[.bool na, .slice As xs.length cs] 24)) 24 #[.bool nb, .slice Ar ys.length cr]).below (bw_alloc (Below.refl _ _) (.cells #[.bool false, .slice none 0 0] 24))).below (bw_alloc (Below.refl _ _) (.cells #[.bool false, .slice none 0 0] 24))
    exact hid (by simpa only [World.size_alloc] using this)
  have R0 : Hid (Blk W (w.heap.size + 1 + 1) 24 #[.bool false, .slice none 0 0]) := by
    rw [hW]
    have := (Blk.new ((w.alloc (.cells #[.bool na, .slice As xs.length cs] 24)).alloc (.cells #[.bool nb, .slice Ar ys.length cr] 24)) 24 #[.bool false, .slice none 0 0]).below (bw_alloc (Below.refl _ _) (.cells #[.bool false, .slice none 0 0] 24))
    exact hid (by simpa only [World.size_alloc] using this)
  have R1 : Hid (Blk W (w.heap.size + 1 + 1 + 1) 24 #[.bool false, .slice none 0 0]) := by
    rw [hW]
    have := Blk.new (((w.alloc (.cells #[.bool na, .slice As xs.length cs] 24)).alloc (.cells #[.bool nb, .slice Ar ys.length cr] 24)).alloc (.cells #[.bool false, .slice none 0 0] 24)) 24 #[.bool false, .slice none 0 0]
    exact hid (by simpa only [World.size_alloc] using this)
  clear hbb
  go_enter Try.func28, Try.ntmps28
  go_wp2_with fail
  rw [← hW]
  clear hW
  refine wp_region_each (by kernel_rfl) 8 61 rfl rfl (by kernel_rfl)
    [Fact.eq (.pointer (some ⟨w.heap.size, 1, none⟩)), Fact.eq (.slice As xs.length cs), Fact.slv (tr xs), Fact.eq (.pointer (some ⟨w.heap.size + 1, 1, none⟩)), Fact.eq (.slice Ar ys.length cr), Fact.slv (tr ys), Fact.slv (tr xs), Fact.slv (tr ys)]
    [.val, .val, .val, .val, .val, .val, .val, .val]
    (fun w' => SlV w' (.slice As xs.length cs) xs ∧ SlV w' (.slice Ar ys.length cr) ys ∧ Blk w' (w.heap.size) 24 #[.bool na, .slice As xs.length cs] ∧ Blk w' (w.heap.size + 1) 24 #[.bool nb, .slice Ar ys.length cr] ∧ Blk w' (w.heap.size + 1 + 1) 24 #[.bool false, .slice none 0 0] ∧ Blk w' (w.heap.size + 1 + 1 + 1) 24 #[.bool false, .slice none 0 0] ∧ Below w.heap.size w w')
    (fun _ _ _ => True) [] (fun _ => 0) (by kernel_rfl)
    ⟨SX.out, SY.out, P0.out, P1.out, R0.out, R1.out, HB.out⟩
    (fun w1 w2 ⟨h0, h1, h2, h3, h4, h5, h6⟩ hb => ⟨h0.below hb, h1.below hb, h2.below hb, h3.below hb, h4.below hb, h5.below hb, bw_step h6 hb⟩)
    (fun w1 w2 g ⟨h0, h1, h2, h3, h4, h5, h6⟩ hg hn ho => by
      have hg' : W.heap.size ≤ g := hg.elim id (fun ⟨_, h, _⟩ => absurd h (Nat.not_lt_zero _))
      exact ⟨h0.only hn ho, h1.only hn ho, h2.only ho (by have := P0.out.lt; have := P1.out.lt; have := R0.out.lt; have := R1.out.lt; omega), h3.only ho (by have := P0.out.lt; have := P1.out.lt; have := R0.out.lt; have := R1.out.lt; omega), h4.only ho (by have := P0.out.lt; have := P1.out.lt; have := R0.out.lt; have := R1.out.lt; omega), h5.only ho (by have := P0.out.lt; have := P1.out.lt; have := R0.out.lt; have := R1.out.lt; omega), below_only h6 ho (by have := P0.out.lt; have := P1.out.lt; have := R0.out.lt; have := R1.out.lt; have := HB.out.size; omega)⟩)
    (fun l h => trivial) (fun l b w1 w2 h _ _ => trivial) (fun l b w1 w2 g h _ _ _ _ => trivial) (fun l h => by cases h) (fun l k h => by cases h) ?_ ?_
  · refine ⟨?_, ?_, ?_, ?_, ?_, ?_, ?_, ?_, trivial⟩ <;> intro L V a1 w1 hf hG hsz hφ hψ hL hdep hcl
    · obtain ⟨SX_, SY_, P0_, P1_, R0_, R1_, HB_⟩ := hG
      have e2 := old_slot hf 2 (by kernel_rfl)
      exact ob_pure (ex_fieldAddr 1 (by decide) rfl e2) rfl
    · obtain ⟨SX_, SY_, P0_, P1_, R0_, R1_, HB_⟩ := hG
      have d0 := dep_of hdep 0 (by kernel_rfl)
      have e13 := (new_slot hf 0 13 d0 (by kernel_rfl)).trans (show V 0 = .pointer (some ⟨w.heap.size, 1, none⟩) from hφ 0 d0)
      exact ob_pure (ex_load_mag rfl e13 P0_) rfl
    · obtain ⟨SX_, SY_, P0_, P1_, R0_, R1_, HB_⟩ := hG
      have d1 := dep_of hdep 1 (by kernel_rfl)
      have e14 := (new_slot hf 1 14 d1 (by kernel_rfl)).trans (show V 1 = .slice As xs.length cs from hφ 1 d1)
      refine ob_go rfl (vs := #[.slice As xs.length cs]) (by simp only [List.map_toArray, List.map_cons, List.map_nil, e14]) (by kernel_rfl) (rtrim_any _ _ xs SX_) ?_
      rintro e w2 ⟨⟨v, rfl, hv⟩, hb⟩
      exact ⟨v, rfl, hb, hv.slv HXL.out⟩
    · obtain ⟨SX_, SY_, P0_, P1_, R0_, R1_, HB_⟩ := hG
      have e3 := old_slot hf 3 (by kernel_rfl)
      exact ob_pure (ex_fieldAddr 1 (by decide) rfl e3) rfl
    · obtain ⟨SX_, SY_, P0_, P1_, R0_, R1_, HB_⟩ := hG
      have d3 := dep_of hdep 3 (by kernel_rfl)
      have e16 := (new_slot hf 3 16 d3 (by kernel_rfl)).trans (show V 3 = .pointer (some ⟨w.heap.size + 1, 1, none⟩) from hφ 3 d3)
      exact ob_pure (ex_load_mag rfl e16 P1_) rfl
    · obtain ⟨SX_, SY_, P0_, P1_, R0_, R1_, HB_⟩ := hG
      have d4 := dep_of hdep 4 (by kernel_rfl)
      have e17 := (new_slot hf 4 17 d4 (by kernel_rfl)).trans (show V 4 = .slice Ar ys.length cr from hφ 4 d4)
      refine ob_go rfl (vs := #[.slice Ar ys.length cr]) (by simp only [List.map_toArray, List.map_cons, List.map_nil, e17]) (by kernel_rfl) (rtrim_any _ _ ys SY_) ?_
      rintro e w2 ⟨⟨v, rfl, hv⟩, hb⟩
      exact ⟨v, rfl, hb, hv.slv HYL.out⟩
    · obtain ⟨SX_, SY_, P0_, P1_, R0_, R1_, HB_⟩ := hG
      have d2 := dep_of hdep 2 (by kernel_rfl)
      have e15 := new_slot hf 2 15 d2 (by kernel_rfl)
      have p15 : SlV w1 (V 2) (tr xs) := hφ 2 d2
      exact ob_pure (ex_assignV rfl e15) (by exact p15)
    · obtain ⟨SX_, SY_, P0_, P1_, R0_, R1_, HB_⟩ := hG
      have d5 := dep_of hdep 5 (by kernel_rfl)
      have e18 := new_slot hf 5 18 d5 (by kernel_rfl)
      have p18 : SlV w1 (V 5) (tr ys) := hφ 5 d5
      exact ob_pure (ex_assignV rfl e18) (by exact p18)
  · intro V W1 hG hsz1 hφ hψ hne
    have hlt1 : W.heap.size ≤ W1.heap.size := hsz1
    obtain ⟨SX_, SY_, P0_, P1_, R0_, R1_, HB_⟩ := hG
    have SX := hid SX_
    have SY := hid SY_
    have P0 := hid P0_
    have P1 := hid P1_
    have R0 := hid R0_
    have R1 := hid R1_
    have HB := hid HB_
    have y0 : V 0 = .pointer (some ⟨w.heap.size, 1, none⟩) := hφ 0 (by decide)
    have y1 : V 1 = .slice As xs.length cs := hφ 1 (by decide)
    have y3 : V 3 = .pointer (some ⟨w.heap.size + 1, 1, none⟩) := hφ 3 (by decide)
    have y4 : V 4 = .slice Ar ys.length cr := hφ 4 (by decide)
    have hs6 : SlV W1 (V 6) (tr xs) := hφ 6 (by decide)
    obtain ⟨A106, c106, y6, hc106, _⟩ := id hs6
    have TX : Hid (SlV W1 (.slice A106 (tr xs).length c106) (tr xs)) := hid (by rw [← y6]; exact hs6)
    clear hs6
    have hs7 : SlV W1 (V 7) (tr ys) := hφ 7 (by decide)
    obtain ⟨A107, c107, y7, hc107, _⟩ := id hs7
    have TY : Hid (SlV W1 (.slice A107 (tr ys).length c107) (tr ys)) := hid (by rw [← y7]; exact hs7)
    clear hs7
    simp only [puts, Act.put, List.setIfInBounds_toArray, List.set_cons_zero, List.set_cons_succ, y0, y1, y3, y4, y6, y7]
    clear hφ hψ hne y0 y1 y3 y4 y6 y7 SX_ SY_ P0_ P1_ R0_ R1_ HB_ hsz1
    obtain ⟨k2, l2, f2, g2⟩ := id R0.out.bx
    obtain ⟨k3, l3, f3, g3⟩ := id R1.out.bx
    go_wp2
    refine bodyPost_ret (v := .tuple #[.agg #[.bool false, .slice none 0 0], .agg #[.bool false, .slice none 0 0], .bool false]) (by simp [results, Try.results28, go_sem, k2, l2, k3, l3]) rfl ⟨rfl, ?_⟩
    exact ((((HB.out.setCell (show w.heap.size ≤ w.heap.size + 1 + 1 by omega) _).setCell (show w.heap.size ≤ w.heap.size + 1 + 1 by omega) _).setCell (show w.heap.size ≤ w.heap.size + 1 + 1 + 1 by omega) _).setCell (show w.heap.size ≤ w.heap.size + 1 + 1 + 1 by omega) _)

theorem rdivMod_zero' (w : World) (v u : Value) (a : Int) (n m : Nat) (ha : IntA w v a n) (hb : IntA w u 0 m) :
    Calls Try.prog 28 #[v, u] w fun e w' => (∃ v1 v2, e = .returned (.tuple #[v1, v2, .bool false]) ∧ IntV w' v1 0 ∧ IntV w' v2 0) ∧ Below w.heap.size w w' :=
  (rdivMod_zero w v u a n m ha hb).mono fun e w' ⟨he, h⟩ => ⟨⟨_, _, he, IntV.zero _, IntV.zero _⟩, h⟩

theorem rrem_any (w : World) (v u : Value) (a b : Int) (N : Nat) (hN : N ≤ 1000000) (ha : IntA w v a N) (hb : IntA w u b N) (hb0 : b ≠ 0) :
    Calls Try.prog 37 #[v, u] w fun e w' => RetI w' (a % b) e ∧ Below w.heap.size w w' := by
  obtain ⟨na, As, sn, cs, rfl⟩ := ha.form
  obtain ⟨nb, Ar, rn, cr, rfl⟩ := hb.form
  have FA := hid ha
  have FB := hid hb
  clear ha hb
  have HB := hid (Below.refl w.heap.size w)
  obtain ⟨W, hW⟩ : ∃ W, W = (((w.alloc (.cells #[.bool na, .slice As sn cs] 24)).alloc (.cells #[.bool nb, .slice Ar rn cr] 24)).alloc (.cells #[.bool false, .slice none 0 0] 24)) := ⟨_, rfl⟩
  have hbb : Below w.heap.size w W := by rw [hW]; exact (bw_alloc (bw_alloc (bw_alloc (Below.refl _ _) _) _) _)
  have HB := hid (bw_step HB.out hbb)
  have FA := hid (FA.out.below hbb)
  have FB := hid (FB.out.below hbb)
  have P0 : Hid (Blk W (w.heap.size) 24 #[.bool na, .slice As sn cs]) := by
    rw [hW]
    have := ((Blk.new w 24 #[.bool na, .slice As sn cs]).below (bw_alloc (Below.refl _ _) (.cells #[.bool nb, .slice Ar rn cr] 24))).below (bw_alloc (Below.refl _ _) (.cells #[.bool false, .slice none 0 0] 24))
    exact hid (by simpa only [World.size_alloc] using this)
  have P1 : Hid (Blk W (w.heap.size + 1) 24 #[.bool nb, .slice Ar rn cr]) := by
    rw [hW]
    have := (Blk.new (w.alloc (.cells #[.bool na, .slice As sn cs] 24)) 24 #[.bool nb, .slice Ar rn cr]).below (bw_alloc (Below.refl _ _) (.cells #[.bool false, .slice none 0 0] 24))
    exact hid (by simpa only [World.size_alloc] using this)
  have R0 : Hid (Blk W (w.heap.size + 1 + 1) 24 #[.bool false, .slice none 0 0]) := by
    rw [hW]
    have := Blk.new ((w.alloc (.cells #[.bool na, .slice As sn cs] 24)).alloc (.cells #[.bool nb, .slice Ar rn cr] 24)) 24 #[.bool false, .slice none 0 0]
    exact hid (by simpa only [World.size_alloc] using this)
  clear hbb
  obtain ⟨k1, l1, f1, g1⟩ := id P0.out.bx
  obtain ⟨k2, l2, f2, g2⟩ := id P1.out.bx
  go_enter Try.func37, Try.ntmps37
  go_wp2_with fail
  rw [← hW]
  clear hW
  refine (rdivMod_any _ _ _ a b N hN FA.out FB.out hb0).mono ?_
  rintro e W3 ⟨⟨u1, u2, rfl, hu1, hu2⟩, hb3⟩
  clear k1 l1 f1 g1 k2 l2 f2 g2
  have HB := hid (bw_step HB.out hb3)
  have FA := hid (FA.out.below hb3)
  have FB := hid (FB.out.below hb3)
  have P0 := hid (P0.out.below hb3)
  have P1 := hid (P1.out.below hb3)
  have R0 := hid (R0.out.below hb3)
  clear hb3
  obtain ⟨q1, A1, n1, c1, rfl⟩ := hu1.form
  obtain ⟨q2, A2, n2, c2, rfl⟩ := hu2.form
  have U2 := hid hu2
  clear hu1 hu2
  have hb1 := bw_two W3 (.cells #[.bool q1, .slice A1 n1 c1] 24) (.cells #[.bool q2, .slice A2 n2 c2] 24)
  have x0 := R0.out.bx.below hb1
  have F := hid (fin_any (HB.out.trans (hb1.mono HB.out.size)) (g := w.heap.size + 1 + 1) (by omega) x0.1 x0.2.1 (U2.out.below hb1) (.bool q2) (.slice A2 n2 c2))
  clear hb1
  obtain ⟨k5, k6, f5, f6⟩ := id x0
  go_wp2
  exact bodyPost_ret (v := .agg #[.bool q2, .slice A2 n2 c2]) (by simp [results, Try.results37, go_sem, k5, k6]) rfl ⟨⟨_, rfl, F.out.1⟩, F.out.2⟩

end Go.Proofs.Ytdbgalohppfkfaa
