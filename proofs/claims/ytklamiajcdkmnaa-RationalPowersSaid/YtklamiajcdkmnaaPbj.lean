/- A part of the proof of the laws of rationals: RDivMod, RDivZero, RGcd. -/
import Derived.Test.YtklamiajcdkmnaaPam
import Derived.Test.YtklamiajcdkmnaaPbh
import Derived.Test.YtklamiajcdkmnaaPae
import Derived.Test.YtklamiajcdkmnaaPab
import Derived.Test.YtklamiajcdkmnaaPad
import Derived.Test.YtklamiajcdkmnaaPal
import Derived.Test.YtklamiajcdkmnaaPbb
import Derived.Test.YtklamiajcdkmnaaPac
import Derived.Test.YtklamiajcdkmnaaPat
import Derived.Test.YtklamiajcdkmnaaPba
import Derived.Test.YtklamiajcdkmnaaPaa
import Derived.Test.YtklamiajcdkmnaaPai
import Derived.Test.YtklamiajcdkmnaaPas
import Derived.Test.YtklamiajcdkmnaaPbf
import Derived.Test.YtklamiajcdkmnaaPbg
import Derived.Test.YtklamiajcdkmnaaPbd
import Derived.Test.YtklamiajcdkmnaaPau
import Derived.Test.YtklamiajcdkmnaaPbi
import Derived.Test.YtklamiajcdkmnaaPbe
import Derived.Test.YtklamiajcdkmnaaPar
import Derived.Test.YtklamiajcdkmnaaPav
import Derived.Test.YtklamiajcdkmnaaPak
namespace Go.Proofs.Ytklamiajcdkmnaa
open Go.RowKit
set_option linter.unusedVariables false
set_option maxRecDepth 100000

set_option maxHeartbeats 8000000 in
theorem rdivMod_any (w : World) (v u : Value) (a b : Int) (N : Nat) (hN : N ≤ 1000000) (ha : IntA w v a N) (hb : IntA w u b N) (hb0 : b ≠ 0) :
    Calls Try.prog 82 #[v, u] w fun e w' => RetQI w' a b e ∧ Below w.heap.size w w' := by
  obtain ⟨na, s, xs, rfl, hs, hl, hxn, ea⟩ := ha
  obtain ⟨nb, r, ys, rfl, hr, hk, hyn, eb⟩ := hb
  obtain ⟨As, cs, rfl, hcs, _⟩ := id hs
  obtain ⟨Ar, cr, rfl, hcr, _⟩ := id hr
  have hy0 : 0 < nv ys := by
    have := nv_nonneg hk
    rcases (show nv ys = 0 ∨ 0 < nv ys by omega) with h | h
    · exact absurd (show b = 0 by rw [eb, h]; cases nb <;> rfl) hb0
    · exact h
  have hb1 := hid (show IntA w (.agg #[.bool nb, .slice Ar ys.length cr]) b N from ⟨nb, _, ys, rfl, hr, hk, hyn, eb⟩)
  have HL := hid hl
  have HK := hid hk
  have Y0 := hid hy0
  have EA := hid ea
  have EB := hid eb
  have hxl : (tr xs).length ≤ N := by rw [tr_length]; have := tl_le xs; omega
  have hyl : (tr ys).length ≤ N := by rw [tr_length]; have := tl_le ys; omega
  have HXL := hid hxl
  have HYL := hid hyl
  have hyp : (tr ys).length ≠ 0 := fun e => by
    have := nv_tr ys
    rw [List.eq_nil_of_length_eq_zero e, nv_nil] at this
    omega
  have hyc : (((tr ys).length : Int) == 0) = false := by rw [beq_eq_false_iff_ne]; omega
  have SX := hid hs
  have SY := hid hr
  clear hs hr hl hk hy0 ea eb hb0
  have HB := hid (Below.refl w.heap.size w)
  obtain ⟨W, hW⟩ : ∃ W, W = ((((w.alloc (.cells #[.bool na, .slice As xs.length cs] 24)).alloc (.cells #[.bool nb, .slice Ar ys.length cr] 24)).alloc (.cells #[.bool false, .slice none 0 0] 24)).alloc (.cells #[.bool false, .slice none 0 0] 24)) := ⟨_, rfl⟩
  have hbb : Below w.heap.size w W := by rw [hW]; exact (bw_alloc (bw_alloc (bw_alloc (bw_alloc (Below.refl _ _) _) _) _) _)
  have HB := hid (bw_step HB.out hbb)
  have SX := hid (SX.out.below hbb)
  have SY := hid (SY.out.below hbb)
  have hb1 := hid (hb1.out.below hbb)
  have P0 : Hid (Blk W (w.heap.size) 24 #[.bool na, .slice As xs.length cs]) := by
    rw [hW]
    have := (((Blk.new w 24 #[.bool na, .slice As xs.length cs]).below (bw_alloc (Below.refl _ _) (.cells #[.bool nb, .slice Ar ys.length cr] 24))).below (bw_alloc (Below.refl _ _) (.cells #[.bool false, .slice none 0 0] 24))).below (bw_alloc (Below.refl _ _) (.cells #[.bool false, .slice none 0 0] 24))
    exact hid (by simpa only [World.size_alloc] using this)
  have P1 : Hid (Blk W (w.heap.size + 1) 24 #[.bool nb, .slice Ar ys.length cr]) := by
    rw [hW]
    have := ((Blk.new (w.alloc (.cells #[.bool na, .slice As xs.length cs] 24)) 24 #[.bool nb, .slice Ar ys.length cr]).below (bw_alloc (Below.refl _ _) (.cells #[.bool false, .slice none 0 0] 24))).below (bw_alloc (Below.refl _ _) (.cells #[.bool false, .slice none 0 0] 24))
    exact hid (by simpa only [World.size_alloc] using this)
  have R0 : Hid (Blk W (w.heap.size + 1 + 1) 24 #[.bool false, .slice none 0 0]) := by
    rw [hW]
    have := (Blk.new ((w.alloc (.cells #[.bool na, .slice As xs.length cs] 24)).alloc (.cells #[.bool nb, .slice Ar ys.length cr] 24)) 24 #[.bool false, .slice none 0 0]).below (bw_alloc (Below.refl _ _) (.cells #[.bool false, .slice none 0 0] 24))
    exact hid (by simpa only [World.size_alloc] using this)
  have R1 : Hid (Blk W (w.heap.size + 1 + 1 + 1) 24 #[.bool false, .slice none 0 0]) := by
    rw [hW]
    have := Blk.new (((w.alloc (.cells #[.bool na, .slice As xs.length cs] 24)).alloc (.cells #[.bool nb, .slice Ar ys.length cr] 24)).alloc (.cells #[.bool false, .slice none 0 0] 24)) 24 #[.bool false, .slice none 0 0]
    exact hid (by simpa only [World.size_alloc] using this)
  clear hbb
  go_enter Try.func82, Try.ntmps82
  go_wp2_with fail
  rw [← hW]
  clear hW
  refine wp_region_each (by kernel_rfl) 8 61 rfl rfl (by kernel_rfl)
    [Fact.eq (.pointer (some ⟨w.heap.size, 1, none⟩)), Fact.eq (.slice As xs.length cs), Fact.slv (tr xs), Fact.eq (.pointer (some ⟨w.heap.size + 1, 1, none⟩)), Fact.eq (.slice Ar ys.length cr), Fact.slv (tr ys), Fact.slv (tr xs), Fact.slv (tr ys)]
    [.val, .val, .val, .val, .val, .val, .val, .val]
    (fun w' => SlV w' (.slice As xs.length cs) xs ∧ SlV w' (.slice Ar ys.length cr) ys ∧ IntA w' (.agg #[.bool nb, .slice Ar ys.length cr]) (b) N ∧ Blk w' (w.heap.size) 24 #[.bool na, .slice As xs.length cs] ∧ Blk w' (w.heap.size + 1) 24 #[.bool nb, .slice Ar ys.length cr] ∧ Blk w' (w.heap.size + 1 + 1) 24 #[.bool false, .slice none 0 0] ∧ Blk w' (w.heap.size + 1 + 1 + 1) 24 #[.bool false, .slice none 0 0] ∧ Below w.heap.size w w')
    (fun _ _ _ => True) [] (fun _ => 0) (by kernel_rfl)
    ⟨SX.out, SY.out, hb1.out, P0.out, P1.out, R0.out, R1.out, HB.out⟩
    (fun w1 w2 ⟨h0, h1, h2, h3, h4, h5, h6, h7⟩ hb => ⟨h0.below hb, h1.below hb, h2.below hb, h3.below hb, h4.below hb, h5.below hb, h6.below hb, bw_step h7 hb⟩)
    (fun w1 w2 g ⟨h0, h1, h2, h3, h4, h5, h6, h7⟩ hg hn ho => by
      have hg' : W.heap.size ≤ g := hg.elim id (fun ⟨_, h, _⟩ => absurd h (Nat.not_lt_zero _))
      exact ⟨h0.only hn ho, h1.only hn ho, h2.only hn ho, h3.only ho (by have := P0.out.lt; have := P1.out.lt; have := R0.out.lt; have := R1.out.lt; omega), h4.only ho (by have := P0.out.lt; have := P1.out.lt; have := R0.out.lt; have := R1.out.lt; omega), h5.only ho (by have := P0.out.lt; have := P1.out.lt; have := R0.out.lt; have := R1.out.lt; omega), h6.only ho (by have := P0.out.lt; have := P1.out.lt; have := R0.out.lt; have := R1.out.lt; omega), below_only h7 ho (by have := P0.out.lt; have := P1.out.lt; have := R0.out.lt; have := R1.out.lt; have := HB.out.size; omega)⟩)
    (fun l h => trivial) (fun l b w1 w2 h _ _ => trivial) (fun l b w1 w2 g h _ _ _ _ => trivial) (fun l h => by cases h) (fun l k h => by cases h) ?_ ?_
  · refine ⟨?_, ?_, ?_, ?_, ?_, ?_, ?_, ?_, trivial⟩ <;> intro L V a1 w1 hf hG hsz hφ hψ hL hdep hcl
    · obtain ⟨SX_, SY_, hb1_, P0_, P1_, R0_, R1_, HB_⟩ := hG
      have e2 := old_slot hf 2 (by kernel_rfl)
      exact ob_pure (ex_fieldAddr 1 (by decide) rfl e2) rfl
    · obtain ⟨SX_, SY_, hb1_, P0_, P1_, R0_, R1_, HB_⟩ := hG
      have d0 := dep_of hdep 0 (by kernel_rfl)
      have e13 := (new_slot hf 0 13 d0 (by kernel_rfl)).trans (show V 0 = .pointer (some ⟨w.heap.size, 1, none⟩) from hφ 0 d0)
      exact ob_pure (ex_load_mag rfl e13 P0_) rfl
    · obtain ⟨SX_, SY_, hb1_, P0_, P1_, R0_, R1_, HB_⟩ := hG
      have d1 := dep_of hdep 1 (by kernel_rfl)
      have e14 := (new_slot hf 1 14 d1 (by kernel_rfl)).trans (show V 1 = .slice As xs.length cs from hφ 1 d1)
      refine ob_go rfl (vs := #[.slice As xs.length cs]) (by simp only [List.map_toArray, List.map_cons, List.map_nil, e14]) (by kernel_rfl) (rtrim_any _ _ xs SX_) ?_
      rintro e w2 ⟨⟨v, rfl, hv⟩, hb⟩
      exact ⟨v, rfl, hb, hv.slv (by have := HXL.out; omega)⟩
    · obtain ⟨SX_, SY_, hb1_, P0_, P1_, R0_, R1_, HB_⟩ := hG
      have e3 := old_slot hf 3 (by kernel_rfl)
      exact ob_pure (ex_fieldAddr 1 (by decide) rfl e3) rfl
    · obtain ⟨SX_, SY_, hb1_, P0_, P1_, R0_, R1_, HB_⟩ := hG
      have d3 := dep_of hdep 3 (by kernel_rfl)
      have e16 := (new_slot hf 3 16 d3 (by kernel_rfl)).trans (show V 3 = .pointer (some ⟨w.heap.size + 1, 1, none⟩) from hφ 3 d3)
      exact ob_pure (ex_load_mag rfl e16 P1_) rfl
    · obtain ⟨SX_, SY_, hb1_, P0_, P1_, R0_, R1_, HB_⟩ := hG
      have d4 := dep_of hdep 4 (by kernel_rfl)
      have e17 := (new_slot hf 4 17 d4 (by kernel_rfl)).trans (show V 4 = .slice Ar ys.length cr from hφ 4 d4)
      refine ob_go rfl (vs := #[.slice Ar ys.length cr]) (by simp only [List.map_toArray, List.map_cons, List.map_nil, e17]) (by kernel_rfl) (rtrim_any _ _ ys SY_) ?_
      rintro e w2 ⟨⟨v, rfl, hv⟩, hb⟩
      exact ⟨v, rfl, hb, hv.slv (by have := HYL.out; omega)⟩
    · obtain ⟨SX_, SY_, hb1_, P0_, P1_, R0_, R1_, HB_⟩ := hG
      have d2 := dep_of hdep 2 (by kernel_rfl)
      have e15 := new_slot hf 2 15 d2 (by kernel_rfl)
      have p15 : SlV w1 (V 2) (tr xs) := hφ 2 d2
      exact ob_pure (ex_assignV rfl e15) (by exact p15)
    · obtain ⟨SX_, SY_, hb1_, P0_, P1_, R0_, R1_, HB_⟩ := hG
      have d5 := dep_of hdep 5 (by kernel_rfl)
      have e18 := new_slot hf 5 18 d5 (by kernel_rfl)
      have p18 : SlV w1 (V 5) (tr ys) := hφ 5 d5
      exact ob_pure (ex_assignV rfl e18) (by exact p18)
  · intro V W1 hG hsz1 hφ hψ hne
    have hlt1 : W.heap.size ≤ W1.heap.size := hsz1
    obtain ⟨SX_, SY_, hb1_, P0_, P1_, R0_, R1_, HB_⟩ := hG
    have SX := hid SX_
    have SY := hid SY_
    have hb1 := hid hb1_
    have P0 := hid P0_
    have P1 := hid P1_
    have R0 := hid R0_
    have R1 := hid R1_
    have HB := hid HB_
    have y0 : V 0 = .pointer (some ⟨w.heap.size, 1, none⟩) := hφ 0 (by decide)
    have y1 : V 1 = .slice As xs.length cs := hφ 1 (by decide)
    have y3 : V 3 = .pointer (some ⟨w.heap.size + 1, 1, none⟩) := hφ 3 (by decide)
    have y4 : V 4 = .slice Ar ys.length cr := hφ 4 (by decide)
    have hs6 : SlV W1 (V 6) (tr xs) := hφ 6 (by decide)
    obtain ⟨A106, c106, y6, hc106, _⟩ := id hs6
    have TX : Hid (SlV W1 (.slice A106 (tr xs).length c106) (tr xs)) := hid (by rw [← y6]; exact hs6)
    clear hs6
    have hs7 : SlV W1 (V 7) (tr ys) := hφ 7 (by decide)
    obtain ⟨A107, c107, y7, hc107, _⟩ := id hs7
    have TY : Hid (SlV W1 (.slice A107 (tr ys).length c107) (tr ys)) := hid (by rw [← y7]; exact hs7)
    clear hs7
    simp only [puts, Act.put, List.setIfInBounds_toArray, List.set_cons_zero, List.set_cons_succ, y0, y1, y3, y4, y6, y7]
    clear hφ hψ hne y0 y1 y3 y4 y6 y7 SX_ SY_ hb1_ P0_ P1_ R0_ R1_ HB_ hsz1
    go_wp2_with fail
    refine (rdivide_any _ _ _ (tr xs) (tr ys) TX.out TY.out HL.out.tr HK.out.tr (Cn.tr _) (by rw [nv_tr]; exact Y0.out) (by have := HXL.out; omega) (by have := HYL.out; omega)).mono ?_
    rintro e W2 ⟨⟨q1, r1, qs, rs, rfl, hq1, hq2, hq3, hq4, hr1, hr2, hr3, hr4⟩, hb2⟩
    have HB := hid (bw_step HB.out hb2)
    have SX := hid (SX.out.below hb2)
    have SY := hid (SY.out.below hb2)
    have hb1 := hid (hb1.out.below hb2)
    have P0 := hid (P0.out.below hb2)
    have P1 := hid (P1.out.below hb2)
    have R0 := hid (R0.out.below hb2)
    have R1 := hid (R1.out.below hb2)
    have TX := hid (TX.out.below hb2)
    have TY := hid (TY.out.below hb2)
    clear hb2
    rw [nv_tr, nv_tr] at hq4 hr4
    have QF := hid (And.intro hq2 (And.intro hq3 hq4))
    have RF := hid (And.intro hr2 (And.intro hr3 hr4))
    have Q1 := hid hq1
    have R1s := hid hr1
    obtain ⟨Aq, cq, rfl, hcq, _⟩ := id hq1
    obtain ⟨Ao, co, rfl, hco, _⟩ := id hr1
    have hx0 := nv_nonneg HL.out
    obtain ⟨DS1, DS2⟩ := divmod_sign hx0 Y0.out na nb
    rw [← EA.out, ← EB.out] at DS1 DS2
    have DS := hid (And.intro DS1 DS2)
    have hm0 := Int.emod_nonneg (nv xs) (show nv ys ≠ 0 by have := Y0.out; omega)
    have hm1 := Int.emod_lt_of_pos (nv xs) Y0.out
    have SQ := hid (show Sm N (sg (na != nb) (nv qs)) from sm_sg hq2 (by
      refine Nat.le_trans (hq3.length_le (n := (tr xs).length) hq2 ?_) HXL.out
      rw [hq4, ← nv_tr xs]
      have h1 := nv_lt HL.out.tr
      have := Int.ediv_le_self (nv ys) (show 0 ≤ nv (tr xs) by rw [nv_tr]; exact hx0)
      omega))
    have SR := hid (show Sm N (sg na (nv rs)) from sm_sg hr2 (by
      refine Nat.le_trans (hr3.length_le (n := (tr ys).length) hr2 ?_) HYL.out
      rw [hr4]
      have h1 := nv_lt HK.out.tr
      rw [nv_tr] at h1
      omega))
    have M0 := hid hm0
    have M1 := hid hm1
    have SY2 := hid (show Sm N (nv ys) by have h1 := nv_lt HK.out; have h2 := nv_nonneg HK.out; have h3 := bp_mono hyn; exact ⟨by omega, by omega⟩)
    clear hq1 hq2 hq3 hq4 hr1 hr2 hr3 hr4 DS1 DS2 hm0 hm1 hx0
    clear SX
    clear SY
    clear TX
    obtain ⟨k3, l3, f3, g3⟩ := id P0.out.bx
    obtain ⟨k4, l4, f4, g4⟩ := id P1.out.bx
    go_wp2_with fail
    clear k3 l3 f3 g3 k4 l4 f4 g4
    have lt4_P0 := P0.out.lt
    have lt4_P1 := P1.out.lt
    have lt4_R0 := R0.out.lt
    have lt4_R1 := R1.out.lt
    refine wp_region_each (by kernel_rfl) 15 61 rfl rfl (by kernel_rfl)
      [Fact.eq (.pointer (some ⟨w.heap.size, 0, none⟩)), Fact.eq (.bool na), Fact.eq (.pointer (some ⟨w.heap.size + 1, 0, none⟩)), Fact.eq (.bool nb), Fact.eq (.bool (na != nb)), Fact.eq (.slice Aq qs.length cq), Fact.int (sg (na != nb) (nv qs)), Fact.eq (.pointer (some ⟨w.heap.size, 0, none⟩)), Fact.eq (.bool na), Fact.eq (.slice Ao rs.length co), Fact.int (sg na (nv rs)), Fact.box (sg (na != nb) (nv qs)), Fact.box (sg na (nv rs)), Fact.top _, Fact.top _]
      [.val, .val, .val, .val, .val, .val, .val, .val, .val, .val, .val, .alloc 13, .alloc 14, .fill 11, .fill 12]
      (fun w' => IntA w' (.agg #[.bool nb, .slice Ar ys.length cr]) (b) N ∧ Blk w' (w.heap.size) 24 #[.bool na, .slice As xs.length cs] ∧ Blk w' (w.heap.size + 1) 24 #[.bool nb, .slice Ar ys.length cr] ∧ Blk w' (w.heap.size + 1 + 1) 24 #[.bool false, .slice none 0 0] ∧ Blk w' (w.heap.size + 1 + 1 + 1) 24 #[.bool false, .slice none 0 0] ∧ SlV w' (.slice A107 (tr ys).length c107) (tr ys) ∧ SlV w' (.slice Aq qs.length cq) qs ∧ SlV w' (.slice Ao rs.length co) rs ∧ Below w.heap.size w w')
      (fun _ _ _ => True) [] (fun _ => 0) (by kernel_rfl)
      ⟨hb1.out, P0.out, P1.out, R0.out, R1.out, TY.out, Q1.out, R1s.out, HB.out⟩
      (fun w1 w2 ⟨h0, h1, h2, h3, h4, h5, h6, h7, h8⟩ hb => ⟨h0.below hb, h1.below hb, h2.below hb, h3.below hb, h4.below hb, h5.below hb, h6.below hb, h7.below hb, bw_step h8 hb⟩)
      (fun w1 w2 g ⟨h0, h1, h2, h3, h4, h5, h6, h7, h8⟩ hg hn ho => by
        have hg' : W2.heap.size ≤ g := hg.elim id (fun ⟨_, h, _⟩ => absurd h (Nat.not_lt_zero _))
        exact ⟨h0.only hn ho, h1.only ho (by have := P0.out.lt; have := P1.out.lt; have := R0.out.lt; have := R1.out.lt; omega), h2.only ho (by have := P0.out.lt; have := P1.out.lt; have := R0.out.lt; have := R1.out.lt; omega), h3.only ho (by have := P0.out.lt; have := P1.out.lt; have := R0.out.lt; have := R1.out.lt; omega), h4.only ho (by have := P0.out.lt; have := P1.out.lt; have := R0.out.lt; have := R1.out.lt; omega), h5.only hn ho, h6.only hn ho, h7.only hn ho, below_only h8 ho (by have := P0.out.lt; have := P1.out.lt; have := R0.out.lt; have := R1.out.lt; have := HB.out.size; omega)⟩)
      (fun l h => trivial) (fun l b w1 w2 h _ _ => trivial) (fun l b w1 w2 g h _ _ _ _ => trivial) (fun l h => by cases h) (fun l k h => by cases h) ?_ ?_
    · refine ⟨?_, ?_, ?_, ?_, ?_, ?_, ?_, ?_, ?_, ?_, ?_, ?_, ?_, ?_, ?_, trivial⟩ <;> intro L V a1 w1 hf hG hsz hφ hψ hL hdep hcl
      · obtain ⟨hb1_, P0_, P1_, R0_, R1_, TY_, Q1_, R1s_, HB_⟩ := hG
        have e2 := old_slot hf 2 (by kernel_rfl)
        exact ob_pure (ex_fieldAddr 0 (by decide) rfl e2) rfl
      · obtain ⟨hb1_, P0_, P1_, R0_, R1_, TY_, Q1_, R1s_, HB_⟩ := hG
        have d0 := dep_of hdep 0 (by kernel_rfl)
        have e30 := (new_slot hf 0 30 d0 (by kernel_rfl)).trans (show V 0 = .pointer (some ⟨w.heap.size, 0, none⟩) from hφ 0 d0)
        exact ob_pure (ex_load_neg rfl e30 P0_) rfl
      · obtain ⟨hb1_, P0_, P1_, R0_, R1_, TY_, Q1_, R1s_, HB_⟩ := hG
        have e3 := old_slot hf 3 (by kernel_rfl)
        exact ob_pure (ex_fieldAddr 0 (by decide) rfl e3) rfl
      · obtain ⟨hb1_, P0_, P1_, R0_, R1_, TY_, Q1_, R1s_, HB_⟩ := hG
        have d2 := dep_of hdep 2 (by kernel_rfl)
        have e32 := (new_slot hf 2 32 d2 (by kernel_rfl)).trans (show V 2 = .pointer (some ⟨w.heap.size + 1, 0, none⟩) from hφ 2 d2)
        exact ob_pure (ex_load_neg rfl e32 P1_) rfl
      · obtain ⟨hb1_, P0_, P1_, R0_, R1_, TY_, Q1_, R1s_, HB_⟩ := hG
        have d1 := dep_of hdep 1 (by kernel_rfl)
        have e31 := (new_slot hf 1 31 d1 (by kernel_rfl)).trans (show V 1 = .bool na from hφ 1 d1)
        have d3 := dep_of hdep 3 (by kernel_rfl)
        have e33 := (new_slot hf 3 33 d3 (by kernel_rfl)).trans (show V 3 = .bool nb from hφ 3 d3)
        exact ob_pure (ex_neq_bool rfl e31 e33) rfl
      · obtain ⟨hb1_, P0_, P1_, R0_, R1_, TY_, Q1_, R1s_, HB_⟩ := hG
        have e9 := old_slot hf 9 (by kernel_rfl)
        exact ob_pure (v := .slice Aq qs.length cq) (ex_moveV rfl e9) rfl
      · obtain ⟨hb1_, P0_, P1_, R0_, R1_, TY_, Q1_, R1s_, HB_⟩ := hG
        have d4 := dep_of hdep 4 (by kernel_rfl)
        have e34 := (new_slot hf 4 34 d4 (by kernel_rfl)).trans (show V 4 = .bool (na != nb) from hφ 4 d4)
        have d5 := dep_of hdep 5 (by kernel_rfl)
        have e35 := (new_slot hf 5 35 d5 (by kernel_rfl)).trans (show V 5 = .slice Aq qs.length cq from hφ 5 d5)
        refine ob_go rfl (vs := #[.bool (na != nb), .slice Aq qs.length cq]) (by simp only [List.map_toArray, List.map_cons, List.map_nil, e34, e35]) (by kernel_rfl) (rmake_any _ (na != nb) _ qs Q1_ QF.out.1) ?_
        rintro e w2 ⟨⟨v, rfl, hv⟩, hb⟩
        exact ⟨v, rfl, hb, hv⟩
      · obtain ⟨hb1_, P0_, P1_, R0_, R1_, TY_, Q1_, R1s_, HB_⟩ := hG
        have e2 := old_slot hf 2 (by kernel_rfl)
        exact ob_pure (ex_fieldAddr 0 (by decide) rfl e2) rfl
      · obtain ⟨hb1_, P0_, P1_, R0_, R1_, TY_, Q1_, R1s_, HB_⟩ := hG
        have d7 := dep_of hdep 7 (by kernel_rfl)
        have e37 := (new_slot hf 7 37 d7 (by kernel_rfl)).trans (show V 7 = .pointer (some ⟨w.heap.size, 0, none⟩) from hφ 7 d7)
        exact ob_pure (ex_load_neg rfl e37 P0_) rfl
      · obtain ⟨hb1_, P0_, P1_, R0_, R1_, TY_, Q1_, R1s_, HB_⟩ := hG
        have e10 := old_slot hf 10 (by kernel_rfl)
        exact ob_pure (v := .slice Ao rs.length co) (ex_moveV rfl e10) rfl
      · obtain ⟨hb1_, P0_, P1_, R0_, R1_, TY_, Q1_, R1s_, HB_⟩ := hG
        have d8 := dep_of hdep 8 (by kernel_rfl)
        have e38 := (new_slot hf 8 38 d8 (by kernel_rfl)).trans (show V 8 = .bool na from hφ 8 d8)
        have d9 := dep_of hdep 9 (by kernel_rfl)
        have e39 := (new_slot hf 9 39 d9 (by kernel_rfl)).trans (show V 9 = .slice Ao rs.length co from hφ 9 d9)
        refine ob_go rfl (vs := #[.bool na, .slice Ao rs.length co]) (by simp only [List.map_toArray, List.map_cons, List.map_nil, e38, e39]) (by kernel_rfl) (rmake_any _ na _ rs R1s_ RF.out.1) ?_
        rintro e w2 ⟨⟨v, rfl, hv⟩, hb⟩
        exact ⟨v, rfl, hb, hv⟩
      · obtain ⟨hb1_, P0_, P1_, R0_, R1_, TY_, Q1_, R1s_, HB_⟩ := hG
        exact ob_alloc_int rfl hsz rfl
      · obtain ⟨hb1_, P0_, P1_, R0_, R1_, TY_, Q1_, R1s_, HB_⟩ := hG
        exact ob_alloc_int rfl hsz rfl
      · obtain ⟨hb1_, P0_, P1_, R0_, R1_, TY_, Q1_, R1s_, HB_⟩ := hG
        have d6 := dep_of hdep 6 (by kernel_rfl)
        have e36 := new_slot hf 6 36 d6 (by kernel_rfl)
        have p36 : IntV w1 (V 6) (sg (na != nb) (nv qs)) := hφ 6 d6
        have d11 := dep_of hdep 11 (by kernel_rfl)
        obtain ⟨g, h1, h2, h3⟩ := hφ 11 d11
        exact ob_fill_int rfl ((new_slot hf 11 11 d11 (by kernel_rfl)).trans h1) e36 h1 h2 h3 p36 rfl rfl
      · obtain ⟨hb1_, P0_, P1_, R0_, R1_, TY_, Q1_, R1s_, HB_⟩ := hG
        have d10 := dep_of hdep 10 (by kernel_rfl)
        have e40 := new_slot hf 10 40 d10 (by kernel_rfl)
        have p40 : IntV w1 (V 10) (sg na (nv rs)) := hφ 10 d10
        have d12 := dep_of hdep 12 (by kernel_rfl)
        obtain ⟨g, h1, h2, h3⟩ := hφ 12 d12
        exact ob_fill_int rfl ((new_slot hf 12 12 d12 (by kernel_rfl)).trans h1) e40 h1 h2 h3 p40 rfl rfl
    · intro V W5 hG hsz5 hφ hψ hne
      have hlt5 : W2.heap.size ≤ W5.heap.size := hsz5
      obtain ⟨hb1_, P0_, P1_, R0_, R1_, TY_, Q1_, R1s_, HB_⟩ := hG
      have hb1 := hid hb1_
      have P0 := hid P0_
      have P1 := hid P1_
      have R0 := hid R0_
      have R1 := hid R1_
      have TY := hid TY_
      have Q1 := hid Q1_
      have R1s := hid R1s_
      have HB := hid HB_
      have y0 : V 0 = .pointer (some ⟨w.heap.size, 0, none⟩) := hφ 0 (by decide)
      have y1 : V 1 = .bool na := hφ 1 (by decide)
      have y2 : V 2 = .pointer (some ⟨w.heap.size + 1, 0, none⟩) := hφ 2 (by decide)
      have y3 : V 3 = .bool nb := hφ 3 (by decide)
      have y4 : V 4 = .bool (na != nb) := hφ 4 (by decide)
      have y5 : V 5 = .slice Aq qs.length cq := hφ 5 (by decide)
      have y7 : V 7 = .pointer (some ⟨w.heap.size, 0, none⟩) := hφ 7 (by decide)
      have y8 : V 8 = .bool na := hφ 8 (by decide)
      have y9 : V 9 = .slice Ao rs.length co := hφ 9 (by decide)
      obtain ⟨G5_11, y11, gb511, q511, A511, n511, c511, kb511, vb511⟩ := hφ 11 (by decide)
      have Xquo := hid kb511
      have quo := hid vb511
      clear kb511 vb511
      obtain ⟨G5_12, y12, gb512, q512, A512, n512, c512, kb512, vb512⟩ := hφ 12 (by decide)
      have Xrst := hid kb512
      have rst := hid vb512
      clear kb512 vb512
      have ne5_11_12 : G5_11 ≠ G5_12 := fun e => hne 11 12 (by decide) rfl rfl (by rw [y11, y12, e])
      simp only [puts, Act.put, List.setIfInBounds_toArray, List.set_cons_zero, List.set_cons_succ, y0, y1, y2, y3, y4, y5, y7, y8, y9, y11, y12, ptr]
      clear hφ hψ hne y0 y1 y2 y3 y4 y5 y7 y8 y9 y11 y12 hb1_ P0_ P1_ R0_ R1_ TY_ Q1_ R1s_ HB_ hsz5
      clear Q1
      clear R1s
      by_cases hneg : sg na (nv rs) < 0
      · have hd : decide (cm (sg na (nv rs)) 0 < 0) = true := by rw [cm_lt hneg]; rfl
        have HN := hid hneg
        clear hneg
        obtain ⟨k6, l6, f6, g6⟩ := id Xrst.out.bx
        go_wp2_with fail
        refine (rsign_any _ _ (sg na (nv rs)) N (rst.out.arg SR.out)).mono ?_
        rintro e W7 ⟨rfl, hb7⟩
        clear k6 l6 f6 g6
        have HB := hid (bw_step HB.out hb7)
        have hb1 := hid (hb1.out.below hb7)
        have P0 := hid (P0.out.below hb7)
        have P1 := hid (P1.out.below hb7)
        have R0 := hid (R0.out.below hb7)
        have R1 := hid (R1.out.below hb7)
        have TY := hid (TY.out.below hb7)
        have Xquo := hid (Xquo.out.below hb7)
        have quo := hid (quo.out.below hb7)
        have Xrst := hid (Xrst.out.below hb7)
        have rst := hid (rst.out.below hb7)
        clear hb7
        go_wp2_with fail
        have SM8 : Hid (Sm (N + 1) ((sg na (nv rs)) + (sg false (nv ys)))) := hid ((SR.out).plus (SY2.out) (by omega) (by omega))
        refine wp_region_each (by kernel_rfl) 5 61 rfl rfl (by kernel_rfl)
          [Fact.eq (.agg #[.bool q512, .slice A512 n512 c512]), Fact.eq (.slice A107 (tr ys).length c107), Fact.int (sg false (nv ys)), Fact.int ((sg na (nv rs)) + (sg false (nv ys))), Fact.top _]
          [.val, .val, .val, .val, .fillOld 0]
          (fun w' => IntA w' (.agg #[.bool nb, .slice Ar ys.length cr]) (b) N ∧ Blk w' (w.heap.size) 24 #[.bool na, .slice As xs.length cs] ∧ Blk w' (w.heap.size + 1) 24 #[.bool nb, .slice Ar ys.length cr] ∧ Blk w' (w.heap.size + 1 + 1) 24 #[.bool false, .slice none 0 0] ∧ Blk w' (w.heap.size + 1 + 1 + 1) 24 #[.bool false, .slice none 0 0] ∧ SlV w' (.slice A107 (tr ys).length c107) (tr ys) ∧ Blk w' (G5_11) 24 #[.bool q511, .slice A511 n511 c511] ∧ IntV w' (.agg #[.bool q511, .slice A511 n511 c511]) ((sg (na != nb) (nv qs))) ∧ IntV w' (.agg #[.bool q512, .slice A512 n512 c512]) ((sg na (nv rs))) ∧ Below w.heap.size w w')
          (fun l b w' => match l with
            | 0 => if b = true then BoxI w' (G5_12) ((sg na (nv rs)) + (sg false (nv ys))) else Blk w' (G5_12) 24 #[.bool q512, .slice A512 n512 c512]
            | _ => True)
          [4] (fun l => match l with | 0 => G5_12 | _ => 0) (by kernel_rfl)
          ⟨hb1.out, P0.out, P1.out, R0.out, R1.out, TY.out, Xquo.out, quo.out, rst.out, HB.out⟩
          (fun w1 w2 ⟨h0, h1, h2, h3, h4, h5, h6, h7, h8, h9⟩ hb => ⟨h0.below hb, h1.below hb, h2.below hb, h3.below hb, h4.below hb, h5.below hb, h6.below hb, h7.below hb, h8.below hb, bw_step h9 hb⟩)
          (fun w1 w2 g ⟨h0, h1, h2, h3, h4, h5, h6, h7, h8, h9⟩ hg hn ho => by
            have hg' : W7.heap.size ≤ g ∨ g = G5_12 := by
              rcases hg with h | ⟨l, hl, h⟩
              · exact .inl h
              · rcases l with _ | l
                · exact .inr h
                · exact absurd hl (by simp)
            exact ⟨h0.only hn ho, h1.only ho (by have := P0.out.lt; have := P1.out.lt; have := R0.out.lt; have := R1.out.lt; have := Xquo.out.lt; have := Xrst.out.lt; omega), h2.only ho (by have := P0.out.lt; have := P1.out.lt; have := R0.out.lt; have := R1.out.lt; have := Xquo.out.lt; have := Xrst.out.lt; omega), h3.only ho (by have := P0.out.lt; have := P1.out.lt; have := R0.out.lt; have := R1.out.lt; have := Xquo.out.lt; have := Xrst.out.lt; omega), h4.only ho (by have := P0.out.lt; have := P1.out.lt; have := R0.out.lt; have := R1.out.lt; have := Xquo.out.lt; have := Xrst.out.lt; omega), h5.only hn ho, h6.only ho (by have := P0.out.lt; have := P1.out.lt; have := R0.out.lt; have := R1.out.lt; have := Xquo.out.lt; have := Xrst.out.lt; omega), h7.only hn ho, h8.only hn ho, below_only h9 ho (by have := P0.out.lt; have := P1.out.lt; have := R0.out.lt; have := R1.out.lt; have := Xquo.out.lt; have := Xrst.out.lt; have := HB.out.size; omega)⟩)
          (fun l hl => by
              rcases l with _ | l
              · exact Xrst.out
              · exact absurd hl (by simp))
          (fun l b w1 w2 hl h hb => by
              rcases l with _ | l
              · (cases b <;> exact h.below hb)
              · exact absurd hl (by simp))
          (fun l b w1 w2 g hl h hg hn ho => by
              rcases l with _ | l
              · (cases b; (exact h.only ho (Ne.symm hg)); (exact h.only (Ne.symm hg) hn ho))
              · exact absurd hl (by simp))
          (fun l hl => by
              rcases l with _ | l
              · exact Xrst.out.lt
              · exact absurd hl (by simp))
          (fun l k hl hk hne => by rcases l with _ | l <;> rcases k with _ | k <;> simp at hl hk hne)
          ?_ ?_
        · refine ⟨?_, ?_, ?_, ?_, ?_, trivial⟩ <;> intro L V a1 w1 hf hG hsz hφ hψ hL hdep hcl
          · obtain ⟨hb1_, P0_, P1_, R0_, R1_, TY_, Xquo_, quo_, rst_, HB_⟩ := hG
            have e12 := old_slot hf 12 (by kernel_rfl)
            have hb0 := hψ 0 (by decide)
            rw [show [4].getD 0 0 = 4 from rfl, not_yet hcl 4 0 hL (by kernel_rfl)] at hb0
            exact ob_load_int rfl e12 hb0 rfl
          · obtain ⟨hb1_, P0_, P1_, R0_, R1_, TY_, Xquo_, quo_, rst_, HB_⟩ := hG
            have e8 := old_slot hf 8 (by kernel_rfl)
            exact ob_pure (v := .slice A107 (tr ys).length c107) (ex_moveV rfl e8) rfl
          · obtain ⟨hb1_, P0_, P1_, R0_, R1_, TY_, Xquo_, quo_, rst_, HB_⟩ := hG
            have d1 := dep_of hdep 1 (by kernel_rfl)
            have e45 := (new_slot hf 1 45 d1 (by kernel_rfl)).trans (show V 1 = .slice A107 (tr ys).length c107 from hφ 1 d1)
            refine ob_go rfl (vs := #[.bool false, .slice A107 (tr ys).length c107]) (by simp only [List.map_toArray, List.map_cons, List.map_nil, e45, ev_const]) (by kernel_rfl) (rmake_any _ false _ (tr ys) TY_ HK.out.tr) ?_
            rintro e w2 ⟨⟨v, rfl, hv⟩, hb⟩
            rw [nv_tr] at hv
            exact ⟨v, rfl, hb, hv⟩
          · obtain ⟨hb1_, P0_, P1_, R0_, R1_, TY_, Xquo_, quo_, rst_, HB_⟩ := hG
            have d0 := dep_of hdep 0 (by kernel_rfl)
            have e44 := (new_slot hf 0 44 d0 (by kernel_rfl)).trans (show V 0 = .agg #[.bool q512, .slice A512 n512 c512] from hφ 0 d0)
            have d2 := dep_of hdep 2 (by kernel_rfl)
            have e46 := new_slot hf 2 46 d2 (by kernel_rfl)
            have p46 : IntV w1 (V 2) (sg false (nv ys)) := hφ 2 d2
            refine ob_go rfl (vs := #[.agg #[.bool q512, .slice A512 n512 c512], V 2]) (by simp only [List.map_toArray, List.map_cons, List.map_nil, e44, e46]) (by kernel_rfl) (radd_any _ (.agg #[.bool q512, .slice A512 n512 c512]) (V 2) (sg na (nv rs)) (sg false (nv ys)) N N (rst_.arg SR.out) (p46.arg SY2.out) (by omega) (by omega)) ?_
            rintro e w2 ⟨⟨v, rfl, hv⟩, hb⟩
            exact ⟨v, rfl, hb, hv⟩
          · obtain ⟨hb1_, P0_, P1_, R0_, R1_, TY_, Xquo_, quo_, rst_, HB_⟩ := hG
            have d3 := dep_of hdep 3 (by kernel_rfl)
            have e47 := new_slot hf 3 47 d3 (by kernel_rfl)
            have p47 : IntV w1 (V 3) ((sg na (nv rs)) + (sg false (nv ys))) := hφ 3 d3
            have e12 := old_slot hf 12 (by kernel_rfl)
            have hb0 := hψ 0 (by decide)
            rw [show [4].getD 0 0 = 4 from rfl, hL] at hb0
            exact ob_fillOld_int rfl e12 e47 hb0 p47 (fun w2 h => h) rfl
        · intro V W9 hG hsz9 hφ hψ hne
          have hlt9 : W7.heap.size ≤ W9.heap.size := hsz9
          obtain ⟨hb1_, P0_, P1_, R0_, R1_, TY_, Xquo_, quo_, rst_, HB_⟩ := hG
          have hb1 := hid hb1_
          have P0 := hid P0_
          have P1 := hid P1_
          have R0 := hid R0_
          have R1 := hid R1_
          have TY := hid TY_
          have Xquo := hid Xquo_
          have quo := hid quo_
          have rst := hid rst_
          have HB := hid HB_
          have y0 : V 0 = .agg #[.bool q512, .slice A512 n512 c512] := hφ 0 (by decide)
          have y1 : V 1 = .slice A107 (tr ys).length c107 := hφ 1 (by decide)
          obtain ⟨q950, A950, n950, c950, kb950, vb950⟩ := hψ 0 (by decide)
          have Xrst := hid kb950
          have VXrst := hid vb950
          clear kb950 vb950
          simp only [puts, Act.put, List.setIfInBounds_toArray, List.set_cons_zero, List.set_cons_succ, y0, y1]
          clear hφ hψ hne y0 y1 hb1_ P0_ P1_ R0_ R1_ TY_ Xquo_ quo_ rst_ HB_ hsz9
          by_cases hbn : b < 0
          · have hd2 : decide (cm b 0 < 0) = true := by rw [cm_lt hbn]; rfl
            have HBN := hid hbn
            clear hbn
            obtain ⟨k10, l10, f10, g10⟩ := id P1.out.bx
            go_wp2_with fail
            refine (rsign_any _ _ b N hb1.out).mono ?_
            rintro e W11 ⟨rfl, hb11⟩
            clear k10 l10 f10 g10
            have HB := hid (bw_step HB.out hb11)
            have hb1 := hid (hb1.out.below hb11)
            have P0 := hid (P0.out.below hb11)
            have P1 := hid (P1.out.below hb11)
            have R0 := hid (R0.out.below hb11)
            have R1 := hid (R1.out.below hb11)
            have TY := hid (TY.out.below hb11)
            have Xquo := hid (Xquo.out.below hb11)
            have quo := hid (quo.out.below hb11)
            have Xrst := hid (Xrst.out.below hb11)
            have rst := hid (rst.out.below hb11)
            have VXrst := hid (VXrst.out.below hb11)
            clear hb11
            go_wp2_with fail
            have SM12 : Hid (Sm (N + 2) ((sg (na != nb) (nv qs)) + 1)) := hid ((SQ.out).plus ((Sm.one (n := 1) (by decide) (by decide))) (by omega) (by omega))
            refine wp_region_each (by kernel_rfl) 7 61 rfl rfl (by kernel_rfl)
              [Fact.eq (.agg #[.bool q511, .slice A511 n511 c511]), Fact.int 1, Fact.int ((sg (na != nb) (nv qs)) + 1), Fact.eq (.agg #[.bool q950, .slice A950 n950 c950]), Fact.top _, Fact.top _, Fact.eq (.bool true)]
              [.val, .val, .val, .val, .fillOld 0, .fillOld 1, .val]
              (fun w' => IntA w' (.agg #[.bool nb, .slice Ar ys.length cr]) (b) N ∧ Blk w' (w.heap.size) 24 #[.bool na, .slice As xs.length cs] ∧ Blk w' (w.heap.size + 1) 24 #[.bool nb, .slice Ar ys.length cr] ∧ SlV w' (.slice A107 (tr ys).length c107) (tr ys) ∧ Blk w' (G5_11) 24 #[.bool q511, .slice A511 n511 c511] ∧ IntV w' (.agg #[.bool q511, .slice A511 n511 c511]) ((sg (na != nb) (nv qs))) ∧ Blk w' (G5_12) 24 #[.bool q950, .slice A950 n950 c950] ∧ IntV w' (.agg #[.bool q512, .slice A512 n512 c512]) ((sg na (nv rs))) ∧ IntV w' (.agg #[.bool q950, .slice A950 n950 c950]) (((sg na (nv rs)) + (sg false (nv ys)))) ∧ Below w.heap.size w w')
              (fun l b w' => match l with
                | 0 => if b = true then BoxI w' (w.heap.size + 1 + 1) ((sg (na != nb) (nv qs)) + 1) else Blk w' (w.heap.size + 1 + 1) 24 #[.bool false, .slice none 0 0]
                | 1 => if b = true then BoxI w' (w.heap.size + 1 + 1 + 1) ((sg na (nv rs)) + (sg false (nv ys))) else Blk w' (w.heap.size + 1 + 1 + 1) 24 #[.bool false, .slice none 0 0]
                | _ => True)
              [4, 5] (fun l => match l with | 0 => w.heap.size + 1 + 1 | 1 => w.heap.size + 1 + 1 + 1 | _ => 0) (by kernel_rfl)
              ⟨hb1.out, P0.out, P1.out, TY.out, Xquo.out, quo.out, Xrst.out, rst.out, VXrst.out, HB.out⟩
              (fun w1 w2 ⟨h0, h1, h2, h3, h4, h5, h6, h7, h8, h9⟩ hb => ⟨h0.below hb, h1.below hb, h2.below hb, h3.below hb, h4.below hb, h5.below hb, h6.below hb, h7.below hb, h8.below hb, bw_step h9 hb⟩)
              (fun w1 w2 g ⟨h0, h1, h2, h3, h4, h5, h6, h7, h8, h9⟩ hg hn ho => by
                have hg' : W11.heap.size ≤ g ∨ g = w.heap.size + 1 + 1 ∨ g = w.heap.size + 1 + 1 + 1 := by
                  rcases hg with h | ⟨l, hl, h⟩
                  · exact .inl h
                  · rcases l with _ | l
                    · exact .inr (.inl h)
                    · rcases l with _ | l
                      · exact .inr (.inr h)
                      · exact absurd hl (by simp)
                exact ⟨h0.only hn ho, h1.only ho (by have := P0.out.lt; have := P1.out.lt; have := R0.out.lt; have := R1.out.lt; have := Xquo.out.lt; have := Xrst.out.lt; omega), h2.only ho (by have := P0.out.lt; have := P1.out.lt; have := R0.out.lt; have := R1.out.lt; have := Xquo.out.lt; have := Xrst.out.lt; omega), h3.only hn ho, h4.only ho (by have := P0.out.lt; have := P1.out.lt; have := R0.out.lt; have := R1.out.lt; have := Xquo.out.lt; have := Xrst.out.lt; omega), h5.only hn ho, h6.only ho (by have := P0.out.lt; have := P1.out.lt; have := R0.out.lt; have := R1.out.lt; have := Xquo.out.lt; have := Xrst.out.lt; omega), h7.only hn ho, h8.only hn ho, below_only h9 ho (by have := P0.out.lt; have := P1.out.lt; have := R0.out.lt; have := R1.out.lt; have := Xquo.out.lt; have := Xrst.out.lt; have := HB.out.size; omega)⟩)
              (fun l hl => by
                  rcases l with _ | l
                  · exact R0.out
                  rcases l with _ | l
                  · exact R1.out
                  · exact absurd hl (by simp))
              (fun l b w1 w2 hl h hb => by
                  rcases l with _ | l
                  · (cases b <;> exact h.below hb)
                  rcases l with _ | l
                  · (cases b <;> exact h.below hb)
                  · exact absurd hl (by simp))
              (fun l b w1 w2 g hl h hg hn ho => by
                  rcases l with _ | l
                  · (cases b; (exact h.only ho (Ne.symm hg)); (exact h.only (Ne.symm hg) hn ho))
                  rcases l with _ | l
                  · (cases b; (exact h.only ho (Ne.symm hg)); (exact h.only (Ne.symm hg) hn ho))
                  · exact absurd hl (by simp))
              (fun l hl => by
                  rcases l with _ | l
                  · exact R0.out.lt
                  rcases l with _ | l
                  · exact R1.out.lt
                  · exact absurd hl (by simp))
              (fun l k hl hk hne => by
                have hh : w.heap.size + 1 + 1 ≠ w.heap.size + 1 + 1 + 1 := by omega
                have h1 : l = 0 ∨ l = 1 := by simp at hl; omega
                have h2 : k = 0 ∨ k = 1 := by simp at hk; omega
                rcases h1 with rfl | rfl <;> rcases h2 with rfl | rfl
                · exact absurd rfl hne
                · exact hh
                · exact Ne.symm hh
                · exact absurd rfl hne)
              ?_ ?_
            · refine ⟨?_, ?_, ?_, ?_, ?_, ?_, ?_, trivial⟩ <;> intro L V a1 w1 hf hG hsz hφ hψ hL hdep hcl
              · obtain ⟨hb1_, P0_, P1_, TY_, Xquo_, quo_, Xrst_, rst_, VXrst_, HB_⟩ := hG
                have e11 := old_slot hf 11 (by kernel_rfl)
                exact ob_load_int rfl e11 Xquo_ rfl
              · obtain ⟨hb1_, P0_, P1_, TY_, Xquo_, quo_, Xrst_, rst_, VXrst_, HB_⟩ := hG
                refine ob_go rfl (vs := #[.int .i64 1]) (by simp only [List.map_toArray, List.map_cons, List.map_nil, ev_const]) (by kernel_rfl) (rsmall_any _ 1 (by decide) (by decide)) ?_
                rintro e w2 ⟨⟨v, rfl, hv⟩, hb⟩
                exact ⟨v, rfl, hb, hv⟩
              · obtain ⟨hb1_, P0_, P1_, TY_, Xquo_, quo_, Xrst_, rst_, VXrst_, HB_⟩ := hG
                have d0 := dep_of hdep 0 (by kernel_rfl)
                have e51 := (new_slot hf 0 51 d0 (by kernel_rfl)).trans (show V 0 = .agg #[.bool q511, .slice A511 n511 c511] from hφ 0 d0)
                have d1 := dep_of hdep 1 (by kernel_rfl)
                have e52 := new_slot hf 1 52 d1 (by kernel_rfl)
                have p52 : IntV w1 (V 1) 1 := hφ 1 d1
                refine ob_go rfl (vs := #[.agg #[.bool q511, .slice A511 n511 c511], V 1]) (by simp only [List.map_toArray, List.map_cons, List.map_nil, e51, e52]) (by kernel_rfl) (radd_any _ (.agg #[.bool q511, .slice A511 n511 c511]) (V 1) (sg (na != nb) (nv qs)) 1 N 1 (quo_.arg SQ.out) (p52.arg (Sm.one (n := 1) (by decide) (by decide))) (by omega) (by omega)) ?_
                rintro e w2 ⟨⟨v, rfl, hv⟩, hb⟩
                exact ⟨v, rfl, hb, hv⟩
              · obtain ⟨hb1_, P0_, P1_, TY_, Xquo_, quo_, Xrst_, rst_, VXrst_, HB_⟩ := hG
                have e12 := old_slot hf 12 (by kernel_rfl)
                exact ob_load_int rfl e12 Xrst_ rfl
              · obtain ⟨hb1_, P0_, P1_, TY_, Xquo_, quo_, Xrst_, rst_, VXrst_, HB_⟩ := hG
                have d2 := dep_of hdep 2 (by kernel_rfl)
                have e53 := new_slot hf 2 53 d2 (by kernel_rfl)
                have p53 : IntV w1 (V 2) ((sg (na != nb) (nv qs)) + 1) := hφ 2 d2
                have e4 := old_slot hf 4 (by kernel_rfl)
                have hb0 := hψ 0 (by decide)
                rw [show [4, 5].getD 0 0 = 4 from rfl, hL] at hb0
                exact ob_fillOld_int rfl e4 e53 hb0 p53 (fun w2 h => h) rfl
              · obtain ⟨hb1_, P0_, P1_, TY_, Xquo_, quo_, Xrst_, rst_, VXrst_, HB_⟩ := hG
                have d3 := dep_of hdep 3 (by kernel_rfl)
                have e54 := (new_slot hf 3 54 d3 (by kernel_rfl)).trans (show V 3 = .agg #[.bool q950, .slice A950 n950 c950] from hφ 3 d3)
                have e5 := old_slot hf 5 (by kernel_rfl)
                have hb0 := hψ 1 (by decide)
                rw [show [4, 5].getD 1 0 = 5 from rfl, hL] at hb0
                exact ob_fillOld_int rfl e5 e54 hb0 VXrst_ (fun w2 h => h) rfl
              · obtain ⟨hb1_, P0_, P1_, TY_, Xquo_, quo_, Xrst_, rst_, VXrst_, HB_⟩ := hG
                exact ob_pure (v := .bool true) (ex_assignV rfl rfl) rfl
            · intro V W13 hG hsz13 hφ hψ hne
              have hlt13 : W11.heap.size ≤ W13.heap.size := hsz13
              obtain ⟨hb1_, P0_, P1_, TY_, Xquo_, quo_, Xrst_, rst_, VXrst_, HB_⟩ := hG
              have hb1 := hid hb1_
              have P0 := hid P0_
              have P1 := hid P1_
              have TY := hid TY_
              have Xquo := hid Xquo_
              have quo := hid quo_
              have Xrst := hid Xrst_
              have rst := hid rst_
              have VXrst := hid VXrst_
              have HB := hid HB_
              have y0 : V 0 = .agg #[.bool q511, .slice A511 n511 c511] := hφ 0 (by decide)
              have y3 : V 3 = .agg #[.bool q950, .slice A950 n950 c950] := hφ 3 (by decide)
              have y6 : V 6 = .bool true := hφ 6 (by decide)
              obtain ⟨q1350, A1350, n1350, c1350, kb1350, vb1350⟩ := hψ 0 (by decide)
              have R0 := hid kb1350
              have VR0 := hid vb1350
              clear kb1350 vb1350
              obtain ⟨q1351, A1351, n1351, c1351, kb1351, vb1351⟩ := hψ 1 (by decide)
              have R1 := hid kb1351
              have VR1 := hid vb1351
              clear kb1351 vb1351
              simp only [puts, Act.put, List.setIfInBounds_toArray, List.set_cons_zero, List.set_cons_succ, y0, y3, y6]
              clear hφ hψ hne y0 y3 y6 hb1_ P0_ P1_ TY_ Xquo_ quo_ Xrst_ rst_ VXrst_ HB_ hsz13
              obtain ⟨k14, l14, f14, g14⟩ := id R0.out.bx
              obtain ⟨k15, l15, f15, g15⟩ := id R1.out.bx
              go_wp2
              refine bodyPost_ret (v := .tuple #[.agg #[.bool q1350, .slice A1350 n1350 c1350], .agg #[.bool q1351, .slice A1351 n1351 c1351], .bool true]) (by simp [results, Try.results82, go_sem, k14, l14, k15, l15]) rfl ⟨⟨_, _, rfl, ?_, ?_⟩, HB.out⟩
              · have h1 := DS.out.1
                have h2 := VR0.out
                have h3 := HN.out
                have h4 := HBN.out
                have h5 := Y0.out
                have h6 := EB.out
                have h7 := RF.out.2.2
                rw [QF.out.2.2] at h2
                rw [h1]
                cases na with
                | false => rw [sg_false] at h3; have := M0.out; omega
                | true =>
                  rw [sg_true] at h3
                  cases nb with
                  | false => rw [sg_false] at h6; omega
                  | true => rw [if_pos ⟨rfl, by omega⟩]; exact h2
              · have h1 := DS.out.2
                have h2 := VR1.out
                have h3 := HN.out
                have h7 := RF.out.2.2
                rw [h1]
                cases na with
                | false => rw [sg_false] at h3; have := M0.out; omega
                | true =>
                  rw [sg_true] at h3
                  rw [if_pos ⟨rfl, by omega⟩]
                  rw [h7] at h2
                  have e : sg true (nv xs % nv ys) + sg false (nv ys) = nv ys - nv xs % nv ys := by simp [sg]; omega
                  rw [e] at h2; exact h2
          · have hd2 : decide (cm b 0 < 0) = false := by rw [decide_eq_false_iff_not]; rcases cm_form b 0 with ⟨h, e⟩ | ⟨h, e⟩ | ⟨h, e⟩ <;> omega
            have HBN := hid hbn
            clear hbn
            obtain ⟨k16, l16, f16, g16⟩ := id P1.out.bx
            go_wp2_with fail
            refine (rsign_any _ _ b N hb1.out).mono ?_
            rintro e W17 ⟨rfl, hb17⟩
            clear k16 l16 f16 g16
            have HB := hid (bw_step HB.out hb17)
            have hb1 := hid (hb1.out.below hb17)
            have P0 := hid (P0.out.below hb17)
            have P1 := hid (P1.out.below hb17)
            have R0 := hid (R0.out.below hb17)
            have R1 := hid (R1.out.below hb17)
            have TY := hid (TY.out.below hb17)
            have Xquo := hid (Xquo.out.below hb17)
            have quo := hid (quo.out.below hb17)
            have Xrst := hid (Xrst.out.below hb17)
            have rst := hid (rst.out.below hb17)
            have VXrst := hid (VXrst.out.below hb17)
            clear hb17
            go_wp2_with fail
            have SM18 : Hid (Sm (N + 2) ((sg (na != nb) (nv qs)) - 1)) := hid ((SQ.out).minus ((Sm.one (n := 1) (by decide) (by decide))) (by omega) (by omega))
            refine wp_region_each (by kernel_rfl) 7 61 rfl rfl (by kernel_rfl)
              [Fact.eq (.agg #[.bool q511, .slice A511 n511 c511]), Fact.int 1, Fact.int ((sg (na != nb) (nv qs)) - 1), Fact.eq (.agg #[.bool q950, .slice A950 n950 c950]), Fact.top _, Fact.top _, Fact.eq (.bool true)]
              [.val, .val, .val, .val, .fillOld 0, .fillOld 1, .val]
              (fun w' => IntA w' (.agg #[.bool nb, .slice Ar ys.length cr]) (b) N ∧ Blk w' (w.heap.size) 24 #[.bool na, .slice As xs.length cs] ∧ Blk w' (w.heap.size + 1) 24 #[.bool nb, .slice Ar ys.length cr] ∧ SlV w' (.slice A107 (tr ys).length c107) (tr ys) ∧ Blk w' (G5_11) 24 #[.bool q511, .slice A511 n511 c511] ∧ IntV w' (.agg #[.bool q511, .slice A511 n511 c511]) ((sg (na != nb) (nv qs))) ∧ Blk w' (G5_12) 24 #[.bool q950, .slice A950 n950 c950] ∧ IntV w' (.agg #[.bool q512, .slice A512 n512 c512]) ((sg na (nv rs))) ∧ IntV w' (.agg #[.bool q950, .slice A950 n950 c950]) (((sg na (nv rs)) + (sg false (nv ys)))) ∧ Below w.heap.size w w')
              (fun l b w' => match l with
                | 0 => if b = true then BoxI w' (w.heap.size + 1 + 1) ((sg (na != nb) (nv qs)) - 1) else Blk w' (w.heap.size + 1 + 1) 24 #[.bool false, .slice none 0 0]
                | 1 => if b = true then BoxI w' (w.heap.size + 1 + 1 + 1) ((sg na (nv rs)) + (sg false (nv ys))) else Blk w' (w.heap.size + 1 + 1 + 1) 24 #[.bool false, .slice none 0 0]
                | _ => True)
              [4, 5] (fun l => match l with | 0 => w.heap.size + 1 + 1 | 1 => w.heap.size + 1 + 1 + 1 | _ => 0) (by kernel_rfl)
              ⟨hb1.out, P0.out, P1.out, TY.out, Xquo.out, quo.out, Xrst.out, rst.out, VXrst.out, HB.out⟩
              (fun w1 w2 ⟨h0, h1, h2, h3, h4, h5, h6, h7, h8, h9⟩ hb => ⟨h0.below hb, h1.below hb, h2.below hb, h3.below hb, h4.below hb, h5.below hb, h6.below hb, h7.below hb, h8.below hb, bw_step h9 hb⟩)
              (fun w1 w2 g ⟨h0, h1, h2, h3, h4, h5, h6, h7, h8, h9⟩ hg hn ho => by
                have hg' : W17.heap.size ≤ g ∨ g = w.heap.size + 1 + 1 ∨ g = w.heap.size + 1 + 1 + 1 := by
                  rcases hg with h | ⟨l, hl, h⟩
                  · exact .inl h
                  · rcases l with _ | l
                    · exact .inr (.inl h)
                    · rcases l with _ | l
                      · exact .inr (.inr h)
                      · exact absurd hl (by simp)
                exact ⟨h0.only hn ho, h1.only ho (by have := P0.out.lt; have := P1.out.lt; have := R0.out.lt; have := R1.out.lt; have := Xquo.out.lt; have := Xrst.out.lt; omega), h2.only ho (by have := P0.out.lt; have := P1.out.lt; have := R0.out.lt; have := R1.out.lt; have := Xquo.out.lt; have := Xrst.out.lt; omega), h3.only hn ho, h4.only ho (by have := P0.out.lt; have := P1.out.lt; have := R0.out.lt; have := R1.out.lt; have := Xquo.out.lt; have := Xrst.out.lt; omega), h5.only hn ho, h6.only ho (by have := P0.out.lt; have := P1.out.lt; have := R0.out.lt; have := R1.out.lt; have := Xquo.out.lt; have := Xrst.out.lt; omega), h7.only hn ho, h8.only hn ho, below_only h9 ho (by have := P0.out.lt; have := P1.out.lt; have := R0.out.lt; have := R1.out.lt; have := Xquo.out.lt; have := Xrst.out.lt; have := HB.out.size; omega)⟩)
              (fun l hl => by
                  rcases l with _ | l
                  · exact R0.out
                  rcases l with _ | l
                  · exact R1.out
                  · exact absurd hl (by simp))
              (fun l b w1 w2 hl h hb => by
                  rcases l with _ | l
                  · (cases b <;> exact h.below hb)
                  rcases l with _ | l
                  · (cases b <;> exact h.below hb)
                  · exact absurd hl (by simp))
              (fun l b w1 w2 g hl h hg hn ho => by
                  rcases l with _ | l
                  · (cases b; (exact h.only ho (Ne.symm hg)); (exact h.only (Ne.symm hg) hn ho))
                  rcases l with _ | l
                  · (cases b; (exact h.only ho (Ne.symm hg)); (exact h.only (Ne.symm hg) hn ho))
                  · exact absurd hl (by simp))
              (fun l hl => by
                  rcases l with _ | l
                  · exact R0.out.lt
                  rcases l with _ | l
                  · exact R1.out.lt
                  · exact absurd hl (by simp))
              (fun l k hl hk hne => by
                have hh : w.heap.size + 1 + 1 ≠ w.heap.size + 1 + 1 + 1 := by omega
                have h1 : l = 0 ∨ l = 1 := by simp at hl; omega
                have h2 : k = 0 ∨ k = 1 := by simp at hk; omega
                rcases h1 with rfl | rfl <;> rcases h2 with rfl | rfl
                · exact absurd rfl hne
                · exact hh
                · exact Ne.symm hh
                · exact absurd rfl hne)
              ?_ ?_
            · refine ⟨?_, ?_, ?_, ?_, ?_, ?_, ?_, trivial⟩ <;> intro L V a1 w1 hf hG hsz hφ hψ hL hdep hcl
              · obtain ⟨hb1_, P0_, P1_, TY_, Xquo_, quo_, Xrst_, rst_, VXrst_, HB_⟩ := hG
                have e11 := old_slot hf 11 (by kernel_rfl)
                exact ob_load_int rfl e11 Xquo_ rfl
              · obtain ⟨hb1_, P0_, P1_, TY_, Xquo_, quo_, Xrst_, rst_, VXrst_, HB_⟩ := hG
                refine ob_go rfl (vs := #[.int .i64 1]) (by simp only [List.map_toArray, List.map_cons, List.map_nil, ev_const]) (by kernel_rfl) (rsmall_any _ 1 (by decide) (by decide)) ?_
                rintro e w2 ⟨⟨v, rfl, hv⟩, hb⟩
                exact ⟨v, rfl, hb, hv⟩
              · obtain ⟨hb1_, P0_, P1_, TY_, Xquo_, quo_, Xrst_, rst_, VXrst_, HB_⟩ := hG
                have d0 := dep_of hdep 0 (by kernel_rfl)
                have e55 := (new_slot hf 0 55 d0 (by kernel_rfl)).trans (show V 0 = .agg #[.bool q511, .slice A511 n511 c511] from hφ 0 d0)
                have d1 := dep_of hdep 1 (by kernel_rfl)
                have e56 := new_slot hf 1 56 d1 (by kernel_rfl)
                have p56 : IntV w1 (V 1) 1 := hφ 1 d1
                refine ob_go rfl (vs := #[.agg #[.bool q511, .slice A511 n511 c511], V 1]) (by simp only [List.map_toArray, List.map_cons, List.map_nil, e55, e56]) (by kernel_rfl) (rsub_any _ (.agg #[.bool q511, .slice A511 n511 c511]) (V 1) (sg (na != nb) (nv qs)) 1 N 1 (quo_.arg SQ.out) (p56.arg (Sm.one (n := 1) (by decide) (by decide))) (by omega) (by omega)) ?_
                rintro e w2 ⟨⟨v, rfl, hv⟩, hb⟩
                exact ⟨v, rfl, hb, hv⟩
              · obtain ⟨hb1_, P0_, P1_, TY_, Xquo_, quo_, Xrst_, rst_, VXrst_, HB_⟩ := hG
                have e12 := old_slot hf 12 (by kernel_rfl)
                exact ob_load_int rfl e12 Xrst_ rfl
              · obtain ⟨hb1_, P0_, P1_, TY_, Xquo_, quo_, Xrst_, rst_, VXrst_, HB_⟩ := hG
                have d2 := dep_of hdep 2 (by kernel_rfl)
                have e57 := new_slot hf 2 57 d2 (by kernel_rfl)
                have p57 : IntV w1 (V 2) ((sg (na != nb) (nv qs)) - 1) := hφ 2 d2
                have e4 := old_slot hf 4 (by kernel_rfl)
                have hb0 := hψ 0 (by decide)
                rw [show [4, 5].getD 0 0 = 4 from rfl, hL] at hb0
                exact ob_fillOld_int rfl e4 e57 hb0 p57 (fun w2 h => h) rfl
              · obtain ⟨hb1_, P0_, P1_, TY_, Xquo_, quo_, Xrst_, rst_, VXrst_, HB_⟩ := hG
                have d3 := dep_of hdep 3 (by kernel_rfl)
                have e58 := (new_slot hf 3 58 d3 (by kernel_rfl)).trans (show V 3 = .agg #[.bool q950, .slice A950 n950 c950] from hφ 3 d3)
                have e5 := old_slot hf 5 (by kernel_rfl)
                have hb0 := hψ 1 (by decide)
                rw [show [4, 5].getD 1 0 = 5 from rfl, hL] at hb0
                exact ob_fillOld_int rfl e5 e58 hb0 VXrst_ (fun w2 h => h) rfl
              · obtain ⟨hb1_, P0_, P1_, TY_, Xquo_, quo_, Xrst_, rst_, VXrst_, HB_⟩ := hG
                exact ob_pure (v := .bool true) (ex_assignV rfl rfl) rfl
            · intro V W19 hG hsz19 hφ hψ hne
              have hlt19 : W17.heap.size ≤ W19.heap.size := hsz19
              obtain ⟨hb1_, P0_, P1_, TY_, Xquo_, quo_, Xrst_, rst_, VXrst_, HB_⟩ := hG
              have hb1 := hid hb1_
              have P0 := hid P0_
              have P1 := hid P1_
              have TY := hid TY_
              have Xquo := hid Xquo_
              have quo := hid quo_
              have Xrst := hid Xrst_
              have rst := hid rst_
              have VXrst := hid VXrst_
              have HB := hid HB_
              have y0 : V 0 = .agg #[.bool q511, .slice A511 n511 c511] := hφ 0 (by decide)
              have y3 : V 3 = .agg #[.bool q950, .slice A950 n950 c950] := hφ 3 (by decide)
              have y6 : V 6 = .bool true := hφ 6 (by decide)
              obtain ⟨q1950, A1950, n1950, c1950, kb1950, vb1950⟩ := hψ 0 (by decide)
              have R0 := hid kb1950
              have VR0 := hid vb1950
              clear kb1950 vb1950
              obtain ⟨q1951, A1951, n1951, c1951, kb1951, vb1951⟩ := hψ 1 (by decide)
              have R1 := hid kb1951
              have VR1 := hid vb1951
              clear kb1951 vb1951
              simp only [puts, Act.put, List.setIfInBounds_toArray, List.set_cons_zero, List.set_cons_succ, y0, y3, y6]
              clear hφ hψ hne y0 y3 y6 hb1_ P0_ P1_ TY_ Xquo_ quo_ Xrst_ rst_ VXrst_ HB_ hsz19
              obtain ⟨k20, l20, f20, g20⟩ := id R0.out.bx
              obtain ⟨k21, l21, f21, g21⟩ := id R1.out.bx
              go_wp2
              refine bodyPost_ret (v := .tuple #[.agg #[.bool q1950, .slice A1950 n1950 c1950], .agg #[.bool q1951, .slice A1951 n1951 c1951], .bool true]) (by simp [results, Try.results82, go_sem, k20, l20, k21, l21]) rfl ⟨⟨_, _, rfl, ?_, ?_⟩, HB.out⟩
              · have h1 := DS.out.1
                have h2 := VR0.out
                have h3 := HN.out
                have h4 := HBN.out
                have h5 := Y0.out
                have h6 := EB.out
                have h7 := RF.out.2.2
                rw [QF.out.2.2] at h2
                rw [h1]
                cases na with
                | false => rw [sg_false] at h3; have := M0.out; omega
                | true =>
                  rw [sg_true] at h3
                  cases nb with
                  | false => rw [if_pos ⟨rfl, by omega⟩]; rw [show sg (true != false) (nv xs / nv ys) - 1 = sg (true != false) (nv xs / nv ys + 1) from by (show -_ - 1 = -(_ + 1)); omega] at h2; exact h2
                  | true => rw [sg_true] at h6; omega
              · have h1 := DS.out.2
                have h2 := VR1.out
                have h3 := HN.out
                have h7 := RF.out.2.2
                rw [h1]
                cases na with
                | false => rw [sg_false] at h3; have := M0.out; omega
                | true =>
                  rw [sg_true] at h3
                  rw [if_pos ⟨rfl, by omega⟩]
                  rw [h7] at h2
                  have e : sg true (nv xs % nv ys) + sg false (nv ys) = nv ys - nv xs % nv ys := by simp [sg]; omega
                  rw [e] at h2; exact h2
      · have hd : decide (cm (sg na (nv rs)) 0 < 0) = false := by rw [decide_eq_false_iff_not]; rcases cm_form (sg na (nv rs)) 0 with ⟨h, e⟩ | ⟨h, e⟩ | ⟨h, e⟩ <;> omega
        have HN := hid hneg
        clear hneg
        obtain ⟨k22, l22, f22, g22⟩ := id Xrst.out.bx
        go_wp2_with fail
        refine (rsign_any _ _ (sg na (nv rs)) N (rst.out.arg SR.out)).mono ?_
        rintro e W23 ⟨rfl, hb23⟩
        clear k22 l22 f22 g22
        have HB := hid (bw_step HB.out hb23)
        have hb1 := hid (hb1.out.below hb23)
        have P0 := hid (P0.out.below hb23)
        have P1 := hid (P1.out.below hb23)
        have R0 := hid (R0.out.below hb23)
        have R1 := hid (R1.out.below hb23)
        have TY := hid (TY.out.below hb23)
        have Xquo := hid (Xquo.out.below hb23)
        have quo := hid (quo.out.below hb23)
        have Xrst := hid (Xrst.out.below hb23)
        have rst := hid (rst.out.below hb23)
        clear hb23
        go_wp2_with fail
        refine wp_region_each (by kernel_rfl) 5 61 rfl rfl (by kernel_rfl)
          [Fact.eq (.agg #[.bool q511, .slice A511 n511 c511]), Fact.eq (.agg #[.bool q512, .slice A512 n512 c512]), Fact.top _, Fact.top _, Fact.eq (.bool true)]
          [.val, .val, .fillOld 0, .fillOld 1, .val]
          (fun w' => IntA w' (.agg #[.bool nb, .slice Ar ys.length cr]) (b) N ∧ Blk w' (w.heap.size) 24 #[.bool na, .slice As xs.length cs] ∧ Blk w' (w.heap.size + 1) 24 #[.bool nb, .slice Ar ys.length cr] ∧ SlV w' (.slice A107 (tr ys).length c107) (tr ys) ∧ Blk w' (G5_11) 24 #[.bool q511, .slice A511 n511 c511] ∧ IntV w' (.agg #[.bool q511, .slice A511 n511 c511]) ((sg (na != nb) (nv qs))) ∧ Blk w' (G5_12) 24 #[.bool q512, .slice A512 n512 c512] ∧ IntV w' (.agg #[.bool q512, .slice A512 n512 c512]) ((sg na (nv rs))) ∧ Below w.heap.size w w')
          (fun l b w' => match l with
            | 0 => if b = true then BoxI w' (w.heap.size + 1 + 1) (sg (na != nb) (nv qs)) else Blk w' (w.heap.size + 1 + 1) 24 #[.bool false, .slice none 0 0]
            | 1 => if b = true then BoxI w' (w.heap.size + 1 + 1 + 1) (sg na (nv rs)) else Blk w' (w.heap.size + 1 + 1 + 1) 24 #[.bool false, .slice none 0 0]
            | _ => True)
          [2, 3] (fun l => match l with | 0 => w.heap.size + 1 + 1 | 1 => w.heap.size + 1 + 1 + 1 | _ => 0) (by kernel_rfl)
          ⟨hb1.out, P0.out, P1.out, TY.out, Xquo.out, quo.out, Xrst.out, rst.out, HB.out⟩
          (fun w1 w2 ⟨h0, h1, h2, h3, h4, h5, h6, h7, h8⟩ hb => ⟨h0.below hb, h1.below hb, h2.below hb, h3.below hb, h4.below hb, h5.below hb, h6.below hb, h7.below hb, bw_step h8 hb⟩)
          (fun w1 w2 g ⟨h0, h1, h2, h3, h4, h5, h6, h7, h8⟩ hg hn ho => by
            have hg' : W23.heap.size ≤ g ∨ g = w.heap.size + 1 + 1 ∨ g = w.heap.size + 1 + 1 + 1 := by
              rcases hg with h | ⟨l, hl, h⟩
              · exact .inl h
              · rcases l with _ | l
                · exact .inr (.inl h)
                · rcases l with _ | l
                  · exact .inr (.inr h)
                  · exact absurd hl (by simp)
            exact ⟨h0.only hn ho, h1.only ho (by have := P0.out.lt; have := P1.out.lt; have := R0.out.lt; have := R1.out.lt; have := Xquo.out.lt; have := Xrst.out.lt; omega), h2.only ho (by have := P0.out.lt; have := P1.out.lt; have := R0.out.lt; have := R1.out.lt; have := Xquo.out.lt; have := Xrst.out.lt; omega), h3.only hn ho, h4.only ho (by have := P0.out.lt; have := P1.out.lt; have := R0.out.lt; have := R1.out.lt; have := Xquo.out.lt; have := Xrst.out.lt; omega), h5.only hn ho, h6.only ho (by have := P0.out.lt; have := P1.out.lt; have := R0.out.lt; have := R1.out.lt; have := Xquo.out.lt; have := Xrst.out.lt; omega), h7.only hn ho, below_only h8 ho (by have := P0.out.lt; have := P1.out.lt; have := R0.out.lt; have := R1.out.lt; have := Xquo.out.lt; have := Xrst.out.lt; have := HB.out.size; omega)⟩)
          (fun l hl => by
              rcases l with _ | l
              · exact R0.out
              rcases l with _ | l
              · exact R1.out
              · exact absurd hl (by simp))
          (fun l b w1 w2 hl h hb => by
              rcases l with _ | l
              · (cases b <;> exact h.below hb)
              rcases l with _ | l
              · (cases b <;> exact h.below hb)
              · exact absurd hl (by simp))
          (fun l b w1 w2 g hl h hg hn ho => by
              rcases l with _ | l
              · (cases b; (exact h.only ho (Ne.symm hg)); (exact h.only (Ne.symm hg) hn ho))
              rcases l with _ | l
              · (cases b; (exact h.only ho (Ne.symm hg)); (exact h.only (Ne.symm hg) hn ho))
              · exact absurd hl (by simp))
          (fun l hl => by
              rcases l with _ | l
              · exact R0.out.lt
              rcases l with _ | l
              · exact R1.out.lt
              · exact absurd hl (by simp))
          (fun l k hl hk hne => by
            have hh : w.heap.size + 1 + 1 ≠ w.heap.size + 1 + 1 + 1 := by omega
            have h1 : l = 0 ∨ l = 1 := by simp at hl; omega
            have h2 : k = 0 ∨ k = 1 := by simp at hk; omega
            rcases h1 with rfl | rfl <;> rcases h2 with rfl | rfl
            · exact absurd rfl hne
            · exact hh
            · exact Ne.symm hh
            · exact absurd rfl hne)
          ?_ ?_
        · refine ⟨?_, ?_, ?_, ?_, ?_, trivial⟩ <;> intro L V a1 w1 hf hG hsz hφ hψ hL hdep hcl
          · obtain ⟨hb1_, P0_, P1_, TY_, Xquo_, quo_, Xrst_, rst_, HB_⟩ := hG
            have e11 := old_slot hf 11 (by kernel_rfl)
            exact ob_load_int rfl e11 Xquo_ rfl
          · obtain ⟨hb1_, P0_, P1_, TY_, Xquo_, quo_, Xrst_, rst_, HB_⟩ := hG
            have e12 := old_slot hf 12 (by kernel_rfl)
            exact ob_load_int rfl e12 Xrst_ rfl
          · obtain ⟨hb1_, P0_, P1_, TY_, Xquo_, quo_, Xrst_, rst_, HB_⟩ := hG
            have d0 := dep_of hdep 0 (by kernel_rfl)
            have e59 := (new_slot hf 0 59 d0 (by kernel_rfl)).trans (show V 0 = .agg #[.bool q511, .slice A511 n511 c511] from hφ 0 d0)
            have e4 := old_slot hf 4 (by kernel_rfl)
            have hb0 := hψ 0 (by decide)
            rw [show [2, 3].getD 0 0 = 2 from rfl, hL] at hb0
            exact ob_fillOld_int rfl e4 e59 hb0 quo_ (fun w2 h => h) rfl
          · obtain ⟨hb1_, P0_, P1_, TY_, Xquo_, quo_, Xrst_, rst_, HB_⟩ := hG
            have d1 := dep_of hdep 1 (by kernel_rfl)
            have e60 := (new_slot hf 1 60 d1 (by kernel_rfl)).trans (show V 1 = .agg #[.bool q512, .slice A512 n512 c512] from hφ 1 d1)
            have e5 := old_slot hf 5 (by kernel_rfl)
            have hb0 := hψ 1 (by decide)
            rw [show [2, 3].getD 1 0 = 3 from rfl, hL] at hb0
            exact ob_fillOld_int rfl e5 e60 hb0 rst_ (fun w2 h => h) rfl
          · obtain ⟨hb1_, P0_, P1_, TY_, Xquo_, quo_, Xrst_, rst_, HB_⟩ := hG
            exact ob_pure (v := .bool true) (ex_assignV rfl rfl) rfl
        · intro V W24 hG hsz24 hφ hψ hne
          have hlt24 : W23.heap.size ≤ W24.heap.size := hsz24
          obtain ⟨hb1_, P0_, P1_, TY_, Xquo_, quo_, Xrst_, rst_, HB_⟩ := hG
          have hb1 := hid hb1_
          have P0 := hid P0_
          have P1 := hid P1_
          have TY := hid TY_
          have Xquo := hid Xquo_
          have quo := hid quo_
          have Xrst := hid Xrst_
          have rst := hid rst_
          have HB := hid HB_
          have y0 : V 0 = .agg #[.bool q511, .slice A511 n511 c511] := hφ 0 (by decide)
          have y1 : V 1 = .agg #[.bool q512, .slice A512 n512 c512] := hφ 1 (by decide)
          have y4 : V 4 = .bool true := hφ 4 (by decide)
          obtain ⟨q2450, A2450, n2450, c2450, kb2450, vb2450⟩ := hψ 0 (by decide)
          have R0 := hid kb2450
          have VR0 := hid vb2450
          clear kb2450 vb2450
          obtain ⟨q2451, A2451, n2451, c2451, kb2451, vb2451⟩ := hψ 1 (by decide)
          have R1 := hid kb2451
          have VR1 := hid vb2451
          clear kb2451 vb2451
          simp only [puts, Act.put, List.setIfInBounds_toArray, List.set_cons_zero, List.set_cons_succ, y0, y1, y4]
          clear hφ hψ hne y0 y1 y4 hb1_ P0_ P1_ TY_ Xquo_ quo_ Xrst_ rst_ HB_ hsz24
          obtain ⟨k25, l25, f25, g25⟩ := id R0.out.bx
          obtain ⟨k26, l26, f26, g26⟩ := id R1.out.bx
          go_wp2
          refine bodyPost_ret (v := .tuple #[.agg #[.bool q2450, .slice A2450 n2450 c2450], .agg #[.bool q2451, .slice A2451 n2451 c2451], .bool true]) (by simp [results, Try.results82, go_sem, k25, l25, k26, l26]) rfl ⟨⟨_, _, rfl, ?_, ?_⟩, HB.out⟩
          · have h1 := DS.out.1
            have h2 := VR0.out
            have h3 := HN.out
            have h7 := RF.out.2.2
            rw [QF.out.2.2] at h2
            rw [h1]
            cases na with
            | false => rw [if_neg (by simp)]; exact h2
            | true =>
              rw [sg_true] at h3
              rw [if_neg (by have := M0.out; omega)]; exact h2
          · have h1 := DS.out.2
            have h2 := VR1.out
            have h3 := HN.out
            have h7 := RF.out.2.2
            rw [h1]
            rw [h7] at h2
            cases na with
            | false => rw [if_neg (by simp)]; exact h2
            | true =>
              rw [sg_true] at h3 h2
              rw [if_neg (by have := M0.out; omega)]
              have e : -(nv xs % nv ys) = nv xs % nv ys := by have := M0.out; omega
              rw [e] at h2; exact h2
end Go.Proofs.Ytklamiajcdkmnaa

namespace Go.Proofs.Ytklamiajcdkmnaa
open Go.RowKit
set_option linter.unusedVariables false
set_option maxRecDepth 100000

theorem rrem_any (w : World) (v u : Value) (a b : Int) (N : Nat) (hN : N ≤ 1000000) (ha : IntA w v a N) (hb : IntA w u b N) (hb0 : b ≠ 0) :
    Calls Try.prog 81 #[v, u] w fun e w' => RetI w' (a % b) e ∧ Below w.heap.size w w' := by
  obtain ⟨na, As, sn, cs, rfl⟩ := ha.form
  obtain ⟨nb, Ar, rn, cr, rfl⟩ := hb.form
  have FA := hid ha
  have FB := hid hb
  clear ha hb
  have HB := hid (Below.refl w.heap.size w)
  obtain ⟨W, hW⟩ : ∃ W, W = (((w.alloc (.cells #[.bool na, .slice As sn cs] 24)).alloc (.cells #[.bool nb, .slice Ar rn cr] 24)).alloc (.cells #[.bool false, .slice none 0 0] 24)) := ⟨_, rfl⟩
  have hbb : Below w.heap.size w W := by rw [hW]; exact (bw_alloc (bw_alloc (bw_alloc (Below.refl _ _) _) _) _)
  have HB := hid (bw_step HB.out hbb)
  have FA := hid (FA.out.below hbb)
  have FB := hid (FB.out.below hbb)
  have P0 : Hid (Blk W (w.heap.size) 24 #[.bool na, .slice As sn cs]) := by
    rw [hW]
    have := ((Blk.new w 24 #[.bool na, .slice As sn cs]).below (bw_alloc (Below.refl _ _) (.cells #[.bool nb, .slice Ar rn cr] 24))).below (bw_alloc (Below.refl _ _) (.cells #[.bool false, .slice none 0 0] 24))
    exact hid (by simpa only [World.size_alloc] using this)
  have P1 : Hid (Blk W (w.heap.size + 1) 24 #[.bool nb, .slice Ar rn cr]) := by
    rw [hW]
    have := (Blk.new (w.alloc (.cells #[.bool na, .slice As sn cs] 24)) 24 #[.bool nb, .slice Ar rn cr]).below (bw_alloc (Below.refl _ _) (.cells #[.bool false, .slice none 0 0] 24))
    exact hid (by simpa only [World.size_alloc] using this)
  have R0 : Hid (Blk W (w.heap.size + 1 + 1) 24 #[.bool false, .slice none 0 0]) := by
    rw [hW]
    have := Blk.new ((w.alloc (.cells #[.bool na, .slice As sn cs] 24)).alloc (.cells #[.bool nb, .slice Ar rn cr] 24)) 24 #[.bool false, .slice none 0 0]
    exact hid (by simpa only [World.size_alloc] using this)
  clear hbb
  obtain ⟨k1, l1, f1, g1⟩ := id P0.out.bx
  obtain ⟨k2, l2, f2, g2⟩ := id P1.out.bx
  go_enter Try.func81, Try.ntmps81
  go_wp2_with fail
  rw [← hW]
  clear hW
  refine (rdivMod_any _ _ _ a b N hN FA.out FB.out hb0).mono ?_
  rintro e W3 ⟨⟨u1, u2, rfl, hu1, hu2⟩, hb3⟩
  clear k1 l1 f1 g1 k2 l2 f2 g2
  have HB := hid (bw_step HB.out hb3)
  have FA := hid (FA.out.below hb3)
  have FB := hid (FB.out.below hb3)
  have P0 := hid (P0.out.below hb3)
  have P1 := hid (P1.out.below hb3)
  have R0 := hid (R0.out.below hb3)
  clear hb3
  obtain ⟨q1, A1, n1, c1, rfl⟩ := hu1.form
  obtain ⟨q2, A2, n2, c2, rfl⟩ := hu2.form
  have U2 := hid hu2
  clear hu1 hu2
  have hb1 := bw_two W3 (.cells #[.bool q1, .slice A1 n1 c1] 24) (.cells #[.bool q2, .slice A2 n2 c2] 24)
  have x0 := R0.out.bx.below hb1
  have F := hid (fin_any (HB.out.trans (hb1.mono HB.out.size)) (g := w.heap.size + 1 + 1) (by omega) x0.1 x0.2.1 (U2.out.below hb1) (.bool q2) (.slice A2 n2 c2))
  clear hb1
  obtain ⟨k5, k6, f5, f6⟩ := id x0
  go_wp2
  exact bodyPost_ret (v := .agg #[.bool q2, .slice A2 n2 c2]) (by simp [results, Try.results81, go_sem, k5, k6]) rfl ⟨⟨_, rfl, F.out.1⟩, F.out.2⟩

end Go.Proofs.Ytklamiajcdkmnaa

namespace Go.Proofs.Ytklamiajcdkmnaa
open Go.RowKit
set_option linter.unusedVariables false
set_option maxRecDepth 100000

set_option maxHeartbeats 4000000 in
theorem rgcd_any (w : World) (v u : Value) (a b : Int) (N : Nat) (hN : N ≤ 1000000) (ha : IntA w v a N) (hb : IntA w u b N) :
    Calls Try.prog 60 #[v, u] w fun e w' => RetI w' ((Int.gcd a b : Nat) : Int) e ∧ Below w.heap.size w w' := by
  obtain ⟨na, As, sn, cs, rfl⟩ := ha.form
  obtain ⟨nb, Ar, rn, cr, rfl⟩ := hb.form
  have FA := hid ha
  have FB := hid hb
  clear ha hb
  have HB := hid (Below.refl w.heap.size w)
  obtain ⟨W, hW⟩ : ∃ W, W = (((w.alloc (.cells #[.bool na, .slice As sn cs] 24)).alloc (.cells #[.bool nb, .slice Ar rn cr] 24)).alloc (.cells #[.bool false, .slice none 0 0] 24)) := ⟨_, rfl⟩
  have hbb : Below w.heap.size w W := by rw [hW]; exact (bw_alloc (bw_alloc (bw_alloc (Below.refl _ _) _) _) _)
  have HB := hid (bw_step HB.out hbb)
  have FA := hid (FA.out.below hbb)
  have FB := hid (FB.out.below hbb)
  have P0 : Hid (Blk W (w.heap.size) 24 #[.bool na, .slice As sn cs]) := by
    rw [hW]
    have := ((Blk.new w 24 #[.bool na, .slice As sn cs]).below (bw_alloc (Below.refl _ _) (.cells #[.bool nb, .slice Ar rn cr] 24))).below (bw_alloc (Below.refl _ _) (.cells #[.bool false, .slice none 0 0] 24))
    exact hid (by simpa only [World.size_alloc] using this)
  have P1 : Hid (Blk W (w.heap.size + 1) 24 #[.bool nb, .slice Ar rn cr]) := by
    rw [hW]
    have := (Blk.new (w.alloc (.cells #[.bool na, .slice As sn cs] 24)) 24 #[.bool nb, .slice Ar rn cr]).below (bw_alloc (Below.refl _ _) (.cells #[.bool false, .slice none 0 0] 24))
    exact hid (by simpa only [World.size_alloc] using this)
  have R0 : Hid (Blk W (w.heap.size + 1 + 1) 24 #[.bool false, .slice none 0 0]) := by
    rw [hW]
    have := Blk.new ((w.alloc (.cells #[.bool na, .slice As sn cs] 24)).alloc (.cells #[.bool nb, .slice Ar rn cr] 24)) 24 #[.bool false, .slice none 0 0]
    exact hid (by simpa only [World.size_alloc] using this)
  clear hbb
  go_enter Try.func60, Try.ntmps60
  go_wp2_with fail
  rw [← hW]
  clear hW
  have SM1 : Hid (Sm N (((a).natAbs : Nat) : Int)) := hid ((FA.out.sm).absv)
  have SM2 : Hid (Sm N (((b).natAbs : Nat) : Int)) := hid ((FB.out.sm).absv)
  have lt2_P0 := P0.out.lt
  have lt2_P1 := P1.out.lt
  have lt2_R0 := R0.out.lt
  refine wp_region_each (by kernel_rfl) 8 19 rfl rfl (by kernel_rfl)
    [Fact.eq (.agg #[.bool na, .slice As sn cs]), Fact.int (((a).natAbs : Nat) : Int), Fact.eq (.agg #[.bool nb, .slice Ar rn cr]), Fact.int (((b).natAbs : Nat) : Int), Fact.box (((a).natAbs : Nat) : Int), Fact.box (((b).natAbs : Nat) : Int), Fact.top _, Fact.top _]
    [.val, .val, .val, .val, .alloc 6, .alloc 7, .fill 4, .fill 5]
    (fun w' => IntA w' (.agg #[.bool na, .slice As sn cs]) (a) N ∧ IntA w' (.agg #[.bool nb, .slice Ar rn cr]) (b) N ∧ Blk w' (w.heap.size) 24 #[.bool na, .slice As sn cs] ∧ Blk w' (w.heap.size + 1) 24 #[.bool nb, .slice Ar rn cr] ∧ Blk w' (w.heap.size + 1 + 1) 24 #[.bool false, .slice none 0 0] ∧ Below w.heap.size w w')
    (fun _ _ _ => True) [] (fun _ => 0) (by kernel_rfl)
    ⟨FA.out, FB.out, P0.out, P1.out, R0.out, HB.out⟩
    (fun w1 w2 ⟨h0, h1, h2, h3, h4, h5⟩ hb => ⟨h0.below hb, h1.below hb, h2.below hb, h3.below hb, h4.below hb, bw_step h5 hb⟩)
    (fun w1 w2 g ⟨h0, h1, h2, h3, h4, h5⟩ hg hn ho => by
      have hg' : W.heap.size ≤ g := hg.elim id (fun ⟨_, h, _⟩ => absurd h (Nat.not_lt_zero _))
      exact ⟨h0.only hn ho, h1.only hn ho, h2.only ho (by have := P0.out.lt; have := P1.out.lt; have := R0.out.lt; omega), h3.only ho (by have := P0.out.lt; have := P1.out.lt; have := R0.out.lt; omega), h4.only ho (by have := P0.out.lt; have := P1.out.lt; have := R0.out.lt; omega), below_only h5 ho (by have := P0.out.lt; have := P1.out.lt; have := R0.out.lt; have := HB.out.size; omega)⟩)
    (fun l h => trivial) (fun l b w1 w2 h _ _ => trivial) (fun l b w1 w2 g h _ _ _ _ => trivial) (fun l h => by cases h) (fun l k h => by cases h) ?_ ?_
  · refine ⟨?_, ?_, ?_, ?_, ?_, ?_, ?_, ?_, trivial⟩ <;> intro L V a1 w1 hf hG hsz hφ hψ hL hdep hcl
    · obtain ⟨FA_, FB_, P0_, P1_, R0_, HB_⟩ := hG
      have e2 := old_slot hf 2 (by kernel_rfl)
      exact ob_load_int rfl e2 P0_ rfl
    · obtain ⟨FA_, FB_, P0_, P1_, R0_, HB_⟩ := hG
      have d0 := dep_of hdep 0 (by kernel_rfl)
      have e7 := (new_slot hf 0 7 d0 (by kernel_rfl)).trans (show V 0 = .agg #[.bool na, .slice As sn cs] from hφ 0 d0)
      refine ob_go rfl (vs := #[.agg #[.bool na, .slice As sn cs]]) (by simp only [List.map_toArray, List.map_cons, List.map_nil, e7]) (by kernel_rfl) (rabs_any _ (.agg #[.bool na, .slice As sn cs]) a N FA_ ) ?_
      rintro e w2 ⟨⟨v, rfl, hv⟩, hb⟩
      exact ⟨v, rfl, hb, hv⟩
    · obtain ⟨FA_, FB_, P0_, P1_, R0_, HB_⟩ := hG
      have e3 := old_slot hf 3 (by kernel_rfl)
      exact ob_load_int rfl e3 P1_ rfl
    · obtain ⟨FA_, FB_, P0_, P1_, R0_, HB_⟩ := hG
      have d2 := dep_of hdep 2 (by kernel_rfl)
      have e9 := (new_slot hf 2 9 d2 (by kernel_rfl)).trans (show V 2 = .agg #[.bool nb, .slice Ar rn cr] from hφ 2 d2)
      refine ob_go rfl (vs := #[.agg #[.bool nb, .slice Ar rn cr]]) (by simp only [List.map_toArray, List.map_cons, List.map_nil, e9]) (by kernel_rfl) (rabs_any _ (.agg #[.bool nb, .slice Ar rn cr]) b N FB_ ) ?_
      rintro e w2 ⟨⟨v, rfl, hv⟩, hb⟩
      exact ⟨v, rfl, hb, hv⟩
    · obtain ⟨FA_, FB_, P0_, P1_, R0_, HB_⟩ := hG
      exact ob_alloc_int rfl hsz rfl
    · obtain ⟨FA_, FB_, P0_, P1_, R0_, HB_⟩ := hG
      exact ob_alloc_int rfl hsz rfl
    · obtain ⟨FA_, FB_, P0_, P1_, R0_, HB_⟩ := hG
      have d1 := dep_of hdep 1 (by kernel_rfl)
      have e8 := new_slot hf 1 8 d1 (by kernel_rfl)
      have p8 : IntV w1 (V 1) (((a).natAbs : Nat) : Int) := hφ 1 d1
      have d4 := dep_of hdep 4 (by kernel_rfl)
      obtain ⟨g, h1, h2, h3⟩ := hφ 4 d4
      exact ob_fill_int rfl ((new_slot hf 4 5 d4 (by kernel_rfl)).trans h1) e8 h1 h2 h3 p8 rfl rfl
    · obtain ⟨FA_, FB_, P0_, P1_, R0_, HB_⟩ := hG
      have d3 := dep_of hdep 3 (by kernel_rfl)
      have e10 := new_slot hf 3 10 d3 (by kernel_rfl)
      have p10 : IntV w1 (V 3) (((b).natAbs : Nat) : Int) := hφ 3 d3
      have d5 := dep_of hdep 5 (by kernel_rfl)
      obtain ⟨g, h1, h2, h3⟩ := hφ 5 d5
      exact ob_fill_int rfl ((new_slot hf 5 6 d5 (by kernel_rfl)).trans h1) e10 h1 h2 h3 p10 rfl rfl
  · intro V W3 hG hsz3 hφ hψ hne
    have hlt3 : W.heap.size ≤ W3.heap.size := hsz3
    obtain ⟨FA_, FB_, P0_, P1_, R0_, HB_⟩ := hG
    have FA := hid FA_
    have FB := hid FB_
    have P0 := hid P0_
    have P1 := hid P1_
    have R0 := hid R0_
    have HB := hid HB_
    have y0 : V 0 = .agg #[.bool na, .slice As sn cs] := hφ 0 (by decide)
    have y2 : V 2 = .agg #[.bool nb, .slice Ar rn cr] := hφ 2 (by decide)
    obtain ⟨G3_4, y4, gb304, q304, A304, n304, c304, kb304, vb304⟩ := hφ 4 (by decide)
    have Xx := hid kb304
    have x := hid vb304
    clear kb304 vb304
    obtain ⟨G3_5, y5, gb305, q305, A305, n305, c305, kb305, vb305⟩ := hφ 5 (by decide)
    have Xy := hid kb305
    have y := hid vb305
    clear kb305 vb305
    have ne3_4_5 : G3_4 ≠ G3_5 := fun e => hne 4 5 (by decide) rfl rfl (by rw [y4, y5, e])
    simp only [puts, Act.put, List.setIfInBounds_toArray, List.set_cons_zero, List.set_cons_succ, y0, y2, y4, y5, ptr]
    clear hφ hψ hne y0 y2 y4 y5 FA_ FB_ P0_ P1_ R0_ HB_ hsz3
    go_wp2
    go_loopg [] (b.natAbs) (fun gk wr => ∃ X Y : Int, Hid (0 ≤ X) ∧ Hid (0 ≤ Y) ∧ Hid (gk = Y.toNat) ∧ Hid (Int.gcd X Y = Int.gcd a b) ∧ Hid (Sm N X) ∧ Hid (Sm N Y) ∧ Hid (BoxI wr G3_4 X) ∧ Hid (BoxI wr G3_5 Y) ∧ Hid (Blk wr (w.heap.size + 1 + 1) 24 #[.bool false, .slice none 0 0]) ∧ Hid (Below w.heap.size w wr))
    case atStart => exact ⟨_, _, hid (Int.natCast_nonneg _), hid (Int.natCast_nonneg _), hid (by omega), hid (gcd_natAbs a b), SM1, SM2, ⟨_, _, _, _, Xx.out, x.out⟩, ⟨_, _, _, _, Xy.out, y.out⟩, R0.out, HB.out⟩
    case round =>
      clear FA FB P0 P1 R0 HB Xx Xy x y SM1 SM2
      obtain ⟨X, Y, X0, Y0, HG, HGC, SX, SY, BX, BY, R0, HB⟩ := hrel
      obtain ⟨qx, Ax, nx, cx, kx, vx⟩ := BX.out
      obtain ⟨qy, Ay, ny, cy, ky, vy⟩ := BY.out
      have Xx := hid kx
      have Xy := hid ky
      have x := hid vx
      have y := hid vy
      clear BX BY kx ky vx vy
      by_cases hy : Y = 0
      · have hc : (cm Y 0 == 0) = true := by rw [hy]; rfl
        have hc2 : (cm Y 0 != 0) = false := by rw [hy]; rfl
        have HY := hid hy
        clear hy
        obtain ⟨k4, l4, f4, g4⟩ := id Xy.out.bx
        go_wp2_with fail
        refine (rsign_any _ _ Y N (y.out.arg SY.out)).mono ?_
        rintro e W5 ⟨rfl, hb5⟩
        clear k4 l4 f4 g4
        have HB := hid (bw_step HB.out hb5)
        have R0 := hid (R0.out.below hb5)
        have Xx := hid (Xx.out.below hb5)
        have x := hid (x.out.below hb5)
        have Xy := hid (Xy.out.below hb5)
        have y := hid (y.out.below hb5)
        clear hb5
        obtain ⟨k6, l6, f6, g6⟩ := id Xx.out.bx
        obtain ⟨k7, l7, f7, g7⟩ := id R0.out.bx
        have F := hid (fin_any HB.out (g := w.heap.size + 1 + 1) (by omega) k7 l7 x.out (.bool qx) (.slice Ax nx cx))
        have hX : ((Int.gcd a b : Nat) : Int) = X := by rw [← HGC.out, HY.out]; exact gcd_zero' X0.out
        have HX := hid hX
        clear hX
        go_wp2
        refine bodyPost_ret (v := .agg #[.bool qx, .slice Ax nx cx]) (by simp [results, Try.results60, go_sem, k7, l7]) rfl ⟨⟨_, rfl, ?_⟩, F.out.2⟩
        rw [HX.out]; exact F.out.1
      · have hc : (cm Y 0 == 0) = false := by
          rw [beq_eq_false_iff_ne]; rcases cm_form Y 0 with ⟨h, e⟩ | ⟨h, e⟩ | ⟨h, e⟩ <;> omega
        have hc2 : (cm Y 0 != 0) = true := by
          rw [bne_iff_ne]; rcases cm_form Y 0 with ⟨h, e⟩ | ⟨h, e⟩ | ⟨h, e⟩ <;> omega
        have HY := hid hy
        clear hy
        obtain ⟨k8, l8, f8, g8⟩ := id Xy.out.bx
        go_wp2_with fail
        refine (rsign_any _ _ Y N (y.out.arg SY.out)).mono ?_
        rintro e W9 ⟨rfl, hb9⟩
        clear k8 l8 f8 g8
        have HB := hid (bw_step HB.out hb9)
        have R0 := hid (R0.out.below hb9)
        have Xx := hid (Xx.out.below hb9)
        have x := hid (x.out.below hb9)
        have Xy := hid (Xy.out.below hb9)
        have y := hid (y.out.below hb9)
        clear hb9
        go_wp2_with fail
        have SR : Hid (Sm N (X % Y)) := hid (SY.out.rem HY.out)
        refine wp_region_each (by kernel_rfl) 6 19 rfl rfl (by kernel_rfl)
          [Fact.eq (.agg #[.bool qy, .slice Ay ny cy]), Fact.eq (.agg #[.bool qx, .slice Ax nx cx]), Fact.eq (.agg #[.bool qy, .slice Ay ny cy]), Fact.int (X % Y), Fact.top _, Fact.top _]
          [.val, .val, .val, .val, .fillOld 0, .fillOld 1]
          (fun w' => Blk w' (w.heap.size + 1 + 1) 24 #[.bool false, .slice none 0 0] ∧ IntV w' (.agg #[.bool qx, .slice Ax nx cx]) (X) ∧ IntV w' (.agg #[.bool qy, .slice Ay ny cy]) (Y) ∧ Below w.heap.size w w')
          (fun l b w' => match l with
            | 0 => if b = true then BoxI w' (G3_4) Y else Blk w' (G3_4) 24 #[.bool qx, .slice Ax nx cx]
            | 1 => if b = true then BoxI w' (G3_5) (X % Y) else Blk w' (G3_5) 24 #[.bool qy, .slice Ay ny cy]
            | _ => True)
          [4, 5] (fun l => match l with | 0 => G3_4 | 1 => G3_5 | _ => 0) (by kernel_rfl)
          ⟨R0.out, x.out, y.out, HB.out⟩
          (fun w1 w2 ⟨h0, h1, h2, h3⟩ hb => ⟨h0.below hb, h1.below hb, h2.below hb, bw_step h3 hb⟩)
          (fun w1 w2 g ⟨h0, h1, h2, h3⟩ hg hn ho => by
            have hg' : W9.heap.size ≤ g ∨ g = G3_4 ∨ g = G3_5 := by
              rcases hg with h | ⟨l, hl, h⟩
              · exact .inl h
              · rcases l with _ | l
                · exact .inr (.inl h)
                · rcases l with _ | l
                  · exact .inr (.inr h)
                  · exact absurd hl (by simp)
            exact ⟨h0.only ho (by have := R0.out.lt; have := Xx.out.lt; have := Xy.out.lt; omega), h1.only hn ho, h2.only hn ho, below_only h3 ho (by have := R0.out.lt; have := Xx.out.lt; have := Xy.out.lt; have := HB.out.size; omega)⟩)
          (fun l hl => by
              rcases l with _ | l
              · exact Xx.out
              rcases l with _ | l
              · exact Xy.out
              · exact absurd hl (by simp))
          (fun l b w1 w2 hl h hb => by
              rcases l with _ | l
              · (cases b <;> exact h.below hb)
              rcases l with _ | l
              · (cases b <;> exact h.below hb)
              · exact absurd hl (by simp))
          (fun l b w1 w2 g hl h hg hn ho => by
              rcases l with _ | l
              · (cases b; (exact h.only ho (Ne.symm hg)); (exact h.only (Ne.symm hg) hn ho))
              rcases l with _ | l
              · (cases b; (exact h.only ho (Ne.symm hg)); (exact h.only (Ne.symm hg) hn ho))
              · exact absurd hl (by simp))
          (fun l hl => by
              rcases l with _ | l
              · exact Xx.out.lt
              rcases l with _ | l
              · exact Xy.out.lt
              · exact absurd hl (by simp))
          (fun l k hl hk hne => by
            have hh : G3_4 ≠ G3_5 := by omega
            have h1 : l = 0 ∨ l = 1 := by simp at hl; omega
            have h2 : k = 0 ∨ k = 1 := by simp at hk; omega
            rcases h1 with rfl | rfl <;> rcases h2 with rfl | rfl
            · exact absurd rfl hne
            · exact hh
            · exact Ne.symm hh
            · exact absurd rfl hne)
          ?_ ?_
        · refine ⟨?_, ?_, ?_, ?_, ?_, ?_, trivial⟩ <;> intro L V a1 w1 hf hG hsz hφ hψ hL hdep hcl
          · obtain ⟨R0_, x_, y_, HB_⟩ := hG
            have e6 := old_slot hf 6 (by kernel_rfl)
            have hb0 := hψ 1 (by decide)
            rw [show [4, 5].getD 1 0 = 5 from rfl, not_yet hcl 5 0 hL (by kernel_rfl)] at hb0
            exact ob_load_int rfl e6 hb0 rfl
          · obtain ⟨R0_, x_, y_, HB_⟩ := hG
            have e5 := old_slot hf 5 (by kernel_rfl)
            have hb0 := hψ 0 (by decide)
            rw [show [4, 5].getD 0 0 = 4 from rfl, not_yet hcl 4 1 hL (by kernel_rfl)] at hb0
            exact ob_load_int rfl e5 hb0 rfl
          · obtain ⟨R0_, x_, y_, HB_⟩ := hG
            have e6 := old_slot hf 6 (by kernel_rfl)
            have hb0 := hψ 1 (by decide)
            rw [show [4, 5].getD 1 0 = 5 from rfl, not_yet hcl 5 2 hL (by kernel_rfl)] at hb0
            exact ob_load_int rfl e6 hb0 rfl
          · obtain ⟨R0_, x_, y_, HB_⟩ := hG
            have d1 := dep_of hdep 1 (by kernel_rfl)
            have e15 := (new_slot hf 1 15 d1 (by kernel_rfl)).trans (show V 1 = .agg #[.bool qx, .slice Ax nx cx] from hφ 1 d1)
            have d2 := dep_of hdep 2 (by kernel_rfl)
            have e16 := (new_slot hf 2 16 d2 (by kernel_rfl)).trans (show V 2 = .agg #[.bool qy, .slice Ay ny cy] from hφ 2 d2)
            refine ob_go rfl (vs := #[.agg #[.bool qx, .slice Ax nx cx], .agg #[.bool qy, .slice Ay ny cy]]) (by simp only [List.map_toArray, List.map_cons, List.map_nil, e15, e16]) (by kernel_rfl) (rrem_any _ _ _ X Y N hN (x_.arg SX.out) (y_.arg SY.out) HY.out) ?_
            rintro e w2 ⟨⟨v, rfl, hv⟩, hb⟩
            exact ⟨v, rfl, hb, hv⟩
          · obtain ⟨R0_, x_, y_, HB_⟩ := hG
            have d0 := dep_of hdep 0 (by kernel_rfl)
            have e14 := (new_slot hf 0 14 d0 (by kernel_rfl)).trans (show V 0 = .agg #[.bool qy, .slice Ay ny cy] from hφ 0 d0)
            have e5 := old_slot hf 5 (by kernel_rfl)
            have hb0 := hψ 0 (by decide)
            rw [show [4, 5].getD 0 0 = 4 from rfl, hL] at hb0
            exact ob_fillOld_int rfl e5 e14 hb0 y_ (fun w2 h => h) rfl
          · obtain ⟨R0_, x_, y_, HB_⟩ := hG
            have d3 := dep_of hdep 3 (by kernel_rfl)
            have e17 := new_slot hf 3 17 d3 (by kernel_rfl)
            have p17 : IntV w1 (V 3) (X % Y) := hφ 3 d3
            have e6 := old_slot hf 6 (by kernel_rfl)
            have hb0 := hψ 1 (by decide)
            rw [show [4, 5].getD 1 0 = 5 from rfl, hL] at hb0
            exact ob_fillOld_int rfl e6 e17 hb0 p17 (fun w2 h => h) rfl
        · intro V W10 hG hsz10 hφ hψ hne
          have hlt10 : W9.heap.size ≤ W10.heap.size := hsz10
          obtain ⟨R0_, x_, y_, HB_⟩ := hG
          have R0 := hid R0_
          have x := hid x_
          have y := hid y_
          have HB := hid HB_
          have y0 : V 0 = .agg #[.bool qy, .slice Ay ny cy] := hφ 0 (by decide)
          have y1 : V 1 = .agg #[.bool qx, .slice Ax nx cx] := hφ 1 (by decide)
          have y2 : V 2 = .agg #[.bool qy, .slice Ay ny cy] := hφ 2 (by decide)
          obtain ⟨q1050, A1050, n1050, c1050, kb1050, vb1050⟩ := hψ 0 (by decide)
          have Xx := hid kb1050
          have VXx := hid vb1050
          clear kb1050 vb1050
          obtain ⟨q1051, A1051, n1051, c1051, kb1051, vb1051⟩ := hψ 1 (by decide)
          have Xy := hid kb1051
          have VXy := hid vb1051
          clear kb1051 vb1051
          simp only [puts, Act.put, List.setIfInBounds_toArray, List.set_cons_zero, List.set_cons_succ, y0, y1, y2]
          clear hφ hψ hne y0 y1 y2 R0_ x_ y_ HB_ hsz10
          go_wp2
          go_roundg (X % Y).toNat
          case measure =>
            have h1 := HG.out
            have h2 := Y0.out
            have h3 := HY.out
            have h4 := Int.emod_nonneg X h3
            have h5 := Int.emod_lt_of_pos X (show 0 < Y by omega)
            omega
          case rel => exact ⟨Y, X % Y, Y0, hid (Int.emod_nonneg X HY.out), hid rfl, hid (by rw [gcd_emod X0.out Y0.out]; exact HGC.out), SY, SR, ⟨_, _, _, _, Xx.out, VXx.out⟩, ⟨_, _, _, _, Xy.out, VXy.out⟩, R0.out, HB.out⟩
end Go.Proofs.Ytklamiajcdkmnaa

