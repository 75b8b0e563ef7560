/- A part of the proof of the laws of rationals: RDivMod, RDivZero, RGcd, RNewR, RatRef1. -/
import Derived.Test.YtijmjkkjopplbaaPam
import Derived.Test.YtijmjkkjopplbaaPkRationalNormalizesh
import Derived.Test.YtijmjkkjopplbaaPae
import Derived.Test.YtijmjkkjopplbaaPab
import Derived.Test.YtijmjkkjopplbaaPad
import Derived.Test.YtijmjkkjopplbaaPal
import Derived.Test.YtijmjkkjopplbaaPkRationalNormalizesb
import Derived.Test.YtijmjkkjopplbaaPac
import Derived.Test.YtijmjkkjopplbaaPat
import Derived.Test.YtijmjkkjopplbaaPkRationalNormalizesa
import Derived.Test.YtijmjkkjopplbaaPaa
import Derived.Test.YtijmjkkjopplbaaPai
import Derived.Test.YtijmjkkjopplbaaPas
import Derived.Test.YtijmjkkjopplbaaPkRationalNormalizesf
import Derived.Test.YtijmjkkjopplbaaPkRationalNormalizesg
import Derived.Test.YtijmjkkjopplbaaPkRationalNormalizesd
import Derived.Test.YtijmjkkjopplbaaPau
import Derived.Test.YtijmjkkjopplbaaPkRationalNormalizesi
import Derived.Test.YtijmjkkjopplbaaPkRationalNormalizese
import Derived.Test.YtijmjkkjopplbaaPar
import Derived.Test.YtijmjkkjopplbaaPav
import Derived.Test.YtijmjkkjopplbaaPak
import Derived.Test.YtijmjkkjopplbaaPao
import Derived.Test.YtijmjkkjopplbaaPaw
import Derived.Test.YtijmjkkjopplbaaPap
import Derived.Test.YtijmjkkjopplbaaPan
import Derived.Test.YtijmjkkjopplbaaPkRationalNormalizesc
namespace Go.Proofs.Ytijmjkkjopplbaa
open Go.RowKit
set_option linter.unusedVariables false
set_option maxRecDepth 100000

set_option maxHeartbeats 8000000 in
theorem rdivMod_any (w : World) (v u : Value) (a b : Int) (N : Nat) (hN : N ≤ 1000000) (ha : IntA w v a N) (hb : IntA w u b N) (hb0 : b ≠ 0) :
    Calls Try.prog 74 #[v, u] w fun e w' => RetQI w' a b e ∧ Below w.heap.size w w' := by
  obtain ⟨na, s, xs, rfl, hs, hl, hxn, ea⟩ := ha
  obtain ⟨nb, r, ys, rfl, hr, hk, hyn, eb⟩ := hb
  obtain ⟨As, cs, rfl, hcs, _⟩ := id hs
  obtain ⟨Ar, cr, rfl, hcr, _⟩ := id hr
  have hy0 : 0 < nv ys := by
    have := nv_nonneg hk
    rcases (show nv ys = 0 ∨ 0 < nv ys by omega) with h | h
    · exact absurd (show b = 0 by rw [eb, h]; cases nb <;> rfl) hb0
    · exact h
  have hb1 := hid (show IntA w (.agg #[.bool nb, .slice Ar ys.length cr]) b N from ⟨nb, _, ys, rfl, hr, hk, hyn, eb⟩)
  have HL := hid hl
  have HK := hid hk
  have Y0 := hid hy0
  have EA := hid ea
  have EB := hid eb
  have hxl : (tr xs).length ≤ N := by rw [tr_length]; have := tl_le xs; omega
  have hyl : (tr ys).length ≤ N := by rw [tr_length]; have := tl_le ys; omega
  have HXL := hid hxl
  have HYL := hid hyl
  have hyp : (tr ys).length ≠ 0 := fun e => by
    have := nv_tr ys
    rw [List.eq_nil_of_length_eq_zero e, nv_nil] at this
    omega
  have hyc : (((tr ys).length : Int) == 0) = false := by rw [beq_eq_false_iff_ne]; omega
  have SX := hid hs
  have SY := hid hr
  clear hs hr hl hk hy0 ea eb hb0
  have HB := hid (Below.refl w.heap.size w)
  obtain ⟨W, hW⟩ : ∃ W, W = ((((w.alloc (.cells #[.bool na, .slice As xs.length cs] 24)).alloc (.cells #[.bool nb, .slice Ar ys.length cr] 24)).alloc (.cells #[.bool false, .slice none 0 0] 24)).alloc (.cells #[.bool false, .slice none 0 0] 24)) := ⟨_, rfl⟩
  have hbb : Below w.heap.size w W := by rw [hW]; exact (bw_alloc (bw_alloc (bw_alloc (bw_alloc (Below.refl _ _) _) _) _) _)
  have HB := hid (bw_step HB.out hbb)
  have SX := hid (SX.out.below hbb)
  have SY := hid (SY.out.below hbb)
  have hb1 := hid (hb1.out.below hbb)
  have P0 : Hid (Blk W (w.heap.size) 24 #[.bool na, .slice As xs.length cs]) := by
    rw [hW]
    have := (((Blk.new w 24 #[.bool na, .slice As xs.length cs]).below (bw_alloc (Below.refl _ _) (.cells #[.bool nb, .slice Ar ys.length cr] 24))).below (bw_alloc (Below.refl _ _) (.cells #[.bool false, .slice none 0 0] 24))).below (bw_alloc (Below.refl _ _) (.cells #[.bool false, .slice none 0 0] 24))
    exact hid (by simpa only [World.size_alloc] using this)
  have P1 : Hid (Blk W (w.heap.size + 1) 24 #[.bool nb, .slice Ar ys.length cr]) := by
    rw [hW]
    have := ((Blk.new (w.alloc (.cells #[.bool na, .slice As xs.length cs] 24)) 24 #[.bool nb, .slice Ar ys.length cr]).below (bw_alloc (Below.refl _ _) (.cells #[.bool false, .slice none 0 0] 24))).below (bw_alloc (Below.refl _ _) (.cells #[.bool false, .slice none 0 0] 24))
    exact hid (by simpa only [World.size_alloc] using this)
  have R0 : Hid (Blk W (w.heap.size + 1 + 1) 24 #[.bool false, .slice none 0 0]) := by
    rw [hW]
    have := (Blk.new ((w.alloc (.cells #[.bool na, .slice As xs.length cs] 24)).alloc (.cells #[.bool nb, .slice Ar ys.length cr] 24)) 24 #[.bool false, .slice none 0 0]).below (bw_alloc (Below.refl _ _) (.cells #[.bool false, .slice none 0 0] 24))
    exact hid (by simpa only [World.size_alloc] using this)
  have R1 : Hid (Blk W (w.heap.size + 1 + 1 + 1) 24 #[.bool false, .slice none 0 0]) := by
    rw [hW]
    have := Blk.new (((w.alloc (.cells #[.bool na, .slice As xs.length cs] 24)).alloc (.cells #[.bool nb, .slice Ar ys.length cr] 24)).alloc (.cells #[.bool false, .slice none 0 0] 24)) 24 #[.bool false, .slice none 0 0]
    exact hid (by simpa only [World.size_alloc] using this)
  clear hbb
  go_enter Try.func74, Try.ntmps74
  go_wp2_with fail
  rw [← hW]
  clear hW
  refine wp_region_each (by kernel_rfl) 8 61 rfl rfl (by kernel_rfl)
    [Fact.eq (.pointer (some ⟨w.heap.size, 1, none⟩)), Fact.eq (.slice As xs.length cs), Fact.slv (tr xs), Fact.eq (.pointer (some ⟨w.heap.size + 1, 1, none⟩)), Fact.eq (.slice Ar ys.length cr), Fact.slv (tr ys), Fact.slv (tr xs), Fact.slv (tr ys)]
    [.val, .val, .val, .val, .val, .val, .val, .val]
    (fun w' => SlV w' (.slice As xs.length cs) xs ∧ SlV w' (.slice Ar ys.length cr) ys ∧ IntA w' (.agg #[.bool nb, .slice Ar ys.length cr]) (b) N ∧ Blk w' (w.heap.size) 24 #[.bool na, .slice As xs.length cs] ∧ Blk w' (w.heap.size + 1) 24 #[.bool nb, .slice Ar ys.length cr] ∧ Blk w' (w.heap.size + 1 + 1) 24 #[.bool false, .slice none 0 0] ∧ Blk w' (w.heap.size + 1 + 1 + 1) 24 #[.bool false, .slice none 0 0] ∧ Below w.heap.size w w')
    (fun _ _ _ => True) [] (fun _ => 0) (by kernel_rfl)
    ⟨SX.out, SY.out, hb1.out, P0.out, P1.out, R0.out, R1.out, HB.out⟩
    (fun w1 w2 ⟨h0, h1, h2, h3, h4, h5, h6, h7⟩ hb => ⟨h0.below hb, h1.below hb, h2.below hb, h3.below hb, h4.below hb, h5.below hb, h6.below hb, bw_step h7 hb⟩)
    (fun w1 w2 g ⟨h0, h1, h2, h3, h4, h5, h6, h7⟩ hg hn ho => by
      have hg' : W.heap.size ≤ g := hg.elim id (fun ⟨_, h, _⟩ => absurd h (Nat.not_lt_zero _))
      exact ⟨h0.only hn ho, h1.only hn ho, h2.only hn ho, h3.only ho (by have := P0.out.lt; have := P1.out.lt; have := R0.out.lt; have := R1.out.lt; omega), h4.only ho (by have := P0.out.lt; have := P1.out.lt; have := R0.out.lt; have := R1.out.lt; omega), h5.only ho (by have := P0.out.lt; have := P1.out.lt; have := R0.out.lt; have := R1.out.lt; omega), h6.only ho (by have := P0.out.lt; have := P1.out.lt; have := R0.out.lt; have := R1.out.lt; omega), below_only h7 ho (by have := P0.out.lt; have := P1.out.lt; have := R0.out.lt; have := R1.out.lt; have := HB.out.size; omega)⟩)
    (fun l h => trivial) (fun l b w1 w2 h _ _ => trivial) (fun l b w1 w2 g h _ _ _ _ => trivial) (fun l h => by cases h) (fun l k h => by cases h) ?_ ?_
  · refine ⟨?_, ?_, ?_, ?_, ?_, ?_, ?_, ?_, trivial⟩ <;> intro L V a1 w1 hf hG hsz hφ hψ hL hdep hcl
    · obtain ⟨SX_, SY_, hb1_, P0_, P1_, R0_, R1_, HB_⟩ := hG
      have e2 := old_slot hf 2 (by kernel_rfl)
      exact ob_pure (ex_fieldAddr 1 (by decide) rfl e2) rfl
    · obtain ⟨SX_, SY_, hb1_, P0_, P1_, R0_, R1_, HB_⟩ := hG
      have d0 := dep_of hdep 0 (by kernel_rfl)
      have e13 := (new_slot hf 0 13 d0 (by kernel_rfl)).trans (show V 0 = .pointer (some ⟨w.heap.size, 1, none⟩) from hφ 0 d0)
      exact ob_pure (ex_load_mag rfl e13 P0_) rfl
    · obtain ⟨SX_, SY_, hb1_, P0_, P1_, R0_, R1_, HB_⟩ := hG
      have d1 := dep_of hdep 1 (by kernel_rfl)
      have e14 := (new_slot hf 1 14 d1 (by kernel_rfl)).trans (show V 1 = .slice As xs.length cs from hφ 1 d1)
      refine ob_go rfl (vs := #[.slice As xs.length cs]) (by simp only [List.map_toArray, List.map_cons, List.map_nil, e14]) (by kernel_rfl) (rtrim_any _ _ xs SX_) ?_
      rintro e w2 ⟨⟨v, rfl, hv⟩, hb⟩
      exact ⟨v, rfl, hb, hv.slv (by have := HXL.out; omega)⟩
    · obtain ⟨SX_, SY_, hb1_, P0_, P1_, R0_, R1_, HB_⟩ := hG
      have e3 := old_slot hf 3 (by kernel_rfl)
      exact ob_pure (ex_fieldAddr 1 (by decide) rfl e3) rfl
    · obtain ⟨SX_, SY_, hb1_, P0_, P1_, R0_, R1_, HB_⟩ := hG
      have d3 := dep_of hdep 3 (by kernel_rfl)
      have e16 := (new_slot hf 3 16 d3 (by kernel_rfl)).trans (show V 3 = .pointer (some ⟨w.heap.size + 1, 1, none⟩) from hφ 3 d3)
      exact ob_pure (ex_load_mag rfl e16 P1_) rfl
    · obtain ⟨SX_, SY_, hb1_, P0_, P1_, R0_, R1_, HB_⟩ := hG
      have d4 := dep_of hdep 4 (by kernel_rfl)
      have e17 := (new_slot hf 4 17 d4 (by kernel_rfl)).trans (show V 4 = .slice Ar ys.length cr from hφ 4 d4)
      refine ob_go rfl (vs := #[.slice Ar ys.length cr]) (by simp only [List.map_toArray, List.map_cons, List.map_nil, e17]) (by kernel_rfl) (rtrim_any _ _ ys SY_) ?_
      rintro e w2 ⟨⟨v, rfl, hv⟩, hb⟩
      exact ⟨v, rfl, hb, hv.slv (by have := HYL.out; omega)⟩
    · obtain ⟨SX_, SY_, hb1_, P0_, P1_, R0_, R1_, HB_⟩ := hG
      have d2 := dep_of hdep 2 (by kernel_rfl)
      have e15 := new_slot hf 2 15 d2 (by kernel_rfl)
      have p15 : SlV w1 (V 2) (tr xs) := hφ 2 d2
      exact ob_pure (ex_assignV rfl e15) (by exact p15)
    · obtain ⟨SX_, SY_, hb1_, P0_, P1_, R0_, R1_, HB_⟩ := hG
      have d5 := dep_of hdep 5 (by kernel_rfl)
      have e18 := new_slot hf 5 18 d5 (by kernel_rfl)
      have p18 : SlV w1 (V 5) (tr ys) := hφ 5 d5
      exact ob_pure (ex_assignV rfl e18) (by exact p18)
  · intro V W1 hG hsz1 hφ hψ hne
    have hlt1 : W.heap.size ≤ W1.heap.size := hsz1
    obtain ⟨SX_, SY_, hb1_, P0_, P1_, R0_, R1_, HB_⟩ := hG
    have SX := hid SX_
    have SY := hid SY_
    have hb1 := hid hb1_
    have P0 := hid P0_
    have P1 := hid P1_
    have R0 := hid R0_
    have R1 := hid R1_
    have HB := hid HB_
    have y0 : V 0 = .pointer (some ⟨w.heap.size, 1, none⟩) := hφ 0 (by decide)
    have y1 : V 1 = .slice As xs.length cs := hφ 1 (by decide)
    have y3 : V 3 = .pointer (some ⟨w.heap.size + 1, 1, none⟩) := hφ 3 (by decide)
    have y4 : V 4 = .slice Ar ys.length cr := hφ 4 (by decide)
    have hs6 : SlV W1 (V 6) (tr xs) := hφ 6 (by decide)
    obtain ⟨A106, c106, y6, hc106, _⟩ := id hs6
    have TX : Hid (SlV W1 (.slice A106 (tr xs).length c106) (tr xs)) := hid (by rw [← y6]; exact hs6)
    clear hs6
    have hs7 : SlV W1 (V 7) (tr ys) := hφ 7 (by decide)
    obtain ⟨A107, c107, y7, hc107, _⟩ := id hs7
    have TY : Hid (SlV W1 (.slice A107 (tr ys).length c107) (tr ys)) := hid (by rw [← y7]; exact hs7)
    clear hs7
    simp only [puts, Act.put, List.setIfInBounds_toArray, List.set_cons_zero, List.set_cons_succ, y0, y1, y3, y4, y6, y7]
    clear hφ hψ hne y0 y1 y3 y4 y6 y7 SX_ SY_ hb1_ P0_ P1_ R0_ R1_ HB_ hsz1
    go_wp2_with fail
    refine (rdivide_any _ _ _ (tr xs) (tr ys) TX.out TY.out HL.out.tr HK.out.tr (Cn.tr _) (by rw [nv_tr]; exact Y0.out) (by have := HXL.out; omega) (by have := HYL.out; omega)).mono ?_
    rintro e W2 ⟨⟨q1, r1, qs, rs, rfl, hq1, hq2, hq3, hq4, hr1, hr2, hr3, hr4⟩, hb2⟩
    have HB := hid (bw_step HB.out hb2)
    have SX := hid (SX.out.below hb2)
    have SY := hid (SY.out.below hb2)
    have hb1 := hid (hb1.out.below hb2)
    have P0 := hid (P0.out.below hb2)
    have P1 := hid (P1.out.below hb2)
    have R0 := hid (R0.out.below hb2)
    have R1 := hid (R1.out.below hb2)
    have TX := hid (TX.out.below hb2)
    have TY := hid (TY.out.below hb2)
    clear hb2
    rw [nv_tr, nv_tr] at hq4 hr4
    have QF := hid (And.intro hq2 (And.intro hq3 hq4))
    have RF := hid (And.intro hr2 (And.intro hr3 hr4))
    have Q1 := hid hq1
    have R1s := hid hr1
    obtain ⟨Aq, cq, rfl, hcq, _⟩ := id hq1
    obtain ⟨Ao, co, rfl, hco, _⟩ := id hr1
    have hx0 := nv_nonneg HL.out
    obtain ⟨DS1, DS2⟩ := divmod_sign hx0 Y0.out na nb
    rw [← EA.out, ← EB.out] at DS1 DS2
    have DS := hid (And.intro DS1 DS2)
    have hm0 := Int.emod_nonneg (nv xs) (show nv ys ≠ 0 by have := Y0.out; omega)
    have hm1 := Int.emod_lt_of_pos (nv xs) Y0.out
    have SQ := hid (show Sm N (sg (na != nb) (nv qs)) from sm_sg hq2 (by
      refine Nat.le_trans (hq3.length_le (n := (tr xs).length) hq2 ?_) HXL.out
      rw [hq4, ← nv_tr xs]
      have h1 := nv_lt HL.out.tr
      have := Int.ediv_le_self (nv ys) (show 0 ≤ nv (tr xs) by rw [nv_tr]; exact hx0)
      omega))
    have SR := hid (show Sm N (sg na (nv rs)) from sm_sg hr2 (by
      refine Nat.le_trans (hr3.length_le (n := (tr ys).length) hr2 ?_) HYL.out
      rw [hr4]
      have h1 := nv_lt HK.out.tr
      rw [nv_tr] at h1
      omega))
    have M0 := hid hm0
    have M1 := hid hm1
    have SY2 := hid (show Sm N (nv ys) by have h1 := nv_lt HK.out; have h2 := nv_nonneg HK.out; have h3 := bp_mono hyn; exact ⟨by omega, by omega⟩)
    clear hq1 hq2 hq3 hq4 hr1 hr2 hr3 hr4 DS1 DS2 hm0 hm1 hx0
    clear SX
    clear SY
    clear TX
    obtain ⟨k3, l3, f3, g3⟩ := id P0.out.bx
    obtain ⟨k4, l4, f4, g4⟩ := id P1.out.bx
    go_wp2_with fail
    clear k3 l3 f3 g3 k4 l4 f4 g4
    have lt4_P0 := P0.out.lt
    have lt4_P1 := P1.out.lt
    have lt4_R0 := R0.out.lt
    have lt4_R1 := R1.out.lt
    refine wp_region_each (by kernel_rfl) 15 61 rfl rfl (by kernel_rfl)
      [Fact.eq (.pointer (some ⟨w.heap.size, 0, none⟩)), Fact.eq (.bool na), Fact.eq (.pointer (some ⟨w.heap.size + 1, 0, none⟩)), Fact.eq (.bool nb), Fact.eq (.bool (na != nb)), Fact.eq (.slice Aq qs.length cq), Fact.int (sg (na != nb) (nv qs)), Fact.eq (.pointer (some ⟨w.heap.size, 0, none⟩)), Fact.eq (.bool na), Fact.eq (.slice Ao rs.length co), Fact.int (sg na (nv rs)), Fact.box (sg (na != nb) (nv qs)), Fact.box (sg na (nv rs)), Fact.top _, Fact.top _]
      [.val, .val, .val, .val, .val, .val, .val, .val, .val, .val, .val, .alloc 13, .alloc 14, .fill 11, .fill 12]
      (fun w' => IntA w' (.agg #[.bool nb, .slice Ar ys.length cr]) (b) N ∧ Blk w' (w.heap.size) 24 #[.bool na, .slice As xs.length cs] ∧ Blk w' (w.heap.size + 1) 24 #[.bool nb, .slice Ar ys.length cr] ∧ Blk w' (w.heap.size + 1 + 1) 24 #[.bool false, .slice none 0 0] ∧ Blk w' (w.heap.size + 1 + 1 + 1) 24 #[.bool false, .slice none 0 0] ∧ SlV w' (.slice A107 (tr ys).length c107) (tr ys) ∧ SlV w' (.slice Aq qs.length cq) qs ∧ SlV w' (.slice Ao rs.length co) rs ∧ Below w.heap.size w w')
      (fun _ _ _ => True) [] (fun _ => 0) (by kernel_rfl)
      ⟨hb1.out, P0.out, P1.out, R0.out, R1.out, TY.out, Q1.out, R1s.out, HB.out⟩
      (fun w1 w2 ⟨h0, h1, h2, h3, h4, h5, h6, h7, h8⟩ hb => ⟨h0.below hb, h1.below hb, h2.below hb, h3.below hb, h4.below hb, h5.below hb, h6.below hb, h7.below hb, bw_step h8 hb⟩)
      (fun w1 w2 g ⟨h0, h1, h2, h3, h4, h5, h6, h7, h8⟩ hg hn ho => by
        have hg' : W2.heap.size ≤ g := hg.elim id (fun ⟨_, h, _⟩ => absurd h (Nat.not_lt_zero _))
        exact ⟨h0.only hn ho, h1.only ho (by have := P0.out.lt; have := P1.out.lt; have := R0.out.lt; have := R1.out.lt; omega), h2.only ho (by have := P0.out.lt; have := P1.out.lt; have := R0.out.lt; have := R1.out.lt; omega), h3.only ho (by have := P0.out.lt; have := P1.out.lt; have := R0.out.lt; have := R1.out.lt; omega), h4.only ho (by have := P0.out.lt; have := P1.out.lt; have := R0.out.lt; have := R1.out.lt; omega), h5.only hn ho, h6.only hn ho, h7.only hn ho, below_only h8 ho (by have := P0.out.lt; have := P1.out.lt; have := R0.out.lt; have := R1.out.lt; have := HB.out.size; omega)⟩)
      (fun l h => trivial) (fun l b w1 w2 h _ _ => trivial) (fun l b w1 w2 g h _ _ _ _ => trivial) (fun l h => by cases h) (fun l k h => by cases h) ?_ ?_
    · refine ⟨?_, ?_, ?_, ?_, ?_, ?_, ?_, ?_, ?_, ?_, ?_, ?_, ?_, ?_, ?_, trivial⟩ <;> intro L V a1 w1 hf hG hsz hφ hψ hL hdep hcl
      · obtain ⟨hb1_, P0_, P1_, R0_, R1_, TY_, Q1_, R1s_, HB_⟩ := hG
        have e2 := old_slot hf 2 (by kernel_rfl)
        exact ob_pure (ex_fieldAddr 0 (by decide) rfl e2) rfl
      · obtain ⟨hb1_, P0_, P1_, R0_, R1_, TY_, Q1_, R1s_, HB_⟩ := hG
        have d0 := dep_of hdep 0 (by kernel_rfl)
        have e30 := (new_slot hf 0 30 d0 (by kernel_rfl)).trans (show V 0 = .pointer (some ⟨w.heap.size, 0, none⟩) from hφ 0 d0)
        exact ob_pure (ex_load_neg rfl e30 P0_) rfl
      · obtain ⟨hb1_, P0_, P1_, R0_, R1_, TY_, Q1_, R1s_, HB_⟩ := hG
        have e3 := old_slot hf 3 (by kernel_rfl)
        exact ob_pure (ex_fieldAddr 0 (by decide) rfl e3) rfl
      · obtain ⟨hb1_, P0_, P1_, R0_, R1_, TY_, Q1_, R1s_, HB_⟩ := hG
        have d2 := dep_of hdep 2 (by kernel_rfl)
        have e32 := (new_slot hf 2 32 d2 (by kernel_rfl)).trans (show V 2 = .pointer (some ⟨w.heap.size + 1, 0, none⟩) from hφ 2 d2)
        exact ob_pure (ex_load_neg rfl e32 P1_) rfl
      · obtain ⟨hb1_, P0_, P1_, R0_, R1_, TY_, Q1_, R1s_, HB_⟩ := hG
        have d1 := dep_of hdep 1 (by kernel_rfl)
        have e31 := (new_slot hf 1 31 d1 (by kernel_rfl)).trans (show V 1 = .bool na from hφ 1 d1)
        have d3 := dep_of hdep 3 (by kernel_rfl)
        have e33 := (new_slot hf 3 33 d3 (by kernel_rfl)).trans (show V 3 = .bool nb from hφ 3 d3)
        exact ob_pure (ex_neq_bool rfl e31 e33) rfl
      · obtain ⟨hb1_, P0_, P1_, R0_, R1_, TY_, Q1_, R1s_, HB_⟩ := hG
        have e9 := old_slot hf 9 (by kernel_rfl)
        exact ob_pure (v := .slice Aq qs.length cq) (ex_moveV rfl e9) rfl
      · obtain ⟨hb1_, P0_, P1_, R0_, R1_, TY_, Q1_, R1s_, HB_⟩ := hG
        have d4 := dep_of hdep 4 (by kernel_rfl)
        have e34 := (new_slot hf 4 34 d4 (by kernel_rfl)).trans (show V 4 = .bool (na != nb) from hφ 4 d4)
        have d5 := dep_of hdep 5 (by kernel_rfl)
        have e35 := (new_slot hf 5 35 d5 (by kernel_rfl)).trans (show V 5 = .slice Aq qs.length cq from hφ 5 d5)
        refine ob_go rfl (vs := #[.bool (na != nb), .slice Aq qs.length cq]) (by simp only [List.map_toArray, List.map_cons, List.map_nil, e34, e35]) (by kernel_rfl) (rmake_any _ (na != nb) _ qs Q1_ QF.out.1) ?_
        rintro e w2 ⟨⟨v, rfl, hv⟩, hb⟩
        exact ⟨v, rfl, hb, hv⟩
      · obtain ⟨hb1_, P0_, P1_, R0_, R1_, TY_, Q1_, R1s_, HB_⟩ := hG
        have e2 := old_slot hf 2 (by kernel_rfl)
        exact ob_pure (ex_fieldAddr 0 (by decide) rfl e2) rfl
      · obtain ⟨hb1_, P0_, P1_, R0_, R1_, TY_, Q1_, R1s_, HB_⟩ := hG
        have d7 := dep_of hdep 7 (by kernel_rfl)
        have e37 := (new_slot hf 7 37 d7 (by kernel_rfl)).trans (show V 7 = .pointer (some ⟨w.heap.size, 0, none⟩) from hφ 7 d7)
        exact ob_pure (ex_load_neg rfl e37 P0_) rfl
      · obtain ⟨hb1_, P0_, P1_, R0_, R1_, TY_, Q1_, R1s_, HB_⟩ := hG
        have e10 := old_slot hf 10 (by kernel_rfl)
        exact ob_pure (v := .slice Ao rs.length co) (ex_moveV rfl e10) rfl
      · obtain ⟨hb1_, P0_, P1_, R0_, R1_, TY_, Q1_, R1s_, HB_⟩ := hG
        have d8 := dep_of hdep 8 (by kernel_rfl)
        have e38 := (new_slot hf 8 38 d8 (by kernel_rfl)).trans (show V 8 = .bool na from hφ 8 d8)
        have d9 := dep_of hdep 9 (by kernel_rfl)
        have e39 := (new_slot hf 9 39 d9 (by kernel_rfl)).trans (show V 9 = .slice Ao rs.length co from hφ 9 d9)
        refine ob_go rfl (vs := #[.bool na, .slice Ao rs.length co]) (by simp only [List.map_toArray, List.map_cons, List.map_nil, e38, e39]) (by kernel_rfl) (rmake_any _ na _ rs R1s_ RF.out.1) ?_
        rintro e w2 ⟨⟨v, rfl, hv⟩, hb⟩
        exact ⟨v, rfl, hb, hv⟩
      · obtain ⟨hb1_, P0_, P1_, R0_, R1_, TY_, Q1_, R1s_, HB_⟩ := hG
        exact ob_alloc_int rfl hsz rfl
      · obtain ⟨hb1_, P0_, P1_, R0_, R1_, TY_, Q1_, R1s_, HB_⟩ := hG
        exact ob_alloc_int rfl hsz rfl
      · obtain ⟨hb1_, P0_, P1_, R0_, R1_, TY_, Q1_, R1s_, HB_⟩ := hG
        have d6 := dep_of hdep 6 (by kernel_rfl)
        have e36 := new_slot hf 6 36 d6 (by kernel_rfl)
        have p36 : IntV w1 (V 6) (sg (na != nb) (nv qs)) := hφ 6 d6
        have d11 := dep_of hdep 11 (by kernel_rfl)
        obtain ⟨g, h1, h2, h3⟩ := hφ 11 d11
        exact ob_fill_int rfl ((new_slot hf 11 11 d11 (by kernel_rfl)).trans h1) e36 h1 h2 h3 p36 rfl rfl
      · obtain ⟨hb1_, P0_, P1_, R0_, R1_, TY_, Q1_, R1s_, HB_⟩ := hG
        have d10 := dep_of hdep 10 (by kernel_rfl)
        have e40 := new_slot hf 10 40 d10 (by kernel_rfl)
        have p40 : IntV w1 (V 10) (sg na (nv rs)) := hφ 10 d10
        have d12 := dep_of hdep 12 (by kernel_rfl)
        obtain ⟨g, h1, h2, h3⟩ := hφ 12 d12
        exact ob_fill_int rfl ((new_slot hf 12 12 d12 (by kernel_rfl)).trans h1) e40 h1 h2 h3 p40 rfl rfl
    · intro V W5 hG hsz5 hφ hψ hne
      have hlt5 : W2.heap.size ≤ W5.heap.size := hsz5
      obtain ⟨hb1_, P0_, P1_, R0_, R1_, TY_, Q1_, R1s_, HB_⟩ := hG
      have hb1 := hid hb1_
      have P0 := hid P0_
      have P1 := hid P1_
      have R0 := hid R0_
      have R1 := hid R1_
      have TY := hid TY_
      have Q1 := hid Q1_
      have R1s := hid R1s_
      have HB := hid HB_
      have y0 : V 0 = .pointer (some ⟨w.heap.size, 0, none⟩) := hφ 0 (by decide)
      have y1 : V 1 = .bool na := hφ 1 (by decide)
      have y2 : V 2 = .pointer (some ⟨w.heap.size + 1, 0, none⟩) := hφ 2 (by decide)
      have y3 : V 3 = .bool nb := hφ 3 (by decide)
      have y4 : V 4 = .bool (na != nb) := hφ 4 (by decide)
      have y5 : V 5 = .slice Aq qs.length cq := hφ 5 (by decide)
      have y7 : V 7 = .pointer (some ⟨w.heap.size, 0, none⟩) := hφ 7 (by decide)
      have y8 : V 8 = .bool na := hφ 8 (by decide)
      have y9 : V 9 = .slice Ao rs.length co := hφ 9 (by decide)
      obtain ⟨G5_11, y11, gb511, q511, A511, n511, c511, kb511, vb511⟩ := hφ 11 (by decide)
      have Xquo := hid kb511
      have quo := hid vb511
      clear kb511 vb511
      obtain ⟨G5_12, y12, gb512, q512, A512, n512, c512, kb512, vb512⟩ := hφ 12 (by decide)
      have Xrst := hid kb512
      have rst := hid vb512
      clear kb512 vb512
      have ne5_11_12 : G5_11 ≠ G5_12 := fun e => hne 11 12 (by decide) rfl rfl (by rw [y11, y12, e])
      simp only [puts, Act.put, List.setIfInBounds_toArray, List.set_cons_zero, List.set_cons_succ, y0, y1, y2, y3, y4, y5, y7, y8, y9, y11, y12, ptr]
      clear hφ hψ hne y0 y1 y2 y3 y4 y5 y7 y8 y9 y11 y12 hb1_ P0_ P1_ R0_ R1_ TY_ Q1_ R1s_ HB_ hsz5
      clear Q1
      clear R1s
      by_cases hneg : sg na (nv rs) < 0
      · have hd : decide (cm (sg na (nv rs)) 0 < 0) = true := by rw [cm_lt hneg]; rfl
        have HN := hid hneg
        clear hneg
        obtain ⟨k6, l6, f6, g6⟩ := id Xrst.out.bx
        go_wp2_with fail
        refine (rsign_any _ _ (sg na (nv rs)) N (rst.out.arg SR.out)).mono ?_
        rintro e W7 ⟨rfl, hb7⟩
        clear k6 l6 f6 g6
        have HB := hid (bw_step HB.out hb7)
        have hb1 := hid (hb1.out.below hb7)
        have P0 := hid (P0.out.below hb7)
        have P1 := hid (P1.out.below hb7)
        have R0 := hid (R0.out.below hb7)
        have R1 := hid (R1.out.below hb7)
        have TY := hid (TY.out.below hb7)
        have Xquo := hid (Xquo.out.below hb7)
        have quo := hid (quo.out.below hb7)
        have Xrst := hid (Xrst.out.below hb7)
        have rst := hid (rst.out.below hb7)
        clear hb7
        go_wp2_with fail
        have SM8 : Hid (Sm (N + 1) ((sg na (nv rs)) + (sg false (nv ys)))) := hid ((SR.out).plus (SY2.out) (by omega) (by omega))
        refine wp_region_each (by kernel_rfl) 5 61 rfl rfl (by kernel_rfl)
          [Fact.eq (.agg #[.bool q512, .slice A512 n512 c512]), Fact.eq (.slice A107 (tr ys).length c107), Fact.int (sg false (nv ys)), Fact.int ((sg na (nv rs)) + (sg false (nv ys))), Fact.top _]
          [.val, .val, .val, .val, .fillOld 0]
          (fun w' => IntA w' (.agg #[.bool nb, .slice Ar ys.length cr]) (b) N ∧ Blk w' (w.heap.size) 24 #[.bool na, .slice As xs.length cs] ∧ Blk w' (w.heap.size + 1) 24 #[.bool nb, .slice Ar ys.length cr] ∧ Blk w' (w.heap.size + 1 + 1) 24 #[.bool false, .slice none 0 0] ∧ Blk w' (w.heap.size + 1 + 1 + 1) 24 #[.bool false, .slice none 0 0] ∧ SlV w' (.slice A107 (tr ys).length c107) (tr ys) ∧ Blk w' (G5_11) 24 #[.bool q511, .slice A511 n511 c511] ∧ IntV w' (.agg #[.bool q511, .slice A511 n511 c511]) ((sg (na != nb) (nv qs))) ∧ IntV w' (.agg #[.bool q512, .slice A512 n512 c512]) ((sg na (nv rs))) ∧ Below w.heap.size w w')
          (fun l b w' => match l with
            | 0 => if b = true then BoxI w' (G5_12) ((sg na (nv rs)) + (sg false (nv ys))) else Blk w' (G5_12) 24 #[.bool q512, .slice A512 n512 c512]
            | _ => True)
          [4] (fun l => match l with | 0 => G5_12 | _ => 0) (by kernel_rfl)
          ⟨hb1.out, P0.out, P1.out, R0.out, R1.out, TY.out, Xquo.out, quo.out, rst.out, HB.out⟩
          (fun w1 w2 ⟨h0, h1, h2, h3, h4, h5, h6, h7, h8, h9⟩ hb => ⟨h0.below hb, h1.below hb, h2.below hb, h3.below hb, h4.below hb, h5.below hb, h6.below hb, h7.below hb, h8.below hb, bw_step h9 hb⟩)
          (fun w1 w2 g ⟨h0, h1, h2, h3, h4, h5, h6, h7, h8, h9⟩ hg hn ho => by
            have hg' : W7.heap.size ≤ g ∨ g = G5_12 := by
              rcases hg with h | ⟨l, hl, h⟩
              · exact .inl h
              · rcases l with _ | l
                · exact .inr h
                · exact absurd hl (by simp)
            exact ⟨h0.only hn ho, h1.only ho (by have := P0.out.lt; have := P1.out.lt; have := R0.out.lt; have := R1.out.lt; have := Xquo.out.lt; have := Xrst.out.lt; omega), h2.only ho (by have := P0.out.lt; have := P1.out.lt; have := R0.out.lt; have := R1.out.lt; have := Xquo.out.lt; have := Xrst.out.lt; omega), h3.only ho (by have := P0.out.lt; have := P1.out.lt; have := R0.out.lt; have := R1.out.lt; have := Xquo.out.lt; have := Xrst.out.lt; omega), h4.only ho (by have := P0.out.lt; have := P1.out.lt; have := R0.out.lt; have := R1.out.lt; have := Xquo.out.lt; have := Xrst.out.lt; omega), h5.only hn ho, h6.only ho (by have := P0.out.lt; have := P1.out.lt; have := R0.out.lt; have := R1.out.lt; have := Xquo.out.lt; have := Xrst.out.lt; omega), h7.only hn ho, h8.only hn ho, below_only h9 ho (by have := P0.out.lt; have := P1.out.lt; have := R0.out.lt; have := R1.out.lt; have := Xquo.out.lt; have := Xrst.out.lt; have := HB.out.size; omega)⟩)
          (fun l hl => by
              rcases l with _ | l
              · exact Xrst.out
              · exact absurd hl (by simp))
          (fun l b w1 w2 hl h hb => by
              rcases l with _ | l
              · (cases b <;> exact h.below hb)
              · exact absurd hl (by simp))
          (fun l b w1 w2 g hl h hg hn ho => by
              rcases l with _ | l
              · (cases b; (exact h.only ho (Ne.symm hg)); (exact h.only (Ne.symm hg) hn ho))
              · exact absurd hl (by simp))
          (fun l hl => by
              rcases l with _ | l
              · exact Xrst.out.lt
              · exact absurd hl (by simp))
          (fun l k hl hk hne => by rcases l with _ | l <;> rcases k with _ | k <;> simp at hl hk hne)
          ?_ ?_
        · refine ⟨?_, ?_, ?_, ?_, ?_, trivial⟩ <;> intro L V a1 w1 hf hG hsz hφ hψ hL hdep hcl
          · obtain ⟨hb1_, P0_, P1_, R0_, R1_, TY_, Xquo_, quo_, rst_, HB_⟩ := hG
            have e12 := old_slot hf 12 (by kernel_rfl)
            have hb0 := hψ 0 (by decide)
            rw [show [4].getD 0 0 = 4 from rfl, not_yet hcl 4 0 hL (by kernel_rfl)] at hb0
            exact ob_load_int rfl e12 hb0 rfl
          · obtain ⟨hb1_, P0_, P1_, R0_, R1_, TY_, Xquo_, quo_, rst_, HB_⟩ := hG
            have e8 := old_slot hf 8 (by kernel_rfl)
            exact ob_pure (v := .slice A107 (tr ys).length c107) (ex_moveV rfl e8) rfl
          · obtain ⟨hb1_, P0_, P1_, R0_, R1_, TY_, Xquo_, quo_, rst_, HB_⟩ := hG
            have d1 := dep_of hdep 1 (by kernel_rfl)
            have e45 := (new_slot hf 1 45 d1 (by kernel_rfl)).trans (show V 1 = .slice A107 (tr ys).length c107 from hφ 1 d1)
            refine ob_go rfl (vs := #[.bool false, .slice A107 (tr ys).length c107]) (by simp only [List.map_toArray, List.map_cons, List.map_nil, e45, ev_const]) (by kernel_rfl) (rmake_any _ false _ (tr ys) TY_ HK.out.tr) ?_
            rintro e w2 ⟨⟨v, rfl, hv⟩, hb⟩
            rw [nv_tr] at hv
            exact ⟨v, rfl, hb, hv⟩
          · obtain ⟨hb1_, P0_, P1_, R0_, R1_, TY_, Xquo_, quo_, rst_, HB_⟩ := hG
            have d0 := dep_of hdep 0 (by kernel_rfl)
            have e44 := (new_slot hf 0 44 d0 (by kernel_rfl)).trans (show V 0 = .agg #[.bool q512, .slice A512 n512 c512] from hφ 0 d0)
            have d2 := dep_of hdep 2 (by kernel_rfl)
            have e46 := new_slot hf 2 46 d2 (by kernel_rfl)
            have p46 : IntV w1 (V 2) (sg false (nv ys)) := hφ 2 d2
            refine ob_go rfl (vs := #[.agg #[.bool q512, .slice A512 n512 c512], V 2]) (by simp only [List.map_toArray, List.map_cons, List.map_nil, e44, e46]) (by kernel_rfl) (radd_any _ (.agg #[.bool q512, .slice A512 n512 c512]) (V 2) (sg na (nv rs)) (sg false (nv ys)) N N (rst_.arg SR.out) (p46.arg SY2.out) (by omega) (by omega)) ?_
            rintro e w2 ⟨⟨v, rfl, hv⟩, hb⟩
            exact ⟨v, rfl, hb, hv⟩
          · obtain ⟨hb1_, P0_, P1_, R0_, R1_, TY_, Xquo_, quo_, rst_, HB_⟩ := hG
            have d3 := dep_of hdep 3 (by kernel_rfl)
            have e47 := new_slot hf 3 47 d3 (by kernel_rfl)
            have p47 : IntV w1 (V 3) ((sg na (nv rs)) + (sg false (nv ys))) := hφ 3 d3
            have e12 := old_slot hf 12 (by kernel_rfl)
            have hb0 := hψ 0 (by decide)
            rw [show [4].getD 0 0 = 4 from rfl, hL] at hb0
            exact ob_fillOld_int rfl e12 e47 hb0 p47 (fun w2 h => h) rfl
        · intro V W9 hG hsz9 hφ hψ hne
          have hlt9 : W7.heap.size ≤ W9.heap.size := hsz9
          obtain ⟨hb1_, P0_, P1_, R0_, R1_, TY_, Xquo_, quo_, rst_, HB_⟩ := hG
          have hb1 := hid hb1_
          have P0 := hid P0_
          have P1 := hid P1_
          have R0 := hid R0_
          have R1 := hid R1_
          have TY := hid TY_
          have Xquo := hid Xquo_
          have quo := hid quo_
          have rst := hid rst_
          have HB := hid HB_
          have y0 : V 0 = .agg #[.bool q512, .slice A512 n512 c512] := hφ 0 (by decide)
          have y1 : V 1 = .slice A107 (tr ys).length c107 := hφ 1 (by decide)
          obtain ⟨q950, A950, n950, c950, kb950, vb950⟩ := hψ 0 (by decide)
          have Xrst := hid kb950
          have VXrst := hid vb950
          clear kb950 vb950
          simp only [puts, Act.put, List.setIfInBounds_toArray, List.set_cons_zero, List.set_cons_succ, y0, y1]
          clear hφ hψ hne y0 y1 hb1_ P0_ P1_ R0_ R1_ TY_ Xquo_ quo_ rst_ HB_ hsz9
          by_cases hbn : b < 0
          · have hd2 : decide (cm b 0 < 0) = true := by rw [cm_lt hbn]; rfl
            have HBN := hid hbn
            clear hbn
            obtain ⟨k10, l10, f10, g10⟩ := id P1.out.bx
            go_wp2_with fail
            refine (rsign_any _ _ b N hb1.out).mono ?_
            rintro e W11 ⟨rfl, hb11⟩
            clear k10 l10 f10 g10
            have HB := hid (bw_step HB.out hb11)
            have hb1 := hid (hb1.out.below hb11)
            have P0 := hid (P0.out.below hb11)
            have P1 := hid (P1.out.below hb11)
            have R0 := hid (R0.out.below hb11)
            have R1 := hid (R1.out.below hb11)
            have TY := hid (TY.out.below hb11)
            have Xquo := hid (Xquo.out.below hb11)
            have quo := hid (quo.out.below hb11)
            have Xrst := hid (Xrst.out.below hb11)
            have rst := hid (rst.out.below hb11)
            have VXrst := hid (VXrst.out.below hb11)
            clear hb11
            go_wp2_with fail
            have SM12 : Hid (Sm (N + 2) ((sg (na != nb) (nv qs)) + 1)) := hid ((SQ.out).plus ((Sm.one (n := 1) (by decide) (by decide))) (by omega) (by omega))
            refine wp_region_each (by kernel_rfl) 7 61 rfl rfl (by kernel_rfl)
              [Fact.eq (.agg #[.bool q511, .slice A511 n511 c511]), Fact.int 1, Fact.int ((sg (na != nb) (nv qs)) + 1), Fact.eq (.agg #[.bool q950, .slice A950 n950 c950]), Fact.top _, Fact.top _, Fact.eq (.bool true)]
              [.val, .val, .val, .val, .fillOld 0, .fillOld 1, .val]
              (fun w' => IntA w' (.agg #[.bool nb, .slice Ar ys.length cr]) (b) N ∧ Blk w' (w.heap.size) 24 #[.bool na, .slice As xs.length cs] ∧ Blk w' (w.heap.size + 1) 24 #[.bool nb, .slice Ar ys.length cr] ∧ SlV w' (.slice A107 (tr ys).length c107) (tr ys) ∧ Blk w' (G5_11) 24 #[.bool q511, .slice A511 n511 c511] ∧ IntV w' (.agg #[.bool q511, .slice A511 n511 c511]) ((sg (na != nb) (nv qs))) ∧ Blk w' (G5_12) 24 #[.bool q950, .slice A950 n950 c950] ∧ IntV w' (.agg #[.bool q512, .slice A512 n512 c512]) ((sg na (nv rs))) ∧ IntV w' (.agg #[.bool q950, .slice A950 n950 c950]) (((sg na (nv rs)) + (sg false (nv ys)))) ∧ Below w.heap.size w w')
              (fun l b w' => match l with
                | 0 => if b = true then BoxI w' (w.heap.size + 1 + 1) ((sg (na != nb) (nv qs)) + 1) else Blk w' (w.heap.size + 1 + 1) 24 #[.bool false, .slice none 0 0]
                | 1 => if b = true then BoxI w' (w.heap.size + 1 + 1 + 1) ((sg na (nv rs)) + (sg false (nv ys))) else Blk w' (w.heap.size + 1 + 1 + 1) 24 #[.bool false, .slice none 0 0]
                | _ => True)
              [4, 5] (fun l => match l with | 0 => w.heap.size + 1 + 1 | 1 => w.heap.size + 1 + 1 + 1 | _ => 0) (by kernel_rfl)
              ⟨hb1.out, P0.out, P1.out, TY.out, Xquo.out, quo.out, Xrst.out, rst.out, VXrst.out, HB.out⟩
              (fun w1 w2 ⟨h0, h1, h2, h3, h4, h5, h6, h7, h8, h9⟩ hb => ⟨h0.below hb, h1.below hb, h2.below hb, h3.below hb, h4.below hb, h5.below hb, h6.below hb, h7.below hb, h8.below hb, bw_step h9 hb⟩)
              (fun w1 w2 g ⟨h0, h1, h2, h3, h4, h5, h6, h7, h8, h9⟩ hg hn ho => by
                have hg' : W11.heap.size ≤ g ∨ g = w.heap.size + 1 + 1 ∨ g = w.heap.size + 1 + 1 + 1 := by
                  rcases hg with h | ⟨l, hl, h⟩
                  · exact .inl h
                  · rcases l with _ | l
                    · exact .inr (.inl h)
                    · rcases l with _ | l
                      · exact .inr (.inr h)
                      · exact absurd hl (by simp)
                exact ⟨h0.only hn ho, h1.only ho (by have := P0.out.lt; have := P1.out.lt; have := R0.out.lt; have := R1.out.lt; have := Xquo.out.lt; have := Xrst.out.lt; omega), h2.only ho (by have := P0.out.lt; have := P1.out.lt; have := R0.out.lt; have := R1.out.lt; have := Xquo.out.lt; have := Xrst.out.lt; omega), h3.only hn ho, h4.only ho (by have := P0.out.lt; have := P1.out.lt; have := R0.out.lt; have := R1.out.lt; have := Xquo.out.lt; have := Xrst.out.lt; omega), h5.only hn ho, h6.only ho (by have := P0.out.lt; have := P1.out.lt; have := R0.out.lt; have := R1.out.lt; have := Xquo.out.lt; have := Xrst.out.lt; omega), h7.only hn ho, h8.only hn ho, below_only h9 ho (by have := P0.out.lt; have := P1.out.lt; have := R0.out.lt; have := R1.out.lt; have := Xquo.out.lt; have := Xrst.out.lt; have := HB.out.size; omega)⟩)
              (fun l hl => by
                  rcases l with _ | l
                  · exact R0.out
                  rcases l with _ | l
                  · exact R1.out
                  · exact absurd hl (by simp))
              (fun l b w1 w2 hl h hb => by
                  rcases l with _ | l
                  · (cases b <;> exact h.below hb)
                  rcases l with _ | l
                  · (cases b <;> exact h.below hb)
                  · exact absurd hl (by simp))
              (fun l b w1 w2 g hl h hg hn ho => by
                  rcases l with _ | l
                  · (cases b; (exact h.only ho (Ne.symm hg)); (exact h.only (Ne.symm hg) hn ho))
                  rcases l with _ | l
                  · (cases b; (exact h.only ho (Ne.symm hg)); (exact h.only (Ne.symm hg) hn ho))
                  · exact absurd hl (by simp))
              (fun l hl => by
                  rcases l with _ | l
                  · exact R0.out.lt
                  rcases l with _ | l
                  · exact R1.out.lt
                  · exact absurd hl (by simp))
              (fun l k hl hk hne => by
                have hh : w.heap.size + 1 + 1 ≠ w.heap.size + 1 + 1 + 1 := by omega
                have h1 : l = 0 ∨ l = 1 := by simp at hl; omega
                have h2 : k = 0 ∨ k = 1 := by simp at hk; omega
                rcases h1 with rfl | rfl <;> rcases h2 with rfl | rfl
                · exact absurd rfl hne
                · exact hh
                · exact Ne.symm hh
                · exact absurd rfl hne)
              ?_ ?_
            · refine ⟨?_, ?_, ?_, ?_, ?_, ?_, ?_, trivial⟩ <;> intro L V a1 w1 hf hG hsz hφ hψ hL hdep hcl
              · obtain ⟨hb1_, P0_, P1_, TY_, Xquo_, quo_, Xrst_, rst_, VXrst_, HB_⟩ := hG
                have e11 := old_slot hf 11 (by kernel_rfl)
                exact ob_load_int rfl e11 Xquo_ rfl
              · obtain ⟨hb1_, P0_, P1_, TY_, Xquo_, quo_, Xrst_, rst_, VXrst_, HB_⟩ := hG
                refine ob_go rfl (vs := #[.int .i64 1]) (by simp only [List.map_toArray, List.map_cons, List.map_nil, ev_const]) (by kernel_rfl) (rsmall_any _ 1 (by decide) (by decide)) ?_
                rintro e w2 ⟨⟨v, rfl, hv⟩, hb⟩
                exact ⟨v, rfl, hb, hv⟩
              · obtain ⟨hb1_, P0_, P1_, TY_, Xquo_, quo_, Xrst_, rst_, VXrst_, HB_⟩ := hG
                have d0 := dep_of hdep 0 (by kernel_rfl)
                have e51 := (new_slot hf 0 51 d0 (by kernel_rfl)).trans (show V 0 = .agg #[.bool q511, .slice A511 n511 c511] from hφ 0 d0)
                have d1 := dep_of hdep 1 (by kernel_rfl)
                have e52 := new_slot hf 1 52 d1 (by kernel_rfl)
                have p52 : IntV w1 (V 1) 1 := hφ 1 d1
                refine ob_go rfl (vs := #[.agg #[.bool q511, .slice A511 n511 c511], V 1]) (by simp only [List.map_toArray, List.map_cons, List.map_nil, e51, e52]) (by kernel_rfl) (radd_any _ (.agg #[.bool q511, .slice A511 n511 c511]) (V 1) (sg (na != nb) (nv qs)) 1 N 1 (quo_.arg SQ.out) (p52.arg (Sm.one (n := 1) (by decide) (by decide))) (by omega) (by omega)) ?_
                rintro e w2 ⟨⟨v, rfl, hv⟩, hb⟩
                exact ⟨v, rfl, hb, hv⟩
              · obtain ⟨hb1_, P0_, P1_, TY_, Xquo_, quo_, Xrst_, rst_, VXrst_, HB_⟩ := hG
                have e12 := old_slot hf 12 (by kernel_rfl)
                exact ob_load_int rfl e12 Xrst_ rfl
              · obtain ⟨hb1_, P0_, P1_, TY_, Xquo_, quo_, Xrst_, rst_, VXrst_, HB_⟩ := hG
                have d2 := dep_of hdep 2 (by kernel_rfl)
                have e53 := new_slot hf 2 53 d2 (by kernel_rfl)
                have p53 : IntV w1 (V 2) ((sg (na != nb) (nv qs)) + 1) := hφ 2 d2
                have e4 := old_slot hf 4 (by kernel_rfl)
                have hb0 := hψ 0 (by decide)
                rw [show [4, 5].getD 0 0 = 4 from rfl, hL] at hb0
                exact ob_fillOld_int rfl e4 e53 hb0 p53 (fun w2 h => h) rfl
              · obtain ⟨hb1_, P0_, P1_, TY_, Xquo_, quo_, Xrst_, rst_, VXrst_, HB_⟩ := hG
                have d3 := dep_of hdep 3 (by kernel_rfl)
                have e54 := (new_slot hf 3 54 d3 (by kernel_rfl)).trans (show V 3 = .agg #[.bool q950, .slice A950 n950 c950] from hφ 3 d3)
                have e5 := old_slot hf 5 (by kernel_rfl)
                have hb0 := hψ 1 (by decide)
                rw [show [4, 5].getD 1 0 = 5 from rfl, hL] at hb0
                exact ob_fillOld_int rfl e5 e54 hb0 VXrst_ (fun w2 h => h) rfl
              · obtain ⟨hb1_, P0_, P1_, TY_, Xquo_, quo_, Xrst_, rst_, VXrst_, HB_⟩ := hG
                exact ob_pure (v := .bool true) (ex_assignV rfl rfl) rfl
            · intro V W13 hG hsz13 hφ hψ hne
              have hlt13 : W11.heap.size ≤ W13.heap.size := hsz13
              obtain ⟨hb1_, P0_, P1_, TY_, Xquo_, quo_, Xrst_, rst_, VXrst_, HB_⟩ := hG
              have hb1 := hid hb1_
              have P0 := hid P0_
              have P1 := hid P1_
              have TY := hid TY_
              have Xquo := hid Xquo_
              have quo := hid quo_
              have Xrst := hid Xrst_
              have rst := hid rst_
              have VXrst := hid VXrst_
              have HB := hid HB_
              have y0 : V 0 = .agg #[.bool q511, .slice A511 n511 c511] := hφ 0 (by decide)
              have y3 : V 3 = .agg #[.bool q950, .slice A950 n950 c950] := hφ 3 (by decide)
              have y6 : V 6 = .bool true := hφ 6 (by decide)
              obtain ⟨q1350, A1350, n1350, c1350, kb1350, vb1350⟩ := hψ 0 (by decide)
              have R0 := hid kb1350
              have VR0 := hid vb1350
              clear kb1350 vb1350
              obtain ⟨q1351, A1351, n1351, c1351, kb1351, vb1351⟩ := hψ 1 (by decide)
              have R1 := hid kb1351
              have VR1 := hid vb1351
              clear kb1351 vb1351
              simp only [puts, Act.put, List.setIfInBounds_toArray, List.set_cons_zero, List.set_cons_succ, y0, y3, y6]
              clear hφ hψ hne y0 y3 y6 hb1_ P0_ P1_ TY_ Xquo_ quo_ Xrst_ rst_ VXrst_ HB_ hsz13
              obtain ⟨k14, l14, f14, g14⟩ := id R0.out.bx
              obtain ⟨k15, l15, f15, g15⟩ := id R1.out.bx
              go_wp2
              refine bodyPost_ret (v := .tuple #[.agg #[.bool q1350, .slice A1350 n1350 c1350], .agg #[.bool q1351, .slice A1351 n1351 c1351], .bool true]) (by simp [results, Try.results74, go_sem, k14, l14, k15, l15]) rfl ⟨⟨_, _, rfl, ?_, ?_⟩, HB.out⟩
              · have h1 := DS.out.1
                have h2 := VR0.out
                have h3 := HN.out
                have h4 := HBN.out
                have h5 := Y0.out
                have h6 := EB.out
                have h7 := RF.out.2.2
                rw [QF.out.2.2] at h2
                rw [h1]
                cases na with
                | false => rw [sg_false] at h3; have := M0.out; omega
                | true =>
                  rw [sg_true] at h3
                  cases nb with
                  | false => rw [sg_false] at h6; omega
                  | true => rw [if_pos ⟨rfl, by omega⟩]; exact h2
              · have h1 := DS.out.2
                have h2 := VR1.out
                have h3 := HN.out
                have h7 := RF.out.2.2
                rw [h1]
                cases na with
                | false => rw [sg_false] at h3; have := M0.out; omega
                | true =>
                  rw [sg_true] at h3
                  rw [if_pos ⟨rfl, by omega⟩]
                  rw [h7] at h2
                  have e : sg true (nv xs % nv ys) + sg false (nv ys) = nv ys - nv xs % nv ys := by simp [sg]; omega
                  rw [e] at h2; exact h2
          · have hd2 : decide (cm b 0 < 0) = false := by rw [decide_eq_false_iff_not]; rcases cm_form b 0 with ⟨h, e⟩ | ⟨h, e⟩ | ⟨h, e⟩ <;> omega
            have HBN := hid hbn
            clear hbn
            obtain ⟨k16, l16, f16, g16⟩ := id P1.out.bx
            go_wp2_with fail
            refine (rsign_any _ _ b N hb1.out).mono ?_
            rintro e W17 ⟨rfl, hb17⟩
            clear k16 l16 f16 g16
            have HB := hid (bw_step HB.out hb17)
            have hb1 := hid (hb1.out.below hb17)
            have P0 := hid (P0.out.below hb17)
            have P1 := hid (P1.out.below hb17)
            have R0 := hid (R0.out.below hb17)
            have R1 := hid (R1.out.below hb17)
            have TY := hid (TY.out.below hb17)
            have Xquo := hid (Xquo.out.below hb17)
            have quo := hid (quo.out.below hb17)
            have Xrst := hid (Xrst.out.below hb17)
            have rst := hid (rst.out.below hb17)
            have VXrst := hid (VXrst.out.below hb17)
            clear hb17
            go_wp2_with fail
            have SM18 : Hid (Sm (N + 2) ((sg (na != nb) (nv qs)) - 1)) := hid ((SQ.out).minus ((Sm.one (n := 1) (by decide) (by decide))) (by omega) (by omega))
            refine wp_region_each (by kernel_rfl) 7 61 rfl rfl (by kernel_rfl)
              [Fact.eq (.agg #[.bool q511, .slice A511 n511 c511]), Fact.int 1, Fact.int ((sg (na != nb) (nv qs)) - 1), Fact.eq (.agg #[.bool q950, .slice A950 n950 c950]), Fact.top _, Fact.top _, Fact.eq (.bool true)]
              [.val, .val, .val, .val, .fillOld 0, .fillOld 1, .val]
              (fun w' => IntA w' (.agg #[.bool nb, .slice Ar ys.length cr]) (b) N ∧ Blk w' (w.heap.size) 24 #[.bool na, .slice As xs.length cs] ∧ Blk w' (w.heap.size + 1) 24 #[.bool nb, .slice Ar ys.length cr] ∧ SlV w' (.slice A107 (tr ys).length c107) (tr ys) ∧ Blk w' (G5_11) 24 #[.bool q511, .slice A511 n511 c511] ∧ IntV w' (.agg #[.bool q511, .slice A511 n511 c511]) ((sg (na != nb) (nv qs))) ∧ Blk w' (G5_12) 24 #[.bool q950, .slice A950 n950 c950] ∧ IntV w' (.agg #[.bool q512, .slice A512 n512 c512]) ((sg na (nv rs))) ∧ IntV w' (.agg #[.bool q950, .slice A950 n950 c950]) (((sg na (nv rs)) + (sg false (nv ys)))) ∧ Below w.heap.size w w')
              (fun l b w' => match l with
                | 0 => if b = true then BoxI w' (w.heap.size + 1 + 1) ((sg (na != nb) (nv qs)) - 1) else Blk w' (w.heap.size + 1 + 1) 24 #[.bool false, .slice none 0 0]
                | 1 => if b = true then BoxI w' (w.heap.size + 1 + 1 + 1) ((sg na (nv rs)) + (sg false (nv ys))) else Blk w' (w.heap.size + 1 + 1 + 1) 24 #[.bool false, .slice none 0 0]
                | _ => True)
              [4, 5] (fun l => match l with | 0 => w.heap.size + 1 + 1 | 1 => w.heap.size + 1 + 1 + 1 | _ => 0) (by kernel_rfl)
              ⟨hb1.out, P0.out, P1.out, TY.out, Xquo.out, quo.out, Xrst.out, rst.out, VXrst.out, HB.out⟩
              (fun w1 w2 ⟨h0, h1, h2, h3, h4, h5, h6, h7, h8, h9⟩ hb => ⟨h0.below hb, h1.below hb, h2.below hb, h3.below hb, h4.below hb, h5.below hb, h6.below hb, h7.below hb, h8.below hb, bw_step h9 hb⟩)
              (fun w1 w2 g ⟨h0, h1, h2, h3, h4, h5, h6, h7, h8, h9⟩ hg hn ho => by
                have hg' : W17.heap.size ≤ g ∨ g = w.heap.size + 1 + 1 ∨ g = w.heap.size + 1 + 1 + 1 := by
                  rcases hg with h | ⟨l, hl, h⟩
                  · exact .inl h
                  · rcases l with _ | l
                    · exact .inr (.inl h)
                    · rcases l with _ | l
                      · exact .inr (.inr h)
                      · exact absurd hl (by simp)
                exact ⟨h0.only hn ho, h1.only ho (by have := P0.out.lt; have := P1.out.lt; have := R0.out.lt; have := R1.out.lt; have := Xquo.out.lt; have := Xrst.out.lt; omega), h2.only ho (by have := P0.out.lt; have := P1.out.lt; have := R0.out.lt; have := R1.out.lt; have := Xquo.out.lt; have := Xrst.out.lt; omega), h3.only hn ho, h4.only ho (by have := P0.out.lt; have := P1.out.lt; have := R0.out.lt; have := R1.out.lt; have := Xquo.out.lt; have := Xrst.out.lt; omega), h5.only hn ho, h6.only ho (by have := P0.out.lt; have := P1.out.lt; have := R0.out.lt; have := R1.out.lt; have := Xquo.out.lt; have := Xrst.out.lt; omega), h7.only hn ho, h8.only hn ho, below_only h9 ho (by have := P0.out.lt; have := P1.out.lt; have := R0.out.lt; have := R1.out.lt; have := Xquo.out.lt; have := Xrst.out.lt; have := HB.out.size; omega)⟩)
              (fun l hl => by
                  rcases l with _ | l
                  · exact R0.out
                  rcases l with _ | l
                  · exact R1.out
                  · exact absurd hl (by simp))
              (fun l b w1 w2 hl h hb => by
                  rcases l with _ | l
                  · (cases b <;> exact h.below hb)
                  rcases l with _ | l
                  · (cases b <;> exact h.below hb)
                  · exact absurd hl (by simp))
              (fun l b w1 w2 g hl h hg hn ho => by
                  rcases l with _ | l
                  · (cases b; (exact h.only ho (Ne.symm hg)); (exact h.only (Ne.symm hg) hn ho))
                  rcases l with _ | l
                  · (cases b; (exact h.only ho (Ne.symm hg)); (exact h.only (Ne.symm hg) hn ho))
                  · exact absurd hl (by simp))
              (fun l hl => by
                  rcases l with _ | l
                  · exact R0.out.lt
                  rcases l with _ | l
                  · exact R1.out.lt
                  · exact absurd hl (by simp))
              (fun l k hl hk hne => by
                have hh : w.heap.size + 1 + 1 ≠ w.heap.size + 1 + 1 + 1 := by omega
                have h1 : l = 0 ∨ l = 1 := by simp at hl; omega
                have h2 : k = 0 ∨ k = 1 := by simp at hk; omega
                rcases h1 with rfl | rfl <;> rcases h2 with rfl | rfl
                · exact absurd rfl hne
                · exact hh
                · exact Ne.symm hh
                · exact absurd rfl hne)
              ?_ ?_
            · refine ⟨?_, ?_, ?_, ?_, ?_, ?_, ?_, trivial⟩ <;> intro L V a1 w1 hf hG hsz hφ hψ hL hdep hcl
              · obtain ⟨hb1_, P0_, P1_, TY_, Xquo_, quo_, Xrst_, rst_, VXrst_, HB_⟩ := hG
                have e11 := old_slot hf 11 (by kernel_rfl)
                exact ob_load_int rfl e11 Xquo_ rfl
              · obtain ⟨hb1_, P0_, P1_, TY_, Xquo_, quo_, Xrst_, rst_, VXrst_, HB_⟩ := hG
                refine ob_go rfl (vs := #[.int .i64 1]) (by simp only [List.map_toArray, List.map_cons, List.map_nil, ev_const]) (by kernel_rfl) (rsmall_any _ 1 (by decide) (by decide)) ?_
                rintro e w2 ⟨⟨v, rfl, hv⟩, hb⟩
                exact ⟨v, rfl, hb, hv⟩
              · obtain ⟨hb1_, P0_, P1_, TY_, Xquo_, quo_, Xrst_, rst_, VXrst_, HB_⟩ := hG
                have d0 := dep_of hdep 0 (by kernel_rfl)
                have e55 := (new_slot hf 0 55 d0 (by kernel_rfl)).trans (show V 0 = .agg #[.bool q511, .slice A511 n511 c511] from hφ 0 d0)
                have d1 := dep_of hdep 1 (by kernel_rfl)
                have e56 := new_slot hf 1 56 d1 (by kernel_rfl)
                have p56 : IntV w1 (V 1) 1 := hφ 1 d1
                refine ob_go rfl (vs := #[.agg #[.bool q511, .slice A511 n511 c511], V 1]) (by simp only [List.map_toArray, List.map_cons, List.map_nil, e55, e56]) (by kernel_rfl) (rsub_any _ (.agg #[.bool q511, .slice A511 n511 c511]) (V 1) (sg (na != nb) (nv qs)) 1 N 1 (quo_.arg SQ.out) (p56.arg (Sm.one (n := 1) (by decide) (by decide))) (by omega) (by omega)) ?_
                rintro e w2 ⟨⟨v, rfl, hv⟩, hb⟩
                exact ⟨v, rfl, hb, hv⟩
              · obtain ⟨hb1_, P0_, P1_, TY_, Xquo_, quo_, Xrst_, rst_, VXrst_, HB_⟩ := hG
                have e12 := old_slot hf 12 (by kernel_rfl)
                exact ob_load_int rfl e12 Xrst_ rfl
              · obtain ⟨hb1_, P0_, P1_, TY_, Xquo_, quo_, Xrst_, rst_, VXrst_, HB_⟩ := hG
                have d2 := dep_of hdep 2 (by kernel_rfl)
                have e57 := new_slot hf 2 57 d2 (by kernel_rfl)
                have p57 : IntV w1 (V 2) ((sg (na != nb) (nv qs)) - 1) := hφ 2 d2
                have e4 := old_slot hf 4 (by kernel_rfl)
                have hb0 := hψ 0 (by decide)
                rw [show [4, 5].getD 0 0 = 4 from rfl, hL] at hb0
                exact ob_fillOld_int rfl e4 e57 hb0 p57 (fun w2 h => h) rfl
              · obtain ⟨hb1_, P0_, P1_, TY_, Xquo_, quo_, Xrst_, rst_, VXrst_, HB_⟩ := hG
                have d3 := dep_of hdep 3 (by kernel_rfl)
                have e58 := (new_slot hf 3 58 d3 (by kernel_rfl)).trans (show V 3 = .agg #[.bool q950, .slice A950 n950 c950] from hφ 3 d3)
                have e5 := old_slot hf 5 (by kernel_rfl)
                have hb0 := hψ 1 (by decide)
                rw [show [4, 5].getD 1 0 = 5 from rfl, hL] at hb0
                exact ob_fillOld_int rfl e5 e58 hb0 VXrst_ (fun w2 h => h) rfl
              · obtain ⟨hb1_, P0_, P1_, TY_, Xquo_, quo_, Xrst_, rst_, VXrst_, HB_⟩ := hG
                exact ob_pure (v := .bool true) (ex_assignV rfl rfl) rfl
            · intro V W19 hG hsz19 hφ hψ hne
              have hlt19 : W17.heap.size ≤ W19.heap.size := hsz19
              obtain ⟨hb1_, P0_, P1_, TY_, Xquo_, quo_, Xrst_, rst_, VXrst_, HB_⟩ := hG
              have hb1 := hid hb1_
              have P0 := hid P0_
              have P1 := hid P1_
              have TY := hid TY_
              have Xquo := hid Xquo_
              have quo := hid quo_
              have Xrst := hid Xrst_
              have rst := hid rst_
              have VXrst := hid VXrst_
              have HB := hid HB_
              have y0 : V 0 = .agg #[.bool q511, .slice A511 n511 c511] := hφ 0 (by decide)
              have y3 : V 3 = .agg #[.bool q950, .slice A950 n950 c950] := hφ 3 (by decide)
              have y6 : V 6 = .bool true := hφ 6 (by decide)
              obtain ⟨q1950, A1950, n1950, c1950, kb1950, vb1950⟩ := hψ 0 (by decide)
              have R0 := hid kb1950
              have VR0 := hid vb1950
              clear kb1950 vb1950
              obtain ⟨q1951, A1951, n1951, c1951, kb1951, vb1951⟩ := hψ 1 (by decide)
              have R1 := hid kb1951
              have VR1 := hid vb1951
              clear kb1951 vb1951
              simp only [puts, Act.put, List.setIfInBounds_toArray, List.set_cons_zero, List.set_cons_succ, y0, y3, y6]
              clear hφ hψ hne y0 y3 y6 hb1_ P0_ P1_ TY_ Xquo_ quo_ Xrst_ rst_ VXrst_ HB_ hsz19
              obtain ⟨k20, l20, f20, g20⟩ := id R0.out.bx
              obtain ⟨k21, l21, f21, g21⟩ := id R1.out.bx
              go_wp2
              refine bodyPost_ret (v := .tuple #[.agg #[.bool q1950, .slice A1950 n1950 c1950], .agg #[.bool q1951, .slice A1951 n1951 c1951], .bool true]) (by simp [results, Try.results74, go_sem, k20, l20, k21, l21]) rfl ⟨⟨_, _, rfl, ?_, ?_⟩, HB.out⟩
              · have h1 := DS.out.1
                have h2 := VR0.out
                have h3 := HN.out
                have h4 := HBN.out
                have h5 := Y0.out
                have h6 := EB.out
                have h7 := RF.out.2.2
                rw [QF.out.2.2] at h2
                rw [h1]
                cases na with
                | false => rw [sg_false] at h3; have := M0.out; omega
                | true =>
                  rw [sg_true] at h3
                  cases nb with
                  | false => rw [if_pos ⟨rfl, by omega⟩]; rw [show sg (true != false) (nv xs / nv ys) - 1 = sg (true != false) (nv xs / nv ys + 1) from by (show -_ - 1 = -(_ + 1)); omega] at h2; exact h2
                  | true => rw [sg_true] at h6; omega
              · have h1 := DS.out.2
                have h2 := VR1.out
                have h3 := HN.out
                have h7 := RF.out.2.2
                rw [h1]
                cases na with
                | false => rw [sg_false] at h3; have := M0.out; omega
                | true =>
                  rw [sg_true] at h3
                  rw [if_pos ⟨rfl, by omega⟩]
                  rw [h7] at h2
                  have e : sg true (nv xs % nv ys) + sg false (nv ys) = nv ys - nv xs % nv ys := by simp [sg]; omega
                  rw [e] at h2; exact h2
      · have hd : decide (cm (sg na (nv rs)) 0 < 0) = false := by rw [decide_eq_false_iff_not]; rcases cm_form (sg na (nv rs)) 0 with ⟨h, e⟩ | ⟨h, e⟩ | ⟨h, e⟩ <;> omega
        have HN := hid hneg
        clear hneg
        obtain ⟨k22, l22, f22, g22⟩ := id Xrst.out.bx
        go_wp2_with fail
        refine (rsign_any _ _ (sg na (nv rs)) N (rst.out.arg SR.out)).mono ?_
        rintro e W23 ⟨rfl, hb23⟩
        clear k22 l22 f22 g22
        have HB := hid (bw_step HB.out hb23)
        have hb1 := hid (hb1.out.below hb23)
        have P0 := hid (P0.out.below hb23)
        have P1 := hid (P1.out.below hb23)
        have R0 := hid (R0.out.below hb23)
        have R1 := hid (R1.out.below hb23)
        have TY := hid (TY.out.below hb23)
        have Xquo := hid (Xquo.out.below hb23)
        have quo := hid (quo.out.below hb23)
        have Xrst := hid (Xrst.out.below hb23)
        have rst := hid (rst.out.below hb23)
        clear hb23
        go_wp2_with fail
        refine wp_region_each (by kernel_rfl) 5 61 rfl rfl (by kernel_rfl)
          [Fact.eq (.agg #[.bool q511, .slice A511 n511 c511]), Fact.eq (.agg #[.bool q512, .slice A512 n512 c512]), Fact.top _, Fact.top _, Fact.eq (.bool true)]
          [.val, .val, .fillOld 0, .fillOld 1, .val]
          (fun w' => IntA w' (.agg #[.bool nb, .slice Ar ys.length cr]) (b) N ∧ Blk w' (w.heap.size) 24 #[.bool na, .slice As xs.length cs] ∧ Blk w' (w.heap.size + 1) 24 #[.bool nb, .slice Ar ys.length cr] ∧ SlV w' (.slice A107 (tr ys).length c107) (tr ys) ∧ Blk w' (G5_11) 24 #[.bool q511, .slice A511 n511 c511] ∧ IntV w' (.agg #[.bool q511, .slice A511 n511 c511]) ((sg (na != nb) (nv qs))) ∧ Blk w' (G5_12) 24 #[.bool q512, .slice A512 n512 c512] ∧ IntV w' (.agg #[.bool q512, .slice A512 n512 c512]) ((sg na (nv rs))) ∧ Below w.heap.size w w')
          (fun l b w' => match l with
            | 0 => if b = true then BoxI w' (w.heap.size + 1 + 1) (sg (na != nb) (nv qs)) else Blk w' (w.heap.size + 1 + 1) 24 #[.bool false, .slice none 0 0]
            | 1 => if b = true then BoxI w' (w.heap.size + 1 + 1 + 1) (sg na (nv rs)) else Blk w' (w.heap.size + 1 + 1 + 1) 24 #[.bool false, .slice none 0 0]
            | _ => True)
          [2, 3] (fun l => match l with | 0 => w.heap.size + 1 + 1 | 1 => w.heap.size + 1 + 1 + 1 | _ => 0) (by kernel_rfl)
          ⟨hb1.out, P0.out, P1.out, TY.out, Xquo.out, quo.out, Xrst.out, rst.out, HB.out⟩
          (fun w1 w2 ⟨h0, h1, h2, h3, h4, h5, h6, h7, h8⟩ hb => ⟨h0.below hb, h1.below hb, h2.below hb, h3.below hb, h4.below hb, h5.below hb, h6.below hb, h7.below hb, bw_step h8 hb⟩)
          (fun w1 w2 g ⟨h0, h1, h2, h3, h4, h5, h6, h7, h8⟩ hg hn ho => by
            have hg' : W23.heap.size ≤ g ∨ g = w.heap.size + 1 + 1 ∨ g = w.heap.size + 1 + 1 + 1 := by
              rcases hg with h | ⟨l, hl, h⟩
              · exact .inl h
              · rcases l with _ | l
                · exact .inr (.inl h)
                · rcases l with _ | l
                  · exact .inr (.inr h)
                  · exact absurd hl (by simp)
            exact ⟨h0.only hn ho, h1.only ho (by have := P0.out.lt; have := P1.out.lt; have := R0.out.lt; have := R1.out.lt; have := Xquo.out.lt; have := Xrst.out.lt; omega), h2.only ho (by have := P0.out.lt; have := P1.out.lt; have := R0.out.lt; have := R1.out.lt; have := Xquo.out.lt; have := Xrst.out.lt; omega), h3.only hn ho, h4.only ho (by have := P0.out.lt; have := P1.out.lt; have := R0.out.lt; have := R1.out.lt; have := Xquo.out.lt; have := Xrst.out.lt; omega), h5.only hn ho, h6.only ho (by have := P0.out.lt; have := P1.out.lt; have := R0.out.lt; have := R1.out.lt; have := Xquo.out.lt; have := Xrst.out.lt; omega), h7.only hn ho, below_only h8 ho (by have := P0.out.lt; have := P1.out.lt; have := R0.out.lt; have := R1.out.lt; have := Xquo.out.lt; have := Xrst.out.lt; have := HB.out.size; omega)⟩)
          (fun l hl => by
              rcases l with _ | l
              · exact R0.out
              rcases l with _ | l
              · exact R1.out
              · exact absurd hl (by simp))
          (fun l b w1 w2 hl h hb => by
              rcases l with _ | l
              · (cases b <;> exact h.below hb)
              rcases l with _ | l
              · (cases b <;> exact h.below hb)
              · exact absurd hl (by simp))
          (fun l b w1 w2 g hl h hg hn ho => by
              rcases l with _ | l
              · (cases b; (exact h.only ho (Ne.symm hg)); (exact h.only (Ne.symm hg) hn ho))
              rcases l with _ | l
              · (cases b; (exact h.only ho (Ne.symm hg)); (exact h.only (Ne.symm hg) hn ho))
              · exact absurd hl (by simp))
          (fun l hl => by
              rcases l with _ | l
              · exact R0.out.lt
              rcases l with _ | l
              · exact R1.out.lt
              · exact absurd hl (by simp))
          (fun l k hl hk hne => by
            have hh : w.heap.size + 1 + 1 ≠ w.heap.size + 1 + 1 + 1 := by omega
            have h1 : l = 0 ∨ l = 1 := by simp at hl; omega
            have h2 : k = 0 ∨ k = 1 := by simp at hk; omega
            rcases h1 with rfl | rfl <;> rcases h2 with rfl | rfl
            · exact absurd rfl hne
            · exact hh
            · exact Ne.symm hh
            · exact absurd rfl hne)
          ?_ ?_
        · refine ⟨?_, ?_, ?_, ?_, ?_, trivial⟩ <;> intro L V a1 w1 hf hG hsz hφ hψ hL hdep hcl
          · obtain ⟨hb1_, P0_, P1_, TY_, Xquo_, quo_, Xrst_, rst_, HB_⟩ := hG
            have e11 := old_slot hf 11 (by kernel_rfl)
            exact ob_load_int rfl e11 Xquo_ rfl
          · obtain ⟨hb1_, P0_, P1_, TY_, Xquo_, quo_, Xrst_, rst_, HB_⟩ := hG
            have e12 := old_slot hf 12 (by kernel_rfl)
            exact ob_load_int rfl e12 Xrst_ rfl
          · obtain ⟨hb1_, P0_, P1_, TY_, Xquo_, quo_, Xrst_, rst_, HB_⟩ := hG
            have d0 := dep_of hdep 0 (by kernel_rfl)
            have e59 := (new_slot hf 0 59 d0 (by kernel_rfl)).trans (show V 0 = .agg #[.bool q511, .slice A511 n511 c511] from hφ 0 d0)
            have e4 := old_slot hf 4 (by kernel_rfl)
            have hb0 := hψ 0 (by decide)
            rw [show [2, 3].getD 0 0 = 2 from rfl, hL] at hb0
            exact ob_fillOld_int rfl e4 e59 hb0 quo_ (fun w2 h => h) rfl
          · obtain ⟨hb1_, P0_, P1_, TY_, Xquo_, quo_, Xrst_, rst_, HB_⟩ := hG
            have d1 := dep_of hdep 1 (by kernel_rfl)
            have e60 := (new_slot hf 1 60 d1 (by kernel_rfl)).trans (show V 1 = .agg #[.bool q512, .slice A512 n512 c512] from hφ 1 d1)
            have e5 := old_slot hf 5 (by kernel_rfl)
            have hb0 := hψ 1 (by decide)
            rw [show [2, 3].getD 1 0 = 3 from rfl, hL] at hb0
            exact ob_fillOld_int rfl e5 e60 hb0 rst_ (fun w2 h => h) rfl
          · obtain ⟨hb1_, P0_, P1_, TY_, Xquo_, quo_, Xrst_, rst_, HB_⟩ := hG
            exact ob_pure (v := .bool true) (ex_assignV rfl rfl) rfl
        · intro V W24 hG hsz24 hφ hψ hne
          have hlt24 : W23.heap.size ≤ W24.heap.size := hsz24
          obtain ⟨hb1_, P0_, P1_, TY_, Xquo_, quo_, Xrst_, rst_, HB_⟩ := hG
          have hb1 := hid hb1_
          have P0 := hid P0_
          have P1 := hid P1_
          have TY := hid TY_
          have Xquo := hid Xquo_
          have quo := hid quo_
          have Xrst := hid Xrst_
          have rst := hid rst_
          have HB := hid HB_
          have y0 : V 0 = .agg #[.bool q511, .slice A511 n511 c511] := hφ 0 (by decide)
          have y1 : V 1 = .agg #[.bool q512, .slice A512 n512 c512] := hφ 1 (by decide)
          have y4 : V 4 = .bool true := hφ 4 (by decide)
          obtain ⟨q2450, A2450, n2450, c2450, kb2450, vb2450⟩ := hψ 0 (by decide)
          have R0 := hid kb2450
          have VR0 := hid vb2450
          clear kb2450 vb2450
          obtain ⟨q2451, A2451, n2451, c2451, kb2451, vb2451⟩ := hψ 1 (by decide)
          have R1 := hid kb2451
          have VR1 := hid vb2451
          clear kb2451 vb2451
          simp only [puts, Act.put, List.setIfInBounds_toArray, List.set_cons_zero, List.set_cons_succ, y0, y1, y4]
          clear hφ hψ hne y0 y1 y4 hb1_ P0_ P1_ TY_ Xquo_ quo_ Xrst_ rst_ HB_ hsz24
          obtain ⟨k25, l25, f25, g25⟩ := id R0.out.bx
          obtain ⟨k26, l26, f26, g26⟩ := id R1.out.bx
          go_wp2
          refine bodyPost_ret (v := .tuple #[.agg #[.bool q2450, .slice A2450 n2450 c2450], .agg #[.bool q2451, .slice A2451 n2451 c2451], .bool true]) (by simp [results, Try.results74, go_sem, k25, l25, k26, l26]) rfl ⟨⟨_, _, rfl, ?_, ?_⟩, HB.out⟩
          · have h1 := DS.out.1
            have h2 := VR0.out
            have h3 := HN.out
            have h7 := RF.out.2.2
            rw [QF.out.2.2] at h2
            rw [h1]
            cases na with
            | false => rw [if_neg (by simp)]; exact h2
            | true =>
              rw [sg_true] at h3
              rw [if_neg (by have := M0.out; omega)]; exact h2
          · have h1 := DS.out.2
            have h2 := VR1.out
            have h3 := HN.out
            have h7 := RF.out.2.2
            rw [h1]
            rw [h7] at h2
            cases na with
            | false => rw [if_neg (by simp)]; exact h2
            | true =>
              rw [sg_true] at h3 h2
              rw [if_neg (by have := M0.out; omega)]
              have e : -(nv xs % nv ys) = nv xs % nv ys := by have := M0.out; omega
              rw [e] at h2; exact h2
end Go.Proofs.Ytijmjkkjopplbaa

namespace Go.Proofs.Ytijmjkkjopplbaa
open Go.RowKit
set_option linter.unusedVariables false
set_option maxRecDepth 100000

theorem rrem_any (w : World) (v u : Value) (a b : Int) (N : Nat) (hN : N ≤ 1000000) (ha : IntA w v a N) (hb : IntA w u b N) (hb0 : b ≠ 0) :
    Calls Try.prog 98 #[v, u] w fun e w' => RetI w' (a % b) e ∧ Below w.heap.size w w' := by
  obtain ⟨na, As, sn, cs, rfl⟩ := ha.form
  obtain ⟨nb, Ar, rn, cr, rfl⟩ := hb.form
  have FA := hid ha
  have FB := hid hb
  clear ha hb
  have HB := hid (Below.refl w.heap.size w)
  obtain ⟨W, hW⟩ : ∃ W, W = (((w.alloc (.cells #[.bool na, .slice As sn cs] 24)).alloc (.cells #[.bool nb, .slice Ar rn cr] 24)).alloc (.cells #[.bool false, .slice none 0 0] 24)) := ⟨_, rfl⟩
  have hbb : Below w.heap.size w W := by rw [hW]; exact (bw_alloc (bw_alloc (bw_alloc (Below.refl _ _) _) _) _)
  have HB := hid (bw_step HB.out hbb)
  have FA := hid (FA.out.below hbb)
  have FB := hid (FB.out.below hbb)
  have P0 : Hid (Blk W (w.heap.size) 24 #[.bool na, .slice As sn cs]) := by
    rw [hW]
    have := ((Blk.new w 24 #[.bool na, .slice As sn cs]).below (bw_alloc (Below.refl _ _) (.cells #[.bool nb, .slice Ar rn cr] 24))).below (bw_alloc (Below.refl _ _) (.cells #[.bool false, .slice none 0 0] 24))
    exact hid (by simpa only [World.size_alloc] using this)
  have P1 : Hid (Blk W (w.heap.size + 1) 24 #[.bool nb, .slice Ar rn cr]) := by
    rw [hW]
    have := (Blk.new (w.alloc (.cells #[.bool na, .slice As sn cs] 24)) 24 #[.bool nb, .slice Ar rn cr]).below (bw_alloc (Below.refl _ _) (.cells #[.bool false, .slice none 0 0] 24))
    exact hid (by simpa only [World.size_alloc] using this)
  have R0 : Hid (Blk W (w.heap.size + 1 + 1) 24 #[.bool false, .slice none 0 0]) := by
    rw [hW]
    have := Blk.new ((w.alloc (.cells #[.bool na, .slice As sn cs] 24)).alloc (.cells #[.bool nb, .slice Ar rn cr] 24)) 24 #[.bool false, .slice none 0 0]
    exact hid (by simpa only [World.size_alloc] using this)
  clear hbb
  obtain ⟨k1, l1, f1, g1⟩ := id P0.out.bx
  obtain ⟨k2, l2, f2, g2⟩ := id P1.out.bx
  go_enter Try.func98, Try.ntmps98
  go_wp2_with fail
  rw [← hW]
  clear hW
  refine (rdivMod_any _ _ _ a b N hN FA.out FB.out hb0).mono ?_
  rintro e W3 ⟨⟨u1, u2, rfl, hu1, hu2⟩, hb3⟩
  clear k1 l1 f1 g1 k2 l2 f2 g2
  have HB := hid (bw_step HB.out hb3)
  have FA := hid (FA.out.below hb3)
  have FB := hid (FB.out.below hb3)
  have P0 := hid (P0.out.below hb3)
  have P1 := hid (P1.out.below hb3)
  have R0 := hid (R0.out.below hb3)
  clear hb3
  obtain ⟨q1, A1, n1, c1, rfl⟩ := hu1.form
  obtain ⟨q2, A2, n2, c2, rfl⟩ := hu2.form
  have U2 := hid hu2
  clear hu1 hu2
  have hb1 := bw_two W3 (.cells #[.bool q1, .slice A1 n1 c1] 24) (.cells #[.bool q2, .slice A2 n2 c2] 24)
  have x0 := R0.out.bx.below hb1
  have F := hid (fin_any (HB.out.trans (hb1.mono HB.out.size)) (g := w.heap.size + 1 + 1) (by omega) x0.1 x0.2.1 (U2.out.below hb1) (.bool q2) (.slice A2 n2 c2))
  clear hb1
  obtain ⟨k5, k6, f5, f6⟩ := id x0
  go_wp2
  exact bodyPost_ret (v := .agg #[.bool q2, .slice A2 n2 c2]) (by simp [results, Try.results98, go_sem, k5, k6]) rfl ⟨⟨_, rfl, F.out.1⟩, F.out.2⟩

end Go.Proofs.Ytijmjkkjopplbaa

namespace Go.Proofs.Ytijmjkkjopplbaa
open Go.RowKit
set_option linter.unusedVariables false
set_option maxRecDepth 100000

set_option maxHeartbeats 4000000 in
theorem rgcd_any (w : World) (v u : Value) (a b : Int) (N : Nat) (hN : N ≤ 1000000) (ha : IntA w v a N) (hb : IntA w u b N) :
    Calls Try.prog 71 #[v, u] w fun e w' => RetI w' ((Int.gcd a b : Nat) : Int) e ∧ Below w.heap.size w w' := by
  obtain ⟨na, As, sn, cs, rfl⟩ := ha.form
  obtain ⟨nb, Ar, rn, cr, rfl⟩ := hb.form
  have FA := hid ha
  have FB := hid hb
  clear ha hb
  have HB := hid (Below.refl w.heap.size w)
  obtain ⟨W, hW⟩ : ∃ W, W = (((w.alloc (.cells #[.bool na, .slice As sn cs] 24)).alloc (.cells #[.bool nb, .slice Ar rn cr] 24)).alloc (.cells #[.bool false, .slice none 0 0] 24)) := ⟨_, rfl⟩
  have hbb : Below w.heap.size w W := by rw [hW]; exact (bw_alloc (bw_alloc (bw_alloc (Below.refl _ _) _) _) _)
  have HB := hid (bw_step HB.out hbb)
  have FA := hid (FA.out.below hbb)
  have FB := hid (FB.out.below hbb)
  have P0 : Hid (Blk W (w.heap.size) 24 #[.bool na, .slice As sn cs]) := by
    rw [hW]
    have := ((Blk.new w 24 #[.bool na, .slice As sn cs]).below (bw_alloc (Below.refl _ _) (.cells #[.bool nb, .slice Ar rn cr] 24))).below (bw_alloc (Below.refl _ _) (.cells #[.bool false, .slice none 0 0] 24))
    exact hid (by simpa only [World.size_alloc] using this)
  have P1 : Hid (Blk W (w.heap.size + 1) 24 #[.bool nb, .slice Ar rn cr]) := by
    rw [hW]
    have := (Blk.new (w.alloc (.cells #[.bool na, .slice As sn cs] 24)) 24 #[.bool nb, .slice Ar rn cr]).below (bw_alloc (Below.refl _ _) (.cells #[.bool false, .slice none 0 0] 24))
    exact hid (by simpa only [World.size_alloc] using this)
  have R0 : Hid (Blk W (w.heap.size + 1 + 1) 24 #[.bool false, .slice none 0 0]) := by
    rw [hW]
    have := Blk.new ((w.alloc (.cells #[.bool na, .slice As sn cs] 24)).alloc (.cells #[.bool nb, .slice Ar rn cr] 24)) 24 #[.bool false, .slice none 0 0]
    exact hid (by simpa only [World.size_alloc] using this)
  clear hbb
  go_enter Try.func71, Try.ntmps71
  go_wp2_with fail
  rw [← hW]
  clear hW
  have SM1 : Hid (Sm N (((a).natAbs : Nat) : Int)) := hid ((FA.out.sm).absv)
  have SM2 : Hid (Sm N (((b).natAbs : Nat) : Int)) := hid ((FB.out.sm).absv)
  have lt2_P0 := P0.out.lt
  have lt2_P1 := P1.out.lt
  have lt2_R0 := R0.out.lt
  refine wp_region_each (by kernel_rfl) 8 19 rfl rfl (by kernel_rfl)
    [Fact.eq (.agg #[.bool na, .slice As sn cs]), Fact.int (((a).natAbs : Nat) : Int), Fact.eq (.agg #[.bool nb, .slice Ar rn cr]), Fact.int (((b).natAbs : Nat) : Int), Fact.box (((a).natAbs : Nat) : Int), Fact.box (((b).natAbs : Nat) : Int), Fact.top _, Fact.top _]
    [.val, .val, .val, .val, .alloc 6, .alloc 7, .fill 4, .fill 5]
    (fun w' => IntA w' (.agg #[.bool na, .slice As sn cs]) (a) N ∧ IntA w' (.agg #[.bool nb, .slice Ar rn cr]) (b) N ∧ Blk w' (w.heap.size) 24 #[.bool na, .slice As sn cs] ∧ Blk w' (w.heap.size + 1) 24 #[.bool nb, .slice Ar rn cr] ∧ Blk w' (w.heap.size + 1 + 1) 24 #[.bool false, .slice none 0 0] ∧ Below w.heap.size w w')
    (fun _ _ _ => True) [] (fun _ => 0) (by kernel_rfl)
    ⟨FA.out, FB.out, P0.out, P1.out, R0.out, HB.out⟩
    (fun w1 w2 ⟨h0, h1, h2, h3, h4, h5⟩ hb => ⟨h0.below hb, h1.below hb, h2.below hb, h3.below hb, h4.below hb, bw_step h5 hb⟩)
    (fun w1 w2 g ⟨h0, h1, h2, h3, h4, h5⟩ hg hn ho => by
      have hg' : W.heap.size ≤ g := hg.elim id (fun ⟨_, h, _⟩ => absurd h (Nat.not_lt_zero _))
      exact ⟨h0.only hn ho, h1.only hn ho, h2.only ho (by have := P0.out.lt; have := P1.out.lt; have := R0.out.lt; omega), h3.only ho (by have := P0.out.lt; have := P1.out.lt; have := R0.out.lt; omega), h4.only ho (by have := P0.out.lt; have := P1.out.lt; have := R0.out.lt; omega), below_only h5 ho (by have := P0.out.lt; have := P1.out.lt; have := R0.out.lt; have := HB.out.size; omega)⟩)
    (fun l h => trivial) (fun l b w1 w2 h _ _ => trivial) (fun l b w1 w2 g h _ _ _ _ => trivial) (fun l h => by cases h) (fun l k h => by cases h) ?_ ?_
  · refine ⟨?_, ?_, ?_, ?_, ?_, ?_, ?_, ?_, trivial⟩ <;> intro L V a1 w1 hf hG hsz hφ hψ hL hdep hcl
    · obtain ⟨FA_, FB_, P0_, P1_, R0_, HB_⟩ := hG
      have e2 := old_slot hf 2 (by kernel_rfl)
      exact ob_load_int rfl e2 P0_ rfl
    · obtain ⟨FA_, FB_, P0_, P1_, R0_, HB_⟩ := hG
      have d0 := dep_of hdep 0 (by kernel_rfl)
      have e7 := (new_slot hf 0 7 d0 (by kernel_rfl)).trans (show V 0 = .agg #[.bool na, .slice As sn cs] from hφ 0 d0)
      refine ob_go rfl (vs := #[.agg #[.bool na, .slice As sn cs]]) (by simp only [List.map_toArray, List.map_cons, List.map_nil, e7]) (by kernel_rfl) (rabs_any _ (.agg #[.bool na, .slice As sn cs]) a N FA_ ) ?_
      rintro e w2 ⟨⟨v, rfl, hv⟩, hb⟩
      exact ⟨v, rfl, hb, hv⟩
    · obtain ⟨FA_, FB_, P0_, P1_, R0_, HB_⟩ := hG
      have e3 := old_slot hf 3 (by kernel_rfl)
      exact ob_load_int rfl e3 P1_ rfl
    · obtain ⟨FA_, FB_, P0_, P1_, R0_, HB_⟩ := hG
      have d2 := dep_of hdep 2 (by kernel_rfl)
      have e9 := (new_slot hf 2 9 d2 (by kernel_rfl)).trans (show V 2 = .agg #[.bool nb, .slice Ar rn cr] from hφ 2 d2)
      refine ob_go rfl (vs := #[.agg #[.bool nb, .slice Ar rn cr]]) (by simp only [List.map_toArray, List.map_cons, List.map_nil, e9]) (by kernel_rfl) (rabs_any _ (.agg #[.bool nb, .slice Ar rn cr]) b N FB_ ) ?_
      rintro e w2 ⟨⟨v, rfl, hv⟩, hb⟩
      exact ⟨v, rfl, hb, hv⟩
    · obtain ⟨FA_, FB_, P0_, P1_, R0_, HB_⟩ := hG
      exact ob_alloc_int rfl hsz rfl
    · obtain ⟨FA_, FB_, P0_, P1_, R0_, HB_⟩ := hG
      exact ob_alloc_int rfl hsz rfl
    · obtain ⟨FA_, FB_, P0_, P1_, R0_, HB_⟩ := hG
      have d1 := dep_of hdep 1 (by kernel_rfl)
      have e8 := new_slot hf 1 8 d1 (by kernel_rfl)
      have p8 : IntV w1 (V 1) (((a).natAbs : Nat) : Int) := hφ 1 d1
      have d4 := dep_of hdep 4 (by kernel_rfl)
      obtain ⟨g, h1, h2, h3⟩ := hφ 4 d4
      exact ob_fill_int rfl ((new_slot hf 4 5 d4 (by kernel_rfl)).trans h1) e8 h1 h2 h3 p8 rfl rfl
    · obtain ⟨FA_, FB_, P0_, P1_, R0_, HB_⟩ := hG
      have d3 := dep_of hdep 3 (by kernel_rfl)
      have e10 := new_slot hf 3 10 d3 (by kernel_rfl)
      have p10 : IntV w1 (V 3) (((b).natAbs : Nat) : Int) := hφ 3 d3
      have d5 := dep_of hdep 5 (by kernel_rfl)
      obtain ⟨g, h1, h2, h3⟩ := hφ 5 d5
      exact ob_fill_int rfl ((new_slot hf 5 6 d5 (by kernel_rfl)).trans h1) e10 h1 h2 h3 p10 rfl rfl
  · intro V W3 hG hsz3 hφ hψ hne
    have hlt3 : W.heap.size ≤ W3.heap.size := hsz3
    obtain ⟨FA_, FB_, P0_, P1_, R0_, HB_⟩ := hG
    have FA := hid FA_
    have FB := hid FB_
    have P0 := hid P0_
    have P1 := hid P1_
    have R0 := hid R0_
    have HB := hid HB_
    have y0 : V 0 = .agg #[.bool na, .slice As sn cs] := hφ 0 (by decide)
    have y2 : V 2 = .agg #[.bool nb, .slice Ar rn cr] := hφ 2 (by decide)
    obtain ⟨G3_4, y4, gb304, q304, A304, n304, c304, kb304, vb304⟩ := hφ 4 (by decide)
    have Xx := hid kb304
    have x := hid vb304
    clear kb304 vb304
    obtain ⟨G3_5, y5, gb305, q305, A305, n305, c305, kb305, vb305⟩ := hφ 5 (by decide)
    have Xy := hid kb305
    have y := hid vb305
    clear kb305 vb305
    have ne3_4_5 : G3_4 ≠ G3_5 := fun e => hne 4 5 (by decide) rfl rfl (by rw [y4, y5, e])
    simp only [puts, Act.put, List.setIfInBounds_toArray, List.set_cons_zero, List.set_cons_succ, y0, y2, y4, y5, ptr]
    clear hφ hψ hne y0 y2 y4 y5 FA_ FB_ P0_ P1_ R0_ HB_ hsz3
    go_wp2
    go_loopg [] (b.natAbs) (fun gk wr => ∃ X Y : Int, Hid (0 ≤ X) ∧ Hid (0 ≤ Y) ∧ Hid (gk = Y.toNat) ∧ Hid (Int.gcd X Y = Int.gcd a b) ∧ Hid (Sm N X) ∧ Hid (Sm N Y) ∧ Hid (BoxI wr G3_4 X) ∧ Hid (BoxI wr G3_5 Y) ∧ Hid (Blk wr (w.heap.size + 1 + 1) 24 #[.bool false, .slice none 0 0]) ∧ Hid (Below w.heap.size w wr))
    case atStart => exact ⟨_, _, hid (Int.natCast_nonneg _), hid (Int.natCast_nonneg _), hid (by omega), hid (gcd_natAbs a b), SM1, SM2, ⟨_, _, _, _, Xx.out, x.out⟩, ⟨_, _, _, _, Xy.out, y.out⟩, R0.out, HB.out⟩
    case round =>
      clear FA FB P0 P1 R0 HB Xx Xy x y SM1 SM2
      obtain ⟨X, Y, X0, Y0, HG, HGC, SX, SY, BX, BY, R0, HB⟩ := hrel
      obtain ⟨qx, Ax, nx, cx, kx, vx⟩ := BX.out
      obtain ⟨qy, Ay, ny, cy, ky, vy⟩ := BY.out
      have Xx := hid kx
      have Xy := hid ky
      have x := hid vx
      have y := hid vy
      clear BX BY kx ky vx vy
      by_cases hy : Y = 0
      · have hc : (cm Y 0 == 0) = true := by rw [hy]; rfl
        have hc2 : (cm Y 0 != 0) = false := by rw [hy]; rfl
        have HY := hid hy
        clear hy
        obtain ⟨k4, l4, f4, g4⟩ := id Xy.out.bx
        go_wp2_with fail
        refine (rsign_any _ _ Y N (y.out.arg SY.out)).mono ?_
        rintro e W5 ⟨rfl, hb5⟩
        clear k4 l4 f4 g4
        have HB := hid (bw_step HB.out hb5)
        have R0 := hid (R0.out.below hb5)
        have Xx := hid (Xx.out.below hb5)
        have x := hid (x.out.below hb5)
        have Xy := hid (Xy.out.below hb5)
        have y := hid (y.out.below hb5)
        clear hb5
        obtain ⟨k6, l6, f6, g6⟩ := id Xx.out.bx
        obtain ⟨k7, l7, f7, g7⟩ := id R0.out.bx
        have F := hid (fin_any HB.out (g := w.heap.size + 1 + 1) (by omega) k7 l7 x.out (.bool qx) (.slice Ax nx cx))
        have hX : ((Int.gcd a b : Nat) : Int) = X := by rw [← HGC.out, HY.out]; exact gcd_zero' X0.out
        have HX := hid hX
        clear hX
        go_wp2
        refine bodyPost_ret (v := .agg #[.bool qx, .slice Ax nx cx]) (by simp [results, Try.results71, go_sem, k7, l7]) rfl ⟨⟨_, rfl, ?_⟩, F.out.2⟩
        rw [HX.out]; exact F.out.1
      · have hc : (cm Y 0 == 0) = false := by
          rw [beq_eq_false_iff_ne]; rcases cm_form Y 0 with ⟨h, e⟩ | ⟨h, e⟩ | ⟨h, e⟩ <;> omega
        have hc2 : (cm Y 0 != 0) = true := by
          rw [bne_iff_ne]; rcases cm_form Y 0 with ⟨h, e⟩ | ⟨h, e⟩ | ⟨h, e⟩ <;> omega
        have HY := hid hy
        clear hy
        obtain ⟨k8, l8, f8, g8⟩ := id Xy.out.bx
        go_wp2_with fail
        refine (rsign_any _ _ Y N (y.out.arg SY.out)).mono ?_
        rintro e W9 ⟨rfl, hb9⟩
        clear k8 l8 f8 g8
        have HB := hid (bw_step HB.out hb9)
        have R0 := hid (R0.out.below hb9)
        have Xx := hid (Xx.out.below hb9)
        have x := hid (x.out.below hb9)
        have Xy := hid (Xy.out.below hb9)
        have y := hid (y.out.below hb9)
        clear hb9
        go_wp2_with fail
        have SR : Hid (Sm N (X % Y)) := hid (SY.out.rem HY.out)
        refine wp_region_each (by kernel_rfl) 6 19 rfl rfl (by kernel_rfl)
          [Fact.eq (.agg #[.bool qy, .slice Ay ny cy]), Fact.eq (.agg #[.bool qx, .slice Ax nx cx]), Fact.eq (.agg #[.bool qy, .slice Ay ny cy]), Fact.int (X % Y), Fact.top _, Fact.top _]
          [.val, .val, .val, .val, .fillOld 0, .fillOld 1]
          (fun w' => Blk w' (w.heap.size + 1 + 1) 24 #[.bool false, .slice none 0 0] ∧ IntV w' (.agg #[.bool qx, .slice Ax nx cx]) (X) ∧ IntV w' (.agg #[.bool qy, .slice Ay ny cy]) (Y) ∧ Below w.heap.size w w')
          (fun l b w' => match l with
            | 0 => if b = true then BoxI w' (G3_4) Y else Blk w' (G3_4) 24 #[.bool qx, .slice Ax nx cx]
            | 1 => if b = true then BoxI w' (G3_5) (X % Y) else Blk w' (G3_5) 24 #[.bool qy, .slice Ay ny cy]
            | _ => True)
          [4, 5] (fun l => match l with | 0 => G3_4 | 1 => G3_5 | _ => 0) (by kernel_rfl)
          ⟨R0.out, x.out, y.out, HB.out⟩
          (fun w1 w2 ⟨h0, h1, h2, h3⟩ hb => ⟨h0.below hb, h1.below hb, h2.below hb, bw_step h3 hb⟩)
          (fun w1 w2 g ⟨h0, h1, h2, h3⟩ hg hn ho => by
            have hg' : W9.heap.size ≤ g ∨ g = G3_4 ∨ g = G3_5 := by
              rcases hg with h | ⟨l, hl, h⟩
              · exact .inl h
              · rcases l with _ | l
                · exact .inr (.inl h)
                · rcases l with _ | l
                  · exact .inr (.inr h)
                  · exact absurd hl (by simp)
            exact ⟨h0.only ho (by have := R0.out.lt; have := Xx.out.lt; have := Xy.out.lt; omega), h1.only hn ho, h2.only hn ho, below_only h3 ho (by have := R0.out.lt; have := Xx.out.lt; have := Xy.out.lt; have := HB.out.size; omega)⟩)
          (fun l hl => by
              rcases l with _ | l
              · exact Xx.out
              rcases l with _ | l
              · exact Xy.out
              · exact absurd hl (by simp))
          (fun l b w1 w2 hl h hb => by
              rcases l with _ | l
              · (cases b <;> exact h.below hb)
              rcases l with _ | l
              · (cases b <;> exact h.below hb)
              · exact absurd hl (by simp))
          (fun l b w1 w2 g hl h hg hn ho => by
              rcases l with _ | l
              · (cases b; (exact h.only ho (Ne.symm hg)); (exact h.only (Ne.symm hg) hn ho))
              rcases l with _ | l
              · (cases b; (exact h.only ho (Ne.symm hg)); (exact h.only (Ne.symm hg) hn ho))
              · exact absurd hl (by simp))
          (fun l hl => by
              rcases l with _ | l
              · exact Xx.out.lt
              rcases l with _ | l
              · exact Xy.out.lt
              · exact absurd hl (by simp))
          (fun l k hl hk hne => by
            have hh : G3_4 ≠ G3_5 := by omega
            have h1 : l = 0 ∨ l = 1 := by simp at hl; omega
            have h2 : k = 0 ∨ k = 1 := by simp at hk; omega
            rcases h1 with rfl | rfl <;> rcases h2 with rfl | rfl
            · exact absurd rfl hne
            · exact hh
            · exact Ne.symm hh
            · exact absurd rfl hne)
          ?_ ?_
        · refine ⟨?_, ?_, ?_, ?_, ?_, ?_, trivial⟩ <;> intro L V a1 w1 hf hG hsz hφ hψ hL hdep hcl
          · obtain ⟨R0_, x_, y_, HB_⟩ := hG
            have e6 := old_slot hf 6 (by kernel_rfl)
            have hb0 := hψ 1 (by decide)
            rw [show [4, 5].getD 1 0 = 5 from rfl, not_yet hcl 5 0 hL (by kernel_rfl)] at hb0
            exact ob_load_int rfl e6 hb0 rfl
          · obtain ⟨R0_, x_, y_, HB_⟩ := hG
            have e5 := old_slot hf 5 (by kernel_rfl)
            have hb0 := hψ 0 (by decide)
            rw [show [4, 5].getD 0 0 = 4 from rfl, not_yet hcl 4 1 hL (by kernel_rfl)] at hb0
            exact ob_load_int rfl e5 hb0 rfl
          · obtain ⟨R0_, x_, y_, HB_⟩ := hG
            have e6 := old_slot hf 6 (by kernel_rfl)
            have hb0 := hψ 1 (by decide)
            rw [show [4, 5].getD 1 0 = 5 from rfl, not_yet hcl 5 2 hL (by kernel_rfl)] at hb0
            exact ob_load_int rfl e6 hb0 rfl
          · obtain ⟨R0_, x_, y_, HB_⟩ := hG
            have d1 := dep_of hdep 1 (by kernel_rfl)
            have e15 := (new_slot hf 1 15 d1 (by kernel_rfl)).trans (show V 1 = .agg #[.bool qx, .slice Ax nx cx] from hφ 1 d1)
            have d2 := dep_of hdep 2 (by kernel_rfl)
            have e16 := (new_slot hf 2 16 d2 (by kernel_rfl)).trans (show V 2 = .agg #[.bool qy, .slice Ay ny cy] from hφ 2 d2)
            refine ob_go rfl (vs := #[.agg #[.bool qx, .slice Ax nx cx], .agg #[.bool qy, .slice Ay ny cy]]) (by simp only [List.map_toArray, List.map_cons, List.map_nil, e15, e16]) (by kernel_rfl) (rrem_any _ _ _ X Y N hN (x_.arg SX.out) (y_.arg SY.out) HY.out) ?_
            rintro e w2 ⟨⟨v, rfl, hv⟩, hb⟩
            exact ⟨v, rfl, hb, hv⟩
          · obtain ⟨R0_, x_, y_, HB_⟩ := hG
            have d0 := dep_of hdep 0 (by kernel_rfl)
            have e14 := (new_slot hf 0 14 d0 (by kernel_rfl)).trans (show V 0 = .agg #[.bool qy, .slice Ay ny cy] from hφ 0 d0)
            have e5 := old_slot hf 5 (by kernel_rfl)
            have hb0 := hψ 0 (by decide)
            rw [show [4, 5].getD 0 0 = 4 from rfl, hL] at hb0
            exact ob_fillOld_int rfl e5 e14 hb0 y_ (fun w2 h => h) rfl
          · obtain ⟨R0_, x_, y_, HB_⟩ := hG
            have d3 := dep_of hdep 3 (by kernel_rfl)
            have e17 := new_slot hf 3 17 d3 (by kernel_rfl)
            have p17 : IntV w1 (V 3) (X % Y) := hφ 3 d3
            have e6 := old_slot hf 6 (by kernel_rfl)
            have hb0 := hψ 1 (by decide)
            rw [show [4, 5].getD 1 0 = 5 from rfl, hL] at hb0
            exact ob_fillOld_int rfl e6 e17 hb0 p17 (fun w2 h => h) rfl
        · intro V W10 hG hsz10 hφ hψ hne
          have hlt10 : W9.heap.size ≤ W10.heap.size := hsz10
          obtain ⟨R0_, x_, y_, HB_⟩ := hG
          have R0 := hid R0_
          have x := hid x_
          have y := hid y_
          have HB := hid HB_
          have y0 : V 0 = .agg #[.bool qy, .slice Ay ny cy] := hφ 0 (by decide)
          have y1 : V 1 = .agg #[.bool qx, .slice Ax nx cx] := hφ 1 (by decide)
          have y2 : V 2 = .agg #[.bool qy, .slice Ay ny cy] := hφ 2 (by decide)
          obtain ⟨q1050, A1050, n1050, c1050, kb1050, vb1050⟩ := hψ 0 (by decide)
          have Xx := hid kb1050
          have VXx := hid vb1050
          clear kb1050 vb1050
          obtain ⟨q1051, A1051, n1051, c1051, kb1051, vb1051⟩ := hψ 1 (by decide)
          have Xy := hid kb1051
          have VXy := hid vb1051
          clear kb1051 vb1051
          simp only [puts, Act.put, List.setIfInBounds_toArray, List.set_cons_zero, List.set_cons_succ, y0, y1, y2]
          clear hφ hψ hne y0 y1 y2 R0_ x_ y_ HB_ hsz10
          go_wp2
          go_roundg (X % Y).toNat
          case measure =>
            have h1 := HG.out
            have h2 := Y0.out
            have h3 := HY.out
            have h4 := Int.emod_nonneg X h3
            have h5 := Int.emod_lt_of_pos X (show 0 < Y by omega)
            omega
          case rel => exact ⟨Y, X % Y, Y0, hid (Int.emod_nonneg X HY.out), hid rfl, hid (by rw [gcd_emod X0.out Y0.out]; exact HGC.out), SY, SR, ⟨_, _, _, _, Xx.out, VXx.out⟩, ⟨_, _, _, _, Xy.out, VXy.out⟩, R0.out, HB.out⟩
end Go.Proofs.Ytijmjkkjopplbaa

namespace Go.Proofs.Ytijmjkkjopplbaa
open Go.RowKit
set_option linter.unusedVariables false
set_option maxRecDepth 100000

set_option maxHeartbeats 4000000 in
theorem rquo_any (w : World) (v u : Value) (za zb : Int) (N : Nat) (hN : N ≤ 1000000) (ha : IntA w v za N) (hb : IntA w u zb N) (hb0 : zb ≠ 0) :
    Calls Try.prog 54 #[v, u] w fun e w' => RetI w' (za / zb) e ∧ Below w.heap.size w w' := by
  obtain ⟨na, As, sn, cs, rfl⟩ := ha.form
  obtain ⟨nb, Ar, rn, cr, rfl⟩ := hb.form
  have FA := hid ha
  have FB := hid hb
  clear ha hb
  have HB := hid (Below.refl w.heap.size w)
  obtain ⟨W, hW⟩ : ∃ W, W = (((w.alloc (.cells #[.bool na, .slice As sn cs] 24)).alloc (.cells #[.bool nb, .slice Ar rn cr] 24)).alloc (.cells #[.bool false, .slice none 0 0] 24)) := ⟨_, rfl⟩
  have hbb : Below w.heap.size w W := by rw [hW]; exact (bw_alloc (bw_alloc (bw_alloc (Below.refl _ _) _) _) _)
  have HB := hid (bw_step HB.out hbb)
  have FA := hid (FA.out.below hbb)
  have FB := hid (FB.out.below hbb)
  have P0 : Hid (Blk W (w.heap.size) 24 #[.bool na, .slice As sn cs]) := by
    rw [hW]
    have := ((Blk.new w 24 #[.bool na, .slice As sn cs]).below (bw_alloc (Below.refl _ _) (.cells #[.bool nb, .slice Ar rn cr] 24))).below (bw_alloc (Below.refl _ _) (.cells #[.bool false, .slice none 0 0] 24))
    exact hid (by simpa only [World.size_alloc] using this)
  have P1 : Hid (Blk W (w.heap.size + 1) 24 #[.bool nb, .slice Ar rn cr]) := by
    rw [hW]
    have := (Blk.new (w.alloc (.cells #[.bool na, .slice As sn cs] 24)) 24 #[.bool nb, .slice Ar rn cr]).below (bw_alloc (Below.refl _ _) (.cells #[.bool false, .slice none 0 0] 24))
    exact hid (by simpa only [World.size_alloc] using this)
  have R0 : Hid (Blk W (w.heap.size + 1 + 1) 24 #[.bool false, .slice none 0 0]) := by
    rw [hW]
    have := Blk.new ((w.alloc (.cells #[.bool na, .slice As sn cs] 24)).alloc (.cells #[.bool nb, .slice Ar rn cr] 24)) 24 #[.bool false, .slice none 0 0]
    exact hid (by simpa only [World.size_alloc] using this)
  clear hbb
  go_enter Try.func54, Try.ntmps54
  go_wp2_with (with_reducible refine halt_at 9 rfl ?_)
  rw [← hW]
  clear hW
  have SQ1 : Hid (Sm N (za / zb)) := hid (Sm.quo (FA.out.sm))
  have SR1 : Hid (Sm N (za % zb)) := hid (Sm.rem (FB.out.sm) (hb0))
  have lt1_P0 := P0.out.lt
  have lt1_P1 := P1.out.lt
  have lt1_R0 := R0.out.lt
  unfold Halted
  refine wp_list_each (by kernel_rfl) 12 16 rfl rfl (by kernel_rfl)
    [Fact.eq (.agg #[.bool na, .slice As sn cs]), Fact.eq (.agg #[.bool nb, .slice Ar rn cr]), Fact.tup3 (za / zb) (za % zb) true, Fact.tup3 (za / zb) (za % zb) true, Fact.int (za / zb), Fact.int (za % zb), Fact.eq (.bool true), Fact.box (za / zb), Fact.box (za % zb), Fact.top _, Fact.top _, Fact.eq (.bool true)]
    [.val, .val, .val, .val, .val, .val, .val, .alloc 9, .alloc 10, .fill 7, .fill 8, .val]
    (fun w' => IntA w' (.agg #[.bool na, .slice As sn cs]) (za) N ∧ IntA w' (.agg #[.bool nb, .slice Ar rn cr]) (zb) N ∧ Blk w' (w.heap.size) 24 #[.bool na, .slice As sn cs] ∧ Blk w' (w.heap.size + 1) 24 #[.bool nb, .slice Ar rn cr] ∧ Blk w' (w.heap.size + 1 + 1) 24 #[.bool false, .slice none 0 0] ∧ Below w.heap.size w w')
    (fun _ _ _ => True) [] (fun _ => 0) (by kernel_rfl)
    ⟨FA.out, FB.out, P0.out, P1.out, R0.out, HB.out⟩
    (fun w1 w2 ⟨h0, h1, h2, h3, h4, h5⟩ hb => ⟨h0.below hb, h1.below hb, h2.below hb, h3.below hb, h4.below hb, bw_step h5 hb⟩)
    (fun w1 w2 g ⟨h0, h1, h2, h3, h4, h5⟩ hg hn ho => by
      have hg' : W.heap.size ≤ g := hg.elim id (fun ⟨_, h, _⟩ => absurd h (Nat.not_lt_zero _))
      exact ⟨h0.only hn ho, h1.only hn ho, h2.only ho (by have := P0.out.lt; have := P1.out.lt; have := R0.out.lt; omega), h3.only ho (by have := P0.out.lt; have := P1.out.lt; have := R0.out.lt; omega), h4.only ho (by have := P0.out.lt; have := P1.out.lt; have := R0.out.lt; omega), below_only h5 ho (by have := P0.out.lt; have := P1.out.lt; have := R0.out.lt; have := HB.out.size; omega)⟩)
    (fun l h => trivial) (fun l b w1 w2 h _ _ => trivial) (fun l b w1 w2 g h _ _ _ _ => trivial) (fun l h => by cases h) (fun l k h => by cases h) ?_ ?_
  · refine ⟨?_, ?_, ?_, ?_, ?_, ?_, ?_, ?_, ?_, ?_, ?_, ?_, trivial⟩ <;> intro L V a1 w1 hf hG hsz hφ hψ hL hdep hcl
    · obtain ⟨_, _, P0_, _⟩ := hG
      have e2 := old_slot hf 2 (by kernel_rfl)
      exact ob_load_int rfl e2 P0_ rfl
    · obtain ⟨_, _, _, P1_, _⟩ := hG
      have e3 := old_slot hf 3 (by kernel_rfl)
      exact ob_load_int rfl e3 P1_ rfl
    · obtain ⟨FA_, FB_, _⟩ := hG
      have d0 := dep_of hdep 0 (by kernel_rfl)
      have e9 := (new_slot hf 0 9 d0 (by kernel_rfl)).trans (show V 0 = .agg #[.bool na, .slice As sn cs] from hφ 0 d0)
      have d1 := dep_of hdep 1 (by kernel_rfl)
      have e10 := (new_slot hf 1 10 d1 (by kernel_rfl)).trans (show V 1 = .agg #[.bool nb, .slice Ar rn cr] from hφ 1 d1)
      refine ob_go rfl (vs := #[.agg #[.bool na, .slice As sn cs], .agg #[.bool nb, .slice Ar rn cr]]) (by simp only [List.map_toArray, List.map_cons, List.map_nil, e10, e9]) (by kernel_rfl) (rdivMod_any _ _ _ za zb N (by omega) FA_ FB_ (hb0)) ?_
      rintro e w2 ⟨⟨v1, v2, rfl, h1, h2⟩, hb⟩
      exact ⟨_, rfl, hb, v1, v2, rfl, h1, h2⟩
    · have d2 := dep_of hdep 2 (by kernel_rfl)
      have e11 := new_slot hf 2 11 d2 (by kernel_rfl)
      have p11 : Tup3 w1 (V 2) (za / zb) (za % zb) true := hφ 2 d2
      exact ob_pure (ex_moveV rfl e11) (by exact p11)
    · have d3 := dep_of hdep 3 (by kernel_rfl)
      have e8 := new_slot hf 3 8 d3 (by kernel_rfl)
      have p8 : Tup3 w1 (V 3) (za / zb) (za % zb) true := hφ 3 d3
      exact ob_extract0 rfl e8 p8 rfl
    · have d3 := dep_of hdep 3 (by kernel_rfl)
      have e8 := new_slot hf 3 8 d3 (by kernel_rfl)
      have p8 : Tup3 w1 (V 3) (za / zb) (za % zb) true := hφ 3 d3
      exact ob_extract1 rfl e8 p8 rfl
    · have d3 := dep_of hdep 3 (by kernel_rfl)
      have e8 := new_slot hf 3 8 d3 (by kernel_rfl)
      have p8 : Tup3 w1 (V 3) (za / zb) (za % zb) true := hφ 3 d3
      exact ob_extract2 rfl e8 p8 rfl
    · exact ob_alloc_int rfl hsz rfl
    · exact ob_alloc_int rfl hsz rfl
    · have d4 := dep_of hdep 4 (by kernel_rfl)
      have e12 := new_slot hf 4 12 d4 (by kernel_rfl)
      have p12 : IntV w1 (V 4) (za / zb) := hφ 4 d4
      have d7 := dep_of hdep 7 (by kernel_rfl)
      obtain ⟨g, h1, h2, h3⟩ := hφ 7 d7
      exact ob_fill_int rfl ((new_slot hf 7 5 d7 (by kernel_rfl)).trans h1) e12 h1 h2 h3 p12 rfl rfl
    · have d5 := dep_of hdep 5 (by kernel_rfl)
      have e13 := new_slot hf 5 13 d5 (by kernel_rfl)
      have p13 : IntV w1 (V 5) (za % zb) := hφ 5 d5
      have d8 := dep_of hdep 8 (by kernel_rfl)
      obtain ⟨g, h1, h2, h3⟩ := hφ 8 d8
      exact ob_fill_int rfl ((new_slot hf 8 6 d8 (by kernel_rfl)).trans h1) e13 h1 h2 h3 p13 rfl rfl
    · have d6 := dep_of hdep 6 (by kernel_rfl)
      have e14 := (new_slot hf 6 14 d6 (by kernel_rfl)).trans (show V 6 = .bool true from hφ 6 d6)
      exact ob_pure (v := .bool true) (ex_assignV rfl e14) rfl
  · intro V W2 hG hsz2 hφ hψ hne
    have hlt2 : W.heap.size ≤ W2.heap.size := hsz2
    obtain ⟨FA_, FB_, P0_, P1_, R0_, HB_⟩ := hG
    have FA := hid FA_
    have FB := hid FB_
    have P0 := hid P0_
    have P1 := hid P1_
    have R0 := hid R0_
    have HB := hid HB_
    have y0 : V 0 = .agg #[.bool na, .slice As sn cs] := hφ 0 (by decide)
    have y1 : V 1 = .agg #[.bool nb, .slice Ar rn cr] := hφ 1 (by decide)
    have y6 : V 6 = .bool true := hφ 6 (by decide)
    obtain ⟨G2_7, y7, gb207, q207, A207, n207, c207, kb207, vb207⟩ := hφ 7 (by decide)
    have Xt5_ := hid kb207
    have t5_ := hid vb207
    clear kb207 vb207
    obtain ⟨G2_8, y8, gb208, q208, A208, n208, c208, kb208, vb208⟩ := hφ 8 (by decide)
    have Xt6_ := hid kb208
    have t6_ := hid vb208
    clear kb208 vb208
    have y11 : V 11 = .bool true := hφ 11 (by decide)
    have ne2_7_8 : G2_7 ≠ G2_8 := fun e => hne 7 8 (by decide) rfl rfl (by rw [y7, y8, e])
    simp only [puts, Act.put, List.setIfInBounds_toArray, List.set_cons_zero, List.set_cons_succ, y0, y1, y6, y7, y8, y11, ptr]
    clear hφ hψ hne y0 y1 y6 y7 y8 y11 FA_ FB_ P0_ P1_ R0_ HB_ hsz2
    go_wp2_with (with_reducible refine halt_at 15 rfl ?_)
    unfold Halted
    refine wp_list_each (by kernel_rfl) 2 16 rfl rfl (by kernel_rfl)
      [Fact.eq (.agg #[.bool q207, .slice A207 n207 c207]), Fact.top _]
      [.val, .fillOld 0]
      (fun w' => IntA w' (.agg #[.bool na, .slice As sn cs]) (za) N ∧ IntA w' (.agg #[.bool nb, .slice Ar rn cr]) (zb) N ∧ Blk w' (w.heap.size) 24 #[.bool na, .slice As sn cs] ∧ Blk w' (w.heap.size + 1) 24 #[.bool nb, .slice Ar rn cr] ∧ Blk w' (G2_7) 24 #[.bool q207, .slice A207 n207 c207] ∧ IntV w' (.agg #[.bool q207, .slice A207 n207 c207]) ((za / zb)) ∧ Blk w' (G2_8) 24 #[.bool q208, .slice A208 n208 c208] ∧ IntV w' (.agg #[.bool q208, .slice A208 n208 c208]) ((za % zb)) ∧ Below w.heap.size w w')
      (fun l b w' => match l with
        | 0 => if b = true then BoxI w' (w.heap.size + 1 + 1) (za / zb) else Blk w' (w.heap.size + 1 + 1) 24 #[.bool false, .slice none 0 0]
        | _ => True)
      [1] (fun l => match l with | 0 => w.heap.size + 1 + 1 | _ => 0) (by kernel_rfl)
      ⟨FA.out, FB.out, P0.out, P1.out, Xt5_.out, t5_.out, Xt6_.out, t6_.out, HB.out⟩
      (fun w1 w2 ⟨h0, h1, h2, h3, h4, h5, h6, h7, h8⟩ hb => ⟨h0.below hb, h1.below hb, h2.below hb, h3.below hb, h4.below hb, h5.below hb, h6.below hb, h7.below hb, bw_step h8 hb⟩)
      (fun w1 w2 g ⟨h0, h1, h2, h3, h4, h5, h6, h7, h8⟩ hg hn ho => by
        have hg' : W2.heap.size ≤ g ∨ g = w.heap.size + 1 + 1 := by
          rcases hg with h | ⟨l, hl, h⟩
          · exact .inl h
          · rcases l with _ | l
            · exact .inr h
            · exact absurd hl (by simp)
        exact ⟨h0.only hn ho, h1.only hn ho, h2.only ho (by have := P0.out.lt; have := P1.out.lt; have := R0.out.lt; have := Xt5_.out.lt; have := Xt6_.out.lt; omega), h3.only ho (by have := P0.out.lt; have := P1.out.lt; have := R0.out.lt; have := Xt5_.out.lt; have := Xt6_.out.lt; omega), h4.only ho (by have := P0.out.lt; have := P1.out.lt; have := R0.out.lt; have := Xt5_.out.lt; have := Xt6_.out.lt; omega), h5.only hn ho, h6.only ho (by have := P0.out.lt; have := P1.out.lt; have := R0.out.lt; have := Xt5_.out.lt; have := Xt6_.out.lt; omega), h7.only hn ho, below_only h8 ho (by have := P0.out.lt; have := P1.out.lt; have := R0.out.lt; have := Xt5_.out.lt; have := Xt6_.out.lt; have := HB.out.size; omega)⟩)
      (fun l hl => by
          rcases l with _ | l
          · exact R0.out
          · exact absurd hl (by simp))
      (fun l b w1 w2 hl h hb => by
          rcases l with _ | l
          · (cases b <;> exact h.below hb)
          · exact absurd hl (by simp))
      (fun l b w1 w2 g hl h hg hn ho => by
          rcases l with _ | l
          · (cases b; (exact h.only ho (Ne.symm hg)); (exact h.only (Ne.symm hg) hn ho))
          · exact absurd hl (by simp))
      (fun l hl => by
          rcases l with _ | l
          · exact R0.out.lt
          · exact absurd hl (by simp))
      (fun l k hl hk hne => by rcases l with _ | l <;> rcases k with _ | k <;> simp at hl hk hne)
      ?_ ?_
    · refine ⟨?_, ?_, trivial⟩ <;> intro L V a1 w1 hf hG hsz hφ hψ hL hdep hcl
      · obtain ⟨_, _, _, _, Xt5__, _⟩ := hG
        have e5 := old_slot hf 5 (by kernel_rfl)
        exact ob_load_int rfl e5 Xt5__ rfl
      · obtain ⟨_, _, _, _, _, t5__, _⟩ := hG
        have d0 := dep_of hdep 0 (by kernel_rfl)
        have e15 := (new_slot hf 0 15 d0 (by kernel_rfl)).trans (show V 0 = .agg #[.bool q207, .slice A207 n207 c207] from hφ 0 d0)
        have e4 := old_slot hf 4 (by kernel_rfl)
        have hb0 := hψ 0 (by decide)
        rw [show [1].getD 0 0 = 1 from rfl, hL] at hb0
        exact ob_fillOld_int rfl e4 e15 hb0 t5__ (fun w2 h => h) rfl
    · intro V W3 hG hsz3 hφ hψ hne
      have hlt3 : W2.heap.size ≤ W3.heap.size := hsz3
      obtain ⟨FA_, FB_, P0_, P1_, Xt5__, t5__, Xt6__, t6__, HB_⟩ := hG
      have FA := hid FA_
      have FB := hid FB_
      have P0 := hid P0_
      have P1 := hid P1_
      have Xt5_ := hid Xt5__
      have t5_ := hid t5__
      have Xt6_ := hid Xt6__
      have t6_ := hid t6__
      have HB := hid HB_
      have y0 : V 0 = .agg #[.bool q207, .slice A207 n207 c207] := hφ 0 (by decide)
      obtain ⟨q350, A350, n350, c350, kb350, vb350⟩ := hψ 0 (by decide)
      have R0 := hid kb350
      have VR0 := hid vb350
      clear kb350 vb350
      simp only [puts, Act.put, List.setIfInBounds_toArray, List.set_cons_zero, List.set_cons_succ, y0]
      clear hφ hψ hne y0 FA_ FB_ P0_ P1_ Xt5__ t5__ Xt6__ t6__ HB_ hsz3
      have k0 := R0.out.cell 0
      have k1 := R0.out.cell 1
      go_wp2
      refine bodyPost_ret (v := .agg #[.bool q350, .slice A350 n350 c350]) (by simp [results, Try.results54, go_sem, k0, k1]) rfl ⟨⟨_, rfl, ?_⟩, HB.out⟩
      exact VR0.out
set_option maxHeartbeats 4000000 in
theorem rnewR_any0 (w : World) (va vb : Value) (za zb : Int) (n : Nat) (ha : IntA w va za n) (hb : IntA w vb zb n) (hn : n ≤ 300000) (hz : zb = 0) :
    Calls Try.prog 39 #[va, vb] w fun e w' => (∃ u, e = .returned u ∧ PairB w' u (.V 0) (.V 0) false) ∧ Below w.heap.size w w' := by
  have Fa := hid ha
  have Sa := hid ha.sm
  obtain ⟨sa, Aa, na, ca, rfl⟩ := ha.form
  clear ha
  have Fb := hid hb
  have Sb := hid hb.sm
  obtain ⟨sb, Ab, nb, cb, rfl⟩ := hb.form
  clear hb
  have hc : (cm zb 0 == 0) = true := by rw [hz]; rfl
  have HB := hid (Below.refl w.heap.size w)
  obtain ⟨W, hW⟩ : ∃ W, W = (((w.alloc (.cells #[.bool sa, .slice Aa na ca] 24)).alloc (.cells #[.bool sb, .slice Ab nb cb] 24)).alloc (.cells #[.bool false, .slice none 0 0, .bool false, .slice none 0 0] 26)) := ⟨_, rfl⟩
  have hbb : Below w.heap.size w W := by rw [hW]; exact (bw_alloc (bw_alloc (bw_alloc (Below.refl _ _) _) _) _)
  have HB := hid (bw_step HB.out hbb)
  have Fa := hid (Fa.out.below hbb)
  have Fb := hid (Fb.out.below hbb)
  have Pa : Hid (Blk W (w.heap.size) 24 #[.bool sa, .slice Aa na ca]) := by
    rw [hW]
    have := ((Blk.new w 24 #[.bool sa, .slice Aa na ca]).below (bw_alloc (Below.refl _ _) (.cells #[.bool sb, .slice Ab nb cb] 24))).below (bw_alloc (Below.refl _ _) (.cells #[.bool false, .slice none 0 0, .bool false, .slice none 0 0] 26))
    exact hid (by simpa only [World.size_alloc] using this)
  have Pb : Hid (Blk W (w.heap.size + 1) 24 #[.bool sb, .slice Ab nb cb]) := by
    rw [hW]
    have := (Blk.new (w.alloc (.cells #[.bool sa, .slice Aa na ca] 24)) 24 #[.bool sb, .slice Ab nb cb]).below (bw_alloc (Below.refl _ _) (.cells #[.bool false, .slice none 0 0, .bool false, .slice none 0 0] 26))
    exact hid (by simpa only [World.size_alloc] using this)
  have R0 : Hid (Blk W (w.heap.size + 1 + 1) 26 #[.bool false, .slice none 0 0, .bool false, .slice none 0 0]) := by
    rw [hW]
    have := Blk.new ((w.alloc (.cells #[.bool sa, .slice Aa na ca] 24)).alloc (.cells #[.bool sb, .slice Ab nb cb] 24)) 26 #[.bool false, .slice none 0 0, .bool false, .slice none 0 0]
    exact hid (by simpa only [World.size_alloc] using this)
  clear hbb
  obtain ⟨k1, l1, f1, g1⟩ := id Pb.out.bx
  go_enter Try.func39, Try.ntmps39
  go_wp2_with fail
  rw [← hW]
  clear hW
  refine (rsign_any _ _ zb n Fb.out).mono ?_
  rintro e W2 ⟨rfl, hb2⟩
  clear k1 l1 f1 g1
  have HB := hid (bw_step HB.out hb2)
  have Fa := hid (Fa.out.below hb2)
  have Fb := hid (Fb.out.below hb2)
  have Pa := hid (Pa.out.below hb2)
  have Pb := hid (Pb.out.below hb2)
  have R0 := hid (R0.out.below hb2)
  clear hb2
  go_wp2_with (with_reducible refine halt_at 10 rfl ?_)
  unfold Halted
  refine wp_list_each (by kernel_rfl) 3 28 rfl rfl (by kernel_rfl)
    [Fact.eq (.agg #[.bool false, .slice none 0 0, .bool false, .slice none 0 0]), Fact.top _, Fact.eq (.bool false)]
    [.val, .fillOld 0, .val]
    (fun w' => IntA w' (.agg #[.bool sa, .slice Aa na ca]) (za) n ∧ IntA w' (.agg #[.bool sb, .slice Ab nb cb]) (zb) n ∧ Blk w' (w.heap.size) 24 #[.bool sa, .slice Aa na ca] ∧ Blk w' (w.heap.size + 1) 24 #[.bool sb, .slice Ab nb cb] ∧ Below w.heap.size w w')
    (fun l b w' => match l with
      | 0 => if b = true then BoxR w' (w.heap.size + 1 + 1) 26 (.V 0) (.V 0) else Blk w' (w.heap.size + 1 + 1) 26 #[.bool false, .slice none 0 0, .bool false, .slice none 0 0]
      | _ => True)
    [1] (fun l => match l with | 0 => w.heap.size + 1 + 1 | _ => 0) (by kernel_rfl)
    ⟨Fa.out, Fb.out, Pa.out, Pb.out, HB.out⟩
    (fun w1 w2 ⟨h0, h1, h2, h3, h4⟩ hb => ⟨h0.below hb, h1.below hb, h2.below hb, h3.below hb, bw_step h4 hb⟩)
    (fun w1 w2 g ⟨h0, h1, h2, h3, h4⟩ hg hn ho => by
      have hg' : W2.heap.size ≤ g ∨ g = w.heap.size + 1 + 1 := by
        rcases hg with h | ⟨l, hl, h⟩
        · exact .inl h
        · rcases l with _ | l
          · exact .inr h
          · exact absurd hl (by simp)
      exact ⟨h0.only hn ho, h1.only hn ho, h2.only ho (by have := Pa.out.lt; have := Pb.out.lt; have := R0.out.lt; omega), h3.only ho (by have := Pa.out.lt; have := Pb.out.lt; have := R0.out.lt; omega), below_only h4 ho (by have := Pa.out.lt; have := Pb.out.lt; have := R0.out.lt; have := HB.out.size; omega)⟩)
    (fun l hl => by
        rcases l with _ | l
        · exact R0.out
        · exact absurd hl (by simp))
    (fun l b w1 w2 hl h hb => by
        rcases l with _ | l
        · (cases b <;> exact h.below hb)
        · exact absurd hl (by simp))
    (fun l b w1 w2 g hl h hg hn ho => by
        rcases l with _ | l
        · (cases b; (exact h.only ho (Ne.symm hg)); (exact h.only (Ne.symm hg) hn ho))
        · exact absurd hl (by simp))
    (fun l hl => by
        rcases l with _ | l
        · exact R0.out.lt
        · exact absurd hl (by simp))
    (fun l k hl hk hne => by rcases l with _ | l <;> rcases k with _ | k <;> simp at hl hk hne)
    ?_ ?_
  · refine ⟨?_, ?_, ?_, trivial⟩ <;> intro L V a1 w1 hf hG hsz hφ hψ hL hdep hcl
    · exact ob_pure (ex_zeroR rfl) rfl
    · have d0 := dep_of hdep 0 (by kernel_rfl)
      have e10 := (new_slot hf 0 10 d0 (by kernel_rfl)).trans (show V 0 = .agg #[.bool false, .slice none 0 0, .bool false, .slice none 0 0] from hφ 0 d0)
      have e4 := old_slot hf 4 (by kernel_rfl)
      have hb0 := hψ 0 (by decide)
      rw [show [1].getD 0 0 = 1 from rfl, hL] at hb0
      exact ob_fillOldR rfl e4 e10 hb0 (Pair.mk (a := .V 0) (b := .V 0) (IntV.zero _) (IntV.zero _)) (fun w2 h => h) rfl
    · exact ob_pure (v := .bool false) (ex_assignV rfl rfl) rfl
  · intro V W3 hG hsz3 hφ hψ hne
    have hlt3 : W2.heap.size ≤ W3.heap.size := hsz3
    obtain ⟨Fa_, Fb_, Pa_, Pb_, HB_⟩ := hG
    have Fa := hid Fa_
    have Fb := hid Fb_
    have Pa := hid Pa_
    have Pb := hid Pb_
    have HB := hid HB_
    have y0 : V 0 = .agg #[.bool false, .slice none 0 0, .bool false, .slice none 0 0] := hφ 0 (by decide)
    have y2 : V 2 = .bool false := hφ 2 (by decide)
    obtain ⟨q3501, A3501, n3501, c3501, q3502, A3502, n3502, c3502, kb350, va350, vb350⟩ := hψ 0 (by decide)
    have R0 := hid kb350
    have R01 : Hid (IntV W3 (.agg #[.bool q3501, .slice A3501 n3501 c3501]) 0) := hid va350
    have R02 : Hid (IntV W3 (.agg #[.bool q3502, .slice A3502 n3502 c3502]) 0) := hid vb350
    clear kb350 va350 vb350
    simp only [puts, Act.put, List.setIfInBounds_toArray, List.set_cons_zero, List.set_cons_succ, y0, y2]
    clear hφ hψ hne y0 y2 Fa_ Fb_ Pa_ Pb_ HB_ hsz3
    have k0 := R0.out.cell 0
    have k1 := R0.out.cell 1
    have k2 := R0.out.cell 2
    have k3 := R0.out.cell 3
    go_wp2
    refine bodyPost_ret (v := .tuple #[.agg #[.bool q3501, .slice A3501 n3501 c3501, .bool q3502, .slice A3502 n3502 c3502], .bool false]) (by simp [results, Try.results39, go_sem, k0, k1, k2, k3]) rfl ⟨⟨_, rfl, _, rfl, ?_⟩, HB.out⟩
    exact Pair.mk (a := .V 0) (b := .V 0) R01.out R02.out
set_option maxHeartbeats 4000000 in
theorem rnewR_neg (w : World) (va vb : Value) (za zb : Int) (x : Rat) (n : Nat) (ha : IntA w va za n) (hb : IntA w vb zb n) (h1n : 1 ≤ n) (hn : n ≤ 300000) (hz : zb < 0) (hx : Rat.divInt za zb = x) :
    Calls Try.prog 39 #[va, vb] w fun e w' => (∃ u, e = .returned u ∧ PairB w' u (.V x.num) (.V (x.den : Int)) true) ∧ Below w.heap.size w w' := by
  have Fa := hid ha
  have Sa := hid ha.sm
  obtain ⟨sa, Aa, na, ca, rfl⟩ := ha.form
  clear ha
  have Fb := hid hb
  have Sb := hid hb.sm
  obtain ⟨sb, Ab, nb, cb, rfl⟩ := hb.form
  clear hb
  have hc : (cm zb 0 == 0) = false := by
    rw [beq_eq_false_iff_ne]; rcases cm_form zb 0 with ⟨h, e⟩ | ⟨h, e⟩ | ⟨h, e⟩ <;> omega
  have hl : decide (cm zb 0 < 0) = true := by
    rw [decide_eq_true_eq]; rcases cm_form zb 0 with ⟨h, e⟩ | ⟨h, e⟩ | ⟨h, e⟩ <;> omega
  subst hx
  have HZ := hid hz
  clear hz
  have HB := hid (Below.refl w.heap.size w)
  obtain ⟨W, hW⟩ : ∃ W, W = (((w.alloc (.cells #[.bool sa, .slice Aa na ca] 24)).alloc (.cells #[.bool sb, .slice Ab nb cb] 24)).alloc (.cells #[.bool false, .slice none 0 0, .bool false, .slice none 0 0] 26)) := ⟨_, rfl⟩
  have hbb : Below w.heap.size w W := by rw [hW]; exact (bw_alloc (bw_alloc (bw_alloc (Below.refl _ _) _) _) _)
  have HB := hid (bw_step HB.out hbb)
  have Fa := hid (Fa.out.below hbb)
  have Fb := hid (Fb.out.below hbb)
  have Pa : Hid (Blk W (w.heap.size) 24 #[.bool sa, .slice Aa na ca]) := by
    rw [hW]
    have := ((Blk.new w 24 #[.bool sa, .slice Aa na ca]).below (bw_alloc (Below.refl _ _) (.cells #[.bool sb, .slice Ab nb cb] 24))).below (bw_alloc (Below.refl _ _) (.cells #[.bool false, .slice none 0 0, .bool false, .slice none 0 0] 26))
    exact hid (by simpa only [World.size_alloc] using this)
  have Pb : Hid (Blk W (w.heap.size + 1) 24 #[.bool sb, .slice Ab nb cb]) := by
    rw [hW]
    have := (Blk.new (w.alloc (.cells #[.bool sa, .slice Aa na ca] 24)) 24 #[.bool sb, .slice Ab nb cb]).below (bw_alloc (Below.refl _ _) (.cells #[.bool false, .slice none 0 0, .bool false, .slice none 0 0] 26))
    exact hid (by simpa only [World.size_alloc] using this)
  have R0 : Hid (Blk W (w.heap.size + 1 + 1) 26 #[.bool false, .slice none 0 0, .bool false, .slice none 0 0]) := by
    rw [hW]
    have := Blk.new ((w.alloc (.cells #[.bool sa, .slice Aa na ca] 24)).alloc (.cells #[.bool sb, .slice Ab nb cb] 24)) 26 #[.bool false, .slice none 0 0, .bool false, .slice none 0 0]
    exact hid (by simpa only [World.size_alloc] using this)
  clear hbb
  obtain ⟨k1, l1, f1, g1⟩ := id Pb.out.bx
  go_enter Try.func39, Try.ntmps39
  go_wp2_with fail
  rw [← hW]
  clear hW
  refine (rsign_any _ _ zb n Fb.out).mono ?_
  rintro e W2 ⟨rfl, hb2⟩
  clear k1 l1 f1 g1
  have HB := hid (bw_step HB.out hb2)
  have Fa := hid (Fa.out.below hb2)
  have Fb := hid (Fb.out.below hb2)
  have Pa := hid (Pa.out.below hb2)
  have Pb := hid (Pb.out.below hb2)
  have R0 := hid (R0.out.below hb2)
  clear hb2
  obtain ⟨k3, l3, f3, g3⟩ := id Pb.out.bx
  go_wp2_with fail
  refine (rsign_any _ _ zb n Fb.out).mono ?_
  rintro e W4 ⟨rfl, hb4⟩
  clear k3 l3 f3 g3
  have HB := hid (bw_step HB.out hb4)
  have Fa := hid (Fa.out.below hb4)
  have Fb := hid (Fb.out.below hb4)
  have Pa := hid (Pa.out.below hb4)
  have Pb := hid (Pb.out.below hb4)
  have R0 := hid (R0.out.below hb4)
  clear hb4
  go_wp2_with fail
  have SM5 : Hid (Sm n (-za)) := hid ((Sa.out).opp)
  have SM6 : Hid (Sm n (-zb)) := hid ((Sb.out).opp)
  refine wp_region_each (by kernel_rfl) 6 28 rfl rfl (by kernel_rfl)
    [Fact.eq (.agg #[.bool sa, .slice Aa na ca]), Fact.int (-za), Fact.eq (.agg #[.bool sb, .slice Ab nb cb]), Fact.int (-zb), Fact.top _, Fact.top _]
    [.val, .val, .val, .val, .fillOld 0, .fillOld 1]
    (fun w' => IntA w' (.agg #[.bool sa, .slice Aa na ca]) (za) n ∧ IntA w' (.agg #[.bool sb, .slice Ab nb cb]) (zb) n ∧ Blk w' (w.heap.size + 1 + 1) 26 #[.bool false, .slice none 0 0, .bool false, .slice none 0 0] ∧ Below w.heap.size w w')
    (fun l b w' => match l with
      | 0 => if b = true then BoxI w' (w.heap.size) (-za) else Blk w' (w.heap.size) 24 #[.bool sa, .slice Aa na ca]
      | 1 => if b = true then BoxI w' (w.heap.size + 1) (-zb) else Blk w' (w.heap.size + 1) 24 #[.bool sb, .slice Ab nb cb]
      | _ => True)
    [4, 5] (fun l => match l with | 0 => w.heap.size | 1 => w.heap.size + 1 | _ => 0) (by kernel_rfl)
    ⟨Fa.out, Fb.out, R0.out, HB.out⟩
    (fun w1 w2 ⟨h0, h1, h2, h3⟩ hb => ⟨h0.below hb, h1.below hb, h2.below hb, bw_step h3 hb⟩)
    (fun w1 w2 g ⟨h0, h1, h2, h3⟩ hg hn ho => by
      have hg' : W4.heap.size ≤ g ∨ g = w.heap.size ∨ g = w.heap.size + 1 := by
        rcases hg with h | ⟨l, hl, h⟩
        · exact .inl h
        · rcases l with _ | l
          · exact .inr (.inl h)
          · rcases l with _ | l
            · exact .inr (.inr h)
            · exact absurd hl (by simp)
      exact ⟨h0.only hn ho, h1.only hn ho, h2.only ho (by have := Pa.out.lt; have := Pb.out.lt; have := R0.out.lt; omega), below_only h3 ho (by have := Pa.out.lt; have := Pb.out.lt; have := R0.out.lt; have := HB.out.size; omega)⟩)
    (fun l hl => by
        rcases l with _ | l
        · exact Pa.out
        rcases l with _ | l
        · exact Pb.out
        · exact absurd hl (by simp))
    (fun l b w1 w2 hl h hb => by
        rcases l with _ | l
        · (cases b <;> exact h.below hb)
        rcases l with _ | l
        · (cases b <;> exact h.below hb)
        · exact absurd hl (by simp))
    (fun l b w1 w2 g hl h hg hn ho => by
        rcases l with _ | l
        · (cases b; (exact h.only ho (Ne.symm hg)); (exact h.only (Ne.symm hg) hn ho))
        rcases l with _ | l
        · (cases b; (exact h.only ho (Ne.symm hg)); (exact h.only (Ne.symm hg) hn ho))
        · exact absurd hl (by simp))
    (fun l hl => by
        rcases l with _ | l
        · exact Pa.out.lt
        rcases l with _ | l
        · exact Pb.out.lt
        · exact absurd hl (by simp))
    (fun l k hl hk hne => by
      have hh : w.heap.size ≠ w.heap.size + 1 := by omega
      have h1 : l = 0 ∨ l = 1 := by simp at hl; omega
      have h2 : k = 0 ∨ k = 1 := by simp at hk; omega
      rcases h1 with rfl | rfl <;> rcases h2 with rfl | rfl
      · exact absurd rfl hne
      · exact hh
      · exact Ne.symm hh
      · exact absurd rfl hne)
    ?_ ?_
  · refine ⟨?_, ?_, ?_, ?_, ?_, ?_, trivial⟩ <;> intro L V a1 w1 hf hG hsz hφ hψ hL hdep hcl
    · have e2 := old_slot hf 2 (by kernel_rfl)
      have hb0 := hψ 0 (by decide)
      rw [show [4, 5].getD 0 0 = 4 from rfl, not_yet hcl 4 0 hL (by kernel_rfl)] at hb0
      exact ob_load_int rfl e2 hb0 rfl
    · obtain ⟨Fa_, _⟩ := hG
      have d0 := dep_of hdep 0 (by kernel_rfl)
      have e14 := (new_slot hf 0 14 d0 (by kernel_rfl)).trans (show V 0 = .agg #[.bool sa, .slice Aa na ca] from hφ 0 d0)
      refine ob_go rfl (vs := #[.agg #[.bool sa, .slice Aa na ca]]) (by simp only [List.map_toArray, List.map_cons, List.map_nil, e14]) (by kernel_rfl) (rneg_any _ (.agg #[.bool sa, .slice Aa na ca]) za n Fa_ ) ?_
      rintro e w2 ⟨⟨v, rfl, hv⟩, hb⟩
      exact ⟨v, rfl, hb, hv⟩
    · have e3 := old_slot hf 3 (by kernel_rfl)
      have hb0 := hψ 1 (by decide)
      rw [show [4, 5].getD 1 0 = 5 from rfl, not_yet hcl 5 2 hL (by kernel_rfl)] at hb0
      exact ob_load_int rfl e3 hb0 rfl
    · obtain ⟨_, Fb_, _⟩ := hG
      have d2 := dep_of hdep 2 (by kernel_rfl)
      have e16 := (new_slot hf 2 16 d2 (by kernel_rfl)).trans (show V 2 = .agg #[.bool sb, .slice Ab nb cb] from hφ 2 d2)
      refine ob_go rfl (vs := #[.agg #[.bool sb, .slice Ab nb cb]]) (by simp only [List.map_toArray, List.map_cons, List.map_nil, e16]) (by kernel_rfl) (rneg_any _ (.agg #[.bool sb, .slice Ab nb cb]) zb n Fb_ ) ?_
      rintro e w2 ⟨⟨v, rfl, hv⟩, hb⟩
      exact ⟨v, rfl, hb, hv⟩
    · have d1 := dep_of hdep 1 (by kernel_rfl)
      have e15 := new_slot hf 1 15 d1 (by kernel_rfl)
      have p15 : IntV w1 (V 1) (-za) := hφ 1 d1
      have e2 := old_slot hf 2 (by kernel_rfl)
      have hb0 := hψ 0 (by decide)
      rw [show [4, 5].getD 0 0 = 4 from rfl, hL] at hb0
      exact ob_fillOld_int rfl e2 e15 hb0 p15 (fun w2 h => h) rfl
    · have d3 := dep_of hdep 3 (by kernel_rfl)
      have e17 := new_slot hf 3 17 d3 (by kernel_rfl)
      have p17 : IntV w1 (V 3) (-zb) := hφ 3 d3
      have e3 := old_slot hf 3 (by kernel_rfl)
      have hb0 := hψ 1 (by decide)
      rw [show [4, 5].getD 1 0 = 5 from rfl, hL] at hb0
      exact ob_fillOld_int rfl e3 e17 hb0 p17 (fun w2 h => h) rfl
  · intro V W7 hG hsz7 hφ hψ hne
    have hlt7 : W4.heap.size ≤ W7.heap.size := hsz7
    obtain ⟨Fa_, Fb_, R0_, HB_⟩ := hG
    have Fa := hid Fa_
    have Fb := hid Fb_
    have R0 := hid R0_
    have HB := hid HB_
    have y0 : V 0 = .agg #[.bool sa, .slice Aa na ca] := hφ 0 (by decide)
    have y2 : V 2 = .agg #[.bool sb, .slice Ab nb cb] := hφ 2 (by decide)
    obtain ⟨q750, A750, n750, c750, kb750, vb750⟩ := hψ 0 (by decide)
    have Pa := hid kb750
    have VPa := hid vb750
    clear kb750 vb750
    obtain ⟨q751, A751, n751, c751, kb751, vb751⟩ := hψ 1 (by decide)
    have Pb := hid kb751
    have VPb := hid vb751
    clear kb751 vb751
    simp only [puts, Act.put, List.setIfInBounds_toArray, List.set_cons_zero, List.set_cons_succ, y0, y2]
    clear hφ hψ hne y0 y2 Fa_ Fb_ R0_ HB_ hsz7
    go_wp2_with (with_reducible refine halt_at 18 rfl ?_)
    have SM8 : Hid (Sm n ((Int.gcd (-za) (-zb) : Nat) : Int)) := hid ((SM5.out).gcd (SM6.out))
    have lt8_Pa := Pa.out.lt
    have lt8_Pb := Pb.out.lt
    have lt8_R0 := R0.out.lt
    unfold Halted
    refine wp_list_each (by kernel_rfl) 5 28 rfl rfl (by kernel_rfl)
      [Fact.eq (.agg #[.bool q750, .slice A750 n750 c750]), Fact.eq (.agg #[.bool q751, .slice A751 n751 c751]), Fact.int ((Int.gcd (-za) (-zb) : Nat) : Int), Fact.box ((Int.gcd (-za) (-zb) : Nat) : Int), Fact.top _]
      [.val, .val, .val, .alloc 4, .fill 3]
      (fun w' => IntA w' (.agg #[.bool sa, .slice Aa na ca]) (za) n ∧ IntA w' (.agg #[.bool sb, .slice Ab nb cb]) (zb) n ∧ Blk w' (w.heap.size) 24 #[.bool q750, .slice A750 n750 c750] ∧ Blk w' (w.heap.size + 1) 24 #[.bool q751, .slice A751 n751 c751] ∧ Blk w' (w.heap.size + 1 + 1) 26 #[.bool false, .slice none 0 0, .bool false, .slice none 0 0] ∧ IntV w' (.agg #[.bool q750, .slice A750 n750 c750]) ((-za)) ∧ IntV w' (.agg #[.bool q751, .slice A751 n751 c751]) ((-zb)) ∧ Below w.heap.size w w')
      (fun _ _ _ => True) [] (fun _ => 0) (by kernel_rfl)
      ⟨Fa.out, Fb.out, Pa.out, Pb.out, R0.out, VPa.out, VPb.out, HB.out⟩
      (fun w1 w2 ⟨h0, h1, h2, h3, h4, h5, h6, h7⟩ hb => ⟨h0.below hb, h1.below hb, h2.below hb, h3.below hb, h4.below hb, h5.below hb, h6.below hb, bw_step h7 hb⟩)
      (fun w1 w2 g ⟨h0, h1, h2, h3, h4, h5, h6, h7⟩ hg hn ho => by
        have hg' : W7.heap.size ≤ g := hg.elim id (fun ⟨_, h, _⟩ => absurd h (Nat.not_lt_zero _))
        exact ⟨h0.only hn ho, h1.only hn ho, h2.only ho (by have := Pa.out.lt; have := Pb.out.lt; have := R0.out.lt; omega), h3.only ho (by have := Pa.out.lt; have := Pb.out.lt; have := R0.out.lt; omega), h4.only ho (by have := Pa.out.lt; have := Pb.out.lt; have := R0.out.lt; omega), h5.only hn ho, h6.only hn ho, below_only h7 ho (by have := Pa.out.lt; have := Pb.out.lt; have := R0.out.lt; have := HB.out.size; omega)⟩)
      (fun l h => trivial) (fun l b w1 w2 h _ _ => trivial) (fun l b w1 w2 g h _ _ _ _ => trivial) (fun l h => by cases h) (fun l k h => by cases h) ?_ ?_
    · refine ⟨?_, ?_, ?_, ?_, ?_, trivial⟩ <;> intro L V a1 w1 hf hG hsz hφ hψ hL hdep hcl
      · obtain ⟨_, _, Pa_, _⟩ := hG
        have e2 := old_slot hf 2 (by kernel_rfl)
        exact ob_load_int rfl e2 Pa_ rfl
      · obtain ⟨_, _, _, Pb_, _⟩ := hG
        have e3 := old_slot hf 3 (by kernel_rfl)
        exact ob_load_int rfl e3 Pb_ rfl
      · obtain ⟨_, _, _, _, _, VPa_, VPb_, _⟩ := hG
        have d0 := dep_of hdep 0 (by kernel_rfl)
        have e18 := (new_slot hf 0 18 d0 (by kernel_rfl)).trans (show V 0 = .agg #[.bool q750, .slice A750 n750 c750] from hφ 0 d0)
        have d1 := dep_of hdep 1 (by kernel_rfl)
        have e19 := (new_slot hf 1 19 d1 (by kernel_rfl)).trans (show V 1 = .agg #[.bool q751, .slice A751 n751 c751] from hφ 1 d1)
        refine ob_go rfl (vs := #[.agg #[.bool q750, .slice A750 n750 c750], .agg #[.bool q751, .slice A751 n751 c751]]) (by simp only [List.map_toArray, List.map_cons, List.map_nil, e18, e19]) (by kernel_rfl) (rgcd_any _ (.agg #[.bool q750, .slice A750 n750 c750]) (.agg #[.bool q751, .slice A751 n751 c751]) (-za) (-zb) n (by omega) (VPa_.arg (SM5.out)) (VPb_.arg (SM6.out))) ?_
        rintro e w2 ⟨⟨v, rfl, hv⟩, hb⟩
        exact ⟨v, rfl, hb, hv⟩
      · exact ob_alloc_int rfl hsz rfl
      · have d2 := dep_of hdep 2 (by kernel_rfl)
        have e20 := new_slot hf 2 20 d2 (by kernel_rfl)
        have p20 : IntV w1 (V 2) ((Int.gcd (-za) (-zb) : Nat) : Int) := hφ 2 d2
        have d3 := dep_of hdep 3 (by kernel_rfl)
        obtain ⟨g, h1, h2, h3⟩ := hφ 3 d3
        exact ob_fill_int rfl ((new_slot hf 3 6 d3 (by kernel_rfl)).trans h1) e20 h1 h2 h3 p20 rfl rfl
    · intro V W9 hG hsz9 hφ hψ hne
      have hlt9 : W7.heap.size ≤ W9.heap.size := hsz9
      obtain ⟨Fa_, Fb_, Pa_, Pb_, R0_, VPa_, VPb_, HB_⟩ := hG
      have Fa := hid Fa_
      have Fb := hid Fb_
      have Pa := hid Pa_
      have Pb := hid Pb_
      have R0 := hid R0_
      have VPa := hid VPa_
      have VPb := hid VPb_
      have HB := hid HB_
      have y0 : V 0 = .agg #[.bool q750, .slice A750 n750 c750] := hφ 0 (by decide)
      have y1 : V 1 = .agg #[.bool q751, .slice A751 n751 c751] := hφ 1 (by decide)
      obtain ⟨G9_3, y3, gb903, q903, A903, n903, c903, kb903, vb903⟩ := hφ 3 (by decide)
      have Xt6_ := hid kb903
      have t6_ := hid vb903
      clear kb903 vb903
      simp only [puts, Act.put, List.setIfInBounds_toArray, List.set_cons_zero, List.set_cons_succ, y0, y1, y3, ptr]
      clear hφ hψ hne y0 y1 y3 Fa_ Fb_ Pa_ Pb_ R0_ VPa_ VPb_ HB_ hsz9
      go_wp2_with fail
      have SQ10 : Hid (Sm n ((-za) / ((Int.gcd (-za) (-zb) : Nat) : Int))) := hid (Sm.quo (SM5.out))
      have SQ11 : Hid (Sm n ((-zb) / ((Int.gcd (-za) (-zb) : Nat) : Int))) := hid (Sm.quo (SM6.out))
      refine wp_region_each (by kernel_rfl) 9 28 rfl rfl (by kernel_rfl)
        [Fact.eq (.agg #[.bool q750, .slice A750 n750 c750]), Fact.eq (.agg #[.bool q903, .slice A903 n903 c903]), Fact.int ((-za) / ((Int.gcd (-za) (-zb) : Nat) : Int)), Fact.eq (.agg #[.bool q751, .slice A751 n751 c751]), Fact.eq (.agg #[.bool q903, .slice A903 n903 c903]), Fact.int ((-zb) / ((Int.gcd (-za) (-zb) : Nat) : Int)), Fact.pair (.V ((-za) / ((Int.gcd (-za) (-zb) : Nat) : Int))) (.V ((-zb) / ((Int.gcd (-za) (-zb) : Nat) : Int))), Fact.top _, Fact.eq (.bool true)]
        [.val, .val, .val, .val, .val, .val, .val, .fillOld 0, .val]
        (fun w' => IntA w' (.agg #[.bool sa, .slice Aa na ca]) (za) n ∧ IntA w' (.agg #[.bool sb, .slice Ab nb cb]) (zb) n ∧ Blk w' (w.heap.size) 24 #[.bool q750, .slice A750 n750 c750] ∧ Blk w' (w.heap.size + 1) 24 #[.bool q751, .slice A751 n751 c751] ∧ IntV w' (.agg #[.bool q750, .slice A750 n750 c750]) ((-za)) ∧ IntV w' (.agg #[.bool q751, .slice A751 n751 c751]) ((-zb)) ∧ Blk w' (G9_3) 24 #[.bool q903, .slice A903 n903 c903] ∧ IntV w' (.agg #[.bool q903, .slice A903 n903 c903]) (((Int.gcd (-za) (-zb) : Nat) : Int)) ∧ Below w.heap.size w w')
        (fun l b w' => match l with
          | 0 => if b = true then BoxR w' (w.heap.size + 1 + 1) 26 (.V ((-za) / ((Int.gcd (-za) (-zb) : Nat) : Int))) (.V ((-zb) / ((Int.gcd (-za) (-zb) : Nat) : Int))) else Blk w' (w.heap.size + 1 + 1) 26 #[.bool false, .slice none 0 0, .bool false, .slice none 0 0]
          | _ => True)
        [7] (fun l => match l with | 0 => w.heap.size + 1 + 1 | _ => 0) (by kernel_rfl)
        ⟨Fa.out, Fb.out, Pa.out, Pb.out, VPa.out, VPb.out, Xt6_.out, t6_.out, HB.out⟩
        (fun w1 w2 ⟨h0, h1, h2, h3, h4, h5, h6, h7, h8⟩ hb => ⟨h0.below hb, h1.below hb, h2.below hb, h3.below hb, h4.below hb, h5.below hb, h6.below hb, h7.below hb, bw_step h8 hb⟩)
        (fun w1 w2 g ⟨h0, h1, h2, h3, h4, h5, h6, h7, h8⟩ hg hn ho => by
          have hg' : W9.heap.size ≤ g ∨ g = w.heap.size + 1 + 1 := by
            rcases hg with h | ⟨l, hl, h⟩
            · exact .inl h
            · rcases l with _ | l
              · exact .inr h
              · exact absurd hl (by simp)
          exact ⟨h0.only hn ho, h1.only hn ho, h2.only ho (by have := Pa.out.lt; have := Pb.out.lt; have := R0.out.lt; have := Xt6_.out.lt; omega), h3.only ho (by have := Pa.out.lt; have := Pb.out.lt; have := R0.out.lt; have := Xt6_.out.lt; omega), h4.only hn ho, h5.only hn ho, h6.only ho (by have := Pa.out.lt; have := Pb.out.lt; have := R0.out.lt; have := Xt6_.out.lt; omega), h7.only hn ho, below_only h8 ho (by have := Pa.out.lt; have := Pb.out.lt; have := R0.out.lt; have := Xt6_.out.lt; have := HB.out.size; omega)⟩)
        (fun l hl => by
            rcases l with _ | l
            · exact R0.out
            · exact absurd hl (by simp))
        (fun l b w1 w2 hl h hb => by
            rcases l with _ | l
            · (cases b <;> exact h.below hb)
            · exact absurd hl (by simp))
        (fun l b w1 w2 g hl h hg hn ho => by
            rcases l with _ | l
            · (cases b; (exact h.only ho (Ne.symm hg)); (exact h.only (Ne.symm hg) hn ho))
            · exact absurd hl (by simp))
        (fun l hl => by
            rcases l with _ | l
            · exact R0.out.lt
            · exact absurd hl (by simp))
        (fun l k hl hk hne => by rcases l with _ | l <;> rcases k with _ | k <;> simp at hl hk hne)
        ?_ ?_
      · refine ⟨?_, ?_, ?_, ?_, ?_, ?_, ?_, ?_, ?_, trivial⟩ <;> intro L V a1 w1 hf hG hsz hφ hψ hL hdep hcl
        · obtain ⟨_, _, Pa_, _⟩ := hG
          have e2 := old_slot hf 2 (by kernel_rfl)
          exact ob_load_int rfl e2 Pa_ rfl
        · obtain ⟨_, _, _, _, _, _, Xt6__, _⟩ := hG
          have e6 := old_slot hf 6 (by kernel_rfl)
          exact ob_load_int rfl e6 Xt6__ rfl
        · obtain ⟨_, _, _, _, VPa_, _, _, t6__, _⟩ := hG
          have d0 := dep_of hdep 0 (by kernel_rfl)
          have e21 := (new_slot hf 0 21 d0 (by kernel_rfl)).trans (show V 0 = .agg #[.bool q750, .slice A750 n750 c750] from hφ 0 d0)
          have d1 := dep_of hdep 1 (by kernel_rfl)
          have e22 := (new_slot hf 1 22 d1 (by kernel_rfl)).trans (show V 1 = .agg #[.bool q903, .slice A903 n903 c903] from hφ 1 d1)
          refine ob_go rfl (vs := #[.agg #[.bool q750, .slice A750 n750 c750], .agg #[.bool q903, .slice A903 n903 c903]]) (by simp only [List.map_toArray, List.map_cons, List.map_nil, e21, e22]) (by kernel_rfl) (rquo_any _ _ _ (-za) ((Int.gcd (-za) (-zb) : Nat) : Int) n (by omega) (IntV.arg VPa_ (Sm.to (SM5.out) (by omega))) (IntV.arg t6__ (Sm.to (SM8.out) (by omega))) (by have := gcd_pos' (p := (-za)) (show (0 : Int) < (-zb) by have := HZ.out; omega); omega)) ?_
          rintro e w2 ⟨⟨v, rfl, hv⟩, hb⟩
          exact ⟨v, rfl, hb, hv⟩
        · obtain ⟨_, _, _, Pb_, _⟩ := hG
          have e3 := old_slot hf 3 (by kernel_rfl)
          exact ob_load_int rfl e3 Pb_ rfl
        · obtain ⟨_, _, _, _, _, _, Xt6__, _⟩ := hG
          have e6 := old_slot hf 6 (by kernel_rfl)
          exact ob_load_int rfl e6 Xt6__ rfl
        · obtain ⟨_, _, _, _, _, VPb_, _, t6__, _⟩ := hG
          have d3 := dep_of hdep 3 (by kernel_rfl)
          have e24 := (new_slot hf 3 24 d3 (by kernel_rfl)).trans (show V 3 = .agg #[.bool q751, .slice A751 n751 c751] from hφ 3 d3)
          have d4 := dep_of hdep 4 (by kernel_rfl)
          have e25 := (new_slot hf 4 25 d4 (by kernel_rfl)).trans (show V 4 = .agg #[.bool q903, .slice A903 n903 c903] from hφ 4 d4)
          refine ob_go rfl (vs := #[.agg #[.bool q751, .slice A751 n751 c751], .agg #[.bool q903, .slice A903 n903 c903]]) (by simp only [List.map_toArray, List.map_cons, List.map_nil, e24, e25]) (by kernel_rfl) (rquo_any _ _ _ (-zb) ((Int.gcd (-za) (-zb) : Nat) : Int) n (by omega) (IntV.arg VPb_ (Sm.to (SM6.out) (by omega))) (IntV.arg t6__ (Sm.to (SM8.out) (by omega))) (by have := gcd_pos' (p := (-za)) (show (0 : Int) < (-zb) by have := HZ.out; omega); omega)) ?_
          rintro e w2 ⟨⟨v, rfl, hv⟩, hb⟩
          exact ⟨v, rfl, hb, hv⟩
        · have d2 := dep_of hdep 2 (by kernel_rfl)
          have e23 := new_slot hf 2 23 d2 (by kernel_rfl)
          have p23 : IntV w1 (V 2) ((-za) / ((Int.gcd (-za) (-zb) : Nat) : Int)) := hφ 2 d2
          have d5 := dep_of hdep 5 (by kernel_rfl)
          have e26 := new_slot hf 5 26 d5 (by kernel_rfl)
          have p26 : IntV w1 (V 5) ((-zb) / ((Int.gcd (-za) (-zb) : Nat) : Int)) := hφ 5 d5
          exact ob_buildR (A := .V ((-za) / ((Int.gcd (-za) (-zb) : Nat) : Int))) (B := .V ((-zb) / ((Int.gcd (-za) (-zb) : Nat) : Int))) rfl e23 p23 e26 p26 rfl
        · have d6 := dep_of hdep 6 (by kernel_rfl)
          have e27 := new_slot hf 6 27 d6 (by kernel_rfl)
          have p27 : Pair w1 (V 6) (.V ((-za) / ((Int.gcd (-za) (-zb) : Nat) : Int))) (.V ((-zb) / ((Int.gcd (-za) (-zb) : Nat) : Int))) := hφ 6 d6
          have e4 := old_slot hf 4 (by kernel_rfl)
          have hb0 := hψ 0 (by decide)
          rw [show [7].getD 0 0 = 7 from rfl, hL] at hb0
          exact ob_fillOldR rfl e4 e27 hb0 p27 (fun w2 h => h) rfl
        · exact ob_pure (v := .bool true) (ex_assignV rfl rfl) rfl
      · intro V W12 hG hsz12 hφ hψ hne
        have hlt12 : W9.heap.size ≤ W12.heap.size := hsz12
        obtain ⟨Fa_, Fb_, Pa_, Pb_, VPa_, VPb_, Xt6__, t6__, HB_⟩ := hG
        have Fa := hid Fa_
        have Fb := hid Fb_
        have Pa := hid Pa_
        have Pb := hid Pb_
        have VPa := hid VPa_
        have VPb := hid VPb_
        have Xt6_ := hid Xt6__
        have t6_ := hid t6__
        have HB := hid HB_
        have y0 : V 0 = .agg #[.bool q750, .slice A750 n750 c750] := hφ 0 (by decide)
        have y1 : V 1 = .agg #[.bool q903, .slice A903 n903 c903] := hφ 1 (by decide)
        have y3 : V 3 = .agg #[.bool q751, .slice A751 n751 c751] := hφ 3 (by decide)
        have y4 : V 4 = .agg #[.bool q903, .slice A903 n903 c903] := hφ 4 (by decide)
        have y8 : V 8 = .bool true := hφ 8 (by decide)
        obtain ⟨q12501, A12501, n12501, c12501, q12502, A12502, n12502, c12502, kb1250, va1250, vb1250⟩ := hψ 0 (by decide)
        have R0 := hid kb1250
        have R01 : Hid (IntV W12 (.agg #[.bool q12501, .slice A12501 n12501 c12501]) ((-za) / ((Int.gcd (-za) (-zb) : Nat) : Int))) := hid va1250
        have R02 : Hid (IntV W12 (.agg #[.bool q12502, .slice A12502 n12502 c12502]) ((-zb) / ((Int.gcd (-za) (-zb) : Nat) : Int))) := hid vb1250
        clear kb1250 va1250 vb1250
        simp only [puts, Act.put, List.setIfInBounds_toArray, List.set_cons_zero, List.set_cons_succ, y0, y1, y3, y4, y8]
        clear hφ hψ hne y0 y1 y3 y4 y8 Fa_ Fb_ Pa_ Pb_ VPa_ VPb_ Xt6__ t6__ HB_ hsz12
        have e1 : (Rat.divInt za zb).num = (-za) / ((Int.gcd (-za) (-zb) : Nat) : Int) := by rw [← Rat.neg_divInt_neg, rat_num (show (0 : Int) < (-zb) by have := HZ.out; omega)]
        have e2 : ((Rat.divInt za zb).den : Int) = (-zb) / ((Int.gcd (-za) (-zb) : Nat) : Int) := by rw [← Rat.neg_divInt_neg, rat_den (show (0 : Int) < (-zb) by have := HZ.out; omega)]
        have E := hid (And.intro e1 e2)
        clear e1 e2
        have k0 := R0.out.cell 0
        have k1 := R0.out.cell 1
        have k2 := R0.out.cell 2
        have k3 := R0.out.cell 3
        go_wp2
        refine bodyPost_ret (v := .tuple #[.agg #[.bool q12501, .slice A12501 n12501 c12501, .bool q12502, .slice A12502 n12502 c12502], .bool true]) (by simp [results, Try.results39, go_sem, k0, k1, k2, k3]) rfl ⟨⟨_, rfl, _, rfl, ?_⟩, HB.out⟩
        rw [E.out.1, E.out.2]
        exact Pair.mk (a := .V ((-za) / ((Int.gcd (-za) (-zb) : Nat) : Int))) (b := .V ((-zb) / ((Int.gcd (-za) (-zb) : Nat) : Int))) R01.out R02.out
set_option maxHeartbeats 4000000 in
theorem rnewR_pos (w : World) (va vb : Value) (za zb : Int) (x : Rat) (n : Nat) (ha : IntA w va za n) (hb : IntA w vb zb n) (h1n : 1 ≤ n) (hn : n ≤ 300000) (hz : 0 < zb) (hx : Rat.divInt za zb = x) :
    Calls Try.prog 39 #[va, vb] w fun e w' => (∃ u, e = .returned u ∧ PairB w' u (.V x.num) (.V (x.den : Int)) true) ∧ Below w.heap.size w w' := by
  have Fa := hid ha
  have Sa := hid ha.sm
  obtain ⟨sa, Aa, na, ca, rfl⟩ := ha.form
  clear ha
  have Fb := hid hb
  have Sb := hid hb.sm
  obtain ⟨sb, Ab, nb, cb, rfl⟩ := hb.form
  clear hb
  have hc : (cm zb 0 == 0) = false := by
    rw [beq_eq_false_iff_ne]; rcases cm_form zb 0 with ⟨h, e⟩ | ⟨h, e⟩ | ⟨h, e⟩ <;> omega
  have hl : decide (cm zb 0 < 0) = false := by
    rw [decide_eq_false_iff_not]; rcases cm_form zb 0 with ⟨h, e⟩ | ⟨h, e⟩ | ⟨h, e⟩ <;> omega
  subst hx
  have HZ := hid hz
  clear hz
  have HB := hid (Below.refl w.heap.size w)
  obtain ⟨W, hW⟩ : ∃ W, W = (((w.alloc (.cells #[.bool sa, .slice Aa na ca] 24)).alloc (.cells #[.bool sb, .slice Ab nb cb] 24)).alloc (.cells #[.bool false, .slice none 0 0, .bool false, .slice none 0 0] 26)) := ⟨_, rfl⟩
  have hbb : Below w.heap.size w W := by rw [hW]; exact (bw_alloc (bw_alloc (bw_alloc (Below.refl _ _) _) _) _)
  have HB := hid (bw_step HB.out hbb)
  have Fa := hid (Fa.out.below hbb)
  have Fb := hid (Fb.out.below hbb)
  have Pa : Hid (Blk W (w.heap.size) 24 #[.bool sa, .slice Aa na ca]) := by
    rw [hW]
    have := ((Blk.new w 24 #[.bool sa, .slice Aa na ca]).below (bw_alloc (Below.refl _ _) (.cells #[.bool sb, .slice Ab nb cb] 24))).below (bw_alloc (Below.refl _ _) (.cells #[.bool false, .slice none 0 0, .bool false, .slice none 0 0] 26))
    exact hid (by simpa only [World.size_alloc] using this)
  have Pb : Hid (Blk W (w.heap.size + 1) 24 #[.bool sb, .slice Ab nb cb]) := by
    rw [hW]
    have := (Blk.new (w.alloc (.cells #[.bool sa, .slice Aa na ca] 24)) 24 #[.bool sb, .slice Ab nb cb]).below (bw_alloc (Below.refl _ _) (.cells #[.bool false, .slice none 0 0, .bool false, .slice none 0 0] 26))
    exact hid (by simpa only [World.size_alloc] using this)
  have R0 : Hid (Blk W (w.heap.size + 1 + 1) 26 #[.bool false, .slice none 0 0, .bool false, .slice none 0 0]) := by
    rw [hW]
    have := Blk.new ((w.alloc (.cells #[.bool sa, .slice Aa na ca] 24)).alloc (.cells #[.bool sb, .slice Ab nb cb] 24)) 26 #[.bool false, .slice none 0 0, .bool false, .slice none 0 0]
    exact hid (by simpa only [World.size_alloc] using this)
  clear hbb
  obtain ⟨k1, l1, f1, g1⟩ := id Pb.out.bx
  go_enter Try.func39, Try.ntmps39
  go_wp2_with fail
  rw [← hW]
  clear hW
  refine (rsign_any _ _ zb n Fb.out).mono ?_
  rintro e W2 ⟨rfl, hb2⟩
  clear k1 l1 f1 g1
  have HB := hid (bw_step HB.out hb2)
  have Fa := hid (Fa.out.below hb2)
  have Fb := hid (Fb.out.below hb2)
  have Pa := hid (Pa.out.below hb2)
  have Pb := hid (Pb.out.below hb2)
  have R0 := hid (R0.out.below hb2)
  clear hb2
  obtain ⟨k3, l3, f3, g3⟩ := id Pb.out.bx
  go_wp2_with fail
  refine (rsign_any _ _ zb n Fb.out).mono ?_
  rintro e W4 ⟨rfl, hb4⟩
  clear k3 l3 f3 g3
  have HB := hid (bw_step HB.out hb4)
  have Fa := hid (Fa.out.below hb4)
  have Fb := hid (Fb.out.below hb4)
  have Pa := hid (Pa.out.below hb4)
  have Pb := hid (Pb.out.below hb4)
  have R0 := hid (R0.out.below hb4)
  clear hb4
  go_wp2_with (with_reducible refine halt_at 18 rfl ?_)
  have SM5 : Hid (Sm n ((Int.gcd za zb : Nat) : Int)) := hid ((Sa.out).gcd (Sb.out))
  have lt5_Pa := Pa.out.lt
  have lt5_Pb := Pb.out.lt
  have lt5_R0 := R0.out.lt
  unfold Halted
  refine wp_list_each (by kernel_rfl) 5 28 rfl rfl (by kernel_rfl)
    [Fact.eq (.agg #[.bool sa, .slice Aa na ca]), Fact.eq (.agg #[.bool sb, .slice Ab nb cb]), Fact.int ((Int.gcd za zb : Nat) : Int), Fact.box ((Int.gcd za zb : Nat) : Int), Fact.top _]
    [.val, .val, .val, .alloc 4, .fill 3]
    (fun w' => IntA w' (.agg #[.bool sa, .slice Aa na ca]) (za) n ∧ IntA w' (.agg #[.bool sb, .slice Ab nb cb]) (zb) n ∧ Blk w' (w.heap.size) 24 #[.bool sa, .slice Aa na ca] ∧ Blk w' (w.heap.size + 1) 24 #[.bool sb, .slice Ab nb cb] ∧ Blk w' (w.heap.size + 1 + 1) 26 #[.bool false, .slice none 0 0, .bool false, .slice none 0 0] ∧ Below w.heap.size w w')
    (fun _ _ _ => True) [] (fun _ => 0) (by kernel_rfl)
    ⟨Fa.out, Fb.out, Pa.out, Pb.out, R0.out, HB.out⟩
    (fun w1 w2 ⟨h0, h1, h2, h3, h4, h5⟩ hb => ⟨h0.below hb, h1.below hb, h2.below hb, h3.below hb, h4.below hb, bw_step h5 hb⟩)
    (fun w1 w2 g ⟨h0, h1, h2, h3, h4, h5⟩ hg hn ho => by
      have hg' : W4.heap.size ≤ g := hg.elim id (fun ⟨_, h, _⟩ => absurd h (Nat.not_lt_zero _))
      exact ⟨h0.only hn ho, h1.only hn ho, h2.only ho (by have := Pa.out.lt; have := Pb.out.lt; have := R0.out.lt; omega), h3.only ho (by have := Pa.out.lt; have := Pb.out.lt; have := R0.out.lt; omega), h4.only ho (by have := Pa.out.lt; have := Pb.out.lt; have := R0.out.lt; omega), below_only h5 ho (by have := Pa.out.lt; have := Pb.out.lt; have := R0.out.lt; have := HB.out.size; omega)⟩)
    (fun l h => trivial) (fun l b w1 w2 h _ _ => trivial) (fun l b w1 w2 g h _ _ _ _ => trivial) (fun l h => by cases h) (fun l k h => by cases h) ?_ ?_
  · refine ⟨?_, ?_, ?_, ?_, ?_, trivial⟩ <;> intro L V a1 w1 hf hG hsz hφ hψ hL hdep hcl
    · obtain ⟨_, _, Pa_, _⟩ := hG
      have e2 := old_slot hf 2 (by kernel_rfl)
      exact ob_load_int rfl e2 Pa_ rfl
    · obtain ⟨_, _, _, Pb_, _⟩ := hG
      have e3 := old_slot hf 3 (by kernel_rfl)
      exact ob_load_int rfl e3 Pb_ rfl
    · obtain ⟨Fa_, Fb_, _⟩ := hG
      have d0 := dep_of hdep 0 (by kernel_rfl)
      have e18 := (new_slot hf 0 18 d0 (by kernel_rfl)).trans (show V 0 = .agg #[.bool sa, .slice Aa na ca] from hφ 0 d0)
      have d1 := dep_of hdep 1 (by kernel_rfl)
      have e19 := (new_slot hf 1 19 d1 (by kernel_rfl)).trans (show V 1 = .agg #[.bool sb, .slice Ab nb cb] from hφ 1 d1)
      refine ob_go rfl (vs := #[.agg #[.bool sa, .slice Aa na ca], .agg #[.bool sb, .slice Ab nb cb]]) (by simp only [List.map_toArray, List.map_cons, List.map_nil, e18, e19]) (by kernel_rfl) (rgcd_any _ (.agg #[.bool sa, .slice Aa na ca]) (.agg #[.bool sb, .slice Ab nb cb]) za zb n (by omega) Fa_ Fb_) ?_
      rintro e w2 ⟨⟨v, rfl, hv⟩, hb⟩
      exact ⟨v, rfl, hb, hv⟩
    · exact ob_alloc_int rfl hsz rfl
    · have d2 := dep_of hdep 2 (by kernel_rfl)
      have e20 := new_slot hf 2 20 d2 (by kernel_rfl)
      have p20 : IntV w1 (V 2) ((Int.gcd za zb : Nat) : Int) := hφ 2 d2
      have d3 := dep_of hdep 3 (by kernel_rfl)
      obtain ⟨g, h1, h2, h3⟩ := hφ 3 d3
      exact ob_fill_int rfl ((new_slot hf 3 6 d3 (by kernel_rfl)).trans h1) e20 h1 h2 h3 p20 rfl rfl
  · intro V W6 hG hsz6 hφ hψ hne
    have hlt6 : W4.heap.size ≤ W6.heap.size := hsz6
    obtain ⟨Fa_, Fb_, Pa_, Pb_, R0_, HB_⟩ := hG
    have Fa := hid Fa_
    have Fb := hid Fb_
    have Pa := hid Pa_
    have Pb := hid Pb_
    have R0 := hid R0_
    have HB := hid HB_
    have y0 : V 0 = .agg #[.bool sa, .slice Aa na ca] := hφ 0 (by decide)
    have y1 : V 1 = .agg #[.bool sb, .slice Ab nb cb] := hφ 1 (by decide)
    obtain ⟨G6_3, y3, gb603, q603, A603, n603, c603, kb603, vb603⟩ := hφ 3 (by decide)
    have Xt6_ := hid kb603
    have t6_ := hid vb603
    clear kb603 vb603
    simp only [puts, Act.put, List.setIfInBounds_toArray, List.set_cons_zero, List.set_cons_succ, y0, y1, y3, ptr]
    clear hφ hψ hne y0 y1 y3 Fa_ Fb_ Pa_ Pb_ R0_ HB_ hsz6
    go_wp2_with fail
    have SQ7 : Hid (Sm n (za / ((Int.gcd za zb : Nat) : Int))) := hid (Sm.quo (Sa.out))
    have SQ8 : Hid (Sm n (zb / ((Int.gcd za zb : Nat) : Int))) := hid (Sm.quo (Sb.out))
    refine wp_region_each (by kernel_rfl) 9 28 rfl rfl (by kernel_rfl)
      [Fact.eq (.agg #[.bool sa, .slice Aa na ca]), Fact.eq (.agg #[.bool q603, .slice A603 n603 c603]), Fact.int (za / ((Int.gcd za zb : Nat) : Int)), Fact.eq (.agg #[.bool sb, .slice Ab nb cb]), Fact.eq (.agg #[.bool q603, .slice A603 n603 c603]), Fact.int (zb / ((Int.gcd za zb : Nat) : Int)), Fact.pair (.V (za / ((Int.gcd za zb : Nat) : Int))) (.V (zb / ((Int.gcd za zb : Nat) : Int))), Fact.top _, Fact.eq (.bool true)]
      [.val, .val, .val, .val, .val, .val, .val, .fillOld 0, .val]
      (fun w' => IntA w' (.agg #[.bool sa, .slice Aa na ca]) (za) n ∧ IntA w' (.agg #[.bool sb, .slice Ab nb cb]) (zb) n ∧ Blk w' (w.heap.size) 24 #[.bool sa, .slice Aa na ca] ∧ Blk w' (w.heap.size + 1) 24 #[.bool sb, .slice Ab nb cb] ∧ Blk w' (G6_3) 24 #[.bool q603, .slice A603 n603 c603] ∧ IntV w' (.agg #[.bool q603, .slice A603 n603 c603]) (((Int.gcd za zb : Nat) : Int)) ∧ Below w.heap.size w w')
      (fun l b w' => match l with
        | 0 => if b = true then BoxR w' (w.heap.size + 1 + 1) 26 (.V (za / ((Int.gcd za zb : Nat) : Int))) (.V (zb / ((Int.gcd za zb : Nat) : Int))) else Blk w' (w.heap.size + 1 + 1) 26 #[.bool false, .slice none 0 0, .bool false, .slice none 0 0]
        | _ => True)
      [7] (fun l => match l with | 0 => w.heap.size + 1 + 1 | _ => 0) (by kernel_rfl)
      ⟨Fa.out, Fb.out, Pa.out, Pb.out, Xt6_.out, t6_.out, HB.out⟩
      (fun w1 w2 ⟨h0, h1, h2, h3, h4, h5, h6⟩ hb => ⟨h0.below hb, h1.below hb, h2.below hb, h3.below hb, h4.below hb, h5.below hb, bw_step h6 hb⟩)
      (fun w1 w2 g ⟨h0, h1, h2, h3, h4, h5, h6⟩ hg hn ho => by
        have hg' : W6.heap.size ≤ g ∨ g = w.heap.size + 1 + 1 := by
          rcases hg with h | ⟨l, hl, h⟩
          · exact .inl h
          · rcases l with _ | l
            · exact .inr h
            · exact absurd hl (by simp)
        exact ⟨h0.only hn ho, h1.only hn ho, h2.only ho (by have := Pa.out.lt; have := Pb.out.lt; have := R0.out.lt; have := Xt6_.out.lt; omega), h3.only ho (by have := Pa.out.lt; have := Pb.out.lt; have := R0.out.lt; have := Xt6_.out.lt; omega), h4.only ho (by have := Pa.out.lt; have := Pb.out.lt; have := R0.out.lt; have := Xt6_.out.lt; omega), h5.only hn ho, below_only h6 ho (by have := Pa.out.lt; have := Pb.out.lt; have := R0.out.lt; have := Xt6_.out.lt; have := HB.out.size; omega)⟩)
      (fun l hl => by
          rcases l with _ | l
          · exact R0.out
          · exact absurd hl (by simp))
      (fun l b w1 w2 hl h hb => by
          rcases l with _ | l
          · (cases b <;> exact h.below hb)
          · exact absurd hl (by simp))
      (fun l b w1 w2 g hl h hg hn ho => by
          rcases l with _ | l
          · (cases b; (exact h.only ho (Ne.symm hg)); (exact h.only (Ne.symm hg) hn ho))
          · exact absurd hl (by simp))
      (fun l hl => by
          rcases l with _ | l
          · exact R0.out.lt
          · exact absurd hl (by simp))
      (fun l k hl hk hne => by rcases l with _ | l <;> rcases k with _ | k <;> simp at hl hk hne)
      ?_ ?_
    · refine ⟨?_, ?_, ?_, ?_, ?_, ?_, ?_, ?_, ?_, trivial⟩ <;> intro L V a1 w1 hf hG hsz hφ hψ hL hdep hcl
      · obtain ⟨_, _, Pa_, _⟩ := hG
        have e2 := old_slot hf 2 (by kernel_rfl)
        exact ob_load_int rfl e2 Pa_ rfl
      · obtain ⟨_, _, _, _, Xt6__, _⟩ := hG
        have e6 := old_slot hf 6 (by kernel_rfl)
        exact ob_load_int rfl e6 Xt6__ rfl
      · obtain ⟨Fa_, _, _, _, _, t6__, _⟩ := hG
        have d0 := dep_of hdep 0 (by kernel_rfl)
        have e21 := (new_slot hf 0 21 d0 (by kernel_rfl)).trans (show V 0 = .agg #[.bool sa, .slice Aa na ca] from hφ 0 d0)
        have d1 := dep_of hdep 1 (by kernel_rfl)
        have e22 := (new_slot hf 1 22 d1 (by kernel_rfl)).trans (show V 1 = .agg #[.bool q603, .slice A603 n603 c603] from hφ 1 d1)
        refine ob_go rfl (vs := #[.agg #[.bool sa, .slice Aa na ca], .agg #[.bool q603, .slice A603 n603 c603]]) (by simp only [List.map_toArray, List.map_cons, List.map_nil, e21, e22]) (by kernel_rfl) (rquo_any _ _ _ za ((Int.gcd za zb : Nat) : Int) n (by omega) Fa_ (IntV.arg t6__ (Sm.to (SM5.out) (by omega))) (by have := gcd_pos' (p := za) (show (0 : Int) < zb by have := HZ.out; omega); omega)) ?_
        rintro e w2 ⟨⟨v, rfl, hv⟩, hb⟩
        exact ⟨v, rfl, hb, hv⟩
      · obtain ⟨_, _, _, Pb_, _⟩ := hG
        have e3 := old_slot hf 3 (by kernel_rfl)
        exact ob_load_int rfl e3 Pb_ rfl
      · obtain ⟨_, _, _, _, Xt6__, _⟩ := hG
        have e6 := old_slot hf 6 (by kernel_rfl)
        exact ob_load_int rfl e6 Xt6__ rfl
      · obtain ⟨_, Fb_, _, _, _, t6__, _⟩ := hG
        have d3 := dep_of hdep 3 (by kernel_rfl)
        have e24 := (new_slot hf 3 24 d3 (by kernel_rfl)).trans (show V 3 = .agg #[.bool sb, .slice Ab nb cb] from hφ 3 d3)
        have d4 := dep_of hdep 4 (by kernel_rfl)
        have e25 := (new_slot hf 4 25 d4 (by kernel_rfl)).trans (show V 4 = .agg #[.bool q603, .slice A603 n603 c603] from hφ 4 d4)
        refine ob_go rfl (vs := #[.agg #[.bool sb, .slice Ab nb cb], .agg #[.bool q603, .slice A603 n603 c603]]) (by simp only [List.map_toArray, List.map_cons, List.map_nil, e24, e25]) (by kernel_rfl) (rquo_any _ _ _ zb ((Int.gcd za zb : Nat) : Int) n (by omega) Fb_ (IntV.arg t6__ (Sm.to (SM5.out) (by omega))) (by have := gcd_pos' (p := za) (show (0 : Int) < zb by have := HZ.out; omega); omega)) ?_
        rintro e w2 ⟨⟨v, rfl, hv⟩, hb⟩
        exact ⟨v, rfl, hb, hv⟩
      · have d2 := dep_of hdep 2 (by kernel_rfl)
        have e23 := new_slot hf 2 23 d2 (by kernel_rfl)
        have p23 : IntV w1 (V 2) (za / ((Int.gcd za zb : Nat) : Int)) := hφ 2 d2
        have d5 := dep_of hdep 5 (by kernel_rfl)
        have e26 := new_slot hf 5 26 d5 (by kernel_rfl)
        have p26 : IntV w1 (V 5) (zb / ((Int.gcd za zb : Nat) : Int)) := hφ 5 d5
        exact ob_buildR (A := .V (za / ((Int.gcd za zb : Nat) : Int))) (B := .V (zb / ((Int.gcd za zb : Nat) : Int))) rfl e23 p23 e26 p26 rfl
      · have d6 := dep_of hdep 6 (by kernel_rfl)
        have e27 := new_slot hf 6 27 d6 (by kernel_rfl)
        have p27 : Pair w1 (V 6) (.V (za / ((Int.gcd za zb : Nat) : Int))) (.V (zb / ((Int.gcd za zb : Nat) : Int))) := hφ 6 d6
        have e4 := old_slot hf 4 (by kernel_rfl)
        have hb0 := hψ 0 (by decide)
        rw [show [7].getD 0 0 = 7 from rfl, hL] at hb0
        exact ob_fillOldR rfl e4 e27 hb0 p27 (fun w2 h => h) rfl
      · exact ob_pure (v := .bool true) (ex_assignV rfl rfl) rfl
    · intro V W9 hG hsz9 hφ hψ hne
      have hlt9 : W6.heap.size ≤ W9.heap.size := hsz9
      obtain ⟨Fa_, Fb_, Pa_, Pb_, Xt6__, t6__, HB_⟩ := hG
      have Fa := hid Fa_
      have Fb := hid Fb_
      have Pa := hid Pa_
      have Pb := hid Pb_
      have Xt6_ := hid Xt6__
      have t6_ := hid t6__
      have HB := hid HB_
      have y0 : V 0 = .agg #[.bool sa, .slice Aa na ca] := hφ 0 (by decide)
      have y1 : V 1 = .agg #[.bool q603, .slice A603 n603 c603] := hφ 1 (by decide)
      have y3 : V 3 = .agg #[.bool sb, .slice Ab nb cb] := hφ 3 (by decide)
      have y4 : V 4 = .agg #[.bool q603, .slice A603 n603 c603] := hφ 4 (by decide)
      have y8 : V 8 = .bool true := hφ 8 (by decide)
      obtain ⟨q9501, A9501, n9501, c9501, q9502, A9502, n9502, c9502, kb950, va950, vb950⟩ := hψ 0 (by decide)
      have R0 := hid kb950
      have R01 : Hid (IntV W9 (.agg #[.bool q9501, .slice A9501 n9501 c9501]) (za / ((Int.gcd za zb : Nat) : Int))) := hid va950
      have R02 : Hid (IntV W9 (.agg #[.bool q9502, .slice A9502 n9502 c9502]) (zb / ((Int.gcd za zb : Nat) : Int))) := hid vb950
      clear kb950 va950 vb950
      simp only [puts, Act.put, List.setIfInBounds_toArray, List.set_cons_zero, List.set_cons_succ, y0, y1, y3, y4, y8]
      clear hφ hψ hne y0 y1 y3 y4 y8 Fa_ Fb_ Pa_ Pb_ Xt6__ t6__ HB_ hsz9
      have e1 : (Rat.divInt za zb).num = za / ((Int.gcd za zb : Nat) : Int) := by rw [rat_num (show (0 : Int) < zb by have := HZ.out; omega)]
      have e2 : ((Rat.divInt za zb).den : Int) = zb / ((Int.gcd za zb : Nat) : Int) := by rw [rat_den (show (0 : Int) < zb by have := HZ.out; omega)]
      have E := hid (And.intro e1 e2)
      clear e1 e2
      have k0 := R0.out.cell 0
      have k1 := R0.out.cell 1
      have k2 := R0.out.cell 2
      have k3 := R0.out.cell 3
      go_wp2
      refine bodyPost_ret (v := .tuple #[.agg #[.bool q9501, .slice A9501 n9501 c9501, .bool q9502, .slice A9502 n9502 c9502], .bool true]) (by simp [results, Try.results39, go_sem, k0, k1, k2, k3]) rfl ⟨⟨_, rfl, _, rfl, ?_⟩, HB.out⟩
      rw [E.out.1, E.out.2]
      exact Pair.mk (a := .V (za / ((Int.gcd za zb : Nat) : Int))) (b := .V (zb / ((Int.gcd za zb : Nat) : Int))) R01.out R02.out
theorem rnewR_any (w : World) (va vb : Value) (za zb : Int) (x : Rat) (n : Nat) (ha : IntA w va za n) (hb : IntA w vb zb n) (h1n : 1 ≤ n) (hn : n ≤ 300000) (hz : zb ≠ 0) (hx : Rat.divInt za zb = x) :
    Calls Try.prog 39 #[va, vb] w fun e w' => (∃ u, e = .returned u ∧ PairB w' u (.V x.num) (.V (x.den : Int)) true) ∧ Below w.heap.size w w' := by
  rcases Int.lt_trichotomy zb 0 with h | h | h
  · exact rnewR_neg w va vb za zb x n ha hb h1n hn h hx
  · exact absurd h hz
  · exact rnewR_pos w va vb za zb x n ha hb h1n hn h hx
end Go.Proofs.Ytijmjkkjopplbaa

namespace Go.Proofs.Ytijmjkkjopplbaa
open Go.RowKit
set_option linter.unusedVariables false
set_option maxRecDepth 100000

set_option maxHeartbeats 4000000 in
theorem rwholeR_any (w : World) (va : Value) (za : Int) (n : Nat) (ha : IntA w va za n) :
    Calls Try.prog 25 #[va] w fun e w' => RetR w' ((za : Int) : Rat) e ∧ Below w.heap.size w w' := by
  have Fa := hid ha
  have Sa := hid ha.sm
  obtain ⟨sa, Aa, na, ca, rfl⟩ := ha.form
  clear ha
  have HB := hid (Below.refl w.heap.size w)
  obtain ⟨W, hW⟩ : ∃ W, W = ((w.alloc (.cells #[.bool sa, .slice Aa na ca] 24)).alloc (.cells #[.bool false, .slice none 0 0, .bool false, .slice none 0 0] 26)) := ⟨_, rfl⟩
  have hbb : Below w.heap.size w W := by rw [hW]; exact (bw_alloc (bw_alloc (Below.refl _ _) _) _)
  have HB := hid (bw_step HB.out hbb)
  have Fa := hid (Fa.out.below hbb)
  have Pa : Hid (Blk W (w.heap.size) 24 #[.bool sa, .slice Aa na ca]) := by
    rw [hW]
    have := (Blk.new w 24 #[.bool sa, .slice Aa na ca]).below (bw_alloc (Below.refl _ _) (.cells #[.bool false, .slice none 0 0, .bool false, .slice none 0 0] 26))
    exact hid (by simpa only [World.size_alloc] using this)
  have R0 : Hid (Blk W (w.heap.size + 1) 26 #[.bool false, .slice none 0 0, .bool false, .slice none 0 0]) := by
    rw [hW]
    have := Blk.new (w.alloc (.cells #[.bool sa, .slice Aa na ca] 24)) 26 #[.bool false, .slice none 0 0, .bool false, .slice none 0 0]
    exact hid (by simpa only [World.size_alloc] using this)
  clear hbb
  go_enter Try.func25, Try.ntmps25
  go_wp2_with (with_reducible refine halt_at 3 rfl ?_)
  rw [← hW]
  clear hW
  have SM1 : Hid (Sm n za) := hid ((Sa.out))
  unfold Halted
  refine wp_list_each (by kernel_rfl) 5 7 rfl rfl (by kernel_rfl)
    [Fact.eq (.agg #[.bool sa, .slice Aa na ca]), Fact.int za, Fact.int 1, Fact.pair (.V za) (.V 1), Fact.top _]
    [.val, .val, .val, .val, .fillOld 0]
    (fun w' => IntA w' (.agg #[.bool sa, .slice Aa na ca]) (za) n ∧ Blk w' (w.heap.size) 24 #[.bool sa, .slice Aa na ca] ∧ Below w.heap.size w w')
    (fun l b w' => match l with
      | 0 => if b = true then BoxR w' (w.heap.size + 1) 26 (.V za) (.V 1) else Blk w' (w.heap.size + 1) 26 #[.bool false, .slice none 0 0, .bool false, .slice none 0 0]
      | _ => True)
    [4] (fun l => match l with | 0 => w.heap.size + 1 | _ => 0) (by kernel_rfl)
    ⟨Fa.out, Pa.out, HB.out⟩
    (fun w1 w2 ⟨h0, h1, h2⟩ hb => ⟨h0.below hb, h1.below hb, bw_step h2 hb⟩)
    (fun w1 w2 g ⟨h0, h1, h2⟩ hg hn ho => by
      have hg' : W.heap.size ≤ g ∨ g = w.heap.size + 1 := by
        rcases hg with h | ⟨l, hl, h⟩
        · exact .inl h
        · rcases l with _ | l
          · exact .inr h
          · exact absurd hl (by simp)
      exact ⟨h0.only hn ho, h1.only ho (by have := Pa.out.lt; have := R0.out.lt; omega), below_only h2 ho (by have := Pa.out.lt; have := R0.out.lt; have := HB.out.size; omega)⟩)
    (fun l hl => by
        rcases l with _ | l
        · exact R0.out
        · exact absurd hl (by simp))
    (fun l b w1 w2 hl h hb => by
        rcases l with _ | l
        · (cases b <;> exact h.below hb)
        · exact absurd hl (by simp))
    (fun l b w1 w2 g hl h hg hn ho => by
        rcases l with _ | l
        · (cases b; (exact h.only ho (Ne.symm hg)); (exact h.only (Ne.symm hg) hn ho))
        · exact absurd hl (by simp))
    (fun l hl => by
        rcases l with _ | l
        · exact R0.out.lt
        · exact absurd hl (by simp))
    (fun l k hl hk hne => by rcases l with _ | l <;> rcases k with _ | k <;> simp at hl hk hne)
    ?_ ?_
  · refine ⟨?_, ?_, ?_, ?_, ?_, trivial⟩ <;> intro L V a1 w1 hf hG hsz hφ hψ hL hdep hcl
    · obtain ⟨_, Pa_, _⟩ := hG
      have e1 := old_slot hf 1 (by kernel_rfl)
      exact ob_load_int rfl e1 Pa_ rfl
    · obtain ⟨Fa_, _⟩ := hG
      have d0 := dep_of hdep 0 (by kernel_rfl)
      have e3 := (new_slot hf 0 3 d0 (by kernel_rfl)).trans (show V 0 = .agg #[.bool sa, .slice Aa na ca] from hφ 0 d0)
      refine ob_go rfl (vs := #[.agg #[.bool sa, .slice Aa na ca]]) (by simp only [List.map_toArray, List.map_cons, List.map_nil, e3]) (by kernel_rfl) (rnormalize_any _ (.agg #[.bool sa, .slice Aa na ca]) za n Fa_ ) ?_
      rintro e w2 ⟨⟨v, rfl, hv⟩, hb⟩
      exact ⟨v, rfl, hb, hv⟩
    · refine ob_go rfl (vs := #[.int .i64 1]) (by simp only [List.map_toArray, List.map_cons, List.map_nil, ev_const]) (by kernel_rfl) (rsmall_any _ 1 (by decide) (by decide)) ?_
      rintro e w2 ⟨⟨v, rfl, hv⟩, hb⟩
      exact ⟨v, rfl, hb, hv⟩
    · have d1 := dep_of hdep 1 (by kernel_rfl)
      have e4 := new_slot hf 1 4 d1 (by kernel_rfl)
      have p4 : IntV w1 (V 1) za := hφ 1 d1
      have d2 := dep_of hdep 2 (by kernel_rfl)
      have e5 := new_slot hf 2 5 d2 (by kernel_rfl)
      have p5 : IntV w1 (V 2) 1 := hφ 2 d2
      exact ob_buildR (A := .V za) (B := .V 1) rfl e4 p4 e5 p5 rfl
    · have d3 := dep_of hdep 3 (by kernel_rfl)
      have e6 := new_slot hf 3 6 d3 (by kernel_rfl)
      have p6 : Pair w1 (V 3) (.V za) (.V 1) := hφ 3 d3
      have e2 := old_slot hf 2 (by kernel_rfl)
      have hb0 := hψ 0 (by decide)
      rw [show [4].getD 0 0 = 4 from rfl, hL] at hb0
      exact ob_fillOldR rfl e2 e6 hb0 p6 (fun w2 h => h) rfl
  · intro V W2 hG hsz2 hφ hψ hne
    have hlt2 : W.heap.size ≤ W2.heap.size := hsz2
    obtain ⟨Fa_, Pa_, HB_⟩ := hG
    have Fa := hid Fa_
    have Pa := hid Pa_
    have HB := hid HB_
    have y0 : V 0 = .agg #[.bool sa, .slice Aa na ca] := hφ 0 (by decide)
    obtain ⟨q2501, A2501, n2501, c2501, q2502, A2502, n2502, c2502, kb250, va250, vb250⟩ := hψ 0 (by decide)
    have R0 := hid kb250
    have R01 : Hid (IntV W2 (.agg #[.bool q2501, .slice A2501 n2501 c2501]) za) := hid va250
    have R02 : Hid (IntV W2 (.agg #[.bool q2502, .slice A2502 n2502 c2502]) 1) := hid vb250
    clear kb250 va250 vb250
    simp only [puts, Act.put, List.setIfInBounds_toArray, List.set_cons_zero, List.set_cons_succ, y0]
    clear hφ hψ hne y0 Fa_ Pa_ HB_ hsz2
    have k0 := R0.out.cell 0
    have k1 := R0.out.cell 1
    have k2 := R0.out.cell 2
    have k3 := R0.out.cell 3
    go_wp2
    refine bodyPost_ret (v := .agg #[.bool q2501, .slice A2501 n2501 c2501, .bool q2502, .slice A2502 n2502 c2502]) (by simp [results, Try.results25, go_sem, k0, k1, k2, k3]) rfl ⟨⟨_, rfl, ?_⟩, HB.out⟩
    exact RatV.ofInt (Pair.mk (a := .V za) (b := .V 1) R01.out R02.out)
set_option maxHeartbeats 4000000 in
theorem rsmallR_any (w : World) (k : Int) (h0 : -9223372036854775808 ≤ k) (h1 : k < 9223372036854775808) :
    Calls Try.prog 29 #[.int .i64 k] w fun e w' => RetR w' ((k : Int) : Rat) e ∧ Below w.heap.size w w' := by
  have sm := hid (Sm.i64 h0 h1)
  have HB := hid (Below.refl w.heap.size w)
  obtain ⟨W, hW⟩ : ∃ W, W = (w.alloc (.cells #[.bool false, .slice none 0 0, .bool false, .slice none 0 0] 26)) := ⟨_, rfl⟩
  have hbb : Below w.heap.size w W := by rw [hW]; exact (bw_alloc (Below.refl _ _) _)
  have HB := hid (bw_step HB.out hbb)
  have R0 : Hid (Blk W (w.heap.size) 26 #[.bool false, .slice none 0 0, .bool false, .slice none 0 0]) := by
    rw [hW]
    have := Blk.new w 26 #[.bool false, .slice none 0 0, .bool false, .slice none 0 0]
    exact hid (by simpa only [World.size_alloc] using this)
  clear hbb
  go_enter Try.func29, Try.ntmps29
  go_wp2_with fail
  rw [← hW]
  clear hW
  refine (rsmall_any _ k h0 h1).mono ?_
  rintro e W1 ⟨⟨v, rfl, hv⟩, hb1⟩
  have FV := hid hv
  clear hv
  have HB := hid (bw_step HB.out hb1)
  have R0 := hid (R0.out.below hb1)
  clear hb1
  go_wp2_with fail
  refine (rwholeR_any _ _ k 2 (FV.out.arg sm.out)).mono ?_
  rintro e W2 ⟨⟨u, rfl, hu⟩, hb2⟩
  obtain ⟨s1, A1, n1, c1, s2, A2, n2, c2, rfl, h1, h2⟩ := hu.form
  have F1 := hid h1
  have F2 := hid h2
  clear h1 h2 hu
  have HB := hid (bw_step HB.out hb2)
  have R0 := hid (R0.out.below hb2)
  have FV := hid (FV.out.below hb2)
  clear hb2
  have k0 := R0.out.cell 0
  have k1 := R0.out.cell 1
  have k2 := R0.out.cell 2
  have k3 := R0.out.cell 3
  have f0 := R0.out.free 0
  have f1 := R0.out.free 1
  have f2 := R0.out.free 2
  have f3 := R0.out.free 3
  go_wp2
  refine bodyPost_ret (v := .agg #[.bool s1, .slice A1 n1 c1, .bool s2, .slice A2 n2 c2]) (by simp [results, Try.results29, go_sem, k0, k1, k2, k3]) rfl ⟨⟨_, rfl, ?_⟩, ?_⟩
  · have hf := R0.out.numFree (noNum4' _ _ _ _ _ _ _ _) (fun e => absurd e Rne)
    exact Pair.only (Pair.mk (a := .V ((k : Int) : Rat).num) (b := .V (((k : Int) : Rat).den : Int)) F1.out F2.out) hf (only_four _ _ _ _ _ _)
  · exact below_only HB.out (only_four _ _ _ _ _ _) (Nat.le_refl _)
set_option maxHeartbeats 4000000 in
theorem rnormR_zero (w : World) (va : Value) (pa qa : Int) (n : Nat) (ha : Pair w va (.A pa n) (.A qa n)) (h1n : 1 ≤ n) (hn : n ≤ 300000) (hz : qa = 0) :
    Calls Try.prog 19 #[va] w fun e w' => RetR w' (Rat.divInt pa qa) e ∧ Below w.heap.size w w' := by
  obtain ⟨sa1, Aa1, na1, ca1, sa2, Aa2, na2, ca2, rfl, h1, h2⟩ := ha.form
  have Fa1 : Hid (IntA w (.agg #[.bool sa1, .slice Aa1 na1 ca1]) pa n) := hid h1
  have Fa2 : Hid (IntA w (.agg #[.bool sa2, .slice Aa2 na2 ca2]) qa n) := hid h2
  have Sa1 := hid Fa1.out.sm
  have Sa2 := hid Fa2.out.sm
  clear h1 h2 ha
  have HB := hid (Below.refl w.heap.size w)
  obtain ⟨W, hW⟩ : ∃ W, W = ((w.alloc (.cells #[.bool sa1, .slice Aa1 na1 ca1, .bool sa2, .slice Aa2 na2 ca2] 26)).alloc (.cells #[.bool false, .slice none 0 0, .bool false, .slice none 0 0] 26)) := ⟨_, rfl⟩
  have hbb : Below w.heap.size w W := by rw [hW]; exact (bw_alloc (bw_alloc (Below.refl _ _) _) _)
  have HB := hid (bw_step HB.out hbb)
  have Fa1 := hid (Fa1.out.below hbb)
  have Fa2 := hid (Fa2.out.below hbb)
  have Pa : Hid (Blk W (w.heap.size) 26 #[.bool sa1, .slice Aa1 na1 ca1, .bool sa2, .slice Aa2 na2 ca2]) := by
    rw [hW]
    have := (Blk.new w 26 #[.bool sa1, .slice Aa1 na1 ca1, .bool sa2, .slice Aa2 na2 ca2]).below (bw_alloc (Below.refl _ _) (.cells #[.bool false, .slice none 0 0, .bool false, .slice none 0 0] 26))
    exact hid (by simpa only [World.size_alloc] using this)
  have R0 : Hid (Blk W (w.heap.size + 1) 26 #[.bool false, .slice none 0 0, .bool false, .slice none 0 0]) := by
    rw [hW]
    have := Blk.new (w.alloc (.cells #[.bool sa1, .slice Aa1 na1 ca1, .bool sa2, .slice Aa2 na2 ca2] 26)) 26 #[.bool false, .slice none 0 0, .bool false, .slice none 0 0]
    exact hid (by simpa only [World.size_alloc] using this)
  clear hbb
  go_enter Try.func19, Try.ntmps19
  go_wp2_with (with_reducible refine halt_at 6 rfl ?_)
  rw [← hW]
  clear hW
  have lt1_Pa := Pa.out.lt
  have lt1_R0 := R0.out.lt
  unfold Halted
  refine wp_list_each (by kernel_rfl) 11 17 rfl rfl (by kernel_rfl)
    [Fact.eq (.pointer (some ⟨w.heap.size, 0, none⟩)), Fact.eq (.agg #[.bool sa1, .slice Aa1 na1 ca1]), Fact.eq (.pointer (some ⟨w.heap.size, 2, none⟩)), Fact.eq (.agg #[.bool sa2, .slice Aa2 na2 ca2]), Fact.pairB (.V 0) (.V 0) false, Fact.pairB (.V 0) (.V 0) false, Fact.pair (.V 0) (.V 0), Fact.eq (.bool false), Fact.boxR 26 Rne (.V 0) (.V 0), Fact.top _, Fact.eq (.bool false)]
    [.val, .val, .val, .val, .val, .val, .val, .val, .alloc 9, .fill 8, .val]
    (fun w' => IntA w' (.agg #[.bool sa1, .slice Aa1 na1 ca1]) (pa) n ∧ IntA w' (.agg #[.bool sa2, .slice Aa2 na2 ca2]) (qa) n ∧ Blk w' (w.heap.size) 26 #[.bool sa1, .slice Aa1 na1 ca1, .bool sa2, .slice Aa2 na2 ca2] ∧ Blk w' (w.heap.size + 1) 26 #[.bool false, .slice none 0 0, .bool false, .slice none 0 0] ∧ Below w.heap.size w w')
    (fun _ _ _ => True) [] (fun _ => 0) (by kernel_rfl)
    ⟨Fa1.out, Fa2.out, Pa.out, R0.out, HB.out⟩
    (fun w1 w2 ⟨h0, h1, h2, h3, h4⟩ hb => ⟨h0.below hb, h1.below hb, h2.below hb, h3.below hb, bw_step h4 hb⟩)
    (fun w1 w2 g ⟨h0, h1, h2, h3, h4⟩ hg hn ho => by
      have hg' : W.heap.size ≤ g := hg.elim id (fun ⟨_, h, _⟩ => absurd h (Nat.not_lt_zero _))
      exact ⟨h0.only hn ho, h1.only hn ho, h2.only ho (by have := Pa.out.lt; have := R0.out.lt; omega), h3.only ho (by have := Pa.out.lt; have := R0.out.lt; omega), below_only h4 ho (by have := Pa.out.lt; have := R0.out.lt; have := HB.out.size; omega)⟩)
    (fun l h => trivial) (fun l b w1 w2 h _ _ => trivial) (fun l b w1 w2 g h _ _ _ _ => trivial) (fun l h => by cases h) (fun l k h => by cases h) ?_ ?_
  · refine ⟨?_, ?_, ?_, ?_, ?_, ?_, ?_, ?_, ?_, ?_, ?_, trivial⟩ <;> intro L V a1 w1 hf hG hsz hφ hψ hL hdep hcl
    · have e1 := old_slot hf 1 (by kernel_rfl)
      exact ob_pure (ex_fieldAddrR0 rfl e1) rfl
    · obtain ⟨_, _, Pa_, _⟩ := hG
      have d0 := dep_of hdep 0 (by kernel_rfl)
      have e6 := (new_slot hf 0 6 d0 (by kernel_rfl)).trans (show V 0 = .pointer (some ⟨w.heap.size, 0, none⟩) from hφ 0 d0)
      exact ob_pure (ex_load_at0 rfl e6 Pa_) rfl
    · have e1 := old_slot hf 1 (by kernel_rfl)
      exact ob_pure (ex_fieldAddrR1 rfl e1) rfl
    · obtain ⟨_, _, Pa_, _⟩ := hG
      have d2 := dep_of hdep 2 (by kernel_rfl)
      have e8 := (new_slot hf 2 8 d2 (by kernel_rfl)).trans (show V 2 = .pointer (some ⟨w.heap.size, 2, none⟩) from hφ 2 d2)
      exact ob_pure (ex_load_at2 rfl e8 Pa_) rfl
    · obtain ⟨Fa1_, Fa2_, _⟩ := hG
      have d1 := dep_of hdep 1 (by kernel_rfl)
      have e7 := (new_slot hf 1 7 d1 (by kernel_rfl)).trans (show V 1 = .agg #[.bool sa1, .slice Aa1 na1 ca1] from hφ 1 d1)
      have d3 := dep_of hdep 3 (by kernel_rfl)
      have e9 := (new_slot hf 3 9 d3 (by kernel_rfl)).trans (show V 3 = .agg #[.bool sa2, .slice Aa2 na2 ca2] from hφ 3 d3)
      refine ob_go rfl (vs := #[.agg #[.bool sa1, .slice Aa1 na1 ca1], .agg #[.bool sa2, .slice Aa2 na2 ca2]]) (by simp only [List.map_toArray, List.map_cons, List.map_nil, e7, e9]) (by kernel_rfl) (rnewR_any0 _ _ _ pa qa n Fa1_ Fa2_ (by omega) (hz)) ?_
      rintro e w2 ⟨⟨v, rfl, hv⟩, hb⟩
      exact ⟨v, rfl, hb, hv⟩
    · have d4 := dep_of hdep 4 (by kernel_rfl)
      have e10 := new_slot hf 4 10 d4 (by kernel_rfl)
      have p10 : PairB w1 (V 4) (.V 0) (.V 0) false := hφ 4 d4
      exact ob_pure (ex_moveV rfl e10) (by exact p10)
    · have d5 := dep_of hdep 5 (by kernel_rfl)
      have e5 := new_slot hf 5 5 d5 (by kernel_rfl)
      have p5 : PairB w1 (V 5) (.V 0) (.V 0) false := hφ 5 d5
      exact ob_pairB0 rfl e5 p5 rfl
    · have d5 := dep_of hdep 5 (by kernel_rfl)
      have e5 := new_slot hf 5 5 d5 (by kernel_rfl)
      have p5 : PairB w1 (V 5) (.V 0) (.V 0) false := hφ 5 d5
      exact ob_pairB1 rfl e5 p5 rfl
    · exact ob_allocR rfl hsz rfl
    · have d6 := dep_of hdep 6 (by kernel_rfl)
      have e11 := new_slot hf 6 11 d6 (by kernel_rfl)
      have p11 : Pair w1 (V 6) (.V 0) (.V 0) := hφ 6 d6
      have d8 := dep_of hdep 8 (by kernel_rfl)
      obtain ⟨g, h1, h2, h3, _⟩ := hφ 8 d8
      have hz := h3 (show (true && L 9) = false from by have h : L 9 = false := hL; rw [h]; rfl)
      exact ob_fillR rfl ((new_slot hf 8 3 d8 (by kernel_rfl)).trans h1) e11 h1 h2 hz p11 rfl rfl
    · have d7 := dep_of hdep 7 (by kernel_rfl)
      have e12 := (new_slot hf 7 12 d7 (by kernel_rfl)).trans (show V 7 = .bool false from hφ 7 d7)
      exact ob_pure (v := .bool false) (ex_assignV rfl e12) rfl
  · intro V W2 hG hsz2 hφ hψ hne
    have hlt2 : W.heap.size ≤ W2.heap.size := hsz2
    obtain ⟨Fa1_, Fa2_, Pa_, R0_, HB_⟩ := hG
    have Fa1 := hid Fa1_
    have Fa2 := hid Fa2_
    have Pa := hid Pa_
    have R0 := hid R0_
    have HB := hid HB_
    have y0 : V 0 = .pointer (some ⟨w.heap.size, 0, none⟩) := hφ 0 (by decide)
    have y1 : V 1 = .agg #[.bool sa1, .slice Aa1 na1 ca1] := hφ 1 (by decide)
    have y2 : V 2 = .pointer (some ⟨w.heap.size, 2, none⟩) := hφ 2 (by decide)
    have y3 : V 3 = .agg #[.bool sa2, .slice Aa2 na2 ca2] := hφ 3 (by decide)
    have y7 : V 7 = .bool false := hφ 7 (by decide)
    obtain ⟨G2_8, y8, gb208, _, hb208⟩ := hφ 8 (by decide)
    obtain ⟨q2081, A2081, n2081, c2081, q2082, A2082, n2082, c2082, kb208, va208, vb208⟩ := hb208 rfl
    have Xt3_ := hid kb208
    have t3_1 : Hid (IntV W2 (.agg #[.bool q2081, .slice A2081 n2081 c2081]) 0) := hid va208
    have t3_2 : Hid (IntV W2 (.agg #[.bool q2082, .slice A2082 n2082 c2082]) 0) := hid vb208
    clear kb208 va208 vb208
    clear hb208
    have y10 : V 10 = .bool false := hφ 10 (by decide)
    simp only [puts, Act.put, List.setIfInBounds_toArray, List.set_cons_zero, List.set_cons_succ, y0, y1, y2, y3, y7, y8, y10, ptr]
    clear hφ hψ hne y0 y1 y2 y3 y7 y8 y10 Fa1_ Fa2_ Pa_ R0_ HB_ hsz2
    go_wp2_with (with_reducible refine halt_at 15 rfl ?_)
    unfold Halted
    refine wp_list_each (by kernel_rfl) 2 17 rfl rfl (by kernel_rfl)
      [Fact.pair (.V (((0 : Int) : Rat)).num) (.V ((((0 : Int) : Rat)).den : Int)), Fact.top _]
      [.val, .fillOld 0]
      (fun w' => IntA w' (.agg #[.bool sa1, .slice Aa1 na1 ca1]) (pa) n ∧ IntA w' (.agg #[.bool sa2, .slice Aa2 na2 ca2]) (qa) n ∧ Blk w' (w.heap.size) 26 #[.bool sa1, .slice Aa1 na1 ca1, .bool sa2, .slice Aa2 na2 ca2] ∧ IntV w' (.agg #[.bool q2081, .slice A2081 n2081 c2081]) (0) ∧ IntV w' (.agg #[.bool q2082, .slice A2082 n2082 c2082]) (0) ∧ Blk w' (G2_8) 26 #[.bool q2081, .slice A2081 n2081 c2081, .bool q2082, .slice A2082 n2082 c2082] ∧ Below w.heap.size w w')
      (fun l b w' => match l with
        | 0 => if b = true then BoxR w' (w.heap.size + 1) 26 (.V (((0 : Int) : Rat)).num) (.V ((((0 : Int) : Rat)).den : Int)) else Blk w' (w.heap.size + 1) 26 #[.bool false, .slice none 0 0, .bool false, .slice none 0 0]
        | _ => True)
      [1] (fun l => match l with | 0 => w.heap.size + 1 | _ => 0) (by kernel_rfl)
      ⟨Fa1.out, Fa2.out, Pa.out, t3_1.out, t3_2.out, Xt3_.out, HB.out⟩
      (fun w1 w2 ⟨h0, h1, h2, h3, h4, h5, h6⟩ hb => ⟨h0.below hb, h1.below hb, h2.below hb, h3.below hb, h4.below hb, h5.below hb, bw_step h6 hb⟩)
      (fun w1 w2 g ⟨h0, h1, h2, h3, h4, h5, h6⟩ hg hn ho => by
        have hg' : W2.heap.size ≤ g ∨ g = w.heap.size + 1 := by
          rcases hg with h | ⟨l, hl, h⟩
          · exact .inl h
          · rcases l with _ | l
            · exact .inr h
            · exact absurd hl (by simp)
        exact ⟨h0.only hn ho, h1.only hn ho, h2.only ho (by have := Pa.out.lt; have := R0.out.lt; have := Xt3_.out.lt; omega), h3.only hn ho, h4.only hn ho, h5.only ho (by have := Pa.out.lt; have := R0.out.lt; have := Xt3_.out.lt; omega), below_only h6 ho (by have := Pa.out.lt; have := R0.out.lt; have := Xt3_.out.lt; have := HB.out.size; omega)⟩)
      (fun l hl => by
          rcases l with _ | l
          · exact R0.out
          · exact absurd hl (by simp))
      (fun l b w1 w2 hl h hb => by
          rcases l with _ | l
          · (cases b <;> exact h.below hb)
          · exact absurd hl (by simp))
      (fun l b w1 w2 g hl h hg hn ho => by
          rcases l with _ | l
          · (cases b; (exact h.only ho (Ne.symm hg)); (exact h.only (Ne.symm hg) hn ho))
          · exact absurd hl (by simp))
      (fun l hl => by
          rcases l with _ | l
          · exact R0.out.lt
          · exact absurd hl (by simp))
      (fun l k hl hk hne => by rcases l with _ | l <;> rcases k with _ | k <;> simp at hl hk hne)
      ?_ ?_
    · refine ⟨?_, ?_, trivial⟩ <;> intro L V a1 w1 hf hG hsz hφ hψ hL hdep hcl
      · refine ob_go rfl (vs := #[.int .i64 0]) (by simp only [List.map_toArray, List.map_cons, List.map_nil, ev_const]) (by kernel_rfl) (rsmallR_any _ 0 (by decide) (by decide)) ?_
        rintro e w2 ⟨⟨v, rfl, hv⟩, hb⟩
        exact ⟨v, rfl, hb, hv⟩
      · have d0 := dep_of hdep 0 (by kernel_rfl)
        have e15 := new_slot hf 0 15 d0 (by kernel_rfl)
        have p15 : Pair w1 (V 0) (.V (((0 : Int) : Rat)).num) (.V ((((0 : Int) : Rat)).den : Int)) := hφ 0 d0
        have e2 := old_slot hf 2 (by kernel_rfl)
        have hb0 := hψ 0 (by decide)
        rw [show [1].getD 0 0 = 1 from rfl, hL] at hb0
        exact ob_fillOldR rfl e2 e15 hb0 p15 (fun w2 h => h) rfl
    · intro V W3 hG hsz3 hφ hψ hne
      have hlt3 : W2.heap.size ≤ W3.heap.size := hsz3
      obtain ⟨Fa1_, Fa2_, Pa_, t3_1_, t3_2_, Xt3__, HB_⟩ := hG
      have Fa1 := hid Fa1_
      have Fa2 := hid Fa2_
      have Pa := hid Pa_
      have t3_1 := hid t3_1_
      have t3_2 := hid t3_2_
      have Xt3_ := hid Xt3__
      have HB := hid HB_
      obtain ⟨q3501, A3501, n3501, c3501, q3502, A3502, n3502, c3502, kb350, va350, vb350⟩ := hψ 0 (by decide)
      have R0 := hid kb350
      have R01 : Hid (IntV W3 (.agg #[.bool q3501, .slice A3501 n3501 c3501]) (((0 : Int) : Rat)).num) := hid va350
      have R02 : Hid (IntV W3 (.agg #[.bool q3502, .slice A3502 n3502 c3502]) ((((0 : Int) : Rat)).den : Int)) := hid vb350
      clear kb350 va350 vb350
      simp only [puts, Act.put, List.setIfInBounds_toArray, List.set_cons_zero, List.set_cons_succ]
      clear hφ hψ hne  Fa1_ Fa2_ Pa_ t3_1_ t3_2_ Xt3__ HB_ hsz3
      have k0 := R0.out.cell 0
      have k1 := R0.out.cell 1
      have k2 := R0.out.cell 2
      have k3 := R0.out.cell 3
      go_wp2
      refine bodyPost_ret (v := .agg #[.bool q3501, .slice A3501 n3501 c3501, .bool q3502, .slice A3502 n3502 c3502]) (by simp [results, Try.results19, go_sem, k0, k1, k2, k3]) rfl ⟨⟨_, rfl, ?_⟩, HB.out⟩
      rw [hz, Rat.divInt_zero]
      exact Pair.mk (a := .V ((0 : Int) : Rat).num) (b := .V (((0 : Int) : Rat).den : Int)) R01.out R02.out
set_option maxHeartbeats 4000000 in
theorem rnormR_pos (w : World) (va : Value) (pa qa : Int) (n : Nat) (ha : Pair w va (.A pa n) (.A qa n)) (h1n : 1 ≤ n) (hn : n ≤ 300000) (hz : qa ≠ 0) :
    Calls Try.prog 19 #[va] w fun e w' => RetR w' (Rat.divInt pa qa) e ∧ Below w.heap.size w w' := by
  obtain ⟨sa1, Aa1, na1, ca1, sa2, Aa2, na2, ca2, rfl, h1, h2⟩ := ha.form
  have Fa1 : Hid (IntA w (.agg #[.bool sa1, .slice Aa1 na1 ca1]) pa n) := hid h1
  have Fa2 : Hid (IntA w (.agg #[.bool sa2, .slice Aa2 na2 ca2]) qa n) := hid h2
  have Sa1 := hid Fa1.out.sm
  have Sa2 := hid Fa2.out.sm
  clear h1 h2 ha
  have HB := hid (Below.refl w.heap.size w)
  obtain ⟨W, hW⟩ : ∃ W, W = ((w.alloc (.cells #[.bool sa1, .slice Aa1 na1 ca1, .bool sa2, .slice Aa2 na2 ca2] 26)).alloc (.cells #[.bool false, .slice none 0 0, .bool false, .slice none 0 0] 26)) := ⟨_, rfl⟩
  have hbb : Below w.heap.size w W := by rw [hW]; exact (bw_alloc (bw_alloc (Below.refl _ _) _) _)
  have HB := hid (bw_step HB.out hbb)
  have Fa1 := hid (Fa1.out.below hbb)
  have Fa2 := hid (Fa2.out.below hbb)
  have Pa : Hid (Blk W (w.heap.size) 26 #[.bool sa1, .slice Aa1 na1 ca1, .bool sa2, .slice Aa2 na2 ca2]) := by
    rw [hW]
    have := (Blk.new w 26 #[.bool sa1, .slice Aa1 na1 ca1, .bool sa2, .slice Aa2 na2 ca2]).below (bw_alloc (Below.refl _ _) (.cells #[.bool false, .slice none 0 0, .bool false, .slice none 0 0] 26))
    exact hid (by simpa only [World.size_alloc] using this)
  have R0 : Hid (Blk W (w.heap.size + 1) 26 #[.bool false, .slice none 0 0, .bool false, .slice none 0 0]) := by
    rw [hW]
    have := Blk.new (w.alloc (.cells #[.bool sa1, .slice Aa1 na1 ca1, .bool sa2, .slice Aa2 na2 ca2] 26)) 26 #[.bool false, .slice none 0 0, .bool false, .slice none 0 0]
    exact hid (by simpa only [World.size_alloc] using this)
  clear hbb
  go_enter Try.func19, Try.ntmps19
  go_wp2_with (with_reducible refine halt_at 6 rfl ?_)
  rw [← hW]
  clear hW
  have RS1 : Hid (RS n (Rat.divInt pa qa)) := hid (by have h := RS.of (Sm.to (n := n) (Sa1.out) (by omega)) (Sm.to (n := n) (Sa2.out) (by omega)) (by omega); rw [show Rat.divInt pa qa = (Rat.divInt pa qa) from rfl] at h; exact h)
  have lt1_Pa := Pa.out.lt
  have lt1_R0 := R0.out.lt
  unfold Halted
  refine wp_list_each (by kernel_rfl) 11 17 rfl rfl (by kernel_rfl)
    [Fact.eq (.pointer (some ⟨w.heap.size, 0, none⟩)), Fact.eq (.agg #[.bool sa1, .slice Aa1 na1 ca1]), Fact.eq (.pointer (some ⟨w.heap.size, 2, none⟩)), Fact.eq (.agg #[.bool sa2, .slice Aa2 na2 ca2]), Fact.pairB (.V ((Rat.divInt pa qa)).num) (.V (((Rat.divInt pa qa)).den : Int)) true, Fact.pairB (.V ((Rat.divInt pa qa)).num) (.V (((Rat.divInt pa qa)).den : Int)) true, Fact.pair (.V ((Rat.divInt pa qa)).num) (.V (((Rat.divInt pa qa)).den : Int)), Fact.eq (.bool true), Fact.boxR 26 Rne (.V ((Rat.divInt pa qa)).num) (.V (((Rat.divInt pa qa)).den : Int)), Fact.top _, Fact.eq (.bool true)]
    [.val, .val, .val, .val, .val, .val, .val, .val, .alloc 9, .fill 8, .val]
    (fun w' => IntA w' (.agg #[.bool sa1, .slice Aa1 na1 ca1]) (pa) n ∧ IntA w' (.agg #[.bool sa2, .slice Aa2 na2 ca2]) (qa) n ∧ Blk w' (w.heap.size) 26 #[.bool sa1, .slice Aa1 na1 ca1, .bool sa2, .slice Aa2 na2 ca2] ∧ Blk w' (w.heap.size + 1) 26 #[.bool false, .slice none 0 0, .bool false, .slice none 0 0] ∧ Below w.heap.size w w')
    (fun _ _ _ => True) [] (fun _ => 0) (by kernel_rfl)
    ⟨Fa1.out, Fa2.out, Pa.out, R0.out, HB.out⟩
    (fun w1 w2 ⟨h0, h1, h2, h3, h4⟩ hb => ⟨h0.below hb, h1.below hb, h2.below hb, h3.below hb, bw_step h4 hb⟩)
    (fun w1 w2 g ⟨h0, h1, h2, h3, h4⟩ hg hn ho => by
      have hg' : W.heap.size ≤ g := hg.elim id (fun ⟨_, h, _⟩ => absurd h (Nat.not_lt_zero _))
      exact ⟨h0.only hn ho, h1.only hn ho, h2.only ho (by have := Pa.out.lt; have := R0.out.lt; omega), h3.only ho (by have := Pa.out.lt; have := R0.out.lt; omega), below_only h4 ho (by have := Pa.out.lt; have := R0.out.lt; have := HB.out.size; omega)⟩)
    (fun l h => trivial) (fun l b w1 w2 h _ _ => trivial) (fun l b w1 w2 g h _ _ _ _ => trivial) (fun l h => by cases h) (fun l k h => by cases h) ?_ ?_
  · refine ⟨?_, ?_, ?_, ?_, ?_, ?_, ?_, ?_, ?_, ?_, ?_, trivial⟩ <;> intro L V a1 w1 hf hG hsz hφ hψ hL hdep hcl
    · have e1 := old_slot hf 1 (by kernel_rfl)
      exact ob_pure (ex_fieldAddrR0 rfl e1) rfl
    · obtain ⟨_, _, Pa_, _⟩ := hG
      have d0 := dep_of hdep 0 (by kernel_rfl)
      have e6 := (new_slot hf 0 6 d0 (by kernel_rfl)).trans (show V 0 = .pointer (some ⟨w.heap.size, 0, none⟩) from hφ 0 d0)
      exact ob_pure (ex_load_at0 rfl e6 Pa_) rfl
    · have e1 := old_slot hf 1 (by kernel_rfl)
      exact ob_pure (ex_fieldAddrR1 rfl e1) rfl
    · obtain ⟨_, _, Pa_, _⟩ := hG
      have d2 := dep_of hdep 2 (by kernel_rfl)
      have e8 := (new_slot hf 2 8 d2 (by kernel_rfl)).trans (show V 2 = .pointer (some ⟨w.heap.size, 2, none⟩) from hφ 2 d2)
      exact ob_pure (ex_load_at2 rfl e8 Pa_) rfl
    · obtain ⟨Fa1_, Fa2_, _⟩ := hG
      have d1 := dep_of hdep 1 (by kernel_rfl)
      have e7 := (new_slot hf 1 7 d1 (by kernel_rfl)).trans (show V 1 = .agg #[.bool sa1, .slice Aa1 na1 ca1] from hφ 1 d1)
      have d3 := dep_of hdep 3 (by kernel_rfl)
      have e9 := (new_slot hf 3 9 d3 (by kernel_rfl)).trans (show V 3 = .agg #[.bool sa2, .slice Aa2 na2 ca2] from hφ 3 d3)
      refine ob_go rfl (vs := #[.agg #[.bool sa1, .slice Aa1 na1 ca1], .agg #[.bool sa2, .slice Aa2 na2 ca2]]) (by simp only [List.map_toArray, List.map_cons, List.map_nil, e7, e9]) (by kernel_rfl) (rnewR_any _ _ _ pa qa (Rat.divInt pa qa) n Fa1_ Fa2_ (by omega) (by omega) (hz) (rfl)) ?_
      rintro e w2 ⟨⟨v, rfl, hv⟩, hb⟩
      exact ⟨v, rfl, hb, hv⟩
    · have d4 := dep_of hdep 4 (by kernel_rfl)
      have e10 := new_slot hf 4 10 d4 (by kernel_rfl)
      have p10 : PairB w1 (V 4) (.V ((Rat.divInt pa qa)).num) (.V (((Rat.divInt pa qa)).den : Int)) true := hφ 4 d4
      exact ob_pure (ex_moveV rfl e10) (by exact p10)
    · have d5 := dep_of hdep 5 (by kernel_rfl)
      have e5 := new_slot hf 5 5 d5 (by kernel_rfl)
      have p5 : PairB w1 (V 5) (.V ((Rat.divInt pa qa)).num) (.V (((Rat.divInt pa qa)).den : Int)) true := hφ 5 d5
      exact ob_pairB0 rfl e5 p5 rfl
    · have d5 := dep_of hdep 5 (by kernel_rfl)
      have e5 := new_slot hf 5 5 d5 (by kernel_rfl)
      have p5 : PairB w1 (V 5) (.V ((Rat.divInt pa qa)).num) (.V (((Rat.divInt pa qa)).den : Int)) true := hφ 5 d5
      exact ob_pairB1 rfl e5 p5 rfl
    · exact ob_allocR rfl hsz rfl
    · have d6 := dep_of hdep 6 (by kernel_rfl)
      have e11 := new_slot hf 6 11 d6 (by kernel_rfl)
      have p11 : Pair w1 (V 6) (.V ((Rat.divInt pa qa)).num) (.V (((Rat.divInt pa qa)).den : Int)) := hφ 6 d6
      have d8 := dep_of hdep 8 (by kernel_rfl)
      obtain ⟨g, h1, h2, h3, _⟩ := hφ 8 d8
      have hz := h3 (show (true && L 9) = false from by have h : L 9 = false := hL; rw [h]; rfl)
      exact ob_fillR rfl ((new_slot hf 8 3 d8 (by kernel_rfl)).trans h1) e11 h1 h2 hz p11 rfl rfl
    · have d7 := dep_of hdep 7 (by kernel_rfl)
      have e12 := (new_slot hf 7 12 d7 (by kernel_rfl)).trans (show V 7 = .bool true from hφ 7 d7)
      exact ob_pure (v := .bool true) (ex_assignV rfl e12) rfl
  · intro V W2 hG hsz2 hφ hψ hne
    have hlt2 : W.heap.size ≤ W2.heap.size := hsz2
    obtain ⟨Fa1_, Fa2_, Pa_, R0_, HB_⟩ := hG
    have Fa1 := hid Fa1_
    have Fa2 := hid Fa2_
    have Pa := hid Pa_
    have R0 := hid R0_
    have HB := hid HB_
    have y0 : V 0 = .pointer (some ⟨w.heap.size, 0, none⟩) := hφ 0 (by decide)
    have y1 : V 1 = .agg #[.bool sa1, .slice Aa1 na1 ca1] := hφ 1 (by decide)
    have y2 : V 2 = .pointer (some ⟨w.heap.size, 2, none⟩) := hφ 2 (by decide)
    have y3 : V 3 = .agg #[.bool sa2, .slice Aa2 na2 ca2] := hφ 3 (by decide)
    have y7 : V 7 = .bool true := hφ 7 (by decide)
    obtain ⟨G2_8, y8, gb208, _, hb208⟩ := hφ 8 (by decide)
    obtain ⟨q2081, A2081, n2081, c2081, q2082, A2082, n2082, c2082, kb208, va208, vb208⟩ := hb208 rfl
    have Xt3_ := hid kb208
    have t3_1 : Hid (IntV W2 (.agg #[.bool q2081, .slice A2081 n2081 c2081]) ((Rat.divInt pa qa)).num) := hid va208
    have t3_2 : Hid (IntV W2 (.agg #[.bool q2082, .slice A2082 n2082 c2082]) (((Rat.divInt pa qa)).den : Int)) := hid vb208
    clear kb208 va208 vb208
    clear hb208
    have y10 : V 10 = .bool true := hφ 10 (by decide)
    simp only [puts, Act.put, List.setIfInBounds_toArray, List.set_cons_zero, List.set_cons_succ, y0, y1, y2, y3, y7, y8, y10, ptr]
    clear hφ hψ hne y0 y1 y2 y3 y7 y8 y10 Fa1_ Fa2_ Pa_ R0_ HB_ hsz2
    go_wp2_with (with_reducible refine halt_at 16 rfl ?_)
    unfold Halted
    refine wp_list_each (by kernel_rfl) 2 17 rfl rfl (by kernel_rfl)
      [Fact.eq (.agg #[.bool q2081, .slice A2081 n2081 c2081, .bool q2082, .slice A2082 n2082 c2082]), Fact.top _]
      [.val, .fillOld 0]
      (fun w' => IntA w' (.agg #[.bool sa1, .slice Aa1 na1 ca1]) (pa) n ∧ IntA w' (.agg #[.bool sa2, .slice Aa2 na2 ca2]) (qa) n ∧ Blk w' (w.heap.size) 26 #[.bool sa1, .slice Aa1 na1 ca1, .bool sa2, .slice Aa2 na2 ca2] ∧ IntV w' (.agg #[.bool q2081, .slice A2081 n2081 c2081]) (((Rat.divInt pa qa)).num) ∧ IntV w' (.agg #[.bool q2082, .slice A2082 n2082 c2082]) ((((Rat.divInt pa qa)).den : Int)) ∧ Blk w' (G2_8) 26 #[.bool q2081, .slice A2081 n2081 c2081, .bool q2082, .slice A2082 n2082 c2082] ∧ Below w.heap.size w w')
      (fun l b w' => match l with
        | 0 => if b = true then BoxR w' (w.heap.size + 1) 26 (.V ((Rat.divInt pa qa)).num) (.V (((Rat.divInt pa qa)).den : Int)) else Blk w' (w.heap.size + 1) 26 #[.bool false, .slice none 0 0, .bool false, .slice none 0 0]
        | _ => True)
      [1] (fun l => match l with | 0 => w.heap.size + 1 | _ => 0) (by kernel_rfl)
      ⟨Fa1.out, Fa2.out, Pa.out, t3_1.out, t3_2.out, Xt3_.out, HB.out⟩
      (fun w1 w2 ⟨h0, h1, h2, h3, h4, h5, h6⟩ hb => ⟨h0.below hb, h1.below hb, h2.below hb, h3.below hb, h4.below hb, h5.below hb, bw_step h6 hb⟩)
      (fun w1 w2 g ⟨h0, h1, h2, h3, h4, h5, h6⟩ hg hn ho => by
        have hg' : W2.heap.size ≤ g ∨ g = w.heap.size + 1 := by
          rcases hg with h | ⟨l, hl, h⟩
          · exact .inl h
          · rcases l with _ | l
            · exact .inr h
            · exact absurd hl (by simp)
        exact ⟨h0.only hn ho, h1.only hn ho, h2.only ho (by have := Pa.out.lt; have := R0.out.lt; have := Xt3_.out.lt; omega), h3.only hn ho, h4.only hn ho, h5.only ho (by have := Pa.out.lt; have := R0.out.lt; have := Xt3_.out.lt; omega), below_only h6 ho (by have := Pa.out.lt; have := R0.out.lt; have := Xt3_.out.lt; have := HB.out.size; omega)⟩)
      (fun l hl => by
          rcases l with _ | l
          · exact R0.out
          · exact absurd hl (by simp))
      (fun l b w1 w2 hl h hb => by
          rcases l with _ | l
          · (cases b <;> exact h.below hb)
          · exact absurd hl (by simp))
      (fun l b w1 w2 g hl h hg hn ho => by
          rcases l with _ | l
          · (cases b; (exact h.only ho (Ne.symm hg)); (exact h.only (Ne.symm hg) hn ho))
          · exact absurd hl (by simp))
      (fun l hl => by
          rcases l with _ | l
          · exact R0.out.lt
          · exact absurd hl (by simp))
      (fun l k hl hk hne => by rcases l with _ | l <;> rcases k with _ | k <;> simp at hl hk hne)
      ?_ ?_
    · refine ⟨?_, ?_, trivial⟩ <;> intro L V a1 w1 hf hG hsz hφ hψ hL hdep hcl
      · obtain ⟨_, _, _, _, _, Xt3__, _⟩ := hG
        have e3 := old_slot hf 3 (by kernel_rfl)
        exact ob_pure (ex_loadR rfl e3 Xt3__) rfl
      · obtain ⟨_, _, _, t3_1_, t3_2_, _⟩ := hG
        have d0 := dep_of hdep 0 (by kernel_rfl)
        have e16 := (new_slot hf 0 16 d0 (by kernel_rfl)).trans (show V 0 = .agg #[.bool q2081, .slice A2081 n2081 c2081, .bool q2082, .slice A2082 n2082 c2082] from hφ 0 d0)
        have e2 := old_slot hf 2 (by kernel_rfl)
        have hb0 := hψ 0 (by decide)
        rw [show [1].getD 0 0 = 1 from rfl, hL] at hb0
        exact ob_fillOldR rfl e2 e16 hb0 (Pair.mk (a := .V ((Rat.divInt pa qa)).num) (b := .V (((Rat.divInt pa qa)).den : Int)) t3_1_ t3_2_) (fun w2 h => h) rfl
    · intro V W3 hG hsz3 hφ hψ hne
      have hlt3 : W2.heap.size ≤ W3.heap.size := hsz3
      obtain ⟨Fa1_, Fa2_, Pa_, t3_1_, t3_2_, Xt3__, HB_⟩ := hG
      have Fa1 := hid Fa1_
      have Fa2 := hid Fa2_
      have Pa := hid Pa_
      have t3_1 := hid t3_1_
      have t3_2 := hid t3_2_
      have Xt3_ := hid Xt3__
      have HB := hid HB_
      have y0 : V 0 = .agg #[.bool q2081, .slice A2081 n2081 c2081, .bool q2082, .slice A2082 n2082 c2082] := hφ 0 (by decide)
      obtain ⟨q3501, A3501, n3501, c3501, q3502, A3502, n3502, c3502, kb350, va350, vb350⟩ := hψ 0 (by decide)
      have R0 := hid kb350
      have R01 : Hid (IntV W3 (.agg #[.bool q3501, .slice A3501 n3501 c3501]) ((Rat.divInt pa qa)).num) := hid va350
      have R02 : Hid (IntV W3 (.agg #[.bool q3502, .slice A3502 n3502 c3502]) (((Rat.divInt pa qa)).den : Int)) := hid vb350
      clear kb350 va350 vb350
      simp only [puts, Act.put, List.setIfInBounds_toArray, List.set_cons_zero, List.set_cons_succ, y0]
      clear hφ hψ hne y0 Fa1_ Fa2_ Pa_ t3_1_ t3_2_ Xt3__ HB_ hsz3
      have k0 := R0.out.cell 0
      have k1 := R0.out.cell 1
      have k2 := R0.out.cell 2
      have k3 := R0.out.cell 3
      go_wp2
      refine bodyPost_ret (v := .agg #[.bool q3501, .slice A3501 n3501 c3501, .bool q3502, .slice A3502 n3502 c3502]) (by simp [results, Try.results19, go_sem, k0, k1, k2, k3]) rfl ⟨⟨_, rfl, ?_⟩, HB.out⟩
      exact Pair.mk (a := .V (Rat.divInt pa qa).num) (b := .V ((Rat.divInt pa qa).den : Int)) R01.out R02.out
theorem rnormalizeR_any (w : World) (va : Value) (x : Rat) (n : Nat) (ha : RatA w va x n) (h1n : 1 ≤ n) (hn : n ≤ 300000) :
    Calls Try.prog 19 #[va] w fun e w' => RetR w' x e ∧ Below w.heap.size w w' := by
  obtain ⟨p, q, h, rfl⟩ := ha
  by_cases h0 : q = 0
  · exact rnormR_zero w va p q n h h1n hn h0
  · exact rnormR_pos w va p q n h h1n hn h0
set_option maxHeartbeats 4000000 in
theorem rsameP_any (w : World) (va vb : Value) (p q : Int) (ha : Pair w va (.V p) (.V q)) (hb : Pair w vb (.V p) (.V q)) :
    Calls Try.prog 18 #[va, vb] w fun e w' => e = .returned (.bool true) ∧ Below w.heap.size w w' := by
  obtain ⟨sa1, Aa1, na1, ca1, sa2, Aa2, na2, ca2, rfl, h1, h2⟩ := ha.form
  have Fa1 : Hid (IntV w (.agg #[.bool sa1, .slice Aa1 na1 ca1]) p) := hid h1
  have Fa2 : Hid (IntV w (.agg #[.bool sa2, .slice Aa2 na2 ca2]) q) := hid h2
  clear h1 h2 ha
  obtain ⟨sb1, Ab1, nb1, cb1, sb2, Ab2, nb2, cb2, rfl, h1, h2⟩ := hb.form
  have Fb1 : Hid (IntV w (.agg #[.bool sb1, .slice Ab1 nb1 cb1]) p) := hid h1
  have Fb2 : Hid (IntV w (.agg #[.bool sb2, .slice Ab2 nb2 cb2]) q) := hid h2
  clear h1 h2 hb
  have HB := hid (Below.refl w.heap.size w)
  obtain ⟨W, hW⟩ : ∃ W, W = ((w.alloc (.cells #[.bool sa1, .slice Aa1 na1 ca1, .bool sa2, .slice Aa2 na2 ca2] 26)).alloc (.cells #[.bool sb1, .slice Ab1 nb1 cb1, .bool sb2, .slice Ab2 nb2 cb2] 26)) := ⟨_, rfl⟩
  have hbb : Below w.heap.size w W := by rw [hW]; exact (bw_alloc (bw_alloc (Below.refl _ _) _) _)
  have HB := hid (bw_step HB.out hbb)
  have Fa1 := hid (Fa1.out.below hbb)
  have Fa2 := hid (Fa2.out.below hbb)
  have Fb1 := hid (Fb1.out.below hbb)
  have Fb2 := hid (Fb2.out.below hbb)
  have Pa : Hid (Blk W (w.heap.size) 26 #[.bool sa1, .slice Aa1 na1 ca1, .bool sa2, .slice Aa2 na2 ca2]) := by
    rw [hW]
    have := (Blk.new w 26 #[.bool sa1, .slice Aa1 na1 ca1, .bool sa2, .slice Aa2 na2 ca2]).below (bw_alloc (Below.refl _ _) (.cells #[.bool sb1, .slice Ab1 nb1 cb1, .bool sb2, .slice Ab2 nb2 cb2] 26))
    exact hid (by simpa only [World.size_alloc] using this)
  have Pb : Hid (Blk W (w.heap.size + 1) 26 #[.bool sb1, .slice Ab1 nb1 cb1, .bool sb2, .slice Ab2 nb2 cb2]) := by
    rw [hW]
    have := Blk.new (w.alloc (.cells #[.bool sa1, .slice Aa1 na1 ca1, .bool sa2, .slice Aa2 na2 ca2] 26)) 26 #[.bool sb1, .slice Ab1 nb1 cb1, .bool sb2, .slice Ab2 nb2 cb2]
    exact hid (by simpa only [World.size_alloc] using this)
  clear hbb
  have ua0 := Pa.out.cell 0
  have ua1 := Pa.out.cell 1
  have ua2 := Pa.out.cell 2
  have ua3 := Pa.out.cell 3
  have ub0 := Pb.out.cell 0
  have ub1 := Pb.out.cell 1
  have ub2 := Pb.out.cell 2
  have ub3 := Pb.out.cell 3
  go_enter Try.func18, Try.ntmps18
  go_wp2_with fail
  rw [← hW]
  clear hW
  refine (rsame_any _ _ _ p p Fa1.out Fb1.out).mono ?_
  rintro e W1 ⟨he, hb1⟩
  rw [decide_eq_true rfl] at he
  subst he
  clear ua0 ua1 ua2 ua3 ub0 ub1 ub2 ub3
  have HB := hid (bw_step HB.out hb1)
  have Fa1 := hid (Fa1.out.below hb1)
  have Fa2 := hid (Fa2.out.below hb1)
  have Fb1 := hid (Fb1.out.below hb1)
  have Fb2 := hid (Fb2.out.below hb1)
  have Pa := hid (Pa.out.below hb1)
  have Pb := hid (Pb.out.below hb1)
  clear hb1
  have ua0 := Pa.out.cell 0
  have ua1 := Pa.out.cell 1
  have ua2 := Pa.out.cell 2
  have ua3 := Pa.out.cell 3
  have ub0 := Pb.out.cell 0
  have ub1 := Pb.out.cell 1
  have ub2 := Pb.out.cell 2
  have ub3 := Pb.out.cell 3
  go_wp2_with fail
  refine (rsame_any _ _ _ q q Fa2.out Fb2.out).mono ?_
  rintro e W2 ⟨he, hb2⟩
  rw [decide_eq_true rfl] at he
  subst he
  clear ua0 ua1 ua2 ua3 ub0 ub1 ub2 ub3
  have HB := hid (bw_step HB.out hb2)
  have Fa1 := hid (Fa1.out.below hb2)
  have Fa2 := hid (Fa2.out.below hb2)
  have Fb1 := hid (Fb1.out.below hb2)
  have Fb2 := hid (Fb2.out.below hb2)
  have Pa := hid (Pa.out.below hb2)
  have Pb := hid (Pb.out.below hb2)
  clear hb2
  go_wp2
  go_ret
  exact ⟨rfl, HB.out⟩
theorem rsameR_any (w : World) (va vb : Value) (x : Rat) (ha : RatV w va x) (hb : RatV w vb x) :
    Calls Try.prog 18 #[va, vb] w fun e w' => e = .returned (.bool true) ∧ Below w.heap.size w w' := rsameP_any w va vb _ _ ha hb
end Go.Proofs.Ytijmjkkjopplbaa

