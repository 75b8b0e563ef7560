/- A part of the proof of the laws of rationals: FreshRat. -/
import Derived.Test.YtijmjkkjopplbaaPae
import Derived.Test.YtijmjkkjopplbaaPam
import Derived.Test.YtijmjkkjopplbaaPal
import Derived.Test.YtijmjkkjopplbaaPab
import Derived.Test.YtijmjkkjopplbaaPad
import Derived.Test.YtijmjkkjopplbaaPkRationalNormalizesb
import Derived.Test.YtijmjkkjopplbaaPac
import Derived.Test.YtijmjkkjopplbaaPkRationalNormalizesa
import Derived.Test.YtijmjkkjopplbaaPkRationalNormalizesd
import Derived.Test.YtijmjkkjopplbaaPao
import Derived.Test.YtijmjkkjopplbaaPaa
import Derived.Test.YtijmjkkjopplbaaPai
import Derived.Test.YtijmjkkjopplbaaPap
import Derived.Test.YtijmjkkjopplbaaPan
import Derived.Test.YtijmjkkjopplbaaPkRationalNormalizesc
import Derived.Test.YtijmjkkjopplbaaPak
namespace Go.Proofs.Ytijmjkkjopplbaa
open Go.RowKit
set_option linter.unusedVariables false
set_option maxRecDepth 100000

theorem FrS.only {w w' : World} {B g : Nat} {v : Value} (h : FrS w B v) (hn : NumFree w g) (ho : Only w w' g) : FrS w' B v := fun A n c e h0 => by
  obtain ⟨b, o, ys, h1, h2, h3, h4⟩ := h A n c e h0
  refine ⟨b, o, ys, h1, h2, ?_, h4⟩
  have hne : b ≠ g := fun e => by
    subst e
    exact hn.1 0 _ (h3.cell h4)
  unfold Own at h3 ⊢
  rw [ho.block b hne]; exact h3
/-- A canonical pair whose limbs lie in blocks from B on. -/
def PairF (w : World) (B : Nat) (v : Value) (a b : Int) : Prop := ∃ s1 A1 n1 c1 s2 A2 n2 c2, v = .agg #[.bool s1, .slice A1 n1 c1, .bool s2, .slice A2 n2 c2] ∧ IntV w (.agg #[.bool s1, .slice A1 n1 c1]) a ∧ IntV w (.agg #[.bool s2, .slice A2 n2 c2]) b ∧ FrS w B (.slice A1 n1 c1) ∧ FrS w B (.slice A2 n2 c2)
theorem PairF.mono {w : World} {B C : Nat} {v : Value} {a b : Int} (h : PairF w B v a b) (hc : C ≤ B) : PairF w C v a b := let ⟨s1, A1, n1, c1, s2, A2, n2, c2, h1, h2, h3, h4, h5⟩ := h; ⟨s1, A1, n1, c1, s2, A2, n2, c2, h1, h2, h3, h4.mono hc, h5.mono hc⟩

set_option maxHeartbeats 8000000 in
theorem rat_fr (w : World) (va : Value) (pa qa : Int) (n : Nat) (ha : Pair w va (.A pa n) (.A qa n)) (hq : 0 < qa) (hn : n ≤ 1000000) :
    Calls Try.prog 51 #[va] w fun e w' => (∃ u, e = .returned u ∧ PairF w' w.heap.size u (Rat.divInt pa qa).num ((Rat.divInt pa qa).den : Int)) ∧ Below w.heap.size w w' := by
  have G0 := hid (show ((Int.gcd pa qa : Nat) : Int) ≠ 0 by have := gcd_pos' (p := pa) hq; omega)
  have HQ := hid hq
  clear hq
  obtain ⟨sa1, Aa1, na1, ca1, sa2, Aa2, na2, ca2, rfl, h1, h2⟩ := ha.form
  have Fa1 : Hid (IntA w (.agg #[.bool sa1, .slice Aa1 na1 ca1]) pa n) := hid h1
  have Fa2 : Hid (IntA w (.agg #[.bool sa2, .slice Aa2 na2 ca2]) qa n) := hid h2
  have Sa1 := hid Fa1.out.sm
  have Sa2 := hid Fa2.out.sm
  clear h1 h2 ha
  have HB := hid (Below.refl w.heap.size w)
  obtain ⟨W, hW⟩ : ∃ W, W = ((w.alloc (.cells #[.bool sa1, .slice Aa1 na1 ca1, .bool sa2, .slice Aa2 na2 ca2] 56)).alloc (.cells #[.bool false, .slice none 0 0, .bool false, .slice none 0 0] 26)) := ⟨_, rfl⟩
  have hbb : Below w.heap.size w W := by rw [hW]; exact (bw_alloc (bw_alloc (Below.refl _ _) _) _)
  have HB := hid (bw_step HB.out hbb)
  have Fa1 := hid (Fa1.out.below hbb)
  have Fa2 := hid (Fa2.out.below hbb)
  have Pa : Hid (Blk W (w.heap.size) 56 #[.bool sa1, .slice Aa1 na1 ca1, .bool sa2, .slice Aa2 na2 ca2]) := by
    rw [hW]
    have := (Blk.new w 56 #[.bool sa1, .slice Aa1 na1 ca1, .bool sa2, .slice Aa2 na2 ca2]).below (bw_alloc (Below.refl _ _) (.cells #[.bool false, .slice none 0 0, .bool false, .slice none 0 0] 26))
    exact hid (by simpa only [World.size_alloc] using this)
  have R0 : Hid (Blk W (w.heap.size + 1) 26 #[.bool false, .slice none 0 0, .bool false, .slice none 0 0]) := by
    rw [hW]
    have := Blk.new (w.alloc (.cells #[.bool sa1, .slice Aa1 na1 ca1, .bool sa2, .slice Aa2 na2 ca2] 56)) 26 #[.bool false, .slice none 0 0, .bool false, .slice none 0 0]
    exact hid (by simpa only [World.size_alloc] using this)
  clear hbb
  have ua0 := Pa.out.cell 0
  have ua1 := Pa.out.cell 1
  have ua2 := Pa.out.cell 2
  have ua3 := Pa.out.cell 3
  go_enter Try.func51, Try.ntmps51
  go_wp2_with fail
  rw [← hW]
  clear hW
  refine (gcd_any _ _ _ pa qa n hn Fa1.out Fa2.out).mono ?_
  rintro e W1 ⟨⟨v, rfl, hv⟩, hb1⟩
  have HB := hid (bw_step HB.out hb1)
  have Fa1 := hid (Fa1.out.below hb1)
  have Fa2 := hid (Fa2.out.below hb1)
  have Pa := hid (Pa.out.below hb1)
  have R0 := hid (R0.out.below hb1)
  clear hb1
  have lq1_Pa := Pa.out.lt
  have lq1_R0 := R0.out.lt
  have lq1 := HB.out.size
  obtain ⟨q11, A11, n11, c11, rfl⟩ := hv.form
  have g := hid hv
  clear hv
  have hbb := bw_alloc (Below.refl _ W1) (.cells #[.bool q11, .slice A11 n11 c11] 24)
  have Xg := Blk.new W1 24 #[.bool q11, .slice A11 n11 c11]
  have HB := hid (bw_step HB.out hbb)
  have Fa1 := hid (Fa1.out.below hbb)
  have Fa2 := hid (Fa2.out.below hbb)
  have Pa := hid (Pa.out.below hbb)
  have R0 := hid (R0.out.below hbb)
  have g := hid (g.out.below hbb)
  have Xg := hid Xg
  clear hbb
  clear ua0 ua1 ua2 ua3
  have ua0 := Pa.out.cell 0
  have ua1 := Pa.out.cell 1
  have ua2 := Pa.out.cell 2
  have ua3 := Pa.out.cell 3
  obtain ⟨k2, l2, f2, g2⟩ := id Xg.out.bx
  go_wp2_with fail
  refine (divMod_fr _ _ _ pa ((Int.gcd pa qa : Nat) : Int) n n Fa1.out (g.out.arg (Sa1.out.gcd Sa2.out)) (by omega) G0.out).mono ?_
  rintro e W3 ⟨⟨u1, u2, rfl, hu1, hu2, hf⟩, hb3⟩
  have FIa := hid (FrI.mono hf HB.out.size)
  clear hf
  clear k2 l2 f2 g2
  have HB := hid (bw_step HB.out hb3)
  have Fa1 := hid (Fa1.out.below hb3)
  have Fa2 := hid (Fa2.out.below hb3)
  have Pa := hid (Pa.out.below hb3)
  have R0 := hid (R0.out.below hb3)
  have g := hid (g.out.below hb3)
  have Xg := hid (Xg.out.below hb3)
  clear hb3
  clear ua0 ua1 ua2 ua3
  have lq3_Pa := Pa.out.lt
  have lq3_R0 := R0.out.lt
  have lq3_Xg := Xg.out.lt
  obtain ⟨q31, A31, n31, c31, rfl⟩ := hu1.form
  obtain ⟨q32, A32, n32, c32, rfl⟩ := hu2.form
  have Va := hid hu1
  have FIa := hid (FrI.s (q := q31) FIa.out)
  clear hu1 hu2
  have hbb := bw_two W3 (.cells #[.bool q31, .slice A31 n31 c31] 24) (.cells #[.bool q32, .slice A32 n32 c32] 24)
  have Xa : Blk ((W3.alloc (.cells #[.bool q31, .slice A31 n31 c31] 24)).alloc (.cells #[.bool q32, .slice A32 n32 c32] 24)) (W3.heap.size) 24 #[.bool q31, .slice A31 n31 c31] := (Blk.new _ _ _).below (bw_alloc (Below.refl _ _) _)
  have Xb : Blk ((W3.alloc (.cells #[.bool q31, .slice A31 n31 c31] 24)).alloc (.cells #[.bool q32, .slice A32 n32 c32] 24)) (W3.heap.size + 1) 24 #[.bool q32, .slice A32 n32 c32] := by have := Blk.new (W3.alloc (.cells #[.bool q31, .slice A31 n31 c31] 24)) 24 #[.bool q32, .slice A32 n32 c32]; rwa [World.size_alloc] at this
  have HB := hid (bw_step HB.out hbb)
  have Fa1 := hid (Fa1.out.below hbb)
  have Fa2 := hid (Fa2.out.below hbb)
  have Pa := hid (Pa.out.below hbb)
  have R0 := hid (R0.out.below hbb)
  have g := hid (g.out.below hbb)
  have Xg := hid (Xg.out.below hbb)
  have FIa := hid (FIa.out.below hbb)
  have Va := hid (Va.out.below hbb)
  have Xa := hid Xa
  have Xb := hid Xb
  clear hbb
  have ua0 := Pa.out.cell 0
  have ua1 := Pa.out.cell 1
  have ua2 := Pa.out.cell 2
  have ua3 := Pa.out.cell 3
  obtain ⟨k4, l4, f4, g4⟩ := id Xg.out.bx
  go_wp2_with fail
  refine (divMod_fr _ _ _ qa ((Int.gcd pa qa : Nat) : Int) n n Fa2.out (g.out.arg (Sa1.out.gcd Sa2.out)) (by omega) G0.out).mono ?_
  rintro e W5 ⟨⟨u1, u2, rfl, hu1, hu2, hf⟩, hb5⟩
  have FIc := hid (FrI.mono hf HB.out.size)
  clear hf
  clear k4 l4 f4 g4
  have HB := hid (bw_step HB.out hb5)
  have Fa1 := hid (Fa1.out.below hb5)
  have Fa2 := hid (Fa2.out.below hb5)
  have Pa := hid (Pa.out.below hb5)
  have R0 := hid (R0.out.below hb5)
  have g := hid (g.out.below hb5)
  have Xg := hid (Xg.out.below hb5)
  have FIa := hid (FIa.out.below hb5)
  have Va := hid (Va.out.below hb5)
  have Xa := hid (Xa.out.below hb5)
  have Xb := hid (Xb.out.below hb5)
  clear hb5
  clear ua0 ua1 ua2 ua3
  have lq5_Pa := Pa.out.lt
  have lq5_R0 := R0.out.lt
  have lq5_Xg := Xg.out.lt
  have lq5_Xa := Xa.out.lt
  have lq5_Xb := Xb.out.lt
  obtain ⟨q51, A51, n51, c51, rfl⟩ := hu1.form
  obtain ⟨q52, A52, n52, c52, rfl⟩ := hu2.form
  have Vc := hid hu1
  have FIc := hid (FrI.s (q := q51) FIc.out)
  clear hu1 hu2
  have hbb := bw_two W5 (.cells #[.bool q51, .slice A51 n51 c51] 24) (.cells #[.bool q52, .slice A52 n52 c52] 24)
  have Xc : Blk ((W5.alloc (.cells #[.bool q51, .slice A51 n51 c51] 24)).alloc (.cells #[.bool q52, .slice A52 n52 c52] 24)) (W5.heap.size) 24 #[.bool q51, .slice A51 n51 c51] := (Blk.new _ _ _).below (bw_alloc (Below.refl _ _) _)
  have Xd : Blk ((W5.alloc (.cells #[.bool q51, .slice A51 n51 c51] 24)).alloc (.cells #[.bool q52, .slice A52 n52 c52] 24)) (W5.heap.size + 1) 24 #[.bool q52, .slice A52 n52 c52] := by have := Blk.new (W5.alloc (.cells #[.bool q51, .slice A51 n51 c51] 24)) 24 #[.bool q52, .slice A52 n52 c52]; rwa [World.size_alloc] at this
  have HB := hid (bw_step HB.out hbb)
  have Fa1 := hid (Fa1.out.below hbb)
  have Fa2 := hid (Fa2.out.below hbb)
  have Pa := hid (Pa.out.below hbb)
  have R0 := hid (R0.out.below hbb)
  have g := hid (g.out.below hbb)
  have Xg := hid (Xg.out.below hbb)
  have FIa := hid (FIa.out.below hbb)
  have Va := hid (Va.out.below hbb)
  have Xa := hid (Xa.out.below hbb)
  have Xb := hid (Xb.out.below hbb)
  have FIc := hid (FIc.out.below hbb)
  have Vc := hid (Vc.out.below hbb)
  have Xc := hid Xc
  have Xd := hid Xd
  clear hbb
  go_wp2_with (with_reducible refine halt_at 31 rfl ?_)
  unfold Halted
  generalize ((W5.alloc (.cells #[.bool q51, .slice A51 n51 c51] 24)).alloc (.cells #[.bool q52, .slice A52 n52 c52] 24)) = WG at *
  obtain ⟨k6, l6, f6, g6⟩ := id Xa.out.bx
  obtain ⟨k7, l7, f7, g7⟩ := id Xc.out.bx
  have r0 := R0.out.cell 0
  have r1 := R0.out.cell 1
  have r2 := R0.out.cell 2
  have r3 := R0.out.cell 3
  have f0 := R0.out.free 0
  have f1 := R0.out.free 1
  have f2 := R0.out.free 2
  have f3 := R0.out.free 3
  go_wp2
  refine bodyPost_ret (v := .agg #[.bool q31, .slice A31 n31 c31, .bool q51, .slice A51 n51 c51]) (by simp [results, Try.results51, go_sem, r0, r1, r2, r3]) rfl ⟨⟨_, rfl, _, _, _, _, _, _, _, _, rfl, ?_, ?_, ?_, ?_⟩, ?_⟩
  all_goals have hf := R0.out.numFree (noNum4' _ _ _ _ _ _ _ _) (fun e => absurd e Rne)
  · rw [rat_num HQ.out]; exact IntV.only Va.out hf (only_four _ _ _ _ _ _)
  · rw [rat_den HQ.out]; exact IntV.only Vc.out hf (only_four _ _ _ _ _ _)
  · exact FrS.only FIa.out hf (only_four _ _ _ _ _ _)
  · exact FrS.only FIc.out hf (only_four _ _ _ _ _ _)
  · exact below_only HB.out (only_four _ _ _ _ _ _) (by omega)
set_option maxHeartbeats 8000000 in
theorem normalizeR_fr (w : World) (va : Value) (x : Rat) (n : Nat) (ha : RatA w va x n) (h1n : 1 ≤ n) (hn : n ≤ 300000) :
    Calls Try.prog 17 #[va] w fun e w' => (∃ u, e = .returned u ∧ PairF w' w.heap.size u x.num (x.den : Int)) ∧ Below w.heap.size w w' := by
  obtain ⟨pa, qa, ha, rfl⟩ := ha
  have HA := hid ha
  obtain ⟨sa1, Aa1, na1, ca1, sa2, Aa2, na2, ca2, rfl, h1, h2⟩ := ha.form
  have Fa1 : Hid (IntA w (.agg #[.bool sa1, .slice Aa1 na1 ca1]) pa n) := hid h1
  have Fa2 : Hid (IntA w (.agg #[.bool sa2, .slice Aa2 na2 ca2]) qa n) := hid h2
  have Sa1 := hid Fa1.out.sm
  have Sa2 := hid Fa2.out.sm
  clear h1 h2 ha
  have HB := hid (Below.refl w.heap.size w)
  obtain ⟨W, hW⟩ : ∃ W, W = ((w.alloc (.cells #[.bool sa1, .slice Aa1 na1 ca1, .bool sa2, .slice Aa2 na2 ca2] 26)).alloc (.cells #[.bool false, .slice none 0 0, .bool false, .slice none 0 0] 26)) := ⟨_, rfl⟩
  have hbb : Below w.heap.size w W := by rw [hW]; exact (bw_alloc (bw_alloc (Below.refl _ _) _) _)
  have HB := hid (bw_step HB.out hbb)
  have Fa1 := hid (Fa1.out.below hbb)
  have Fa2 := hid (Fa2.out.below hbb)
  have HA := hid (HA.out.below hbb)
  have Pa : Hid (Blk W (w.heap.size) 26 #[.bool sa1, .slice Aa1 na1 ca1, .bool sa2, .slice Aa2 na2 ca2]) := by
    rw [hW]
    have := (Blk.new w 26 #[.bool sa1, .slice Aa1 na1 ca1, .bool sa2, .slice Aa2 na2 ca2]).below (bw_alloc (Below.refl _ _) (.cells #[.bool false, .slice none 0 0, .bool false, .slice none 0 0] 26))
    exact hid (by simpa only [World.size_alloc] using this)
  have R0 : Hid (Blk W (w.heap.size + 1) 26 #[.bool false, .slice none 0 0, .bool false, .slice none 0 0]) := by
    rw [hW]
    have := Blk.new (w.alloc (.cells #[.bool sa1, .slice Aa1 na1 ca1, .bool sa2, .slice Aa2 na2 ca2] 26)) 26 #[.bool false, .slice none 0 0, .bool false, .slice none 0 0]
    exact hid (by simpa only [World.size_alloc] using this)
  clear hbb
  have ua0 := Pa.out.cell 0
  have ua1 := Pa.out.cell 1
  have ua2 := Pa.out.cell 2
  have ua3 := Pa.out.cell 3
  go_enter Try.func17, Try.ntmps17
  go_wp2_with fail
  rw [← hW]
  clear hW
  refine (of_any _ _ pa qa n HA.out h1n (by omega)).mono ?_
  rintro e W1 ⟨⟨u, rfl, hu⟩, hb1⟩
  have HU := hid hu
  clear hu
  have HB := hid (bw_step HB.out hb1)
  have Fa1 := hid (Fa1.out.below hb1)
  have Fa2 := hid (Fa2.out.below hb1)
  have HA := hid (HA.out.below hb1)
  have Pa := hid (Pa.out.below hb1)
  have R0 := hid (R0.out.below hb1)
  clear hb1
  clear ua0 ua1 ua2 ua3
  go_wp2_with fail
  refine (rat_fr _ _ (ofN pa qa) (ofD pa qa) n HU.out (ofD_pos pa qa) (by omega)).mono ?_
  rintro e W2 ⟨⟨x, rfl, hx⟩, hb2⟩
  obtain ⟨s1, A1, n1, c1, s2, A2, n2, c2, rfl, v1, v2, f1, f2⟩ := hx
  rw [of_val] at v1 v2
  have V1 := hid v1
  have V2 := hid v2
  have G1 := hid (f1.mono HB.out.size)
  have G2 := hid (f2.mono HB.out.size)
  clear v1 v2 f1 f2
  have HB := hid (bw_step HB.out hb2)
  have Fa1 := hid (Fa1.out.below hb2)
  have Fa2 := hid (Fa2.out.below hb2)
  have HA := hid (HA.out.below hb2)
  have Pa := hid (Pa.out.below hb2)
  have R0 := hid (R0.out.below hb2)
  have HU := hid (HU.out.below hb2)
  clear hb2
  have r0 := R0.out.cell 0
  have r1 := R0.out.cell 1
  have r2 := R0.out.cell 2
  have r3 := R0.out.cell 3
  have f0 := R0.out.free 0
  have f1 := R0.out.free 1
  have f2 := R0.out.free 2
  have f3 := R0.out.free 3
  go_wp2
  refine bodyPost_ret (v := .agg #[.bool s1, .slice A1 n1 c1, .bool s2, .slice A2 n2 c2]) (by simp [results, Try.results17, go_sem, r0, r1, r2, r3]) rfl ⟨⟨_, rfl, _, _, _, _, _, _, _, _, rfl, ?_, ?_, ?_, ?_⟩, ?_⟩
  all_goals have hf := R0.out.numFree (noNum4' _ _ _ _ _ _ _ _) (fun e => absurd e Rne)
  · exact IntV.only V1.out hf (only_four _ _ _ _ _ _)
  · exact IntV.only V2.out hf (only_four _ _ _ _ _ _)
  · exact FrS.only G1.out hf (only_four _ _ _ _ _ _)
  · exact FrS.only G2.out hf (only_four _ _ _ _ _ _)
  · exact below_only HB.out (only_four _ _ _ _ _ _) (by omega)
end Go.Proofs.Ytijmjkkjopplbaa

