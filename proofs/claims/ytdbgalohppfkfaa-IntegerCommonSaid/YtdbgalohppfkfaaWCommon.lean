/- The law IntegerCommon: its walk. -/
import Derived.Test.YtdbgalohppfkfaaAwake
import Derived.Test.YtdbgalohppfkfaaGcd
import Derived.Test.YtdbgalohppfkfaaRDividesF
import Derived.Test.YtdbgalohppfkfaaRMul
import Derived.Test.YtdbgalohppfkfaaArg
namespace Go.Proofs.Ytdbgalohppfkfaa
open Go.RowKit
set_option linter.unusedVariables false
set_option maxRecDepth 100000

theorem cm_ge_zero {g : Int} (h : 0 ≤ g) : decide (0 ≤ cm g 0) = true := by
  rw [decide_eq_true_eq]
  rcases cm_form g 0 with ⟨h, e⟩ | ⟨h, e⟩ | ⟨h, e⟩ <;> omega
theorem common_left (x y : Int) : divB ((Int.gcd x y : Nat) : Int) x = true := by rw [divB_eq, decide_eq_true_eq]; exact Int.gcd_dvd_left ..
theorem common_right (x y : Int) : divB ((Int.gcd x y : Nat) : Int) y = true := by rw [divB_eq, decide_eq_true_eq]; exact Int.gcd_dvd_right ..
theorem common_factor (a b c : Int) : divB c ((Int.gcd (a * c) (b * c) : Nat) : Int) = true := by
  rw [divB_eq, decide_eq_true_eq]
  exact Int.dvd_coe_gcd (Int.dvd_mul_left a c) (Int.dvd_mul_left b c)

theorem integerCommon_long0 (w : World) (sa : Bool) (Aa : Option Addr) (na ca : Nat) (sb : Bool) (Ab : Option Addr) (nb cb : Nat) (sc : Bool) (Ac : Option Addr) (nc cc : Nat)  (ha : 6 < na) :
    Calls Try.prog 13 #[.agg #[.bool sa, .slice Aa na ca], .agg #[.bool sb, .slice Ab nb cb], .agg #[.bool sc, .slice Ac nc cc]] w fun e w' => e = .returned (.bool true) ∧ Below w.heap.size w w' := by
  have hda : decide ((6 : Int) < (na : Int)) = true := by rw [decide_eq_true_eq]; omega
  have HB := hid (Below.refl w.heap.size w)
  obtain ⟨W, hW⟩ : ∃ W, W = (((w.alloc (.cells #[.bool sa, .slice Aa na ca] 24)).alloc (.cells #[.bool sb, .slice Ab nb cb] 24)).alloc (.cells #[.bool sc, .slice Ac nc cc] 24)) := ⟨_, rfl⟩
  have hbb : Below w.heap.size w W := by rw [hW]; exact (bw_alloc (bw_alloc (bw_alloc (Below.refl _ _) _) _) _)
  have HB := hid (bw_step HB.out hbb)
  have Pa : Hid (Blk W (w.heap.size) 24 #[.bool sa, .slice Aa na ca]) := by
    rw [hW]
    have := ((Blk.new w 24 #[.bool sa, .slice Aa na ca]).below (bw_alloc (Below.refl _ _) (.cells #[.bool sb, .slice Ab nb cb] 24))).below (bw_alloc (Below.refl _ _) (.cells #[.bool sc, .slice Ac nc cc] 24))
    exact hid (by simpa only [World.size_alloc] using this)
  have Pb : Hid (Blk W (w.heap.size + 1) 24 #[.bool sb, .slice Ab nb cb]) := by
    rw [hW]
    have := (Blk.new (w.alloc (.cells #[.bool sa, .slice Aa na ca] 24)) 24 #[.bool sb, .slice Ab nb cb]).below (bw_alloc (Below.refl _ _) (.cells #[.bool sc, .slice Ac nc cc] 24))
    exact hid (by simpa only [World.size_alloc] using this)
  have Pc : Hid (Blk W (w.heap.size + 1 + 1) 24 #[.bool sc, .slice Ac nc cc]) := by
    rw [hW]
    have := Blk.new ((w.alloc (.cells #[.bool sa, .slice Aa na ca] 24)).alloc (.cells #[.bool sb, .slice Ab nb cb] 24)) 24 #[.bool sc, .slice Ac nc cc]
    exact hid (by simpa only [World.size_alloc] using this)
  clear hbb
  obtain ⟨k1, l1, f1, g1⟩ := id Pa.out.bx
  go_enter Try.func13, Try.ntmps13
  go_wp2_with fail
  rw [← hW]
  clear hW
  refine (awake_any _).mono ?_
  rintro e W2 ⟨rfl, hb2⟩
  clear k1 l1 f1 g1
  have HB := hid (bw_step HB.out hb2)
  have Pa := hid (Pa.out.below hb2)
  have Pb := hid (Pb.out.below hb2)
  have Pc := hid (Pc.out.below hb2)
  clear hb2
  go_wp2
  go_ret
  exact ⟨rfl, HB.out⟩
theorem integerCommon_long1 (w : World) (sa : Bool) (Aa : Option Addr) (na ca : Nat) (sb : Bool) (Ab : Option Addr) (nb cb : Nat) (sc : Bool) (Ac : Option Addr) (nc cc : Nat) (ha : na ≤ 6) (hb : 6 < nb) :
    Calls Try.prog 13 #[.agg #[.bool sa, .slice Aa na ca], .agg #[.bool sb, .slice Ab nb cb], .agg #[.bool sc, .slice Ac nc cc]] w fun e w' => e = .returned (.bool true) ∧ Below w.heap.size w w' := by
  have hda : decide ((6 : Int) < (na : Int)) = false := by rw [decide_eq_false_iff_not]; omega
  have hdb : decide ((6 : Int) < (nb : Int)) = true := by rw [decide_eq_true_eq]; omega
  have HB := hid (Below.refl w.heap.size w)
  obtain ⟨W, hW⟩ : ∃ W, W = (((w.alloc (.cells #[.bool sa, .slice Aa na ca] 24)).alloc (.cells #[.bool sb, .slice Ab nb cb] 24)).alloc (.cells #[.bool sc, .slice Ac nc cc] 24)) := ⟨_, rfl⟩
  have hbb : Below w.heap.size w W := by rw [hW]; exact (bw_alloc (bw_alloc (bw_alloc (Below.refl _ _) _) _) _)
  have HB := hid (bw_step HB.out hbb)
  have Pa : Hid (Blk W (w.heap.size) 24 #[.bool sa, .slice Aa na ca]) := by
    rw [hW]
    have := ((Blk.new w 24 #[.bool sa, .slice Aa na ca]).below (bw_alloc (Below.refl _ _) (.cells #[.bool sb, .slice Ab nb cb] 24))).below (bw_alloc (Below.refl _ _) (.cells #[.bool sc, .slice Ac nc cc] 24))
    exact hid (by simpa only [World.size_alloc] using this)
  have Pb : Hid (Blk W (w.heap.size + 1) 24 #[.bool sb, .slice Ab nb cb]) := by
    rw [hW]
    have := (Blk.new (w.alloc (.cells #[.bool sa, .slice Aa na ca] 24)) 24 #[.bool sb, .slice Ab nb cb]).below (bw_alloc (Below.refl _ _) (.cells #[.bool sc, .slice Ac nc cc] 24))
    exact hid (by simpa only [World.size_alloc] using this)
  have Pc : Hid (Blk W (w.heap.size + 1 + 1) 24 #[.bool sc, .slice Ac nc cc]) := by
    rw [hW]
    have := Blk.new ((w.alloc (.cells #[.bool sa, .slice Aa na ca] 24)).alloc (.cells #[.bool sb, .slice Ab nb cb] 24)) 24 #[.bool sc, .slice Ac nc cc]
    exact hid (by simpa only [World.size_alloc] using this)
  clear hbb
  obtain ⟨k1, l1, f1, g1⟩ := id Pa.out.bx
  obtain ⟨k2, l2, f2, g2⟩ := id Pb.out.bx
  go_enter Try.func13, Try.ntmps13
  go_wp2_with fail
  rw [← hW]
  clear hW
  refine (awake_any _).mono ?_
  rintro e W3 ⟨rfl, hb3⟩
  clear k1 l1 f1 g1 k2 l2 f2 g2
  have HB := hid (bw_step HB.out hb3)
  have Pa := hid (Pa.out.below hb3)
  have Pb := hid (Pb.out.below hb3)
  have Pc := hid (Pc.out.below hb3)
  clear hb3
  go_wp2
  go_ret
  exact ⟨rfl, HB.out⟩
theorem integerCommon_long2 (w : World) (sa : Bool) (Aa : Option Addr) (na ca : Nat) (sb : Bool) (Ab : Option Addr) (nb cb : Nat) (sc : Bool) (Ac : Option Addr) (nc cc : Nat) (ha : na ≤ 6) (hb : nb ≤ 6) (hc : 4 < nc) :
    Calls Try.prog 13 #[.agg #[.bool sa, .slice Aa na ca], .agg #[.bool sb, .slice Ab nb cb], .agg #[.bool sc, .slice Ac nc cc]] w fun e w' => e = .returned (.bool true) ∧ Below w.heap.size w w' := by
  have hda : decide ((6 : Int) < (na : Int)) = false := by rw [decide_eq_false_iff_not]; omega
  have hdb : decide ((6 : Int) < (nb : Int)) = false := by rw [decide_eq_false_iff_not]; omega
  have hdc : decide ((4 : Int) < (nc : Int)) = true := by rw [decide_eq_true_eq]; omega
  have HB := hid (Below.refl w.heap.size w)
  obtain ⟨W, hW⟩ : ∃ W, W = (((w.alloc (.cells #[.bool sa, .slice Aa na ca] 24)).alloc (.cells #[.bool sb, .slice Ab nb cb] 24)).alloc (.cells #[.bool sc, .slice Ac nc cc] 24)) := ⟨_, rfl⟩
  have hbb : Below w.heap.size w W := by rw [hW]; exact (bw_alloc (bw_alloc (bw_alloc (Below.refl _ _) _) _) _)
  have HB := hid (bw_step HB.out hbb)
  have Pa : Hid (Blk W (w.heap.size) 24 #[.bool sa, .slice Aa na ca]) := by
    rw [hW]
    have := ((Blk.new w 24 #[.bool sa, .slice Aa na ca]).below (bw_alloc (Below.refl _ _) (.cells #[.bool sb, .slice Ab nb cb] 24))).below (bw_alloc (Below.refl _ _) (.cells #[.bool sc, .slice Ac nc cc] 24))
    exact hid (by simpa only [World.size_alloc] using this)
  have Pb : Hid (Blk W (w.heap.size + 1) 24 #[.bool sb, .slice Ab nb cb]) := by
    rw [hW]
    have := (Blk.new (w.alloc (.cells #[.bool sa, .slice Aa na ca] 24)) 24 #[.bool sb, .slice Ab nb cb]).below (bw_alloc (Below.refl _ _) (.cells #[.bool sc, .slice Ac nc cc] 24))
    exact hid (by simpa only [World.size_alloc] using this)
  have Pc : Hid (Blk W (w.heap.size + 1 + 1) 24 #[.bool sc, .slice Ac nc cc]) := by
    rw [hW]
    have := Blk.new ((w.alloc (.cells #[.bool sa, .slice Aa na ca] 24)).alloc (.cells #[.bool sb, .slice Ab nb cb] 24)) 24 #[.bool sc, .slice Ac nc cc]
    exact hid (by simpa only [World.size_alloc] using this)
  clear hbb
  obtain ⟨k1, l1, f1, g1⟩ := id Pa.out.bx
  obtain ⟨k2, l2, f2, g2⟩ := id Pb.out.bx
  obtain ⟨k3, l3, f3, g3⟩ := id Pc.out.bx
  go_enter Try.func13, Try.ntmps13
  go_wp2_with fail
  rw [← hW]
  clear hW
  refine (awake_any _).mono ?_
  rintro e W4 ⟨rfl, hb4⟩
  clear k1 l1 f1 g1 k2 l2 f2 g2 k3 l3 f3 g3
  have HB := hid (bw_step HB.out hb4)
  have Pa := hid (Pa.out.below hb4)
  have Pb := hid (Pb.out.below hb4)
  have Pc := hid (Pc.out.below hb4)
  clear hb4
  go_wp2
  go_ret
  exact ⟨rfl, HB.out⟩
set_option maxHeartbeats 8000000 in
theorem integerCommon_short (w : World) (sa : Bool) (Aa : Option Addr) (na ca : Nat) (sb : Bool) (Ab : Option Addr) (nb cb : Nat) (sc : Bool) (Ac : Option Addr) (nc cc : Nat) (ha : na ≤ 6) (za : Int) (fa : IntA w (.agg #[.bool sa, .slice Aa na ca]) za 6) (hb : nb ≤ 6) (zb : Int) (fb : IntA w (.agg #[.bool sb, .slice Ab nb cb]) zb 6) (hc : nc ≤ 4) (zc : Int) (fc : IntA w (.agg #[.bool sc, .slice Ac nc cc]) zc 4) :
    Calls Try.prog 13 #[.agg #[.bool sa, .slice Aa na ca], .agg #[.bool sb, .slice Ab nb cb], .agg #[.bool sc, .slice Ac nc cc]] w fun e w' => e = .returned (.bool true) ∧ Below w.heap.size w w' := by
  have hda : decide ((6 : Int) < (na : Int)) = false := by rw [decide_eq_false_iff_not]; omega
  have Fa := hid fa
  have hdb : decide ((6 : Int) < (nb : Int)) = false := by rw [decide_eq_false_iff_not]; omega
  have Fb := hid fb
  have hdc : decide ((4 : Int) < (nc : Int)) = false := by rw [decide_eq_false_iff_not]; omega
  have Fc := hid fc
  clear fa fb fc
  have HB := hid (Below.refl w.heap.size w)
  obtain ⟨W, hW⟩ : ∃ W, W = (((w.alloc (.cells #[.bool sa, .slice Aa na ca] 24)).alloc (.cells #[.bool sb, .slice Ab nb cb] 24)).alloc (.cells #[.bool sc, .slice Ac nc cc] 24)) := ⟨_, rfl⟩
  have hbb : Below w.heap.size w W := by rw [hW]; exact (bw_alloc (bw_alloc (bw_alloc (Below.refl _ _) _) _) _)
  have HB := hid (bw_step HB.out hbb)
  have Fa := hid (Fa.out.below hbb)
  have Fb := hid (Fb.out.below hbb)
  have Fc := hid (Fc.out.below hbb)
  have Pa : Hid (Blk W (w.heap.size) 24 #[.bool sa, .slice Aa na ca]) := by
    rw [hW]
    have := ((Blk.new w 24 #[.bool sa, .slice Aa na ca]).below (bw_alloc (Below.refl _ _) (.cells #[.bool sb, .slice Ab nb cb] 24))).below (bw_alloc (Below.refl _ _) (.cells #[.bool sc, .slice Ac nc cc] 24))
    exact hid (by simpa only [World.size_alloc] using this)
  have Pb : Hid (Blk W (w.heap.size + 1) 24 #[.bool sb, .slice Ab nb cb]) := by
    rw [hW]
    have := (Blk.new (w.alloc (.cells #[.bool sa, .slice Aa na ca] 24)) 24 #[.bool sb, .slice Ab nb cb]).below (bw_alloc (Below.refl _ _) (.cells #[.bool sc, .slice Ac nc cc] 24))
    exact hid (by simpa only [World.size_alloc] using this)
  have Pc : Hid (Blk W (w.heap.size + 1 + 1) 24 #[.bool sc, .slice Ac nc cc]) := by
    rw [hW]
    have := Blk.new ((w.alloc (.cells #[.bool sa, .slice Aa na ca] 24)).alloc (.cells #[.bool sb, .slice Ab nb cb] 24)) 24 #[.bool sc, .slice Ac nc cc]
    exact hid (by simpa only [World.size_alloc] using this)
  clear hbb
  obtain ⟨k1, l1, f1, g1⟩ := id Pa.out.bx
  obtain ⟨k2, l2, f2, g2⟩ := id Pb.out.bx
  obtain ⟨k3, l3, f3, g3⟩ := id Pc.out.bx
  go_enter Try.func13, Try.ntmps13
  go_wp2_with fail
  rw [← hW]
  clear hW
  have SM4 : Hid (Sm 10 (za * zc)) := hid ((Fa.out.sm).times (Fc.out.sm) (by omega))
  have SM5 : Hid (Sm 10 (zb * zc)) := hid ((Fb.out.sm).times (Fc.out.sm) (by omega))
  have lt5_Pa := Pa.out.lt
  have lt5_Pb := Pb.out.lt
  have lt5_Pc := Pc.out.lt
  refine wp_region_each (by kernel_rfl) 10 57 rfl rfl (by kernel_rfl)
    [Fact.eq (.agg #[.bool sa, .slice Aa na ca]), Fact.eq (.agg #[.bool sc, .slice Ac nc cc]), Fact.int (za * zc), Fact.eq (.agg #[.bool sb, .slice Ab nb cb]), Fact.eq (.agg #[.bool sc, .slice Ac nc cc]), Fact.int (zb * zc), Fact.box (za * zc), Fact.box (zb * zc), Fact.top _, Fact.top _]
    [.val, .val, .val, .val, .val, .val, .alloc 8, .alloc 9, .fill 6, .fill 7]
    (fun w' => IntA w' (.agg #[.bool sa, .slice Aa na ca]) (za) 6 ∧ IntA w' (.agg #[.bool sb, .slice Ab nb cb]) (zb) 6 ∧ IntA w' (.agg #[.bool sc, .slice Ac nc cc]) (zc) 4 ∧ Blk w' (w.heap.size) 24 #[.bool sa, .slice Aa na ca] ∧ Blk w' (w.heap.size + 1) 24 #[.bool sb, .slice Ab nb cb] ∧ Blk w' (w.heap.size + 1 + 1) 24 #[.bool sc, .slice Ac nc cc] ∧ Below w.heap.size w w')
    (fun _ _ _ => True) [] (fun _ => 0) (by kernel_rfl)
    ⟨Fa.out, Fb.out, Fc.out, Pa.out, Pb.out, Pc.out, HB.out⟩
    (fun w1 w2 ⟨h0, h1, h2, h3, h4, h5, h6⟩ hb => ⟨h0.below hb, h1.below hb, h2.below hb, h3.below hb, h4.below hb, h5.below hb, bw_step h6 hb⟩)
    (fun w1 w2 g ⟨h0, h1, h2, h3, h4, h5, h6⟩ hg hn ho => by
      have hg' : W.heap.size ≤ g := hg.elim id (fun ⟨_, h, _⟩ => absurd h (Nat.not_lt_zero _))
      exact ⟨h0.only hn ho, h1.only hn ho, h2.only hn ho, h3.only ho (by have := Pa.out.lt; have := Pb.out.lt; have := Pc.out.lt; omega), h4.only ho (by have := Pa.out.lt; have := Pb.out.lt; have := Pc.out.lt; omega), h5.only ho (by have := Pa.out.lt; have := Pb.out.lt; have := Pc.out.lt; omega), below_only h6 ho (by have := Pa.out.lt; have := Pb.out.lt; have := Pc.out.lt; have := HB.out.size; omega)⟩)
    (fun l h => trivial) (fun l b w1 w2 h _ _ => trivial) (fun l b w1 w2 g h _ _ _ _ => trivial) (fun l h => by cases h) (fun l k h => by cases h) ?_ ?_
  · refine ⟨?_, ?_, ?_, ?_, ?_, ?_, ?_, ?_, ?_, ?_, trivial⟩ <;> intro L V a1 w1 hf hG hsz hφ hψ hL hdep hcl
    · obtain ⟨Fa_, Fb_, Fc_, Pa_, Pb_, Pc_, HB_⟩ := hG
      have e3 := old_slot hf 3 (by kernel_rfl)
      exact ob_load_int rfl e3 Pa_ rfl
    · obtain ⟨Fa_, Fb_, Fc_, Pa_, Pb_, Pc_, HB_⟩ := hG
      have e5 := old_slot hf 5 (by kernel_rfl)
      exact ob_load_int rfl e5 Pc_ rfl
    · obtain ⟨Fa_, Fb_, Fc_, Pa_, Pb_, Pc_, HB_⟩ := hG
      have d0 := dep_of hdep 0 (by kernel_rfl)
      have e27 := (new_slot hf 0 27 d0 (by kernel_rfl)).trans (show V 0 = .agg #[.bool sa, .slice Aa na ca] from hφ 0 d0)
      have d1 := dep_of hdep 1 (by kernel_rfl)
      have e28 := (new_slot hf 1 28 d1 (by kernel_rfl)).trans (show V 1 = .agg #[.bool sc, .slice Ac nc cc] from hφ 1 d1)
      refine ob_go rfl (vs := #[.agg #[.bool sa, .slice Aa na ca], .agg #[.bool sc, .slice Ac nc cc]]) (by simp only [List.map_toArray, List.map_cons, List.map_nil, e27, e28]) (by kernel_rfl) (rmul_any _ (.agg #[.bool sa, .slice Aa na ca]) (.agg #[.bool sc, .slice Ac nc cc]) za zc 6 4 Fa_ Fc_ (by omega) (by omega)) ?_
      rintro e w2 ⟨⟨v, rfl, hv⟩, hb⟩
      exact ⟨v, rfl, hb, hv⟩
    · obtain ⟨Fa_, Fb_, Fc_, Pa_, Pb_, Pc_, HB_⟩ := hG
      have e4 := old_slot hf 4 (by kernel_rfl)
      exact ob_load_int rfl e4 Pb_ rfl
    · obtain ⟨Fa_, Fb_, Fc_, Pa_, Pb_, Pc_, HB_⟩ := hG
      have e5 := old_slot hf 5 (by kernel_rfl)
      exact ob_load_int rfl e5 Pc_ rfl
    · obtain ⟨Fa_, Fb_, Fc_, Pa_, Pb_, Pc_, HB_⟩ := hG
      have d3 := dep_of hdep 3 (by kernel_rfl)
      have e30 := (new_slot hf 3 30 d3 (by kernel_rfl)).trans (show V 3 = .agg #[.bool sb, .slice Ab nb cb] from hφ 3 d3)
      have d4 := dep_of hdep 4 (by kernel_rfl)
      have e31 := (new_slot hf 4 31 d4 (by kernel_rfl)).trans (show V 4 = .agg #[.bool sc, .slice Ac nc cc] from hφ 4 d4)
      refine ob_go rfl (vs := #[.agg #[.bool sb, .slice Ab nb cb], .agg #[.bool sc, .slice Ac nc cc]]) (by simp only [List.map_toArray, List.map_cons, List.map_nil, e30, e31]) (by kernel_rfl) (rmul_any _ (.agg #[.bool sb, .slice Ab nb cb]) (.agg #[.bool sc, .slice Ac nc cc]) zb zc 6 4 Fb_ Fc_ (by omega) (by omega)) ?_
      rintro e w2 ⟨⟨v, rfl, hv⟩, hb⟩
      exact ⟨v, rfl, hb, hv⟩
    · obtain ⟨Fa_, Fb_, Fc_, Pa_, Pb_, Pc_, HB_⟩ := hG
      exact ob_alloc_int rfl hsz rfl
    · obtain ⟨Fa_, Fb_, Fc_, Pa_, Pb_, Pc_, HB_⟩ := hG
      exact ob_alloc_int rfl hsz rfl
    · obtain ⟨Fa_, Fb_, Fc_, Pa_, Pb_, Pc_, HB_⟩ := hG
      have d2 := dep_of hdep 2 (by kernel_rfl)
      have e29 := new_slot hf 2 29 d2 (by kernel_rfl)
      have p29 : IntV w1 (V 2) (za * zc) := hφ 2 d2
      have d6 := dep_of hdep 6 (by kernel_rfl)
      obtain ⟨g, h1, h2, h3⟩ := hφ 6 d6
      exact ob_fill_int rfl ((new_slot hf 6 7 d6 (by kernel_rfl)).trans h1) e29 h1 h2 h3 p29 rfl rfl
    · obtain ⟨Fa_, Fb_, Fc_, Pa_, Pb_, Pc_, HB_⟩ := hG
      have d5 := dep_of hdep 5 (by kernel_rfl)
      have e32 := new_slot hf 5 32 d5 (by kernel_rfl)
      have p32 : IntV w1 (V 5) (zb * zc) := hφ 5 d5
      have d7 := dep_of hdep 7 (by kernel_rfl)
      obtain ⟨g, h1, h2, h3⟩ := hφ 7 d7
      exact ob_fill_int rfl ((new_slot hf 7 8 d7 (by kernel_rfl)).trans h1) e32 h1 h2 h3 p32 rfl rfl
  · intro V W6 hG hsz6 hφ hψ hne
    have hlt6 : W.heap.size ≤ W6.heap.size := hsz6
    obtain ⟨Fa_, Fb_, Fc_, Pa_, Pb_, Pc_, HB_⟩ := hG
    have Fa := hid Fa_
    have Fb := hid Fb_
    have Fc := hid Fc_
    have Pa := hid Pa_
    have Pb := hid Pb_
    have Pc := hid Pc_
    have HB := hid HB_
    have y0 : V 0 = .agg #[.bool sa, .slice Aa na ca] := hφ 0 (by decide)
    have y1 : V 1 = .agg #[.bool sc, .slice Ac nc cc] := hφ 1 (by decide)
    have y3 : V 3 = .agg #[.bool sb, .slice Ab nb cb] := hφ 3 (by decide)
    have y4 : V 4 = .agg #[.bool sc, .slice Ac nc cc] := hφ 4 (by decide)
    obtain ⟨G6_6, y6, gb606, q606, A606, n606, c606, kb606, vb606⟩ := hφ 6 (by decide)
    have Xx := hid kb606
    have x := hid vb606
    clear kb606 vb606
    obtain ⟨G6_7, y7, gb607, q607, A607, n607, c607, kb607, vb607⟩ := hφ 7 (by decide)
    have Xy := hid kb607
    have y := hid vb607
    clear kb607 vb607
    have ne6_6_7 : G6_6 ≠ G6_7 := fun e => hne 6 7 (by decide) rfl rfl (by rw [y6, y7, e])
    simp only [puts, Act.put, List.setIfInBounds_toArray, List.set_cons_zero, List.set_cons_succ, y0, y1, y3, y4, y6, y7, ptr]
    clear hφ hψ hne y0 y1 y3 y4 y6 y7 Fa_ Fb_ Fc_ Pa_ Pb_ Pc_ HB_ hsz6
    clear Pa
    clear Pb
    clear Fa
    clear Fb
    obtain ⟨k7, l7, f7, g7⟩ := id Xx.out.bx
    obtain ⟨k8, l8, f8, g8⟩ := id Xy.out.bx
    go_wp2_with fail
    have SG := hid (Sm.gcd SM4.out SM5.out)
    refine (gcd_any _ _ _ (za * zc) (zb * zc) 10 (by decide) (x.out.arg SM4.out) (y.out.arg SM5.out)).mono ?_
    rintro e W9 ⟨⟨v, rfl, hv⟩, hb9⟩
    clear k1 l1 f1 g1 k2 l2 f2 g2 k3 l3 f3 g3 k7 l7 f7 g7 k8 l8 f8 g8
    have HB := hid (bw_step HB.out hb9)
    have Fc := hid (Fc.out.below hb9)
    have Pc := hid (Pc.out.below hb9)
    have Xx := hid (Xx.out.below hb9)
    have x := hid (x.out.below hb9)
    have Xy := hid (Xy.out.below hb9)
    have y := hid (y.out.below hb9)
    clear hb9
    obtain ⟨q91, A91, n91, c91, rfl⟩ := hv.form
    have g := hid hv
    clear hv
    have hbb := bw_alloc (Below.refl _ W9) (.cells #[.bool q91, .slice A91 n91 c91] 24)
    have Xg := Blk.new W9 24 #[.bool q91, .slice A91 n91 c91]
    have HB := hid (bw_step HB.out hbb)
    have Fc := hid (Fc.out.below hbb)
    have Pc := hid (Pc.out.below hbb)
    have Xx := hid (Xx.out.below hbb)
    have x := hid (x.out.below hbb)
    have Xy := hid (Xy.out.below hbb)
    have y := hid (y.out.below hbb)
    have g := hid (g.out.below hbb)
    have Xg := hid Xg
    clear hbb
    have hsg := cm_ge_zero (Int.natCast_nonneg (Int.gcd (za * zc) (zb * zc)))
    obtain ⟨k10, l10, f10, g10⟩ := id Xg.out.bx
    go_wp2_with fail
    refine (sign_any _ _ ((Int.gcd (za * zc) (zb * zc) : Nat) : Int) 10 (g.out.arg SG.out)).mono ?_
    rintro e W11 ⟨rfl, hb11⟩
    clear k10 l10 f10 g10
    have HB := hid (bw_step HB.out hb11)
    have Fc := hid (Fc.out.below hb11)
    have Pc := hid (Pc.out.below hb11)
    have Xx := hid (Xx.out.below hb11)
    have x := hid (x.out.below hb11)
    have Xy := hid (Xy.out.below hb11)
    have y := hid (y.out.below hb11)
    have g := hid (g.out.below hb11)
    have Xg := hid (Xg.out.below hb11)
    clear hb11
    obtain ⟨k12, l12, f12, g12⟩ := id Xg.out.bx
    obtain ⟨k13, l13, f13, g13⟩ := id Xx.out.bx
    go_wp2_with fail
    refine (rdivides_any _ _ _ ((Int.gcd (za * zc) (zb * zc) : Nat) : Int) (za * zc) 10 (by decide) (g.out.arg SG.out) (x.out.arg SM4.out)).mono ?_
    rintro e W14 ⟨he, hb14⟩
    rw [common_left _ _] at he
    subst he
    clear k12 l12 f12 g12 k13 l13 f13 g13
    have HB := hid (bw_step HB.out hb14)
    have Fc := hid (Fc.out.below hb14)
    have Pc := hid (Pc.out.below hb14)
    have Xx := hid (Xx.out.below hb14)
    have x := hid (x.out.below hb14)
    have Xy := hid (Xy.out.below hb14)
    have y := hid (y.out.below hb14)
    have g := hid (g.out.below hb14)
    have Xg := hid (Xg.out.below hb14)
    clear hb14
    obtain ⟨k15, l15, f15, g15⟩ := id Xg.out.bx
    obtain ⟨k16, l16, f16, g16⟩ := id Xy.out.bx
    go_wp2_with fail
    refine (rdivides_any _ _ _ ((Int.gcd (za * zc) (zb * zc) : Nat) : Int) (zb * zc) 10 (by decide) (g.out.arg SG.out) (y.out.arg SM5.out)).mono ?_
    rintro e W17 ⟨he, hb17⟩
    rw [common_right _ _] at he
    subst he
    clear k15 l15 f15 g15 k16 l16 f16 g16
    have HB := hid (bw_step HB.out hb17)
    have Fc := hid (Fc.out.below hb17)
    have Pc := hid (Pc.out.below hb17)
    have Xx := hid (Xx.out.below hb17)
    have x := hid (x.out.below hb17)
    have Xy := hid (Xy.out.below hb17)
    have y := hid (y.out.below hb17)
    have g := hid (g.out.below hb17)
    have Xg := hid (Xg.out.below hb17)
    clear hb17
    obtain ⟨k18, l18, f18, g18⟩ := id Pc.out.bx
    obtain ⟨k19, l19, f19, g19⟩ := id Xg.out.bx
    go_wp2_with fail
    refine (rdivides_any _ _ _ zc ((Int.gcd (za * zc) (zb * zc) : Nat) : Int) 10 (by decide) (Fc.out.mono (by decide)) (g.out.arg SG.out)).mono ?_
    rintro e W20 ⟨he, hb20⟩
    rw [common_factor _ _ _] at he
    subst he
    clear k18 l18 f18 g18 k19 l19 f19 g19
    have HB := hid (bw_step HB.out hb20)
    have Fc := hid (Fc.out.below hb20)
    have Pc := hid (Pc.out.below hb20)
    have Xx := hid (Xx.out.below hb20)
    have x := hid (x.out.below hb20)
    have Xy := hid (Xy.out.below hb20)
    have y := hid (y.out.below hb20)
    have g := hid (g.out.below hb20)
    have Xg := hid (Xg.out.below hb20)
    clear hb20
    go_wp2_with fail
    refine (awake_any _).mono ?_
    rintro e W21 ⟨rfl, hb21⟩
    have HB := hid (bw_step HB.out hb21)
    have Fc := hid (Fc.out.below hb21)
    have Pc := hid (Pc.out.below hb21)
    have Xx := hid (Xx.out.below hb21)
    have x := hid (x.out.below hb21)
    have Xy := hid (Xy.out.below hb21)
    have y := hid (y.out.below hb21)
    have g := hid (g.out.below hb21)
    have Xg := hid (Xg.out.below hb21)
    clear hb21
    go_wp2
    go_ret
    exact ⟨rfl, HB.out⟩
theorem integerCommon_walk (w : World) (va : Value) (ha : ArgI w va) (vb : Value) (hb : ArgI w vb) (vc : Value) (hc : ArgI w vc) :
    Calls Try.prog 13 #[va, vb, vc] w fun e w' => e = .returned (.bool true) ∧ Below w.heap.size w w' := by
  obtain ⟨sa, Aa, na, ca, rfl, _, _⟩ := id ha
  obtain ⟨sb, Ab, nb, cb, rfl, _, _⟩ := id hb
  obtain ⟨sc, Ac, nc, cc, rfl, _, _⟩ := id hc
  rcases ha.short 6 (by decide) with ka | ⟨ka, za, fa⟩
  · exact integerCommon_long0 w sa Aa na ca sb Ab nb cb sc Ac nc cc ka
  rcases hb.short 6 (by decide) with kb | ⟨kb, zb, fb⟩
  · exact integerCommon_long1 w sa Aa na ca sb Ab nb cb sc Ac nc cc ka kb
  rcases hc.short 4 (by decide) with kc | ⟨kc, zc, fc⟩
  · exact integerCommon_long2 w sa Aa na ca sb Ab nb cb sc Ac nc cc ka kb kc
  exact integerCommon_short w sa Aa na ca sb Ab nb cb sc Ac nc cc ka za fa kb zb fb kc zc fc
end Go.Proofs.Ytdbgalohppfkfaa
