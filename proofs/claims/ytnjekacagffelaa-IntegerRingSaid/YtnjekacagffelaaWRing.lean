/- The law IntegerRing: its walk. -/
import Derived.Test.YtnjekacagffelaaAwake
import Derived.Test.YtnjekacagffelaaMul
import Derived.Test.YtnjekacagffelaaSub
import Derived.Test.YtnjekacagffelaaSm
import Derived.Test.YtnjekacagffelaaArg
import Derived.Test.YtnjekacagffelaaExec
namespace Go.Proofs.Ytnjekacagffelaa
open Go.RowKit
set_option linter.unusedVariables false
set_option maxRecDepth 100000

theorem cm_add (a b c : Int) : cm (a + c) (b + c) = cm a b := by
  unfold cm
  by_cases h : a < b
  · rw [if_pos h, if_pos (by omega)]
  · by_cases h2 : a = b
    · rw [if_neg h, if_neg (by omega), if_pos h2, if_pos (by omega)]
    · rw [if_neg h, if_neg (by omega), if_neg h2, if_neg (by omega)]
theorem cm_sub (a b : Int) : cm (a - b) 0 = cm a b := by
  have := cm_add (a - b) 0 b
  rw [← this, Int.sub_add_cancel, Int.zero_add]

theorem integerRing_long0 (w : World) (sa : Bool) (Aa : Option Addr) (na ca : Nat) (sb : Bool) (Ab : Option Addr) (nb cb : Nat) (sc : Bool) (Ac : Option Addr) (nc cc : Nat)  (ha : 40 < na) :
    Calls Try.prog 6 #[.agg #[.bool sa, .slice Aa na ca], .agg #[.bool sb, .slice Ab nb cb], .agg #[.bool sc, .slice Ac nc cc]] w fun e w' => e = .returned (.bool true) ∧ Below w.heap.size w w' := by
  have hda : decide ((40 : Int) < (na : Int)) = true := by rw [decide_eq_true_eq]; omega
  have HB := hid (Below.refl w.heap.size w)
  obtain ⟨W, hW⟩ : ∃ W, W = (((w.alloc (.cells #[.bool sa, .slice Aa na ca] 24)).alloc (.cells #[.bool sb, .slice Ab nb cb] 24)).alloc (.cells #[.bool sc, .slice Ac nc cc] 24)) := ⟨_, rfl⟩
  have hbb : Below w.heap.size w W := by rw [hW]; exact (bw_alloc (bw_alloc (bw_alloc (Below.refl _ _) _) _) _)
  have HB := hid (bw_step HB.out hbb)
  have Pa : Hid (Blk W (w.heap.size) 24 #[.bool sa, .slice Aa na ca]) := by
    rw [hW]
    have := ((Blk.new w 24 #[.bool sa, .slice Aa na ca]).below (bw_alloc (Below.refl _ _) (.cells #[.bool sb, .slice Ab nb cb] 24))).below (bw_alloc (Below.refl _ _) (.cells #[.bool sc, .slice Ac nc cc] 24))
    exact hid (by simpa only [World.size_alloc] using this)
  have Pb : Hid (Blk W (w.heap.size + 1) 24 #[.bool sb, .slice Ab nb cb]) := by
    rw [hW]
    have := (Blk.new (w.alloc (.cells #[.bool sa, .slice Aa na ca] 24)) 24 #[.bool sb, .slice Ab nb cb]).below (bw_alloc (Below.refl _ _) (.cells #[.bool sc, .slice Ac nc cc] 24))
    exact hid (by simpa only [World.size_alloc] using this)
  have Pc : Hid (Blk W (w.heap.size + 1 + 1) 24 #[.bool sc, .slice Ac nc cc]) := by
    rw [hW]
    have := Blk.new ((w.alloc (.cells #[.bool sa, .slice Aa na ca] 24)).alloc (.cells #[.bool sb, .slice Ab nb cb] 24)) 24 #[.bool sc, .slice Ac nc cc]
    exact hid (by simpa only [World.size_alloc] using this)
  clear hbb
  obtain ⟨k1, l1, f1, g1⟩ := id Pa.out.bx
  go_enter Try.func6, Try.ntmps6
  go_wp2_with fail
  rw [← hW]
  clear hW
  refine (long_any _ sa Aa na ca).mono ?_
  rintro e W2 ⟨he, hb2⟩
  rw [hda] at he
  subst he
  clear k1 l1 f1 g1
  have HB := hid (bw_step HB.out hb2)
  have Pa := hid (Pa.out.below hb2)
  have Pb := hid (Pb.out.below hb2)
  have Pc := hid (Pc.out.below hb2)
  clear hb2
  go_wp2_with fail
  refine (awake_any _).mono ?_
  rintro e W3 ⟨rfl, hb3⟩
  have HB := hid (bw_step HB.out hb3)
  have Pa := hid (Pa.out.below hb3)
  have Pb := hid (Pb.out.below hb3)
  have Pc := hid (Pc.out.below hb3)
  clear hb3
  go_wp2
  go_ret
  exact ⟨rfl, HB.out⟩
theorem integerRing_long1 (w : World) (sa : Bool) (Aa : Option Addr) (na ca : Nat) (sb : Bool) (Ab : Option Addr) (nb cb : Nat) (sc : Bool) (Ac : Option Addr) (nc cc : Nat) (ha : na ≤ 40) (hb : 40 < nb) :
    Calls Try.prog 6 #[.agg #[.bool sa, .slice Aa na ca], .agg #[.bool sb, .slice Ab nb cb], .agg #[.bool sc, .slice Ac nc cc]] w fun e w' => e = .returned (.bool true) ∧ Below w.heap.size w w' := by
  have hda : decide ((40 : Int) < (na : Int)) = false := by rw [decide_eq_false_iff_not]; omega
  have hdb : decide ((40 : Int) < (nb : Int)) = true := by rw [decide_eq_true_eq]; omega
  have HB := hid (Below.refl w.heap.size w)
  obtain ⟨W, hW⟩ : ∃ W, W = (((w.alloc (.cells #[.bool sa, .slice Aa na ca] 24)).alloc (.cells #[.bool sb, .slice Ab nb cb] 24)).alloc (.cells #[.bool sc, .slice Ac nc cc] 24)) := ⟨_, rfl⟩
  have hbb : Below w.heap.size w W := by rw [hW]; exact (bw_alloc (bw_alloc (bw_alloc (Below.refl _ _) _) _) _)
  have HB := hid (bw_step HB.out hbb)
  have Pa : Hid (Blk W (w.heap.size) 24 #[.bool sa, .slice Aa na ca]) := by
    rw [hW]
    have := ((Blk.new w 24 #[.bool sa, .slice Aa na ca]).below (bw_alloc (Below.refl _ _) (.cells #[.bool sb, .slice Ab nb cb] 24))).below (bw_alloc (Below.refl _ _) (.cells #[.bool sc, .slice Ac nc cc] 24))
    exact hid (by simpa only [World.size_alloc] using this)
  have Pb : Hid (Blk W (w.heap.size + 1) 24 #[.bool sb, .slice Ab nb cb]) := by
    rw [hW]
    have := (Blk.new (w.alloc (.cells #[.bool sa, .slice Aa na ca] 24)) 24 #[.bool sb, .slice Ab nb cb]).below (bw_alloc (Below.refl _ _) (.cells #[.bool sc, .slice Ac nc cc] 24))
    exact hid (by simpa only [World.size_alloc] using this)
  have Pc : Hid (Blk W (w.heap.size + 1 + 1) 24 #[.bool sc, .slice Ac nc cc]) := by
    rw [hW]
    have := Blk.new ((w.alloc (.cells #[.bool sa, .slice Aa na ca] 24)).alloc (.cells #[.bool sb, .slice Ab nb cb] 24)) 24 #[.bool sc, .slice Ac nc cc]
    exact hid (by simpa only [World.size_alloc] using this)
  clear hbb
  obtain ⟨k1, l1, f1, g1⟩ := id Pa.out.bx
  go_enter Try.func6, Try.ntmps6
  go_wp2_with fail
  rw [← hW]
  clear hW
  refine (long_any _ sa Aa na ca).mono ?_
  rintro e W2 ⟨he, hb2⟩
  rw [hda] at he
  subst he
  clear k1 l1 f1 g1
  have HB := hid (bw_step HB.out hb2)
  have Pa := hid (Pa.out.below hb2)
  have Pb := hid (Pb.out.below hb2)
  have Pc := hid (Pc.out.below hb2)
  clear hb2
  obtain ⟨k3, l3, f3, g3⟩ := id Pb.out.bx
  go_wp2_with fail
  refine (long_any _ sb Ab nb cb).mono ?_
  rintro e W4 ⟨he, hb4⟩
  rw [hdb] at he
  subst he
  clear k3 l3 f3 g3
  have HB := hid (bw_step HB.out hb4)
  have Pa := hid (Pa.out.below hb4)
  have Pb := hid (Pb.out.below hb4)
  have Pc := hid (Pc.out.below hb4)
  clear hb4
  go_wp2_with fail
  refine (awake_any _).mono ?_
  rintro e W5 ⟨rfl, hb5⟩
  have HB := hid (bw_step HB.out hb5)
  have Pa := hid (Pa.out.below hb5)
  have Pb := hid (Pb.out.below hb5)
  have Pc := hid (Pc.out.below hb5)
  clear hb5
  go_wp2
  go_ret
  exact ⟨rfl, HB.out⟩
theorem integerRing_long2 (w : World) (sa : Bool) (Aa : Option Addr) (na ca : Nat) (sb : Bool) (Ab : Option Addr) (nb cb : Nat) (sc : Bool) (Ac : Option Addr) (nc cc : Nat) (ha : na ≤ 40) (hb : nb ≤ 40) (hc : 40 < nc) :
    Calls Try.prog 6 #[.agg #[.bool sa, .slice Aa na ca], .agg #[.bool sb, .slice Ab nb cb], .agg #[.bool sc, .slice Ac nc cc]] w fun e w' => e = .returned (.bool true) ∧ Below w.heap.size w w' := by
  have hda : decide ((40 : Int) < (na : Int)) = false := by rw [decide_eq_false_iff_not]; omega
  have hdb : decide ((40 : Int) < (nb : Int)) = false := by rw [decide_eq_false_iff_not]; omega
  have hdc : decide ((40 : Int) < (nc : Int)) = true := by rw [decide_eq_true_eq]; omega
  have HB := hid (Below.refl w.heap.size w)
  obtain ⟨W, hW⟩ : ∃ W, W = (((w.alloc (.cells #[.bool sa, .slice Aa na ca] 24)).alloc (.cells #[.bool sb, .slice Ab nb cb] 24)).alloc (.cells #[.bool sc, .slice Ac nc cc] 24)) := ⟨_, rfl⟩
  have hbb : Below w.heap.size w W := by rw [hW]; exact (bw_alloc (bw_alloc (bw_alloc (Below.refl _ _) _) _) _)
  have HB := hid (bw_step HB.out hbb)
  have Pa : Hid (Blk W (w.heap.size) 24 #[.bool sa, .slice Aa na ca]) := by
    rw [hW]
    have := ((Blk.new w 24 #[.bool sa, .slice Aa na ca]).below (bw_alloc (Below.refl _ _) (.cells #[.bool sb, .slice Ab nb cb] 24))).below (bw_alloc (Below.refl _ _) (.cells #[.bool sc, .slice Ac nc cc] 24))
    exact hid (by simpa only [World.size_alloc] using this)
  have Pb : Hid (Blk W (w.heap.size + 1) 24 #[.bool sb, .slice Ab nb cb]) := by
    rw [hW]
    have := (Blk.new (w.alloc (.cells #[.bool sa, .slice Aa na ca] 24)) 24 #[.bool sb, .slice Ab nb cb]).below (bw_alloc (Below.refl _ _) (.cells #[.bool sc, .slice Ac nc cc] 24))
    exact hid (by simpa only [World.size_alloc] using this)
  have Pc : Hid (Blk W (w.heap.size + 1 + 1) 24 #[.bool sc, .slice Ac nc cc]) := by
    rw [hW]
    have := Blk.new ((w.alloc (.cells #[.bool sa, .slice Aa na ca] 24)).alloc (.cells #[.bool sb, .slice Ab nb cb] 24)) 24 #[.bool sc, .slice Ac nc cc]
    exact hid (by simpa only [World.size_alloc] using this)
  clear hbb
  obtain ⟨k1, l1, f1, g1⟩ := id Pa.out.bx
  go_enter Try.func6, Try.ntmps6
  go_wp2_with fail
  rw [← hW]
  clear hW
  refine (long_any _ sa Aa na ca).mono ?_
  rintro e W2 ⟨he, hb2⟩
  rw [hda] at he
  subst he
  clear k1 l1 f1 g1
  have HB := hid (bw_step HB.out hb2)
  have Pa := hid (Pa.out.below hb2)
  have Pb := hid (Pb.out.below hb2)
  have Pc := hid (Pc.out.below hb2)
  clear hb2
  obtain ⟨k3, l3, f3, g3⟩ := id Pb.out.bx
  go_wp2_with fail
  refine (long_any _ sb Ab nb cb).mono ?_
  rintro e W4 ⟨he, hb4⟩
  rw [hdb] at he
  subst he
  clear k3 l3 f3 g3
  have HB := hid (bw_step HB.out hb4)
  have Pa := hid (Pa.out.below hb4)
  have Pb := hid (Pb.out.below hb4)
  have Pc := hid (Pc.out.below hb4)
  clear hb4
  obtain ⟨k5, l5, f5, g5⟩ := id Pc.out.bx
  go_wp2_with fail
  refine (long_any _ sc Ac nc cc).mono ?_
  rintro e W6 ⟨he, hb6⟩
  rw [hdc] at he
  subst he
  clear k5 l5 f5 g5
  have HB := hid (bw_step HB.out hb6)
  have Pa := hid (Pa.out.below hb6)
  have Pb := hid (Pb.out.below hb6)
  have Pc := hid (Pc.out.below hb6)
  clear hb6
  go_wp2_with fail
  refine (awake_any _).mono ?_
  rintro e W7 ⟨rfl, hb7⟩
  have HB := hid (bw_step HB.out hb7)
  have Pa := hid (Pa.out.below hb7)
  have Pb := hid (Pb.out.below hb7)
  have Pc := hid (Pc.out.below hb7)
  clear hb7
  go_wp2
  go_ret
  exact ⟨rfl, HB.out⟩
set_option maxHeartbeats 8000000 in
theorem integerRing_short (w : World) (sa : Bool) (Aa : Option Addr) (na ca : Nat) (sb : Bool) (Ab : Option Addr) (nb cb : Nat) (sc : Bool) (Ac : Option Addr) (nc cc : Nat) (ha : na ≤ 40) (za : Int) (fa : IntA w (.agg #[.bool sa, .slice Aa na ca]) za 40) (hb : nb ≤ 40) (zb : Int) (fb : IntA w (.agg #[.bool sb, .slice Ab nb cb]) zb 40) (hc : nc ≤ 40) (zc : Int) (fc : IntA w (.agg #[.bool sc, .slice Ac nc cc]) zc 40) :
    Calls Try.prog 6 #[.agg #[.bool sa, .slice Aa na ca], .agg #[.bool sb, .slice Ab nb cb], .agg #[.bool sc, .slice Ac nc cc]] w fun e w' => e = .returned (.bool true) ∧ Below w.heap.size w w' := by
  have hda : decide ((40 : Int) < (na : Int)) = false := by rw [decide_eq_false_iff_not]; omega
  have Fa := hid fa
  have hdb : decide ((40 : Int) < (nb : Int)) = false := by rw [decide_eq_false_iff_not]; omega
  have Fb := hid fb
  have hdc : decide ((40 : Int) < (nc : Int)) = false := by rw [decide_eq_false_iff_not]; omega
  have Fc := hid fc
  clear fa fb fc
  have HB := hid (Below.refl w.heap.size w)
  obtain ⟨W, hW⟩ : ∃ W, W = (((w.alloc (.cells #[.bool sa, .slice Aa na ca] 24)).alloc (.cells #[.bool sb, .slice Ab nb cb] 24)).alloc (.cells #[.bool sc, .slice Ac nc cc] 24)) := ⟨_, rfl⟩
  have hbb : Below w.heap.size w W := by rw [hW]; exact (bw_alloc (bw_alloc (bw_alloc (Below.refl _ _) _) _) _)
  have HB := hid (bw_step HB.out hbb)
  have Fa := hid (Fa.out.below hbb)
  have Fb := hid (Fb.out.below hbb)
  have Fc := hid (Fc.out.below hbb)
  have Pa : Hid (Blk W (w.heap.size) 24 #[.bool sa, .slice Aa na ca]) := by
    rw [hW]
    have := ((Blk.new w 24 #[.bool sa, .slice Aa na ca]).below (bw_alloc (Below.refl _ _) (.cells #[.bool sb, .slice Ab nb cb] 24))).below (bw_alloc (Below.refl _ _) (.cells #[.bool sc, .slice Ac nc cc] 24))
    exact hid (by simpa only [World.size_alloc] using this)
  have Pb : Hid (Blk W (w.heap.size + 1) 24 #[.bool sb, .slice Ab nb cb]) := by
    rw [hW]
    have := (Blk.new (w.alloc (.cells #[.bool sa, .slice Aa na ca] 24)) 24 #[.bool sb, .slice Ab nb cb]).below (bw_alloc (Below.refl _ _) (.cells #[.bool sc, .slice Ac nc cc] 24))
    exact hid (by simpa only [World.size_alloc] using this)
  have Pc : Hid (Blk W (w.heap.size + 1 + 1) 24 #[.bool sc, .slice Ac nc cc]) := by
    rw [hW]
    have := Blk.new ((w.alloc (.cells #[.bool sa, .slice Aa na ca] 24)).alloc (.cells #[.bool sb, .slice Ab nb cb] 24)) 24 #[.bool sc, .slice Ac nc cc]
    exact hid (by simpa only [World.size_alloc] using this)
  clear hbb
  obtain ⟨k1, l1, f1, g1⟩ := id Pa.out.bx
  go_enter Try.func6, Try.ntmps6
  go_wp2_with fail
  rw [← hW]
  clear hW
  refine (long_any _ sa Aa na ca).mono ?_
  rintro e W2 ⟨he, hb2⟩
  rw [hda] at he
  subst he
  clear k1 l1 f1 g1
  have HB := hid (bw_step HB.out hb2)
  have Fa := hid (Fa.out.below hb2)
  have Fb := hid (Fb.out.below hb2)
  have Fc := hid (Fc.out.below hb2)
  have Pa := hid (Pa.out.below hb2)
  have Pb := hid (Pb.out.below hb2)
  have Pc := hid (Pc.out.below hb2)
  clear hb2
  obtain ⟨k3, l3, f3, g3⟩ := id Pb.out.bx
  go_wp2_with fail
  refine (long_any _ sb Ab nb cb).mono ?_
  rintro e W4 ⟨he, hb4⟩
  rw [hdb] at he
  subst he
  clear k3 l3 f3 g3
  have HB := hid (bw_step HB.out hb4)
  have Fa := hid (Fa.out.below hb4)
  have Fb := hid (Fb.out.below hb4)
  have Fc := hid (Fc.out.below hb4)
  have Pa := hid (Pa.out.below hb4)
  have Pb := hid (Pb.out.below hb4)
  have Pc := hid (Pc.out.below hb4)
  clear hb4
  obtain ⟨k5, l5, f5, g5⟩ := id Pc.out.bx
  go_wp2_with fail
  refine (long_any _ sc Ac nc cc).mono ?_
  rintro e W6 ⟨he, hb6⟩
  rw [hdc] at he
  subst he
  clear k5 l5 f5 g5
  have HB := hid (bw_step HB.out hb6)
  have Fa := hid (Fa.out.below hb6)
  have Fb := hid (Fb.out.below hb6)
  have Fc := hid (Fc.out.below hb6)
  have Pa := hid (Pa.out.below hb6)
  have Pb := hid (Pb.out.below hb6)
  have Pc := hid (Pc.out.below hb6)
  clear hb6
  go_wp2_with fail
  have SM7 : Hid (Sm 41 (za + zb)) := hid ((Fa.out.sm).plus (Fb.out.sm) (by omega) (by omega))
  have SM8 : Hid (Sm 42 ((za + zb) + zc)) := hid ((SM7.out).plus (Fc.out.sm) (by omega) (by omega))
  have lt8_Pa := Pa.out.lt
  have lt8_Pb := Pb.out.lt
  have lt8_Pc := Pc.out.lt
  refine wp_region_each (by kernel_rfl) 7 92 rfl rfl (by kernel_rfl)
    [Fact.eq (.agg #[.bool sa, .slice Aa na ca]), Fact.eq (.agg #[.bool sb, .slice Ab nb cb]), Fact.int (za + zb), Fact.eq (.agg #[.bool sc, .slice Ac nc cc]), Fact.int ((za + zb) + zc), Fact.box ((za + zb) + zc), Fact.top _]
    [.val, .val, .val, .val, .val, .alloc 6, .fill 5]
    (fun w' => IntA w' (.agg #[.bool sa, .slice Aa na ca]) (za) 40 ∧ IntA w' (.agg #[.bool sb, .slice Ab nb cb]) (zb) 40 ∧ IntA w' (.agg #[.bool sc, .slice Ac nc cc]) (zc) 40 ∧ Blk w' (w.heap.size) 24 #[.bool sa, .slice Aa na ca] ∧ Blk w' (w.heap.size + 1) 24 #[.bool sb, .slice Ab nb cb] ∧ Blk w' (w.heap.size + 1 + 1) 24 #[.bool sc, .slice Ac nc cc] ∧ Below w.heap.size w w')
    (fun _ _ _ => True) [] (fun _ => 0) (by kernel_rfl)
    ⟨Fa.out, Fb.out, Fc.out, Pa.out, Pb.out, Pc.out, HB.out⟩
    (fun w1 w2 ⟨h0, h1, h2, h3, h4, h5, h6⟩ hb => ⟨h0.below hb, h1.below hb, h2.below hb, h3.below hb, h4.below hb, h5.below hb, bw_step h6 hb⟩)
    (fun w1 w2 g ⟨h0, h1, h2, h3, h4, h5, h6⟩ hg hn ho => by
      have hg' : W6.heap.size ≤ g := hg.elim id (fun ⟨_, h, _⟩ => absurd h (Nat.not_lt_zero _))
      exact ⟨h0.only hn ho, h1.only hn ho, h2.only hn ho, h3.only ho (by have := Pa.out.lt; have := Pb.out.lt; have := Pc.out.lt; omega), h4.only ho (by have := Pa.out.lt; have := Pb.out.lt; have := Pc.out.lt; omega), h5.only ho (by have := Pa.out.lt; have := Pb.out.lt; have := Pc.out.lt; omega), below_only h6 ho (by have := Pa.out.lt; have := Pb.out.lt; have := Pc.out.lt; have := HB.out.size; omega)⟩)
    (fun l h => trivial) (fun l b w1 w2 h _ _ => trivial) (fun l b w1 w2 g h _ _ _ _ => trivial) (fun l h => by cases h) (fun l k h => by cases h) ?_ ?_
  · refine ⟨?_, ?_, ?_, ?_, ?_, ?_, ?_, trivial⟩ <;> intro L V a1 w1 hf hG hsz hφ hψ hL hdep hcl
    · obtain ⟨Fa_, Fb_, Fc_, Pa_, Pb_, Pc_, HB_⟩ := hG
      have e3 := old_slot hf 3 (by kernel_rfl)
      exact ob_load_int rfl e3 Pa_ rfl
    · obtain ⟨Fa_, Fb_, Fc_, Pa_, Pb_, Pc_, HB_⟩ := hG
      have e4 := old_slot hf 4 (by kernel_rfl)
      exact ob_load_int rfl e4 Pb_ rfl
    · obtain ⟨Fa_, Fb_, Fc_, Pa_, Pb_, Pc_, HB_⟩ := hG
      have d0 := dep_of hdep 0 (by kernel_rfl)
      have e22 := (new_slot hf 0 22 d0 (by kernel_rfl)).trans (show V 0 = .agg #[.bool sa, .slice Aa na ca] from hφ 0 d0)
      have d1 := dep_of hdep 1 (by kernel_rfl)
      have e23 := (new_slot hf 1 23 d1 (by kernel_rfl)).trans (show V 1 = .agg #[.bool sb, .slice Ab nb cb] from hφ 1 d1)
      refine ob_go rfl (vs := #[.agg #[.bool sa, .slice Aa na ca], .agg #[.bool sb, .slice Ab nb cb]]) (by simp only [List.map_toArray, List.map_cons, List.map_nil, e22, e23]) (by kernel_rfl) (add_any _ (.agg #[.bool sa, .slice Aa na ca]) (.agg #[.bool sb, .slice Ab nb cb]) za zb 40 40 Fa_ Fb_ (by omega) (by omega)) ?_
      rintro e w2 ⟨⟨v, rfl, hv⟩, hb⟩
      exact ⟨v, rfl, hb, hv⟩
    · obtain ⟨Fa_, Fb_, Fc_, Pa_, Pb_, Pc_, HB_⟩ := hG
      have e5 := old_slot hf 5 (by kernel_rfl)
      exact ob_load_int rfl e5 Pc_ rfl
    · obtain ⟨Fa_, Fb_, Fc_, Pa_, Pb_, Pc_, HB_⟩ := hG
      have d2 := dep_of hdep 2 (by kernel_rfl)
      have e24 := new_slot hf 2 24 d2 (by kernel_rfl)
      have p24 : IntV w1 (V 2) (za + zb) := hφ 2 d2
      have d3 := dep_of hdep 3 (by kernel_rfl)
      have e25 := (new_slot hf 3 25 d3 (by kernel_rfl)).trans (show V 3 = .agg #[.bool sc, .slice Ac nc cc] from hφ 3 d3)
      refine ob_go rfl (vs := #[V 2, .agg #[.bool sc, .slice Ac nc cc]]) (by simp only [List.map_toArray, List.map_cons, List.map_nil, e24, e25]) (by kernel_rfl) (add_any _ (V 2) (.agg #[.bool sc, .slice Ac nc cc]) (za + zb) zc 41 40 (p24.arg SM7.out) Fc_ (by omega) (by omega)) ?_
      rintro e w2 ⟨⟨v, rfl, hv⟩, hb⟩
      exact ⟨v, rfl, hb, hv⟩
    · obtain ⟨Fa_, Fb_, Fc_, Pa_, Pb_, Pc_, HB_⟩ := hG
      exact ob_alloc_int rfl hsz rfl
    · obtain ⟨Fa_, Fb_, Fc_, Pa_, Pb_, Pc_, HB_⟩ := hG
      have d4 := dep_of hdep 4 (by kernel_rfl)
      have e26 := new_slot hf 4 26 d4 (by kernel_rfl)
      have p26 : IntV w1 (V 4) ((za + zb) + zc) := hφ 4 d4
      have d5 := dep_of hdep 5 (by kernel_rfl)
      obtain ⟨g, h1, h2, h3⟩ := hφ 5 d5
      exact ob_fill_int rfl ((new_slot hf 5 7 d5 (by kernel_rfl)).trans h1) e26 h1 h2 h3 p26 rfl rfl
  · intro V W9 hG hsz9 hφ hψ hne
    have hlt9 : W6.heap.size ≤ W9.heap.size := hsz9
    obtain ⟨Fa_, Fb_, Fc_, Pa_, Pb_, Pc_, HB_⟩ := hG
    have Fa := hid Fa_
    have Fb := hid Fb_
    have Fc := hid Fc_
    have Pa := hid Pa_
    have Pb := hid Pb_
    have Pc := hid Pc_
    have HB := hid HB_
    have y0 : V 0 = .agg #[.bool sa, .slice Aa na ca] := hφ 0 (by decide)
    have y1 : V 1 = .agg #[.bool sb, .slice Ab nb cb] := hφ 1 (by decide)
    have y3 : V 3 = .agg #[.bool sc, .slice Ac nc cc] := hφ 3 (by decide)
    obtain ⟨G9_5, y5, gb905, q905, A905, n905, c905, kb905, vb905⟩ := hφ 5 (by decide)
    have Xsu := hid kb905
    have su := hid vb905
    clear kb905 vb905
    simp only [puts, Act.put, List.setIfInBounds_toArray, List.set_cons_zero, List.set_cons_succ, y0, y1, y3, y5, ptr]
    clear hφ hψ hne y0 y1 y3 y5 Fa_ Fb_ Fc_ Pa_ Pb_ Pc_ HB_ hsz9
    go_wp2_with fail
    have SM10 : Hid (Sm 80 (za * zb)) := hid ((Fa.out.sm).times (Fb.out.sm) (by omega))
    have SM11 : Hid (Sm 120 ((za * zb) * zc)) := hid ((SM10.out).times (Fc.out.sm) (by omega))
    have lt11_Pa := Pa.out.lt
    have lt11_Pb := Pb.out.lt
    have lt11_Pc := Pc.out.lt
    have lt11_Xsu := Xsu.out.lt
    refine wp_region_each (by kernel_rfl) 7 92 rfl rfl (by kernel_rfl)
      [Fact.eq (.agg #[.bool sa, .slice Aa na ca]), Fact.eq (.agg #[.bool sb, .slice Ab nb cb]), Fact.int (za * zb), Fact.eq (.agg #[.bool sc, .slice Ac nc cc]), Fact.int ((za * zb) * zc), Fact.box ((za * zb) * zc), Fact.top _]
      [.val, .val, .val, .val, .val, .alloc 6, .fill 5]
      (fun w' => IntA w' (.agg #[.bool sa, .slice Aa na ca]) (za) 40 ∧ IntA w' (.agg #[.bool sb, .slice Ab nb cb]) (zb) 40 ∧ IntA w' (.agg #[.bool sc, .slice Ac nc cc]) (zc) 40 ∧ Blk w' (w.heap.size) 24 #[.bool sa, .slice Aa na ca] ∧ Blk w' (w.heap.size + 1) 24 #[.bool sb, .slice Ab nb cb] ∧ Blk w' (w.heap.size + 1 + 1) 24 #[.bool sc, .slice Ac nc cc] ∧ Blk w' (G9_5) 24 #[.bool q905, .slice A905 n905 c905] ∧ IntV w' (.agg #[.bool q905, .slice A905 n905 c905]) (((za + zb) + zc)) ∧ Below w.heap.size w w')
      (fun _ _ _ => True) [] (fun _ => 0) (by kernel_rfl)
      ⟨Fa.out, Fb.out, Fc.out, Pa.out, Pb.out, Pc.out, Xsu.out, su.out, HB.out⟩
      (fun w1 w2 ⟨h0, h1, h2, h3, h4, h5, h6, h7, h8⟩ hb => ⟨h0.below hb, h1.below hb, h2.below hb, h3.below hb, h4.below hb, h5.below hb, h6.below hb, h7.below hb, bw_step h8 hb⟩)
      (fun w1 w2 g ⟨h0, h1, h2, h3, h4, h5, h6, h7, h8⟩ hg hn ho => by
        have hg' : W9.heap.size ≤ g := hg.elim id (fun ⟨_, h, _⟩ => absurd h (Nat.not_lt_zero _))
        exact ⟨h0.only hn ho, h1.only hn ho, h2.only hn ho, h3.only ho (by have := Pa.out.lt; have := Pb.out.lt; have := Pc.out.lt; have := Xsu.out.lt; omega), h4.only ho (by have := Pa.out.lt; have := Pb.out.lt; have := Pc.out.lt; have := Xsu.out.lt; omega), h5.only ho (by have := Pa.out.lt; have := Pb.out.lt; have := Pc.out.lt; have := Xsu.out.lt; omega), h6.only ho (by have := Pa.out.lt; have := Pb.out.lt; have := Pc.out.lt; have := Xsu.out.lt; omega), h7.only hn ho, below_only h8 ho (by have := Pa.out.lt; have := Pb.out.lt; have := Pc.out.lt; have := Xsu.out.lt; have := HB.out.size; omega)⟩)
      (fun l h => trivial) (fun l b w1 w2 h _ _ => trivial) (fun l b w1 w2 g h _ _ _ _ => trivial) (fun l h => by cases h) (fun l k h => by cases h) ?_ ?_
    · refine ⟨?_, ?_, ?_, ?_, ?_, ?_, ?_, trivial⟩ <;> intro L V a1 w1 hf hG hsz hφ hψ hL hdep hcl
      · obtain ⟨Fa_, Fb_, Fc_, Pa_, Pb_, Pc_, Xsu_, su_, HB_⟩ := hG
        have e3 := old_slot hf 3 (by kernel_rfl)
        exact ob_load_int rfl e3 Pa_ rfl
      · obtain ⟨Fa_, Fb_, Fc_, Pa_, Pb_, Pc_, Xsu_, su_, HB_⟩ := hG
        have e4 := old_slot hf 4 (by kernel_rfl)
        exact ob_load_int rfl e4 Pb_ rfl
      · obtain ⟨Fa_, Fb_, Fc_, Pa_, Pb_, Pc_, Xsu_, su_, HB_⟩ := hG
        have d0 := dep_of hdep 0 (by kernel_rfl)
        have e27 := (new_slot hf 0 27 d0 (by kernel_rfl)).trans (show V 0 = .agg #[.bool sa, .slice Aa na ca] from hφ 0 d0)
        have d1 := dep_of hdep 1 (by kernel_rfl)
        have e28 := (new_slot hf 1 28 d1 (by kernel_rfl)).trans (show V 1 = .agg #[.bool sb, .slice Ab nb cb] from hφ 1 d1)
        refine ob_go rfl (vs := #[.agg #[.bool sa, .slice Aa na ca], .agg #[.bool sb, .slice Ab nb cb]]) (by simp only [List.map_toArray, List.map_cons, List.map_nil, e27, e28]) (by kernel_rfl) (mul_any _ (.agg #[.bool sa, .slice Aa na ca]) (.agg #[.bool sb, .slice Ab nb cb]) za zb 40 40 Fa_ Fb_ (by omega) (by omega)) ?_
        rintro e w2 ⟨⟨v, rfl, hv⟩, hb⟩
        exact ⟨v, rfl, hb, hv⟩
      · obtain ⟨Fa_, Fb_, Fc_, Pa_, Pb_, Pc_, Xsu_, su_, HB_⟩ := hG
        have e5 := old_slot hf 5 (by kernel_rfl)
        exact ob_load_int rfl e5 Pc_ rfl
      · obtain ⟨Fa_, Fb_, Fc_, Pa_, Pb_, Pc_, Xsu_, su_, HB_⟩ := hG
        have d2 := dep_of hdep 2 (by kernel_rfl)
        have e29 := new_slot hf 2 29 d2 (by kernel_rfl)
        have p29 : IntV w1 (V 2) (za * zb) := hφ 2 d2
        have d3 := dep_of hdep 3 (by kernel_rfl)
        have e30 := (new_slot hf 3 30 d3 (by kernel_rfl)).trans (show V 3 = .agg #[.bool sc, .slice Ac nc cc] from hφ 3 d3)
        refine ob_go rfl (vs := #[V 2, .agg #[.bool sc, .slice Ac nc cc]]) (by simp only [List.map_toArray, List.map_cons, List.map_nil, e29, e30]) (by kernel_rfl) (mul_any _ (V 2) (.agg #[.bool sc, .slice Ac nc cc]) (za * zb) zc 80 40 (p29.arg SM10.out) Fc_ (by omega) (by omega)) ?_
        rintro e w2 ⟨⟨v, rfl, hv⟩, hb⟩
        exact ⟨v, rfl, hb, hv⟩
      · obtain ⟨Fa_, Fb_, Fc_, Pa_, Pb_, Pc_, Xsu_, su_, HB_⟩ := hG
        exact ob_alloc_int rfl hsz rfl
      · obtain ⟨Fa_, Fb_, Fc_, Pa_, Pb_, Pc_, Xsu_, su_, HB_⟩ := hG
        have d4 := dep_of hdep 4 (by kernel_rfl)
        have e31 := new_slot hf 4 31 d4 (by kernel_rfl)
        have p31 : IntV w1 (V 4) ((za * zb) * zc) := hφ 4 d4
        have d5 := dep_of hdep 5 (by kernel_rfl)
        obtain ⟨g, h1, h2, h3⟩ := hφ 5 d5
        exact ob_fill_int rfl ((new_slot hf 5 8 d5 (by kernel_rfl)).trans h1) e31 h1 h2 h3 p31 rfl rfl
    · intro V W12 hG hsz12 hφ hψ hne
      have hlt12 : W9.heap.size ≤ W12.heap.size := hsz12
      obtain ⟨Fa_, Fb_, Fc_, Pa_, Pb_, Pc_, Xsu_, su_, HB_⟩ := hG
      have Fa := hid Fa_
      have Fb := hid Fb_
      have Fc := hid Fc_
      have Pa := hid Pa_
      have Pb := hid Pb_
      have Pc := hid Pc_
      have Xsu := hid Xsu_
      have su := hid su_
      have HB := hid HB_
      have y0 : V 0 = .agg #[.bool sa, .slice Aa na ca] := hφ 0 (by decide)
      have y1 : V 1 = .agg #[.bool sb, .slice Ab nb cb] := hφ 1 (by decide)
      have y3 : V 3 = .agg #[.bool sc, .slice Ac nc cc] := hφ 3 (by decide)
      obtain ⟨G12_5, y5, gb1205, q1205, A1205, n1205, c1205, kb1205, vb1205⟩ := hφ 5 (by decide)
      have Xpr := hid kb1205
      have pr := hid vb1205
      clear kb1205 vb1205
      simp only [puts, Act.put, List.setIfInBounds_toArray, List.set_cons_zero, List.set_cons_succ, y0, y1, y3, y5, ptr]
      clear hφ hψ hne y0 y1 y3 y5 Fa_ Fb_ Fc_ Pa_ Pb_ Pc_ Xsu_ su_ HB_ hsz12
      go_wp2_with fail
      have SM13 : Hid (Sm 41 (zb + zc)) := hid ((Fb.out.sm).plus (Fc.out.sm) (by omega) (by omega))
      have SM14 : Hid (Sm 81 (za * (zb + zc))) := hid ((Fa.out.sm).times (SM13.out) (by omega))
      have lt14_Pa := Pa.out.lt
      have lt14_Pb := Pb.out.lt
      have lt14_Pc := Pc.out.lt
      have lt14_Xsu := Xsu.out.lt
      have lt14_Xpr := Xpr.out.lt
      refine wp_region_each (by kernel_rfl) 7 92 rfl rfl (by kernel_rfl)
        [Fact.eq (.agg #[.bool sa, .slice Aa na ca]), Fact.eq (.agg #[.bool sb, .slice Ab nb cb]), Fact.eq (.agg #[.bool sc, .slice Ac nc cc]), Fact.int (zb + zc), Fact.int (za * (zb + zc)), Fact.box (za * (zb + zc)), Fact.top _]
        [.val, .val, .val, .val, .val, .alloc 6, .fill 5]
        (fun w' => IntA w' (.agg #[.bool sa, .slice Aa na ca]) (za) 40 ∧ IntA w' (.agg #[.bool sb, .slice Ab nb cb]) (zb) 40 ∧ IntA w' (.agg #[.bool sc, .slice Ac nc cc]) (zc) 40 ∧ Blk w' (w.heap.size) 24 #[.bool sa, .slice Aa na ca] ∧ Blk w' (w.heap.size + 1) 24 #[.bool sb, .slice Ab nb cb] ∧ Blk w' (w.heap.size + 1 + 1) 24 #[.bool sc, .slice Ac nc cc] ∧ Blk w' (G9_5) 24 #[.bool q905, .slice A905 n905 c905] ∧ IntV w' (.agg #[.bool q905, .slice A905 n905 c905]) (((za + zb) + zc)) ∧ Blk w' (G12_5) 24 #[.bool q1205, .slice A1205 n1205 c1205] ∧ IntV w' (.agg #[.bool q1205, .slice A1205 n1205 c1205]) (((za * zb) * zc)) ∧ Below w.heap.size w w')
        (fun _ _ _ => True) [] (fun _ => 0) (by kernel_rfl)
        ⟨Fa.out, Fb.out, Fc.out, Pa.out, Pb.out, Pc.out, Xsu.out, su.out, Xpr.out, pr.out, HB.out⟩
        (fun w1 w2 ⟨h0, h1, h2, h3, h4, h5, h6, h7, h8, h9, h10⟩ hb => ⟨h0.below hb, h1.below hb, h2.below hb, h3.below hb, h4.below hb, h5.below hb, h6.below hb, h7.below hb, h8.below hb, h9.below hb, bw_step h10 hb⟩)
        (fun w1 w2 g ⟨h0, h1, h2, h3, h4, h5, h6, h7, h8, h9, h10⟩ hg hn ho => by
          have hg' : W12.heap.size ≤ g := hg.elim id (fun ⟨_, h, _⟩ => absurd h (Nat.not_lt_zero _))
          exact ⟨h0.only hn ho, h1.only hn ho, h2.only hn ho, h3.only ho (by have := Pa.out.lt; have := Pb.out.lt; have := Pc.out.lt; have := Xsu.out.lt; have := Xpr.out.lt; omega), h4.only ho (by have := Pa.out.lt; have := Pb.out.lt; have := Pc.out.lt; have := Xsu.out.lt; have := Xpr.out.lt; omega), h5.only ho (by have := Pa.out.lt; have := Pb.out.lt; have := Pc.out.lt; have := Xsu.out.lt; have := Xpr.out.lt; omega), h6.only ho (by have := Pa.out.lt; have := Pb.out.lt; have := Pc.out.lt; have := Xsu.out.lt; have := Xpr.out.lt; omega), h7.only hn ho, h8.only ho (by have := Pa.out.lt; have := Pb.out.lt; have := Pc.out.lt; have := Xsu.out.lt; have := Xpr.out.lt; omega), h9.only hn ho, below_only h10 ho (by have := Pa.out.lt; have := Pb.out.lt; have := Pc.out.lt; have := Xsu.out.lt; have := Xpr.out.lt; have := HB.out.size; omega)⟩)
        (fun l h => trivial) (fun l b w1 w2 h _ _ => trivial) (fun l b w1 w2 g h _ _ _ _ => trivial) (fun l h => by cases h) (fun l k h => by cases h) ?_ ?_
      · refine ⟨?_, ?_, ?_, ?_, ?_, ?_, ?_, trivial⟩ <;> intro L V a1 w1 hf hG hsz hφ hψ hL hdep hcl
        · obtain ⟨Fa_, Fb_, Fc_, Pa_, Pb_, Pc_, Xsu_, su_, Xpr_, pr_, HB_⟩ := hG
          have e3 := old_slot hf 3 (by kernel_rfl)
          exact ob_load_int rfl e3 Pa_ rfl
        · obtain ⟨Fa_, Fb_, Fc_, Pa_, Pb_, Pc_, Xsu_, su_, Xpr_, pr_, HB_⟩ := hG
          have e4 := old_slot hf 4 (by kernel_rfl)
          exact ob_load_int rfl e4 Pb_ rfl
        · obtain ⟨Fa_, Fb_, Fc_, Pa_, Pb_, Pc_, Xsu_, su_, Xpr_, pr_, HB_⟩ := hG
          have e5 := old_slot hf 5 (by kernel_rfl)
          exact ob_load_int rfl e5 Pc_ rfl
        · obtain ⟨Fa_, Fb_, Fc_, Pa_, Pb_, Pc_, Xsu_, su_, Xpr_, pr_, HB_⟩ := hG
          have d1 := dep_of hdep 1 (by kernel_rfl)
          have e33 := (new_slot hf 1 33 d1 (by kernel_rfl)).trans (show V 1 = .agg #[.bool sb, .slice Ab nb cb] from hφ 1 d1)
          have d2 := dep_of hdep 2 (by kernel_rfl)
          have e34 := (new_slot hf 2 34 d2 (by kernel_rfl)).trans (show V 2 = .agg #[.bool sc, .slice Ac nc cc] from hφ 2 d2)
          refine ob_go rfl (vs := #[.agg #[.bool sb, .slice Ab nb cb], .agg #[.bool sc, .slice Ac nc cc]]) (by simp only [List.map_toArray, List.map_cons, List.map_nil, e33, e34]) (by kernel_rfl) (add_any _ (.agg #[.bool sb, .slice Ab nb cb]) (.agg #[.bool sc, .slice Ac nc cc]) zb zc 40 40 Fb_ Fc_ (by omega) (by omega)) ?_
          rintro e w2 ⟨⟨v, rfl, hv⟩, hb⟩
          exact ⟨v, rfl, hb, hv⟩
        · obtain ⟨Fa_, Fb_, Fc_, Pa_, Pb_, Pc_, Xsu_, su_, Xpr_, pr_, HB_⟩ := hG
          have d0 := dep_of hdep 0 (by kernel_rfl)
          have e32 := (new_slot hf 0 32 d0 (by kernel_rfl)).trans (show V 0 = .agg #[.bool sa, .slice Aa na ca] from hφ 0 d0)
          have d3 := dep_of hdep 3 (by kernel_rfl)
          have e35 := new_slot hf 3 35 d3 (by kernel_rfl)
          have p35 : IntV w1 (V 3) (zb + zc) := hφ 3 d3
          refine ob_go rfl (vs := #[.agg #[.bool sa, .slice Aa na ca], V 3]) (by simp only [List.map_toArray, List.map_cons, List.map_nil, e32, e35]) (by kernel_rfl) (mul_any _ (.agg #[.bool sa, .slice Aa na ca]) (V 3) za (zb + zc) 40 41 Fa_ (p35.arg SM13.out) (by omega) (by omega)) ?_
          rintro e w2 ⟨⟨v, rfl, hv⟩, hb⟩
          exact ⟨v, rfl, hb, hv⟩
        · obtain ⟨Fa_, Fb_, Fc_, Pa_, Pb_, Pc_, Xsu_, su_, Xpr_, pr_, HB_⟩ := hG
          exact ob_alloc_int rfl hsz rfl
        · obtain ⟨Fa_, Fb_, Fc_, Pa_, Pb_, Pc_, Xsu_, su_, Xpr_, pr_, HB_⟩ := hG
          have d4 := dep_of hdep 4 (by kernel_rfl)
          have e36 := new_slot hf 4 36 d4 (by kernel_rfl)
          have p36 : IntV w1 (V 4) (za * (zb + zc)) := hφ 4 d4
          have d5 := dep_of hdep 5 (by kernel_rfl)
          obtain ⟨g, h1, h2, h3⟩ := hφ 5 d5
          exact ob_fill_int rfl ((new_slot hf 5 9 d5 (by kernel_rfl)).trans h1) e36 h1 h2 h3 p36 rfl rfl
      · intro V W15 hG hsz15 hφ hψ hne
        have hlt15 : W12.heap.size ≤ W15.heap.size := hsz15
        obtain ⟨Fa_, Fb_, Fc_, Pa_, Pb_, Pc_, Xsu_, su_, Xpr_, pr_, HB_⟩ := hG
        have Fa := hid Fa_
        have Fb := hid Fb_
        have Fc := hid Fc_
        have Pa := hid Pa_
        have Pb := hid Pb_
        have Pc := hid Pc_
        have Xsu := hid Xsu_
        have su := hid su_
        have Xpr := hid Xpr_
        have pr := hid pr_
        have HB := hid HB_
        have y0 : V 0 = .agg #[.bool sa, .slice Aa na ca] := hφ 0 (by decide)
        have y1 : V 1 = .agg #[.bool sb, .slice Ab nb cb] := hφ 1 (by decide)
        have y2 : V 2 = .agg #[.bool sc, .slice Ac nc cc] := hφ 2 (by decide)
        obtain ⟨G15_5, y5, gb1505, q1505, A1505, n1505, c1505, kb1505, vb1505⟩ := hφ 5 (by decide)
        have Xle := hid kb1505
        have le := hid vb1505
        clear kb1505 vb1505
        simp only [puts, Act.put, List.setIfInBounds_toArray, List.set_cons_zero, List.set_cons_succ, y0, y1, y2, y5, ptr]
        clear hφ hψ hne y0 y1 y2 y5 Fa_ Fb_ Fc_ Pa_ Pb_ Pc_ Xsu_ su_ Xpr_ pr_ HB_ hsz15
        go_wp2_with fail
        have SM16 : Hid (Sm 80 (za * zb)) := hid ((Fa.out.sm).times (Fb.out.sm) (by omega))
        have SM17 : Hid (Sm 80 (za * zc)) := hid ((Fa.out.sm).times (Fc.out.sm) (by omega))
        have SM18 : Hid (Sm 81 ((za * zb) + (za * zc))) := hid ((SM16.out).plus (SM17.out) (by omega) (by omega))
        have lt18_Pa := Pa.out.lt
        have lt18_Pb := Pb.out.lt
        have lt18_Pc := Pc.out.lt
        have lt18_Xsu := Xsu.out.lt
        have lt18_Xpr := Xpr.out.lt
        have lt18_Xle := Xle.out.lt
        refine wp_region_each (by kernel_rfl) 9 92 rfl rfl (by kernel_rfl)
          [Fact.eq (.agg #[.bool sa, .slice Aa na ca]), Fact.eq (.agg #[.bool sb, .slice Ab nb cb]), Fact.int (za * zb), Fact.eq (.agg #[.bool sa, .slice Aa na ca]), Fact.eq (.agg #[.bool sc, .slice Ac nc cc]), Fact.int (za * zc), Fact.int ((za * zb) + (za * zc)), Fact.box ((za * zb) + (za * zc)), Fact.top _]
          [.val, .val, .val, .val, .val, .val, .val, .alloc 8, .fill 7]
          (fun w' => IntA w' (.agg #[.bool sa, .slice Aa na ca]) (za) 40 ∧ IntA w' (.agg #[.bool sb, .slice Ab nb cb]) (zb) 40 ∧ IntA w' (.agg #[.bool sc, .slice Ac nc cc]) (zc) 40 ∧ Blk w' (w.heap.size) 24 #[.bool sa, .slice Aa na ca] ∧ Blk w' (w.heap.size + 1) 24 #[.bool sb, .slice Ab nb cb] ∧ Blk w' (w.heap.size + 1 + 1) 24 #[.bool sc, .slice Ac nc cc] ∧ Blk w' (G9_5) 24 #[.bool q905, .slice A905 n905 c905] ∧ IntV w' (.agg #[.bool q905, .slice A905 n905 c905]) (((za + zb) + zc)) ∧ Blk w' (G12_5) 24 #[.bool q1205, .slice A1205 n1205 c1205] ∧ IntV w' (.agg #[.bool q1205, .slice A1205 n1205 c1205]) (((za * zb) * zc)) ∧ Blk w' (G15_5) 24 #[.bool q1505, .slice A1505 n1505 c1505] ∧ IntV w' (.agg #[.bool q1505, .slice A1505 n1505 c1505]) ((za * (zb + zc))) ∧ Below w.heap.size w w')
          (fun _ _ _ => True) [] (fun _ => 0) (by kernel_rfl)
          ⟨Fa.out, Fb.out, Fc.out, Pa.out, Pb.out, Pc.out, Xsu.out, su.out, Xpr.out, pr.out, Xle.out, le.out, HB.out⟩
          (fun w1 w2 ⟨h0, h1, h2, h3, h4, h5, h6, h7, h8, h9, h10, h11, h12⟩ hb => ⟨h0.below hb, h1.below hb, h2.below hb, h3.below hb, h4.below hb, h5.below hb, h6.below hb, h7.below hb, h8.below hb, h9.below hb, h10.below hb, h11.below hb, bw_step h12 hb⟩)
          (fun w1 w2 g ⟨h0, h1, h2, h3, h4, h5, h6, h7, h8, h9, h10, h11, h12⟩ hg hn ho => by
            have hg' : W15.heap.size ≤ g := hg.elim id (fun ⟨_, h, _⟩ => absurd h (Nat.not_lt_zero _))
            exact ⟨h0.only hn ho, h1.only hn ho, h2.only hn ho, h3.only ho (by have := Pa.out.lt; have := Pb.out.lt; have := Pc.out.lt; have := Xsu.out.lt; have := Xpr.out.lt; have := Xle.out.lt; omega), h4.only ho (by have := Pa.out.lt; have := Pb.out.lt; have := Pc.out.lt; have := Xsu.out.lt; have := Xpr.out.lt; have := Xle.out.lt; omega), h5.only ho (by have := Pa.out.lt; have := Pb.out.lt; have := Pc.out.lt; have := Xsu.out.lt; have := Xpr.out.lt; have := Xle.out.lt; omega), h6.only ho (by have := Pa.out.lt; have := Pb.out.lt; have := Pc.out.lt; have := Xsu.out.lt; have := Xpr.out.lt; have := Xle.out.lt; omega), h7.only hn ho, h8.only ho (by have := Pa.out.lt; have := Pb.out.lt; have := Pc.out.lt; have := Xsu.out.lt; have := Xpr.out.lt; have := Xle.out.lt; omega), h9.only hn ho, h10.only ho (by have := Pa.out.lt; have := Pb.out.lt; have := Pc.out.lt; have := Xsu.out.lt; have := Xpr.out.lt; have := Xle.out.lt; omega), h11.only hn ho, below_only h12 ho (by have := Pa.out.lt; have := Pb.out.lt; have := Pc.out.lt; have := Xsu.out.lt; have := Xpr.out.lt; have := Xle.out.lt; have := HB.out.size; omega)⟩)
          (fun l h => trivial) (fun l b w1 w2 h _ _ => trivial) (fun l b w1 w2 g h _ _ _ _ => trivial) (fun l h => by cases h) (fun l k h => by cases h) ?_ ?_
        · refine ⟨?_, ?_, ?_, ?_, ?_, ?_, ?_, ?_, ?_, trivial⟩ <;> intro L V a1 w1 hf hG hsz hφ hψ hL hdep hcl
          · obtain ⟨Fa_, Fb_, Fc_, Pa_, Pb_, Pc_, Xsu_, su_, Xpr_, pr_, Xle_, le_, HB_⟩ := hG
            have e3 := old_slot hf 3 (by kernel_rfl)
            exact ob_load_int rfl e3 Pa_ rfl
          · obtain ⟨Fa_, Fb_, Fc_, Pa_, Pb_, Pc_, Xsu_, su_, Xpr_, pr_, Xle_, le_, HB_⟩ := hG
            have e4 := old_slot hf 4 (by kernel_rfl)
            exact ob_load_int rfl e4 Pb_ rfl
          · obtain ⟨Fa_, Fb_, Fc_, Pa_, Pb_, Pc_, Xsu_, su_, Xpr_, pr_, Xle_, le_, HB_⟩ := hG
            have d0 := dep_of hdep 0 (by kernel_rfl)
            have e37 := (new_slot hf 0 37 d0 (by kernel_rfl)).trans (show V 0 = .agg #[.bool sa, .slice Aa na ca] from hφ 0 d0)
            have d1 := dep_of hdep 1 (by kernel_rfl)
            have e38 := (new_slot hf 1 38 d1 (by kernel_rfl)).trans (show V 1 = .agg #[.bool sb, .slice Ab nb cb] from hφ 1 d1)
            refine ob_go rfl (vs := #[.agg #[.bool sa, .slice Aa na ca], .agg #[.bool sb, .slice Ab nb cb]]) (by simp only [List.map_toArray, List.map_cons, List.map_nil, e37, e38]) (by kernel_rfl) (mul_any _ (.agg #[.bool sa, .slice Aa na ca]) (.agg #[.bool sb, .slice Ab nb cb]) za zb 40 40 Fa_ Fb_ (by omega) (by omega)) ?_
            rintro e w2 ⟨⟨v, rfl, hv⟩, hb⟩
            exact ⟨v, rfl, hb, hv⟩
          · obtain ⟨Fa_, Fb_, Fc_, Pa_, Pb_, Pc_, Xsu_, su_, Xpr_, pr_, Xle_, le_, HB_⟩ := hG
            have e3 := old_slot hf 3 (by kernel_rfl)
            exact ob_load_int rfl e3 Pa_ rfl
          · obtain ⟨Fa_, Fb_, Fc_, Pa_, Pb_, Pc_, Xsu_, su_, Xpr_, pr_, Xle_, le_, HB_⟩ := hG
            have e5 := old_slot hf 5 (by kernel_rfl)
            exact ob_load_int rfl e5 Pc_ rfl
          · obtain ⟨Fa_, Fb_, Fc_, Pa_, Pb_, Pc_, Xsu_, su_, Xpr_, pr_, Xle_, le_, HB_⟩ := hG
            have d3 := dep_of hdep 3 (by kernel_rfl)
            have e40 := (new_slot hf 3 40 d3 (by kernel_rfl)).trans (show V 3 = .agg #[.bool sa, .slice Aa na ca] from hφ 3 d3)
            have d4 := dep_of hdep 4 (by kernel_rfl)
            have e41 := (new_slot hf 4 41 d4 (by kernel_rfl)).trans (show V 4 = .agg #[.bool sc, .slice Ac nc cc] from hφ 4 d4)
            refine ob_go rfl (vs := #[.agg #[.bool sa, .slice Aa na ca], .agg #[.bool sc, .slice Ac nc cc]]) (by simp only [List.map_toArray, List.map_cons, List.map_nil, e40, e41]) (by kernel_rfl) (mul_any _ (.agg #[.bool sa, .slice Aa na ca]) (.agg #[.bool sc, .slice Ac nc cc]) za zc 40 40 Fa_ Fc_ (by omega) (by omega)) ?_
            rintro e w2 ⟨⟨v, rfl, hv⟩, hb⟩
            exact ⟨v, rfl, hb, hv⟩
          · obtain ⟨Fa_, Fb_, Fc_, Pa_, Pb_, Pc_, Xsu_, su_, Xpr_, pr_, Xle_, le_, HB_⟩ := hG
            have d2 := dep_of hdep 2 (by kernel_rfl)
            have e39 := new_slot hf 2 39 d2 (by kernel_rfl)
            have p39 : IntV w1 (V 2) (za * zb) := hφ 2 d2
            have d5 := dep_of hdep 5 (by kernel_rfl)
            have e42 := new_slot hf 5 42 d5 (by kernel_rfl)
            have p42 : IntV w1 (V 5) (za * zc) := hφ 5 d5
            refine ob_go rfl (vs := #[V 2, V 5]) (by simp only [List.map_toArray, List.map_cons, List.map_nil, e39, e42]) (by kernel_rfl) (add_any _ (V 2) (V 5) (za * zb) (za * zc) 80 80 (p39.arg SM16.out) (p42.arg SM17.out) (by omega) (by omega)) ?_
            rintro e w2 ⟨⟨v, rfl, hv⟩, hb⟩
            exact ⟨v, rfl, hb, hv⟩
          · obtain ⟨Fa_, Fb_, Fc_, Pa_, Pb_, Pc_, Xsu_, su_, Xpr_, pr_, Xle_, le_, HB_⟩ := hG
            exact ob_alloc_int rfl hsz rfl
          · obtain ⟨Fa_, Fb_, Fc_, Pa_, Pb_, Pc_, Xsu_, su_, Xpr_, pr_, Xle_, le_, HB_⟩ := hG
            have d6 := dep_of hdep 6 (by kernel_rfl)
            have e43 := new_slot hf 6 43 d6 (by kernel_rfl)
            have p43 : IntV w1 (V 6) ((za * zb) + (za * zc)) := hφ 6 d6
            have d7 := dep_of hdep 7 (by kernel_rfl)
            obtain ⟨g, h1, h2, h3⟩ := hφ 7 d7
            exact ob_fill_int rfl ((new_slot hf 7 10 d7 (by kernel_rfl)).trans h1) e43 h1 h2 h3 p43 rfl rfl
        · intro V W19 hG hsz19 hφ hψ hne
          have hlt19 : W15.heap.size ≤ W19.heap.size := hsz19
          obtain ⟨Fa_, Fb_, Fc_, Pa_, Pb_, Pc_, Xsu_, su_, Xpr_, pr_, Xle_, le_, HB_⟩ := hG
          have Fa := hid Fa_
          have Fb := hid Fb_
          have Fc := hid Fc_
          have Pa := hid Pa_
          have Pb := hid Pb_
          have Pc := hid Pc_
          have Xsu := hid Xsu_
          have su := hid su_
          have Xpr := hid Xpr_
          have pr := hid pr_
          have Xle := hid Xle_
          have le := hid le_
          have HB := hid HB_
          have y0 : V 0 = .agg #[.bool sa, .slice Aa na ca] := hφ 0 (by decide)
          have y1 : V 1 = .agg #[.bool sb, .slice Ab nb cb] := hφ 1 (by decide)
          have y3 : V 3 = .agg #[.bool sa, .slice Aa na ca] := hφ 3 (by decide)
          have y4 : V 4 = .agg #[.bool sc, .slice Ac nc cc] := hφ 4 (by decide)
          obtain ⟨G19_7, y7, gb1907, q1907, A1907, n1907, c1907, kb1907, vb1907⟩ := hφ 7 (by decide)
          have Xri := hid kb1907
          have ri := hid vb1907
          clear kb1907 vb1907
          simp only [puts, Act.put, List.setIfInBounds_toArray, List.set_cons_zero, List.set_cons_succ, y0, y1, y3, y4, y7, ptr]
          clear hφ hψ hne y0 y1 y3 y4 y7 Fa_ Fb_ Fc_ Pa_ Pb_ Pc_ Xsu_ su_ Xpr_ pr_ Xle_ le_ HB_ hsz19
          have SM20 : Hid (Sm 41 (zc + zb)) := hid ((Fc.out.sm).plus (Fb.out.sm) (by omega) (by omega))
          have SM21 : Hid (Sm 42 (za + (zc + zb))) := hid ((Fa.out.sm).plus (SM20.out) (by omega) (by omega))
          have SM23 : Hid (Sm 80 (zc * za)) := hid ((Fc.out.sm).times (Fa.out.sm) (by omega))
          have SM24 : Hid (Sm 120 ((zc * za) * zb)) := hid ((SM23.out).times (Fb.out.sm) (by omega))
          obtain ⟨k27, l27, f27, g27⟩ := id Xsu.out.bx
          obtain ⟨k28, l28, f28, g28⟩ := id Pa.out.bx
          obtain ⟨k29, l29, f29, g29⟩ := id Pb.out.bx
          obtain ⟨k30, l30, f30, g30⟩ := id Pc.out.bx
          obtain ⟨k31, l31, f31, g31⟩ := id Xpr.out.bx
          obtain ⟨k32, l32, f32, g32⟩ := id Xle.out.bx
          obtain ⟨k33, l33, f33, g33⟩ := id Xri.out.bx
          go_wp2_with fail
          go_region_held3 (fun w' => w'.cell? ⟨G9_5, 0, none⟩ = some (.bool q905) ∧ w'.cell? ⟨G9_5, 1, none⟩ = some (.slice A905 n905 c905) ∧ w'.cell? ⟨w.heap.size, 0, none⟩ = some (.bool sa) ∧ w'.cell? ⟨w.heap.size, 1, none⟩ = some (.slice Aa na ca) ∧ w'.cell? ⟨w.heap.size + 1, 0, none⟩ = some (.bool sb) ∧ w'.cell? ⟨w.heap.size + 1, 1, none⟩ = some (.slice Ab nb cb) ∧ w'.cell? ⟨w.heap.size + 1 + 1, 0, none⟩ = some (.bool sc) ∧ w'.cell? ⟨w.heap.size + 1 + 1, 1, none⟩ = some (.slice Ac nc cc) ∧ w'.cell? ⟨G12_5, 0, none⟩ = some (.bool q1205) ∧ w'.cell? ⟨G12_5, 1, none⟩ = some (.slice A1205 n1205 c1205) ∧ w'.cell? ⟨G15_5, 0, none⟩ = some (.bool q1505) ∧ w'.cell? ⟨G15_5, 1, none⟩ = some (.slice A1505 n1505 c1505) ∧ w'.cell? ⟨G19_7, 0, none⟩ = some (.bool q1907) ∧ w'.cell? ⟨G19_7, 1, none⟩ = some (.slice A1907 n1907 c1907) ∧ Hid (Below W19.heap.size W19 w'))
            (first
              | exact ⟨k27, l27, k28, l28, k29, l29, k30, l30, k31, l31, k32, l32, k33, l33, bw_drew _⟩
              | (go_split_ands; have hh := bw_keep (by assumption) (by assumption); exact ⟨cell_below hh k27, cell_below hh l27, cell_below hh k28, cell_below hh l28, cell_below hh k29, cell_below hh l29, cell_below hh k30, cell_below hh l30, cell_below hh k31, cell_below hh l31, cell_below hh k32, cell_below hh l32, cell_below hh k33, cell_below hh l33, hh⟩)
              | (go_split_ands; exact ⟨by assumption, by assumption, by assumption, by assumption, by assumption, by assumption, by assumption, by assumption, by assumption, by assumption, by assumption, by assumption, by assumption, by assumption, below_drewN (Hid.out (by assumption)) _⟩))
            (first
              | (go_at_call 14; (with_reducible refine (add_any _ (.agg #[.bool sc, .slice Ac nc cc]) (.agg #[.bool sb, .slice Ab nb cb]) (zc) (zb) 40 40 ?g20_0 ?g20_1 (by omega) (by omega)).mono ?_); (case g20_0 => (go_split_ands; exact Fc.out.below (Hid.out (by assumption)))); (case g20_1 => (go_split_ands; exact Fb.out.below (Hid.out (by assumption)))); rintro e w20 ⟨⟨v20, rfl, hv20⟩, hb20⟩)
              | (go_at_call 14; (with_reducible refine (add_any _ (.agg #[.bool sa, .slice Aa na ca]) (v20) (za) ((zc + zb)) 40 41 ?g21_0 ?g21_1 (by omega) (by omega)).mono ?_); (case g21_0 => (go_split_ands; exact Fa.out.below (Hid.out (by assumption)))); (case g21_1 => (exact hv20.arg SM20.out)); rintro e w21 ⟨⟨v21, rfl, hv21⟩, hb21⟩)
              | (go_at_call 24; (with_reducible refine (cmp_any _ (.agg #[.bool q905, .slice A905 n905 c905]) (v21) (((za + zb) + zc)) ((za + (zc + zb))) 42 42 ?g22_0 ?g22_1 ).mono ?_); (case g22_0 => (go_split_ands; exact (su.out.below (Hid.out (by assumption))).arg SM8.out)); (case g22_1 => (exact hv21.arg SM21.out)); rintro e w22 ⟨he, hb22⟩; rw [cm_eq (by omega)] at he; subst he)
              | (go_at_call 20; (with_reducible refine (mul_any _ (.agg #[.bool sc, .slice Ac nc cc]) (.agg #[.bool sa, .slice Aa na ca]) (zc) (za) 40 40 ?g23_0 ?g23_1 (by omega) (by omega)).mono ?_); (case g23_0 => (go_split_ands; exact Fc.out.below (Hid.out (by assumption)))); (case g23_1 => (go_split_ands; exact Fa.out.below (Hid.out (by assumption)))); rintro e w23 ⟨⟨v23, rfl, hv23⟩, hb23⟩)
              | (go_at_call 20; (with_reducible refine (mul_any _ (v23) (.agg #[.bool sb, .slice Ab nb cb]) ((zc * za)) (zb) 80 40 ?g24_0 ?g24_1 (by omega) (by omega)).mono ?_); (case g24_0 => (exact hv23.arg SM23.out)); (case g24_1 => (go_split_ands; exact Fb.out.below (Hid.out (by assumption)))); rintro e w24 ⟨⟨v24, rfl, hv24⟩, hb24⟩)
              | (go_at_call 24; (with_reducible refine (cmp_any _ (.agg #[.bool q1205, .slice A1205 n1205 c1205]) (v24) (((za * zb) * zc)) (((zc * za) * zb)) 120 120 ?g25_0 ?g25_1 ).mono ?_); (case g25_0 => (go_split_ands; exact (pr.out.below (Hid.out (by assumption))).arg SM11.out)); (case g25_1 => (exact hv24.arg SM24.out)); rintro e w25 ⟨he, hb25⟩; rw [cm_eq (by grind)] at he; subst he)
              | (go_at_call 24; (with_reducible refine (cmp_any _ (.agg #[.bool q1505, .slice A1505 n1505 c1505]) (.agg #[.bool q1907, .slice A1907 n1907 c1907]) ((za * (zb + zc))) (((za * zb) + (za * zc))) 81 81 ?g26_0 ?g26_1 ).mono ?_); (case g26_0 => (go_split_ands; exact (le.out.below (Hid.out (by assumption))).arg SM14.out)); (case g26_1 => (go_split_ands; exact (ri.out.below (Hid.out (by assumption))).arg SM18.out)); rintro e w26 ⟨he, hb26⟩; rw [cm_eq (by grind)] at he; subst he))
          rename_i hH
          have HW := hid hH.2.2.2.2.2.2.2.2.2.2.2.2.2.2.out
          clear hH
          clear k27 l27 f27 g27 k28 l28 f28 g28 k29 l29 f29 g29 k30 l30 f30 g30 k31 l31 f31 g31 k32 l32 f32 g32 k33 l33 f33 g33
          have HB := hid (bw_step HB.out HW.out)
          have Fa := hid (Fa.out.below HW.out)
          have Fb := hid (Fb.out.below HW.out)
          have Fc := hid (Fc.out.below HW.out)
          have Pa := hid (Pa.out.below HW.out)
          have Pb := hid (Pb.out.below HW.out)
          have Pc := hid (Pc.out.below HW.out)
          have Xsu := hid (Xsu.out.below HW.out)
          have su := hid (su.out.below HW.out)
          have Xpr := hid (Xpr.out.below HW.out)
          have pr := hid (pr.out.below HW.out)
          have Xle := hid (Xle.out.below HW.out)
          have le := hid (le.out.below HW.out)
          have Xri := hid (Xri.out.below HW.out)
          have ri := hid (ri.out.below HW.out)
          clear HW
          clear Xsu
          clear Xpr
          clear Xle
          clear Xri
          clear su
          clear pr
          clear le
          clear ri
          have SM34 : Hid (Sm 41 (za + zc)) := hid ((Fa.out.sm).plus (Fc.out.sm) (by omega) (by omega))
          have SM35 : Hid (Sm 41 (zb + zc)) := hid ((Fb.out.sm).plus (Fc.out.sm) (by omega) (by omega))
          have SM38 : Hid (Sm 41 (za - zb)) := hid ((Fa.out.sm).minus (Fb.out.sm) (by omega) (by omega))
          obtain ⟨k41, l41, f41, g41⟩ := id Pa.out.bx
          obtain ⟨k42, l42, f42, g42⟩ := id Pb.out.bx
          obtain ⟨k43, l43, f43, g43⟩ := id Pc.out.bx
          go_wp2_with fail
          go_region_held3 (fun w' => w'.cell? ⟨w.heap.size, 0, none⟩ = some (.bool sa) ∧ w'.cell? ⟨w.heap.size, 1, none⟩ = some (.slice Aa na ca) ∧ w'.cell? ⟨w.heap.size + 1, 0, none⟩ = some (.bool sb) ∧ w'.cell? ⟨w.heap.size + 1, 1, none⟩ = some (.slice Ab nb cb) ∧ w'.cell? ⟨w.heap.size + 1 + 1, 0, none⟩ = some (.bool sc) ∧ w'.cell? ⟨w.heap.size + 1 + 1, 1, none⟩ = some (.slice Ac nc cc) ∧ Hid (Below w26.heap.size w26 w'))
            (first
              | exact ⟨k41, l41, k42, l42, k43, l43, bw_drew _⟩
              | (go_split_ands; have hh := bw_keep (by assumption) (by assumption); exact ⟨cell_below hh k41, cell_below hh l41, cell_below hh k42, cell_below hh l42, cell_below hh k43, cell_below hh l43, hh⟩)
              | (go_split_ands; exact ⟨by assumption, by assumption, by assumption, by assumption, by assumption, by assumption, below_drewN (Hid.out (by assumption)) _⟩))
            (first
              | (go_at_call 14; (with_reducible refine (add_any _ (.agg #[.bool sa, .slice Aa na ca]) (.agg #[.bool sc, .slice Ac nc cc]) (za) (zc) 40 40 ?g34_0 ?g34_1 (by omega) (by omega)).mono ?_); (case g34_0 => (go_split_ands; exact Fa.out.below (Hid.out (by assumption)))); (case g34_1 => (go_split_ands; exact Fc.out.below (Hid.out (by assumption)))); rintro e w34 ⟨⟨v34, rfl, hv34⟩, hb34⟩)
              | (go_at_call 14; (with_reducible refine (add_any _ (.agg #[.bool sb, .slice Ab nb cb]) (.agg #[.bool sc, .slice Ac nc cc]) (zb) (zc) 40 40 ?g35_0 ?g35_1 (by omega) (by omega)).mono ?_); (case g35_0 => (go_split_ands; exact Fb.out.below (Hid.out (by assumption)))); (case g35_1 => (go_split_ands; exact Fc.out.below (Hid.out (by assumption)))); rintro e w35 ⟨⟨v35, rfl, hv35⟩, hb35⟩)
              | (go_at_call 24; (with_reducible refine (cmp_any _ (v34) (v35) ((za + zc)) ((zb + zc)) 41 41 ?g36_0 ?g36_1 ).mono ?_); (case g36_0 => (exact (hv34.below hb35).arg SM34.out)); (case g36_1 => (exact hv35.arg SM35.out)); rintro e w36 ⟨he, hb36⟩; rw [cm_add] at he; subst he)
              | (go_at_call 24; (with_reducible refine (cmp_any _ (.agg #[.bool sa, .slice Aa na ca]) (.agg #[.bool sb, .slice Ab nb cb]) (za) (zb) 40 40 ?g37_0 ?g37_1 ).mono ?_); (case g37_0 => (go_split_ands; exact Fa.out.below (Hid.out (by assumption)))); (case g37_1 => (go_split_ands; exact Fb.out.below (Hid.out (by assumption)))); rintro e w37 ⟨rfl, hb37⟩)
              | (go_at_call 16; (with_reducible refine (sub_any _ (.agg #[.bool sa, .slice Aa na ca]) (.agg #[.bool sb, .slice Ab nb cb]) (za) (zb) 40 40 ?g38_0 ?g38_1 (by omega) (by omega)).mono ?_); (case g38_0 => (go_split_ands; exact Fa.out.below (Hid.out (by assumption)))); (case g38_1 => (go_split_ands; exact Fb.out.below (Hid.out (by assumption)))); rintro e w38 ⟨⟨v38, rfl, hv38⟩, hb38⟩)
              | (go_at_call 25; (with_reducible refine (sign_any _ (v38) ((za - zb)) 41 ?g39_0 ).mono ?_); (case g39_0 => (exact hv38.arg SM38.out)); rintro e w39 ⟨he, hb39⟩; rw [cm_sub] at he; subst he)
              | (go_at_call 12; (with_reducible refine (awake_any _).mono ?_); rintro e w40 ⟨rfl, hb40⟩))
          rename_i hH
          have HW := hid hH.2.2.2.2.2.2.out
          clear hH
          clear k41 l41 f41 g41 k42 l42 f42 g42 k43 l43 f43 g43
          have HB := hid (bw_step HB.out HW.out)
          have Fa := hid (Fa.out.below HW.out)
          have Fb := hid (Fb.out.below HW.out)
          have Fc := hid (Fc.out.below HW.out)
          have Pa := hid (Pa.out.below HW.out)
          have Pb := hid (Pb.out.below HW.out)
          have Pc := hid (Pc.out.below HW.out)
          clear HW
          go_wp2
          go_ret
          exact ⟨rfl, HB.out⟩
theorem integerRing_walk (w : World) (va : Value) (ha : ArgI w va) (vb : Value) (hb : ArgI w vb) (vc : Value) (hc : ArgI w vc) :
    Calls Try.prog 6 #[va, vb, vc] w fun e w' => e = .returned (.bool true) ∧ Below w.heap.size w w' := by
  obtain ⟨sa, Aa, na, ca, rfl, _, _⟩ := id ha
  obtain ⟨sb, Ab, nb, cb, rfl, _, _⟩ := id hb
  obtain ⟨sc, Ac, nc, cc, rfl, _, _⟩ := id hc
  rcases ha.short 40 (by decide) with ka | ⟨ka, za, fa⟩
  · exact integerRing_long0 w sa Aa na ca sb Ab nb cb sc Ac nc cc ka
  rcases hb.short 40 (by decide) with kb | ⟨kb, zb, fb⟩
  · exact integerRing_long1 w sa Aa na ca sb Ab nb cb sc Ac nc cc ka kb
  rcases hc.short 40 (by decide) with kc | ⟨kc, zc, fc⟩
  · exact integerRing_long2 w sa Aa na ca sb Ab nb cb sc Ac nc cc ka kb kc
  exact integerRing_short w sa Aa na ca sb Ab nb cb sc Ac nc cc ka za fa kb zb fb kc zc fc
end Go.Proofs.Ytnjekacagffelaa
