/- The law IntegerDivides: its walk. -/
import Derived.Test.YtdbgalohppfkfaaAwake
import Derived.Test.YtdbgalohppfkfaaRDivZero
import Derived.Test.YtdbgalohppfkfaaRSame
import Derived.Test.YtdbgalohppfkfaaArg
namespace Go.Proofs.Ytdbgalohppfkfaa
open Go.RowKit
set_option linter.unusedVariables false
set_option maxRecDepth 100000

theorem integerDivides_long0 (w : World) (sa : Bool) (Aa : Option Addr) (na ca : Nat) (sb : Bool) (Ab : Option Addr) (nb cb : Nat)  (ha : 40 < na) :
    Calls Try.prog 7 #[.agg #[.bool sa, .slice Aa na ca], .agg #[.bool sb, .slice Ab nb cb]] w fun e w' => e = .returned (.bool true) ∧ Below w.heap.size w w' := by
  have hda : decide ((40 : Int) < (na : Int)) = true := by rw [decide_eq_true_eq]; omega
  have HB := hid (Below.refl w.heap.size w)
  obtain ⟨W, hW⟩ : ∃ W, W = ((w.alloc (.cells #[.bool sa, .slice Aa na ca] 24)).alloc (.cells #[.bool sb, .slice Ab nb cb] 24)) := ⟨_, rfl⟩
  have hbb : Below w.heap.size w W := by rw [hW]; exact (bw_alloc (bw_alloc (Below.refl _ _) _) _)
  have HB := hid (bw_step HB.out hbb)
  have Pa : Hid (Blk W (w.heap.size) 24 #[.bool sa, .slice Aa na ca]) := by
    rw [hW]
    have := (Blk.new w 24 #[.bool sa, .slice Aa na ca]).below (bw_alloc (Below.refl _ _) (.cells #[.bool sb, .slice Ab nb cb] 24))
    exact hid (by simpa only [World.size_alloc] using this)
  have Pb : Hid (Blk W (w.heap.size + 1) 24 #[.bool sb, .slice Ab nb cb]) := by
    rw [hW]
    have := Blk.new (w.alloc (.cells #[.bool sa, .slice Aa na ca] 24)) 24 #[.bool sb, .slice Ab nb cb]
    exact hid (by simpa only [World.size_alloc] using this)
  clear hbb
  obtain ⟨k1, l1, f1, g1⟩ := id Pa.out.bx
  go_enter Try.func7, Try.ntmps7
  go_wp2_with fail
  rw [← hW]
  clear hW
  refine (long_any _ sa Aa na ca).mono ?_
  rintro e W2 ⟨he, hb2⟩
  rw [hda] at he
  subst he
  clear k1 l1 f1 g1
  have HB := hid (bw_step HB.out hb2)
  have Pa := hid (Pa.out.below hb2)
  have Pb := hid (Pb.out.below hb2)
  clear hb2
  go_wp2_with fail
  refine (awake_any _).mono ?_
  rintro e W3 ⟨rfl, hb3⟩
  have HB := hid (bw_step HB.out hb3)
  have Pa := hid (Pa.out.below hb3)
  have Pb := hid (Pb.out.below hb3)
  clear hb3
  go_wp2
  go_ret
  exact ⟨rfl, HB.out⟩
theorem integerDivides_long1 (w : World) (sa : Bool) (Aa : Option Addr) (na ca : Nat) (sb : Bool) (Ab : Option Addr) (nb cb : Nat) (ha : na ≤ 40) (hb : 40 < nb) :
    Calls Try.prog 7 #[.agg #[.bool sa, .slice Aa na ca], .agg #[.bool sb, .slice Ab nb cb]] w fun e w' => e = .returned (.bool true) ∧ Below w.heap.size w w' := by
  have hda : decide ((40 : Int) < (na : Int)) = false := by rw [decide_eq_false_iff_not]; omega
  have hdb : decide ((40 : Int) < (nb : Int)) = true := by rw [decide_eq_true_eq]; omega
  have HB := hid (Below.refl w.heap.size w)
  obtain ⟨W, hW⟩ : ∃ W, W = ((w.alloc (.cells #[.bool sa, .slice Aa na ca] 24)).alloc (.cells #[.bool sb, .slice Ab nb cb] 24)) := ⟨_, rfl⟩
  have hbb : Below w.heap.size w W := by rw [hW]; exact (bw_alloc (bw_alloc (Below.refl _ _) _) _)
  have HB := hid (bw_step HB.out hbb)
  have Pa : Hid (Blk W (w.heap.size) 24 #[.bool sa, .slice Aa na ca]) := by
    rw [hW]
    have := (Blk.new w 24 #[.bool sa, .slice Aa na ca]).below (bw_alloc (Below.refl _ _) (.cells #[.bool sb, .slice Ab nb cb] 24))
    exact hid (by simpa only [World.size_alloc] using this)
  have Pb : Hid (Blk W (w.heap.size + 1) 24 #[.bool sb, .slice Ab nb cb]) := by
    rw [hW]
    have := Blk.new (w.alloc (.cells #[.bool sa, .slice Aa na ca] 24)) 24 #[.bool sb, .slice Ab nb cb]
    exact hid (by simpa only [World.size_alloc] using this)
  clear hbb
  obtain ⟨k1, l1, f1, g1⟩ := id Pa.out.bx
  go_enter Try.func7, Try.ntmps7
  go_wp2_with fail
  rw [← hW]
  clear hW
  refine (long_any _ sa Aa na ca).mono ?_
  rintro e W2 ⟨he, hb2⟩
  rw [hda] at he
  subst he
  clear k1 l1 f1 g1
  have HB := hid (bw_step HB.out hb2)
  have Pa := hid (Pa.out.below hb2)
  have Pb := hid (Pb.out.below hb2)
  clear hb2
  obtain ⟨k3, l3, f3, g3⟩ := id Pb.out.bx
  go_wp2_with fail
  refine (long_any _ sb Ab nb cb).mono ?_
  rintro e W4 ⟨he, hb4⟩
  rw [hdb] at he
  subst he
  clear k3 l3 f3 g3
  have HB := hid (bw_step HB.out hb4)
  have Pa := hid (Pa.out.below hb4)
  have Pb := hid (Pb.out.below hb4)
  clear hb4
  go_wp2_with fail
  refine (awake_any _).mono ?_
  rintro e W5 ⟨rfl, hb5⟩
  have HB := hid (bw_step HB.out hb5)
  have Pa := hid (Pa.out.below hb5)
  have Pb := hid (Pb.out.below hb5)
  clear hb5
  go_wp2
  go_ret
  exact ⟨rfl, HB.out⟩
set_option maxHeartbeats 8000000 in
theorem integerDivides_short (w : World) (sa : Bool) (Aa : Option Addr) (na ca : Nat) (sb : Bool) (Ab : Option Addr) (nb cb : Nat) (ha : na ≤ 40) (za : Int) (fa : IntA w (.agg #[.bool sa, .slice Aa na ca]) za 40) (hb : nb ≤ 40) (zb : Int) (fb : IntA w (.agg #[.bool sb, .slice Ab nb cb]) zb 40) :
    Calls Try.prog 7 #[.agg #[.bool sa, .slice Aa na ca], .agg #[.bool sb, .slice Ab nb cb]] w fun e w' => e = .returned (.bool true) ∧ Below w.heap.size w w' := by
  have hda : decide ((40 : Int) < (na : Int)) = false := by rw [decide_eq_false_iff_not]; omega
  have Fa := hid fa
  have hdb : decide ((40 : Int) < (nb : Int)) = false := by rw [decide_eq_false_iff_not]; omega
  have Fb := hid fb
  clear fa fb
  have HB := hid (Below.refl w.heap.size w)
  obtain ⟨W, hW⟩ : ∃ W, W = ((w.alloc (.cells #[.bool sa, .slice Aa na ca] 24)).alloc (.cells #[.bool sb, .slice Ab nb cb] 24)) := ⟨_, rfl⟩
  have hbb : Below w.heap.size w W := by rw [hW]; exact (bw_alloc (bw_alloc (Below.refl _ _) _) _)
  have HB := hid (bw_step HB.out hbb)
  have Fa := hid (Fa.out.below hbb)
  have Fb := hid (Fb.out.below hbb)
  have Pa : Hid (Blk W (w.heap.size) 24 #[.bool sa, .slice Aa na ca]) := by
    rw [hW]
    have := (Blk.new w 24 #[.bool sa, .slice Aa na ca]).below (bw_alloc (Below.refl _ _) (.cells #[.bool sb, .slice Ab nb cb] 24))
    exact hid (by simpa only [World.size_alloc] using this)
  have Pb : Hid (Blk W (w.heap.size + 1) 24 #[.bool sb, .slice Ab nb cb]) := by
    rw [hW]
    have := Blk.new (w.alloc (.cells #[.bool sa, .slice Aa na ca] 24)) 24 #[.bool sb, .slice Ab nb cb]
    exact hid (by simpa only [World.size_alloc] using this)
  clear hbb
  obtain ⟨k1, l1, f1, g1⟩ := id Pa.out.bx
  go_enter Try.func7, Try.ntmps7
  go_wp2_with fail
  rw [← hW]
  clear hW
  refine (long_any _ sa Aa na ca).mono ?_
  rintro e W2 ⟨he, hb2⟩
  rw [hda] at he
  subst he
  clear k1 l1 f1 g1
  have HB := hid (bw_step HB.out hb2)
  have Fa := hid (Fa.out.below hb2)
  have Fb := hid (Fb.out.below hb2)
  have Pa := hid (Pa.out.below hb2)
  have Pb := hid (Pb.out.below hb2)
  clear hb2
  obtain ⟨k3, l3, f3, g3⟩ := id Pb.out.bx
  go_wp2_with fail
  refine (long_any _ sb Ab nb cb).mono ?_
  rintro e W4 ⟨he, hb4⟩
  rw [hdb] at he
  subst he
  clear k3 l3 f3 g3
  have HB := hid (bw_step HB.out hb4)
  have Fa := hid (Fa.out.below hb4)
  have Fb := hid (Fb.out.below hb4)
  have Pa := hid (Pa.out.below hb4)
  have Pb := hid (Pb.out.below hb4)
  clear hb4
  by_cases hb0 : zb = 0
  · subst hb0
    obtain ⟨k5, l5, f5, g5⟩ := id Pa.out.bx
    obtain ⟨k6, l6, f6, g6⟩ := id Pb.out.bx
    go_wp2_with fail
    refine (divMod_zero _ _ _ za 40 40 Fa.out Fb.out).mono ?_
    rintro e W7 ⟨⟨u1, u2, rfl, hu1, hu2⟩, hb7⟩
    clear k5 l5 f5 g5 k6 l6 f6 g6
    have HB := hid (bw_step HB.out hb7)
    have Fa := hid (Fa.out.below hb7)
    have Fb := hid (Fb.out.below hb7)
    have Pa := hid (Pa.out.below hb7)
    have Pb := hid (Pb.out.below hb7)
    clear hb7
    obtain ⟨q71, A71, n71, c71, rfl⟩ := hu1.form
    obtain ⟨q72, A72, n72, c72, rfl⟩ := hu2.form
    have U1 := hid hu1
    have U2 := hid hu2
    clear hu1 hu2
    have hbb := bw_two W7 (.cells #[.bool q71, .slice A71 n71 c71] 24) (.cells #[.bool q72, .slice A72 n72 c72] 24)
    have Bq : Blk ((W7.alloc (.cells #[.bool q71, .slice A71 n71 c71] 24)).alloc (.cells #[.bool q72, .slice A72 n72 c72] 24)) (W7.heap.size) 24 #[.bool q71, .slice A71 n71 c71] := (Blk.new _ _ _).below (bw_alloc (Below.refl _ _) _)
    have Br : Blk ((W7.alloc (.cells #[.bool q71, .slice A71 n71 c71] 24)).alloc (.cells #[.bool q72, .slice A72 n72 c72] 24)) (W7.heap.size + 1) 24 #[.bool q72, .slice A72 n72 c72] := by have := Blk.new (W7.alloc (.cells #[.bool q71, .slice A71 n71 c71] 24)) 24 #[.bool q72, .slice A72 n72 c72]; rwa [World.size_alloc] at this
    have HB := hid (bw_step HB.out hbb)
    have Fa := hid (Fa.out.below hbb)
    have Fb := hid (Fb.out.below hbb)
    have Pa := hid (Pa.out.below hbb)
    have Pb := hid (Pb.out.below hbb)
    have U1 := hid (U1.out.below hbb)
    have U2 := hid (U2.out.below hbb)
    have Bq := hid Bq
    have Br := hid Br
    clear hbb
    obtain ⟨k8, l8, f8, g8⟩ := id Pa.out.bx
    obtain ⟨k9, l9, f9, g9⟩ := id Pb.out.bx
    go_wp2_with fail
    refine (rdivMod_zero' _ _ _ za 40 40 Fa.out Fb.out).mono ?_
    rintro e W10 ⟨⟨u1, u2, rfl, hu1, hu2⟩, hb10⟩
    clear k8 l8 f8 g8 k9 l9 f9 g9
    have HB := hid (bw_step HB.out hb10)
    have Fa := hid (Fa.out.below hb10)
    have Fb := hid (Fb.out.below hb10)
    have Pa := hid (Pa.out.below hb10)
    have Pb := hid (Pb.out.below hb10)
    have U1 := hid (U1.out.below hb10)
    have U2 := hid (U2.out.below hb10)
    have Bq := hid (Bq.out.below hb10)
    have Br := hid (Br.out.below hb10)
    clear hb10
    obtain ⟨q101, A101, n101, c101, rfl⟩ := hu1.form
    obtain ⟨q102, A102, n102, c102, rfl⟩ := hu2.form
    have U3 := hid hu1
    have U4 := hid hu2
    clear hu1 hu2
    have hbb := bw_two W10 (.cells #[.bool q101, .slice A101 n101 c101] 24) (.cells #[.bool q102, .slice A102 n102 c102] 24)
    have Bx : Blk ((W10.alloc (.cells #[.bool q101, .slice A101 n101 c101] 24)).alloc (.cells #[.bool q102, .slice A102 n102 c102] 24)) (W10.heap.size) 24 #[.bool q101, .slice A101 n101 c101] := (Blk.new _ _ _).below (bw_alloc (Below.refl _ _) _)
    have By : Blk ((W10.alloc (.cells #[.bool q101, .slice A101 n101 c101] 24)).alloc (.cells #[.bool q102, .slice A102 n102 c102] 24)) (W10.heap.size + 1) 24 #[.bool q102, .slice A102 n102 c102] := by have := Blk.new (W10.alloc (.cells #[.bool q101, .slice A101 n101 c101] 24)) 24 #[.bool q102, .slice A102 n102 c102]; rwa [World.size_alloc] at this
    have HB := hid (bw_step HB.out hbb)
    have Fa := hid (Fa.out.below hbb)
    have Fb := hid (Fb.out.below hbb)
    have Pa := hid (Pa.out.below hbb)
    have Pb := hid (Pb.out.below hbb)
    have U1 := hid (U1.out.below hbb)
    have U2 := hid (U2.out.below hbb)
    have Bq := hid (Bq.out.below hbb)
    have Br := hid (Br.out.below hbb)
    have U3 := hid (U3.out.below hbb)
    have U4 := hid (U4.out.below hbb)
    have Bx := hid Bx
    have By := hid By
    clear hbb
    obtain ⟨k11, l11, f11, g11⟩ := id Bq.out.bx
    obtain ⟨k12, l12, f12, g12⟩ := id Bx.out.bx
    go_wp2_with fail
    refine (rsame_any _ _ _ 0 0 U1.out U3.out).mono ?_
    rintro e W13 ⟨he, hb13⟩
    rw [decide_eq_true rfl] at he
    subst he
    clear k11 l11 f11 g11 k12 l12 f12 g12
    have HB := hid (bw_step HB.out hb13)
    have Fa := hid (Fa.out.below hb13)
    have Fb := hid (Fb.out.below hb13)
    have Pa := hid (Pa.out.below hb13)
    have Pb := hid (Pb.out.below hb13)
    have U1 := hid (U1.out.below hb13)
    have U2 := hid (U2.out.below hb13)
    have Bq := hid (Bq.out.below hb13)
    have Br := hid (Br.out.below hb13)
    have U3 := hid (U3.out.below hb13)
    have U4 := hid (U4.out.below hb13)
    have Bx := hid (Bx.out.below hb13)
    have By := hid (By.out.below hb13)
    clear hb13
    obtain ⟨k14, l14, f14, g14⟩ := id Br.out.bx
    obtain ⟨k15, l15, f15, g15⟩ := id By.out.bx
    go_wp2_with fail
    refine (rsame_any _ _ _ 0 0 U2.out U4.out).mono ?_
    rintro e W16 ⟨he, hb16⟩
    rw [decide_eq_true rfl] at he
    subst he
    clear k14 l14 f14 g14 k15 l15 f15 g15
    have HB := hid (bw_step HB.out hb16)
    have Fa := hid (Fa.out.below hb16)
    have Fb := hid (Fb.out.below hb16)
    have Pa := hid (Pa.out.below hb16)
    have Pb := hid (Pb.out.below hb16)
    have U1 := hid (U1.out.below hb16)
    have U2 := hid (U2.out.below hb16)
    have Bq := hid (Bq.out.below hb16)
    have Br := hid (Br.out.below hb16)
    have U3 := hid (U3.out.below hb16)
    have U4 := hid (U4.out.below hb16)
    have Bx := hid (Bx.out.below hb16)
    have By := hid (By.out.below hb16)
    clear hb16
    go_wp2_with fail
    refine (awake_any _).mono ?_
    rintro e W17 ⟨rfl, hb17⟩
    have HB := hid (bw_step HB.out hb17)
    have Fa := hid (Fa.out.below hb17)
    have Fb := hid (Fb.out.below hb17)
    have Pa := hid (Pa.out.below hb17)
    have Pb := hid (Pb.out.below hb17)
    have U1 := hid (U1.out.below hb17)
    have U2 := hid (U2.out.below hb17)
    have Bq := hid (Bq.out.below hb17)
    have Br := hid (Br.out.below hb17)
    have U3 := hid (U3.out.below hb17)
    have U4 := hid (U4.out.below hb17)
    have Bx := hid (Bx.out.below hb17)
    have By := hid (By.out.below hb17)
    clear hb17
    go_wp2
    go_ret
    exact ⟨rfl, HB.out⟩
  · have B0 := hid hb0
    clear hb0
    obtain ⟨k18, l18, f18, g18⟩ := id Pa.out.bx
    obtain ⟨k19, l19, f19, g19⟩ := id Pb.out.bx
    go_wp2_with fail
    refine (divMod_any _ _ _ za zb 40 40 Fa.out Fb.out (by decide) B0.out).mono ?_
    rintro e W20 ⟨⟨u1, u2, rfl, hu1, hu2⟩, hb20⟩
    clear k18 l18 f18 g18 k19 l19 f19 g19
    have HB := hid (bw_step HB.out hb20)
    have Fa := hid (Fa.out.below hb20)
    have Fb := hid (Fb.out.below hb20)
    have Pa := hid (Pa.out.below hb20)
    have Pb := hid (Pb.out.below hb20)
    clear hb20
    obtain ⟨q201, A201, n201, c201, rfl⟩ := hu1.form
    obtain ⟨q202, A202, n202, c202, rfl⟩ := hu2.form
    have U1 := hid hu1
    have U2 := hid hu2
    clear hu1 hu2
    have hbb := bw_two W20 (.cells #[.bool q201, .slice A201 n201 c201] 24) (.cells #[.bool q202, .slice A202 n202 c202] 24)
    have Bq : Blk ((W20.alloc (.cells #[.bool q201, .slice A201 n201 c201] 24)).alloc (.cells #[.bool q202, .slice A202 n202 c202] 24)) (W20.heap.size) 24 #[.bool q201, .slice A201 n201 c201] := (Blk.new _ _ _).below (bw_alloc (Below.refl _ _) _)
    have Br : Blk ((W20.alloc (.cells #[.bool q201, .slice A201 n201 c201] 24)).alloc (.cells #[.bool q202, .slice A202 n202 c202] 24)) (W20.heap.size + 1) 24 #[.bool q202, .slice A202 n202 c202] := by have := Blk.new (W20.alloc (.cells #[.bool q201, .slice A201 n201 c201] 24)) 24 #[.bool q202, .slice A202 n202 c202]; rwa [World.size_alloc] at this
    have HB := hid (bw_step HB.out hbb)
    have Fa := hid (Fa.out.below hbb)
    have Fb := hid (Fb.out.below hbb)
    have Pa := hid (Pa.out.below hbb)
    have Pb := hid (Pb.out.below hbb)
    have U1 := hid (U1.out.below hbb)
    have U2 := hid (U2.out.below hbb)
    have Bq := hid Bq
    have Br := hid Br
    clear hbb
    obtain ⟨k21, l21, f21, g21⟩ := id Pa.out.bx
    obtain ⟨k22, l22, f22, g22⟩ := id Pb.out.bx
    go_wp2_with fail
    refine (rdivMod_any _ _ _ za zb 40 (by decide) Fa.out Fb.out B0.out).mono ?_
    rintro e W23 ⟨⟨u1, u2, rfl, hu1, hu2⟩, hb23⟩
    clear k21 l21 f21 g21 k22 l22 f22 g22
    have HB := hid (bw_step HB.out hb23)
    have Fa := hid (Fa.out.below hb23)
    have Fb := hid (Fb.out.below hb23)
    have Pa := hid (Pa.out.below hb23)
    have Pb := hid (Pb.out.below hb23)
    have U1 := hid (U1.out.below hb23)
    have U2 := hid (U2.out.below hb23)
    have Bq := hid (Bq.out.below hb23)
    have Br := hid (Br.out.below hb23)
    clear hb23
    obtain ⟨q231, A231, n231, c231, rfl⟩ := hu1.form
    obtain ⟨q232, A232, n232, c232, rfl⟩ := hu2.form
    have U3 := hid hu1
    have U4 := hid hu2
    clear hu1 hu2
    have hbb := bw_two W23 (.cells #[.bool q231, .slice A231 n231 c231] 24) (.cells #[.bool q232, .slice A232 n232 c232] 24)
    have Bx : Blk ((W23.alloc (.cells #[.bool q231, .slice A231 n231 c231] 24)).alloc (.cells #[.bool q232, .slice A232 n232 c232] 24)) (W23.heap.size) 24 #[.bool q231, .slice A231 n231 c231] := (Blk.new _ _ _).below (bw_alloc (Below.refl _ _) _)
    have By : Blk ((W23.alloc (.cells #[.bool q231, .slice A231 n231 c231] 24)).alloc (.cells #[.bool q232, .slice A232 n232 c232] 24)) (W23.heap.size + 1) 24 #[.bool q232, .slice A232 n232 c232] := by have := Blk.new (W23.alloc (.cells #[.bool q231, .slice A231 n231 c231] 24)) 24 #[.bool q232, .slice A232 n232 c232]; rwa [World.size_alloc] at this
    have HB := hid (bw_step HB.out hbb)
    have Fa := hid (Fa.out.below hbb)
    have Fb := hid (Fb.out.below hbb)
    have Pa := hid (Pa.out.below hbb)
    have Pb := hid (Pb.out.below hbb)
    have U1 := hid (U1.out.below hbb)
    have U2 := hid (U2.out.below hbb)
    have Bq := hid (Bq.out.below hbb)
    have Br := hid (Br.out.below hbb)
    have U3 := hid (U3.out.below hbb)
    have U4 := hid (U4.out.below hbb)
    have Bx := hid Bx
    have By := hid By
    clear hbb
    obtain ⟨k24, l24, f24, g24⟩ := id Bq.out.bx
    obtain ⟨k25, l25, f25, g25⟩ := id Bx.out.bx
    go_wp2_with fail
    refine (rsame_any _ _ _ (za / zb) (za / zb) U1.out U3.out).mono ?_
    rintro e W26 ⟨he, hb26⟩
    rw [decide_eq_true rfl] at he
    subst he
    clear k24 l24 f24 g24 k25 l25 f25 g25
    have HB := hid (bw_step HB.out hb26)
    have Fa := hid (Fa.out.below hb26)
    have Fb := hid (Fb.out.below hb26)
    have Pa := hid (Pa.out.below hb26)
    have Pb := hid (Pb.out.below hb26)
    have U1 := hid (U1.out.below hb26)
    have U2 := hid (U2.out.below hb26)
    have Bq := hid (Bq.out.below hb26)
    have Br := hid (Br.out.below hb26)
    have U3 := hid (U3.out.below hb26)
    have U4 := hid (U4.out.below hb26)
    have Bx := hid (Bx.out.below hb26)
    have By := hid (By.out.below hb26)
    clear hb26
    obtain ⟨k27, l27, f27, g27⟩ := id Br.out.bx
    obtain ⟨k28, l28, f28, g28⟩ := id By.out.bx
    go_wp2_with fail
    refine (rsame_any _ _ _ (za % zb) (za % zb) U2.out U4.out).mono ?_
    rintro e W29 ⟨he, hb29⟩
    rw [decide_eq_true rfl] at he
    subst he
    clear k27 l27 f27 g27 k28 l28 f28 g28
    have HB := hid (bw_step HB.out hb29)
    have Fa := hid (Fa.out.below hb29)
    have Fb := hid (Fb.out.below hb29)
    have Pa := hid (Pa.out.below hb29)
    have Pb := hid (Pb.out.below hb29)
    have U1 := hid (U1.out.below hb29)
    have U2 := hid (U2.out.below hb29)
    have Bq := hid (Bq.out.below hb29)
    have Br := hid (Br.out.below hb29)
    have U3 := hid (U3.out.below hb29)
    have U4 := hid (U4.out.below hb29)
    have Bx := hid (Bx.out.below hb29)
    have By := hid (By.out.below hb29)
    clear hb29
    go_wp2_with fail
    refine (awake_any _).mono ?_
    rintro e W30 ⟨rfl, hb30⟩
    have HB := hid (bw_step HB.out hb30)
    have Fa := hid (Fa.out.below hb30)
    have Fb := hid (Fb.out.below hb30)
    have Pa := hid (Pa.out.below hb30)
    have Pb := hid (Pb.out.below hb30)
    have U1 := hid (U1.out.below hb30)
    have U2 := hid (U2.out.below hb30)
    have Bq := hid (Bq.out.below hb30)
    have Br := hid (Br.out.below hb30)
    have U3 := hid (U3.out.below hb30)
    have U4 := hid (U4.out.below hb30)
    have Bx := hid (Bx.out.below hb30)
    have By := hid (By.out.below hb30)
    clear hb30
    go_wp2
    go_ret
    exact ⟨rfl, HB.out⟩
theorem integerDivides_walk (w : World) (va : Value) (ha : ArgI w va) (vb : Value) (hb : ArgI w vb) :
    Calls Try.prog 7 #[va, vb] w fun e w' => e = .returned (.bool true) ∧ Below w.heap.size w w' := by
  obtain ⟨sa, Aa, na, ca, rfl, _, _⟩ := id ha
  obtain ⟨sb, Ab, nb, cb, rfl, _, _⟩ := id hb
  rcases ha.short 40 (by decide) with ka | ⟨ka, za, fa⟩
  · exact integerDivides_long0 w sa Aa na ca sb Ab nb cb ka
  rcases hb.short 40 (by decide) with kb | ⟨kb, zb, fb⟩
  · exact integerDivides_long1 w sa Aa na ca sb Ab nb cb ka kb
  exact integerDivides_short w sa Aa na ca sb Ab nb cb ka za fa kb zb fb
end Go.Proofs.Ytdbgalohppfkfaa
