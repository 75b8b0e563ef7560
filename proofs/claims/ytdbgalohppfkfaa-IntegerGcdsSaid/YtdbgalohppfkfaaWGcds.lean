/- The law IntegerGcds: its walk. -/
import Derived.Test.YtdbgalohppfkfaaAwake
import Derived.Test.YtdbgalohppfkfaaGcd
import Derived.Test.YtdbgalohppfkfaaRSame
import Derived.Test.YtdbgalohppfkfaaArg
namespace Go.Proofs.Ytdbgalohppfkfaa
open Go.RowKit
set_option linter.unusedVariables false
set_option maxRecDepth 100000

theorem integerGcds_long0 (w : World) (sa : Bool) (Aa : Option Addr) (na ca : Nat) (sb : Bool) (Ab : Option Addr) (nb cb : Nat)  (ha : 12 < na) :
    Calls Try.prog 12 #[.agg #[.bool sa, .slice Aa na ca], .agg #[.bool sb, .slice Ab nb cb]] w fun e w' => e = .returned (.bool true) ∧ Below w.heap.size w w' := by
  have hda : decide ((12 : Int) < (na : Int)) = true := by rw [decide_eq_true_eq]; omega
  have HB := hid (Below.refl w.heap.size w)
  obtain ⟨W, hW⟩ : ∃ W, W = ((w.alloc (.cells #[.bool sa, .slice Aa na ca] 24)).alloc (.cells #[.bool sb, .slice Ab nb cb] 24)) := ⟨_, rfl⟩
  have hbb : Below w.heap.size w W := by rw [hW]; exact (bw_alloc (bw_alloc (Below.refl _ _) _) _)
  have HB := hid (bw_step HB.out hbb)
  have Pa : Hid (Blk W (w.heap.size) 24 #[.bool sa, .slice Aa na ca]) := by
    rw [hW]
    have := (Blk.new w 24 #[.bool sa, .slice Aa na ca]).below (bw_alloc (Below.refl _ _) (.cells #[.bool sb, .slice Ab nb cb] 24))
    exact hid (by simpa only [World.size_alloc] using this)
  have Pb : Hid (Blk W (w.heap.size + 1) 24 #[.bool sb, .slice Ab nb cb]) := by
    rw [hW]
    have := Blk.new (w.alloc (.cells #[.bool sa, .slice Aa na ca] 24)) 24 #[.bool sb, .slice Ab nb cb]
    exact hid (by simpa only [World.size_alloc] using this)
  clear hbb
  obtain ⟨k1, l1, f1, g1⟩ := id Pa.out.bx
  go_enter Try.func12, Try.ntmps12
  go_wp2_with fail
  rw [← hW]
  clear hW
  refine (awake_any _).mono ?_
  rintro e W2 ⟨rfl, hb2⟩
  clear k1 l1 f1 g1
  have HB := hid (bw_step HB.out hb2)
  have Pa := hid (Pa.out.below hb2)
  have Pb := hid (Pb.out.below hb2)
  clear hb2
  go_wp2
  go_ret
  exact ⟨rfl, HB.out⟩
theorem integerGcds_long1 (w : World) (sa : Bool) (Aa : Option Addr) (na ca : Nat) (sb : Bool) (Ab : Option Addr) (nb cb : Nat) (ha : na ≤ 12) (hb : 12 < nb) :
    Calls Try.prog 12 #[.agg #[.bool sa, .slice Aa na ca], .agg #[.bool sb, .slice Ab nb cb]] w fun e w' => e = .returned (.bool true) ∧ Below w.heap.size w w' := by
  have hda : decide ((12 : Int) < (na : Int)) = false := by rw [decide_eq_false_iff_not]; omega
  have hdb : decide ((12 : Int) < (nb : Int)) = true := by rw [decide_eq_true_eq]; omega
  have HB := hid (Below.refl w.heap.size w)
  obtain ⟨W, hW⟩ : ∃ W, W = ((w.alloc (.cells #[.bool sa, .slice Aa na ca] 24)).alloc (.cells #[.bool sb, .slice Ab nb cb] 24)) := ⟨_, rfl⟩
  have hbb : Below w.heap.size w W := by rw [hW]; exact (bw_alloc (bw_alloc (Below.refl _ _) _) _)
  have HB := hid (bw_step HB.out hbb)
  have Pa : Hid (Blk W (w.heap.size) 24 #[.bool sa, .slice Aa na ca]) := by
    rw [hW]
    have := (Blk.new w 24 #[.bool sa, .slice Aa na ca]).below (bw_alloc (Below.refl _ _) (.cells #[.bool sb, .slice Ab nb cb] 24))
    exact hid (by simpa only [World.size_alloc] using this)
  have Pb : Hid (Blk W (w.heap.size + 1) 24 #[.bool sb, .slice Ab nb cb]) := by
    rw [hW]
    have := Blk.new (w.alloc (.cells #[.bool sa, .slice Aa na ca] 24)) 24 #[.bool sb, .slice Ab nb cb]
    exact hid (by simpa only [World.size_alloc] using this)
  clear hbb
  obtain ⟨k1, l1, f1, g1⟩ := id Pa.out.bx
  obtain ⟨k2, l2, f2, g2⟩ := id Pb.out.bx
  go_enter Try.func12, Try.ntmps12
  go_wp2_with fail
  rw [← hW]
  clear hW
  refine (awake_any _).mono ?_
  rintro e W3 ⟨rfl, hb3⟩
  clear k1 l1 f1 g1 k2 l2 f2 g2
  have HB := hid (bw_step HB.out hb3)
  have Pa := hid (Pa.out.below hb3)
  have Pb := hid (Pb.out.below hb3)
  clear hb3
  go_wp2
  go_ret
  exact ⟨rfl, HB.out⟩
set_option maxHeartbeats 8000000 in
theorem integerGcds_short (w : World) (sa : Bool) (Aa : Option Addr) (na ca : Nat) (sb : Bool) (Ab : Option Addr) (nb cb : Nat) (ha : na ≤ 12) (za : Int) (fa : IntA w (.agg #[.bool sa, .slice Aa na ca]) za 12) (hb : nb ≤ 12) (zb : Int) (fb : IntA w (.agg #[.bool sb, .slice Ab nb cb]) zb 12) :
    Calls Try.prog 12 #[.agg #[.bool sa, .slice Aa na ca], .agg #[.bool sb, .slice Ab nb cb]] w fun e w' => e = .returned (.bool true) ∧ Below w.heap.size w w' := by
  have hda : decide ((12 : Int) < (na : Int)) = false := by rw [decide_eq_false_iff_not]; omega
  have Fa := hid fa
  have hdb : decide ((12 : Int) < (nb : Int)) = false := by rw [decide_eq_false_iff_not]; omega
  have Fb := hid fb
  clear fa fb
  have HB := hid (Below.refl w.heap.size w)
  obtain ⟨W, hW⟩ : ∃ W, W = ((w.alloc (.cells #[.bool sa, .slice Aa na ca] 24)).alloc (.cells #[.bool sb, .slice Ab nb cb] 24)) := ⟨_, rfl⟩
  have hbb : Below w.heap.size w W := by rw [hW]; exact (bw_alloc (bw_alloc (Below.refl _ _) _) _)
  have HB := hid (bw_step HB.out hbb)
  have Fa := hid (Fa.out.below hbb)
  have Fb := hid (Fb.out.below hbb)
  have Pa : Hid (Blk W (w.heap.size) 24 #[.bool sa, .slice Aa na ca]) := by
    rw [hW]
    have := (Blk.new w 24 #[.bool sa, .slice Aa na ca]).below (bw_alloc (Below.refl _ _) (.cells #[.bool sb, .slice Ab nb cb] 24))
    exact hid (by simpa only [World.size_alloc] using this)
  have Pb : Hid (Blk W (w.heap.size + 1) 24 #[.bool sb, .slice Ab nb cb]) := by
    rw [hW]
    have := Blk.new (w.alloc (.cells #[.bool sa, .slice Aa na ca] 24)) 24 #[.bool sb, .slice Ab nb cb]
    exact hid (by simpa only [World.size_alloc] using this)
  clear hbb
  obtain ⟨k1, l1, f1, g1⟩ := id Pa.out.bx
  obtain ⟨k2, l2, f2, g2⟩ := id Pb.out.bx
  have SM3 : Hid (Sm 12 ((Int.gcd za zb : Nat) : Int)) := hid ((Fa.out.sm).gcd (Fb.out.sm))
  have SM4 : Hid (Sm 12 ((Int.gcd za zb : Nat) : Int)) := hid ((Fa.out.sm).gcd (Fb.out.sm))
  obtain ⟨k7, l7, f7, g7⟩ := id Pa.out.bx
  obtain ⟨k8, l8, f8, g8⟩ := id Pb.out.bx
  go_enter Try.func12, Try.ntmps12
  go_wp2_with fail
  rw [← hW]
  clear hW
  go_region_held3 (fun w' => w'.cell? ⟨w.heap.size, 0, none⟩ = some (.bool sa) ∧ w'.cell? ⟨w.heap.size, 1, none⟩ = some (.slice Aa na ca) ∧ w'.cell? ⟨w.heap.size + 1, 0, none⟩ = some (.bool sb) ∧ w'.cell? ⟨w.heap.size + 1, 1, none⟩ = some (.slice Ab nb cb) ∧ Hid (Below W.heap.size W w'))
    (first
      | exact ⟨k7, l7, k8, l8, bw_drew _⟩
      | (go_split_ands; have hh := bw_keep (by assumption) (by assumption); exact ⟨cell_below hh k7, cell_below hh l7, cell_below hh k8, cell_below hh l8, hh⟩)
      | (go_split_ands; exact ⟨by assumption, by assumption, by assumption, by assumption, below_drewN (Hid.out (by assumption)) _⟩))
    (first
      | (go_at_call 40; (with_reducible refine (gcd_any _ (.agg #[.bool sa, .slice Aa na ca]) (.agg #[.bool sb, .slice Ab nb cb]) (za) (zb) 12 (by omega) ?g3_0 ?g3_1).mono ?_); (case g3_0 => (go_split_ands; exact Fa.out.below (Hid.out (by assumption)))); (case g3_1 => (go_split_ands; exact Fb.out.below (Hid.out (by assumption)))); rintro e w3 ⟨⟨v3, rfl, hv3⟩, hb3⟩)
      | (go_at_call 41; (with_reducible refine (rgcd_any _ (.agg #[.bool sa, .slice Aa na ca]) (.agg #[.bool sb, .slice Ab nb cb]) (za) (zb) 12 (by omega) ?g4_0 ?g4_1).mono ?_); (case g4_0 => (go_split_ands; exact Fa.out.below (Hid.out (by assumption)))); (case g4_1 => (go_split_ands; exact Fb.out.below (Hid.out (by assumption)))); rintro e w4 ⟨⟨v4, rfl, hv4⟩, hb4⟩)
      | (go_at_call 23; (with_reducible refine (rsame_any _ (v3) (v4) (((Int.gcd za zb : Nat) : Int)) (((Int.gcd za zb : Nat) : Int)) ?g5_0 ?g5_1).mono ?_); (case g5_0 => (exact (hv3.below hb4))); (case g5_1 => (exact hv4)); rintro e w5 ⟨he, hb5⟩; rw [decide_eq_true rfl] at he; subst he)
      | (go_at_call 20; (with_reducible refine (awake_any _).mono ?_); rintro e w6 ⟨rfl, hb6⟩))
  rename_i hH
  have HW := hid hH.2.2.2.2.out
  clear hH
  clear k1 l1 f1 g1 k2 l2 f2 g2 k7 l7 f7 g7 k8 l8 f8 g8
  have HB := hid (bw_step HB.out HW.out)
  have Fa := hid (Fa.out.below HW.out)
  have Fb := hid (Fb.out.below HW.out)
  have Pa := hid (Pa.out.below HW.out)
  have Pb := hid (Pb.out.below HW.out)
  clear HW
  go_wp2
  go_ret
  exact ⟨rfl, HB.out⟩
theorem integerGcds_walk (w : World) (va : Value) (ha : ArgI w va) (vb : Value) (hb : ArgI w vb) :
    Calls Try.prog 12 #[va, vb] w fun e w' => e = .returned (.bool true) ∧ Below w.heap.size w w' := by
  obtain ⟨sa, Aa, na, ca, rfl, _, _⟩ := id ha
  obtain ⟨sb, Ab, nb, cb, rfl, _, _⟩ := id hb
  rcases ha.short 12 (by decide) with ka | ⟨ka, za, fa⟩
  · exact integerGcds_long0 w sa Aa na ca sb Ab nb cb ka
  rcases hb.short 12 (by decide) with kb | ⟨kb, zb, fb⟩
  · exact integerGcds_long1 w sa Aa na ca sb Ab nb cb ka kb
  exact integerGcds_short w sa Aa na ca sb Ab nb cb ka za fa kb zb fb
end Go.Proofs.Ytdbgalohppfkfaa
