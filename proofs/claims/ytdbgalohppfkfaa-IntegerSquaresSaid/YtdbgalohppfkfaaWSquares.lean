/- The law IntegerSquares: its walk. -/
import Derived.Test.YtdbgalohppfkfaaAwake
import Derived.Test.YtdbgalohppfkfaaRSqrt
import Derived.Test.YtdbgalohppfkfaaRSame
import Derived.Test.YtdbgalohppfkfaaRDivZero
import Derived.Test.YtdbgalohppfkfaaRAbs
import Derived.Test.YtdbgalohppfkfaaRMul
import Derived.Test.YtdbgalohppfkfaaArg
namespace Go.Proofs.Ytdbgalohppfkfaa
open Go.RowKit
set_option linter.unusedVariables false
set_option maxRecDepth 100000

theorem root_between {X m : Int} (hX : 0 ≤ X) (h0 : 0 ≤ m) (h1 : m < X + X + 1) : isRoot (X * X + m) X := by
  refine ⟨hX, by omega, ?_⟩
  have : (X + 1) * (X + 1) = X * X + (X + X + 1) := by grind
  omega
theorem root_square {X : Int} (hX : 0 ≤ X) : isRoot (X * X) X := by
  have := root_between hX (show (0 : Int) ≤ 0 by decide) (by omega)
  rwa [Int.add_zero] at this

theorem integerSquares_long0 (w : World) (sa : Bool) (Aa : Option Addr) (na ca : Nat) (sb : Bool) (Ab : Option Addr) (nb cb : Nat)  (ha : 10 < na) :
    Calls Try.prog 10 #[.agg #[.bool sa, .slice Aa na ca], .agg #[.bool sb, .slice Ab nb cb]] w fun e w' => e = .returned (.bool true) ∧ Below w.heap.size w w' := by
  have hda : decide ((10 : Int) < (na : Int)) = true := by rw [decide_eq_true_eq]; omega
  have HB := hid (Below.refl w.heap.size w)
  obtain ⟨W, hW⟩ : ∃ W, W = ((w.alloc (.cells #[.bool sa, .slice Aa na ca] 24)).alloc (.cells #[.bool sb, .slice Ab nb cb] 24)) := ⟨_, rfl⟩
  have hbb : Below w.heap.size w W := by rw [hW]; exact (bw_alloc (bw_alloc (Below.refl _ _) _) _)
  have HB := hid (bw_step HB.out hbb)
  have Pa : Hid (Blk W (w.heap.size) 24 #[.bool sa, .slice Aa na ca]) := by
    rw [hW]
    have := (Blk.new w 24 #[.bool sa, .slice Aa na ca]).below (bw_alloc (Below.refl _ _) (.cells #[.bool sb, .slice Ab nb cb] 24))
    exact hid (by simpa only [World.size_alloc] using this)
  have Pb : Hid (Blk W (w.heap.size + 1) 24 #[.bool sb, .slice Ab nb cb]) := by
    rw [hW]
    have := Blk.new (w.alloc (.cells #[.bool sa, .slice Aa na ca] 24)) 24 #[.bool sb, .slice Ab nb cb]
    exact hid (by simpa only [World.size_alloc] using this)
  clear hbb
  obtain ⟨k1, l1, f1, g1⟩ := id Pa.out.bx
  go_enter Try.func10, Try.ntmps10
  go_wp2_with fail
  rw [← hW]
  clear hW
  refine (awake_any _).mono ?_
  rintro e W2 ⟨rfl, hb2⟩
  clear k1 l1 f1 g1
  have HB := hid (bw_step HB.out hb2)
  have Pa := hid (Pa.out.below hb2)
  have Pb := hid (Pb.out.below hb2)
  clear hb2
  go_wp2
  go_ret
  exact ⟨rfl, HB.out⟩
theorem integerSquares_long1 (w : World) (sa : Bool) (Aa : Option Addr) (na ca : Nat) (sb : Bool) (Ab : Option Addr) (nb cb : Nat) (ha : na ≤ 10) (hb : 10 < nb) :
    Calls Try.prog 10 #[.agg #[.bool sa, .slice Aa na ca], .agg #[.bool sb, .slice Ab nb cb]] w fun e w' => e = .returned (.bool true) ∧ Below w.heap.size w w' := by
  have hda : decide ((10 : Int) < (na : Int)) = false := by rw [decide_eq_false_iff_not]; omega
  have hdb : decide ((10 : Int) < (nb : Int)) = true := by rw [decide_eq_true_eq]; omega
  have HB := hid (Below.refl w.heap.size w)
  obtain ⟨W, hW⟩ : ∃ W, W = ((w.alloc (.cells #[.bool sa, .slice Aa na ca] 24)).alloc (.cells #[.bool sb, .slice Ab nb cb] 24)) := ⟨_, rfl⟩
  have hbb : Below w.heap.size w W := by rw [hW]; exact (bw_alloc (bw_alloc (Below.refl _ _) _) _)
  have HB := hid (bw_step HB.out hbb)
  have Pa : Hid (Blk W (w.heap.size) 24 #[.bool sa, .slice Aa na ca]) := by
    rw [hW]
    have := (Blk.new w 24 #[.bool sa, .slice Aa na ca]).below (bw_alloc (Below.refl _ _) (.cells #[.bool sb, .slice Ab nb cb] 24))
    exact hid (by simpa only [World.size_alloc] using this)
  have Pb : Hid (Blk W (w.heap.size + 1) 24 #[.bool sb, .slice Ab nb cb]) := by
    rw [hW]
    have := Blk.new (w.alloc (.cells #[.bool sa, .slice Aa na ca] 24)) 24 #[.bool sb, .slice Ab nb cb]
    exact hid (by simpa only [World.size_alloc] using this)
  clear hbb
  obtain ⟨k1, l1, f1, g1⟩ := id Pa.out.bx
  obtain ⟨k2, l2, f2, g2⟩ := id Pb.out.bx
  go_enter Try.func10, Try.ntmps10
  go_wp2_with fail
  rw [← hW]
  clear hW
  refine (awake_any _).mono ?_
  rintro e W3 ⟨rfl, hb3⟩
  clear k1 l1 f1 g1 k2 l2 f2 g2
  have HB := hid (bw_step HB.out hb3)
  have Pa := hid (Pa.out.below hb3)
  have Pb := hid (Pb.out.below hb3)
  clear hb3
  go_wp2
  go_ret
  exact ⟨rfl, HB.out⟩
set_option maxHeartbeats 8000000 in
theorem integerSquares_short (w : World) (sa : Bool) (Aa : Option Addr) (na ca : Nat) (sb : Bool) (Ab : Option Addr) (nb cb : Nat) (ha : na ≤ 10) (za : Int) (fa : IntA w (.agg #[.bool sa, .slice Aa na ca]) za 10) (hb : nb ≤ 10) (zb : Int) (fb : IntA w (.agg #[.bool sb, .slice Ab nb cb]) zb 10) :
    Calls Try.prog 10 #[.agg #[.bool sa, .slice Aa na ca], .agg #[.bool sb, .slice Ab nb cb]] w fun e w' => e = .returned (.bool true) ∧ Below w.heap.size w w' := by
  have hda : decide ((10 : Int) < (na : Int)) = false := by rw [decide_eq_false_iff_not]; omega
  have Fa := hid fa
  have hdb : decide ((10 : Int) < (nb : Int)) = false := by rw [decide_eq_false_iff_not]; omega
  have Fb := hid fb
  clear fa fb
  have HB := hid (Below.refl w.heap.size w)
  obtain ⟨W, hW⟩ : ∃ W, W = ((w.alloc (.cells #[.bool sa, .slice Aa na ca] 24)).alloc (.cells #[.bool sb, .slice Ab nb cb] 24)) := ⟨_, rfl⟩
  have hbb : Below w.heap.size w W := by rw [hW]; exact (bw_alloc (bw_alloc (Below.refl _ _) _) _)
  have HB := hid (bw_step HB.out hbb)
  have Fa := hid (Fa.out.below hbb)
  have Fb := hid (Fb.out.below hbb)
  have Pa : Hid (Blk W (w.heap.size) 24 #[.bool sa, .slice Aa na ca]) := by
    rw [hW]
    have := (Blk.new w 24 #[.bool sa, .slice Aa na ca]).below (bw_alloc (Below.refl _ _) (.cells #[.bool sb, .slice Ab nb cb] 24))
    exact hid (by simpa only [World.size_alloc] using this)
  have Pb : Hid (Blk W (w.heap.size + 1) 24 #[.bool sb, .slice Ab nb cb]) := by
    rw [hW]
    have := Blk.new (w.alloc (.cells #[.bool sa, .slice Aa na ca] 24)) 24 #[.bool sb, .slice Ab nb cb]
    exact hid (by simpa only [World.size_alloc] using this)
  clear hbb
  obtain ⟨k1, l1, f1, g1⟩ := id Pa.out.bx
  obtain ⟨k2, l2, f2, g2⟩ := id Pb.out.bx
  obtain ⟨k3, l3, f3, g3⟩ := id Pa.out.bx
  go_enter Try.func10, Try.ntmps10
  go_wp2_with fail
  rw [← hW]
  clear hW
  refine (rabs_any _ _ za 10 Fa.out).mono ?_
  rintro e W4 ⟨⟨v, rfl, hv⟩, hb4⟩
  clear k1 l1 f1 g1 k2 l2 f2 g2 k3 l3 f3 g3
  have HB := hid (bw_step HB.out hb4)
  have Fa := hid (Fa.out.below hb4)
  have Fb := hid (Fb.out.below hb4)
  have Pa := hid (Pa.out.below hb4)
  have Pb := hid (Pb.out.below hb4)
  clear hb4
  obtain ⟨q41, A41, n41, c41, rfl⟩ := hv.form
  have x := hid hv
  clear hv
  have hbb := bw_alloc (Below.refl _ W4) (.cells #[.bool q41, .slice A41 n41 c41] 24)
  have Xx := Blk.new W4 24 #[.bool q41, .slice A41 n41 c41]
  have HB := hid (bw_step HB.out hbb)
  have Fa := hid (Fa.out.below hbb)
  have Fb := hid (Fb.out.below hbb)
  have Pa := hid (Pa.out.below hbb)
  have Pb := hid (Pb.out.below hbb)
  have x := hid (x.out.below hbb)
  have Xx := hid Xx
  clear hbb
  obtain ⟨X, hX⟩ : ∃ X : Int, X = (za.natAbs : Int) := ⟨_, rfl⟩
  have X0 := hid (show 0 ≤ X by omega)
  have SX := hid (show Sm 10 X by rw [hX]; exact Fa.out.sm.absv)
  rw [← hX] at x
  clear hX
  obtain ⟨k5, l5, f5, g5⟩ := id Xx.out.bx
  go_wp2_with fail
  refine (rmul_any _ _ _ X X 10 10 (x.out.arg SX.out) (x.out.arg SX.out) (by decide) (by decide)).mono ?_
  rintro e W6 ⟨⟨v, rfl, hv⟩, hb6⟩
  clear k5 l5 f5 g5
  have HB := hid (bw_step HB.out hb6)
  have Fa := hid (Fa.out.below hb6)
  have Fb := hid (Fb.out.below hb6)
  have Pa := hid (Pa.out.below hb6)
  have Pb := hid (Pb.out.below hb6)
  have x := hid (x.out.below hb6)
  have Xx := hid (Xx.out.below hb6)
  clear hb6
  obtain ⟨q61, A61, n61, c61, rfl⟩ := hv.form
  have sq := hid hv
  clear hv
  have hbb := bw_alloc (Below.refl _ W6) (.cells #[.bool q61, .slice A61 n61 c61] 24)
  have Xsq := Blk.new W6 24 #[.bool q61, .slice A61 n61 c61]
  have HB := hid (bw_step HB.out hbb)
  have Fa := hid (Fa.out.below hbb)
  have Fb := hid (Fb.out.below hbb)
  have Pa := hid (Pa.out.below hbb)
  have Pb := hid (Pb.out.below hbb)
  have x := hid (x.out.below hbb)
  have Xx := hid (Xx.out.below hbb)
  have sq := hid (sq.out.below hbb)
  have Xsq := hid Xsq
  clear hbb
  have SD := hid (show Sm 11 (X + X + 1) from by have h1 := SX.out; have h0 := X0.out; have h2 : bp 11 = 4294967296 * bp 10 := bp_succ 10; have h3 := bp_pos 10; exact ⟨by omega, by have := h1.2; omega⟩)
  have D0 := hid (show X + X + 1 ≠ 0 by have := X0.out; omega)
  have SB := hid (Fb.out.sm.absv.to (show 10 ≤ 11 by decide))
  have SM := hid (show Sm 11 ((zb.natAbs : Int) % (X + X + 1)) from SD.out.rem D0.out)
  go_wp2_with fail
  have SM7 : Hid (Sm 10 (((zb).natAbs : Nat) : Int)) := hid ((Fb.out.sm).absv)
  have SM8 : Hid (Sm 11 (X + X)) := hid ((SX.out).plus (SX.out) (by omega) (by omega))
  have SM9 : Hid (Sm 12 (X + X + 1)) := hid (SD.out.to (by decide))
  have lt9_Pa := Pa.out.lt
  have lt9_Pb := Pb.out.lt
  have lt9_Xx := Xx.out.lt
  have lt9_Xsq := Xsq.out.lt
  refine wp_region_each (by kernel_rfl) 10 65 rfl rfl (by kernel_rfl)
    [Fact.eq (.agg #[.bool sb, .slice Ab nb cb]), Fact.int (((zb).natAbs : Nat) : Int), Fact.eq (.agg #[.bool q41, .slice A41 n41 c41]), Fact.eq (.agg #[.bool q41, .slice A41 n41 c41]), Fact.int (X + X), Fact.int 1, Fact.int (X + X + 1), Fact.int ((zb.natAbs : Int) % (X + X + 1)), Fact.box ((zb.natAbs : Int) % (X + X + 1)), Fact.top _]
    [.val, .val, .val, .val, .val, .val, .val, .val, .alloc 9, .fill 8]
    (fun w' => IntA w' (.agg #[.bool sa, .slice Aa na ca]) (za) 10 ∧ IntA w' (.agg #[.bool sb, .slice Ab nb cb]) (zb) 10 ∧ Blk w' (w.heap.size) 24 #[.bool sa, .slice Aa na ca] ∧ Blk w' (w.heap.size + 1) 24 #[.bool sb, .slice Ab nb cb] ∧ IntV w' (.agg #[.bool q41, .slice A41 n41 c41]) (X) ∧ Blk w' (W4.heap.size) 24 #[.bool q41, .slice A41 n41 c41] ∧ IntV w' (.agg #[.bool q61, .slice A61 n61 c61]) ((X * X)) ∧ Blk w' (W6.heap.size) 24 #[.bool q61, .slice A61 n61 c61] ∧ Below w.heap.size w w')
    (fun _ _ _ => True) [] (fun _ => 0) (by kernel_rfl)
    ⟨Fa.out, Fb.out, Pa.out, Pb.out, x.out, Xx.out, sq.out, Xsq.out, HB.out⟩
    (fun w1 w2 ⟨h0, h1, h2, h3, h4, h5, h6, h7, h8⟩ hb => ⟨h0.below hb, h1.below hb, h2.below hb, h3.below hb, h4.below hb, h5.below hb, h6.below hb, h7.below hb, bw_step h8 hb⟩)
    (fun w1 w2 g ⟨h0, h1, h2, h3, h4, h5, h6, h7, h8⟩ hg hn ho => by
      have hg' : (W6.alloc (.cells #[.bool q61, .slice A61 n61 c61] 24)).heap.size ≤ g := hg.elim id (fun ⟨_, h, _⟩ => absurd h (Nat.not_lt_zero _))
      exact ⟨h0.only hn ho, h1.only hn ho, h2.only ho (by have := Pa.out.lt; have := Pb.out.lt; have := Xx.out.lt; have := Xsq.out.lt; omega), h3.only ho (by have := Pa.out.lt; have := Pb.out.lt; have := Xx.out.lt; have := Xsq.out.lt; omega), h4.only hn ho, h5.only ho (by have := Pa.out.lt; have := Pb.out.lt; have := Xx.out.lt; have := Xsq.out.lt; omega), h6.only hn ho, h7.only ho (by have := Pa.out.lt; have := Pb.out.lt; have := Xx.out.lt; have := Xsq.out.lt; omega), below_only h8 ho (by have := Pa.out.lt; have := Pb.out.lt; have := Xx.out.lt; have := Xsq.out.lt; have := HB.out.size; omega)⟩)
    (fun l h => trivial) (fun l b w1 w2 h _ _ => trivial) (fun l b w1 w2 g h _ _ _ _ => trivial) (fun l h => by cases h) (fun l k h => by cases h) ?_ ?_
  · refine ⟨?_, ?_, ?_, ?_, ?_, ?_, ?_, ?_, ?_, ?_, trivial⟩ <;> intro L V a1 w1 hf hG hsz hφ hψ hL hdep hcl
    · obtain ⟨Fa_, Fb_, Pa_, Pb_, x_, Xx_, sq_, Xsq_, HB_⟩ := hG
      have e3 := old_slot hf 3 (by kernel_rfl)
      exact ob_load_int rfl e3 Pb_ rfl
    · obtain ⟨Fa_, Fb_, Pa_, Pb_, x_, Xx_, sq_, Xsq_, HB_⟩ := hG
      have d0 := dep_of hdep 0 (by kernel_rfl)
      have e28 := (new_slot hf 0 28 d0 (by kernel_rfl)).trans (show V 0 = .agg #[.bool sb, .slice Ab nb cb] from hφ 0 d0)
      refine ob_go rfl (vs := #[.agg #[.bool sb, .slice Ab nb cb]]) (by simp only [List.map_toArray, List.map_cons, List.map_nil, e28]) (by kernel_rfl) (rabs_any _ (.agg #[.bool sb, .slice Ab nb cb]) zb 10 Fb_ ) ?_
      rintro e w2 ⟨⟨v, rfl, hv⟩, hb⟩
      exact ⟨v, rfl, hb, hv⟩
    · obtain ⟨Fa_, Fb_, Pa_, Pb_, x_, Xx_, sq_, Xsq_, HB_⟩ := hG
      have e5 := old_slot hf 5 (by kernel_rfl)
      exact ob_load_int rfl e5 Xx_ rfl
    · obtain ⟨Fa_, Fb_, Pa_, Pb_, x_, Xx_, sq_, Xsq_, HB_⟩ := hG
      have e5 := old_slot hf 5 (by kernel_rfl)
      exact ob_load_int rfl e5 Xx_ rfl
    · obtain ⟨Fa_, Fb_, Pa_, Pb_, x_, Xx_, sq_, Xsq_, HB_⟩ := hG
      have d2 := dep_of hdep 2 (by kernel_rfl)
      have e30 := (new_slot hf 2 30 d2 (by kernel_rfl)).trans (show V 2 = .agg #[.bool q41, .slice A41 n41 c41] from hφ 2 d2)
      have d3 := dep_of hdep 3 (by kernel_rfl)
      have e31 := (new_slot hf 3 31 d3 (by kernel_rfl)).trans (show V 3 = .agg #[.bool q41, .slice A41 n41 c41] from hφ 3 d3)
      refine ob_go rfl (vs := #[.agg #[.bool q41, .slice A41 n41 c41], .agg #[.bool q41, .slice A41 n41 c41]]) (by simp only [List.map_toArray, List.map_cons, List.map_nil, e30, e31]) (by kernel_rfl) (radd_any _ (.agg #[.bool q41, .slice A41 n41 c41]) (.agg #[.bool q41, .slice A41 n41 c41]) X X 10 10 (x_.arg SX.out) (x_.arg SX.out) (by omega) (by omega)) ?_
      rintro e w2 ⟨⟨v, rfl, hv⟩, hb⟩
      exact ⟨v, rfl, hb, hv⟩
    · obtain ⟨Fa_, Fb_, Pa_, Pb_, x_, Xx_, sq_, Xsq_, HB_⟩ := hG
      refine ob_go rfl (vs := #[.int .i64 1]) (by simp only [List.map_toArray, List.map_cons, List.map_nil, ev_const]) (by kernel_rfl) (rsmall_any _ 1 (by decide) (by decide)) ?_
      rintro e w2 ⟨⟨v, rfl, hv⟩, hb⟩
      exact ⟨v, rfl, hb, hv⟩
    · obtain ⟨Fa_, Fb_, Pa_, Pb_, x_, Xx_, sq_, Xsq_, HB_⟩ := hG
      have d4 := dep_of hdep 4 (by kernel_rfl)
      have e32 := new_slot hf 4 32 d4 (by kernel_rfl)
      have p32 : IntV w1 (V 4) (X + X) := hφ 4 d4
      have d5 := dep_of hdep 5 (by kernel_rfl)
      have e33 := new_slot hf 5 33 d5 (by kernel_rfl)
      have p33 : IntV w1 (V 5) 1 := hφ 5 d5
      refine ob_go rfl (vs := #[V 4, V 5]) (by simp only [List.map_toArray, List.map_cons, List.map_nil, e32, e33]) (by kernel_rfl) (radd_any _ (V 4) (V 5) (X + X) 1 11 1 (p32.arg SM8.out) (p33.arg (Sm.one (n := 1) (by decide) (by decide))) (by omega) (by omega)) ?_
      rintro e w2 ⟨⟨v, rfl, hv⟩, hb⟩
      exact ⟨v, rfl, hb, hv⟩
    · obtain ⟨Fa_, Fb_, Pa_, Pb_, x_, Xx_, sq_, Xsq_, HB_⟩ := hG
      have d1 := dep_of hdep 1 (by kernel_rfl)
      have e29 := new_slot hf 1 29 d1 (by kernel_rfl)
      have p29 : IntV w1 (V 1) (((zb).natAbs : Nat) : Int) := hφ 1 d1
      have d6 := dep_of hdep 6 (by kernel_rfl)
      have e34 := new_slot hf 6 34 d6 (by kernel_rfl)
      have p34 : IntV w1 (V 6) (X + X + 1) := hφ 6 d6
      refine ob_go rfl (vs := #[V 1, V 6]) (by simp only [List.map_toArray, List.map_cons, List.map_nil, e29, e34]) (by kernel_rfl) (rrem_any _ _ _ (zb.natAbs : Int) (X + X + 1) 11 (by decide) (p29.arg SB.out) (p34.arg SD.out) D0.out) ?_
      rintro e w2 ⟨⟨v, rfl, hv⟩, hb⟩
      exact ⟨v, rfl, hb, hv⟩
    · obtain ⟨Fa_, Fb_, Pa_, Pb_, x_, Xx_, sq_, Xsq_, HB_⟩ := hG
      exact ob_alloc_int rfl hsz rfl
    · obtain ⟨Fa_, Fb_, Pa_, Pb_, x_, Xx_, sq_, Xsq_, HB_⟩ := hG
      have d7 := dep_of hdep 7 (by kernel_rfl)
      have e35 := new_slot hf 7 35 d7 (by kernel_rfl)
      have p35 : IntV w1 (V 7) ((zb.natAbs : Int) % (X + X + 1)) := hφ 7 d7
      have d8 := dep_of hdep 8 (by kernel_rfl)
      obtain ⟨g, h1, h2, h3⟩ := hφ 8 d8
      exact ob_fill_int rfl ((new_slot hf 8 7 d8 (by kernel_rfl)).trans h1) e35 h1 h2 h3 p35 rfl rfl
  · intro V W10 hG hsz10 hφ hψ hne
    have hlt10 : (W6.alloc (.cells #[.bool q61, .slice A61 n61 c61] 24)).heap.size ≤ W10.heap.size := hsz10
    obtain ⟨Fa_, Fb_, Pa_, Pb_, x_, Xx_, sq_, Xsq_, HB_⟩ := hG
    have Fa := hid Fa_
    have Fb := hid Fb_
    have Pa := hid Pa_
    have Pb := hid Pb_
    have x := hid x_
    have Xx := hid Xx_
    have sq := hid sq_
    have Xsq := hid Xsq_
    have HB := hid HB_
    have y0 : V 0 = .agg #[.bool sb, .slice Ab nb cb] := hφ 0 (by decide)
    have y2 : V 2 = .agg #[.bool q41, .slice A41 n41 c41] := hφ 2 (by decide)
    have y3 : V 3 = .agg #[.bool q41, .slice A41 n41 c41] := hφ 3 (by decide)
    obtain ⟨G10_8, y8, gb1008, q1008, A1008, n1008, c1008, kb1008, vb1008⟩ := hφ 8 (by decide)
    have Xm := hid kb1008
    have m := hid vb1008
    clear kb1008 vb1008
    simp only [puts, Act.put, List.setIfInBounds_toArray, List.set_cons_zero, List.set_cons_succ, y0, y2, y3, y8, ptr]
    clear hφ hψ hne y0 y2 y3 y8 Fa_ Fb_ Pa_ Pb_ x_ Xx_ sq_ Xsq_ HB_ hsz10
    obtain ⟨M, hM⟩ : ∃ M : Int, M = ((zb.natAbs : Int) % (X + X + 1)) := ⟨_, rfl⟩
    have M0 := hid (show 0 ≤ M by rw [hM]; exact Int.emod_nonneg _ D0.out)
    have M1 := hid (show M < X + X + 1 by rw [hM]; exact Int.emod_lt_of_pos _ (by have := X0.out; omega))
    rw [← hM] at m SM
    clear hM
    clear Pa
    clear Pb
    clear Fa
    clear Fb
    obtain ⟨k11, l11, f11, g11⟩ := id Xsq.out.bx
    go_wp2_with fail
    refine (sqrt_any _ _ (X * X) 20 (sq.out.arg (SX.out.times SX.out (by omega))) (Int.mul_nonneg X0.out X0.out) (by decide)).mono ?_
    rintro e W12 ⟨⟨v, r, rfl, hv, hr⟩, hb12⟩
    obtain rfl := (hr.uniq (root_square X0.out)).symm
    clear hr
    clear k11 l11 f11 g11
    have HB := hid (bw_step HB.out hb12)
    have x := hid (x.out.below hb12)
    have Xx := hid (Xx.out.below hb12)
    have sq := hid (sq.out.below hb12)
    have Xsq := hid (Xsq.out.below hb12)
    have Xm := hid (Xm.out.below hb12)
    have m := hid (m.out.below hb12)
    clear hb12
    obtain ⟨q121, A121, n121, c121, rfl⟩ := hv.form
    have rr := hid hv
    clear hv
    have hbb := bw_alloc (Below.refl _ W12) (.cells #[.bool q121, .slice A121 n121 c121] 24)
    have Xrr := Blk.new W12 24 #[.bool q121, .slice A121 n121 c121]
    have HB := hid (bw_step HB.out hbb)
    have x := hid (x.out.below hbb)
    have Xx := hid (Xx.out.below hbb)
    have sq := hid (sq.out.below hbb)
    have Xsq := hid (Xsq.out.below hbb)
    have Xm := hid (Xm.out.below hbb)
    have m := hid (m.out.below hbb)
    have rr := hid (rr.out.below hbb)
    have Xrr := hid Xrr
    clear hbb
    obtain ⟨k13, l13, f13, g13⟩ := id Xsq.out.bx
    obtain ⟨k14, l14, f14, g14⟩ := id Xm.out.bx
    go_wp2_with fail
    refine (radd_any _ _ _ (X * X) M 20 11 (sq.out.arg (SX.out.times SX.out (by omega))) (m.out.arg SM.out) (by decide) (by decide)).mono ?_
    rintro e W15 ⟨⟨v, rfl, hv⟩, hb15⟩
    clear k13 l13 f13 g13 k14 l14 f14 g14
    have HB := hid (bw_step HB.out hb15)
    have x := hid (x.out.below hb15)
    have Xx := hid (Xx.out.below hb15)
    have sq := hid (sq.out.below hb15)
    have Xsq := hid (Xsq.out.below hb15)
    have Xm := hid (Xm.out.below hb15)
    have m := hid (m.out.below hb15)
    have rr := hid (rr.out.below hb15)
    have Xrr := hid (Xrr.out.below hb15)
    clear hb15
    have su := hid hv
    clear hv
    go_wp2_with fail
    refine (sqrt_any _ _ (X * X + M) 21 (su.out.arg ((SX.out.times SX.out (show 20 ≤ 20 by decide)).plus SM.out (by decide) (by decide))) (by have h1 := Int.mul_nonneg X0.out X0.out; have h2 := M0.out; omega) (by decide)).mono ?_
    rintro e W16 ⟨⟨v, r, rfl, hv, hr⟩, hb16⟩
    have HB := hid (bw_step HB.out hb16)
    have x := hid (x.out.below hb16)
    have Xx := hid (Xx.out.below hb16)
    have sq := hid (sq.out.below hb16)
    have Xsq := hid (Xsq.out.below hb16)
    have Xm := hid (Xm.out.below hb16)
    have m := hid (m.out.below hb16)
    have rr := hid (rr.out.below hb16)
    have Xrr := hid (Xrr.out.below hb16)
    have su := hid (su.out.below hb16)
    clear hb16
    obtain rfl := (hr.uniq (root_between X0.out M0.out M1.out)).symm
    clear hr
    obtain ⟨q161, A161, n161, c161, rfl⟩ := hv.form
    have s := hid hv
    clear hv
    clear su
    have hbb := bw_alloc (Below.refl _ W16) (.cells #[.bool q161, .slice A161 n161 c161] 24)
    have Xs := Blk.new W16 24 #[.bool q161, .slice A161 n161 c161]
    have HB := hid (bw_step HB.out hbb)
    have x := hid (x.out.below hbb)
    have Xx := hid (Xx.out.below hbb)
    have sq := hid (sq.out.below hbb)
    have Xsq := hid (Xsq.out.below hbb)
    have Xm := hid (Xm.out.below hbb)
    have m := hid (m.out.below hbb)
    have rr := hid (rr.out.below hbb)
    have Xrr := hid (Xrr.out.below hbb)
    have s := hid (s.out.below hbb)
    have Xs := hid Xs
    clear hbb
    obtain ⟨k17, l17, f17, g17⟩ := id Xrr.out.bx
    obtain ⟨k18, l18, f18, g18⟩ := id Xx.out.bx
    go_wp2_with fail
    refine (rsame_any _ _ _ X X rr.out x.out).mono ?_
    rintro e W19 ⟨he, hb19⟩
    rw [decide_eq_true rfl] at he
    subst he
    clear k17 l17 f17 g17 k18 l18 f18 g18
    have HB := hid (bw_step HB.out hb19)
    have x := hid (x.out.below hb19)
    have Xx := hid (Xx.out.below hb19)
    have sq := hid (sq.out.below hb19)
    have Xsq := hid (Xsq.out.below hb19)
    have Xm := hid (Xm.out.below hb19)
    have m := hid (m.out.below hb19)
    have rr := hid (rr.out.below hb19)
    have Xrr := hid (Xrr.out.below hb19)
    have s := hid (s.out.below hb19)
    have Xs := hid (Xs.out.below hb19)
    clear hb19
    obtain ⟨k20, l20, f20, g20⟩ := id Xs.out.bx
    obtain ⟨k21, l21, f21, g21⟩ := id Xx.out.bx
    go_wp2_with fail
    refine (rsame_any _ _ _ X X s.out x.out).mono ?_
    rintro e W22 ⟨he, hb22⟩
    rw [decide_eq_true rfl] at he
    subst he
    clear k20 l20 f20 g20 k21 l21 f21 g21
    have HB := hid (bw_step HB.out hb22)
    have x := hid (x.out.below hb22)
    have Xx := hid (Xx.out.below hb22)
    have sq := hid (sq.out.below hb22)
    have Xsq := hid (Xsq.out.below hb22)
    have Xm := hid (Xm.out.below hb22)
    have m := hid (m.out.below hb22)
    have rr := hid (rr.out.below hb22)
    have Xrr := hid (Xrr.out.below hb22)
    have s := hid (s.out.below hb22)
    have Xs := hid (Xs.out.below hb22)
    clear hb22
    go_wp2_with fail
    refine (awake_any _).mono ?_
    rintro e W23 ⟨rfl, hb23⟩
    have HB := hid (bw_step HB.out hb23)
    have x := hid (x.out.below hb23)
    have Xx := hid (Xx.out.below hb23)
    have sq := hid (sq.out.below hb23)
    have Xsq := hid (Xsq.out.below hb23)
    have Xm := hid (Xm.out.below hb23)
    have m := hid (m.out.below hb23)
    have rr := hid (rr.out.below hb23)
    have Xrr := hid (Xrr.out.below hb23)
    have s := hid (s.out.below hb23)
    have Xs := hid (Xs.out.below hb23)
    clear hb23
    go_wp2
    go_ret
    exact ⟨rfl, HB.out⟩
theorem integerSquares_walk (w : World) (va : Value) (ha : ArgI w va) (vb : Value) (hb : ArgI w vb) :
    Calls Try.prog 10 #[va, vb] w fun e w' => e = .returned (.bool true) ∧ Below w.heap.size w w' := by
  obtain ⟨sa, Aa, na, ca, rfl, _, _⟩ := id ha
  obtain ⟨sb, Ab, nb, cb, rfl, _, _⟩ := id hb
  rcases ha.short 10 (by decide) with ka | ⟨ka, za, fa⟩
  · exact integerSquares_long0 w sa Aa na ca sb Ab nb cb ka
  rcases hb.short 10 (by decide) with kb | ⟨kb, zb, fb⟩
  · exact integerSquares_long1 w sa Aa na ca sb Ab nb cb ka kb
  exact integerSquares_short w sa Aa na ca sb Ab nb cb ka za fa kb zb fb
end Go.Proofs.Ytdbgalohppfkfaa
