/- The law IntegerPlain: its walk. -/
import Derived.Test.YtnjekacagffelaaAwake
import Derived.Test.YtnjekacagffelaaSub
import Derived.Test.YtnjekacagffelaaMul
import Derived.Test.YtnjekacagffelaaDivMod
import Derived.Test.YtnjekacagffelaaGcd
import Derived.Test.YtnjekacagffelaaSqrt
import Derived.Test.YtnjekacagffelaaRSame
import Derived.Test.YtnjekacagffelaaArg
import Derived.Test.YtnjekacagffelaaBoxes
namespace Go.Proofs.Ytnjekacagffelaa
open Go.RowKit
set_option linter.unusedVariables false
set_option maxRecDepth 100000

theorem integerPlain_long0 (w : World) (sa : Bool) (Aa : Option Addr) (na ca : Nat) (sb : Bool) (Ab : Option Addr) (nb cb : Nat)  (ha : 12 < na) :
    Calls Try.prog 7 #[.agg #[.bool sa, .slice Aa na ca], .agg #[.bool sb, .slice Ab nb cb]] w fun e w' => e = .returned (.bool true) ∧ Below w.heap.size w w' := by
  have hda : decide ((12 : Int) < (na : Int)) = true := by rw [decide_eq_true_eq]; omega
  have HB := hid (Below.refl w.heap.size w)
  obtain ⟨W, hW⟩ : ∃ W, W = ((w.alloc (.cells #[.bool sa, .slice Aa na ca] 24)).alloc (.cells #[.bool sb, .slice Ab nb cb] 24)) := ⟨_, rfl⟩
  have hbb : Below w.heap.size w W := by rw [hW]; exact (bw_alloc (bw_alloc (Below.refl _ _) _) _)
  have HB := hid (bw_step HB.out hbb)
  have Pa : Hid (Blk W (w.heap.size) 24 #[.bool sa, .slice Aa na ca]) := by
    rw [hW]
    have := (Blk.new w 24 #[.bool sa, .slice Aa na ca]).below (bw_alloc (Below.refl _ _) (.cells #[.bool sb, .slice Ab nb cb] 24))
    exact hid (by simpa only [World.size_alloc] using this)
  have Pb : Hid (Blk W (w.heap.size + 1) 24 #[.bool sb, .slice Ab nb cb]) := by
    rw [hW]
    have := Blk.new (w.alloc (.cells #[.bool sa, .slice Aa na ca] 24)) 24 #[.bool sb, .slice Ab nb cb]
    exact hid (by simpa only [World.size_alloc] using this)
  clear hbb
  obtain ⟨k1, l1, f1, g1⟩ := id Pa.out.bx
  go_enter Try.func7, Try.ntmps7
  go_wp2_with fail
  rw [← hW]
  clear hW
  refine (awake_any _).mono ?_
  rintro e W2 ⟨rfl, hb2⟩
  clear k1 l1 f1 g1
  have HB := hid (bw_step HB.out hb2)
  have Pa := hid (Pa.out.below hb2)
  have Pb := hid (Pb.out.below hb2)
  clear hb2
  go_wp2
  go_ret
  exact ⟨rfl, HB.out⟩
theorem integerPlain_long1 (w : World) (sa : Bool) (Aa : Option Addr) (na ca : Nat) (sb : Bool) (Ab : Option Addr) (nb cb : Nat) (ha : na ≤ 12) (hb : 12 < nb) :
    Calls Try.prog 7 #[.agg #[.bool sa, .slice Aa na ca], .agg #[.bool sb, .slice Ab nb cb]] w fun e w' => e = .returned (.bool true) ∧ Below w.heap.size w w' := by
  have hda : decide ((12 : Int) < (na : Int)) = false := by rw [decide_eq_false_iff_not]; omega
  have hdb : decide ((12 : Int) < (nb : Int)) = true := by rw [decide_eq_true_eq]; omega
  have HB := hid (Below.refl w.heap.size w)
  obtain ⟨W, hW⟩ : ∃ W, W = ((w.alloc (.cells #[.bool sa, .slice Aa na ca] 24)).alloc (.cells #[.bool sb, .slice Ab nb cb] 24)) := ⟨_, rfl⟩
  have hbb : Below w.heap.size w W := by rw [hW]; exact (bw_alloc (bw_alloc (Below.refl _ _) _) _)
  have HB := hid (bw_step HB.out hbb)
  have Pa : Hid (Blk W (w.heap.size) 24 #[.bool sa, .slice Aa na ca]) := by
    rw [hW]
    have := (Blk.new w 24 #[.bool sa, .slice Aa na ca]).below (bw_alloc (Below.refl _ _) (.cells #[.bool sb, .slice Ab nb cb] 24))
    exact hid (by simpa only [World.size_alloc] using this)
  have Pb : Hid (Blk W (w.heap.size + 1) 24 #[.bool sb, .slice Ab nb cb]) := by
    rw [hW]
    have := Blk.new (w.alloc (.cells #[.bool sa, .slice Aa na ca] 24)) 24 #[.bool sb, .slice Ab nb cb]
    exact hid (by simpa only [World.size_alloc] using this)
  clear hbb
  obtain ⟨k1, l1, f1, g1⟩ := id Pa.out.bx
  obtain ⟨k2, l2, f2, g2⟩ := id Pb.out.bx
  go_enter Try.func7, Try.ntmps7
  go_wp2_with fail
  rw [← hW]
  clear hW
  refine (awake_any _).mono ?_
  rintro e W3 ⟨rfl, hb3⟩
  clear k1 l1 f1 g1 k2 l2 f2 g2
  have HB := hid (bw_step HB.out hb3)
  have Pa := hid (Pa.out.below hb3)
  have Pb := hid (Pb.out.below hb3)
  clear hb3
  go_wp2
  go_ret
  exact ⟨rfl, HB.out⟩
theorem divMod_all (w : World) (v u : Value) (a b : Int) (n : Nat) (ha : IntA w v a n) (hb : IntA w u b n) (hn : n ≤ 274877906944) :
    Calls Try.prog 27 #[v, u] w fun e w' => (∃ x, e = .returned x) ∧ Below w.heap.size w w' := by
  by_cases h : b = 0
  · subst h
    exact (divMod_zero w v u a n n ha hb).mono fun e w' ⟨⟨_, _, he, _⟩, h⟩ => ⟨⟨_, he⟩, h⟩
  · exact (divMod_any w v u a b n n ha hb hn h).mono fun e w' ⟨⟨_, _, he, _⟩, h⟩ => ⟨⟨_, he⟩, h⟩
theorem sqrt_all (w : World) (v : Value) (a : Int) (n : Nat) (ha : IntA w v a n) (hn : n ≤ 68719476736) :
    Calls Try.prog 29 #[v] w fun e w' => (∃ x, e = .returned x) ∧ Below w.heap.size w w' := by
  by_cases h : a < 0
  · exact (sqrt_neg w v a n ha h).mono fun e w' ⟨he, h⟩ => ⟨⟨_, he⟩, h⟩
  · exact (sqrt_any w v a n ha (by omega) hn).mono fun e w' ⟨⟨_, _, he, _⟩, h⟩ => ⟨⟨_, he⟩, h⟩

set_option maxHeartbeats 8000000 in
theorem integerPlain_short (w : World) (sa : Bool) (Aa : Option Addr) (na ca : Nat) (sb : Bool) (Ab : Option Addr) (nb cb : Nat) (ha : na ≤ 12) (za : Int) (fa : IntA w (.agg #[.bool sa, .slice Aa na ca]) za 12) (hb : nb ≤ 12) (zb : Int) (fb : IntA w (.agg #[.bool sb, .slice Ab nb cb]) zb 12) :
    Calls Try.prog 7 #[.agg #[.bool sa, .slice Aa na ca], .agg #[.bool sb, .slice Ab nb cb]] w fun e w' => e = .returned (.bool true) ∧ Below w.heap.size w w' := by
  obtain ⟨ga, ta, xsa, ea, hsa, hla, hxa, hza⟩ := id fa
  simp only [Value.agg.injEq, Array.mk.injEq, List.cons.injEq, and_true, Value.bool.injEq] at ea
  obtain ⟨rfl, rfl⟩ := ea
  obtain ⟨A_, c_, ea, hca, _⟩ := id hsa
  simp only [Value.slice.injEq] at ea
  obtain ⟨rfl, rfl, rfl⟩ := ea
  have Sa := hid hsa
  have La := hid hla
  have F0a := hid fa
  have Za := hid hza
  clear hsa hla hza
  obtain ⟨gb, tb, xsb, eb, hsb, hlb, hxb, hzb⟩ := id fb
  simp only [Value.agg.injEq, Array.mk.injEq, List.cons.injEq, and_true, Value.bool.injEq] at eb
  obtain ⟨rfl, rfl⟩ := eb
  obtain ⟨A_, c_, eb, hcb, _⟩ := id hsb
  simp only [Value.slice.injEq] at eb
  obtain ⟨rfl, rfl, rfl⟩ := eb
  have Sb := hid hsb
  have Lb := hid hlb
  have F0b := hid fb
  have Zb := hid hzb
  clear hsb hlb hzb
  have hda : decide ((12 : Int) < (xsa.length : Int)) = false := by rw [decide_eq_false_iff_not]; omega
  have Fa := hid fa
  have hdb : decide ((12 : Int) < (xsb.length : Int)) = false := by rw [decide_eq_false_iff_not]; omega
  have Fb := hid fb
  clear fa fb
  have HB := hid (Below.refl w.heap.size w)
  obtain ⟨W, hW⟩ : ∃ W, W = ((w.alloc (.cells #[.bool sa, .slice Aa xsa.length ca] 24)).alloc (.cells #[.bool sb, .slice Ab xsb.length cb] 24)) := ⟨_, rfl⟩
  have hbb : Below w.heap.size w W := by rw [hW]; exact (bw_alloc (bw_alloc (Below.refl _ _) _) _)
  have HB := hid (bw_step HB.out hbb)
  have Sa := hid (Sa.out.below hbb)
  have Sb := hid (Sb.out.below hbb)
  have Fa := hid (Fa.out.below hbb)
  have Fb := hid (Fb.out.below hbb)
  have Pa : Hid (Blk W (w.heap.size) 24 #[.bool sa, .slice Aa xsa.length ca]) := by
    rw [hW]
    have := (Blk.new w 24 #[.bool sa, .slice Aa xsa.length ca]).below (bw_alloc (Below.refl _ _) (.cells #[.bool sb, .slice Ab xsb.length cb] 24))
    exact hid (by simpa only [World.size_alloc] using this)
  have Pb : Hid (Blk W (w.heap.size + 1) 24 #[.bool sb, .slice Ab xsb.length cb]) := by
    rw [hW]
    have := Blk.new (w.alloc (.cells #[.bool sa, .slice Aa xsa.length ca] 24)) 24 #[.bool sb, .slice Ab xsb.length cb]
    exact hid (by simpa only [World.size_alloc] using this)
  clear hbb
  obtain ⟨k1, l1, f1, g1⟩ := id Pa.out.bx
  obtain ⟨k2, l2, f2, g2⟩ := id Pb.out.bx
  go_enter Try.func7, Try.ntmps7
  go_wp2_with fail
  rw [← hW]
  clear hW
  have lt2_Pa := Pa.out.lt
  have lt2_Pb := Pb.out.lt
  refine wp_region_each (by kernel_rfl) 8 52 rfl rfl (by kernel_rfl)
    [Fact.eq (.agg #[.bool sa, .slice Aa xsa.length ca]), Fact.cells cellsI (Cont.raw sa xsa), Fact.eq (.agg #[.bool sb, .slice Ab xsb.length cb]), Fact.cells cellsI (Cont.raw sb xsb), Fact.boxC 24 [.bool false, .slice none 0 0] zeroI (Cont.raw sa xsa), Fact.boxC 24 [.bool false, .slice none 0 0] zeroI (Cont.raw sb xsb), Fact.top _, Fact.top _]
    [.val, .val, .val, .val, .alloc 6, .alloc 7, .fill 4, .fill 5]
    (fun w' => IntA w' (.agg #[.bool sa, .slice Aa xsa.length ca]) (za) 12 ∧ IntA w' (.agg #[.bool sb, .slice Ab xsb.length cb]) (zb) 12 ∧ Blk w' (w.heap.size) 24 #[.bool sa, .slice Aa xsa.length ca] ∧ Blk w' (w.heap.size + 1) 24 #[.bool sb, .slice Ab xsb.length cb] ∧ SlV w' (.slice Aa xsa.length ca) xsa ∧ SlV w' (.slice Ab xsb.length cb) xsb ∧ Below w.heap.size w w')
    (fun _ _ _ => True) [] (fun _ => 0) (by kernel_rfl)
    ⟨Fa.out, Fb.out, Pa.out, Pb.out, Sa.out, Sb.out, HB.out⟩
    (fun w1 w2 ⟨h0, h1, h2, h3, h4, h5, h6⟩ hb => ⟨h0.below hb, h1.below hb, h2.below hb, h3.below hb, h4.below hb, h5.below hb, bw_step h6 hb⟩)
    (fun w1 w2 g ⟨h0, h1, h2, h3, h4, h5, h6⟩ hg hn ho => by
      have hg' : W.heap.size ≤ g := hg.elim id (fun ⟨_, h, _⟩ => absurd h (Nat.not_lt_zero _))
      exact ⟨h0.only hn ho, h1.only hn ho, h2.only ho (by have := Pa.out.lt; have := Pb.out.lt; omega), h3.only ho (by have := Pa.out.lt; have := Pb.out.lt; omega), h4.only hn ho, h5.only hn ho, below_only h6 ho (by have := Pa.out.lt; have := Pb.out.lt; have := HB.out.size; omega)⟩)
    (fun l h => trivial) (fun l b w1 w2 h _ _ => trivial) (fun l b w1 w2 g h _ _ _ _ => trivial) (fun l h => by cases h) (fun l k h => by cases h) ?_ ?_
  · refine ⟨?_, ?_, ?_, ?_, ?_, ?_, ?_, ?_, trivial⟩ <;> intro L V a1 w1 hf hG hsz hφ hψ hL hdep hcl
    · obtain ⟨Fa_, Fb_, Pa_, Pb_, Sa_, Sb_, HB_⟩ := hG
      have e2 := old_slot hf 2 (by kernel_rfl)
      exact ob_load_int rfl e2 Pa_ rfl
    · obtain ⟨Fa_, Fb_, Pa_, Pb_, Sa_, Sb_, HB_⟩ := hG
      have d0 := dep_of hdep 0 (by kernel_rfl)
      have e18 := (new_slot hf 0 18 d0 (by kernel_rfl)).trans (show V 0 = .agg #[.bool sa, .slice Aa xsa.length ca] from hφ 0 d0)
      refine ob_go rfl (vs := #[.agg #[.bool sa, .slice Aa xsa.length ca]]) (by simp only [List.map_toArray, List.map_cons, List.map_nil, e18]) (by kernel_rfl) (copied_any _ sa (.slice Aa xsa.length ca) xsa Sa_) ?_
      rintro e w2 ⟨⟨s, rfl, hr⟩, hb⟩
      have hv := hr.slv (by have := Sa_.len; omega)
      obtain ⟨A, c, rfl⟩ := hr.len
      exact ⟨_, rfl, hb, _, ⟨_, _, rfl, rfl⟩, A, c, rfl, hv⟩
    · obtain ⟨Fa_, Fb_, Pa_, Pb_, Sa_, Sb_, HB_⟩ := hG
      have e3 := old_slot hf 3 (by kernel_rfl)
      exact ob_load_int rfl e3 Pb_ rfl
    · obtain ⟨Fa_, Fb_, Pa_, Pb_, Sa_, Sb_, HB_⟩ := hG
      have d2 := dep_of hdep 2 (by kernel_rfl)
      have e20 := (new_slot hf 2 20 d2 (by kernel_rfl)).trans (show V 2 = .agg #[.bool sb, .slice Ab xsb.length cb] from hφ 2 d2)
      refine ob_go rfl (vs := #[.agg #[.bool sb, .slice Ab xsb.length cb]]) (by simp only [List.map_toArray, List.map_cons, List.map_nil, e20]) (by kernel_rfl) (copied_any _ sb (.slice Ab xsb.length cb) xsb Sb_) ?_
      rintro e w2 ⟨⟨s, rfl, hr⟩, hb⟩
      have hv := hr.slv (by have := Sb_.len; omega)
      obtain ⟨A, c, rfl⟩ := hr.len
      exact ⟨_, rfl, hb, _, ⟨_, _, rfl, rfl⟩, A, c, rfl, hv⟩
    · obtain ⟨Fa_, Fb_, Pa_, Pb_, Sa_, Sb_, HB_⟩ := hG
      exact ob_allocC (hz := zeroI) (ex_alloc_int rfl) hsz rfl
    · obtain ⟨Fa_, Fb_, Pa_, Pb_, Sa_, Sb_, HB_⟩ := hG
      exact ob_allocC (hz := zeroI) (ex_alloc_int rfl) hsz rfl
    · obtain ⟨Fa_, Fb_, Pa_, Pb_, Sa_, Sb_, HB_⟩ := hG
      have d1 := dep_of hdep 1 (by kernel_rfl)
      have e19 := new_slot hf 1 19 d1 (by kernel_rfl)
      have p19 : ∃ cs, cellsI (V 1) cs ∧ ((Cont.raw sa xsa)).p w1 cs := hφ 1 d1
      have d4 := dep_of hdep 4 (by kernel_rfl)
      obtain ⟨g, cs0, h1, h2, h3, h4, h5, _⟩ := hφ 4 d4
      obtain rfl := h5 (show (true && L 6) = false from by have h : L 6 = false := hL; rw [h]; rfl)
      obtain ⟨cs, hcs, hC⟩ := p19
      exact ob_fillC (hz := zeroI) h3 h4 (ex_storeI rfl ((new_slot hf 4 5 d4 (by kernel_rfl)).trans h1) e19 (raw_form hcs hC) h3 ⟨_, _, _, _, rfl⟩) h1 h2 hC rfl rfl
    · obtain ⟨Fa_, Fb_, Pa_, Pb_, Sa_, Sb_, HB_⟩ := hG
      have d3 := dep_of hdep 3 (by kernel_rfl)
      have e21 := new_slot hf 3 21 d3 (by kernel_rfl)
      have p21 : ∃ cs, cellsI (V 3) cs ∧ ((Cont.raw sb xsb)).p w1 cs := hφ 3 d3
      have d5 := dep_of hdep 5 (by kernel_rfl)
      obtain ⟨g, cs0, h1, h2, h3, h4, h5, _⟩ := hφ 5 d5
      obtain rfl := h5 (show (true && L 7) = false from by have h : L 7 = false := hL; rw [h]; rfl)
      obtain ⟨cs, hcs, hC⟩ := p21
      exact ob_fillC (hz := zeroI) h3 h4 (ex_storeI rfl ((new_slot hf 5 6 d5 (by kernel_rfl)).trans h1) e21 (raw_form hcs hC) h3 ⟨_, _, _, _, rfl⟩) h1 h2 hC rfl rfl
  · intro V W3 hG hsz3 hφ hψ hne
    have hlt3 : W.heap.size ≤ W3.heap.size := hsz3
    obtain ⟨Fa_, Fb_, Pa_, Pb_, Sa_, Sb_, HB_⟩ := hG
    have Fa := hid Fa_
    have Fb := hid Fb_
    have Pa := hid Pa_
    have Pb := hid Pb_
    have Sa := hid Sa_
    have Sb := hid Sb_
    have HB := hid HB_
    have y0 : V 0 = .agg #[.bool sa, .slice Aa xsa.length ca] := hφ 0 (by decide)
    have y2 : V 2 = .agg #[.bool sb, .slice Ab xsb.length cb] := hφ 2 (by decide)
    obtain ⟨G3_4, cs304, y4, gb304, kb304, _, _, hc304⟩ := hφ 4 (by decide)
    obtain ⟨A304, c304, rfl, hs304⟩ := hc304 rfl
    have Xx : Hid (Blk W3 G3_4 24 #[.bool sa, .slice A304 xsa.length c304]) := hid kb304
    have x := hid hs304
    clear kb304 hs304
    obtain ⟨G3_5, cs305, y5, gb305, kb305, _, _, hc305⟩ := hφ 5 (by decide)
    obtain ⟨A305, c305, rfl, hs305⟩ := hc305 rfl
    have Xy : Hid (Blk W3 G3_5 24 #[.bool sb, .slice A305 xsb.length c305]) := hid kb305
    have y := hid hs305
    clear kb305 hs305
    have ne3_4_5 : G3_4 ≠ G3_5 := fun e => hne 4 5 (by decide) rfl rfl (by rw [y4, y5, e])
    simp only [puts, Act.put, List.setIfInBounds_toArray, List.set_cons_zero, List.set_cons_succ, y0, y2, y4, y5, ptr]
    clear hφ hψ hne y0 y2 y4 y5 Fa_ Fb_ Pa_ Pb_ Sa_ Sb_ HB_ hsz3
    have Ix := hid (show IntA W3 (.agg #[.bool sa, .slice A304 xsa.length c304]) za 12 from ⟨sa, _, xsa, rfl, x.out, La.out, by omega, Za.out⟩)
    have Iy := hid (show IntA W3 (.agg #[.bool sb, .slice A305 xsb.length c305]) zb 12 from ⟨sb, _, xsb, rfl, y.out, Lb.out, by omega, Zb.out⟩)
    obtain ⟨k4, l4, f4, g4⟩ := id Xx.out.bx
    obtain ⟨k5, l5, f5, g5⟩ := id Xy.out.bx
    go_wp2_with fail
    refine (add_any _ _ _ za zb 12 12 Ix.out Iy.out (by decide) (by decide)).mono ?_
    rintro e W6 ⟨⟨u, rfl, hu⟩, hb6⟩
    clear k1 l1 f1 g1 k2 l2 f2 g2 k4 l4 f4 g4 k5 l5 f5 g5
    have HB := hid (bw_step HB.out hb6)
    have Fa := hid (Fa.out.below hb6)
    have Fb := hid (Fb.out.below hb6)
    have Pa := hid (Pa.out.below hb6)
    have Pb := hid (Pb.out.below hb6)
    have Sa := hid (Sa.out.below hb6)
    have Sb := hid (Sb.out.below hb6)
    have Xx := hid (Xx.out.below hb6)
    have x := hid (x.out.below hb6)
    have Xy := hid (Xy.out.below hb6)
    have y := hid (y.out.below hb6)
    have Ix := hid (Ix.out.below hb6)
    have Iy := hid (Iy.out.below hb6)
    clear hb6
    obtain ⟨k7, l7, f7, g7⟩ := id Xx.out.bx
    obtain ⟨k8, l8, f8, g8⟩ := id Xy.out.bx
    go_wp2_with fail
    refine (sub_any _ _ _ za zb 12 12 Ix.out Iy.out (by decide) (by decide)).mono ?_
    rintro e W9 ⟨⟨u, rfl, hu⟩, hb9⟩
    clear k7 l7 f7 g7 k8 l8 f8 g8
    have HB := hid (bw_step HB.out hb9)
    have Fa := hid (Fa.out.below hb9)
    have Fb := hid (Fb.out.below hb9)
    have Pa := hid (Pa.out.below hb9)
    have Pb := hid (Pb.out.below hb9)
    have Sa := hid (Sa.out.below hb9)
    have Sb := hid (Sb.out.below hb9)
    have Xx := hid (Xx.out.below hb9)
    have x := hid (x.out.below hb9)
    have Xy := hid (Xy.out.below hb9)
    have y := hid (y.out.below hb9)
    have Ix := hid (Ix.out.below hb9)
    have Iy := hid (Iy.out.below hb9)
    clear hb9
    obtain ⟨k10, l10, f10, g10⟩ := id Xx.out.bx
    obtain ⟨k11, l11, f11, g11⟩ := id Xy.out.bx
    go_wp2_with fail
    refine (mul_any _ _ _ za zb 12 12 Ix.out Iy.out (by decide) (by decide)).mono ?_
    rintro e W12 ⟨⟨u, rfl, hu⟩, hb12⟩
    clear k10 l10 f10 g10 k11 l11 f11 g11
    have HB := hid (bw_step HB.out hb12)
    have Fa := hid (Fa.out.below hb12)
    have Fb := hid (Fb.out.below hb12)
    have Pa := hid (Pa.out.below hb12)
    have Pb := hid (Pb.out.below hb12)
    have Sa := hid (Sa.out.below hb12)
    have Sb := hid (Sb.out.below hb12)
    have Xx := hid (Xx.out.below hb12)
    have x := hid (x.out.below hb12)
    have Xy := hid (Xy.out.below hb12)
    have y := hid (y.out.below hb12)
    have Ix := hid (Ix.out.below hb12)
    have Iy := hid (Iy.out.below hb12)
    clear hb12
    obtain ⟨k13, l13, f13, g13⟩ := id Xx.out.bx
    obtain ⟨k14, l14, f14, g14⟩ := id Xy.out.bx
    go_wp2_with fail
    refine (divMod_all _ _ _ za zb 12 Ix.out Iy.out (by decide)).mono ?_
    rintro e W15 ⟨⟨u, rfl⟩, hb15⟩
    clear k13 l13 f13 g13 k14 l14 f14 g14
    have HB := hid (bw_step HB.out hb15)
    have Fa := hid (Fa.out.below hb15)
    have Fb := hid (Fb.out.below hb15)
    have Pa := hid (Pa.out.below hb15)
    have Pb := hid (Pb.out.below hb15)
    have Sa := hid (Sa.out.below hb15)
    have Sb := hid (Sb.out.below hb15)
    have Xx := hid (Xx.out.below hb15)
    have x := hid (x.out.below hb15)
    have Xy := hid (Xy.out.below hb15)
    have y := hid (y.out.below hb15)
    have Ix := hid (Ix.out.below hb15)
    have Iy := hid (Iy.out.below hb15)
    clear hb15
    obtain ⟨k16, l16, f16, g16⟩ := id Xx.out.bx
    obtain ⟨k17, l17, f17, g17⟩ := id Xy.out.bx
    go_wp2_with fail
    refine (gcd_any _ _ _ za zb 12 (by decide) Ix.out Iy.out).mono ?_
    rintro e W18 ⟨⟨u, rfl, hu⟩, hb18⟩
    clear k16 l16 f16 g16 k17 l17 f17 g17
    have HB := hid (bw_step HB.out hb18)
    have Fa := hid (Fa.out.below hb18)
    have Fb := hid (Fb.out.below hb18)
    have Pa := hid (Pa.out.below hb18)
    have Pb := hid (Pb.out.below hb18)
    have Sa := hid (Sa.out.below hb18)
    have Sb := hid (Sb.out.below hb18)
    have Xx := hid (Xx.out.below hb18)
    have x := hid (x.out.below hb18)
    have Xy := hid (Xy.out.below hb18)
    have y := hid (y.out.below hb18)
    have Ix := hid (Ix.out.below hb18)
    have Iy := hid (Iy.out.below hb18)
    clear hb18
    obtain ⟨k19, l19, f19, g19⟩ := id Xx.out.bx
    go_wp2_with fail
    refine (sqrt_all _ _ za 12 Ix.out (by decide)).mono ?_
    rintro e W20 ⟨⟨u, rfl⟩, hb20⟩
    clear k19 l19 f19 g19
    have HB := hid (bw_step HB.out hb20)
    have Fa := hid (Fa.out.below hb20)
    have Fb := hid (Fb.out.below hb20)
    have Pa := hid (Pa.out.below hb20)
    have Pb := hid (Pb.out.below hb20)
    have Sa := hid (Sa.out.below hb20)
    have Sb := hid (Sb.out.below hb20)
    have Xx := hid (Xx.out.below hb20)
    have x := hid (x.out.below hb20)
    have Xy := hid (Xy.out.below hb20)
    have y := hid (y.out.below hb20)
    have Ix := hid (Ix.out.below hb20)
    have Iy := hid (Iy.out.below hb20)
    clear hb20
    obtain ⟨k21, l21, f21, g21⟩ := id Xx.out.bx
    go_wp2_with fail
    refine (neg_any _ _ za 12 Ix.out).mono ?_
    rintro e W22 ⟨⟨u, rfl, hu⟩, hb22⟩
    clear k21 l21 f21 g21
    have HB := hid (bw_step HB.out hb22)
    have Fa := hid (Fa.out.below hb22)
    have Fb := hid (Fb.out.below hb22)
    have Pa := hid (Pa.out.below hb22)
    have Pb := hid (Pb.out.below hb22)
    have Sa := hid (Sa.out.below hb22)
    have Sb := hid (Sb.out.below hb22)
    have Xx := hid (Xx.out.below hb22)
    have x := hid (x.out.below hb22)
    have Xy := hid (Xy.out.below hb22)
    have y := hid (y.out.below hb22)
    have Ix := hid (Ix.out.below hb22)
    have Iy := hid (Iy.out.below hb22)
    clear hb22
    obtain ⟨k23, l23, f23, g23⟩ := id Xx.out.bx
    obtain ⟨k24, l24, f24, g24⟩ := id Pa.out.bx
    go_wp2_with fail
    refine (rsame_raw _ sa sa _ _ xsa xsa x.out Sa.out La.out La.out).mono ?_
    rintro e W25 ⟨he, hb25⟩
    rw [decide_eq_true ⟨rfl, rfl⟩] at he
    subst he
    clear k23 l23 f23 g23 k24 l24 f24 g24
    have HB := hid (bw_step HB.out hb25)
    have Fa := hid (Fa.out.below hb25)
    have Fb := hid (Fb.out.below hb25)
    have Pa := hid (Pa.out.below hb25)
    have Pb := hid (Pb.out.below hb25)
    have Sa := hid (Sa.out.below hb25)
    have Sb := hid (Sb.out.below hb25)
    have Xx := hid (Xx.out.below hb25)
    have x := hid (x.out.below hb25)
    have Xy := hid (Xy.out.below hb25)
    have y := hid (y.out.below hb25)
    have Ix := hid (Ix.out.below hb25)
    have Iy := hid (Iy.out.below hb25)
    clear hb25
    obtain ⟨k26, l26, f26, g26⟩ := id Xy.out.bx
    obtain ⟨k27, l27, f27, g27⟩ := id Pb.out.bx
    go_wp2_with fail
    refine (rsame_raw _ sb sb _ _ xsb xsb y.out Sb.out Lb.out Lb.out).mono ?_
    rintro e W28 ⟨he, hb28⟩
    rw [decide_eq_true ⟨rfl, rfl⟩] at he
    subst he
    clear k26 l26 f26 g26 k27 l27 f27 g27
    have HB := hid (bw_step HB.out hb28)
    have Fa := hid (Fa.out.below hb28)
    have Fb := hid (Fb.out.below hb28)
    have Pa := hid (Pa.out.below hb28)
    have Pb := hid (Pb.out.below hb28)
    have Sa := hid (Sa.out.below hb28)
    have Sb := hid (Sb.out.below hb28)
    have Xx := hid (Xx.out.below hb28)
    have x := hid (x.out.below hb28)
    have Xy := hid (Xy.out.below hb28)
    have y := hid (y.out.below hb28)
    have Ix := hid (Ix.out.below hb28)
    have Iy := hid (Iy.out.below hb28)
    clear hb28
    go_wp2_with fail
    refine (awake_any _).mono ?_
    rintro e W29 ⟨rfl, hb29⟩
    have HB := hid (bw_step HB.out hb29)
    have Fa := hid (Fa.out.below hb29)
    have Fb := hid (Fb.out.below hb29)
    have Pa := hid (Pa.out.below hb29)
    have Pb := hid (Pb.out.below hb29)
    have Sa := hid (Sa.out.below hb29)
    have Sb := hid (Sb.out.below hb29)
    have Xx := hid (Xx.out.below hb29)
    have x := hid (x.out.below hb29)
    have Xy := hid (Xy.out.below hb29)
    have y := hid (y.out.below hb29)
    have Ix := hid (Ix.out.below hb29)
    have Iy := hid (Iy.out.below hb29)
    clear hb29
    go_wp2
    go_ret
    exact ⟨rfl, HB.out⟩
theorem integerPlain_walk (w : World) (va : Value) (ha : ArgI w va) (vb : Value) (hb : ArgI w vb) :
    Calls Try.prog 7 #[va, vb] w fun e w' => e = .returned (.bool true) ∧ Below w.heap.size w w' := by
  obtain ⟨sa, Aa, na, ca, rfl, _, _⟩ := id ha
  obtain ⟨sb, Ab, nb, cb, rfl, _, _⟩ := id hb
  rcases ha.short 12 (by decide) with ka | ⟨ka, za, fa⟩
  · exact integerPlain_long0 w sa Aa na ca sb Ab nb cb ka
  rcases hb.short 12 (by decide) with kb | ⟨kb, zb, fb⟩
  · exact integerPlain_long1 w sa Aa na ca sb Ab nb cb ka kb
  exact integerPlain_short w sa Aa na ca sb Ab nb cb ka za fa kb zb fb
end Go.Proofs.Ytnjekacagffelaa
