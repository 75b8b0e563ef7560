/- A part of the proof of the laws of rationals: WRNew. -/
import Derived.Test.YtijmjkkjopplbaaPae
import Derived.Test.YtijmjkkjopplbaaPam
import Derived.Test.YtijmjkkjopplbaaPaBc
import Derived.Test.YtijmjkkjopplbaaPkRationalNewk
import Derived.Test.YtijmjkkjopplbaaPaBb
import Derived.Test.YtijmjkkjopplbaaPkRationalNewh
import Derived.Test.YtijmjkkjopplbaaPal
import Derived.Test.YtijmjkkjopplbaaPab
import Derived.Test.YtijmjkkjopplbaaPaf
import Derived.Test.YtijmjkkjopplbaaPad
import Derived.Test.YtijmjkkjopplbaaPkRationalNewb
import Derived.Test.YtijmjkkjopplbaaPac
import Derived.Test.YtijmjkkjopplbaaPav
import Derived.Test.YtijmjkkjopplbaaPay
import Derived.Test.YtijmjkkjopplbaaPao
import Derived.Test.YtijmjkkjopplbaaPat
import Derived.Test.YtijmjkkjopplbaaPkRationalNewa
import Derived.Test.YtijmjkkjopplbaaPaa
import Derived.Test.YtijmjkkjopplbaaPai
import Derived.Test.YtijmjkkjopplbaaPah
import Derived.Test.YtijmjkkjopplbaaPag
import Derived.Test.YtijmjkkjopplbaaPan
import Derived.Test.YtijmjkkjopplbaaPkRationalNewc
import Derived.Test.YtijmjkkjopplbaaPaj
import Derived.Test.YtijmjkkjopplbaaPax
import Derived.Test.YtijmjkkjopplbaaPap
import Derived.Test.YtijmjkkjopplbaaPas
import Derived.Test.YtijmjkkjopplbaaPkRationalNewf
import Derived.Test.YtijmjkkjopplbaaPkRationalNewe
import Derived.Test.YtijmjkkjopplbaaPkRationalNewg
import Derived.Test.YtijmjkkjopplbaaPkRationalNewd
import Derived.Test.YtijmjkkjopplbaaPkRationalNewj
import Derived.Test.YtijmjkkjopplbaaPau
import Derived.Test.YtijmjkkjopplbaaPkRationalNewi
import Derived.Test.YtijmjkkjopplbaaPar
import Derived.Test.YtijmjkkjopplbaaPaw
import Derived.Test.YtijmjkkjopplbaaPaBa
import Derived.Test.YtijmjkkjopplbaaPaq
import Derived.Test.YtijmjkkjopplbaaPak
import Derived.Test.YtijmjkkjopplbaaPaz
namespace Go.Proofs.Ytijmjkkjopplbaa
open Go.RowKit
set_option linter.unusedVariables false
set_option maxRecDepth 100000

theorem rationalNew_long0 (w : World) (sa : Bool) (Aa : Option Addr) (na ca : Nat) (sb : Bool) (Ab : Option Addr) (nb cb : Nat)  (ha : 8 < na) :
    Calls Try.prog 11 #[.agg #[.bool sa, .slice Aa na ca], .agg #[.bool sb, .slice Ab nb cb]] w fun e w' => e = .returned (.bool true) ∧ Below w.heap.size w w' := by
  have hda : decide ((8 : Int) < (na : Int)) = true := by rw [decide_eq_true_eq]; omega
  have HB := hid (Below.refl w.heap.size w)
  obtain ⟨W, hW⟩ : ∃ W, W = ((w.alloc (.cells #[.bool sa, .slice Aa na ca] 24)).alloc (.cells #[.bool sb, .slice Ab nb cb] 24)) := ⟨_, rfl⟩
  have hbb : Below w.heap.size w W := by rw [hW]; exact (bw_alloc (bw_alloc (Below.refl _ _) _) _)
  have HB := hid (bw_step HB.out hbb)
  have Pa : Hid (Blk W (w.heap.size) 24 #[.bool sa, .slice Aa na ca]) := by
    rw [hW]
    have := (Blk.new w 24 #[.bool sa, .slice Aa na ca]).below (bw_alloc (Below.refl _ _) (.cells #[.bool sb, .slice Ab nb cb] 24))
    exact hid (by simpa only [World.size_alloc] using this)
  have Pb : Hid (Blk W (w.heap.size + 1) 24 #[.bool sb, .slice Ab nb cb]) := by
    rw [hW]
    have := Blk.new (w.alloc (.cells #[.bool sa, .slice Aa na ca] 24)) 24 #[.bool sb, .slice Ab nb cb]
    exact hid (by simpa only [World.size_alloc] using this)
  clear hbb
  obtain ⟨k1, l1, f1, g1⟩ := id Pa.out.bx
  go_enter Try.func11, Try.ntmps11
  go_wp2_with fail
  rw [← hW]
  clear hW
  refine (awakeR_any _).mono ?_
  rintro e W2 ⟨rfl, hb2⟩
  clear k1 l1 f1 g1
  have HB := hid (bw_step HB.out hb2)
  have Pa := hid (Pa.out.below hb2)
  have Pb := hid (Pb.out.below hb2)
  clear hb2
  go_wp2
  go_ret
  exact ⟨rfl, HB.out⟩
theorem rationalNew_long1 (w : World) (sa : Bool) (Aa : Option Addr) (na ca : Nat) (sb : Bool) (Ab : Option Addr) (nb cb : Nat) (ha : na ≤ 8) (hb : 8 < nb) :
    Calls Try.prog 11 #[.agg #[.bool sa, .slice Aa na ca], .agg #[.bool sb, .slice Ab nb cb]] w fun e w' => e = .returned (.bool true) ∧ Below w.heap.size w w' := by
  have hda : decide ((8 : Int) < (na : Int)) = false := by rw [decide_eq_false_iff_not]; omega
  have hdb : decide ((8 : Int) < (nb : Int)) = true := by rw [decide_eq_true_eq]; omega
  have HB := hid (Below.refl w.heap.size w)
  obtain ⟨W, hW⟩ : ∃ W, W = ((w.alloc (.cells #[.bool sa, .slice Aa na ca] 24)).alloc (.cells #[.bool sb, .slice Ab nb cb] 24)) := ⟨_, rfl⟩
  have hbb : Below w.heap.size w W := by rw [hW]; exact (bw_alloc (bw_alloc (Below.refl _ _) _) _)
  have HB := hid (bw_step HB.out hbb)
  have Pa : Hid (Blk W (w.heap.size) 24 #[.bool sa, .slice Aa na ca]) := by
    rw [hW]
    have := (Blk.new w 24 #[.bool sa, .slice Aa na ca]).below (bw_alloc (Below.refl _ _) (.cells #[.bool sb, .slice Ab nb cb] 24))
    exact hid (by simpa only [World.size_alloc] using this)
  have Pb : Hid (Blk W (w.heap.size + 1) 24 #[.bool sb, .slice Ab nb cb]) := by
    rw [hW]
    have := Blk.new (w.alloc (.cells #[.bool sa, .slice Aa na ca] 24)) 24 #[.bool sb, .slice Ab nb cb]
    exact hid (by simpa only [World.size_alloc] using this)
  clear hbb
  obtain ⟨k1, l1, f1, g1⟩ := id Pa.out.bx
  obtain ⟨k2, l2, f2, g2⟩ := id Pb.out.bx
  go_enter Try.func11, Try.ntmps11
  go_wp2_with fail
  rw [← hW]
  clear hW
  refine (awakeR_any _).mono ?_
  rintro e W3 ⟨rfl, hb3⟩
  clear k1 l1 f1 g1 k2 l2 f2 g2
  have HB := hid (bw_step HB.out hb3)
  have Pa := hid (Pa.out.below hb3)
  have Pb := hid (Pb.out.below hb3)
  clear hb3
  go_wp2
  go_ret
  exact ⟨rfl, HB.out⟩
set_option maxHeartbeats 8000000 in
theorem rationalNew_short (w : World) (sa : Bool) (Aa : Option Addr) (na ca : Nat) (sb : Bool) (Ab : Option Addr) (nb cb : Nat) (ha : na ≤ 8) (za : Int) (fa : IntA w (.agg #[.bool sa, .slice Aa na ca]) za 8) (hb : nb ≤ 8) (zb : Int) (fb : IntA w (.agg #[.bool sb, .slice Ab nb cb]) zb 8) :
    Calls Try.prog 11 #[.agg #[.bool sa, .slice Aa na ca], .agg #[.bool sb, .slice Ab nb cb]] w fun e w' => e = .returned (.bool true) ∧ Below w.heap.size w w' := by
  have hda : decide ((8 : Int) < (na : Int)) = false := by rw [decide_eq_false_iff_not]; omega
  have Fa := hid fa
  have hdb : decide ((8 : Int) < (nb : Int)) = false := by rw [decide_eq_false_iff_not]; omega
  have Fb := hid fb
  clear fa fb
  have HB := hid (Below.refl w.heap.size w)
  obtain ⟨W, hW⟩ : ∃ W, W = ((w.alloc (.cells #[.bool sa, .slice Aa na ca] 24)).alloc (.cells #[.bool sb, .slice Ab nb cb] 24)) := ⟨_, rfl⟩
  have hbb : Below w.heap.size w W := by rw [hW]; exact (bw_alloc (bw_alloc (Below.refl _ _) _) _)
  have HB := hid (bw_step HB.out hbb)
  have Fa := hid (Fa.out.below hbb)
  have Fb := hid (Fb.out.below hbb)
  have Pa : Hid (Blk W (w.heap.size) 24 #[.bool sa, .slice Aa na ca]) := by
    rw [hW]
    have := (Blk.new w 24 #[.bool sa, .slice Aa na ca]).below (bw_alloc (Below.refl _ _) (.cells #[.bool sb, .slice Ab nb cb] 24))
    exact hid (by simpa only [World.size_alloc] using this)
  have Pb : Hid (Blk W (w.heap.size + 1) 24 #[.bool sb, .slice Ab nb cb]) := by
    rw [hW]
    have := Blk.new (w.alloc (.cells #[.bool sa, .slice Aa na ca] 24)) 24 #[.bool sb, .slice Ab nb cb]
    exact hid (by simpa only [World.size_alloc] using this)
  clear hbb
  obtain ⟨k1, l1, f1, g1⟩ := id Pa.out.bx
  obtain ⟨k2, l2, f2, g2⟩ := id Pb.out.bx
  by_cases hz : zb = 0
  · have HZ := hid hz
    clear hz
    go_enter Try.func11, Try.ntmps11
    go_wp2_with (with_reducible refine halt_at 21 rfl ?_)
    rw [← hW]
    clear hW
    clear k1 l1 f1 g1 k2 l2 f2 g2
    have lt3_Pa := Pa.out.lt
    have lt3_Pb := Pb.out.lt
    unfold Halted
    refine wp_list_each (by kernel_rfl) 9 50 rfl rfl (by kernel_rfl)
      [Fact.eq (.agg #[.bool sa, .slice Aa na ca]), Fact.eq (.agg #[.bool sb, .slice Ab nb cb]), Fact.pairB (.V 0) (.V 0) false, Fact.pairB (.V 0) (.V 0) false, Fact.pair (.V 0) (.V 0), Fact.eq (.bool false), Fact.boxR 26 Rne (.V 0) (.V 0), Fact.top _, Fact.eq (.bool false)]
      [.val, .val, .val, .val, .val, .val, .alloc 7, .fill 6, .val]
      (fun w' => IntA w' (.agg #[.bool sa, .slice Aa na ca]) (za) 8 ∧ IntA w' (.agg #[.bool sb, .slice Ab nb cb]) (zb) 8 ∧ Blk w' (w.heap.size) 24 #[.bool sa, .slice Aa na ca] ∧ Blk w' (w.heap.size + 1) 24 #[.bool sb, .slice Ab nb cb] ∧ Below w.heap.size w w')
      (fun _ _ _ => True) [] (fun _ => 0) (by kernel_rfl)
      ⟨Fa.out, Fb.out, Pa.out, Pb.out, HB.out⟩
      (fun w1 w2 ⟨h0, h1, h2, h3, h4⟩ hb => ⟨h0.below hb, h1.below hb, h2.below hb, h3.below hb, bw_step h4 hb⟩)
      (fun w1 w2 g ⟨h0, h1, h2, h3, h4⟩ hg hn ho => by
        have hg' : W.heap.size ≤ g := hg.elim id (fun ⟨_, h, _⟩ => absurd h (Nat.not_lt_zero _))
        exact ⟨h0.only hn ho, h1.only hn ho, h2.only ho (by have := Pa.out.lt; have := Pb.out.lt; omega), h3.only ho (by have := Pa.out.lt; have := Pb.out.lt; omega), below_only h4 ho (by have := Pa.out.lt; have := Pb.out.lt; have := HB.out.size; omega)⟩)
      (fun l h => trivial) (fun l b w1 w2 h _ _ => trivial) (fun l b w1 w2 g h _ _ _ _ => trivial) (fun l h => by cases h) (fun l k h => by cases h) ?_ ?_
    · refine ⟨?_, ?_, ?_, ?_, ?_, ?_, ?_, ?_, ?_, trivial⟩ <;> intro L V a1 w1 hf hG hsz hφ hψ hL hdep hcl
      · obtain ⟨Fa_, Fb_, Pa_, Pb_, HB_⟩ := hG
        have e2 := old_slot hf 2 (by kernel_rfl)
        exact ob_load_int rfl e2 Pa_ rfl
      · obtain ⟨Fa_, Fb_, Pa_, Pb_, HB_⟩ := hG
        have e3 := old_slot hf 3 (by kernel_rfl)
        exact ob_load_int rfl e3 Pb_ rfl
      · obtain ⟨Fa_, Fb_, Pa_, Pb_, HB_⟩ := hG
        have d0 := dep_of hdep 0 (by kernel_rfl)
        have e21 := (new_slot hf 0 21 d0 (by kernel_rfl)).trans (show V 0 = .agg #[.bool sa, .slice Aa na ca] from hφ 0 d0)
        have d1 := dep_of hdep 1 (by kernel_rfl)
        have e22 := (new_slot hf 1 22 d1 (by kernel_rfl)).trans (show V 1 = .agg #[.bool sb, .slice Ab nb cb] from hφ 1 d1)
        refine ob_go rfl (vs := #[.agg #[.bool sa, .slice Aa na ca], .agg #[.bool sb, .slice Ab nb cb]]) (by simp only [List.map_toArray, List.map_cons, List.map_nil, e21, e22]) (by kernel_rfl) (newR_any0 _ _ _ za zb 8 Fa_ Fb_ (by omega) (HZ.out)) ?_
        rintro e w2 ⟨⟨v, rfl, hv⟩, hb⟩
        exact ⟨v, rfl, hb, hv⟩
      · obtain ⟨Fa_, Fb_, Pa_, Pb_, HB_⟩ := hG
        have d2 := dep_of hdep 2 (by kernel_rfl)
        have e23 := new_slot hf 2 23 d2 (by kernel_rfl)
        have p23 : PairB w1 (V 2) (.V 0) (.V 0) false := hφ 2 d2
        exact ob_pure (ex_moveV rfl e23) (by exact p23)
      · obtain ⟨Fa_, Fb_, Pa_, Pb_, HB_⟩ := hG
        have d3 := dep_of hdep 3 (by kernel_rfl)
        have e20 := new_slot hf 3 20 d3 (by kernel_rfl)
        have p20 : PairB w1 (V 3) (.V 0) (.V 0) false := hφ 3 d3
        exact ob_pairB0 rfl e20 p20 rfl
      · obtain ⟨Fa_, Fb_, Pa_, Pb_, HB_⟩ := hG
        have d3 := dep_of hdep 3 (by kernel_rfl)
        have e20 := new_slot hf 3 20 d3 (by kernel_rfl)
        have p20 : PairB w1 (V 3) (.V 0) (.V 0) false := hφ 3 d3
        exact ob_pairB1 rfl e20 p20 rfl
      · obtain ⟨Fa_, Fb_, Pa_, Pb_, HB_⟩ := hG
        exact ob_allocR rfl hsz rfl
      · obtain ⟨Fa_, Fb_, Pa_, Pb_, HB_⟩ := hG
        have d4 := dep_of hdep 4 (by kernel_rfl)
        have e24 := new_slot hf 4 24 d4 (by kernel_rfl)
        have p24 : Pair w1 (V 4) (.V 0) (.V 0) := hφ 4 d4
        have d6 := dep_of hdep 6 (by kernel_rfl)
        obtain ⟨g, h1, h2, h3, _⟩ := hφ 6 d6
        have hz := h3 (show (true && L 7) = false from by have h : L 7 = false := hL; rw [h]; rfl)
        exact ob_fillR rfl ((new_slot hf 6 5 d6 (by kernel_rfl)).trans h1) e24 h1 h2 hz p24 rfl rfl
      · obtain ⟨Fa_, Fb_, Pa_, Pb_, HB_⟩ := hG
        have d5 := dep_of hdep 5 (by kernel_rfl)
        have e25 := (new_slot hf 5 25 d5 (by kernel_rfl)).trans (show V 5 = .bool false from hφ 5 d5)
        exact ob_pure (v := .bool false) (ex_assignV rfl e25) rfl
    · intro V W4 hG hsz4 hφ hψ hne
      have hlt4 : W.heap.size ≤ W4.heap.size := hsz4
      obtain ⟨Fa_, Fb_, Pa_, Pb_, HB_⟩ := hG
      have Fa := hid Fa_
      have Fb := hid Fb_
      have Pa := hid Pa_
      have Pb := hid Pb_
      have HB := hid HB_
      have y0 : V 0 = .agg #[.bool sa, .slice Aa na ca] := hφ 0 (by decide)
      have y1 : V 1 = .agg #[.bool sb, .slice Ab nb cb] := hφ 1 (by decide)
      have y5 : V 5 = .bool false := hφ 5 (by decide)
      obtain ⟨G4_6, y6, gb406, _, hb406⟩ := hφ 6 (by decide)
      obtain ⟨q4061, A4061, n4061, c4061, q4062, A4062, n4062, c4062, kb406, va406, vb406⟩ := hb406 rfl
      have Xt5_ := hid kb406
      have t5_1 : Hid (IntV W4 (.agg #[.bool q4061, .slice A4061 n4061 c4061]) 0) := hid va406
      have t5_2 : Hid (IntV W4 (.agg #[.bool q4062, .slice A4062 n4062 c4062]) 0) := hid vb406
      clear kb406 va406 vb406
      clear hb406
      have y8 : V 8 = .bool false := hφ 8 (by decide)
      simp only [puts, Act.put, List.setIfInBounds_toArray, List.set_cons_zero, List.set_cons_succ, y0, y1, y5, y6, y8, ptr]
      clear hφ hψ hne y0 y1 y5 y6 y8 Fa_ Fb_ Pa_ Pb_ HB_ hsz4
      go_wp2_with (with_reducible refine halt_at 27 rfl ?_)
      have lt5_Pa := Pa.out.lt
      have lt5_Pb := Pb.out.lt
      have lt5_Xt5_ := Xt5_.out.lt
      unfold Halted
      refine wp_list_each (by kernel_rfl) 9 50 rfl rfl (by kernel_rfl)
        [Fact.eq (.agg #[.bool sa, .slice Aa na ca]), Fact.eq (.agg #[.bool sb, .slice Ab nb cb]), Fact.pairB (.V 0) (.V 0) false, Fact.pairB (.V 0) (.V 0) false, Fact.pair (.V 0) (.V 0), Fact.eq (.bool false), Fact.boxR 26 Rne (.V 0) (.V 0), Fact.top _, Fact.eq (.bool false)]
        [.val, .val, .val, .val, .val, .val, .alloc 7, .fill 6, .val]
        (fun w' => IntA w' (.agg #[.bool sa, .slice Aa na ca]) (za) 8 ∧ IntA w' (.agg #[.bool sb, .slice Ab nb cb]) (zb) 8 ∧ Blk w' (w.heap.size) 24 #[.bool sa, .slice Aa na ca] ∧ Blk w' (w.heap.size + 1) 24 #[.bool sb, .slice Ab nb cb] ∧ IntV w' (.agg #[.bool q4061, .slice A4061 n4061 c4061]) (0) ∧ IntV w' (.agg #[.bool q4062, .slice A4062 n4062 c4062]) (0) ∧ Blk w' (G4_6) 26 #[.bool q4061, .slice A4061 n4061 c4061, .bool q4062, .slice A4062 n4062 c4062] ∧ Below w.heap.size w w')
        (fun _ _ _ => True) [] (fun _ => 0) (by kernel_rfl)
        ⟨Fa.out, Fb.out, Pa.out, Pb.out, t5_1.out, t5_2.out, Xt5_.out, HB.out⟩
        (fun w1 w2 ⟨h0, h1, h2, h3, h4, h5, h6, h7⟩ hb => ⟨h0.below hb, h1.below hb, h2.below hb, h3.below hb, h4.below hb, h5.below hb, h6.below hb, bw_step h7 hb⟩)
        (fun w1 w2 g ⟨h0, h1, h2, h3, h4, h5, h6, h7⟩ hg hn ho => by
          have hg' : W4.heap.size ≤ g := hg.elim id (fun ⟨_, h, _⟩ => absurd h (Nat.not_lt_zero _))
          exact ⟨h0.only hn ho, h1.only hn ho, h2.only ho (by have := Pa.out.lt; have := Pb.out.lt; have := Xt5_.out.lt; omega), h3.only ho (by have := Pa.out.lt; have := Pb.out.lt; have := Xt5_.out.lt; omega), h4.only hn ho, h5.only hn ho, h6.only ho (by have := Pa.out.lt; have := Pb.out.lt; have := Xt5_.out.lt; omega), below_only h7 ho (by have := Pa.out.lt; have := Pb.out.lt; have := Xt5_.out.lt; have := HB.out.size; omega)⟩)
        (fun l h => trivial) (fun l b w1 w2 h _ _ => trivial) (fun l b w1 w2 g h _ _ _ _ => trivial) (fun l h => by cases h) (fun l k h => by cases h) ?_ ?_
      · refine ⟨?_, ?_, ?_, ?_, ?_, ?_, ?_, ?_, ?_, trivial⟩ <;> intro L V a1 w1 hf hG hsz hφ hψ hL hdep hcl
        · obtain ⟨Fa_, Fb_, Pa_, Pb_, t5_1_, t5_2_, Xt5__, HB_⟩ := hG
          have e2 := old_slot hf 2 (by kernel_rfl)
          exact ob_load_int rfl e2 Pa_ rfl
        · obtain ⟨Fa_, Fb_, Pa_, Pb_, t5_1_, t5_2_, Xt5__, HB_⟩ := hG
          have e3 := old_slot hf 3 (by kernel_rfl)
          exact ob_load_int rfl e3 Pb_ rfl
        · obtain ⟨Fa_, Fb_, Pa_, Pb_, t5_1_, t5_2_, Xt5__, HB_⟩ := hG
          have d0 := dep_of hdep 0 (by kernel_rfl)
          have e27 := (new_slot hf 0 27 d0 (by kernel_rfl)).trans (show V 0 = .agg #[.bool sa, .slice Aa na ca] from hφ 0 d0)
          have d1 := dep_of hdep 1 (by kernel_rfl)
          have e28 := (new_slot hf 1 28 d1 (by kernel_rfl)).trans (show V 1 = .agg #[.bool sb, .slice Ab nb cb] from hφ 1 d1)
          refine ob_go rfl (vs := #[.agg #[.bool sa, .slice Aa na ca], .agg #[.bool sb, .slice Ab nb cb]]) (by simp only [List.map_toArray, List.map_cons, List.map_nil, e27, e28]) (by kernel_rfl) (rnewR_any0 _ _ _ za zb 8 Fa_ Fb_ (by omega) (HZ.out)) ?_
          rintro e w2 ⟨⟨v, rfl, hv⟩, hb⟩
          exact ⟨v, rfl, hb, hv⟩
        · obtain ⟨Fa_, Fb_, Pa_, Pb_, t5_1_, t5_2_, Xt5__, HB_⟩ := hG
          have d2 := dep_of hdep 2 (by kernel_rfl)
          have e29 := new_slot hf 2 29 d2 (by kernel_rfl)
          have p29 : PairB w1 (V 2) (.V 0) (.V 0) false := hφ 2 d2
          exact ob_pure (ex_moveV rfl e29) (by exact p29)
        · obtain ⟨Fa_, Fb_, Pa_, Pb_, t5_1_, t5_2_, Xt5__, HB_⟩ := hG
          have d3 := dep_of hdep 3 (by kernel_rfl)
          have e26 := new_slot hf 3 26 d3 (by kernel_rfl)
          have p26 : PairB w1 (V 3) (.V 0) (.V 0) false := hφ 3 d3
          exact ob_pairB0 rfl e26 p26 rfl
        · obtain ⟨Fa_, Fb_, Pa_, Pb_, t5_1_, t5_2_, Xt5__, HB_⟩ := hG
          have d3 := dep_of hdep 3 (by kernel_rfl)
          have e26 := new_slot hf 3 26 d3 (by kernel_rfl)
          have p26 : PairB w1 (V 3) (.V 0) (.V 0) false := hφ 3 d3
          exact ob_pairB1 rfl e26 p26 rfl
        · obtain ⟨Fa_, Fb_, Pa_, Pb_, t5_1_, t5_2_, Xt5__, HB_⟩ := hG
          exact ob_allocR rfl hsz rfl
        · obtain ⟨Fa_, Fb_, Pa_, Pb_, t5_1_, t5_2_, Xt5__, HB_⟩ := hG
          have d4 := dep_of hdep 4 (by kernel_rfl)
          have e30 := new_slot hf 4 30 d4 (by kernel_rfl)
          have p30 : Pair w1 (V 4) (.V 0) (.V 0) := hφ 4 d4
          have d6 := dep_of hdep 6 (by kernel_rfl)
          obtain ⟨g, h1, h2, h3, _⟩ := hφ 6 d6
          have hz := h3 (show (true && L 7) = false from by have h : L 7 = false := hL; rw [h]; rfl)
          exact ob_fillR rfl ((new_slot hf 6 7 d6 (by kernel_rfl)).trans h1) e30 h1 h2 hz p30 rfl rfl
        · obtain ⟨Fa_, Fb_, Pa_, Pb_, t5_1_, t5_2_, Xt5__, HB_⟩ := hG
          have d5 := dep_of hdep 5 (by kernel_rfl)
          have e31 := (new_slot hf 5 31 d5 (by kernel_rfl)).trans (show V 5 = .bool false from hφ 5 d5)
          exact ob_pure (v := .bool false) (ex_assignV rfl e31) rfl
      · intro V W6 hG hsz6 hφ hψ hne
        have hlt6 : W4.heap.size ≤ W6.heap.size := hsz6
        obtain ⟨Fa_, Fb_, Pa_, Pb_, t5_1_, t5_2_, Xt5__, HB_⟩ := hG
        have Fa := hid Fa_
        have Fb := hid Fb_
        have Pa := hid Pa_
        have Pb := hid Pb_
        have t5_1 := hid t5_1_
        have t5_2 := hid t5_2_
        have Xt5_ := hid Xt5__
        have HB := hid HB_
        have y0 : V 0 = .agg #[.bool sa, .slice Aa na ca] := hφ 0 (by decide)
        have y1 : V 1 = .agg #[.bool sb, .slice Ab nb cb] := hφ 1 (by decide)
        have y5 : V 5 = .bool false := hφ 5 (by decide)
        obtain ⟨G6_6, y6, gb606, _, hb606⟩ := hφ 6 (by decide)
        obtain ⟨q6061, A6061, n6061, c6061, q6062, A6062, n6062, c6062, kb606, va606, vb606⟩ := hb606 rfl
        have Xt7_ := hid kb606
        have t7_1 : Hid (IntV W6 (.agg #[.bool q6061, .slice A6061 n6061 c6061]) 0) := hid va606
        have t7_2 : Hid (IntV W6 (.agg #[.bool q6062, .slice A6062 n6062 c6062]) 0) := hid vb606
        clear kb606 va606 vb606
        clear hb606
        have y8 : V 8 = .bool false := hφ 8 (by decide)
        simp only [puts, Act.put, List.setIfInBounds_toArray, List.set_cons_zero, List.set_cons_succ, y0, y1, y5, y6, y8, ptr]
        clear hφ hψ hne y0 y1 y5 y6 y8 Fa_ Fb_ Pa_ Pb_ t5_1_ t5_2_ Xt5__ HB_ hsz6
        go_wp2_with fail
        have RS7 : Hid (RS 8 ((za : Int) : Rat)) := hid (RS.int (Fa.out.sm) (by omega))
        have RS8 : Hid (RS 8 ((za : Int) : Rat)) := hid (RS.int (Fa.out.sm) (by omega))
        refine wp_region_eachG (by kernel_rfl) 19 50 rfl rfl (by kernel_rfl)
          [Fact.eq (.agg #[.bool q4061, .slice A4061 n4061 c4061, .bool q4062, .slice A4062 n4062 c4062]), Fact.eq (.agg #[.bool q6061, .slice A6061 n6061 c6061, .bool q6062, .slice A6062 n6062 c6062]), Fact.eq (.bool true), Fact.eq (.bool true), Fact.eq (.bool false), Fact.eq (.bool false), Fact.eq (.bool true), Fact.eq (.bool true), Fact.eq (.bool true), Fact.eq (.agg #[.bool sa, .slice Aa na ca]), Fact.pair (.V (((za : Int) : Rat)).num) (.V ((((za : Int) : Rat)).den : Int)), Fact.eq (.agg #[.bool sa, .slice Aa na ca]), Fact.pair (.V (((za : Int) : Rat)).num) (.V ((((za : Int) : Rat)).den : Int)), Fact.eq (.bool true), Fact.eq (.bool true), Fact.eq (.bool true), Fact.eq (.bool true), Fact.eq (.bool true), Fact.eq (.bool true)]
          [.val, .val, .val, .val, .val, .val, .val, .val, .val, .val, .val, .val, .val, .val, .val, .val, .val, .val, .val]
          (fun w' => IntA w' (.agg #[.bool sa, .slice Aa na ca]) (za) 8 ∧ IntA w' (.agg #[.bool sb, .slice Ab nb cb]) (zb) 8 ∧ Blk w' (w.heap.size) 24 #[.bool sa, .slice Aa na ca] ∧ Blk w' (w.heap.size + 1) 24 #[.bool sb, .slice Ab nb cb] ∧ IntV w' (.agg #[.bool q4061, .slice A4061 n4061 c4061]) (0) ∧ IntV w' (.agg #[.bool q4062, .slice A4062 n4062 c4062]) (0) ∧ Blk w' (G4_6) 26 #[.bool q4061, .slice A4061 n4061 c4061, .bool q4062, .slice A4062 n4062 c4062] ∧ IntV w' (.agg #[.bool q6061, .slice A6061 n6061 c6061]) (0) ∧ IntV w' (.agg #[.bool q6062, .slice A6062 n6062 c6062]) (0) ∧ Blk w' (G6_6) 26 #[.bool q6061, .slice A6061 n6061 c6061, .bool q6062, .slice A6062 n6062 c6062] ∧ Below w.heap.size w w')
          (fun _ _ _ => True) [] (fun _ => 0) (by kernel_rfl)
          ⟨Fa.out, Fb.out, Pa.out, Pb.out, t5_1.out, t5_2.out, Xt5_.out, t7_1.out, t7_2.out, Xt7_.out, HB.out⟩
          (fun w1 w2 ⟨h0, h1, h2, h3, h4, h5, h6, h7, h8, h9, h10⟩ hb => ⟨h0.below hb, h1.below hb, h2.below hb, h3.below hb, h4.below hb, h5.below hb, h6.below hb, h7.below hb, h8.below hb, h9.below hb, bw_step h10 hb⟩)
          (fun w1 w2 g ⟨h0, h1, h2, h3, h4, h5, h6, h7, h8, h9, h10⟩ hg hn ho => by
            have hg' : W6.heap.size ≤ g := hg.elim id (fun ⟨_, h, _⟩ => absurd h (Nat.not_lt_zero _))
            exact ⟨h0.only hn ho, h1.only hn ho, h2.only ho (by have := Pa.out.lt; have := Pb.out.lt; have := Xt5_.out.lt; have := Xt7_.out.lt; omega), h3.only ho (by have := Pa.out.lt; have := Pb.out.lt; have := Xt5_.out.lt; have := Xt7_.out.lt; omega), h4.only hn ho, h5.only hn ho, h6.only ho (by have := Pa.out.lt; have := Pb.out.lt; have := Xt5_.out.lt; have := Xt7_.out.lt; omega), h7.only hn ho, h8.only hn ho, h9.only ho (by have := Pa.out.lt; have := Pb.out.lt; have := Xt5_.out.lt; have := Xt7_.out.lt; omega), below_only h10 ho (by have := Pa.out.lt; have := Pb.out.lt; have := Xt5_.out.lt; have := Xt7_.out.lt; have := HB.out.size; omega)⟩)
          (fun l h => trivial) (fun l b w1 w2 h _ _ => trivial) (fun l b w1 w2 g h _ _ _ _ => trivial) (fun l h => by cases h) (fun l k h => by cases h) ?_ ?_
        · refine ⟨?_, ?_, ?_, ?_, ?_, ?_, ?_, ?_, ?_, ?_, ?_, ?_, ?_, ?_, ?_, ?_, ?_, ?_, ?_, trivial⟩ <;> intro L V a1 w1 hf hG hsz hφ hψ hL hdep hcl
          · obtain ⟨Fa_, Fb_, Pa_, Pb_, t5_1_, t5_2_, Xt5__, t7_1_, t7_2_, Xt7__, HB_⟩ := hG
            refine og_none rfl ?_
            have e5 := old_slot hf 5 (by kernel_rfl)
            exact ob_pure (ex_loadR rfl e5 Xt5__) rfl
          · obtain ⟨Fa_, Fb_, Pa_, Pb_, t5_1_, t5_2_, Xt5__, t7_1_, t7_2_, Xt7__, HB_⟩ := hG
            refine og_none rfl ?_
            have e7 := old_slot hf 7 (by kernel_rfl)
            exact ob_pure (ex_loadR rfl e7 Xt7__) rfl
          · obtain ⟨Fa_, Fb_, Pa_, Pb_, t5_1_, t5_2_, Xt5__, t7_1_, t7_2_, Xt7__, HB_⟩ := hG
            refine og_none rfl ?_
            have d0 := dep_of hdep 0 (by kernel_rfl)
            have e32 := (new_slot hf 0 32 d0 (by kernel_rfl)).trans (show V 0 = .agg #[.bool q4061, .slice A4061 n4061 c4061, .bool q4062, .slice A4062 n4062 c4062] from hφ 0 d0)
            have d1 := dep_of hdep 1 (by kernel_rfl)
            have e33 := (new_slot hf 1 33 d1 (by kernel_rfl)).trans (show V 1 = .agg #[.bool q6061, .slice A6061 n6061 c6061, .bool q6062, .slice A6062 n6062 c6062] from hφ 1 d1)
            refine ob_go rfl (vs := #[.agg #[.bool q4061, .slice A4061 n4061 c4061, .bool q4062, .slice A4062 n4062 c4062], .agg #[.bool q6061, .slice A6061 n6061 c6061, .bool q6062, .slice A6062 n6062 c6062]]) (by simp only [List.map_toArray, List.map_cons, List.map_nil, e32, e33]) (by kernel_rfl) (rsameP_any _ _ _ 0 0 (Pair.mk (a := .V 0) (b := .V 0) t5_1_ t5_2_) (Pair.mk (a := .V 0) (b := .V 0) t7_1_ t7_2_)) ?_
            rintro e w2 ⟨he, hb⟩
            exact ⟨_, he, hb, rfl⟩
          · obtain ⟨Fa_, Fb_, Pa_, Pb_, t5_1_, t5_2_, Xt5__, t7_1_, t7_2_, Xt7__, HB_⟩ := hG
            refine og_none rfl ?_
            have d2 := dep_of hdep 2 (by kernel_rfl)
            have e34 := (new_slot hf 2 34 d2 (by kernel_rfl)).trans (show V 2 = .bool true from hφ 2 d2)
            exact ob_pure (v := .bool true) (ex_moveV rfl e34) rfl
          · obtain ⟨Fa_, Fb_, Pa_, Pb_, t5_1_, t5_2_, Xt5__, t7_1_, t7_2_, Xt7__, HB_⟩ := hG
            have dg := dep_of hdep 3 (by kernel_rfl)
            refine og_want rfl (yielded_of hf (n := 50) (by kernel_rfl) rfl 3 35 dg (by kernel_rfl) (show V 3 = .bool true from hφ 3 dg)) ?_
            have e6 := old_slot hf 6 (by kernel_rfl)
            exact ob_pure (v := .bool false) (ex_moveV rfl e6) rfl
          · obtain ⟨Fa_, Fb_, Pa_, Pb_, t5_1_, t5_2_, Xt5__, t7_1_, t7_2_, Xt7__, HB_⟩ := hG
            have dg := dep_of hdep 3 (by kernel_rfl)
            refine og_want rfl (yielded_of hf (n := 50) (by kernel_rfl) rfl 3 35 dg (by kernel_rfl) (show V 3 = .bool true from hφ 3 dg)) ?_
            have e8 := old_slot hf 8 (by kernel_rfl)
            exact ob_pure (v := .bool false) (ex_moveV rfl e8) rfl
          · obtain ⟨Fa_, Fb_, Pa_, Pb_, t5_1_, t5_2_, Xt5__, t7_1_, t7_2_, Xt7__, HB_⟩ := hG
            have dg := dep_of hdep 3 (by kernel_rfl)
            refine og_want rfl (yielded_of hf (n := 50) (by kernel_rfl) rfl 3 35 dg (by kernel_rfl) (show V 3 = .bool true from hφ 3 dg)) ?_
            have d4 := dep_of hdep 4 (by kernel_rfl)
            have e36 := (new_slot hf 4 36 d4 (by kernel_rfl)).trans (show V 4 = .bool false from hφ 4 d4)
            have d5 := dep_of hdep 5 (by kernel_rfl)
            have e37 := (new_slot hf 5 37 d5 (by kernel_rfl)).trans (show V 5 = .bool false from hφ 5 d5)
            exact ob_pure (ex_eql_bool rfl e36 e37) (show Value.bool (false == false) = Value.bool true from by simp)
          · obtain ⟨Fa_, Fb_, Pa_, Pb_, t5_1_, t5_2_, Xt5__, t7_1_, t7_2_, Xt7__, HB_⟩ := hG
            refine og_none rfl ?_
            have d3 := dep_of hdep 3 (by kernel_rfl)
            have e35 := (new_slot hf 3 35 d3 (by kernel_rfl)).trans (show V 3 = .bool true from hφ 3 d3)
            have d6 := dep_of hdep 6 (by kernel_rfl)
            have e38 := (new_slot hf 6 38 d6 (by kernel_rfl)).trans (show V 6 = .bool true from hφ 6 d6)
            exact ob_pure (v := .bool true) (ex_pick_true rfl e35 e38) rfl
          · obtain ⟨Fa_, Fb_, Pa_, Pb_, t5_1_, t5_2_, Xt5__, t7_1_, t7_2_, Xt7__, HB_⟩ := hG
            refine og_none rfl ?_
            have d7 := dep_of hdep 7 (by kernel_rfl)
            have e39 := (new_slot hf 7 39 d7 (by kernel_rfl)).trans (show V 7 = .bool true from hφ 7 d7)
            exact ob_pure (v := .bool true) (ex_moveV rfl e39) rfl
          · obtain ⟨Fa_, Fb_, Pa_, Pb_, t5_1_, t5_2_, Xt5__, t7_1_, t7_2_, Xt7__, HB_⟩ := hG
            have dg := dep_of hdep 8 (by kernel_rfl)
            refine og_want rfl (yielded_of hf (n := 50) (by kernel_rfl) rfl 8 40 dg (by kernel_rfl) (show V 8 = .bool true from hφ 8 dg)) ?_
            have e2 := old_slot hf 2 (by kernel_rfl)
            exact ob_load_int rfl e2 Pa_ rfl
          · obtain ⟨Fa_, Fb_, Pa_, Pb_, t5_1_, t5_2_, Xt5__, t7_1_, t7_2_, Xt7__, HB_⟩ := hG
            have dg := dep_of hdep 8 (by kernel_rfl)
            refine og_want rfl (yielded_of hf (n := 50) (by kernel_rfl) rfl 8 40 dg (by kernel_rfl) (show V 8 = .bool true from hφ 8 dg)) ?_
            have d9 := dep_of hdep 9 (by kernel_rfl)
            have e41 := (new_slot hf 9 41 d9 (by kernel_rfl)).trans (show V 9 = .agg #[.bool sa, .slice Aa na ca] from hφ 9 d9)
            refine ob_go rfl (vs := #[.agg #[.bool sa, .slice Aa na ca]]) (by simp only [List.map_toArray, List.map_cons, List.map_nil, e41]) (by kernel_rfl) (wholeR_any _ _ za 8 Fa_) ?_
            rintro e w2 ⟨⟨v, rfl, hv⟩, hb⟩
            exact ⟨v, rfl, hb, hv⟩
          · obtain ⟨Fa_, Fb_, Pa_, Pb_, t5_1_, t5_2_, Xt5__, t7_1_, t7_2_, Xt7__, HB_⟩ := hG
            have dg := dep_of hdep 8 (by kernel_rfl)
            refine og_want rfl (yielded_of hf (n := 50) (by kernel_rfl) rfl 8 40 dg (by kernel_rfl) (show V 8 = .bool true from hφ 8 dg)) ?_
            have e2 := old_slot hf 2 (by kernel_rfl)
            exact ob_load_int rfl e2 Pa_ rfl
          · obtain ⟨Fa_, Fb_, Pa_, Pb_, t5_1_, t5_2_, Xt5__, t7_1_, t7_2_, Xt7__, HB_⟩ := hG
            have dg := dep_of hdep 8 (by kernel_rfl)
            refine og_want rfl (yielded_of hf (n := 50) (by kernel_rfl) rfl 8 40 dg (by kernel_rfl) (show V 8 = .bool true from hφ 8 dg)) ?_
            have d11 := dep_of hdep 11 (by kernel_rfl)
            have e43 := (new_slot hf 11 43 d11 (by kernel_rfl)).trans (show V 11 = .agg #[.bool sa, .slice Aa na ca] from hφ 11 d11)
            refine ob_go rfl (vs := #[.agg #[.bool sa, .slice Aa na ca]]) (by simp only [List.map_toArray, List.map_cons, List.map_nil, e43]) (by kernel_rfl) (rwholeR_any _ _ za 8 Fa_) ?_
            rintro e w2 ⟨⟨v, rfl, hv⟩, hb⟩
            exact ⟨v, rfl, hb, hv⟩
          · obtain ⟨Fa_, Fb_, Pa_, Pb_, t5_1_, t5_2_, Xt5__, t7_1_, t7_2_, Xt7__, HB_⟩ := hG
            have dg := dep_of hdep 8 (by kernel_rfl)
            refine og_want rfl (yielded_of hf (n := 50) (by kernel_rfl) rfl 8 40 dg (by kernel_rfl) (show V 8 = .bool true from hφ 8 dg)) ?_
            have d10 := dep_of hdep 10 (by kernel_rfl)
            have e42 := new_slot hf 10 42 d10 (by kernel_rfl)
            have p42 : Pair w1 (V 10) (.V (((za : Int) : Rat)).num) (.V ((((za : Int) : Rat)).den : Int)) := hφ 10 d10
            have d12 := dep_of hdep 12 (by kernel_rfl)
            have e44 := new_slot hf 12 44 d12 (by kernel_rfl)
            have p44 : Pair w1 (V 12) (.V (((za : Int) : Rat)).num) (.V ((((za : Int) : Rat)).den : Int)) := hφ 12 d12
            refine ob_go rfl (vs := #[V 10, V 12]) (by simp only [List.map_toArray, List.map_cons, List.map_nil, e42, e44]) (by kernel_rfl) (rsameR_any _ _ _ ((za : Int) : Rat) p42 p44) ?_
            rintro e w2 ⟨he, hb⟩
            exact ⟨_, he, hb, rfl⟩
          · obtain ⟨Fa_, Fb_, Pa_, Pb_, t5_1_, t5_2_, Xt5__, t7_1_, t7_2_, Xt7__, HB_⟩ := hG
            refine og_none rfl ?_
            have d8 := dep_of hdep 8 (by kernel_rfl)
            have e40 := (new_slot hf 8 40 d8 (by kernel_rfl)).trans (show V 8 = .bool true from hφ 8 d8)
            have d13 := dep_of hdep 13 (by kernel_rfl)
            have e45 := (new_slot hf 13 45 d13 (by kernel_rfl)).trans (show V 13 = .bool true from hφ 13 d13)
            exact ob_pure (v := .bool true) (ex_pick_true rfl e40 e45) rfl
          · obtain ⟨Fa_, Fb_, Pa_, Pb_, t5_1_, t5_2_, Xt5__, t7_1_, t7_2_, Xt7__, HB_⟩ := hG
            refine og_none rfl ?_
            have d14 := dep_of hdep 14 (by kernel_rfl)
            have e46 := (new_slot hf 14 46 d14 (by kernel_rfl)).trans (show V 14 = .bool true from hφ 14 d14)
            exact ob_pure (v := .bool true) (ex_moveV rfl e46) rfl
          · obtain ⟨Fa_, Fb_, Pa_, Pb_, t5_1_, t5_2_, Xt5__, t7_1_, t7_2_, Xt7__, HB_⟩ := hG
            have dg := dep_of hdep 15 (by kernel_rfl)
            refine og_want rfl (yielded_of hf (n := 50) (by kernel_rfl) rfl 15 47 dg (by kernel_rfl) (show V 15 = .bool true from hφ 15 dg)) ?_
            refine ob_go rfl (vs := #[]) (by simp only [List.map_toArray, List.map_nil]) (by kernel_rfl) (awakeR_any _) ?_
            rintro e w2 ⟨he, hb⟩
            exact ⟨_, he, hb, rfl⟩
          · obtain ⟨Fa_, Fb_, Pa_, Pb_, t5_1_, t5_2_, Xt5__, t7_1_, t7_2_, Xt7__, HB_⟩ := hG
            refine og_none rfl ?_
            have d15 := dep_of hdep 15 (by kernel_rfl)
            have e47 := (new_slot hf 15 47 d15 (by kernel_rfl)).trans (show V 15 = .bool true from hφ 15 d15)
            have d16 := dep_of hdep 16 (by kernel_rfl)
            have e48 := (new_slot hf 16 48 d16 (by kernel_rfl)).trans (show V 16 = .bool true from hφ 16 d16)
            exact ob_pure (v := .bool true) (ex_pick_true rfl e47 e48) rfl
          · obtain ⟨Fa_, Fb_, Pa_, Pb_, t5_1_, t5_2_, Xt5__, t7_1_, t7_2_, Xt7__, HB_⟩ := hG
            refine og_none rfl ?_
            have d17 := dep_of hdep 17 (by kernel_rfl)
            have e49 := (new_slot hf 17 49 d17 (by kernel_rfl)).trans (show V 17 = .bool true from hφ 17 d17)
            exact ob_pure (v := .bool true) (ex_assignV rfl e49) rfl
        · intro V W9 hG hsz9 hφ hψ hne
          have hlt9 : W6.heap.size ≤ W9.heap.size := hsz9
          obtain ⟨Fa_, Fb_, Pa_, Pb_, t5_1_, t5_2_, Xt5__, t7_1_, t7_2_, Xt7__, HB_⟩ := hG
          have Fa := hid Fa_
          have Fb := hid Fb_
          have Pa := hid Pa_
          have Pb := hid Pb_
          have t5_1 := hid t5_1_
          have t5_2 := hid t5_2_
          have Xt5_ := hid Xt5__
          have t7_1 := hid t7_1_
          have t7_2 := hid t7_2_
          have Xt7_ := hid Xt7__
          have HB := hid HB_
          have y0 : V 0 = .agg #[.bool q4061, .slice A4061 n4061 c4061, .bool q4062, .slice A4062 n4062 c4062] := hφ 0 (by decide)
          have y1 : V 1 = .agg #[.bool q6061, .slice A6061 n6061 c6061, .bool q6062, .slice A6062 n6062 c6062] := hφ 1 (by decide)
          have y2 : V 2 = .bool true := hφ 2 (by decide)
          have y3 : V 3 = .bool true := hφ 3 (by decide)
          have y4 : V 4 = .bool false := hφ 4 (by decide)
          have y5 : V 5 = .bool false := hφ 5 (by decide)
          have y6 : V 6 = .bool true := hφ 6 (by decide)
          have y7 : V 7 = .bool true := hφ 7 (by decide)
          have y8 : V 8 = .bool true := hφ 8 (by decide)
          have y9 : V 9 = .agg #[.bool sa, .slice Aa na ca] := hφ 9 (by decide)
          have y11 : V 11 = .agg #[.bool sa, .slice Aa na ca] := hφ 11 (by decide)
          have y13 : V 13 = .bool true := hφ 13 (by decide)
          have y14 : V 14 = .bool true := hφ 14 (by decide)
          have y15 : V 15 = .bool true := hφ 15 (by decide)
          have y16 : V 16 = .bool true := hφ 16 (by decide)
          have y17 : V 17 = .bool true := hφ 17 (by decide)
          have y18 : V 18 = .bool true := hφ 18 (by decide)
          simp only [puts, Act.put, List.setIfInBounds_toArray, List.set_cons_zero, List.set_cons_succ, y0, y1, y2, y3, y4, y5, y6, y7, y8, y9, y11, y13, y14, y15, y16, y17, y18]
          clear hφ hψ hne y0 y1 y2 y3 y4 y5 y6 y7 y8 y9 y11 y13 y14 y15 y16 y17 y18 Fa_ Fb_ Pa_ Pb_ t5_1_ t5_2_ Xt5__ t7_1_ t7_2_ Xt7__ HB_ hsz9
          go_wp2
          go_ret
          exact ⟨rfl, HB.out⟩
  · have HZ := hid hz
    clear hz
    go_enter Try.func11, Try.ntmps11
    go_wp2_with (with_reducible refine halt_at 21 rfl ?_)
    rw [← hW]
    clear hW
    clear k1 l1 f1 g1 k2 l2 f2 g2
    have RS3 : Hid (RS 8 (Rat.divInt za zb)) := hid (by have h := RS.of (Sm.to (n := 8) (Fa.out.sm) (by omega)) (Sm.to (n := 8) (Fb.out.sm) (by omega)) (by omega); rw [show Rat.divInt za zb = (Rat.divInt za zb) from rfl] at h; exact h)
    have lt3_Pa := Pa.out.lt
    have lt3_Pb := Pb.out.lt
    unfold Halted
    refine wp_list_each (by kernel_rfl) 9 50 rfl rfl (by kernel_rfl)
      [Fact.eq (.agg #[.bool sa, .slice Aa na ca]), Fact.eq (.agg #[.bool sb, .slice Ab nb cb]), Fact.pairB (.V ((Rat.divInt za zb)).num) (.V (((Rat.divInt za zb)).den : Int)) true, Fact.pairB (.V ((Rat.divInt za zb)).num) (.V (((Rat.divInt za zb)).den : Int)) true, Fact.pair (.V ((Rat.divInt za zb)).num) (.V (((Rat.divInt za zb)).den : Int)), Fact.eq (.bool true), Fact.boxR 26 Rne (.V ((Rat.divInt za zb)).num) (.V (((Rat.divInt za zb)).den : Int)), Fact.top _, Fact.eq (.bool true)]
      [.val, .val, .val, .val, .val, .val, .alloc 7, .fill 6, .val]
      (fun w' => IntA w' (.agg #[.bool sa, .slice Aa na ca]) (za) 8 ∧ IntA w' (.agg #[.bool sb, .slice Ab nb cb]) (zb) 8 ∧ Blk w' (w.heap.size) 24 #[.bool sa, .slice Aa na ca] ∧ Blk w' (w.heap.size + 1) 24 #[.bool sb, .slice Ab nb cb] ∧ Below w.heap.size w w')
      (fun _ _ _ => True) [] (fun _ => 0) (by kernel_rfl)
      ⟨Fa.out, Fb.out, Pa.out, Pb.out, HB.out⟩
      (fun w1 w2 ⟨h0, h1, h2, h3, h4⟩ hb => ⟨h0.below hb, h1.below hb, h2.below hb, h3.below hb, bw_step h4 hb⟩)
      (fun w1 w2 g ⟨h0, h1, h2, h3, h4⟩ hg hn ho => by
        have hg' : W.heap.size ≤ g := hg.elim id (fun ⟨_, h, _⟩ => absurd h (Nat.not_lt_zero _))
        exact ⟨h0.only hn ho, h1.only hn ho, h2.only ho (by have := Pa.out.lt; have := Pb.out.lt; omega), h3.only ho (by have := Pa.out.lt; have := Pb.out.lt; omega), below_only h4 ho (by have := Pa.out.lt; have := Pb.out.lt; have := HB.out.size; omega)⟩)
      (fun l h => trivial) (fun l b w1 w2 h _ _ => trivial) (fun l b w1 w2 g h _ _ _ _ => trivial) (fun l h => by cases h) (fun l k h => by cases h) ?_ ?_
    · refine ⟨?_, ?_, ?_, ?_, ?_, ?_, ?_, ?_, ?_, trivial⟩ <;> intro L V a1 w1 hf hG hsz hφ hψ hL hdep hcl
      · obtain ⟨Fa_, Fb_, Pa_, Pb_, HB_⟩ := hG
        have e2 := old_slot hf 2 (by kernel_rfl)
        exact ob_load_int rfl e2 Pa_ rfl
      · obtain ⟨Fa_, Fb_, Pa_, Pb_, HB_⟩ := hG
        have e3 := old_slot hf 3 (by kernel_rfl)
        exact ob_load_int rfl e3 Pb_ rfl
      · obtain ⟨Fa_, Fb_, Pa_, Pb_, HB_⟩ := hG
        have d0 := dep_of hdep 0 (by kernel_rfl)
        have e21 := (new_slot hf 0 21 d0 (by kernel_rfl)).trans (show V 0 = .agg #[.bool sa, .slice Aa na ca] from hφ 0 d0)
        have d1 := dep_of hdep 1 (by kernel_rfl)
        have e22 := (new_slot hf 1 22 d1 (by kernel_rfl)).trans (show V 1 = .agg #[.bool sb, .slice Ab nb cb] from hφ 1 d1)
        refine ob_go rfl (vs := #[.agg #[.bool sa, .slice Aa na ca], .agg #[.bool sb, .slice Ab nb cb]]) (by simp only [List.map_toArray, List.map_cons, List.map_nil, e21, e22]) (by kernel_rfl) (newR_any _ _ _ za zb (Rat.divInt za zb) 8 Fa_ Fb_ (by omega) (by omega) (HZ.out) (rfl)) ?_
        rintro e w2 ⟨⟨v, rfl, hv⟩, hb⟩
        exact ⟨v, rfl, hb, hv⟩
      · obtain ⟨Fa_, Fb_, Pa_, Pb_, HB_⟩ := hG
        have d2 := dep_of hdep 2 (by kernel_rfl)
        have e23 := new_slot hf 2 23 d2 (by kernel_rfl)
        have p23 : PairB w1 (V 2) (.V ((Rat.divInt za zb)).num) (.V (((Rat.divInt za zb)).den : Int)) true := hφ 2 d2
        exact ob_pure (ex_moveV rfl e23) (by exact p23)
      · obtain ⟨Fa_, Fb_, Pa_, Pb_, HB_⟩ := hG
        have d3 := dep_of hdep 3 (by kernel_rfl)
        have e20 := new_slot hf 3 20 d3 (by kernel_rfl)
        have p20 : PairB w1 (V 3) (.V ((Rat.divInt za zb)).num) (.V (((Rat.divInt za zb)).den : Int)) true := hφ 3 d3
        exact ob_pairB0 rfl e20 p20 rfl
      · obtain ⟨Fa_, Fb_, Pa_, Pb_, HB_⟩ := hG
        have d3 := dep_of hdep 3 (by kernel_rfl)
        have e20 := new_slot hf 3 20 d3 (by kernel_rfl)
        have p20 : PairB w1 (V 3) (.V ((Rat.divInt za zb)).num) (.V (((Rat.divInt za zb)).den : Int)) true := hφ 3 d3
        exact ob_pairB1 rfl e20 p20 rfl
      · obtain ⟨Fa_, Fb_, Pa_, Pb_, HB_⟩ := hG
        exact ob_allocR rfl hsz rfl
      · obtain ⟨Fa_, Fb_, Pa_, Pb_, HB_⟩ := hG
        have d4 := dep_of hdep 4 (by kernel_rfl)
        have e24 := new_slot hf 4 24 d4 (by kernel_rfl)
        have p24 : Pair w1 (V 4) (.V ((Rat.divInt za zb)).num) (.V (((Rat.divInt za zb)).den : Int)) := hφ 4 d4
        have d6 := dep_of hdep 6 (by kernel_rfl)
        obtain ⟨g, h1, h2, h3, _⟩ := hφ 6 d6
        have hz := h3 (show (true && L 7) = false from by have h : L 7 = false := hL; rw [h]; rfl)
        exact ob_fillR rfl ((new_slot hf 6 5 d6 (by kernel_rfl)).trans h1) e24 h1 h2 hz p24 rfl rfl
      · obtain ⟨Fa_, Fb_, Pa_, Pb_, HB_⟩ := hG
        have d5 := dep_of hdep 5 (by kernel_rfl)
        have e25 := (new_slot hf 5 25 d5 (by kernel_rfl)).trans (show V 5 = .bool true from hφ 5 d5)
        exact ob_pure (v := .bool true) (ex_assignV rfl e25) rfl
    · intro V W4 hG hsz4 hφ hψ hne
      have hlt4 : W.heap.size ≤ W4.heap.size := hsz4
      obtain ⟨Fa_, Fb_, Pa_, Pb_, HB_⟩ := hG
      have Fa := hid Fa_
      have Fb := hid Fb_
      have Pa := hid Pa_
      have Pb := hid Pb_
      have HB := hid HB_
      have y0 : V 0 = .agg #[.bool sa, .slice Aa na ca] := hφ 0 (by decide)
      have y1 : V 1 = .agg #[.bool sb, .slice Ab nb cb] := hφ 1 (by decide)
      have y5 : V 5 = .bool true := hφ 5 (by decide)
      obtain ⟨G4_6, y6, gb406, _, hb406⟩ := hφ 6 (by decide)
      obtain ⟨q4061, A4061, n4061, c4061, q4062, A4062, n4062, c4062, kb406, va406, vb406⟩ := hb406 rfl
      have Xt5_ := hid kb406
      have t5_1 : Hid (IntV W4 (.agg #[.bool q4061, .slice A4061 n4061 c4061]) ((Rat.divInt za zb)).num) := hid va406
      have t5_2 : Hid (IntV W4 (.agg #[.bool q4062, .slice A4062 n4062 c4062]) (((Rat.divInt za zb)).den : Int)) := hid vb406
      clear kb406 va406 vb406
      clear hb406
      have y8 : V 8 = .bool true := hφ 8 (by decide)
      simp only [puts, Act.put, List.setIfInBounds_toArray, List.set_cons_zero, List.set_cons_succ, y0, y1, y5, y6, y8, ptr]
      clear hφ hψ hne y0 y1 y5 y6 y8 Fa_ Fb_ Pa_ Pb_ HB_ hsz4
      go_wp2_with (with_reducible refine halt_at 27 rfl ?_)
      have RS5 : Hid (RS 8 (Rat.divInt za zb)) := hid (by have h := RS.of (Sm.to (n := 8) (Fa.out.sm) (by omega)) (Sm.to (n := 8) (Fb.out.sm) (by omega)) (by omega); rw [show Rat.divInt za zb = (Rat.divInt za zb) from rfl] at h; exact h)
      have lt5_Pa := Pa.out.lt
      have lt5_Pb := Pb.out.lt
      have lt5_Xt5_ := Xt5_.out.lt
      unfold Halted
      refine wp_list_each (by kernel_rfl) 9 50 rfl rfl (by kernel_rfl)
        [Fact.eq (.agg #[.bool sa, .slice Aa na ca]), Fact.eq (.agg #[.bool sb, .slice Ab nb cb]), Fact.pairB (.V ((Rat.divInt za zb)).num) (.V (((Rat.divInt za zb)).den : Int)) true, Fact.pairB (.V ((Rat.divInt za zb)).num) (.V (((Rat.divInt za zb)).den : Int)) true, Fact.pair (.V ((Rat.divInt za zb)).num) (.V (((Rat.divInt za zb)).den : Int)), Fact.eq (.bool true), Fact.boxR 26 Rne (.V ((Rat.divInt za zb)).num) (.V (((Rat.divInt za zb)).den : Int)), Fact.top _, Fact.eq (.bool true)]
        [.val, .val, .val, .val, .val, .val, .alloc 7, .fill 6, .val]
        (fun w' => IntA w' (.agg #[.bool sa, .slice Aa na ca]) (za) 8 ∧ IntA w' (.agg #[.bool sb, .slice Ab nb cb]) (zb) 8 ∧ Blk w' (w.heap.size) 24 #[.bool sa, .slice Aa na ca] ∧ Blk w' (w.heap.size + 1) 24 #[.bool sb, .slice Ab nb cb] ∧ IntV w' (.agg #[.bool q4061, .slice A4061 n4061 c4061]) (((Rat.divInt za zb)).num) ∧ IntV w' (.agg #[.bool q4062, .slice A4062 n4062 c4062]) ((((Rat.divInt za zb)).den : Int)) ∧ Blk w' (G4_6) 26 #[.bool q4061, .slice A4061 n4061 c4061, .bool q4062, .slice A4062 n4062 c4062] ∧ Below w.heap.size w w')
        (fun _ _ _ => True) [] (fun _ => 0) (by kernel_rfl)
        ⟨Fa.out, Fb.out, Pa.out, Pb.out, t5_1.out, t5_2.out, Xt5_.out, HB.out⟩
        (fun w1 w2 ⟨h0, h1, h2, h3, h4, h5, h6, h7⟩ hb => ⟨h0.below hb, h1.below hb, h2.below hb, h3.below hb, h4.below hb, h5.below hb, h6.below hb, bw_step h7 hb⟩)
        (fun w1 w2 g ⟨h0, h1, h2, h3, h4, h5, h6, h7⟩ hg hn ho => by
          have hg' : W4.heap.size ≤ g := hg.elim id (fun ⟨_, h, _⟩ => absurd h (Nat.not_lt_zero _))
          exact ⟨h0.only hn ho, h1.only hn ho, h2.only ho (by have := Pa.out.lt; have := Pb.out.lt; have := Xt5_.out.lt; omega), h3.only ho (by have := Pa.out.lt; have := Pb.out.lt; have := Xt5_.out.lt; omega), h4.only hn ho, h5.only hn ho, h6.only ho (by have := Pa.out.lt; have := Pb.out.lt; have := Xt5_.out.lt; omega), below_only h7 ho (by have := Pa.out.lt; have := Pb.out.lt; have := Xt5_.out.lt; have := HB.out.size; omega)⟩)
        (fun l h => trivial) (fun l b w1 w2 h _ _ => trivial) (fun l b w1 w2 g h _ _ _ _ => trivial) (fun l h => by cases h) (fun l k h => by cases h) ?_ ?_
      · refine ⟨?_, ?_, ?_, ?_, ?_, ?_, ?_, ?_, ?_, trivial⟩ <;> intro L V a1 w1 hf hG hsz hφ hψ hL hdep hcl
        · obtain ⟨Fa_, Fb_, Pa_, Pb_, t5_1_, t5_2_, Xt5__, HB_⟩ := hG
          have e2 := old_slot hf 2 (by kernel_rfl)
          exact ob_load_int rfl e2 Pa_ rfl
        · obtain ⟨Fa_, Fb_, Pa_, Pb_, t5_1_, t5_2_, Xt5__, HB_⟩ := hG
          have e3 := old_slot hf 3 (by kernel_rfl)
          exact ob_load_int rfl e3 Pb_ rfl
        · obtain ⟨Fa_, Fb_, Pa_, Pb_, t5_1_, t5_2_, Xt5__, HB_⟩ := hG
          have d0 := dep_of hdep 0 (by kernel_rfl)
          have e27 := (new_slot hf 0 27 d0 (by kernel_rfl)).trans (show V 0 = .agg #[.bool sa, .slice Aa na ca] from hφ 0 d0)
          have d1 := dep_of hdep 1 (by kernel_rfl)
          have e28 := (new_slot hf 1 28 d1 (by kernel_rfl)).trans (show V 1 = .agg #[.bool sb, .slice Ab nb cb] from hφ 1 d1)
          refine ob_go rfl (vs := #[.agg #[.bool sa, .slice Aa na ca], .agg #[.bool sb, .slice Ab nb cb]]) (by simp only [List.map_toArray, List.map_cons, List.map_nil, e27, e28]) (by kernel_rfl) (rnewR_any _ _ _ za zb (Rat.divInt za zb) 8 Fa_ Fb_ (by omega) (by omega) (HZ.out) (rfl)) ?_
          rintro e w2 ⟨⟨v, rfl, hv⟩, hb⟩
          exact ⟨v, rfl, hb, hv⟩
        · obtain ⟨Fa_, Fb_, Pa_, Pb_, t5_1_, t5_2_, Xt5__, HB_⟩ := hG
          have d2 := dep_of hdep 2 (by kernel_rfl)
          have e29 := new_slot hf 2 29 d2 (by kernel_rfl)
          have p29 : PairB w1 (V 2) (.V ((Rat.divInt za zb)).num) (.V (((Rat.divInt za zb)).den : Int)) true := hφ 2 d2
          exact ob_pure (ex_moveV rfl e29) (by exact p29)
        · obtain ⟨Fa_, Fb_, Pa_, Pb_, t5_1_, t5_2_, Xt5__, HB_⟩ := hG
          have d3 := dep_of hdep 3 (by kernel_rfl)
          have e26 := new_slot hf 3 26 d3 (by kernel_rfl)
          have p26 : PairB w1 (V 3) (.V ((Rat.divInt za zb)).num) (.V (((Rat.divInt za zb)).den : Int)) true := hφ 3 d3
          exact ob_pairB0 rfl e26 p26 rfl
        · obtain ⟨Fa_, Fb_, Pa_, Pb_, t5_1_, t5_2_, Xt5__, HB_⟩ := hG
          have d3 := dep_of hdep 3 (by kernel_rfl)
          have e26 := new_slot hf 3 26 d3 (by kernel_rfl)
          have p26 : PairB w1 (V 3) (.V ((Rat.divInt za zb)).num) (.V (((Rat.divInt za zb)).den : Int)) true := hφ 3 d3
          exact ob_pairB1 rfl e26 p26 rfl
        · obtain ⟨Fa_, Fb_, Pa_, Pb_, t5_1_, t5_2_, Xt5__, HB_⟩ := hG
          exact ob_allocR rfl hsz rfl
        · obtain ⟨Fa_, Fb_, Pa_, Pb_, t5_1_, t5_2_, Xt5__, HB_⟩ := hG
          have d4 := dep_of hdep 4 (by kernel_rfl)
          have e30 := new_slot hf 4 30 d4 (by kernel_rfl)
          have p30 : Pair w1 (V 4) (.V ((Rat.divInt za zb)).num) (.V (((Rat.divInt za zb)).den : Int)) := hφ 4 d4
          have d6 := dep_of hdep 6 (by kernel_rfl)
          obtain ⟨g, h1, h2, h3, _⟩ := hφ 6 d6
          have hz := h3 (show (true && L 7) = false from by have h : L 7 = false := hL; rw [h]; rfl)
          exact ob_fillR rfl ((new_slot hf 6 7 d6 (by kernel_rfl)).trans h1) e30 h1 h2 hz p30 rfl rfl
        · obtain ⟨Fa_, Fb_, Pa_, Pb_, t5_1_, t5_2_, Xt5__, HB_⟩ := hG
          have d5 := dep_of hdep 5 (by kernel_rfl)
          have e31 := (new_slot hf 5 31 d5 (by kernel_rfl)).trans (show V 5 = .bool true from hφ 5 d5)
          exact ob_pure (v := .bool true) (ex_assignV rfl e31) rfl
      · intro V W6 hG hsz6 hφ hψ hne
        have hlt6 : W4.heap.size ≤ W6.heap.size := hsz6
        obtain ⟨Fa_, Fb_, Pa_, Pb_, t5_1_, t5_2_, Xt5__, HB_⟩ := hG
        have Fa := hid Fa_
        have Fb := hid Fb_
        have Pa := hid Pa_
        have Pb := hid Pb_
        have t5_1 := hid t5_1_
        have t5_2 := hid t5_2_
        have Xt5_ := hid Xt5__
        have HB := hid HB_
        have y0 : V 0 = .agg #[.bool sa, .slice Aa na ca] := hφ 0 (by decide)
        have y1 : V 1 = .agg #[.bool sb, .slice Ab nb cb] := hφ 1 (by decide)
        have y5 : V 5 = .bool true := hφ 5 (by decide)
        obtain ⟨G6_6, y6, gb606, _, hb606⟩ := hφ 6 (by decide)
        obtain ⟨q6061, A6061, n6061, c6061, q6062, A6062, n6062, c6062, kb606, va606, vb606⟩ := hb606 rfl
        have Xt7_ := hid kb606
        have t7_1 : Hid (IntV W6 (.agg #[.bool q6061, .slice A6061 n6061 c6061]) ((Rat.divInt za zb)).num) := hid va606
        have t7_2 : Hid (IntV W6 (.agg #[.bool q6062, .slice A6062 n6062 c6062]) (((Rat.divInt za zb)).den : Int)) := hid vb606
        clear kb606 va606 vb606
        clear hb606
        have y8 : V 8 = .bool true := hφ 8 (by decide)
        simp only [puts, Act.put, List.setIfInBounds_toArray, List.set_cons_zero, List.set_cons_succ, y0, y1, y5, y6, y8, ptr]
        clear hφ hψ hne y0 y1 y5 y6 y8 Fa_ Fb_ Pa_ Pb_ t5_1_ t5_2_ Xt5__ HB_ hsz6
        go_wp2_with fail
        have RS7 : Hid (RS 8 ((za : Int) : Rat)) := hid (RS.int (Fa.out.sm) (by omega))
        have RS8 : Hid (RS 8 ((za : Int) : Rat)) := hid (RS.int (Fa.out.sm) (by omega))
        refine wp_region_eachG (by kernel_rfl) 19 50 rfl rfl (by kernel_rfl)
          [Fact.eq (.agg #[.bool q4061, .slice A4061 n4061 c4061, .bool q4062, .slice A4062 n4062 c4062]), Fact.eq (.agg #[.bool q6061, .slice A6061 n6061 c6061, .bool q6062, .slice A6062 n6062 c6062]), Fact.eq (.bool true), Fact.eq (.bool true), Fact.eq (.bool true), Fact.eq (.bool true), Fact.eq (.bool true), Fact.eq (.bool true), Fact.eq (.bool true), Fact.eq (.agg #[.bool sa, .slice Aa na ca]), Fact.pair (.V (((za : Int) : Rat)).num) (.V ((((za : Int) : Rat)).den : Int)), Fact.eq (.agg #[.bool sa, .slice Aa na ca]), Fact.pair (.V (((za : Int) : Rat)).num) (.V ((((za : Int) : Rat)).den : Int)), Fact.eq (.bool true), Fact.eq (.bool true), Fact.eq (.bool true), Fact.eq (.bool true), Fact.eq (.bool true), Fact.eq (.bool true)]
          [.val, .val, .val, .val, .val, .val, .val, .val, .val, .val, .val, .val, .val, .val, .val, .val, .val, .val, .val]
          (fun w' => IntA w' (.agg #[.bool sa, .slice Aa na ca]) (za) 8 ∧ IntA w' (.agg #[.bool sb, .slice Ab nb cb]) (zb) 8 ∧ Blk w' (w.heap.size) 24 #[.bool sa, .slice Aa na ca] ∧ Blk w' (w.heap.size + 1) 24 #[.bool sb, .slice Ab nb cb] ∧ IntV w' (.agg #[.bool q4061, .slice A4061 n4061 c4061]) (((Rat.divInt za zb)).num) ∧ IntV w' (.agg #[.bool q4062, .slice A4062 n4062 c4062]) ((((Rat.divInt za zb)).den : Int)) ∧ Blk w' (G4_6) 26 #[.bool q4061, .slice A4061 n4061 c4061, .bool q4062, .slice A4062 n4062 c4062] ∧ IntV w' (.agg #[.bool q6061, .slice A6061 n6061 c6061]) (((Rat.divInt za zb)).num) ∧ IntV w' (.agg #[.bool q6062, .slice A6062 n6062 c6062]) ((((Rat.divInt za zb)).den : Int)) ∧ Blk w' (G6_6) 26 #[.bool q6061, .slice A6061 n6061 c6061, .bool q6062, .slice A6062 n6062 c6062] ∧ Below w.heap.size w w')
          (fun _ _ _ => True) [] (fun _ => 0) (by kernel_rfl)
          ⟨Fa.out, Fb.out, Pa.out, Pb.out, t5_1.out, t5_2.out, Xt5_.out, t7_1.out, t7_2.out, Xt7_.out, HB.out⟩
          (fun w1 w2 ⟨h0, h1, h2, h3, h4, h5, h6, h7, h8, h9, h10⟩ hb => ⟨h0.below hb, h1.below hb, h2.below hb, h3.below hb, h4.below hb, h5.below hb, h6.below hb, h7.below hb, h8.below hb, h9.below hb, bw_step h10 hb⟩)
          (fun w1 w2 g ⟨h0, h1, h2, h3, h4, h5, h6, h7, h8, h9, h10⟩ hg hn ho => by
            have hg' : W6.heap.size ≤ g := hg.elim id (fun ⟨_, h, _⟩ => absurd h (Nat.not_lt_zero _))
            exact ⟨h0.only hn ho, h1.only hn ho, h2.only ho (by have := Pa.out.lt; have := Pb.out.lt; have := Xt5_.out.lt; have := Xt7_.out.lt; omega), h3.only ho (by have := Pa.out.lt; have := Pb.out.lt; have := Xt5_.out.lt; have := Xt7_.out.lt; omega), h4.only hn ho, h5.only hn ho, h6.only ho (by have := Pa.out.lt; have := Pb.out.lt; have := Xt5_.out.lt; have := Xt7_.out.lt; omega), h7.only hn ho, h8.only hn ho, h9.only ho (by have := Pa.out.lt; have := Pb.out.lt; have := Xt5_.out.lt; have := Xt7_.out.lt; omega), below_only h10 ho (by have := Pa.out.lt; have := Pb.out.lt; have := Xt5_.out.lt; have := Xt7_.out.lt; have := HB.out.size; omega)⟩)
          (fun l h => trivial) (fun l b w1 w2 h _ _ => trivial) (fun l b w1 w2 g h _ _ _ _ => trivial) (fun l h => by cases h) (fun l k h => by cases h) ?_ ?_
        · refine ⟨?_, ?_, ?_, ?_, ?_, ?_, ?_, ?_, ?_, ?_, ?_, ?_, ?_, ?_, ?_, ?_, ?_, ?_, ?_, trivial⟩ <;> intro L V a1 w1 hf hG hsz hφ hψ hL hdep hcl
          · obtain ⟨Fa_, Fb_, Pa_, Pb_, t5_1_, t5_2_, Xt5__, t7_1_, t7_2_, Xt7__, HB_⟩ := hG
            refine og_none rfl ?_
            have e5 := old_slot hf 5 (by kernel_rfl)
            exact ob_pure (ex_loadR rfl e5 Xt5__) rfl
          · obtain ⟨Fa_, Fb_, Pa_, Pb_, t5_1_, t5_2_, Xt5__, t7_1_, t7_2_, Xt7__, HB_⟩ := hG
            refine og_none rfl ?_
            have e7 := old_slot hf 7 (by kernel_rfl)
            exact ob_pure (ex_loadR rfl e7 Xt7__) rfl
          · obtain ⟨Fa_, Fb_, Pa_, Pb_, t5_1_, t5_2_, Xt5__, t7_1_, t7_2_, Xt7__, HB_⟩ := hG
            refine og_none rfl ?_
            have d0 := dep_of hdep 0 (by kernel_rfl)
            have e32 := (new_slot hf 0 32 d0 (by kernel_rfl)).trans (show V 0 = .agg #[.bool q4061, .slice A4061 n4061 c4061, .bool q4062, .slice A4062 n4062 c4062] from hφ 0 d0)
            have d1 := dep_of hdep 1 (by kernel_rfl)
            have e33 := (new_slot hf 1 33 d1 (by kernel_rfl)).trans (show V 1 = .agg #[.bool q6061, .slice A6061 n6061 c6061, .bool q6062, .slice A6062 n6062 c6062] from hφ 1 d1)
            refine ob_go rfl (vs := #[.agg #[.bool q4061, .slice A4061 n4061 c4061, .bool q4062, .slice A4062 n4062 c4062], .agg #[.bool q6061, .slice A6061 n6061 c6061, .bool q6062, .slice A6062 n6062 c6062]]) (by simp only [List.map_toArray, List.map_cons, List.map_nil, e32, e33]) (by kernel_rfl) (rsameR_any _ _ _ (Rat.divInt za zb) (Pair.mk (a := .V ((Rat.divInt za zb)).num) (b := .V (((Rat.divInt za zb)).den : Int)) t5_1_ t5_2_) (Pair.mk (a := .V ((Rat.divInt za zb)).num) (b := .V (((Rat.divInt za zb)).den : Int)) t7_1_ t7_2_)) ?_
            rintro e w2 ⟨he, hb⟩
            exact ⟨_, he, hb, rfl⟩
          · obtain ⟨Fa_, Fb_, Pa_, Pb_, t5_1_, t5_2_, Xt5__, t7_1_, t7_2_, Xt7__, HB_⟩ := hG
            refine og_none rfl ?_
            have d2 := dep_of hdep 2 (by kernel_rfl)
            have e34 := (new_slot hf 2 34 d2 (by kernel_rfl)).trans (show V 2 = .bool true from hφ 2 d2)
            exact ob_pure (v := .bool true) (ex_moveV rfl e34) rfl
          · obtain ⟨Fa_, Fb_, Pa_, Pb_, t5_1_, t5_2_, Xt5__, t7_1_, t7_2_, Xt7__, HB_⟩ := hG
            have dg := dep_of hdep 3 (by kernel_rfl)
            refine og_want rfl (yielded_of hf (n := 50) (by kernel_rfl) rfl 3 35 dg (by kernel_rfl) (show V 3 = .bool true from hφ 3 dg)) ?_
            have e6 := old_slot hf 6 (by kernel_rfl)
            exact ob_pure (v := .bool true) (ex_moveV rfl e6) rfl
          · obtain ⟨Fa_, Fb_, Pa_, Pb_, t5_1_, t5_2_, Xt5__, t7_1_, t7_2_, Xt7__, HB_⟩ := hG
            have dg := dep_of hdep 3 (by kernel_rfl)
            refine og_want rfl (yielded_of hf (n := 50) (by kernel_rfl) rfl 3 35 dg (by kernel_rfl) (show V 3 = .bool true from hφ 3 dg)) ?_
            have e8 := old_slot hf 8 (by kernel_rfl)
            exact ob_pure (v := .bool true) (ex_moveV rfl e8) rfl
          · obtain ⟨Fa_, Fb_, Pa_, Pb_, t5_1_, t5_2_, Xt5__, t7_1_, t7_2_, Xt7__, HB_⟩ := hG
            have dg := dep_of hdep 3 (by kernel_rfl)
            refine og_want rfl (yielded_of hf (n := 50) (by kernel_rfl) rfl 3 35 dg (by kernel_rfl) (show V 3 = .bool true from hφ 3 dg)) ?_
            have d4 := dep_of hdep 4 (by kernel_rfl)
            have e36 := (new_slot hf 4 36 d4 (by kernel_rfl)).trans (show V 4 = .bool true from hφ 4 d4)
            have d5 := dep_of hdep 5 (by kernel_rfl)
            have e37 := (new_slot hf 5 37 d5 (by kernel_rfl)).trans (show V 5 = .bool true from hφ 5 d5)
            exact ob_pure (ex_eql_bool rfl e36 e37) (show Value.bool (true == true) = Value.bool true from by simp)
          · obtain ⟨Fa_, Fb_, Pa_, Pb_, t5_1_, t5_2_, Xt5__, t7_1_, t7_2_, Xt7__, HB_⟩ := hG
            refine og_none rfl ?_
            have d3 := dep_of hdep 3 (by kernel_rfl)
            have e35 := (new_slot hf 3 35 d3 (by kernel_rfl)).trans (show V 3 = .bool true from hφ 3 d3)
            have d6 := dep_of hdep 6 (by kernel_rfl)
            have e38 := (new_slot hf 6 38 d6 (by kernel_rfl)).trans (show V 6 = .bool true from hφ 6 d6)
            exact ob_pure (v := .bool true) (ex_pick_true rfl e35 e38) rfl
          · obtain ⟨Fa_, Fb_, Pa_, Pb_, t5_1_, t5_2_, Xt5__, t7_1_, t7_2_, Xt7__, HB_⟩ := hG
            refine og_none rfl ?_
            have d7 := dep_of hdep 7 (by kernel_rfl)
            have e39 := (new_slot hf 7 39 d7 (by kernel_rfl)).trans (show V 7 = .bool true from hφ 7 d7)
            exact ob_pure (v := .bool true) (ex_moveV rfl e39) rfl
          · obtain ⟨Fa_, Fb_, Pa_, Pb_, t5_1_, t5_2_, Xt5__, t7_1_, t7_2_, Xt7__, HB_⟩ := hG
            have dg := dep_of hdep 8 (by kernel_rfl)
            refine og_want rfl (yielded_of hf (n := 50) (by kernel_rfl) rfl 8 40 dg (by kernel_rfl) (show V 8 = .bool true from hφ 8 dg)) ?_
            have e2 := old_slot hf 2 (by kernel_rfl)
            exact ob_load_int rfl e2 Pa_ rfl
          · obtain ⟨Fa_, Fb_, Pa_, Pb_, t5_1_, t5_2_, Xt5__, t7_1_, t7_2_, Xt7__, HB_⟩ := hG
            have dg := dep_of hdep 8 (by kernel_rfl)
            refine og_want rfl (yielded_of hf (n := 50) (by kernel_rfl) rfl 8 40 dg (by kernel_rfl) (show V 8 = .bool true from hφ 8 dg)) ?_
            have d9 := dep_of hdep 9 (by kernel_rfl)
            have e41 := (new_slot hf 9 41 d9 (by kernel_rfl)).trans (show V 9 = .agg #[.bool sa, .slice Aa na ca] from hφ 9 d9)
            refine ob_go rfl (vs := #[.agg #[.bool sa, .slice Aa na ca]]) (by simp only [List.map_toArray, List.map_cons, List.map_nil, e41]) (by kernel_rfl) (wholeR_any _ _ za 8 Fa_) ?_
            rintro e w2 ⟨⟨v, rfl, hv⟩, hb⟩
            exact ⟨v, rfl, hb, hv⟩
          · obtain ⟨Fa_, Fb_, Pa_, Pb_, t5_1_, t5_2_, Xt5__, t7_1_, t7_2_, Xt7__, HB_⟩ := hG
            have dg := dep_of hdep 8 (by kernel_rfl)
            refine og_want rfl (yielded_of hf (n := 50) (by kernel_rfl) rfl 8 40 dg (by kernel_rfl) (show V 8 = .bool true from hφ 8 dg)) ?_
            have e2 := old_slot hf 2 (by kernel_rfl)
            exact ob_load_int rfl e2 Pa_ rfl
          · obtain ⟨Fa_, Fb_, Pa_, Pb_, t5_1_, t5_2_, Xt5__, t7_1_, t7_2_, Xt7__, HB_⟩ := hG
            have dg := dep_of hdep 8 (by kernel_rfl)
            refine og_want rfl (yielded_of hf (n := 50) (by kernel_rfl) rfl 8 40 dg (by kernel_rfl) (show V 8 = .bool true from hφ 8 dg)) ?_
            have d11 := dep_of hdep 11 (by kernel_rfl)
            have e43 := (new_slot hf 11 43 d11 (by kernel_rfl)).trans (show V 11 = .agg #[.bool sa, .slice Aa na ca] from hφ 11 d11)
            refine ob_go rfl (vs := #[.agg #[.bool sa, .slice Aa na ca]]) (by simp only [List.map_toArray, List.map_cons, List.map_nil, e43]) (by kernel_rfl) (rwholeR_any _ _ za 8 Fa_) ?_
            rintro e w2 ⟨⟨v, rfl, hv⟩, hb⟩
            exact ⟨v, rfl, hb, hv⟩
          · obtain ⟨Fa_, Fb_, Pa_, Pb_, t5_1_, t5_2_, Xt5__, t7_1_, t7_2_, Xt7__, HB_⟩ := hG
            have dg := dep_of hdep 8 (by kernel_rfl)
            refine og_want rfl (yielded_of hf (n := 50) (by kernel_rfl) rfl 8 40 dg (by kernel_rfl) (show V 8 = .bool true from hφ 8 dg)) ?_
            have d10 := dep_of hdep 10 (by kernel_rfl)
            have e42 := new_slot hf 10 42 d10 (by kernel_rfl)
            have p42 : Pair w1 (V 10) (.V (((za : Int) : Rat)).num) (.V ((((za : Int) : Rat)).den : Int)) := hφ 10 d10
            have d12 := dep_of hdep 12 (by kernel_rfl)
            have e44 := new_slot hf 12 44 d12 (by kernel_rfl)
            have p44 : Pair w1 (V 12) (.V (((za : Int) : Rat)).num) (.V ((((za : Int) : Rat)).den : Int)) := hφ 12 d12
            refine ob_go rfl (vs := #[V 10, V 12]) (by simp only [List.map_toArray, List.map_cons, List.map_nil, e42, e44]) (by kernel_rfl) (rsameR_any _ _ _ ((za : Int) : Rat) p42 p44) ?_
            rintro e w2 ⟨he, hb⟩
            exact ⟨_, he, hb, rfl⟩
          · obtain ⟨Fa_, Fb_, Pa_, Pb_, t5_1_, t5_2_, Xt5__, t7_1_, t7_2_, Xt7__, HB_⟩ := hG
            refine og_none rfl ?_
            have d8 := dep_of hdep 8 (by kernel_rfl)
            have e40 := (new_slot hf 8 40 d8 (by kernel_rfl)).trans (show V 8 = .bool true from hφ 8 d8)
            have d13 := dep_of hdep 13 (by kernel_rfl)
            have e45 := (new_slot hf 13 45 d13 (by kernel_rfl)).trans (show V 13 = .bool true from hφ 13 d13)
            exact ob_pure (v := .bool true) (ex_pick_true rfl e40 e45) rfl
          · obtain ⟨Fa_, Fb_, Pa_, Pb_, t5_1_, t5_2_, Xt5__, t7_1_, t7_2_, Xt7__, HB_⟩ := hG
            refine og_none rfl ?_
            have d14 := dep_of hdep 14 (by kernel_rfl)
            have e46 := (new_slot hf 14 46 d14 (by kernel_rfl)).trans (show V 14 = .bool true from hφ 14 d14)
            exact ob_pure (v := .bool true) (ex_moveV rfl e46) rfl
          · obtain ⟨Fa_, Fb_, Pa_, Pb_, t5_1_, t5_2_, Xt5__, t7_1_, t7_2_, Xt7__, HB_⟩ := hG
            have dg := dep_of hdep 15 (by kernel_rfl)
            refine og_want rfl (yielded_of hf (n := 50) (by kernel_rfl) rfl 15 47 dg (by kernel_rfl) (show V 15 = .bool true from hφ 15 dg)) ?_
            refine ob_go rfl (vs := #[]) (by simp only [List.map_toArray, List.map_nil]) (by kernel_rfl) (awakeR_any _) ?_
            rintro e w2 ⟨he, hb⟩
            exact ⟨_, he, hb, rfl⟩
          · obtain ⟨Fa_, Fb_, Pa_, Pb_, t5_1_, t5_2_, Xt5__, t7_1_, t7_2_, Xt7__, HB_⟩ := hG
            refine og_none rfl ?_
            have d15 := dep_of hdep 15 (by kernel_rfl)
            have e47 := (new_slot hf 15 47 d15 (by kernel_rfl)).trans (show V 15 = .bool true from hφ 15 d15)
            have d16 := dep_of hdep 16 (by kernel_rfl)
            have e48 := (new_slot hf 16 48 d16 (by kernel_rfl)).trans (show V 16 = .bool true from hφ 16 d16)
            exact ob_pure (v := .bool true) (ex_pick_true rfl e47 e48) rfl
          · obtain ⟨Fa_, Fb_, Pa_, Pb_, t5_1_, t5_2_, Xt5__, t7_1_, t7_2_, Xt7__, HB_⟩ := hG
            refine og_none rfl ?_
            have d17 := dep_of hdep 17 (by kernel_rfl)
            have e49 := (new_slot hf 17 49 d17 (by kernel_rfl)).trans (show V 17 = .bool true from hφ 17 d17)
            exact ob_pure (v := .bool true) (ex_assignV rfl e49) rfl
        · intro V W9 hG hsz9 hφ hψ hne
          have hlt9 : W6.heap.size ≤ W9.heap.size := hsz9
          obtain ⟨Fa_, Fb_, Pa_, Pb_, t5_1_, t5_2_, Xt5__, t7_1_, t7_2_, Xt7__, HB_⟩ := hG
          have Fa := hid Fa_
          have Fb := hid Fb_
          have Pa := hid Pa_
          have Pb := hid Pb_
          have t5_1 := hid t5_1_
          have t5_2 := hid t5_2_
          have Xt5_ := hid Xt5__
          have t7_1 := hid t7_1_
          have t7_2 := hid t7_2_
          have Xt7_ := hid Xt7__
          have HB := hid HB_
          have y0 : V 0 = .agg #[.bool q4061, .slice A4061 n4061 c4061, .bool q4062, .slice A4062 n4062 c4062] := hφ 0 (by decide)
          have y1 : V 1 = .agg #[.bool q6061, .slice A6061 n6061 c6061, .bool q6062, .slice A6062 n6062 c6062] := hφ 1 (by decide)
          have y2 : V 2 = .bool true := hφ 2 (by decide)
          have y3 : V 3 = .bool true := hφ 3 (by decide)
          have y4 : V 4 = .bool true := hφ 4 (by decide)
          have y5 : V 5 = .bool true := hφ 5 (by decide)
          have y6 : V 6 = .bool true := hφ 6 (by decide)
          have y7 : V 7 = .bool true := hφ 7 (by decide)
          have y8 : V 8 = .bool true := hφ 8 (by decide)
          have y9 : V 9 = .agg #[.bool sa, .slice Aa na ca] := hφ 9 (by decide)
          have y11 : V 11 = .agg #[.bool sa, .slice Aa na ca] := hφ 11 (by decide)
          have y13 : V 13 = .bool true := hφ 13 (by decide)
          have y14 : V 14 = .bool true := hφ 14 (by decide)
          have y15 : V 15 = .bool true := hφ 15 (by decide)
          have y16 : V 16 = .bool true := hφ 16 (by decide)
          have y17 : V 17 = .bool true := hφ 17 (by decide)
          have y18 : V 18 = .bool true := hφ 18 (by decide)
          simp only [puts, Act.put, List.setIfInBounds_toArray, List.set_cons_zero, List.set_cons_succ, y0, y1, y2, y3, y4, y5, y6, y7, y8, y9, y11, y13, y14, y15, y16, y17, y18]
          clear hφ hψ hne y0 y1 y2 y3 y4 y5 y6 y7 y8 y9 y11 y13 y14 y15 y16 y17 y18 Fa_ Fb_ Pa_ Pb_ t5_1_ t5_2_ Xt5__ t7_1_ t7_2_ Xt7__ HB_ hsz9
          go_wp2
          go_ret
          exact ⟨rfl, HB.out⟩
theorem rationalNew_walk (w : World) (va : Value) (ha : ArgI w va) (vb : Value) (hb : ArgI w vb) :
    Calls Try.prog 11 #[va, vb] w fun e w' => e = .returned (.bool true) ∧ Below w.heap.size w w' := by
  obtain ⟨sa, Aa, na, ca, rfl, _, _⟩ := id ha
  obtain ⟨sb, Ab, nb, cb, rfl, _, _⟩ := id hb
  rcases ha.short 8 (by decide) with ka | ⟨ka, za, fa⟩
  · exact rationalNew_long0 w sa Aa na ca sb Ab nb cb ka
  rcases hb.short 8 (by decide) with kb | ⟨kb, zb, fb⟩
  · exact rationalNew_long1 w sa Aa na ca sb Ab nb cb ka kb
  exact rationalNew_short w sa Aa na ca sb Ab nb cb ka za fa kb zb fb
end Go.Proofs.Ytijmjkkjopplbaa

