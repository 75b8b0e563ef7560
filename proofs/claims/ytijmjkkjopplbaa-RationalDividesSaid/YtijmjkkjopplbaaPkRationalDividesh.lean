/- A part of the proof of the laws of rationals: WRDivides. -/
import Derived.Test.YtijmjkkjopplbaaPae
import Derived.Test.YtijmjkkjopplbaaPam
import Derived.Test.YtijmjkkjopplbaaPaBc
import Derived.Test.YtijmjkkjopplbaaPaBd
import Derived.Test.YtijmjkkjopplbaaPaBb
import Derived.Test.YtijmjkkjopplbaaPbh
import Derived.Test.YtijmjkkjopplbaaPal
import Derived.Test.YtijmjkkjopplbaaPab
import Derived.Test.YtijmjkkjopplbaaPaf
import Derived.Test.YtijmjkkjopplbaaPad
import Derived.Test.YtijmjkkjopplbaaPbb
import Derived.Test.YtijmjkkjopplbaaPac
import Derived.Test.YtijmjkkjopplbaaPav
import Derived.Test.YtijmjkkjopplbaaPay
import Derived.Test.YtijmjkkjopplbaaPao
import Derived.Test.YtijmjkkjopplbaaPat
import Derived.Test.YtijmjkkjopplbaaPba
import Derived.Test.YtijmjkkjopplbaaPaa
import Derived.Test.YtijmjkkjopplbaaPan
import Derived.Test.YtijmjkkjopplbaaPai
import Derived.Test.YtijmjkkjopplbaaPah
import Derived.Test.YtijmjkkjopplbaaPag
import Derived.Test.YtijmjkkjopplbaaPkRationalDividesa
import Derived.Test.YtijmjkkjopplbaaPkRationalDividesc
import Derived.Test.YtijmjkkjopplbaaPaj
import Derived.Test.YtijmjkkjopplbaaPax
import Derived.Test.YtijmjkkjopplbaaPap
import Derived.Test.YtijmjkkjopplbaaPas
import Derived.Test.YtijmjkkjopplbaaPbf
import Derived.Test.YtijmjkkjopplbaaPbe
import Derived.Test.YtijmjkkjopplbaaPbg
import Derived.Test.YtijmjkkjopplbaaPbd
import Derived.Test.YtijmjkkjopplbaaPbj
import Derived.Test.YtijmjkkjopplbaaPau
import Derived.Test.YtijmjkkjopplbaaPbi
import Derived.Test.YtijmjkkjopplbaaPar
import Derived.Test.YtijmjkkjopplbaaPkRationalDividese
import Derived.Test.YtijmjkkjopplbaaPaw
import Derived.Test.YtijmjkkjopplbaaPbk
import Derived.Test.YtijmjkkjopplbaaPkRationalDividesd
import Derived.Test.YtijmjkkjopplbaaPbc
import Derived.Test.YtijmjkkjopplbaaPaBa
import Derived.Test.YtijmjkkjopplbaaPaq
import Derived.Test.YtijmjkkjopplbaaPkRationalDividesb
import Derived.Test.YtijmjkkjopplbaaPbl
import Derived.Test.YtijmjkkjopplbaaPkRationalDividesf
import Derived.Test.YtijmjkkjopplbaaPak
import Derived.Test.YtijmjkkjopplbaaPaz
namespace Go.Proofs.Ytijmjkkjopplbaa
open Go.RowKit
set_option linter.unusedVariables false
set_option maxRecDepth 100000

set_option maxHeartbeats 4000000 in
theorem rationalDivides_long (w : World) (sa1 : Bool) (Aa1 : Option Addr) (na1 ca1 : Nat) (sa2 : Bool) (Aa2 : Option Addr) (na2 ca2 : Nat) (sb1 : Bool) (Ab1 : Option Addr) (nb1 cb1 : Nat) (sb2 : Bool) (Ab2 : Option Addr) (nb2 cb2 : Nat) (hl : 8 < na1 ∨ 8 < na2 ∨ 8 < nb1 ∨ 8 < nb2) :
    Calls Try.prog 13 #[.agg #[.bool sa1, .slice Aa1 na1 ca1, .bool sa2, .slice Aa2 na2 ca2], .agg #[.bool sb1, .slice Ab1 nb1 cb1, .bool sb2, .slice Ab2 nb2 cb2]] w fun e w' => e = .returned (.bool true) ∧ Below w.heap.size w w' := by
  have HL := hid hl
  clear hl
  have HB := hid (Below.refl w.heap.size w)
  obtain ⟨W, hW⟩ : ∃ W, W = ((w.alloc (.cells #[.bool sa1, .slice Aa1 na1 ca1, .bool sa2, .slice Aa2 na2 ca2] 26)).alloc (.cells #[.bool sb1, .slice Ab1 nb1 cb1, .bool sb2, .slice Ab2 nb2 cb2] 26)) := ⟨_, rfl⟩
  have hbb : Below w.heap.size w W := by rw [hW]; exact (bw_alloc (bw_alloc (Below.refl _ _) _) _)
  have HB := hid (bw_step HB.out hbb)
  have Pa : Hid (Blk W (w.heap.size) 26 #[.bool sa1, .slice Aa1 na1 ca1, .bool sa2, .slice Aa2 na2 ca2]) := by
    rw [hW]
    have := (Blk.new w 26 #[.bool sa1, .slice Aa1 na1 ca1, .bool sa2, .slice Aa2 na2 ca2]).below (bw_alloc (Below.refl _ _) (.cells #[.bool sb1, .slice Ab1 nb1 cb1, .bool sb2, .slice Ab2 nb2 cb2] 26))
    exact hid (by simpa only [World.size_alloc] using this)
  have Pb : Hid (Blk W (w.heap.size + 1) 26 #[.bool sb1, .slice Ab1 nb1 cb1, .bool sb2, .slice Ab2 nb2 cb2]) := by
    rw [hW]
    have := Blk.new (w.alloc (.cells #[.bool sa1, .slice Aa1 na1 ca1, .bool sa2, .slice Aa2 na2 ca2] 26)) 26 #[.bool sb1, .slice Ab1 nb1 cb1, .bool sb2, .slice Ab2 nb2 cb2]
    exact hid (by simpa only [World.size_alloc] using this)
  clear hbb
  have HWs := hid (show W.heap.size = w.heap.size + 1 + 1 by rw [hW]; simp)
  have ua0 := Pa.out.cell 0
  have ua1 := Pa.out.cell 1
  have ua2 := Pa.out.cell 2
  have ua3 := Pa.out.cell 3
  have ub0 := Pb.out.cell 0
  have ub1 := Pb.out.cell 1
  have ub2 := Pb.out.cell 2
  have ub3 := Pb.out.cell 3
  go_enter Try.func13, Try.ntmps13
  go_wp2_with fail
  rw [← hW]
  clear hW
  have hbb := bw_alloc (Below.refl _ W) (.cells #[.bool sa1, .slice Aa1 na1 ca1, .bool sa2, .slice Aa2 na2 ca2, .bool sb1, .slice Ab1 nb1 cb1, .bool sb2, .slice Ab2 nb2 cb2] 26)
  have XL := Blk.new W 26 #[.bool sa1, .slice Aa1 na1 ca1, .bool sa2, .slice Aa2 na2 ca2, .bool sb1, .slice Ab1 nb1 cb1, .bool sb2, .slice Ab2 nb2 cb2]
  rw [HWs.out] at XL
  have HB := hid (bw_step HB.out hbb)
  have Pa := hid (Pa.out.below hbb)
  have Pb := hid (Pb.out.below hbb)
  clear hbb
  refine (long2 _ _ sa1 Aa1 na1 ca1 sa2 Aa2 na2 ca2 sb1 Ab1 nb1 cb1 sb2 Ab2 nb2 cb2 XL true ⟨fun _ => HL.out, fun _ => rfl⟩).mono ?_
  rintro e W1 ⟨rfl, hb1⟩
  clear XL
  have HB := hid (bw_step HB.out hb1)
  have Pa := hid (Pa.out.below hb1)
  have Pb := hid (Pb.out.below hb1)
  clear hb1
  clear ua0 ua1 ua2 ua3 ub0 ub1 ub2 ub3
  go_wp2_with fail
  refine (awakeR_any _).mono ?_
  rintro e W2 ⟨rfl, hb2⟩
  have HB := hid (bw_step HB.out hb2)
  have Pa := hid (Pa.out.below hb2)
  have Pb := hid (Pb.out.below hb2)
  clear hb2
  go_wp2
  go_ret
  exact ⟨rfl, HB.out⟩
set_option maxHeartbeats 8000000 in
theorem rationalDivides_short (w : World) (sa1 : Bool) (Aa1 : Option Addr) (na1 ca1 : Nat) (sa2 : Bool) (Aa2 : Option Addr) (na2 ca2 : Nat) (sb1 : Bool) (Ab1 : Option Addr) (nb1 cb1 : Nat) (sb2 : Bool) (Ab2 : Option Addr) (nb2 cb2 : Nat) (laa : na1 ≤ 8 ∧ na2 ≤ 8) (pa qa : Int) (fa1 : IntA w (.agg #[.bool sa1, .slice Aa1 na1 ca1]) pa 8) (fa2 : IntA w (.agg #[.bool sa2, .slice Aa2 na2 ca2]) qa 8) (lab : nb1 ≤ 8 ∧ nb2 ≤ 8) (pb qb : Int) (fb1 : IntA w (.agg #[.bool sb1, .slice Ab1 nb1 cb1]) pb 8) (fb2 : IntA w (.agg #[.bool sb2, .slice Ab2 nb2 cb2]) qb 8) :
    Calls Try.prog 13 #[.agg #[.bool sa1, .slice Aa1 na1 ca1, .bool sa2, .slice Aa2 na2 ca2], .agg #[.bool sb1, .slice Ab1 nb1 cb1, .bool sb2, .slice Ab2 nb2 cb2]] w fun e w' => e = .returned (.bool true) ∧ Below w.heap.size w w' := by
  have LAb := hid lab
  clear lab
  have LAa := hid laa
  clear laa
  have Fa1 := hid fa1
  have Sa1 := hid fa1.sm
  have Fa2 := hid fa2
  have Sa2 := hid fa2.sm
  clear fa1 fa2
  have Fb1 := hid fb1
  have Sb1 := hid fb1.sm
  have Fb2 := hid fb2
  have Sb2 := hid fb2.sm
  clear fb1 fb2
  have HB := hid (Below.refl w.heap.size w)
  obtain ⟨W, hW⟩ : ∃ W, W = ((w.alloc (.cells #[.bool sa1, .slice Aa1 na1 ca1, .bool sa2, .slice Aa2 na2 ca2] 26)).alloc (.cells #[.bool sb1, .slice Ab1 nb1 cb1, .bool sb2, .slice Ab2 nb2 cb2] 26)) := ⟨_, rfl⟩
  have hbb : Below w.heap.size w W := by rw [hW]; exact (bw_alloc (bw_alloc (Below.refl _ _) _) _)
  have HB := hid (bw_step HB.out hbb)
  have Fa1 := hid (Fa1.out.below hbb)
  have Fa2 := hid (Fa2.out.below hbb)
  have Fb1 := hid (Fb1.out.below hbb)
  have Fb2 := hid (Fb2.out.below hbb)
  have Pa : Hid (Blk W (w.heap.size) 26 #[.bool sa1, .slice Aa1 na1 ca1, .bool sa2, .slice Aa2 na2 ca2]) := by
    rw [hW]
    have := (Blk.new w 26 #[.bool sa1, .slice Aa1 na1 ca1, .bool sa2, .slice Aa2 na2 ca2]).below (bw_alloc (Below.refl _ _) (.cells #[.bool sb1, .slice Ab1 nb1 cb1, .bool sb2, .slice Ab2 nb2 cb2] 26))
    exact hid (by simpa only [World.size_alloc] using this)
  have Pb : Hid (Blk W (w.heap.size + 1) 26 #[.bool sb1, .slice Ab1 nb1 cb1, .bool sb2, .slice Ab2 nb2 cb2]) := by
    rw [hW]
    have := Blk.new (w.alloc (.cells #[.bool sa1, .slice Aa1 na1 ca1, .bool sa2, .slice Aa2 na2 ca2] 26)) 26 #[.bool sb1, .slice Ab1 nb1 cb1, .bool sb2, .slice Ab2 nb2 cb2]
    exact hid (by simpa only [World.size_alloc] using this)
  clear hbb
  have HWs := hid (show W.heap.size = w.heap.size + 1 + 1 by rw [hW]; simp)
  have ua0 := Pa.out.cell 0
  have ua1 := Pa.out.cell 1
  have ua2 := Pa.out.cell 2
  have ua3 := Pa.out.cell 3
  have ub0 := Pb.out.cell 0
  have ub1 := Pb.out.cell 1
  have ub2 := Pb.out.cell 2
  have ub3 := Pb.out.cell 3
  go_enter Try.func13, Try.ntmps13
  go_wp2_with fail
  rw [← hW]
  clear hW
  have hbb := bw_alloc (Below.refl _ W) (.cells #[.bool sa1, .slice Aa1 na1 ca1, .bool sa2, .slice Aa2 na2 ca2, .bool sb1, .slice Ab1 nb1 cb1, .bool sb2, .slice Ab2 nb2 cb2] 26)
  have XL := Blk.new W 26 #[.bool sa1, .slice Aa1 na1 ca1, .bool sa2, .slice Aa2 na2 ca2, .bool sb1, .slice Ab1 nb1 cb1, .bool sb2, .slice Ab2 nb2 cb2]
  rw [HWs.out] at XL
  have HB := hid (bw_step HB.out hbb)
  have Fa1 := hid (Fa1.out.below hbb)
  have Fa2 := hid (Fa2.out.below hbb)
  have Fb1 := hid (Fb1.out.below hbb)
  have Fb2 := hid (Fb2.out.below hbb)
  have Pa := hid (Pa.out.below hbb)
  have Pb := hid (Pb.out.below hbb)
  clear hbb
  refine (long2 _ _ sa1 Aa1 na1 ca1 sa2 Aa2 na2 ca2 sb1 Ab1 nb1 cb1 sb2 Ab2 nb2 cb2 XL false ⟨fun h => absurd h (by decide), fun h => by have := LAa.out; have := LAb.out; omega⟩).mono ?_
  rintro e W1 ⟨rfl, hb1⟩
  clear XL
  have HB := hid (bw_step HB.out hb1)
  have Fa1 := hid (Fa1.out.below hb1)
  have Fa2 := hid (Fa2.out.below hb1)
  have Fb1 := hid (Fb1.out.below hb1)
  have Fb2 := hid (Fb2.out.below hb1)
  have Pa := hid (Pa.out.below hb1)
  have Pb := hid (Pb.out.below hb1)
  clear hb1
  clear ua0 ua1 ua2 ua3 ub0 ub1 ub2 ub3
  by_cases hz : Rat.divInt pb qb = 0
  · have HZ := hid hz
    clear hz
    go_wp2_with (with_reducible refine halt_at 15 rfl ?_)
    have lt2_Pa := Pa.out.lt
    have lt2_Pb := Pb.out.lt
    unfold Halted
    refine wp_list_each (by kernel_rfl) 9 37 rfl rfl (by kernel_rfl)
      [Fact.eq (.agg #[.bool sa1, .slice Aa1 na1 ca1, .bool sa2, .slice Aa2 na2 ca2]), Fact.eq (.agg #[.bool sb1, .slice Ab1 nb1 cb1, .bool sb2, .slice Ab2 nb2 cb2]), Fact.pairB (.V 0) (.V 0) false, Fact.pairB (.V 0) (.V 0) false, Fact.pair (.V 0) (.V 0), Fact.eq (.bool false), Fact.boxR 26 Rne (.V 0) (.V 0), Fact.top _, Fact.eq (.bool false)]
      [.val, .val, .val, .val, .val, .val, .alloc 7, .fill 6, .val]
      (fun w' => IntA w' (.agg #[.bool sa1, .slice Aa1 na1 ca1]) (pa) 8 ∧ IntA w' (.agg #[.bool sa2, .slice Aa2 na2 ca2]) (qa) 8 ∧ IntA w' (.agg #[.bool sb1, .slice Ab1 nb1 cb1]) (pb) 8 ∧ IntA w' (.agg #[.bool sb2, .slice Ab2 nb2 cb2]) (qb) 8 ∧ Blk w' (w.heap.size) 26 #[.bool sa1, .slice Aa1 na1 ca1, .bool sa2, .slice Aa2 na2 ca2] ∧ Blk w' (w.heap.size + 1) 26 #[.bool sb1, .slice Ab1 nb1 cb1, .bool sb2, .slice Ab2 nb2 cb2] ∧ Below w.heap.size w w')
      (fun _ _ _ => True) [] (fun _ => 0) (by kernel_rfl)
      ⟨Fa1.out, Fa2.out, Fb1.out, Fb2.out, Pa.out, Pb.out, HB.out⟩
      (fun w1 w2 ⟨h0, h1, h2, h3, h4, h5, h6⟩ hb => ⟨h0.below hb, h1.below hb, h2.below hb, h3.below hb, h4.below hb, h5.below hb, bw_step h6 hb⟩)
      (fun w1 w2 g ⟨h0, h1, h2, h3, h4, h5, h6⟩ hg hn ho => by
        have hg' : W1.heap.size ≤ g := hg.elim id (fun ⟨_, h, _⟩ => absurd h (Nat.not_lt_zero _))
        exact ⟨h0.only hn ho, h1.only hn ho, h2.only hn ho, h3.only hn ho, h4.only ho (by have := Pa.out.lt; have := Pb.out.lt; omega), h5.only ho (by have := Pa.out.lt; have := Pb.out.lt; omega), below_only h6 ho (by have := Pa.out.lt; have := Pb.out.lt; have := HB.out.size; omega)⟩)
      (fun l h => trivial) (fun l b w1 w2 h _ _ => trivial) (fun l b w1 w2 g h _ _ _ _ => trivial) (fun l h => by cases h) (fun l k h => by cases h) ?_ ?_
    · refine ⟨?_, ?_, ?_, ?_, ?_, ?_, ?_, ?_, ?_, trivial⟩ <;> intro L V a1 w1 hf hG hsz hφ hψ hL hdep hcl
      · obtain ⟨Fa1_, Fa2_, Fb1_, Fb2_, Pa_, Pb_, HB_⟩ := hG
        have e2 := old_slot hf 2 (by kernel_rfl)
        exact ob_pure (ex_loadR rfl e2 Pa_) rfl
      · obtain ⟨Fa1_, Fa2_, Fb1_, Fb2_, Pa_, Pb_, HB_⟩ := hG
        have e3 := old_slot hf 3 (by kernel_rfl)
        exact ob_pure (ex_loadR rfl e3 Pb_) rfl
      · obtain ⟨Fa1_, Fa2_, Fb1_, Fb2_, Pa_, Pb_, HB_⟩ := hG
        have d0 := dep_of hdep 0 (by kernel_rfl)
        have e15 := (new_slot hf 0 15 d0 (by kernel_rfl)).trans (show V 0 = .agg #[.bool sa1, .slice Aa1 na1 ca1, .bool sa2, .slice Aa2 na2 ca2] from hφ 0 d0)
        have d1 := dep_of hdep 1 (by kernel_rfl)
        have e16 := (new_slot hf 1 16 d1 (by kernel_rfl)).trans (show V 1 = .agg #[.bool sb1, .slice Ab1 nb1 cb1, .bool sb2, .slice Ab2 nb2 cb2] from hφ 1 d1)
        refine ob_go rfl (vs := #[.agg #[.bool sa1, .slice Aa1 na1 ca1, .bool sa2, .slice Aa2 na2 ca2], .agg #[.bool sb1, .slice Ab1 nb1 cb1, .bool sb2, .slice Ab2 nb2 cb2]]) (by simp only [List.map_toArray, List.map_cons, List.map_nil, e15, e16]) (by kernel_rfl) (quoR_zero _ _ _ (Rat.divInt pa qa) (Rat.divInt pb qb) 8 (RatA.of (Pair.mk (a := .A pa 8) (b := .A qa 8) Fa1_ Fa2_)) (RatA.of (Pair.mk (a := .A pb 8) (b := .A qb 8) Fb1_ Fb2_)) (by omega) (by omega) (HZ.out)) ?_
        rintro e w2 ⟨⟨v, rfl, hv⟩, hb⟩
        exact ⟨v, rfl, hb, hv⟩
      · obtain ⟨Fa1_, Fa2_, Fb1_, Fb2_, Pa_, Pb_, HB_⟩ := hG
        have d2 := dep_of hdep 2 (by kernel_rfl)
        have e17 := new_slot hf 2 17 d2 (by kernel_rfl)
        have p17 : PairB w1 (V 2) (.V 0) (.V 0) false := hφ 2 d2
        exact ob_pure (ex_moveV rfl e17) (by exact p17)
      · obtain ⟨Fa1_, Fa2_, Fb1_, Fb2_, Pa_, Pb_, HB_⟩ := hG
        have d3 := dep_of hdep 3 (by kernel_rfl)
        have e14 := new_slot hf 3 14 d3 (by kernel_rfl)
        have p14 : PairB w1 (V 3) (.V 0) (.V 0) false := hφ 3 d3
        exact ob_pairB0 rfl e14 p14 rfl
      · obtain ⟨Fa1_, Fa2_, Fb1_, Fb2_, Pa_, Pb_, HB_⟩ := hG
        have d3 := dep_of hdep 3 (by kernel_rfl)
        have e14 := new_slot hf 3 14 d3 (by kernel_rfl)
        have p14 : PairB w1 (V 3) (.V 0) (.V 0) false := hφ 3 d3
        exact ob_pairB1 rfl e14 p14 rfl
      · obtain ⟨Fa1_, Fa2_, Fb1_, Fb2_, Pa_, Pb_, HB_⟩ := hG
        exact ob_allocR rfl hsz rfl
      · obtain ⟨Fa1_, Fa2_, Fb1_, Fb2_, Pa_, Pb_, HB_⟩ := hG
        have d4 := dep_of hdep 4 (by kernel_rfl)
        have e18 := new_slot hf 4 18 d4 (by kernel_rfl)
        have p18 : Pair w1 (V 4) (.V 0) (.V 0) := hφ 4 d4
        have d6 := dep_of hdep 6 (by kernel_rfl)
        obtain ⟨g, h1, h2, h3, _⟩ := hφ 6 d6
        have hz := h3 (show (true && L 7) = false from by have h : L 7 = false := hL; rw [h]; rfl)
        exact ob_fillR rfl ((new_slot hf 6 5 d6 (by kernel_rfl)).trans h1) e18 h1 h2 hz p18 rfl rfl
      · obtain ⟨Fa1_, Fa2_, Fb1_, Fb2_, Pa_, Pb_, HB_⟩ := hG
        have d5 := dep_of hdep 5 (by kernel_rfl)
        have e19 := (new_slot hf 5 19 d5 (by kernel_rfl)).trans (show V 5 = .bool false from hφ 5 d5)
        exact ob_pure (v := .bool false) (ex_assignV rfl e19) rfl
    · intro V W3 hG hsz3 hφ hψ hne
      have hlt3 : W1.heap.size ≤ W3.heap.size := hsz3
      obtain ⟨Fa1_, Fa2_, Fb1_, Fb2_, Pa_, Pb_, HB_⟩ := hG
      have Fa1 := hid Fa1_
      have Fa2 := hid Fa2_
      have Fb1 := hid Fb1_
      have Fb2 := hid Fb2_
      have Pa := hid Pa_
      have Pb := hid Pb_
      have HB := hid HB_
      have y0 : V 0 = .agg #[.bool sa1, .slice Aa1 na1 ca1, .bool sa2, .slice Aa2 na2 ca2] := hφ 0 (by decide)
      have y1 : V 1 = .agg #[.bool sb1, .slice Ab1 nb1 cb1, .bool sb2, .slice Ab2 nb2 cb2] := hφ 1 (by decide)
      have y5 : V 5 = .bool false := hφ 5 (by decide)
      obtain ⟨G3_6, y6, gb306, _, hb306⟩ := hφ 6 (by decide)
      obtain ⟨q3061, A3061, n3061, c3061, q3062, A3062, n3062, c3062, kb306, va306, vb306⟩ := hb306 rfl
      have Xt5_ := hid kb306
      have t5_1 : Hid (IntV W3 (.agg #[.bool q3061, .slice A3061 n3061 c3061]) 0) := hid va306
      have t5_2 : Hid (IntV W3 (.agg #[.bool q3062, .slice A3062 n3062 c3062]) 0) := hid vb306
      clear kb306 va306 vb306
      clear hb306
      have y8 : V 8 = .bool false := hφ 8 (by decide)
      simp only [puts, Act.put, List.setIfInBounds_toArray, List.set_cons_zero, List.set_cons_succ, y0, y1, y5, y6, y8, ptr]
      clear hφ hψ hne y0 y1 y5 y6 y8 Fa1_ Fa2_ Fb1_ Fb2_ Pa_ Pb_ HB_ hsz3
      go_wp2_with (with_reducible refine halt_at 21 rfl ?_)
      have lt4_Pa := Pa.out.lt
      have lt4_Pb := Pb.out.lt
      have lt4_Xt5_ := Xt5_.out.lt
      unfold Halted
      refine wp_list_each (by kernel_rfl) 9 37 rfl rfl (by kernel_rfl)
        [Fact.eq (.agg #[.bool sa1, .slice Aa1 na1 ca1, .bool sa2, .slice Aa2 na2 ca2]), Fact.eq (.agg #[.bool sb1, .slice Ab1 nb1 cb1, .bool sb2, .slice Ab2 nb2 cb2]), Fact.pairB (.V 0) (.V 0) false, Fact.pairB (.V 0) (.V 0) false, Fact.pair (.V 0) (.V 0), Fact.eq (.bool false), Fact.boxR 26 Rne (.V 0) (.V 0), Fact.top _, Fact.eq (.bool false)]
        [.val, .val, .val, .val, .val, .val, .alloc 7, .fill 6, .val]
        (fun w' => IntA w' (.agg #[.bool sa1, .slice Aa1 na1 ca1]) (pa) 8 ∧ IntA w' (.agg #[.bool sa2, .slice Aa2 na2 ca2]) (qa) 8 ∧ IntA w' (.agg #[.bool sb1, .slice Ab1 nb1 cb1]) (pb) 8 ∧ IntA w' (.agg #[.bool sb2, .slice Ab2 nb2 cb2]) (qb) 8 ∧ Blk w' (w.heap.size) 26 #[.bool sa1, .slice Aa1 na1 ca1, .bool sa2, .slice Aa2 na2 ca2] ∧ Blk w' (w.heap.size + 1) 26 #[.bool sb1, .slice Ab1 nb1 cb1, .bool sb2, .slice Ab2 nb2 cb2] ∧ IntV w' (.agg #[.bool q3061, .slice A3061 n3061 c3061]) (0) ∧ IntV w' (.agg #[.bool q3062, .slice A3062 n3062 c3062]) (0) ∧ Blk w' (G3_6) 26 #[.bool q3061, .slice A3061 n3061 c3061, .bool q3062, .slice A3062 n3062 c3062] ∧ Below w.heap.size w w')
        (fun _ _ _ => True) [] (fun _ => 0) (by kernel_rfl)
        ⟨Fa1.out, Fa2.out, Fb1.out, Fb2.out, Pa.out, Pb.out, t5_1.out, t5_2.out, Xt5_.out, HB.out⟩
        (fun w1 w2 ⟨h0, h1, h2, h3, h4, h5, h6, h7, h8, h9⟩ hb => ⟨h0.below hb, h1.below hb, h2.below hb, h3.below hb, h4.below hb, h5.below hb, h6.below hb, h7.below hb, h8.below hb, bw_step h9 hb⟩)
        (fun w1 w2 g ⟨h0, h1, h2, h3, h4, h5, h6, h7, h8, h9⟩ hg hn ho => by
          have hg' : W3.heap.size ≤ g := hg.elim id (fun ⟨_, h, _⟩ => absurd h (Nat.not_lt_zero _))
          exact ⟨h0.only hn ho, h1.only hn ho, h2.only hn ho, h3.only hn ho, h4.only ho (by have := Pa.out.lt; have := Pb.out.lt; have := Xt5_.out.lt; omega), h5.only ho (by have := Pa.out.lt; have := Pb.out.lt; have := Xt5_.out.lt; omega), h6.only hn ho, h7.only hn ho, h8.only ho (by have := Pa.out.lt; have := Pb.out.lt; have := Xt5_.out.lt; omega), below_only h9 ho (by have := Pa.out.lt; have := Pb.out.lt; have := Xt5_.out.lt; have := HB.out.size; omega)⟩)
        (fun l h => trivial) (fun l b w1 w2 h _ _ => trivial) (fun l b w1 w2 g h _ _ _ _ => trivial) (fun l h => by cases h) (fun l k h => by cases h) ?_ ?_
      · refine ⟨?_, ?_, ?_, ?_, ?_, ?_, ?_, ?_, ?_, trivial⟩ <;> intro L V a1 w1 hf hG hsz hφ hψ hL hdep hcl
        · obtain ⟨Fa1_, Fa2_, Fb1_, Fb2_, Pa_, Pb_, t5_1_, t5_2_, Xt5__, HB_⟩ := hG
          have e2 := old_slot hf 2 (by kernel_rfl)
          exact ob_pure (ex_loadR rfl e2 Pa_) rfl
        · obtain ⟨Fa1_, Fa2_, Fb1_, Fb2_, Pa_, Pb_, t5_1_, t5_2_, Xt5__, HB_⟩ := hG
          have e3 := old_slot hf 3 (by kernel_rfl)
          exact ob_pure (ex_loadR rfl e3 Pb_) rfl
        · obtain ⟨Fa1_, Fa2_, Fb1_, Fb2_, Pa_, Pb_, t5_1_, t5_2_, Xt5__, HB_⟩ := hG
          have d0 := dep_of hdep 0 (by kernel_rfl)
          have e21 := (new_slot hf 0 21 d0 (by kernel_rfl)).trans (show V 0 = .agg #[.bool sa1, .slice Aa1 na1 ca1, .bool sa2, .slice Aa2 na2 ca2] from hφ 0 d0)
          have d1 := dep_of hdep 1 (by kernel_rfl)
          have e22 := (new_slot hf 1 22 d1 (by kernel_rfl)).trans (show V 1 = .agg #[.bool sb1, .slice Ab1 nb1 cb1, .bool sb2, .slice Ab2 nb2 cb2] from hφ 1 d1)
          refine ob_go rfl (vs := #[.agg #[.bool sa1, .slice Aa1 na1 ca1, .bool sa2, .slice Aa2 na2 ca2], .agg #[.bool sb1, .slice Ab1 nb1 cb1, .bool sb2, .slice Ab2 nb2 cb2]]) (by simp only [List.map_toArray, List.map_cons, List.map_nil, e21, e22]) (by kernel_rfl) (rquoR_zero _ _ _ (Rat.divInt pa qa) (Rat.divInt pb qb) 8 (RatA.of (Pair.mk (a := .A pa 8) (b := .A qa 8) Fa1_ Fa2_)) (RatA.of (Pair.mk (a := .A pb 8) (b := .A qb 8) Fb1_ Fb2_)) (by omega) (by omega) (HZ.out)) ?_
          rintro e w2 ⟨⟨v, rfl, hv⟩, hb⟩
          exact ⟨v, rfl, hb, hv⟩
        · obtain ⟨Fa1_, Fa2_, Fb1_, Fb2_, Pa_, Pb_, t5_1_, t5_2_, Xt5__, HB_⟩ := hG
          have d2 := dep_of hdep 2 (by kernel_rfl)
          have e23 := new_slot hf 2 23 d2 (by kernel_rfl)
          have p23 : PairB w1 (V 2) (.V 0) (.V 0) false := hφ 2 d2
          exact ob_pure (ex_moveV rfl e23) (by exact p23)
        · obtain ⟨Fa1_, Fa2_, Fb1_, Fb2_, Pa_, Pb_, t5_1_, t5_2_, Xt5__, HB_⟩ := hG
          have d3 := dep_of hdep 3 (by kernel_rfl)
          have e20 := new_slot hf 3 20 d3 (by kernel_rfl)
          have p20 : PairB w1 (V 3) (.V 0) (.V 0) false := hφ 3 d3
          exact ob_pairB0 rfl e20 p20 rfl
        · obtain ⟨Fa1_, Fa2_, Fb1_, Fb2_, Pa_, Pb_, t5_1_, t5_2_, Xt5__, HB_⟩ := hG
          have d3 := dep_of hdep 3 (by kernel_rfl)
          have e20 := new_slot hf 3 20 d3 (by kernel_rfl)
          have p20 : PairB w1 (V 3) (.V 0) (.V 0) false := hφ 3 d3
          exact ob_pairB1 rfl e20 p20 rfl
        · obtain ⟨Fa1_, Fa2_, Fb1_, Fb2_, Pa_, Pb_, t5_1_, t5_2_, Xt5__, HB_⟩ := hG
          exact ob_allocR rfl hsz rfl
        · obtain ⟨Fa1_, Fa2_, Fb1_, Fb2_, Pa_, Pb_, t5_1_, t5_2_, Xt5__, HB_⟩ := hG
          have d4 := dep_of hdep 4 (by kernel_rfl)
          have e24 := new_slot hf 4 24 d4 (by kernel_rfl)
          have p24 : Pair w1 (V 4) (.V 0) (.V 0) := hφ 4 d4
          have d6 := dep_of hdep 6 (by kernel_rfl)
          obtain ⟨g, h1, h2, h3, _⟩ := hφ 6 d6
          have hz := h3 (show (true && L 7) = false from by have h : L 7 = false := hL; rw [h]; rfl)
          exact ob_fillR rfl ((new_slot hf 6 7 d6 (by kernel_rfl)).trans h1) e24 h1 h2 hz p24 rfl rfl
        · obtain ⟨Fa1_, Fa2_, Fb1_, Fb2_, Pa_, Pb_, t5_1_, t5_2_, Xt5__, HB_⟩ := hG
          have d5 := dep_of hdep 5 (by kernel_rfl)
          have e25 := (new_slot hf 5 25 d5 (by kernel_rfl)).trans (show V 5 = .bool false from hφ 5 d5)
          exact ob_pure (v := .bool false) (ex_assignV rfl e25) rfl
      · intro V W5 hG hsz5 hφ hψ hne
        have hlt5 : W3.heap.size ≤ W5.heap.size := hsz5
        obtain ⟨Fa1_, Fa2_, Fb1_, Fb2_, Pa_, Pb_, t5_1_, t5_2_, Xt5__, HB_⟩ := hG
        have Fa1 := hid Fa1_
        have Fa2 := hid Fa2_
        have Fb1 := hid Fb1_
        have Fb2 := hid Fb2_
        have Pa := hid Pa_
        have Pb := hid Pb_
        have t5_1 := hid t5_1_
        have t5_2 := hid t5_2_
        have Xt5_ := hid Xt5__
        have HB := hid HB_
        have y0 : V 0 = .agg #[.bool sa1, .slice Aa1 na1 ca1, .bool sa2, .slice Aa2 na2 ca2] := hφ 0 (by decide)
        have y1 : V 1 = .agg #[.bool sb1, .slice Ab1 nb1 cb1, .bool sb2, .slice Ab2 nb2 cb2] := hφ 1 (by decide)
        have y5 : V 5 = .bool false := hφ 5 (by decide)
        obtain ⟨G5_6, y6, gb506, _, hb506⟩ := hφ 6 (by decide)
        obtain ⟨q5061, A5061, n5061, c5061, q5062, A5062, n5062, c5062, kb506, va506, vb506⟩ := hb506 rfl
        have Xt7_ := hid kb506
        have t7_1 : Hid (IntV W5 (.agg #[.bool q5061, .slice A5061 n5061 c5061]) 0) := hid va506
        have t7_2 : Hid (IntV W5 (.agg #[.bool q5062, .slice A5062 n5062 c5062]) 0) := hid vb506
        clear kb506 va506 vb506
        clear hb506
        have y8 : V 8 = .bool false := hφ 8 (by decide)
        simp only [puts, Act.put, List.setIfInBounds_toArray, List.set_cons_zero, List.set_cons_succ, y0, y1, y5, y6, y8, ptr]
        clear hφ hψ hne y0 y1 y5 y6 y8 Fa1_ Fa2_ Fb1_ Fb2_ Pa_ Pb_ t5_1_ t5_2_ Xt5__ HB_ hsz5
        go_wp2_with (with_reducible refine halt_at 26 rfl ?_)
        unfold Halted
        refine wp_list_eachG (by kernel_rfl) 12 37 rfl rfl (by kernel_rfl)
          [Fact.eq (.agg #[.bool q3061, .slice A3061 n3061 c3061, .bool q3062, .slice A3062 n3062 c3062]), Fact.eq (.agg #[.bool q5061, .slice A5061 n5061 c5061, .bool q5062, .slice A5062 n5062 c5062]), Fact.eq (.bool true), Fact.eq (.bool true), Fact.eq (.bool false), Fact.eq (.bool false), Fact.eq (.bool true), Fact.eq (.bool true), Fact.eq (.bool true), Fact.eq (.bool true), Fact.eq (.bool true), Fact.eq (.bool true)]
          [.val, .val, .val, .val, .val, .val, .val, .val, .val, .val, .val, .val]
          (fun w' => IntA w' (.agg #[.bool sa1, .slice Aa1 na1 ca1]) (pa) 8 ∧ IntA w' (.agg #[.bool sa2, .slice Aa2 na2 ca2]) (qa) 8 ∧ IntA w' (.agg #[.bool sb1, .slice Ab1 nb1 cb1]) (pb) 8 ∧ IntA w' (.agg #[.bool sb2, .slice Ab2 nb2 cb2]) (qb) 8 ∧ Blk w' (w.heap.size) 26 #[.bool sa1, .slice Aa1 na1 ca1, .bool sa2, .slice Aa2 na2 ca2] ∧ Blk w' (w.heap.size + 1) 26 #[.bool sb1, .slice Ab1 nb1 cb1, .bool sb2, .slice Ab2 nb2 cb2] ∧ IntV w' (.agg #[.bool q3061, .slice A3061 n3061 c3061]) (0) ∧ IntV w' (.agg #[.bool q3062, .slice A3062 n3062 c3062]) (0) ∧ Blk w' (G3_6) 26 #[.bool q3061, .slice A3061 n3061 c3061, .bool q3062, .slice A3062 n3062 c3062] ∧ IntV w' (.agg #[.bool q5061, .slice A5061 n5061 c5061]) (0) ∧ IntV w' (.agg #[.bool q5062, .slice A5062 n5062 c5062]) (0) ∧ Blk w' (G5_6) 26 #[.bool q5061, .slice A5061 n5061 c5061, .bool q5062, .slice A5062 n5062 c5062] ∧ Below w.heap.size w w')
          (fun _ _ _ => True) [] (fun _ => 0) (by kernel_rfl)
          ⟨Fa1.out, Fa2.out, Fb1.out, Fb2.out, Pa.out, Pb.out, t5_1.out, t5_2.out, Xt5_.out, t7_1.out, t7_2.out, Xt7_.out, HB.out⟩
          (fun w1 w2 ⟨h0, h1, h2, h3, h4, h5, h6, h7, h8, h9, h10, h11, h12⟩ hb => ⟨h0.below hb, h1.below hb, h2.below hb, h3.below hb, h4.below hb, h5.below hb, h6.below hb, h7.below hb, h8.below hb, h9.below hb, h10.below hb, h11.below hb, bw_step h12 hb⟩)
          (fun w1 w2 g ⟨h0, h1, h2, h3, h4, h5, h6, h7, h8, h9, h10, h11, h12⟩ hg hn ho => by
            have hg' : W5.heap.size ≤ g := hg.elim id (fun ⟨_, h, _⟩ => absurd h (Nat.not_lt_zero _))
            exact ⟨h0.only hn ho, h1.only hn ho, h2.only hn ho, h3.only hn ho, h4.only ho (by have := Pa.out.lt; have := Pb.out.lt; have := Xt5_.out.lt; have := Xt7_.out.lt; omega), h5.only ho (by have := Pa.out.lt; have := Pb.out.lt; have := Xt5_.out.lt; have := Xt7_.out.lt; omega), h6.only hn ho, h7.only hn ho, h8.only ho (by have := Pa.out.lt; have := Pb.out.lt; have := Xt5_.out.lt; have := Xt7_.out.lt; omega), h9.only hn ho, h10.only hn ho, h11.only ho (by have := Pa.out.lt; have := Pb.out.lt; have := Xt5_.out.lt; have := Xt7_.out.lt; omega), below_only h12 ho (by have := Pa.out.lt; have := Pb.out.lt; have := Xt5_.out.lt; have := Xt7_.out.lt; have := HB.out.size; omega)⟩)
          (fun l h => trivial) (fun l b w1 w2 h _ _ => trivial) (fun l b w1 w2 g h _ _ _ _ => trivial) (fun l h => by cases h) (fun l k h => by cases h) ?_ ?_
        · refine ⟨?_, ?_, ?_, ?_, ?_, ?_, ?_, ?_, ?_, ?_, ?_, ?_, trivial⟩ <;> intro L V a1 w1 hf hG hsz hφ hψ hL hdep hcl
          · obtain ⟨Fa1_, Fa2_, Fb1_, Fb2_, Pa_, Pb_, t5_1_, t5_2_, Xt5__, t7_1_, t7_2_, Xt7__, HB_⟩ := hG
            refine og_none rfl ?_
            have e5 := old_slot hf 5 (by kernel_rfl)
            exact ob_pure (ex_loadR rfl e5 Xt5__) rfl
          · obtain ⟨Fa1_, Fa2_, Fb1_, Fb2_, Pa_, Pb_, t5_1_, t5_2_, Xt5__, t7_1_, t7_2_, Xt7__, HB_⟩ := hG
            refine og_none rfl ?_
            have e7 := old_slot hf 7 (by kernel_rfl)
            exact ob_pure (ex_loadR rfl e7 Xt7__) rfl
          · obtain ⟨Fa1_, Fa2_, Fb1_, Fb2_, Pa_, Pb_, t5_1_, t5_2_, Xt5__, t7_1_, t7_2_, Xt7__, HB_⟩ := hG
            refine og_none rfl ?_
            have d0 := dep_of hdep 0 (by kernel_rfl)
            have e26 := (new_slot hf 0 26 d0 (by kernel_rfl)).trans (show V 0 = .agg #[.bool q3061, .slice A3061 n3061 c3061, .bool q3062, .slice A3062 n3062 c3062] from hφ 0 d0)
            have d1 := dep_of hdep 1 (by kernel_rfl)
            have e27 := (new_slot hf 1 27 d1 (by kernel_rfl)).trans (show V 1 = .agg #[.bool q5061, .slice A5061 n5061 c5061, .bool q5062, .slice A5062 n5062 c5062] from hφ 1 d1)
            refine ob_go rfl (vs := #[.agg #[.bool q3061, .slice A3061 n3061 c3061, .bool q3062, .slice A3062 n3062 c3062], .agg #[.bool q5061, .slice A5061 n5061 c5061, .bool q5062, .slice A5062 n5062 c5062]]) (by simp only [List.map_toArray, List.map_cons, List.map_nil, e26, e27]) (by kernel_rfl) (rsameP_any _ _ _ 0 0 (Pair.mk (a := .V 0) (b := .V 0) t5_1_ t5_2_) (Pair.mk (a := .V 0) (b := .V 0) t7_1_ t7_2_)) ?_
            rintro e w2 ⟨he, hb⟩
            exact ⟨_, he, hb, rfl⟩
          · obtain ⟨Fa1_, Fa2_, Fb1_, Fb2_, Pa_, Pb_, t5_1_, t5_2_, Xt5__, t7_1_, t7_2_, Xt7__, HB_⟩ := hG
            refine og_none rfl ?_
            have d2 := dep_of hdep 2 (by kernel_rfl)
            have e28 := (new_slot hf 2 28 d2 (by kernel_rfl)).trans (show V 2 = .bool true from hφ 2 d2)
            exact ob_pure (v := .bool true) (ex_moveV rfl e28) rfl
          · obtain ⟨Fa1_, Fa2_, Fb1_, Fb2_, Pa_, Pb_, t5_1_, t5_2_, Xt5__, t7_1_, t7_2_, Xt7__, HB_⟩ := hG
            have dg := dep_of hdep 3 (by kernel_rfl)
            refine og_want rfl (yielded_of hf (n := 37) (by kernel_rfl) rfl 3 29 dg (by kernel_rfl) (show V 3 = .bool true from hφ 3 dg)) ?_
            have e6 := old_slot hf 6 (by kernel_rfl)
            exact ob_pure (v := .bool false) (ex_moveV rfl e6) rfl
          · obtain ⟨Fa1_, Fa2_, Fb1_, Fb2_, Pa_, Pb_, t5_1_, t5_2_, Xt5__, t7_1_, t7_2_, Xt7__, HB_⟩ := hG
            have dg := dep_of hdep 3 (by kernel_rfl)
            refine og_want rfl (yielded_of hf (n := 37) (by kernel_rfl) rfl 3 29 dg (by kernel_rfl) (show V 3 = .bool true from hφ 3 dg)) ?_
            have e8 := old_slot hf 8 (by kernel_rfl)
            exact ob_pure (v := .bool false) (ex_moveV rfl e8) rfl
          · obtain ⟨Fa1_, Fa2_, Fb1_, Fb2_, Pa_, Pb_, t5_1_, t5_2_, Xt5__, t7_1_, t7_2_, Xt7__, HB_⟩ := hG
            have dg := dep_of hdep 3 (by kernel_rfl)
            refine og_want rfl (yielded_of hf (n := 37) (by kernel_rfl) rfl 3 29 dg (by kernel_rfl) (show V 3 = .bool true from hφ 3 dg)) ?_
            have d4 := dep_of hdep 4 (by kernel_rfl)
            have e30 := (new_slot hf 4 30 d4 (by kernel_rfl)).trans (show V 4 = .bool false from hφ 4 d4)
            have d5 := dep_of hdep 5 (by kernel_rfl)
            have e31 := (new_slot hf 5 31 d5 (by kernel_rfl)).trans (show V 5 = .bool false from hφ 5 d5)
            exact ob_pure (ex_eql_bool rfl e30 e31) (show Value.bool (false == false) = Value.bool true from by simp)
          · obtain ⟨Fa1_, Fa2_, Fb1_, Fb2_, Pa_, Pb_, t5_1_, t5_2_, Xt5__, t7_1_, t7_2_, Xt7__, HB_⟩ := hG
            refine og_none rfl ?_
            have d3 := dep_of hdep 3 (by kernel_rfl)
            have e29 := (new_slot hf 3 29 d3 (by kernel_rfl)).trans (show V 3 = .bool true from hφ 3 d3)
            have d6 := dep_of hdep 6 (by kernel_rfl)
            have e32 := (new_slot hf 6 32 d6 (by kernel_rfl)).trans (show V 6 = .bool true from hφ 6 d6)
            exact ob_pure (v := .bool true) (ex_pick_true rfl e29 e32) rfl
          · obtain ⟨Fa1_, Fa2_, Fb1_, Fb2_, Pa_, Pb_, t5_1_, t5_2_, Xt5__, t7_1_, t7_2_, Xt7__, HB_⟩ := hG
            refine og_none rfl ?_
            have d7 := dep_of hdep 7 (by kernel_rfl)
            have e33 := (new_slot hf 7 33 d7 (by kernel_rfl)).trans (show V 7 = .bool true from hφ 7 d7)
            exact ob_pure (v := .bool true) (ex_moveV rfl e33) rfl
          · obtain ⟨Fa1_, Fa2_, Fb1_, Fb2_, Pa_, Pb_, t5_1_, t5_2_, Xt5__, t7_1_, t7_2_, Xt7__, HB_⟩ := hG
            have dg := dep_of hdep 8 (by kernel_rfl)
            refine og_want rfl (yielded_of hf (n := 37) (by kernel_rfl) rfl 8 34 dg (by kernel_rfl) (show V 8 = .bool true from hφ 8 dg)) ?_
            refine ob_go rfl (vs := #[]) (by simp only [List.map_toArray, List.map_nil]) (by kernel_rfl) (awakeR_any _) ?_
            rintro e w2 ⟨he, hb⟩
            exact ⟨_, he, hb, rfl⟩
          · obtain ⟨Fa1_, Fa2_, Fb1_, Fb2_, Pa_, Pb_, t5_1_, t5_2_, Xt5__, t7_1_, t7_2_, Xt7__, HB_⟩ := hG
            refine og_none rfl ?_
            have d8 := dep_of hdep 8 (by kernel_rfl)
            have e34 := (new_slot hf 8 34 d8 (by kernel_rfl)).trans (show V 8 = .bool true from hφ 8 d8)
            have d9 := dep_of hdep 9 (by kernel_rfl)
            have e35 := (new_slot hf 9 35 d9 (by kernel_rfl)).trans (show V 9 = .bool true from hφ 9 d9)
            exact ob_pure (v := .bool true) (ex_pick_true rfl e34 e35) rfl
          · obtain ⟨Fa1_, Fa2_, Fb1_, Fb2_, Pa_, Pb_, t5_1_, t5_2_, Xt5__, t7_1_, t7_2_, Xt7__, HB_⟩ := hG
            refine og_none rfl ?_
            have d10 := dep_of hdep 10 (by kernel_rfl)
            have e36 := (new_slot hf 10 36 d10 (by kernel_rfl)).trans (show V 10 = .bool true from hφ 10 d10)
            exact ob_pure (v := .bool true) (ex_assignV rfl e36) rfl
        · intro V W6 hG hsz6 hφ hψ hne
          have hlt6 : W5.heap.size ≤ W6.heap.size := hsz6
          obtain ⟨Fa1_, Fa2_, Fb1_, Fb2_, Pa_, Pb_, t5_1_, t5_2_, Xt5__, t7_1_, t7_2_, Xt7__, HB_⟩ := hG
          have Fa1 := hid Fa1_
          have Fa2 := hid Fa2_
          have Fb1 := hid Fb1_
          have Fb2 := hid Fb2_
          have Pa := hid Pa_
          have Pb := hid Pb_
          have t5_1 := hid t5_1_
          have t5_2 := hid t5_2_
          have Xt5_ := hid Xt5__
          have t7_1 := hid t7_1_
          have t7_2 := hid t7_2_
          have Xt7_ := hid Xt7__
          have HB := hid HB_
          have y0 : V 0 = .agg #[.bool q3061, .slice A3061 n3061 c3061, .bool q3062, .slice A3062 n3062 c3062] := hφ 0 (by decide)
          have y1 : V 1 = .agg #[.bool q5061, .slice A5061 n5061 c5061, .bool q5062, .slice A5062 n5062 c5062] := hφ 1 (by decide)
          have y2 : V 2 = .bool true := hφ 2 (by decide)
          have y3 : V 3 = .bool true := hφ 3 (by decide)
          have y4 : V 4 = .bool false := hφ 4 (by decide)
          have y5 : V 5 = .bool false := hφ 5 (by decide)
          have y6 : V 6 = .bool true := hφ 6 (by decide)
          have y7 : V 7 = .bool true := hφ 7 (by decide)
          have y8 : V 8 = .bool true := hφ 8 (by decide)
          have y9 : V 9 = .bool true := hφ 9 (by decide)
          have y10 : V 10 = .bool true := hφ 10 (by decide)
          have y11 : V 11 = .bool true := hφ 11 (by decide)
          simp only [puts, Act.put, List.setIfInBounds_toArray, List.set_cons_zero, List.set_cons_succ, y0, y1, y2, y3, y4, y5, y6, y7, y8, y9, y10, y11]
          clear hφ hψ hne y0 y1 y2 y3 y4 y5 y6 y7 y8 y9 y10 y11 Fa1_ Fa2_ Fb1_ Fb2_ Pa_ Pb_ t5_1_ t5_2_ Xt5__ t7_1_ t7_2_ Xt7__ HB_ hsz6
          go_wp2
          go_ret
          exact ⟨rfl, HB.out⟩
  · have HZ := hid hz
    clear hz
    go_wp2_with (with_reducible refine halt_at 15 rfl ?_)
    have RS2 : Hid (RS 16 ((Rat.divInt pa qa) / (Rat.divInt pb qb))) := hid ((RS.of (Sa1.out) (Sa2.out) (by omega)).div (RS.of (Sb1.out) (Sb2.out) (by omega)) (by omega) (by omega))
    have lt2_Pa := Pa.out.lt
    have lt2_Pb := Pb.out.lt
    unfold Halted
    refine wp_list_each (by kernel_rfl) 9 37 rfl rfl (by kernel_rfl)
      [Fact.eq (.agg #[.bool sa1, .slice Aa1 na1 ca1, .bool sa2, .slice Aa2 na2 ca2]), Fact.eq (.agg #[.bool sb1, .slice Ab1 nb1 cb1, .bool sb2, .slice Ab2 nb2 cb2]), Fact.pairB (.V (((Rat.divInt pa qa) / (Rat.divInt pb qb))).num) (.V ((((Rat.divInt pa qa) / (Rat.divInt pb qb))).den : Int)) true, Fact.pairB (.V (((Rat.divInt pa qa) / (Rat.divInt pb qb))).num) (.V ((((Rat.divInt pa qa) / (Rat.divInt pb qb))).den : Int)) true, Fact.pair (.V (((Rat.divInt pa qa) / (Rat.divInt pb qb))).num) (.V ((((Rat.divInt pa qa) / (Rat.divInt pb qb))).den : Int)), Fact.eq (.bool true), Fact.boxR 26 Rne (.V (((Rat.divInt pa qa) / (Rat.divInt pb qb))).num) (.V ((((Rat.divInt pa qa) / (Rat.divInt pb qb))).den : Int)), Fact.top _, Fact.eq (.bool true)]
      [.val, .val, .val, .val, .val, .val, .alloc 7, .fill 6, .val]
      (fun w' => IntA w' (.agg #[.bool sa1, .slice Aa1 na1 ca1]) (pa) 8 ∧ IntA w' (.agg #[.bool sa2, .slice Aa2 na2 ca2]) (qa) 8 ∧ IntA w' (.agg #[.bool sb1, .slice Ab1 nb1 cb1]) (pb) 8 ∧ IntA w' (.agg #[.bool sb2, .slice Ab2 nb2 cb2]) (qb) 8 ∧ Blk w' (w.heap.size) 26 #[.bool sa1, .slice Aa1 na1 ca1, .bool sa2, .slice Aa2 na2 ca2] ∧ Blk w' (w.heap.size + 1) 26 #[.bool sb1, .slice Ab1 nb1 cb1, .bool sb2, .slice Ab2 nb2 cb2] ∧ Below w.heap.size w w')
      (fun _ _ _ => True) [] (fun _ => 0) (by kernel_rfl)
      ⟨Fa1.out, Fa2.out, Fb1.out, Fb2.out, Pa.out, Pb.out, HB.out⟩
      (fun w1 w2 ⟨h0, h1, h2, h3, h4, h5, h6⟩ hb => ⟨h0.below hb, h1.below hb, h2.below hb, h3.below hb, h4.below hb, h5.below hb, bw_step h6 hb⟩)
      (fun w1 w2 g ⟨h0, h1, h2, h3, h4, h5, h6⟩ hg hn ho => by
        have hg' : W1.heap.size ≤ g := hg.elim id (fun ⟨_, h, _⟩ => absurd h (Nat.not_lt_zero _))
        exact ⟨h0.only hn ho, h1.only hn ho, h2.only hn ho, h3.only hn ho, h4.only ho (by have := Pa.out.lt; have := Pb.out.lt; omega), h5.only ho (by have := Pa.out.lt; have := Pb.out.lt; omega), below_only h6 ho (by have := Pa.out.lt; have := Pb.out.lt; have := HB.out.size; omega)⟩)
      (fun l h => trivial) (fun l b w1 w2 h _ _ => trivial) (fun l b w1 w2 g h _ _ _ _ => trivial) (fun l h => by cases h) (fun l k h => by cases h) ?_ ?_
    · refine ⟨?_, ?_, ?_, ?_, ?_, ?_, ?_, ?_, ?_, trivial⟩ <;> intro L V a1 w1 hf hG hsz hφ hψ hL hdep hcl
      · obtain ⟨Fa1_, Fa2_, Fb1_, Fb2_, Pa_, Pb_, HB_⟩ := hG
        have e2 := old_slot hf 2 (by kernel_rfl)
        exact ob_pure (ex_loadR rfl e2 Pa_) rfl
      · obtain ⟨Fa1_, Fa2_, Fb1_, Fb2_, Pa_, Pb_, HB_⟩ := hG
        have e3 := old_slot hf 3 (by kernel_rfl)
        exact ob_pure (ex_loadR rfl e3 Pb_) rfl
      · obtain ⟨Fa1_, Fa2_, Fb1_, Fb2_, Pa_, Pb_, HB_⟩ := hG
        have d0 := dep_of hdep 0 (by kernel_rfl)
        have e15 := (new_slot hf 0 15 d0 (by kernel_rfl)).trans (show V 0 = .agg #[.bool sa1, .slice Aa1 na1 ca1, .bool sa2, .slice Aa2 na2 ca2] from hφ 0 d0)
        have d1 := dep_of hdep 1 (by kernel_rfl)
        have e16 := (new_slot hf 1 16 d1 (by kernel_rfl)).trans (show V 1 = .agg #[.bool sb1, .slice Ab1 nb1 cb1, .bool sb2, .slice Ab2 nb2 cb2] from hφ 1 d1)
        refine ob_go rfl (vs := #[.agg #[.bool sa1, .slice Aa1 na1 ca1, .bool sa2, .slice Aa2 na2 ca2], .agg #[.bool sb1, .slice Ab1 nb1 cb1, .bool sb2, .slice Ab2 nb2 cb2]]) (by simp only [List.map_toArray, List.map_cons, List.map_nil, e15, e16]) (by kernel_rfl) (quoR_any _ _ _ (Rat.divInt pa qa) (Rat.divInt pb qb) 8 (RatA.of (Pair.mk (a := .A pa 8) (b := .A qa 8) Fa1_ Fa2_)) (RatA.of (Pair.mk (a := .A pb 8) (b := .A qb 8) Fb1_ Fb2_)) (by omega) (by omega) (HZ.out)) ?_
        rintro e w2 ⟨⟨v, rfl, hv⟩, hb⟩
        exact ⟨v, rfl, hb, hv⟩
      · obtain ⟨Fa1_, Fa2_, Fb1_, Fb2_, Pa_, Pb_, HB_⟩ := hG
        have d2 := dep_of hdep 2 (by kernel_rfl)
        have e17 := new_slot hf 2 17 d2 (by kernel_rfl)
        have p17 : PairB w1 (V 2) (.V (((Rat.divInt pa qa) / (Rat.divInt pb qb))).num) (.V ((((Rat.divInt pa qa) / (Rat.divInt pb qb))).den : Int)) true := hφ 2 d2
        exact ob_pure (ex_moveV rfl e17) (by exact p17)
      · obtain ⟨Fa1_, Fa2_, Fb1_, Fb2_, Pa_, Pb_, HB_⟩ := hG
        have d3 := dep_of hdep 3 (by kernel_rfl)
        have e14 := new_slot hf 3 14 d3 (by kernel_rfl)
        have p14 : PairB w1 (V 3) (.V (((Rat.divInt pa qa) / (Rat.divInt pb qb))).num) (.V ((((Rat.divInt pa qa) / (Rat.divInt pb qb))).den : Int)) true := hφ 3 d3
        exact ob_pairB0 rfl e14 p14 rfl
      · obtain ⟨Fa1_, Fa2_, Fb1_, Fb2_, Pa_, Pb_, HB_⟩ := hG
        have d3 := dep_of hdep 3 (by kernel_rfl)
        have e14 := new_slot hf 3 14 d3 (by kernel_rfl)
        have p14 : PairB w1 (V 3) (.V (((Rat.divInt pa qa) / (Rat.divInt pb qb))).num) (.V ((((Rat.divInt pa qa) / (Rat.divInt pb qb))).den : Int)) true := hφ 3 d3
        exact ob_pairB1 rfl e14 p14 rfl
      · obtain ⟨Fa1_, Fa2_, Fb1_, Fb2_, Pa_, Pb_, HB_⟩ := hG
        exact ob_allocR rfl hsz rfl
      · obtain ⟨Fa1_, Fa2_, Fb1_, Fb2_, Pa_, Pb_, HB_⟩ := hG
        have d4 := dep_of hdep 4 (by kernel_rfl)
        have e18 := new_slot hf 4 18 d4 (by kernel_rfl)
        have p18 : Pair w1 (V 4) (.V (((Rat.divInt pa qa) / (Rat.divInt pb qb))).num) (.V ((((Rat.divInt pa qa) / (Rat.divInt pb qb))).den : Int)) := hφ 4 d4
        have d6 := dep_of hdep 6 (by kernel_rfl)
        obtain ⟨g, h1, h2, h3, _⟩ := hφ 6 d6
        have hz := h3 (show (true && L 7) = false from by have h : L 7 = false := hL; rw [h]; rfl)
        exact ob_fillR rfl ((new_slot hf 6 5 d6 (by kernel_rfl)).trans h1) e18 h1 h2 hz p18 rfl rfl
      · obtain ⟨Fa1_, Fa2_, Fb1_, Fb2_, Pa_, Pb_, HB_⟩ := hG
        have d5 := dep_of hdep 5 (by kernel_rfl)
        have e19 := (new_slot hf 5 19 d5 (by kernel_rfl)).trans (show V 5 = .bool true from hφ 5 d5)
        exact ob_pure (v := .bool true) (ex_assignV rfl e19) rfl
    · intro V W3 hG hsz3 hφ hψ hne
      have hlt3 : W1.heap.size ≤ W3.heap.size := hsz3
      obtain ⟨Fa1_, Fa2_, Fb1_, Fb2_, Pa_, Pb_, HB_⟩ := hG
      have Fa1 := hid Fa1_
      have Fa2 := hid Fa2_
      have Fb1 := hid Fb1_
      have Fb2 := hid Fb2_
      have Pa := hid Pa_
      have Pb := hid Pb_
      have HB := hid HB_
      have y0 : V 0 = .agg #[.bool sa1, .slice Aa1 na1 ca1, .bool sa2, .slice Aa2 na2 ca2] := hφ 0 (by decide)
      have y1 : V 1 = .agg #[.bool sb1, .slice Ab1 nb1 cb1, .bool sb2, .slice Ab2 nb2 cb2] := hφ 1 (by decide)
      have y5 : V 5 = .bool true := hφ 5 (by decide)
      obtain ⟨G3_6, y6, gb306, _, hb306⟩ := hφ 6 (by decide)
      obtain ⟨q3061, A3061, n3061, c3061, q3062, A3062, n3062, c3062, kb306, va306, vb306⟩ := hb306 rfl
      have Xt5_ := hid kb306
      have t5_1 : Hid (IntV W3 (.agg #[.bool q3061, .slice A3061 n3061 c3061]) (((Rat.divInt pa qa) / (Rat.divInt pb qb))).num) := hid va306
      have t5_2 : Hid (IntV W3 (.agg #[.bool q3062, .slice A3062 n3062 c3062]) ((((Rat.divInt pa qa) / (Rat.divInt pb qb))).den : Int)) := hid vb306
      clear kb306 va306 vb306
      clear hb306
      have y8 : V 8 = .bool true := hφ 8 (by decide)
      simp only [puts, Act.put, List.setIfInBounds_toArray, List.set_cons_zero, List.set_cons_succ, y0, y1, y5, y6, y8, ptr]
      clear hφ hψ hne y0 y1 y5 y6 y8 Fa1_ Fa2_ Fb1_ Fb2_ Pa_ Pb_ HB_ hsz3
      go_wp2_with (with_reducible refine halt_at 21 rfl ?_)
      have RS4 : Hid (RS 16 ((Rat.divInt pa qa) / (Rat.divInt pb qb))) := hid ((RS.of (Sa1.out) (Sa2.out) (by omega)).div (RS.of (Sb1.out) (Sb2.out) (by omega)) (by omega) (by omega))
      have lt4_Pa := Pa.out.lt
      have lt4_Pb := Pb.out.lt
      have lt4_Xt5_ := Xt5_.out.lt
      unfold Halted
      refine wp_list_each (by kernel_rfl) 9 37 rfl rfl (by kernel_rfl)
        [Fact.eq (.agg #[.bool sa1, .slice Aa1 na1 ca1, .bool sa2, .slice Aa2 na2 ca2]), Fact.eq (.agg #[.bool sb1, .slice Ab1 nb1 cb1, .bool sb2, .slice Ab2 nb2 cb2]), Fact.pairB (.V (((Rat.divInt pa qa) / (Rat.divInt pb qb))).num) (.V ((((Rat.divInt pa qa) / (Rat.divInt pb qb))).den : Int)) true, Fact.pairB (.V (((Rat.divInt pa qa) / (Rat.divInt pb qb))).num) (.V ((((Rat.divInt pa qa) / (Rat.divInt pb qb))).den : Int)) true, Fact.pair (.V (((Rat.divInt pa qa) / (Rat.divInt pb qb))).num) (.V ((((Rat.divInt pa qa) / (Rat.divInt pb qb))).den : Int)), Fact.eq (.bool true), Fact.boxR 26 Rne (.V (((Rat.divInt pa qa) / (Rat.divInt pb qb))).num) (.V ((((Rat.divInt pa qa) / (Rat.divInt pb qb))).den : Int)), Fact.top _, Fact.eq (.bool true)]
        [.val, .val, .val, .val, .val, .val, .alloc 7, .fill 6, .val]
        (fun w' => IntA w' (.agg #[.bool sa1, .slice Aa1 na1 ca1]) (pa) 8 ∧ IntA w' (.agg #[.bool sa2, .slice Aa2 na2 ca2]) (qa) 8 ∧ IntA w' (.agg #[.bool sb1, .slice Ab1 nb1 cb1]) (pb) 8 ∧ IntA w' (.agg #[.bool sb2, .slice Ab2 nb2 cb2]) (qb) 8 ∧ Blk w' (w.heap.size) 26 #[.bool sa1, .slice Aa1 na1 ca1, .bool sa2, .slice Aa2 na2 ca2] ∧ Blk w' (w.heap.size + 1) 26 #[.bool sb1, .slice Ab1 nb1 cb1, .bool sb2, .slice Ab2 nb2 cb2] ∧ IntV w' (.agg #[.bool q3061, .slice A3061 n3061 c3061]) ((((Rat.divInt pa qa) / (Rat.divInt pb qb))).num) ∧ IntV w' (.agg #[.bool q3062, .slice A3062 n3062 c3062]) (((((Rat.divInt pa qa) / (Rat.divInt pb qb))).den : Int)) ∧ Blk w' (G3_6) 26 #[.bool q3061, .slice A3061 n3061 c3061, .bool q3062, .slice A3062 n3062 c3062] ∧ Below w.heap.size w w')
        (fun _ _ _ => True) [] (fun _ => 0) (by kernel_rfl)
        ⟨Fa1.out, Fa2.out, Fb1.out, Fb2.out, Pa.out, Pb.out, t5_1.out, t5_2.out, Xt5_.out, HB.out⟩
        (fun w1 w2 ⟨h0, h1, h2, h3, h4, h5, h6, h7, h8, h9⟩ hb => ⟨h0.below hb, h1.below hb, h2.below hb, h3.below hb, h4.below hb, h5.below hb, h6.below hb, h7.below hb, h8.below hb, bw_step h9 hb⟩)
        (fun w1 w2 g ⟨h0, h1, h2, h3, h4, h5, h6, h7, h8, h9⟩ hg hn ho => by
          have hg' : W3.heap.size ≤ g := hg.elim id (fun ⟨_, h, _⟩ => absurd h (Nat.not_lt_zero _))
          exact ⟨h0.only hn ho, h1.only hn ho, h2.only hn ho, h3.only hn ho, h4.only ho (by have := Pa.out.lt; have := Pb.out.lt; have := Xt5_.out.lt; omega), h5.only ho (by have := Pa.out.lt; have := Pb.out.lt; have := Xt5_.out.lt; omega), h6.only hn ho, h7.only hn ho, h8.only ho (by have := Pa.out.lt; have := Pb.out.lt; have := Xt5_.out.lt; omega), below_only h9 ho (by have := Pa.out.lt; have := Pb.out.lt; have := Xt5_.out.lt; have := HB.out.size; omega)⟩)
        (fun l h => trivial) (fun l b w1 w2 h _ _ => trivial) (fun l b w1 w2 g h _ _ _ _ => trivial) (fun l h => by cases h) (fun l k h => by cases h) ?_ ?_
      · refine ⟨?_, ?_, ?_, ?_, ?_, ?_, ?_, ?_, ?_, trivial⟩ <;> intro L V a1 w1 hf hG hsz hφ hψ hL hdep hcl
        · obtain ⟨Fa1_, Fa2_, Fb1_, Fb2_, Pa_, Pb_, t5_1_, t5_2_, Xt5__, HB_⟩ := hG
          have e2 := old_slot hf 2 (by kernel_rfl)
          exact ob_pure (ex_loadR rfl e2 Pa_) rfl
        · obtain ⟨Fa1_, Fa2_, Fb1_, Fb2_, Pa_, Pb_, t5_1_, t5_2_, Xt5__, HB_⟩ := hG
          have e3 := old_slot hf 3 (by kernel_rfl)
          exact ob_pure (ex_loadR rfl e3 Pb_) rfl
        · obtain ⟨Fa1_, Fa2_, Fb1_, Fb2_, Pa_, Pb_, t5_1_, t5_2_, Xt5__, HB_⟩ := hG
          have d0 := dep_of hdep 0 (by kernel_rfl)
          have e21 := (new_slot hf 0 21 d0 (by kernel_rfl)).trans (show V 0 = .agg #[.bool sa1, .slice Aa1 na1 ca1, .bool sa2, .slice Aa2 na2 ca2] from hφ 0 d0)
          have d1 := dep_of hdep 1 (by kernel_rfl)
          have e22 := (new_slot hf 1 22 d1 (by kernel_rfl)).trans (show V 1 = .agg #[.bool sb1, .slice Ab1 nb1 cb1, .bool sb2, .slice Ab2 nb2 cb2] from hφ 1 d1)
          refine ob_go rfl (vs := #[.agg #[.bool sa1, .slice Aa1 na1 ca1, .bool sa2, .slice Aa2 na2 ca2], .agg #[.bool sb1, .slice Ab1 nb1 cb1, .bool sb2, .slice Ab2 nb2 cb2]]) (by simp only [List.map_toArray, List.map_cons, List.map_nil, e21, e22]) (by kernel_rfl) (rquoR_any _ _ _ (Rat.divInt pa qa) (Rat.divInt pb qb) 8 (RatA.of (Pair.mk (a := .A pa 8) (b := .A qa 8) Fa1_ Fa2_)) (RatA.of (Pair.mk (a := .A pb 8) (b := .A qb 8) Fb1_ Fb2_)) (by omega) (by omega) (HZ.out)) ?_
          rintro e w2 ⟨⟨v, rfl, hv⟩, hb⟩
          exact ⟨v, rfl, hb, hv⟩
        · obtain ⟨Fa1_, Fa2_, Fb1_, Fb2_, Pa_, Pb_, t5_1_, t5_2_, Xt5__, HB_⟩ := hG
          have d2 := dep_of hdep 2 (by kernel_rfl)
          have e23 := new_slot hf 2 23 d2 (by kernel_rfl)
          have p23 : PairB w1 (V 2) (.V (((Rat.divInt pa qa) / (Rat.divInt pb qb))).num) (.V ((((Rat.divInt pa qa) / (Rat.divInt pb qb))).den : Int)) true := hφ 2 d2
          exact ob_pure (ex_moveV rfl e23) (by exact p23)
        · obtain ⟨Fa1_, Fa2_, Fb1_, Fb2_, Pa_, Pb_, t5_1_, t5_2_, Xt5__, HB_⟩ := hG
          have d3 := dep_of hdep 3 (by kernel_rfl)
          have e20 := new_slot hf 3 20 d3 (by kernel_rfl)
          have p20 : PairB w1 (V 3) (.V (((Rat.divInt pa qa) / (Rat.divInt pb qb))).num) (.V ((((Rat.divInt pa qa) / (Rat.divInt pb qb))).den : Int)) true := hφ 3 d3
          exact ob_pairB0 rfl e20 p20 rfl
        · obtain ⟨Fa1_, Fa2_, Fb1_, Fb2_, Pa_, Pb_, t5_1_, t5_2_, Xt5__, HB_⟩ := hG
          have d3 := dep_of hdep 3 (by kernel_rfl)
          have e20 := new_slot hf 3 20 d3 (by kernel_rfl)
          have p20 : PairB w1 (V 3) (.V (((Rat.divInt pa qa) / (Rat.divInt pb qb))).num) (.V ((((Rat.divInt pa qa) / (Rat.divInt pb qb))).den : Int)) true := hφ 3 d3
          exact ob_pairB1 rfl e20 p20 rfl
        · obtain ⟨Fa1_, Fa2_, Fb1_, Fb2_, Pa_, Pb_, t5_1_, t5_2_, Xt5__, HB_⟩ := hG
          exact ob_allocR rfl hsz rfl
        · obtain ⟨Fa1_, Fa2_, Fb1_, Fb2_, Pa_, Pb_, t5_1_, t5_2_, Xt5__, HB_⟩ := hG
          have d4 := dep_of hdep 4 (by kernel_rfl)
          have e24 := new_slot hf 4 24 d4 (by kernel_rfl)
          have p24 : Pair w1 (V 4) (.V (((Rat.divInt pa qa) / (Rat.divInt pb qb))).num) (.V ((((Rat.divInt pa qa) / (Rat.divInt pb qb))).den : Int)) := hφ 4 d4
          have d6 := dep_of hdep 6 (by kernel_rfl)
          obtain ⟨g, h1, h2, h3, _⟩ := hφ 6 d6
          have hz := h3 (show (true && L 7) = false from by have h : L 7 = false := hL; rw [h]; rfl)
          exact ob_fillR rfl ((new_slot hf 6 7 d6 (by kernel_rfl)).trans h1) e24 h1 h2 hz p24 rfl rfl
        · obtain ⟨Fa1_, Fa2_, Fb1_, Fb2_, Pa_, Pb_, t5_1_, t5_2_, Xt5__, HB_⟩ := hG
          have d5 := dep_of hdep 5 (by kernel_rfl)
          have e25 := (new_slot hf 5 25 d5 (by kernel_rfl)).trans (show V 5 = .bool true from hφ 5 d5)
          exact ob_pure (v := .bool true) (ex_assignV rfl e25) rfl
      · intro V W5 hG hsz5 hφ hψ hne
        have hlt5 : W3.heap.size ≤ W5.heap.size := hsz5
        obtain ⟨Fa1_, Fa2_, Fb1_, Fb2_, Pa_, Pb_, t5_1_, t5_2_, Xt5__, HB_⟩ := hG
        have Fa1 := hid Fa1_
        have Fa2 := hid Fa2_
        have Fb1 := hid Fb1_
        have Fb2 := hid Fb2_
        have Pa := hid Pa_
        have Pb := hid Pb_
        have t5_1 := hid t5_1_
        have t5_2 := hid t5_2_
        have Xt5_ := hid Xt5__
        have HB := hid HB_
        have y0 : V 0 = .agg #[.bool sa1, .slice Aa1 na1 ca1, .bool sa2, .slice Aa2 na2 ca2] := hφ 0 (by decide)
        have y1 : V 1 = .agg #[.bool sb1, .slice Ab1 nb1 cb1, .bool sb2, .slice Ab2 nb2 cb2] := hφ 1 (by decide)
        have y5 : V 5 = .bool true := hφ 5 (by decide)
        obtain ⟨G5_6, y6, gb506, _, hb506⟩ := hφ 6 (by decide)
        obtain ⟨q5061, A5061, n5061, c5061, q5062, A5062, n5062, c5062, kb506, va506, vb506⟩ := hb506 rfl
        have Xt7_ := hid kb506
        have t7_1 : Hid (IntV W5 (.agg #[.bool q5061, .slice A5061 n5061 c5061]) (((Rat.divInt pa qa) / (Rat.divInt pb qb))).num) := hid va506
        have t7_2 : Hid (IntV W5 (.agg #[.bool q5062, .slice A5062 n5062 c5062]) ((((Rat.divInt pa qa) / (Rat.divInt pb qb))).den : Int)) := hid vb506
        clear kb506 va506 vb506
        clear hb506
        have y8 : V 8 = .bool true := hφ 8 (by decide)
        simp only [puts, Act.put, List.setIfInBounds_toArray, List.set_cons_zero, List.set_cons_succ, y0, y1, y5, y6, y8, ptr]
        clear hφ hψ hne y0 y1 y5 y6 y8 Fa1_ Fa2_ Fb1_ Fb2_ Pa_ Pb_ t5_1_ t5_2_ Xt5__ HB_ hsz5
        go_wp2_with (with_reducible refine halt_at 26 rfl ?_)
        unfold Halted
        refine wp_list_eachG (by kernel_rfl) 12 37 rfl rfl (by kernel_rfl)
          [Fact.eq (.agg #[.bool q3061, .slice A3061 n3061 c3061, .bool q3062, .slice A3062 n3062 c3062]), Fact.eq (.agg #[.bool q5061, .slice A5061 n5061 c5061, .bool q5062, .slice A5062 n5062 c5062]), Fact.eq (.bool true), Fact.eq (.bool true), Fact.eq (.bool true), Fact.eq (.bool true), Fact.eq (.bool true), Fact.eq (.bool true), Fact.eq (.bool true), Fact.eq (.bool true), Fact.eq (.bool true), Fact.eq (.bool true)]
          [.val, .val, .val, .val, .val, .val, .val, .val, .val, .val, .val, .val]
          (fun w' => IntA w' (.agg #[.bool sa1, .slice Aa1 na1 ca1]) (pa) 8 ∧ IntA w' (.agg #[.bool sa2, .slice Aa2 na2 ca2]) (qa) 8 ∧ IntA w' (.agg #[.bool sb1, .slice Ab1 nb1 cb1]) (pb) 8 ∧ IntA w' (.agg #[.bool sb2, .slice Ab2 nb2 cb2]) (qb) 8 ∧ Blk w' (w.heap.size) 26 #[.bool sa1, .slice Aa1 na1 ca1, .bool sa2, .slice Aa2 na2 ca2] ∧ Blk w' (w.heap.size + 1) 26 #[.bool sb1, .slice Ab1 nb1 cb1, .bool sb2, .slice Ab2 nb2 cb2] ∧ IntV w' (.agg #[.bool q3061, .slice A3061 n3061 c3061]) ((((Rat.divInt pa qa) / (Rat.divInt pb qb))).num) ∧ IntV w' (.agg #[.bool q3062, .slice A3062 n3062 c3062]) (((((Rat.divInt pa qa) / (Rat.divInt pb qb))).den : Int)) ∧ Blk w' (G3_6) 26 #[.bool q3061, .slice A3061 n3061 c3061, .bool q3062, .slice A3062 n3062 c3062] ∧ IntV w' (.agg #[.bool q5061, .slice A5061 n5061 c5061]) ((((Rat.divInt pa qa) / (Rat.divInt pb qb))).num) ∧ IntV w' (.agg #[.bool q5062, .slice A5062 n5062 c5062]) (((((Rat.divInt pa qa) / (Rat.divInt pb qb))).den : Int)) ∧ Blk w' (G5_6) 26 #[.bool q5061, .slice A5061 n5061 c5061, .bool q5062, .slice A5062 n5062 c5062] ∧ Below w.heap.size w w')
          (fun _ _ _ => True) [] (fun _ => 0) (by kernel_rfl)
          ⟨Fa1.out, Fa2.out, Fb1.out, Fb2.out, Pa.out, Pb.out, t5_1.out, t5_2.out, Xt5_.out, t7_1.out, t7_2.out, Xt7_.out, HB.out⟩
          (fun w1 w2 ⟨h0, h1, h2, h3, h4, h5, h6, h7, h8, h9, h10, h11, h12⟩ hb => ⟨h0.below hb, h1.below hb, h2.below hb, h3.below hb, h4.below hb, h5.below hb, h6.below hb, h7.below hb, h8.below hb, h9.below hb, h10.below hb, h11.below hb, bw_step h12 hb⟩)
          (fun w1 w2 g ⟨h0, h1, h2, h3, h4, h5, h6, h7, h8, h9, h10, h11, h12⟩ hg hn ho => by
            have hg' : W5.heap.size ≤ g := hg.elim id (fun ⟨_, h, _⟩ => absurd h (Nat.not_lt_zero _))
            exact ⟨h0.only hn ho, h1.only hn ho, h2.only hn ho, h3.only hn ho, h4.only ho (by have := Pa.out.lt; have := Pb.out.lt; have := Xt5_.out.lt; have := Xt7_.out.lt; omega), h5.only ho (by have := Pa.out.lt; have := Pb.out.lt; have := Xt5_.out.lt; have := Xt7_.out.lt; omega), h6.only hn ho, h7.only hn ho, h8.only ho (by have := Pa.out.lt; have := Pb.out.lt; have := Xt5_.out.lt; have := Xt7_.out.lt; omega), h9.only hn ho, h10.only hn ho, h11.only ho (by have := Pa.out.lt; have := Pb.out.lt; have := Xt5_.out.lt; have := Xt7_.out.lt; omega), below_only h12 ho (by have := Pa.out.lt; have := Pb.out.lt; have := Xt5_.out.lt; have := Xt7_.out.lt; have := HB.out.size; omega)⟩)
          (fun l h => trivial) (fun l b w1 w2 h _ _ => trivial) (fun l b w1 w2 g h _ _ _ _ => trivial) (fun l h => by cases h) (fun l k h => by cases h) ?_ ?_
        · refine ⟨?_, ?_, ?_, ?_, ?_, ?_, ?_, ?_, ?_, ?_, ?_, ?_, trivial⟩ <;> intro L V a1 w1 hf hG hsz hφ hψ hL hdep hcl
          · obtain ⟨Fa1_, Fa2_, Fb1_, Fb2_, Pa_, Pb_, t5_1_, t5_2_, Xt5__, t7_1_, t7_2_, Xt7__, HB_⟩ := hG
            refine og_none rfl ?_
            have e5 := old_slot hf 5 (by kernel_rfl)
            exact ob_pure (ex_loadR rfl e5 Xt5__) rfl
          · obtain ⟨Fa1_, Fa2_, Fb1_, Fb2_, Pa_, Pb_, t5_1_, t5_2_, Xt5__, t7_1_, t7_2_, Xt7__, HB_⟩ := hG
            refine og_none rfl ?_
            have e7 := old_slot hf 7 (by kernel_rfl)
            exact ob_pure (ex_loadR rfl e7 Xt7__) rfl
          · obtain ⟨Fa1_, Fa2_, Fb1_, Fb2_, Pa_, Pb_, t5_1_, t5_2_, Xt5__, t7_1_, t7_2_, Xt7__, HB_⟩ := hG
            refine og_none rfl ?_
            have d0 := dep_of hdep 0 (by kernel_rfl)
            have e26 := (new_slot hf 0 26 d0 (by kernel_rfl)).trans (show V 0 = .agg #[.bool q3061, .slice A3061 n3061 c3061, .bool q3062, .slice A3062 n3062 c3062] from hφ 0 d0)
            have d1 := dep_of hdep 1 (by kernel_rfl)
            have e27 := (new_slot hf 1 27 d1 (by kernel_rfl)).trans (show V 1 = .agg #[.bool q5061, .slice A5061 n5061 c5061, .bool q5062, .slice A5062 n5062 c5062] from hφ 1 d1)
            refine ob_go rfl (vs := #[.agg #[.bool q3061, .slice A3061 n3061 c3061, .bool q3062, .slice A3062 n3062 c3062], .agg #[.bool q5061, .slice A5061 n5061 c5061, .bool q5062, .slice A5062 n5062 c5062]]) (by simp only [List.map_toArray, List.map_cons, List.map_nil, e26, e27]) (by kernel_rfl) (rsameR_any _ _ _ ((Rat.divInt pa qa) / (Rat.divInt pb qb)) (Pair.mk (a := .V (((Rat.divInt pa qa) / (Rat.divInt pb qb))).num) (b := .V ((((Rat.divInt pa qa) / (Rat.divInt pb qb))).den : Int)) t5_1_ t5_2_) (Pair.mk (a := .V (((Rat.divInt pa qa) / (Rat.divInt pb qb))).num) (b := .V ((((Rat.divInt pa qa) / (Rat.divInt pb qb))).den : Int)) t7_1_ t7_2_)) ?_
            rintro e w2 ⟨he, hb⟩
            exact ⟨_, he, hb, rfl⟩
          · obtain ⟨Fa1_, Fa2_, Fb1_, Fb2_, Pa_, Pb_, t5_1_, t5_2_, Xt5__, t7_1_, t7_2_, Xt7__, HB_⟩ := hG
            refine og_none rfl ?_
            have d2 := dep_of hdep 2 (by kernel_rfl)
            have e28 := (new_slot hf 2 28 d2 (by kernel_rfl)).trans (show V 2 = .bool true from hφ 2 d2)
            exact ob_pure (v := .bool true) (ex_moveV rfl e28) rfl
          · obtain ⟨Fa1_, Fa2_, Fb1_, Fb2_, Pa_, Pb_, t5_1_, t5_2_, Xt5__, t7_1_, t7_2_, Xt7__, HB_⟩ := hG
            have dg := dep_of hdep 3 (by kernel_rfl)
            refine og_want rfl (yielded_of hf (n := 37) (by kernel_rfl) rfl 3 29 dg (by kernel_rfl) (show V 3 = .bool true from hφ 3 dg)) ?_
            have e6 := old_slot hf 6 (by kernel_rfl)
            exact ob_pure (v := .bool true) (ex_moveV rfl e6) rfl
          · obtain ⟨Fa1_, Fa2_, Fb1_, Fb2_, Pa_, Pb_, t5_1_, t5_2_, Xt5__, t7_1_, t7_2_, Xt7__, HB_⟩ := hG
            have dg := dep_of hdep 3 (by kernel_rfl)
            refine og_want rfl (yielded_of hf (n := 37) (by kernel_rfl) rfl 3 29 dg (by kernel_rfl) (show V 3 = .bool true from hφ 3 dg)) ?_
            have e8 := old_slot hf 8 (by kernel_rfl)
            exact ob_pure (v := .bool true) (ex_moveV rfl e8) rfl
          · obtain ⟨Fa1_, Fa2_, Fb1_, Fb2_, Pa_, Pb_, t5_1_, t5_2_, Xt5__, t7_1_, t7_2_, Xt7__, HB_⟩ := hG
            have dg := dep_of hdep 3 (by kernel_rfl)
            refine og_want rfl (yielded_of hf (n := 37) (by kernel_rfl) rfl 3 29 dg (by kernel_rfl) (show V 3 = .bool true from hφ 3 dg)) ?_
            have d4 := dep_of hdep 4 (by kernel_rfl)
            have e30 := (new_slot hf 4 30 d4 (by kernel_rfl)).trans (show V 4 = .bool true from hφ 4 d4)
            have d5 := dep_of hdep 5 (by kernel_rfl)
            have e31 := (new_slot hf 5 31 d5 (by kernel_rfl)).trans (show V 5 = .bool true from hφ 5 d5)
            exact ob_pure (ex_eql_bool rfl e30 e31) (show Value.bool (true == true) = Value.bool true from by simp)
          · obtain ⟨Fa1_, Fa2_, Fb1_, Fb2_, Pa_, Pb_, t5_1_, t5_2_, Xt5__, t7_1_, t7_2_, Xt7__, HB_⟩ := hG
            refine og_none rfl ?_
            have d3 := dep_of hdep 3 (by kernel_rfl)
            have e29 := (new_slot hf 3 29 d3 (by kernel_rfl)).trans (show V 3 = .bool true from hφ 3 d3)
            have d6 := dep_of hdep 6 (by kernel_rfl)
            have e32 := (new_slot hf 6 32 d6 (by kernel_rfl)).trans (show V 6 = .bool true from hφ 6 d6)
            exact ob_pure (v := .bool true) (ex_pick_true rfl e29 e32) rfl
          · obtain ⟨Fa1_, Fa2_, Fb1_, Fb2_, Pa_, Pb_, t5_1_, t5_2_, Xt5__, t7_1_, t7_2_, Xt7__, HB_⟩ := hG
            refine og_none rfl ?_
            have d7 := dep_of hdep 7 (by kernel_rfl)
            have e33 := (new_slot hf 7 33 d7 (by kernel_rfl)).trans (show V 7 = .bool true from hφ 7 d7)
            exact ob_pure (v := .bool true) (ex_moveV rfl e33) rfl
          · obtain ⟨Fa1_, Fa2_, Fb1_, Fb2_, Pa_, Pb_, t5_1_, t5_2_, Xt5__, t7_1_, t7_2_, Xt7__, HB_⟩ := hG
            have dg := dep_of hdep 8 (by kernel_rfl)
            refine og_want rfl (yielded_of hf (n := 37) (by kernel_rfl) rfl 8 34 dg (by kernel_rfl) (show V 8 = .bool true from hφ 8 dg)) ?_
            refine ob_go rfl (vs := #[]) (by simp only [List.map_toArray, List.map_nil]) (by kernel_rfl) (awakeR_any _) ?_
            rintro e w2 ⟨he, hb⟩
            exact ⟨_, he, hb, rfl⟩
          · obtain ⟨Fa1_, Fa2_, Fb1_, Fb2_, Pa_, Pb_, t5_1_, t5_2_, Xt5__, t7_1_, t7_2_, Xt7__, HB_⟩ := hG
            refine og_none rfl ?_
            have d8 := dep_of hdep 8 (by kernel_rfl)
            have e34 := (new_slot hf 8 34 d8 (by kernel_rfl)).trans (show V 8 = .bool true from hφ 8 d8)
            have d9 := dep_of hdep 9 (by kernel_rfl)
            have e35 := (new_slot hf 9 35 d9 (by kernel_rfl)).trans (show V 9 = .bool true from hφ 9 d9)
            exact ob_pure (v := .bool true) (ex_pick_true rfl e34 e35) rfl
          · obtain ⟨Fa1_, Fa2_, Fb1_, Fb2_, Pa_, Pb_, t5_1_, t5_2_, Xt5__, t7_1_, t7_2_, Xt7__, HB_⟩ := hG
            refine og_none rfl ?_
            have d10 := dep_of hdep 10 (by kernel_rfl)
            have e36 := (new_slot hf 10 36 d10 (by kernel_rfl)).trans (show V 10 = .bool true from hφ 10 d10)
            exact ob_pure (v := .bool true) (ex_assignV rfl e36) rfl
        · intro V W6 hG hsz6 hφ hψ hne
          have hlt6 : W5.heap.size ≤ W6.heap.size := hsz6
          obtain ⟨Fa1_, Fa2_, Fb1_, Fb2_, Pa_, Pb_, t5_1_, t5_2_, Xt5__, t7_1_, t7_2_, Xt7__, HB_⟩ := hG
          have Fa1 := hid Fa1_
          have Fa2 := hid Fa2_
          have Fb1 := hid Fb1_
          have Fb2 := hid Fb2_
          have Pa := hid Pa_
          have Pb := hid Pb_
          have t5_1 := hid t5_1_
          have t5_2 := hid t5_2_
          have Xt5_ := hid Xt5__
          have t7_1 := hid t7_1_
          have t7_2 := hid t7_2_
          have Xt7_ := hid Xt7__
          have HB := hid HB_
          have y0 : V 0 = .agg #[.bool q3061, .slice A3061 n3061 c3061, .bool q3062, .slice A3062 n3062 c3062] := hφ 0 (by decide)
          have y1 : V 1 = .agg #[.bool q5061, .slice A5061 n5061 c5061, .bool q5062, .slice A5062 n5062 c5062] := hφ 1 (by decide)
          have y2 : V 2 = .bool true := hφ 2 (by decide)
          have y3 : V 3 = .bool true := hφ 3 (by decide)
          have y4 : V 4 = .bool true := hφ 4 (by decide)
          have y5 : V 5 = .bool true := hφ 5 (by decide)
          have y6 : V 6 = .bool true := hφ 6 (by decide)
          have y7 : V 7 = .bool true := hφ 7 (by decide)
          have y8 : V 8 = .bool true := hφ 8 (by decide)
          have y9 : V 9 = .bool true := hφ 9 (by decide)
          have y10 : V 10 = .bool true := hφ 10 (by decide)
          have y11 : V 11 = .bool true := hφ 11 (by decide)
          simp only [puts, Act.put, List.setIfInBounds_toArray, List.set_cons_zero, List.set_cons_succ, y0, y1, y2, y3, y4, y5, y6, y7, y8, y9, y10, y11]
          clear hφ hψ hne y0 y1 y2 y3 y4 y5 y6 y7 y8 y9 y10 y11 Fa1_ Fa2_ Fb1_ Fb2_ Pa_ Pb_ t5_1_ t5_2_ Xt5__ t7_1_ t7_2_ Xt7__ HB_ hsz6
          go_wp2
          go_ret
          exact ⟨rfl, HB.out⟩
theorem rationalDivides_walk (w : World) (va : Value) (ha : ArgR w va) (vb : Value) (hb : ArgR w vb) :
    Calls Try.prog 13 #[va, vb] w fun e w' => e = .returned (.bool true) ∧ Below w.heap.size w w' := by
  obtain ⟨sa1, Aa1, na1, ca1, sa2, Aa2, na2, ca2, rfl, ka⟩ := ha.short
  obtain ⟨sb1, Ab1, nb1, cb1, sb2, Ab2, nb2, cb2, rfl, kb⟩ := hb.short
  rcases ka 8 (by decide) with ka | ⟨la1, la2, pa, qa, fa1, fa2⟩
  · exact rationalDivides_long w sa1 Aa1 na1 ca1 sa2 Aa2 na2 ca2 sb1 Ab1 nb1 cb1 sb2 Ab2 nb2 cb2 (by omega)
  rcases kb 8 (by decide) with kb | ⟨lb1, lb2, pb, qb, fb1, fb2⟩
  · exact rationalDivides_long w sa1 Aa1 na1 ca1 sa2 Aa2 na2 ca2 sb1 Ab1 nb1 cb1 sb2 Ab2 nb2 cb2 (by omega)
  exact rationalDivides_short w sa1 Aa1 na1 ca1 sa2 Aa2 na2 ca2 sb1 Ab1 nb1 cb1 sb2 Ab2 nb2 cb2 ⟨la1, la2⟩ pa qa fa1 fa2 ⟨lb1, lb2⟩ pb qb fb1 fb2
end Go.Proofs.Ytijmjkkjopplbaa

