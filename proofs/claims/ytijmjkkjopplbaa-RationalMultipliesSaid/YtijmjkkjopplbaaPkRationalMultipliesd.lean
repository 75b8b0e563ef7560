/- A part of the proof of the laws of rationals: WRMultiplies. -/
import Derived.Test.YtijmjkkjopplbaaPae
import Derived.Test.YtijmjkkjopplbaaPam
import Derived.Test.YtijmjkkjopplbaaPaBc
import Derived.Test.YtijmjkkjopplbaaPaBd
import Derived.Test.YtijmjkkjopplbaaPaBb
import Derived.Test.YtijmjkkjopplbaaPbh
import Derived.Test.YtijmjkkjopplbaaPal
import Derived.Test.YtijmjkkjopplbaaPab
import Derived.Test.YtijmjkkjopplbaaPaf
import Derived.Test.YtijmjkkjopplbaaPad
import Derived.Test.YtijmjkkjopplbaaPbb
import Derived.Test.YtijmjkkjopplbaaPac
import Derived.Test.YtijmjkkjopplbaaPav
import Derived.Test.YtijmjkkjopplbaaPay
import Derived.Test.YtijmjkkjopplbaaPao
import Derived.Test.YtijmjkkjopplbaaPat
import Derived.Test.YtijmjkkjopplbaaPba
import Derived.Test.YtijmjkkjopplbaaPaa
import Derived.Test.YtijmjkkjopplbaaPan
import Derived.Test.YtijmjkkjopplbaaPai
import Derived.Test.YtijmjkkjopplbaaPah
import Derived.Test.YtijmjkkjopplbaaPag
import Derived.Test.YtijmjkkjopplbaaPaj
import Derived.Test.YtijmjkkjopplbaaPax
import Derived.Test.YtijmjkkjopplbaaPap
import Derived.Test.YtijmjkkjopplbaaPas
import Derived.Test.YtijmjkkjopplbaaPbf
import Derived.Test.YtijmjkkjopplbaaPbe
import Derived.Test.YtijmjkkjopplbaaPbg
import Derived.Test.YtijmjkkjopplbaaPbd
import Derived.Test.YtijmjkkjopplbaaPbj
import Derived.Test.YtijmjkkjopplbaaPau
import Derived.Test.YtijmjkkjopplbaaPbi
import Derived.Test.YtijmjkkjopplbaaPar
import Derived.Test.YtijmjkkjopplbaaPaw
import Derived.Test.YtijmjkkjopplbaaPbk
import Derived.Test.YtijmjkkjopplbaaPbc
import Derived.Test.YtijmjkkjopplbaaPaBa
import Derived.Test.YtijmjkkjopplbaaPbn
import Derived.Test.YtijmjkkjopplbaaPaq
import Derived.Test.YtijmjkkjopplbaaPkRationalMultipliesa
import Derived.Test.YtijmjkkjopplbaaPbl
import Derived.Test.YtijmjkkjopplbaaPkRationalMultipliesb
import Derived.Test.YtijmjkkjopplbaaPbm
import Derived.Test.YtijmjkkjopplbaaPak
import Derived.Test.YtijmjkkjopplbaaPaz
namespace Go.Proofs.Ytijmjkkjopplbaa
open Go.RowKit
set_option linter.unusedVariables false
set_option maxRecDepth 100000

set_option maxHeartbeats 4000000 in
theorem rationalMultiplies_long (w : World) (sa1 : Bool) (Aa1 : Option Addr) (na1 ca1 : Nat) (sa2 : Bool) (Aa2 : Option Addr) (na2 ca2 : Nat) (sb1 : Bool) (Ab1 : Option Addr) (nb1 cb1 : Nat) (sb2 : Bool) (Ab2 : Option Addr) (nb2 cb2 : Nat) (hl : 8 < na1 ∨ 8 < na2 ∨ 8 < nb1 ∨ 8 < nb2) :
    Calls Try.prog 12 #[.agg #[.bool sa1, .slice Aa1 na1 ca1, .bool sa2, .slice Aa2 na2 ca2], .agg #[.bool sb1, .slice Ab1 nb1 cb1, .bool sb2, .slice Ab2 nb2 cb2]] w fun e w' => e = .returned (.bool true) ∧ Below w.heap.size w w' := by
  have HL := hid hl
  clear hl
  have HB := hid (Below.refl w.heap.size w)
  obtain ⟨W, hW⟩ : ∃ W, W = ((w.alloc (.cells #[.bool sa1, .slice Aa1 na1 ca1, .bool sa2, .slice Aa2 na2 ca2] 26)).alloc (.cells #[.bool sb1, .slice Ab1 nb1 cb1, .bool sb2, .slice Ab2 nb2 cb2] 26)) := ⟨_, rfl⟩
  have hbb : Below w.heap.size w W := by rw [hW]; exact (bw_alloc (bw_alloc (Below.refl _ _) _) _)
  have HB := hid (bw_step HB.out hbb)
  have Pa : Hid (Blk W (w.heap.size) 26 #[.bool sa1, .slice Aa1 na1 ca1, .bool sa2, .slice Aa2 na2 ca2]) := by
    rw [hW]
    have := (Blk.new w 26 #[.bool sa1, .slice Aa1 na1 ca1, .bool sa2, .slice Aa2 na2 ca2]).below (bw_alloc (Below.refl _ _) (.cells #[.bool sb1, .slice Ab1 nb1 cb1, .bool sb2, .slice Ab2 nb2 cb2] 26))
    exact hid (by simpa only [World.size_alloc] using this)
  have Pb : Hid (Blk W (w.heap.size + 1) 26 #[.bool sb1, .slice Ab1 nb1 cb1, .bool sb2, .slice Ab2 nb2 cb2]) := by
    rw [hW]
    have := Blk.new (w.alloc (.cells #[.bool sa1, .slice Aa1 na1 ca1, .bool sa2, .slice Aa2 na2 ca2] 26)) 26 #[.bool sb1, .slice Ab1 nb1 cb1, .bool sb2, .slice Ab2 nb2 cb2]
    exact hid (by simpa only [World.size_alloc] using this)
  clear hbb
  have HWs := hid (show W.heap.size = w.heap.size + 1 + 1 by rw [hW]; simp)
  have ua0 := Pa.out.cell 0
  have ua1 := Pa.out.cell 1
  have ua2 := Pa.out.cell 2
  have ua3 := Pa.out.cell 3
  have ub0 := Pb.out.cell 0
  have ub1 := Pb.out.cell 1
  have ub2 := Pb.out.cell 2
  have ub3 := Pb.out.cell 3
  go_enter Try.func12, Try.ntmps12
  go_wp2_with fail
  rw [← hW]
  clear hW
  have hbb := bw_alloc (Below.refl _ W) (.cells #[.bool sa1, .slice Aa1 na1 ca1, .bool sa2, .slice Aa2 na2 ca2, .bool sb1, .slice Ab1 nb1 cb1, .bool sb2, .slice Ab2 nb2 cb2] 26)
  have XL := Blk.new W 26 #[.bool sa1, .slice Aa1 na1 ca1, .bool sa2, .slice Aa2 na2 ca2, .bool sb1, .slice Ab1 nb1 cb1, .bool sb2, .slice Ab2 nb2 cb2]
  rw [HWs.out] at XL
  have HB := hid (bw_step HB.out hbb)
  have Pa := hid (Pa.out.below hbb)
  have Pb := hid (Pb.out.below hbb)
  clear hbb
  refine (long2 _ _ sa1 Aa1 na1 ca1 sa2 Aa2 na2 ca2 sb1 Ab1 nb1 cb1 sb2 Ab2 nb2 cb2 XL true ⟨fun _ => HL.out, fun _ => rfl⟩).mono ?_
  rintro e W1 ⟨rfl, hb1⟩
  clear XL
  have HB := hid (bw_step HB.out hb1)
  have Pa := hid (Pa.out.below hb1)
  have Pb := hid (Pb.out.below hb1)
  clear hb1
  clear ua0 ua1 ua2 ua3 ub0 ub1 ub2 ub3
  go_wp2_with fail
  refine (awakeR_any _).mono ?_
  rintro e W2 ⟨rfl, hb2⟩
  have HB := hid (bw_step HB.out hb2)
  have Pa := hid (Pa.out.below hb2)
  have Pb := hid (Pb.out.below hb2)
  clear hb2
  go_wp2
  go_ret
  exact ⟨rfl, HB.out⟩
set_option maxHeartbeats 8000000 in
theorem rationalMultiplies_short (w : World) (sa1 : Bool) (Aa1 : Option Addr) (na1 ca1 : Nat) (sa2 : Bool) (Aa2 : Option Addr) (na2 ca2 : Nat) (sb1 : Bool) (Ab1 : Option Addr) (nb1 cb1 : Nat) (sb2 : Bool) (Ab2 : Option Addr) (nb2 cb2 : Nat) (laa : na1 ≤ 8 ∧ na2 ≤ 8) (pa qa : Int) (fa1 : IntA w (.agg #[.bool sa1, .slice Aa1 na1 ca1]) pa 8) (fa2 : IntA w (.agg #[.bool sa2, .slice Aa2 na2 ca2]) qa 8) (lab : nb1 ≤ 8 ∧ nb2 ≤ 8) (pb qb : Int) (fb1 : IntA w (.agg #[.bool sb1, .slice Ab1 nb1 cb1]) pb 8) (fb2 : IntA w (.agg #[.bool sb2, .slice Ab2 nb2 cb2]) qb 8) :
    Calls Try.prog 12 #[.agg #[.bool sa1, .slice Aa1 na1 ca1, .bool sa2, .slice Aa2 na2 ca2], .agg #[.bool sb1, .slice Ab1 nb1 cb1, .bool sb2, .slice Ab2 nb2 cb2]] w fun e w' => e = .returned (.bool true) ∧ Below w.heap.size w w' := by
  have LAb := hid lab
  clear lab
  have LAa := hid laa
  clear laa
  have Fa1 := hid fa1
  have Sa1 := hid fa1.sm
  have Fa2 := hid fa2
  have Sa2 := hid fa2.sm
  clear fa1 fa2
  have Fb1 := hid fb1
  have Sb1 := hid fb1.sm
  have Fb2 := hid fb2
  have Sb2 := hid fb2.sm
  clear fb1 fb2
  have HB := hid (Below.refl w.heap.size w)
  obtain ⟨W, hW⟩ : ∃ W, W = ((w.alloc (.cells #[.bool sa1, .slice Aa1 na1 ca1, .bool sa2, .slice Aa2 na2 ca2] 26)).alloc (.cells #[.bool sb1, .slice Ab1 nb1 cb1, .bool sb2, .slice Ab2 nb2 cb2] 26)) := ⟨_, rfl⟩
  have hbb : Below w.heap.size w W := by rw [hW]; exact (bw_alloc (bw_alloc (Below.refl _ _) _) _)
  have HB := hid (bw_step HB.out hbb)
  have Fa1 := hid (Fa1.out.below hbb)
  have Fa2 := hid (Fa2.out.below hbb)
  have Fb1 := hid (Fb1.out.below hbb)
  have Fb2 := hid (Fb2.out.below hbb)
  have Pa : Hid (Blk W (w.heap.size) 26 #[.bool sa1, .slice Aa1 na1 ca1, .bool sa2, .slice Aa2 na2 ca2]) := by
    rw [hW]
    have := (Blk.new w 26 #[.bool sa1, .slice Aa1 na1 ca1, .bool sa2, .slice Aa2 na2 ca2]).below (bw_alloc (Below.refl _ _) (.cells #[.bool sb1, .slice Ab1 nb1 cb1, .bool sb2, .slice Ab2 nb2 cb2] 26))
    exact hid (by simpa only [World.size_alloc] using this)
  have Pb : Hid (Blk W (w.heap.size + 1) 26 #[.bool sb1, .slice Ab1 nb1 cb1, .bool sb2, .slice Ab2 nb2 cb2]) := by
    rw [hW]
    have := Blk.new (w.alloc (.cells #[.bool sa1, .slice Aa1 na1 ca1, .bool sa2, .slice Aa2 na2 ca2] 26)) 26 #[.bool sb1, .slice Ab1 nb1 cb1, .bool sb2, .slice Ab2 nb2 cb2]
    exact hid (by simpa only [World.size_alloc] using this)
  clear hbb
  have HWs := hid (show W.heap.size = w.heap.size + 1 + 1 by rw [hW]; simp)
  have ua0 := Pa.out.cell 0
  have ua1 := Pa.out.cell 1
  have ua2 := Pa.out.cell 2
  have ua3 := Pa.out.cell 3
  have ub0 := Pb.out.cell 0
  have ub1 := Pb.out.cell 1
  have ub2 := Pb.out.cell 2
  have ub3 := Pb.out.cell 3
  go_enter Try.func12, Try.ntmps12
  go_wp2_with fail
  rw [← hW]
  clear hW
  have hbb := bw_alloc (Below.refl _ W) (.cells #[.bool sa1, .slice Aa1 na1 ca1, .bool sa2, .slice Aa2 na2 ca2, .bool sb1, .slice Ab1 nb1 cb1, .bool sb2, .slice Ab2 nb2 cb2] 26)
  have XL := Blk.new W 26 #[.bool sa1, .slice Aa1 na1 ca1, .bool sa2, .slice Aa2 na2 ca2, .bool sb1, .slice Ab1 nb1 cb1, .bool sb2, .slice Ab2 nb2 cb2]
  rw [HWs.out] at XL
  have HB := hid (bw_step HB.out hbb)
  have Fa1 := hid (Fa1.out.below hbb)
  have Fa2 := hid (Fa2.out.below hbb)
  have Fb1 := hid (Fb1.out.below hbb)
  have Fb2 := hid (Fb2.out.below hbb)
  have Pa := hid (Pa.out.below hbb)
  have Pb := hid (Pb.out.below hbb)
  clear hbb
  refine (long2 _ _ sa1 Aa1 na1 ca1 sa2 Aa2 na2 ca2 sb1 Ab1 nb1 cb1 sb2 Ab2 nb2 cb2 XL false ⟨fun h => absurd h (by decide), fun h => by have := LAa.out; have := LAb.out; omega⟩).mono ?_
  rintro e W1 ⟨rfl, hb1⟩
  clear XL
  have HB := hid (bw_step HB.out hb1)
  have Fa1 := hid (Fa1.out.below hb1)
  have Fa2 := hid (Fa2.out.below hb1)
  have Fb1 := hid (Fb1.out.below hb1)
  have Fb2 := hid (Fb2.out.below hb1)
  have Pa := hid (Pa.out.below hb1)
  have Pb := hid (Pb.out.below hb1)
  clear hb1
  clear ua0 ua1 ua2 ua3 ub0 ub1 ub2 ub3
  go_wp2_with fail
  have RS2 : Hid (RS 16 ((Rat.divInt pa qa) * (Rat.divInt pb qb))) := hid ((RS.of (Sa1.out) (Sa2.out) (by omega)).mul (RS.of (Sb1.out) (Sb2.out) (by omega)) (by omega))
  have RS3 : Hid (RS 16 ((Rat.divInt pa qa) * (Rat.divInt pb qb))) := hid ((RS.of (Sa1.out) (Sa2.out) (by omega)).mul (RS.of (Sb1.out) (Sb2.out) (by omega)) (by omega))
  refine wp_region_eachG (by kernel_rfl) 11 20 rfl rfl (by kernel_rfl)
    [Fact.eq (.agg #[.bool sa1, .slice Aa1 na1 ca1, .bool sa2, .slice Aa2 na2 ca2]), Fact.eq (.agg #[.bool sb1, .slice Ab1 nb1 cb1, .bool sb2, .slice Ab2 nb2 cb2]), Fact.pair (.V (((Rat.divInt pa qa) * (Rat.divInt pb qb))).num) (.V ((((Rat.divInt pa qa) * (Rat.divInt pb qb))).den : Int)), Fact.eq (.agg #[.bool sa1, .slice Aa1 na1 ca1, .bool sa2, .slice Aa2 na2 ca2]), Fact.eq (.agg #[.bool sb1, .slice Ab1 nb1 cb1, .bool sb2, .slice Ab2 nb2 cb2]), Fact.pair (.V (((Rat.divInt pa qa) * (Rat.divInt pb qb))).num) (.V ((((Rat.divInt pa qa) * (Rat.divInt pb qb))).den : Int)), Fact.eq (.bool true), Fact.eq (.bool true), Fact.eq (.bool true), Fact.eq (.bool true), Fact.eq (.bool true)]
    [.val, .val, .val, .val, .val, .val, .val, .val, .val, .val, .val]
    (fun w' => IntA w' (.agg #[.bool sa1, .slice Aa1 na1 ca1]) (pa) 8 ∧ IntA w' (.agg #[.bool sa2, .slice Aa2 na2 ca2]) (qa) 8 ∧ IntA w' (.agg #[.bool sb1, .slice Ab1 nb1 cb1]) (pb) 8 ∧ IntA w' (.agg #[.bool sb2, .slice Ab2 nb2 cb2]) (qb) 8 ∧ Blk w' (w.heap.size) 26 #[.bool sa1, .slice Aa1 na1 ca1, .bool sa2, .slice Aa2 na2 ca2] ∧ Blk w' (w.heap.size + 1) 26 #[.bool sb1, .slice Ab1 nb1 cb1, .bool sb2, .slice Ab2 nb2 cb2] ∧ Below w.heap.size w w')
    (fun _ _ _ => True) [] (fun _ => 0) (by kernel_rfl)
    ⟨Fa1.out, Fa2.out, Fb1.out, Fb2.out, Pa.out, Pb.out, HB.out⟩
    (fun w1 w2 ⟨h0, h1, h2, h3, h4, h5, h6⟩ hb => ⟨h0.below hb, h1.below hb, h2.below hb, h3.below hb, h4.below hb, h5.below hb, bw_step h6 hb⟩)
    (fun w1 w2 g ⟨h0, h1, h2, h3, h4, h5, h6⟩ hg hn ho => by
      have hg' : W1.heap.size ≤ g := hg.elim id (fun ⟨_, h, _⟩ => absurd h (Nat.not_lt_zero _))
      exact ⟨h0.only hn ho, h1.only hn ho, h2.only hn ho, h3.only hn ho, h4.only ho (by have := Pa.out.lt; have := Pb.out.lt; omega), h5.only ho (by have := Pa.out.lt; have := Pb.out.lt; omega), below_only h6 ho (by have := Pa.out.lt; have := Pb.out.lt; have := HB.out.size; omega)⟩)
    (fun l h => trivial) (fun l b w1 w2 h _ _ => trivial) (fun l b w1 w2 g h _ _ _ _ => trivial) (fun l h => by cases h) (fun l k h => by cases h) ?_ ?_
  · refine ⟨?_, ?_, ?_, ?_, ?_, ?_, ?_, ?_, ?_, ?_, ?_, trivial⟩ <;> intro L V a1 w1 hf hG hsz hφ hψ hL hdep hcl
    · obtain ⟨Fa1_, Fa2_, Fb1_, Fb2_, Pa_, Pb_, HB_⟩ := hG
      refine og_none rfl ?_
      have e2 := old_slot hf 2 (by kernel_rfl)
      exact ob_pure (ex_loadR rfl e2 Pa_) rfl
    · obtain ⟨Fa1_, Fa2_, Fb1_, Fb2_, Pa_, Pb_, HB_⟩ := hG
      refine og_none rfl ?_
      have e3 := old_slot hf 3 (by kernel_rfl)
      exact ob_pure (ex_loadR rfl e3 Pb_) rfl
    · obtain ⟨Fa1_, Fa2_, Fb1_, Fb2_, Pa_, Pb_, HB_⟩ := hG
      refine og_none rfl ?_
      have d0 := dep_of hdep 0 (by kernel_rfl)
      have e10 := (new_slot hf 0 10 d0 (by kernel_rfl)).trans (show V 0 = .agg #[.bool sa1, .slice Aa1 na1 ca1, .bool sa2, .slice Aa2 na2 ca2] from hφ 0 d0)
      have d1 := dep_of hdep 1 (by kernel_rfl)
      have e11 := (new_slot hf 1 11 d1 (by kernel_rfl)).trans (show V 1 = .agg #[.bool sb1, .slice Ab1 nb1 cb1, .bool sb2, .slice Ab2 nb2 cb2] from hφ 1 d1)
      refine ob_go rfl (vs := #[.agg #[.bool sa1, .slice Aa1 na1 ca1, .bool sa2, .slice Aa2 na2 ca2], .agg #[.bool sb1, .slice Ab1 nb1 cb1, .bool sb2, .slice Ab2 nb2 cb2]]) (by simp only [List.map_toArray, List.map_cons, List.map_nil, e10, e11]) (by kernel_rfl) (mulR_any _ _ _ (Rat.divInt pa qa) (Rat.divInt pb qb) 8 (RatA.of (Pair.mk (a := .A pa 8) (b := .A qa 8) Fa1_ Fa2_)) (RatA.of (Pair.mk (a := .A pb 8) (b := .A qb 8) Fb1_ Fb2_)) (by omega) (by omega)) ?_
      rintro e w2 ⟨⟨v, rfl, hv⟩, hb⟩
      exact ⟨v, rfl, hb, hv⟩
    · obtain ⟨Fa1_, Fa2_, Fb1_, Fb2_, Pa_, Pb_, HB_⟩ := hG
      refine og_none rfl ?_
      have e2 := old_slot hf 2 (by kernel_rfl)
      exact ob_pure (ex_loadR rfl e2 Pa_) rfl
    · obtain ⟨Fa1_, Fa2_, Fb1_, Fb2_, Pa_, Pb_, HB_⟩ := hG
      refine og_none rfl ?_
      have e3 := old_slot hf 3 (by kernel_rfl)
      exact ob_pure (ex_loadR rfl e3 Pb_) rfl
    · obtain ⟨Fa1_, Fa2_, Fb1_, Fb2_, Pa_, Pb_, HB_⟩ := hG
      refine og_none rfl ?_
      have d3 := dep_of hdep 3 (by kernel_rfl)
      have e13 := (new_slot hf 3 13 d3 (by kernel_rfl)).trans (show V 3 = .agg #[.bool sa1, .slice Aa1 na1 ca1, .bool sa2, .slice Aa2 na2 ca2] from hφ 3 d3)
      have d4 := dep_of hdep 4 (by kernel_rfl)
      have e14 := (new_slot hf 4 14 d4 (by kernel_rfl)).trans (show V 4 = .agg #[.bool sb1, .slice Ab1 nb1 cb1, .bool sb2, .slice Ab2 nb2 cb2] from hφ 4 d4)
      refine ob_go rfl (vs := #[.agg #[.bool sa1, .slice Aa1 na1 ca1, .bool sa2, .slice Aa2 na2 ca2], .agg #[.bool sb1, .slice Ab1 nb1 cb1, .bool sb2, .slice Ab2 nb2 cb2]]) (by simp only [List.map_toArray, List.map_cons, List.map_nil, e13, e14]) (by kernel_rfl) (rmulR_any _ _ _ (Rat.divInt pa qa) (Rat.divInt pb qb) 8 (RatA.of (Pair.mk (a := .A pa 8) (b := .A qa 8) Fa1_ Fa2_)) (RatA.of (Pair.mk (a := .A pb 8) (b := .A qb 8) Fb1_ Fb2_)) (by omega) (by omega)) ?_
      rintro e w2 ⟨⟨v, rfl, hv⟩, hb⟩
      exact ⟨v, rfl, hb, hv⟩
    · obtain ⟨Fa1_, Fa2_, Fb1_, Fb2_, Pa_, Pb_, HB_⟩ := hG
      refine og_none rfl ?_
      have d2 := dep_of hdep 2 (by kernel_rfl)
      have e12 := new_slot hf 2 12 d2 (by kernel_rfl)
      have p12 : Pair w1 (V 2) (.V (((Rat.divInt pa qa) * (Rat.divInt pb qb))).num) (.V ((((Rat.divInt pa qa) * (Rat.divInt pb qb))).den : Int)) := hφ 2 d2
      have d5 := dep_of hdep 5 (by kernel_rfl)
      have e15 := new_slot hf 5 15 d5 (by kernel_rfl)
      have p15 : Pair w1 (V 5) (.V (((Rat.divInt pa qa) * (Rat.divInt pb qb))).num) (.V ((((Rat.divInt pa qa) * (Rat.divInt pb qb))).den : Int)) := hφ 5 d5
      refine ob_go rfl (vs := #[V 2, V 5]) (by simp only [List.map_toArray, List.map_cons, List.map_nil, e12, e15]) (by kernel_rfl) (rsameR_any _ _ _ ((Rat.divInt pa qa) * (Rat.divInt pb qb)) p12 p15) ?_
      rintro e w2 ⟨he, hb⟩
      exact ⟨_, he, hb, rfl⟩
    · obtain ⟨Fa1_, Fa2_, Fb1_, Fb2_, Pa_, Pb_, HB_⟩ := hG
      refine og_none rfl ?_
      have d6 := dep_of hdep 6 (by kernel_rfl)
      have e16 := (new_slot hf 6 16 d6 (by kernel_rfl)).trans (show V 6 = .bool true from hφ 6 d6)
      exact ob_pure (v := .bool true) (ex_moveV rfl e16) rfl
    · obtain ⟨Fa1_, Fa2_, Fb1_, Fb2_, Pa_, Pb_, HB_⟩ := hG
      have dg := dep_of hdep 7 (by kernel_rfl)
      refine og_want rfl (yielded_of hf (n := 20) (by kernel_rfl) rfl 7 17 dg (by kernel_rfl) (show V 7 = .bool true from hφ 7 dg)) ?_
      refine ob_go rfl (vs := #[]) (by simp only [List.map_toArray, List.map_nil]) (by kernel_rfl) (awakeR_any _) ?_
      rintro e w2 ⟨he, hb⟩
      exact ⟨_, he, hb, rfl⟩
    · obtain ⟨Fa1_, Fa2_, Fb1_, Fb2_, Pa_, Pb_, HB_⟩ := hG
      refine og_none rfl ?_
      have d7 := dep_of hdep 7 (by kernel_rfl)
      have e17 := (new_slot hf 7 17 d7 (by kernel_rfl)).trans (show V 7 = .bool true from hφ 7 d7)
      have d8 := dep_of hdep 8 (by kernel_rfl)
      have e18 := (new_slot hf 8 18 d8 (by kernel_rfl)).trans (show V 8 = .bool true from hφ 8 d8)
      exact ob_pure (v := .bool true) (ex_pick_true rfl e17 e18) rfl
    · obtain ⟨Fa1_, Fa2_, Fb1_, Fb2_, Pa_, Pb_, HB_⟩ := hG
      refine og_none rfl ?_
      have d9 := dep_of hdep 9 (by kernel_rfl)
      have e19 := (new_slot hf 9 19 d9 (by kernel_rfl)).trans (show V 9 = .bool true from hφ 9 d9)
      exact ob_pure (v := .bool true) (ex_assignV rfl e19) rfl
  · intro V W4 hG hsz4 hφ hψ hne
    have hlt4 : W1.heap.size ≤ W4.heap.size := hsz4
    obtain ⟨Fa1_, Fa2_, Fb1_, Fb2_, Pa_, Pb_, HB_⟩ := hG
    have Fa1 := hid Fa1_
    have Fa2 := hid Fa2_
    have Fb1 := hid Fb1_
    have Fb2 := hid Fb2_
    have Pa := hid Pa_
    have Pb := hid Pb_
    have HB := hid HB_
    have y0 : V 0 = .agg #[.bool sa1, .slice Aa1 na1 ca1, .bool sa2, .slice Aa2 na2 ca2] := hφ 0 (by decide)
    have y1 : V 1 = .agg #[.bool sb1, .slice Ab1 nb1 cb1, .bool sb2, .slice Ab2 nb2 cb2] := hφ 1 (by decide)
    have y3 : V 3 = .agg #[.bool sa1, .slice Aa1 na1 ca1, .bool sa2, .slice Aa2 na2 ca2] := hφ 3 (by decide)
    have y4 : V 4 = .agg #[.bool sb1, .slice Ab1 nb1 cb1, .bool sb2, .slice Ab2 nb2 cb2] := hφ 4 (by decide)
    have y6 : V 6 = .bool true := hφ 6 (by decide)
    have y7 : V 7 = .bool true := hφ 7 (by decide)
    have y8 : V 8 = .bool true := hφ 8 (by decide)
    have y9 : V 9 = .bool true := hφ 9 (by decide)
    have y10 : V 10 = .bool true := hφ 10 (by decide)
    simp only [puts, Act.put, List.setIfInBounds_toArray, List.set_cons_zero, List.set_cons_succ, y0, y1, y3, y4, y6, y7, y8, y9, y10]
    clear hφ hψ hne y0 y1 y3 y4 y6 y7 y8 y9 y10 Fa1_ Fa2_ Fb1_ Fb2_ Pa_ Pb_ HB_ hsz4
    go_wp2
    go_ret
    exact ⟨rfl, HB.out⟩
theorem rationalMultiplies_walk (w : World) (va : Value) (ha : ArgR w va) (vb : Value) (hb : ArgR w vb) :
    Calls Try.prog 12 #[va, vb] w fun e w' => e = .returned (.bool true) ∧ Below w.heap.size w w' := by
  obtain ⟨sa1, Aa1, na1, ca1, sa2, Aa2, na2, ca2, rfl, ka⟩ := ha.short
  obtain ⟨sb1, Ab1, nb1, cb1, sb2, Ab2, nb2, cb2, rfl, kb⟩ := hb.short
  rcases ka 8 (by decide) with ka | ⟨la1, la2, pa, qa, fa1, fa2⟩
  · exact rationalMultiplies_long w sa1 Aa1 na1 ca1 sa2 Aa2 na2 ca2 sb1 Ab1 nb1 cb1 sb2 Ab2 nb2 cb2 (by omega)
  rcases kb 8 (by decide) with kb | ⟨lb1, lb2, pb, qb, fb1, fb2⟩
  · exact rationalMultiplies_long w sa1 Aa1 na1 ca1 sa2 Aa2 na2 ca2 sb1 Ab1 nb1 cb1 sb2 Ab2 nb2 cb2 (by omega)
  exact rationalMultiplies_short w sa1 Aa1 na1 ca1 sa2 Aa2 na2 ca2 sb1 Ab1 nb1 cb1 sb2 Ab2 nb2 cb2 ⟨la1, la2⟩ pa qa fa1 fa2 ⟨lb1, lb2⟩ pb qb fb1 fb2
end Go.Proofs.Ytijmjkkjopplbaa

