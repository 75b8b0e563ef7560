/- A part of the proof of the laws of rationals: WRCompares. -/
import Derived.Test.YtijmjkkjopplbaaPae
import Derived.Test.YtijmjkkjopplbaaPam
import Derived.Test.YtijmjkkjopplbaaPaBc
import Derived.Test.YtijmjkkjopplbaaPaBd
import Derived.Test.YtijmjkkjopplbaaPaBb
import Derived.Test.YtijmjkkjopplbaaPbh
import Derived.Test.YtijmjkkjopplbaaPal
import Derived.Test.YtijmjkkjopplbaaPab
import Derived.Test.YtijmjkkjopplbaaPaf
import Derived.Test.YtijmjkkjopplbaaPad
import Derived.Test.YtijmjkkjopplbaaPbb
import Derived.Test.YtijmjkkjopplbaaPac
import Derived.Test.YtijmjkkjopplbaaPav
import Derived.Test.YtijmjkkjopplbaaPay
import Derived.Test.YtijmjkkjopplbaaPao
import Derived.Test.YtijmjkkjopplbaaPat
import Derived.Test.YtijmjkkjopplbaaPba
import Derived.Test.YtijmjkkjopplbaaPaa
import Derived.Test.YtijmjkkjopplbaaPan
import Derived.Test.YtijmjkkjopplbaaPai
import Derived.Test.YtijmjkkjopplbaaPah
import Derived.Test.YtijmjkkjopplbaaPag
import Derived.Test.YtijmjkkjopplbaaPkRationalComparesc
import Derived.Test.YtijmjkkjopplbaaPaj
import Derived.Test.YtijmjkkjopplbaaPax
import Derived.Test.YtijmjkkjopplbaaPap
import Derived.Test.YtijmjkkjopplbaaPas
import Derived.Test.YtijmjkkjopplbaaPbf
import Derived.Test.YtijmjkkjopplbaaPbe
import Derived.Test.YtijmjkkjopplbaaPbg
import Derived.Test.YtijmjkkjopplbaaPbd
import Derived.Test.YtijmjkkjopplbaaPkRationalComparese
import Derived.Test.YtijmjkkjopplbaaPbj
import Derived.Test.YtijmjkkjopplbaaPau
import Derived.Test.YtijmjkkjopplbaaPbi
import Derived.Test.YtijmjkkjopplbaaPar
import Derived.Test.YtijmjkkjopplbaaPkRationalComparesd
import Derived.Test.YtijmjkkjopplbaaPaw
import Derived.Test.YtijmjkkjopplbaaPbk
import Derived.Test.YtijmjkkjopplbaaPbc
import Derived.Test.YtijmjkkjopplbaaPkRationalComparesa
import Derived.Test.YtijmjkkjopplbaaPaBa
import Derived.Test.YtijmjkkjopplbaaPaq
import Derived.Test.YtijmjkkjopplbaaPkRationalComparesb
import Derived.Test.YtijmjkkjopplbaaPbl
import Derived.Test.YtijmjkkjopplbaaPkRationalComparesf
import Derived.Test.YtijmjkkjopplbaaPak
import Derived.Test.YtijmjkkjopplbaaPaz
namespace Go.Proofs.Ytijmjkkjopplbaa
open Go.RowKit
set_option linter.unusedVariables false
set_option maxRecDepth 100000

set_option maxHeartbeats 4000000 in
theorem rationalCompares_long (w : World) (sa1 : Bool) (Aa1 : Option Addr) (na1 ca1 : Nat) (sa2 : Bool) (Aa2 : Option Addr) (na2 ca2 : Nat) (sb1 : Bool) (Ab1 : Option Addr) (nb1 cb1 : Nat) (sb2 : Bool) (Ab2 : Option Addr) (nb2 cb2 : Nat) (hl : 8 < na1 ∨ 8 < na2 ∨ 8 < nb1 ∨ 8 < nb2) :
    Calls Try.prog 14 #[.agg #[.bool sa1, .slice Aa1 na1 ca1, .bool sa2, .slice Aa2 na2 ca2], .agg #[.bool sb1, .slice Ab1 nb1 cb1, .bool sb2, .slice Ab2 nb2 cb2]] w fun e w' => e = .returned (.bool true) ∧ Below w.heap.size w w' := by
  have HL := hid hl
  clear hl
  have HB := hid (Below.refl w.heap.size w)
  obtain ⟨W, hW⟩ : ∃ W, W = ((w.alloc (.cells #[.bool sa1, .slice Aa1 na1 ca1, .bool sa2, .slice Aa2 na2 ca2] 26)).alloc (.cells #[.bool sb1, .slice Ab1 nb1 cb1, .bool sb2, .slice Ab2 nb2 cb2] 26)) := ⟨_, rfl⟩
  have hbb : Below w.heap.size w W := by rw [hW]; exact (bw_alloc (bw_alloc (Below.refl _ _) _) _)
  have HB := hid (bw_step HB.out hbb)
  have Pa : Hid (Blk W (w.heap.size) 26 #[.bool sa1, .slice Aa1 na1 ca1, .bool sa2, .slice Aa2 na2 ca2]) := by
    rw [hW]
    have := (Blk.new w 26 #[.bool sa1, .slice Aa1 na1 ca1, .bool sa2, .slice Aa2 na2 ca2]).below (bw_alloc (Below.refl _ _) (.cells #[.bool sb1, .slice Ab1 nb1 cb1, .bool sb2, .slice Ab2 nb2 cb2] 26))
    exact hid (by simpa only [World.size_alloc] using this)
  have Pb : Hid (Blk W (w.heap.size + 1) 26 #[.bool sb1, .slice Ab1 nb1 cb1, .bool sb2, .slice Ab2 nb2 cb2]) := by
    rw [hW]
    have := Blk.new (w.alloc (.cells #[.bool sa1, .slice Aa1 na1 ca1, .bool sa2, .slice Aa2 na2 ca2] 26)) 26 #[.bool sb1, .slice Ab1 nb1 cb1, .bool sb2, .slice Ab2 nb2 cb2]
    exact hid (by simpa only [World.size_alloc] using this)
  clear hbb
  have HWs := hid (show W.heap.size = w.heap.size + 1 + 1 by rw [hW]; simp)
  have ua0 := Pa.out.cell 0
  have ua1 := Pa.out.cell 1
  have ua2 := Pa.out.cell 2
  have ua3 := Pa.out.cell 3
  have ub0 := Pb.out.cell 0
  have ub1 := Pb.out.cell 1
  have ub2 := Pb.out.cell 2
  have ub3 := Pb.out.cell 3
  go_enter Try.func14, Try.ntmps14
  go_wp2_with fail
  rw [← hW]
  clear hW
  have hbb := bw_alloc (Below.refl _ W) (.cells #[.bool sa1, .slice Aa1 na1 ca1, .bool sa2, .slice Aa2 na2 ca2, .bool sb1, .slice Ab1 nb1 cb1, .bool sb2, .slice Ab2 nb2 cb2] 26)
  have XL := Blk.new W 26 #[.bool sa1, .slice Aa1 na1 ca1, .bool sa2, .slice Aa2 na2 ca2, .bool sb1, .slice Ab1 nb1 cb1, .bool sb2, .slice Ab2 nb2 cb2]
  rw [HWs.out] at XL
  have HB := hid (bw_step HB.out hbb)
  have Pa := hid (Pa.out.below hbb)
  have Pb := hid (Pb.out.below hbb)
  clear hbb
  refine (long2 _ _ sa1 Aa1 na1 ca1 sa2 Aa2 na2 ca2 sb1 Ab1 nb1 cb1 sb2 Ab2 nb2 cb2 XL true ⟨fun _ => HL.out, fun _ => rfl⟩).mono ?_
  rintro e W1 ⟨rfl, hb1⟩
  clear XL
  have HB := hid (bw_step HB.out hb1)
  have Pa := hid (Pa.out.below hb1)
  have Pb := hid (Pb.out.below hb1)
  clear hb1
  clear ua0 ua1 ua2 ua3 ub0 ub1 ub2 ub3
  go_wp2_with fail
  refine (awakeR_any _).mono ?_
  rintro e W2 ⟨rfl, hb2⟩
  have HB := hid (bw_step HB.out hb2)
  have Pa := hid (Pa.out.below hb2)
  have Pb := hid (Pb.out.below hb2)
  clear hb2
  go_wp2
  go_ret
  exact ⟨rfl, HB.out⟩
set_option maxHeartbeats 8000000 in
theorem rationalCompares_short (w : World) (sa1 : Bool) (Aa1 : Option Addr) (na1 ca1 : Nat) (sa2 : Bool) (Aa2 : Option Addr) (na2 ca2 : Nat) (sb1 : Bool) (Ab1 : Option Addr) (nb1 cb1 : Nat) (sb2 : Bool) (Ab2 : Option Addr) (nb2 cb2 : Nat) (laa : na1 ≤ 8 ∧ na2 ≤ 8) (pa qa : Int) (fa1 : IntA w (.agg #[.bool sa1, .slice Aa1 na1 ca1]) pa 8) (fa2 : IntA w (.agg #[.bool sa2, .slice Aa2 na2 ca2]) qa 8) (lab : nb1 ≤ 8 ∧ nb2 ≤ 8) (pb qb : Int) (fb1 : IntA w (.agg #[.bool sb1, .slice Ab1 nb1 cb1]) pb 8) (fb2 : IntA w (.agg #[.bool sb2, .slice Ab2 nb2 cb2]) qb 8) :
    Calls Try.prog 14 #[.agg #[.bool sa1, .slice Aa1 na1 ca1, .bool sa2, .slice Aa2 na2 ca2], .agg #[.bool sb1, .slice Ab1 nb1 cb1, .bool sb2, .slice Ab2 nb2 cb2]] w fun e w' => e = .returned (.bool true) ∧ Below w.heap.size w w' := by
  have LAb := hid lab
  clear lab
  have LAa := hid laa
  clear laa
  have Fa1 := hid fa1
  have Sa1 := hid fa1.sm
  have Fa2 := hid fa2
  have Sa2 := hid fa2.sm
  clear fa1 fa2
  have Fb1 := hid fb1
  have Sb1 := hid fb1.sm
  have Fb2 := hid fb2
  have Sb2 := hid fb2.sm
  clear fb1 fb2
  have HB := hid (Below.refl w.heap.size w)
  obtain ⟨W, hW⟩ : ∃ W, W = ((w.alloc (.cells #[.bool sa1, .slice Aa1 na1 ca1, .bool sa2, .slice Aa2 na2 ca2] 26)).alloc (.cells #[.bool sb1, .slice Ab1 nb1 cb1, .bool sb2, .slice Ab2 nb2 cb2] 26)) := ⟨_, rfl⟩
  have hbb : Below w.heap.size w W := by rw [hW]; exact (bw_alloc (bw_alloc (Below.refl _ _) _) _)
  have HB := hid (bw_step HB.out hbb)
  have Fa1 := hid (Fa1.out.below hbb)
  have Fa2 := hid (Fa2.out.below hbb)
  have Fb1 := hid (Fb1.out.below hbb)
  have Fb2 := hid (Fb2.out.below hbb)
  have Pa : Hid (Blk W (w.heap.size) 26 #[.bool sa1, .slice Aa1 na1 ca1, .bool sa2, .slice Aa2 na2 ca2]) := by
    rw [hW]
    have := (Blk.new w 26 #[.bool sa1, .slice Aa1 na1 ca1, .bool sa2, .slice Aa2 na2 ca2]).below (bw_alloc (Below.refl _ _) (.cells #[.bool sb1, .slice Ab1 nb1 cb1, .bool sb2, .slice Ab2 nb2 cb2] 26))
    exact hid (by simpa only [World.size_alloc] using this)
  have Pb : Hid (Blk W (w.heap.size + 1) 26 #[.bool sb1, .slice Ab1 nb1 cb1, .bool sb2, .slice Ab2 nb2 cb2]) := by
    rw [hW]
    have := Blk.new (w.alloc (.cells #[.bool sa1, .slice Aa1 na1 ca1, .bool sa2, .slice Aa2 na2 ca2] 26)) 26 #[.bool sb1, .slice Ab1 nb1 cb1, .bool sb2, .slice Ab2 nb2 cb2]
    exact hid (by simpa only [World.size_alloc] using this)
  clear hbb
  have HWs := hid (show W.heap.size = w.heap.size + 1 + 1 by rw [hW]; simp)
  have ua0 := Pa.out.cell 0
  have ua1 := Pa.out.cell 1
  have ua2 := Pa.out.cell 2
  have ua3 := Pa.out.cell 3
  have ub0 := Pb.out.cell 0
  have ub1 := Pb.out.cell 1
  have ub2 := Pb.out.cell 2
  have ub3 := Pb.out.cell 3
  go_enter Try.func14, Try.ntmps14
  go_wp2_with fail
  rw [← hW]
  clear hW
  have hbb := bw_alloc (Below.refl _ W) (.cells #[.bool sa1, .slice Aa1 na1 ca1, .bool sa2, .slice Aa2 na2 ca2, .bool sb1, .slice Ab1 nb1 cb1, .bool sb2, .slice Ab2 nb2 cb2] 26)
  have XL := Blk.new W 26 #[.bool sa1, .slice Aa1 na1 ca1, .bool sa2, .slice Aa2 na2 ca2, .bool sb1, .slice Ab1 nb1 cb1, .bool sb2, .slice Ab2 nb2 cb2]
  rw [HWs.out] at XL
  have HB := hid (bw_step HB.out hbb)
  have Fa1 := hid (Fa1.out.below hbb)
  have Fa2 := hid (Fa2.out.below hbb)
  have Fb1 := hid (Fb1.out.below hbb)
  have Fb2 := hid (Fb2.out.below hbb)
  have Pa := hid (Pa.out.below hbb)
  have Pb := hid (Pb.out.below hbb)
  clear hbb
  refine (long2 _ _ sa1 Aa1 na1 ca1 sa2 Aa2 na2 ca2 sb1 Ab1 nb1 cb1 sb2 Ab2 nb2 cb2 XL false ⟨fun h => absurd h (by decide), fun h => by have := LAa.out; have := LAb.out; omega⟩).mono ?_
  rintro e W1 ⟨rfl, hb1⟩
  clear XL
  have HB := hid (bw_step HB.out hb1)
  have Fa1 := hid (Fa1.out.below hb1)
  have Fa2 := hid (Fa2.out.below hb1)
  have Fb1 := hid (Fb1.out.below hb1)
  have Fb2 := hid (Fb2.out.below hb1)
  have Pa := hid (Pa.out.below hb1)
  have Pb := hid (Pb.out.below hb1)
  clear hb1
  clear ua0 ua1 ua2 ua3 ub0 ub1 ub2 ub3
  go_wp2_with fail
  refine wp_region_eachG (by kernel_rfl) 25 34 rfl rfl (by kernel_rfl)
    [Fact.eq (.agg #[.bool sa1, .slice Aa1 na1 ca1, .bool sa2, .slice Aa2 na2 ca2]), Fact.eq (.int .i64 (cm ((Rat.divInt pa qa)).num 0)), Fact.eq (.agg #[.bool sa1, .slice Aa1 na1 ca1, .bool sa2, .slice Aa2 na2 ca2]), Fact.eq (.int .i64 (cm ((Rat.divInt pa qa)).num 0)), Fact.eq (.bool true), Fact.eq (.bool true), Fact.eq (.agg #[.bool sa1, .slice Aa1 na1 ca1, .bool sa2, .slice Aa2 na2 ca2]), Fact.eq (.agg #[.bool sb1, .slice Ab1 nb1 cb1, .bool sb2, .slice Ab2 nb2 cb2]), Fact.eq (.int .i64 (cm ((Rat.divInt pa qa) - (Rat.divInt pb qb)).num 0)), Fact.eq (.agg #[.bool sa1, .slice Aa1 na1 ca1, .bool sa2, .slice Aa2 na2 ca2]), Fact.eq (.agg #[.bool sb1, .slice Ab1 nb1 cb1, .bool sb2, .slice Ab2 nb2 cb2]), Fact.eq (.int .i64 (cm ((Rat.divInt pa qa) - (Rat.divInt pb qb)).num 0)), Fact.eq (.bool true), Fact.eq (.bool true), Fact.eq (.bool true), Fact.eq (.agg #[.bool sa1, .slice Aa1 na1 ca1, .bool sa2, .slice Aa2 na2 ca2]), Fact.eq (.bool (decide (((Rat.divInt pa qa)).den = 1))), Fact.eq (.agg #[.bool sa1, .slice Aa1 na1 ca1, .bool sa2, .slice Aa2 na2 ca2]), Fact.eq (.bool (decide (((Rat.divInt pa qa)).den = 1))), Fact.eq (.bool true), Fact.eq (.bool true), Fact.eq (.bool true), Fact.eq (.bool true), Fact.eq (.bool true), Fact.eq (.bool true)]
    [.val, .val, .val, .val, .val, .val, .val, .val, .val, .val, .val, .val, .val, .val, .val, .val, .val, .val, .val, .val, .val, .val, .val, .val, .val]
    (fun w' => IntA w' (.agg #[.bool sa1, .slice Aa1 na1 ca1]) (pa) 8 ∧ IntA w' (.agg #[.bool sa2, .slice Aa2 na2 ca2]) (qa) 8 ∧ IntA w' (.agg #[.bool sb1, .slice Ab1 nb1 cb1]) (pb) 8 ∧ IntA w' (.agg #[.bool sb2, .slice Ab2 nb2 cb2]) (qb) 8 ∧ Blk w' (w.heap.size) 26 #[.bool sa1, .slice Aa1 na1 ca1, .bool sa2, .slice Aa2 na2 ca2] ∧ Blk w' (w.heap.size + 1) 26 #[.bool sb1, .slice Ab1 nb1 cb1, .bool sb2, .slice Ab2 nb2 cb2] ∧ Below w.heap.size w w')
    (fun _ _ _ => True) [] (fun _ => 0) (by kernel_rfl)
    ⟨Fa1.out, Fa2.out, Fb1.out, Fb2.out, Pa.out, Pb.out, HB.out⟩
    (fun w1 w2 ⟨h0, h1, h2, h3, h4, h5, h6⟩ hb => ⟨h0.below hb, h1.below hb, h2.below hb, h3.below hb, h4.below hb, h5.below hb, bw_step h6 hb⟩)
    (fun w1 w2 g ⟨h0, h1, h2, h3, h4, h5, h6⟩ hg hn ho => by
      have hg' : W1.heap.size ≤ g := hg.elim id (fun ⟨_, h, _⟩ => absurd h (Nat.not_lt_zero _))
      exact ⟨h0.only hn ho, h1.only hn ho, h2.only hn ho, h3.only hn ho, h4.only ho (by have := Pa.out.lt; have := Pb.out.lt; omega), h5.only ho (by have := Pa.out.lt; have := Pb.out.lt; omega), below_only h6 ho (by have := Pa.out.lt; have := Pb.out.lt; have := HB.out.size; omega)⟩)
    (fun l h => trivial) (fun l b w1 w2 h _ _ => trivial) (fun l b w1 w2 g h _ _ _ _ => trivial) (fun l h => by cases h) (fun l k h => by cases h) ?_ ?_
  · refine ⟨?_, ?_, ?_, ?_, ?_, ?_, ?_, ?_, ?_, ?_, ?_, ?_, ?_, ?_, ?_, ?_, ?_, ?_, ?_, ?_, ?_, ?_, ?_, ?_, ?_, trivial⟩ <;> intro L V a1 w1 hf hG hsz hφ hψ hL hdep hcl
    · obtain ⟨Fa1_, Fa2_, Fb1_, Fb2_, Pa_, Pb_, HB_⟩ := hG
      refine og_none rfl ?_
      have e2 := old_slot hf 2 (by kernel_rfl)
      exact ob_pure (ex_loadR rfl e2 Pa_) rfl
    · obtain ⟨Fa1_, Fa2_, Fb1_, Fb2_, Pa_, Pb_, HB_⟩ := hG
      refine og_none rfl ?_
      have d0 := dep_of hdep 0 (by kernel_rfl)
      have e10 := (new_slot hf 0 10 d0 (by kernel_rfl)).trans (show V 0 = .agg #[.bool sa1, .slice Aa1 na1 ca1, .bool sa2, .slice Aa2 na2 ca2] from hφ 0 d0)
      refine ob_go rfl (vs := #[.agg #[.bool sa1, .slice Aa1 na1 ca1, .bool sa2, .slice Aa2 na2 ca2]]) (by simp only [List.map_toArray, List.map_cons, List.map_nil, e10]) (by kernel_rfl) (signR_any _ _ (Rat.divInt pa qa) 8 (RatA.of (Pair.mk (a := .A pa 8) (b := .A qa 8) Fa1_ Fa2_)) (by omega) (by omega)) ?_
      rintro e w2 ⟨he, hb⟩
      exact ⟨_, he, hb, rfl⟩
    · obtain ⟨Fa1_, Fa2_, Fb1_, Fb2_, Pa_, Pb_, HB_⟩ := hG
      refine og_none rfl ?_
      have e2 := old_slot hf 2 (by kernel_rfl)
      exact ob_pure (ex_loadR rfl e2 Pa_) rfl
    · obtain ⟨Fa1_, Fa2_, Fb1_, Fb2_, Pa_, Pb_, HB_⟩ := hG
      refine og_none rfl ?_
      have d2 := dep_of hdep 2 (by kernel_rfl)
      have e12 := (new_slot hf 2 12 d2 (by kernel_rfl)).trans (show V 2 = .agg #[.bool sa1, .slice Aa1 na1 ca1, .bool sa2, .slice Aa2 na2 ca2] from hφ 2 d2)
      refine ob_go rfl (vs := #[.agg #[.bool sa1, .slice Aa1 na1 ca1, .bool sa2, .slice Aa2 na2 ca2]]) (by simp only [List.map_toArray, List.map_cons, List.map_nil, e12]) (by kernel_rfl) (rsignR_any _ _ (Rat.divInt pa qa) 8 (RatA.of (Pair.mk (a := .A pa 8) (b := .A qa 8) Fa1_ Fa2_)) (by omega) (by omega)) ?_
      rintro e w2 ⟨he, hb⟩
      exact ⟨_, he, hb, rfl⟩
    · obtain ⟨Fa1_, Fa2_, Fb1_, Fb2_, Pa_, Pb_, HB_⟩ := hG
      refine og_none rfl ?_
      have d1 := dep_of hdep 1 (by kernel_rfl)
      have e11 := (new_slot hf 1 11 d1 (by kernel_rfl)).trans (show V 1 = .int .i64 (cm ((Rat.divInt pa qa)).num 0) from hφ 1 d1)
      have d3 := dep_of hdep 3 (by kernel_rfl)
      have e13 := (new_slot hf 3 13 d3 (by kernel_rfl)).trans (show V 3 = .int .i64 (cm ((Rat.divInt pa qa)).num 0) from hφ 3 d3)
      exact ob_pure (ex_eql_int rfl e11 e13) (show Value.bool ((cm ((Rat.divInt pa qa)).num 0) == (cm ((Rat.divInt pa qa)).num 0)) = Value.bool true from by simp)
    · obtain ⟨Fa1_, Fa2_, Fb1_, Fb2_, Pa_, Pb_, HB_⟩ := hG
      refine og_none rfl ?_
      have d4 := dep_of hdep 4 (by kernel_rfl)
      have e14 := (new_slot hf 4 14 d4 (by kernel_rfl)).trans (show V 4 = .bool true from hφ 4 d4)
      exact ob_pure (v := .bool true) (ex_moveV rfl e14) rfl
    · obtain ⟨Fa1_, Fa2_, Fb1_, Fb2_, Pa_, Pb_, HB_⟩ := hG
      have dg := dep_of hdep 5 (by kernel_rfl)
      refine og_want rfl (yielded_of hf (n := 34) (by kernel_rfl) rfl 5 15 dg (by kernel_rfl) (show V 5 = .bool true from hφ 5 dg)) ?_
      have e2 := old_slot hf 2 (by kernel_rfl)
      exact ob_pure (ex_loadR rfl e2 Pa_) rfl
    · obtain ⟨Fa1_, Fa2_, Fb1_, Fb2_, Pa_, Pb_, HB_⟩ := hG
      have dg := dep_of hdep 5 (by kernel_rfl)
      refine og_want rfl (yielded_of hf (n := 34) (by kernel_rfl) rfl 5 15 dg (by kernel_rfl) (show V 5 = .bool true from hφ 5 dg)) ?_
      have e3 := old_slot hf 3 (by kernel_rfl)
      exact ob_pure (ex_loadR rfl e3 Pb_) rfl
    · obtain ⟨Fa1_, Fa2_, Fb1_, Fb2_, Pa_, Pb_, HB_⟩ := hG
      have dg := dep_of hdep 5 (by kernel_rfl)
      refine og_want rfl (yielded_of hf (n := 34) (by kernel_rfl) rfl 5 15 dg (by kernel_rfl) (show V 5 = .bool true from hφ 5 dg)) ?_
      have d6 := dep_of hdep 6 (by kernel_rfl)
      have e16 := (new_slot hf 6 16 d6 (by kernel_rfl)).trans (show V 6 = .agg #[.bool sa1, .slice Aa1 na1 ca1, .bool sa2, .slice Aa2 na2 ca2] from hφ 6 d6)
      have d7 := dep_of hdep 7 (by kernel_rfl)
      have e17 := (new_slot hf 7 17 d7 (by kernel_rfl)).trans (show V 7 = .agg #[.bool sb1, .slice Ab1 nb1 cb1, .bool sb2, .slice Ab2 nb2 cb2] from hφ 7 d7)
      refine ob_go rfl (vs := #[.agg #[.bool sa1, .slice Aa1 na1 ca1, .bool sa2, .slice Aa2 na2 ca2], .agg #[.bool sb1, .slice Ab1 nb1 cb1, .bool sb2, .slice Ab2 nb2 cb2]]) (by simp only [List.map_toArray, List.map_cons, List.map_nil, e16, e17]) (by kernel_rfl) (cmpR_any _ _ _ (Rat.divInt pa qa) (Rat.divInt pb qb) 8 (RatA.of (Pair.mk (a := .A pa 8) (b := .A qa 8) Fa1_ Fa2_)) (RatA.of (Pair.mk (a := .A pb 8) (b := .A qb 8) Fb1_ Fb2_)) (by omega) (by omega)) ?_
      rintro e w2 ⟨he, hb⟩
      exact ⟨_, he, hb, rfl⟩
    · obtain ⟨Fa1_, Fa2_, Fb1_, Fb2_, Pa_, Pb_, HB_⟩ := hG
      have dg := dep_of hdep 5 (by kernel_rfl)
      refine og_want rfl (yielded_of hf (n := 34) (by kernel_rfl) rfl 5 15 dg (by kernel_rfl) (show V 5 = .bool true from hφ 5 dg)) ?_
      have e2 := old_slot hf 2 (by kernel_rfl)
      exact ob_pure (ex_loadR rfl e2 Pa_) rfl
    · obtain ⟨Fa1_, Fa2_, Fb1_, Fb2_, Pa_, Pb_, HB_⟩ := hG
      have dg := dep_of hdep 5 (by kernel_rfl)
      refine og_want rfl (yielded_of hf (n := 34) (by kernel_rfl) rfl 5 15 dg (by kernel_rfl) (show V 5 = .bool true from hφ 5 dg)) ?_
      have e3 := old_slot hf 3 (by kernel_rfl)
      exact ob_pure (ex_loadR rfl e3 Pb_) rfl
    · obtain ⟨Fa1_, Fa2_, Fb1_, Fb2_, Pa_, Pb_, HB_⟩ := hG
      have dg := dep_of hdep 5 (by kernel_rfl)
      refine og_want rfl (yielded_of hf (n := 34) (by kernel_rfl) rfl 5 15 dg (by kernel_rfl) (show V 5 = .bool true from hφ 5 dg)) ?_
      have d9 := dep_of hdep 9 (by kernel_rfl)
      have e19 := (new_slot hf 9 19 d9 (by kernel_rfl)).trans (show V 9 = .agg #[.bool sa1, .slice Aa1 na1 ca1, .bool sa2, .slice Aa2 na2 ca2] from hφ 9 d9)
      have d10 := dep_of hdep 10 (by kernel_rfl)
      have e20 := (new_slot hf 10 20 d10 (by kernel_rfl)).trans (show V 10 = .agg #[.bool sb1, .slice Ab1 nb1 cb1, .bool sb2, .slice Ab2 nb2 cb2] from hφ 10 d10)
      refine ob_go rfl (vs := #[.agg #[.bool sa1, .slice Aa1 na1 ca1, .bool sa2, .slice Aa2 na2 ca2], .agg #[.bool sb1, .slice Ab1 nb1 cb1, .bool sb2, .slice Ab2 nb2 cb2]]) (by simp only [List.map_toArray, List.map_cons, List.map_nil, e19, e20]) (by kernel_rfl) (rcmpR_any _ _ _ (Rat.divInt pa qa) (Rat.divInt pb qb) 8 (RatA.of (Pair.mk (a := .A pa 8) (b := .A qa 8) Fa1_ Fa2_)) (RatA.of (Pair.mk (a := .A pb 8) (b := .A qb 8) Fb1_ Fb2_)) (by omega) (by omega)) ?_
      rintro e w2 ⟨he, hb⟩
      exact ⟨_, he, hb, rfl⟩
    · obtain ⟨Fa1_, Fa2_, Fb1_, Fb2_, Pa_, Pb_, HB_⟩ := hG
      have dg := dep_of hdep 5 (by kernel_rfl)
      refine og_want rfl (yielded_of hf (n := 34) (by kernel_rfl) rfl 5 15 dg (by kernel_rfl) (show V 5 = .bool true from hφ 5 dg)) ?_
      have d8 := dep_of hdep 8 (by kernel_rfl)
      have e18 := (new_slot hf 8 18 d8 (by kernel_rfl)).trans (show V 8 = .int .i64 (cm ((Rat.divInt pa qa) - (Rat.divInt pb qb)).num 0) from hφ 8 d8)
      have d11 := dep_of hdep 11 (by kernel_rfl)
      have e21 := (new_slot hf 11 21 d11 (by kernel_rfl)).trans (show V 11 = .int .i64 (cm ((Rat.divInt pa qa) - (Rat.divInt pb qb)).num 0) from hφ 11 d11)
      exact ob_pure (ex_eql_int rfl e18 e21) (show Value.bool ((cm ((Rat.divInt pa qa) - (Rat.divInt pb qb)).num 0) == (cm ((Rat.divInt pa qa) - (Rat.divInt pb qb)).num 0)) = Value.bool true from by simp)
    · obtain ⟨Fa1_, Fa2_, Fb1_, Fb2_, Pa_, Pb_, HB_⟩ := hG
      refine og_none rfl ?_
      have d5 := dep_of hdep 5 (by kernel_rfl)
      have e15 := (new_slot hf 5 15 d5 (by kernel_rfl)).trans (show V 5 = .bool true from hφ 5 d5)
      have d12 := dep_of hdep 12 (by kernel_rfl)
      have e22 := (new_slot hf 12 22 d12 (by kernel_rfl)).trans (show V 12 = .bool true from hφ 12 d12)
      exact ob_pure (v := .bool true) (ex_pick_true rfl e15 e22) rfl
    · obtain ⟨Fa1_, Fa2_, Fb1_, Fb2_, Pa_, Pb_, HB_⟩ := hG
      refine og_none rfl ?_
      have d13 := dep_of hdep 13 (by kernel_rfl)
      have e23 := (new_slot hf 13 23 d13 (by kernel_rfl)).trans (show V 13 = .bool true from hφ 13 d13)
      exact ob_pure (v := .bool true) (ex_moveV rfl e23) rfl
    · obtain ⟨Fa1_, Fa2_, Fb1_, Fb2_, Pa_, Pb_, HB_⟩ := hG
      have dg := dep_of hdep 14 (by kernel_rfl)
      refine og_want rfl (yielded_of hf (n := 34) (by kernel_rfl) rfl 14 24 dg (by kernel_rfl) (show V 14 = .bool true from hφ 14 dg)) ?_
      have e2 := old_slot hf 2 (by kernel_rfl)
      exact ob_pure (ex_loadR rfl e2 Pa_) rfl
    · obtain ⟨Fa1_, Fa2_, Fb1_, Fb2_, Pa_, Pb_, HB_⟩ := hG
      have dg := dep_of hdep 14 (by kernel_rfl)
      refine og_want rfl (yielded_of hf (n := 34) (by kernel_rfl) rfl 14 24 dg (by kernel_rfl) (show V 14 = .bool true from hφ 14 dg)) ?_
      have d15 := dep_of hdep 15 (by kernel_rfl)
      have e25 := (new_slot hf 15 25 d15 (by kernel_rfl)).trans (show V 15 = .agg #[.bool sa1, .slice Aa1 na1 ca1, .bool sa2, .slice Aa2 na2 ca2] from hφ 15 d15)
      refine ob_go rfl (vs := #[.agg #[.bool sa1, .slice Aa1 na1 ca1, .bool sa2, .slice Aa2 na2 ca2]]) (by simp only [List.map_toArray, List.map_cons, List.map_nil, e25]) (by kernel_rfl) (isWholeR_any _ _ (Rat.divInt pa qa) 8 (RatA.of (Pair.mk (a := .A pa 8) (b := .A qa 8) Fa1_ Fa2_)) (by omega) (by omega)) ?_
      rintro e w2 ⟨he, hb⟩
      exact ⟨_, he, hb, rfl⟩
    · obtain ⟨Fa1_, Fa2_, Fb1_, Fb2_, Pa_, Pb_, HB_⟩ := hG
      have dg := dep_of hdep 14 (by kernel_rfl)
      refine og_want rfl (yielded_of hf (n := 34) (by kernel_rfl) rfl 14 24 dg (by kernel_rfl) (show V 14 = .bool true from hφ 14 dg)) ?_
      have e2 := old_slot hf 2 (by kernel_rfl)
      exact ob_pure (ex_loadR rfl e2 Pa_) rfl
    · obtain ⟨Fa1_, Fa2_, Fb1_, Fb2_, Pa_, Pb_, HB_⟩ := hG
      have dg := dep_of hdep 14 (by kernel_rfl)
      refine og_want rfl (yielded_of hf (n := 34) (by kernel_rfl) rfl 14 24 dg (by kernel_rfl) (show V 14 = .bool true from hφ 14 dg)) ?_
      have d17 := dep_of hdep 17 (by kernel_rfl)
      have e27 := (new_slot hf 17 27 d17 (by kernel_rfl)).trans (show V 17 = .agg #[.bool sa1, .slice Aa1 na1 ca1, .bool sa2, .slice Aa2 na2 ca2] from hφ 17 d17)
      refine ob_go rfl (vs := #[.agg #[.bool sa1, .slice Aa1 na1 ca1, .bool sa2, .slice Aa2 na2 ca2]]) (by simp only [List.map_toArray, List.map_cons, List.map_nil, e27]) (by kernel_rfl) (risWholeR_any _ _ (Rat.divInt pa qa) 8 (RatA.of (Pair.mk (a := .A pa 8) (b := .A qa 8) Fa1_ Fa2_)) (by omega) (by omega)) ?_
      rintro e w2 ⟨he, hb⟩
      exact ⟨_, he, hb, rfl⟩
    · obtain ⟨Fa1_, Fa2_, Fb1_, Fb2_, Pa_, Pb_, HB_⟩ := hG
      have dg := dep_of hdep 14 (by kernel_rfl)
      refine og_want rfl (yielded_of hf (n := 34) (by kernel_rfl) rfl 14 24 dg (by kernel_rfl) (show V 14 = .bool true from hφ 14 dg)) ?_
      have d16 := dep_of hdep 16 (by kernel_rfl)
      have e26 := (new_slot hf 16 26 d16 (by kernel_rfl)).trans (show V 16 = .bool (decide (((Rat.divInt pa qa)).den = 1)) from hφ 16 d16)
      have d18 := dep_of hdep 18 (by kernel_rfl)
      have e28 := (new_slot hf 18 28 d18 (by kernel_rfl)).trans (show V 18 = .bool (decide (((Rat.divInt pa qa)).den = 1)) from hφ 18 d18)
      exact ob_pure (ex_eql_bool rfl e26 e28) (show Value.bool ((decide (((Rat.divInt pa qa)).den = 1)) == (decide (((Rat.divInt pa qa)).den = 1))) = Value.bool true from by simp)
    · obtain ⟨Fa1_, Fa2_, Fb1_, Fb2_, Pa_, Pb_, HB_⟩ := hG
      refine og_none rfl ?_
      have d14 := dep_of hdep 14 (by kernel_rfl)
      have e24 := (new_slot hf 14 24 d14 (by kernel_rfl)).trans (show V 14 = .bool true from hφ 14 d14)
      have d19 := dep_of hdep 19 (by kernel_rfl)
      have e29 := (new_slot hf 19 29 d19 (by kernel_rfl)).trans (show V 19 = .bool true from hφ 19 d19)
      exact ob_pure (v := .bool true) (ex_pick_true rfl e24 e29) rfl
    · obtain ⟨Fa1_, Fa2_, Fb1_, Fb2_, Pa_, Pb_, HB_⟩ := hG
      refine og_none rfl ?_
      have d20 := dep_of hdep 20 (by kernel_rfl)
      have e30 := (new_slot hf 20 30 d20 (by kernel_rfl)).trans (show V 20 = .bool true from hφ 20 d20)
      exact ob_pure (v := .bool true) (ex_moveV rfl e30) rfl
    · obtain ⟨Fa1_, Fa2_, Fb1_, Fb2_, Pa_, Pb_, HB_⟩ := hG
      have dg := dep_of hdep 21 (by kernel_rfl)
      refine og_want rfl (yielded_of hf (n := 34) (by kernel_rfl) rfl 21 31 dg (by kernel_rfl) (show V 21 = .bool true from hφ 21 dg)) ?_
      refine ob_go rfl (vs := #[]) (by simp only [List.map_toArray, List.map_nil]) (by kernel_rfl) (awakeR_any _) ?_
      rintro e w2 ⟨he, hb⟩
      exact ⟨_, he, hb, rfl⟩
    · obtain ⟨Fa1_, Fa2_, Fb1_, Fb2_, Pa_, Pb_, HB_⟩ := hG
      refine og_none rfl ?_
      have d21 := dep_of hdep 21 (by kernel_rfl)
      have e31 := (new_slot hf 21 31 d21 (by kernel_rfl)).trans (show V 21 = .bool true from hφ 21 d21)
      have d22 := dep_of hdep 22 (by kernel_rfl)
      have e32 := (new_slot hf 22 32 d22 (by kernel_rfl)).trans (show V 22 = .bool true from hφ 22 d22)
      exact ob_pure (v := .bool true) (ex_pick_true rfl e31 e32) rfl
    · obtain ⟨Fa1_, Fa2_, Fb1_, Fb2_, Pa_, Pb_, HB_⟩ := hG
      refine og_none rfl ?_
      have d23 := dep_of hdep 23 (by kernel_rfl)
      have e33 := (new_slot hf 23 33 d23 (by kernel_rfl)).trans (show V 23 = .bool true from hφ 23 d23)
      exact ob_pure (v := .bool true) (ex_assignV rfl e33) rfl
  · intro V W8 hG hsz8 hφ hψ hne
    have hlt8 : W1.heap.size ≤ W8.heap.size := hsz8
    obtain ⟨Fa1_, Fa2_, Fb1_, Fb2_, Pa_, Pb_, HB_⟩ := hG
    have Fa1 := hid Fa1_
    have Fa2 := hid Fa2_
    have Fb1 := hid Fb1_
    have Fb2 := hid Fb2_
    have Pa := hid Pa_
    have Pb := hid Pb_
    have HB := hid HB_
    have y0 : V 0 = .agg #[.bool sa1, .slice Aa1 na1 ca1, .bool sa2, .slice Aa2 na2 ca2] := hφ 0 (by decide)
    have y1 : V 1 = .int .i64 (cm ((Rat.divInt pa qa)).num 0) := hφ 1 (by decide)
    have y2 : V 2 = .agg #[.bool sa1, .slice Aa1 na1 ca1, .bool sa2, .slice Aa2 na2 ca2] := hφ 2 (by decide)
    have y3 : V 3 = .int .i64 (cm ((Rat.divInt pa qa)).num 0) := hφ 3 (by decide)
    have y4 : V 4 = .bool true := hφ 4 (by decide)
    have y5 : V 5 = .bool true := hφ 5 (by decide)
    have y6 : V 6 = .agg #[.bool sa1, .slice Aa1 na1 ca1, .bool sa2, .slice Aa2 na2 ca2] := hφ 6 (by decide)
    have y7 : V 7 = .agg #[.bool sb1, .slice Ab1 nb1 cb1, .bool sb2, .slice Ab2 nb2 cb2] := hφ 7 (by decide)
    have y8 : V 8 = .int .i64 (cm ((Rat.divInt pa qa) - (Rat.divInt pb qb)).num 0) := hφ 8 (by decide)
    have y9 : V 9 = .agg #[.bool sa1, .slice Aa1 na1 ca1, .bool sa2, .slice Aa2 na2 ca2] := hφ 9 (by decide)
    have y10 : V 10 = .agg #[.bool sb1, .slice Ab1 nb1 cb1, .bool sb2, .slice Ab2 nb2 cb2] := hφ 10 (by decide)
    have y11 : V 11 = .int .i64 (cm ((Rat.divInt pa qa) - (Rat.divInt pb qb)).num 0) := hφ 11 (by decide)
    have y12 : V 12 = .bool true := hφ 12 (by decide)
    have y13 : V 13 = .bool true := hφ 13 (by decide)
    have y14 : V 14 = .bool true := hφ 14 (by decide)
    have y15 : V 15 = .agg #[.bool sa1, .slice Aa1 na1 ca1, .bool sa2, .slice Aa2 na2 ca2] := hφ 15 (by decide)
    have y16 : V 16 = .bool (decide (((Rat.divInt pa qa)).den = 1)) := hφ 16 (by decide)
    have y17 : V 17 = .agg #[.bool sa1, .slice Aa1 na1 ca1, .bool sa2, .slice Aa2 na2 ca2] := hφ 17 (by decide)
    have y18 : V 18 = .bool (decide (((Rat.divInt pa qa)).den = 1)) := hφ 18 (by decide)
    have y19 : V 19 = .bool true := hφ 19 (by decide)
    have y20 : V 20 = .bool true := hφ 20 (by decide)
    have y21 : V 21 = .bool true := hφ 21 (by decide)
    have y22 : V 22 = .bool true := hφ 22 (by decide)
    have y23 : V 23 = .bool true := hφ 23 (by decide)
    have y24 : V 24 = .bool true := hφ 24 (by decide)
    simp only [puts, Act.put, List.setIfInBounds_toArray, List.set_cons_zero, List.set_cons_succ, y0, y1, y2, y3, y4, y5, y6, y7, y8, y9, y10, y11, y12, y13, y14, y15, y16, y17, y18, y19, y20, y21, y22, y23, y24]
    clear hφ hψ hne y0 y1 y2 y3 y4 y5 y6 y7 y8 y9 y10 y11 y12 y13 y14 y15 y16 y17 y18 y19 y20 y21 y22 y23 y24 Fa1_ Fa2_ Fb1_ Fb2_ Pa_ Pb_ HB_ hsz8
    go_wp2
    go_ret
    exact ⟨rfl, HB.out⟩
theorem rationalCompares_walk (w : World) (va : Value) (ha : ArgR w va) (vb : Value) (hb : ArgR w vb) :
    Calls Try.prog 14 #[va, vb] w fun e w' => e = .returned (.bool true) ∧ Below w.heap.size w w' := by
  obtain ⟨sa1, Aa1, na1, ca1, sa2, Aa2, na2, ca2, rfl, ka⟩ := ha.short
  obtain ⟨sb1, Ab1, nb1, cb1, sb2, Ab2, nb2, cb2, rfl, kb⟩ := hb.short
  rcases ka 8 (by decide) with ka | ⟨la1, la2, pa, qa, fa1, fa2⟩
  · exact rationalCompares_long w sa1 Aa1 na1 ca1 sa2 Aa2 na2 ca2 sb1 Ab1 nb1 cb1 sb2 Ab2 nb2 cb2 (by omega)
  rcases kb 8 (by decide) with kb | ⟨lb1, lb2, pb, qb, fb1, fb2⟩
  · exact rationalCompares_long w sa1 Aa1 na1 ca1 sa2 Aa2 na2 ca2 sb1 Ab1 nb1 cb1 sb2 Ab2 nb2 cb2 (by omega)
  exact rationalCompares_short w sa1 Aa1 na1 ca1 sa2 Aa2 na2 ca2 sb1 Ab1 nb1 cb1 sb2 Ab2 nb2 cb2 ⟨la1, la2⟩ pa qa fa1 fa2 ⟨lb1, lb2⟩ pb qb fb1 fb2
end Go.Proofs.Ytijmjkkjopplbaa

