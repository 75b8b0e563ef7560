/- A part of the proof of the laws of rationals: WRAdds. -/
import Derived.Test.YtklamiajcdkmnaaPae
import Derived.Test.YtklamiajcdkmnaaPam
import Derived.Test.YtklamiajcdkmnaaPaBc
import Derived.Test.YtklamiajcdkmnaaPaBd
import Derived.Test.YtklamiajcdkmnaaPaBb
import Derived.Test.YtklamiajcdkmnaaPbh
import Derived.Test.YtklamiajcdkmnaaPal
import Derived.Test.YtklamiajcdkmnaaPab
import Derived.Test.YtklamiajcdkmnaaPaf
import Derived.Test.YtklamiajcdkmnaaPad
import Derived.Test.YtklamiajcdkmnaaPbb
import Derived.Test.YtklamiajcdkmnaaPac
import Derived.Test.YtklamiajcdkmnaaPav
import Derived.Test.YtklamiajcdkmnaaPay
import Derived.Test.YtklamiajcdkmnaaPao
import Derived.Test.YtklamiajcdkmnaaPat
import Derived.Test.YtklamiajcdkmnaaPba
import Derived.Test.YtklamiajcdkmnaaPaa
import Derived.Test.YtklamiajcdkmnaaPan
import Derived.Test.YtklamiajcdkmnaaPai
import Derived.Test.YtklamiajcdkmnaaPah
import Derived.Test.YtklamiajcdkmnaaPag
import Derived.Test.YtklamiajcdkmnaaPaj
import Derived.Test.YtklamiajcdkmnaaPax
import Derived.Test.YtklamiajcdkmnaaPap
import Derived.Test.YtklamiajcdkmnaaPas
import Derived.Test.YtklamiajcdkmnaaPbf
import Derived.Test.YtklamiajcdkmnaaPbe
import Derived.Test.YtklamiajcdkmnaaPbg
import Derived.Test.YtklamiajcdkmnaaPbd
import Derived.Test.YtklamiajcdkmnaaPbj
import Derived.Test.YtklamiajcdkmnaaPau
import Derived.Test.YtklamiajcdkmnaaPbi
import Derived.Test.YtklamiajcdkmnaaPar
import Derived.Test.YtklamiajcdkmnaaPkRationalAddsb
import Derived.Test.YtklamiajcdkmnaaPaw
import Derived.Test.YtklamiajcdkmnaaPbk
import Derived.Test.YtklamiajcdkmnaaPbc
import Derived.Test.YtklamiajcdkmnaaPaBa
import Derived.Test.YtklamiajcdkmnaaPaq
import Derived.Test.YtklamiajcdkmnaaPkRationalAddse
import Derived.Test.YtklamiajcdkmnaaPkRationalAddsa
import Derived.Test.YtklamiajcdkmnaaPbl
import Derived.Test.YtklamiajcdkmnaaPkRationalAddsc
import Derived.Test.YtklamiajcdkmnaaPak
import Derived.Test.YtklamiajcdkmnaaPaz
namespace Go.Proofs.Ytklamiajcdkmnaa
open Go.RowKit
set_option linter.unusedVariables false
set_option maxRecDepth 100000

set_option maxHeartbeats 4000000 in
theorem rationalAdds_long (w : World) (sa1 : Bool) (Aa1 : Option Addr) (na1 ca1 : Nat) (sa2 : Bool) (Aa2 : Option Addr) (na2 ca2 : Nat) (sb1 : Bool) (Ab1 : Option Addr) (nb1 cb1 : Nat) (sb2 : Bool) (Ab2 : Option Addr) (nb2 cb2 : Nat) (hl : 8 < na1 ∨ 8 < na2 ∨ 8 < nb1 ∨ 8 < nb2) :
    Calls Try.prog 3 #[.agg #[.bool sa1, .slice Aa1 na1 ca1, .bool sa2, .slice Aa2 na2 ca2], .agg #[.bool sb1, .slice Ab1 nb1 cb1, .bool sb2, .slice Ab2 nb2 cb2]] w fun e w' => e = .returned (.bool true) ∧ Below w.heap.size w w' := by
  have HL := hid hl
  clear hl
  have HB := hid (Below.refl w.heap.size w)
  obtain ⟨W, hW⟩ : ∃ W, W = ((w.alloc (.cells #[.bool sa1, .slice Aa1 na1 ca1, .bool sa2, .slice Aa2 na2 ca2] 26)).alloc (.cells #[.bool sb1, .slice Ab1 nb1 cb1, .bool sb2, .slice Ab2 nb2 cb2] 26)) := ⟨_, rfl⟩
  have hbb : Below w.heap.size w W := by rw [hW]; exact (bw_alloc (bw_alloc (Below.refl _ _) _) _)
  have HB := hid (bw_step HB.out hbb)
  have Pa : Hid (Blk W (w.heap.size) 26 #[.bool sa1, .slice Aa1 na1 ca1, .bool sa2, .slice Aa2 na2 ca2]) := by
    rw [hW]
    have := (Blk.new w 26 #[.bool sa1, .slice Aa1 na1 ca1, .bool sa2, .slice Aa2 na2 ca2]).below (bw_alloc (Below.refl _ _) (.cells #[.bool sb1, .slice Ab1 nb1 cb1, .bool sb2, .slice Ab2 nb2 cb2] 26))
    exact hid (by simpa only [World.size_alloc] using this)
  have Pb : Hid (Blk W (w.heap.size + 1) 26 #[.bool sb1, .slice Ab1 nb1 cb1, .bool sb2, .slice Ab2 nb2 cb2]) := by
    rw [hW]
    have := Blk.new (w.alloc (.cells #[.bool sa1, .slice Aa1 na1 ca1, .bool sa2, .slice Aa2 na2 ca2] 26)) 26 #[.bool sb1, .slice Ab1 nb1 cb1, .bool sb2, .slice Ab2 nb2 cb2]
    exact hid (by simpa only [World.size_alloc] using this)
  clear hbb
  have HWs := hid (show W.heap.size = w.heap.size + 1 + 1 by rw [hW]; simp)
  have ua0 := Pa.out.cell 0
  have ua1 := Pa.out.cell 1
  have ua2 := Pa.out.cell 2
  have ua3 := Pa.out.cell 3
  have ub0 := Pb.out.cell 0
  have ub1 := Pb.out.cell 1
  have ub2 := Pb.out.cell 2
  have ub3 := Pb.out.cell 3
  go_enter Try.func3, Try.ntmps3
  go_wp2_with fail
  rw [← hW]
  clear hW
  have hbb := bw_alloc (Below.refl _ W) (.cells #[.bool sa1, .slice Aa1 na1 ca1, .bool sa2, .slice Aa2 na2 ca2, .bool sb1, .slice Ab1 nb1 cb1, .bool sb2, .slice Ab2 nb2 cb2] 26)
  have XL := Blk.new W 26 #[.bool sa1, .slice Aa1 na1 ca1, .bool sa2, .slice Aa2 na2 ca2, .bool sb1, .slice Ab1 nb1 cb1, .bool sb2, .slice Ab2 nb2 cb2]
  rw [HWs.out] at XL
  have HB := hid (bw_step HB.out hbb)
  have Pa := hid (Pa.out.below hbb)
  have Pb := hid (Pb.out.below hbb)
  clear hbb
  refine (long2 _ _ sa1 Aa1 na1 ca1 sa2 Aa2 na2 ca2 sb1 Ab1 nb1 cb1 sb2 Ab2 nb2 cb2 XL true ⟨fun _ => HL.out, fun _ => rfl⟩).mono ?_
  rintro e W1 ⟨rfl, hb1⟩
  clear XL
  have HB := hid (bw_step HB.out hb1)
  have Pa := hid (Pa.out.below hb1)
  have Pb := hid (Pb.out.below hb1)
  clear hb1
  clear ua0 ua1 ua2 ua3 ub0 ub1 ub2 ub3
  go_wp2_with fail
  refine (awakeR_any _).mono ?_
  rintro e W2 ⟨rfl, hb2⟩
  have HB := hid (bw_step HB.out hb2)
  have Pa := hid (Pa.out.below hb2)
  have Pb := hid (Pb.out.below hb2)
  clear hb2
  go_wp2
  go_ret
  exact ⟨rfl, HB.out⟩
set_option maxHeartbeats 8000000 in
theorem rationalAdds_short (w : World) (sa1 : Bool) (Aa1 : Option Addr) (na1 ca1 : Nat) (sa2 : Bool) (Aa2 : Option Addr) (na2 ca2 : Nat) (sb1 : Bool) (Ab1 : Option Addr) (nb1 cb1 : Nat) (sb2 : Bool) (Ab2 : Option Addr) (nb2 cb2 : Nat) (laa : na1 ≤ 8 ∧ na2 ≤ 8) (pa qa : Int) (fa1 : IntA w (.agg #[.bool sa1, .slice Aa1 na1 ca1]) pa 8) (fa2 : IntA w (.agg #[.bool sa2, .slice Aa2 na2 ca2]) qa 8) (lab : nb1 ≤ 8 ∧ nb2 ≤ 8) (pb qb : Int) (fb1 : IntA w (.agg #[.bool sb1, .slice Ab1 nb1 cb1]) pb 8) (fb2 : IntA w (.agg #[.bool sb2, .slice Ab2 nb2 cb2]) qb 8) :
    Calls Try.prog 3 #[.agg #[.bool sa1, .slice Aa1 na1 ca1, .bool sa2, .slice Aa2 na2 ca2], .agg #[.bool sb1, .slice Ab1 nb1 cb1, .bool sb2, .slice Ab2 nb2 cb2]] w fun e w' => e = .returned (.bool true) ∧ Below w.heap.size w w' := by
  have LAb := hid lab
  clear lab
  have LAa := hid laa
  clear laa
  have Fa1 := hid fa1
  have Sa1 := hid fa1.sm
  have Fa2 := hid fa2
  have Sa2 := hid fa2.sm
  clear fa1 fa2
  have Fb1 := hid fb1
  have Sb1 := hid fb1.sm
  have Fb2 := hid fb2
  have Sb2 := hid fb2.sm
  clear fb1 fb2
  have HB := hid (Below.refl w.heap.size w)
  obtain ⟨W, hW⟩ : ∃ W, W = ((w.alloc (.cells #[.bool sa1, .slice Aa1 na1 ca1, .bool sa2, .slice Aa2 na2 ca2] 26)).alloc (.cells #[.bool sb1, .slice Ab1 nb1 cb1, .bool sb2, .slice Ab2 nb2 cb2] 26)) := ⟨_, rfl⟩
  have hbb : Below w.heap.size w W := by rw [hW]; exact (bw_alloc (bw_alloc (Below.refl _ _) _) _)
  have HB := hid (bw_step HB.out hbb)
  have Fa1 := hid (Fa1.out.below hbb)
  have Fa2 := hid (Fa2.out.below hbb)
  have Fb1 := hid (Fb1.out.below hbb)
  have Fb2 := hid (Fb2.out.below hbb)
  have Pa : Hid (Blk W (w.heap.size) 26 #[.bool sa1, .slice Aa1 na1 ca1, .bool sa2, .slice Aa2 na2 ca2]) := by
    rw [hW]
    have := (Blk.new w 26 #[.bool sa1, .slice Aa1 na1 ca1, .bool sa2, .slice Aa2 na2 ca2]).below (bw_alloc (Below.refl _ _) (.cells #[.bool sb1, .slice Ab1 nb1 cb1, .bool sb2, .slice Ab2 nb2 cb2] 26))
    exact hid (by simpa only [World.size_alloc] using this)
  have Pb : Hid (Blk W (w.heap.size + 1) 26 #[.bool sb1, .slice Ab1 nb1 cb1, .bool sb2, .slice Ab2 nb2 cb2]) := by
    rw [hW]
    have := Blk.new (w.alloc (.cells #[.bool sa1, .slice Aa1 na1 ca1, .bool sa2, .slice Aa2 na2 ca2] 26)) 26 #[.bool sb1, .slice Ab1 nb1 cb1, .bool sb2, .slice Ab2 nb2 cb2]
    exact hid (by simpa only [World.size_alloc] using this)
  clear hbb
  have HWs := hid (show W.heap.size = w.heap.size + 1 + 1 by rw [hW]; simp)
  have ua0 := Pa.out.cell 0
  have ua1 := Pa.out.cell 1
  have ua2 := Pa.out.cell 2
  have ua3 := Pa.out.cell 3
  have ub0 := Pb.out.cell 0
  have ub1 := Pb.out.cell 1
  have ub2 := Pb.out.cell 2
  have ub3 := Pb.out.cell 3
  go_enter Try.func3, Try.ntmps3
  go_wp2_with fail
  rw [← hW]
  clear hW
  have hbb := bw_alloc (Below.refl _ W) (.cells #[.bool sa1, .slice Aa1 na1 ca1, .bool sa2, .slice Aa2 na2 ca2, .bool sb1, .slice Ab1 nb1 cb1, .bool sb2, .slice Ab2 nb2 cb2] 26)
  have XL := Blk.new W 26 #[.bool sa1, .slice Aa1 na1 ca1, .bool sa2, .slice Aa2 na2 ca2, .bool sb1, .slice Ab1 nb1 cb1, .bool sb2, .slice Ab2 nb2 cb2]
  rw [HWs.out] at XL
  have HB := hid (bw_step HB.out hbb)
  have Fa1 := hid (Fa1.out.below hbb)
  have Fa2 := hid (Fa2.out.below hbb)
  have Fb1 := hid (Fb1.out.below hbb)
  have Fb2 := hid (Fb2.out.below hbb)
  have Pa := hid (Pa.out.below hbb)
  have Pb := hid (Pb.out.below hbb)
  clear hbb
  refine (long2 _ _ sa1 Aa1 na1 ca1 sa2 Aa2 na2 ca2 sb1 Ab1 nb1 cb1 sb2 Ab2 nb2 cb2 XL false ⟨fun h => absurd h (by decide), fun h => by have := LAa.out; have := LAb.out; omega⟩).mono ?_
  rintro e W1 ⟨rfl, hb1⟩
  clear XL
  have HB := hid (bw_step HB.out hb1)
  have Fa1 := hid (Fa1.out.below hb1)
  have Fa2 := hid (Fa2.out.below hb1)
  have Fb1 := hid (Fb1.out.below hb1)
  have Fb2 := hid (Fb2.out.below hb1)
  have Pa := hid (Pa.out.below hb1)
  have Pb := hid (Pb.out.below hb1)
  clear hb1
  clear ua0 ua1 ua2 ua3 ub0 ub1 ub2 ub3
  go_wp2_with fail
  have RS2 : Hid (RS 17 ((Rat.divInt pa qa) + (Rat.divInt pb qb))) := hid ((RS.of (Sa1.out) (Sa2.out) (by omega)).add (RS.of (Sb1.out) (Sb2.out) (by omega)) (by omega))
  have RS3 : Hid (RS 17 ((Rat.divInt pa qa) + (Rat.divInt pb qb))) := hid ((RS.of (Sa1.out) (Sa2.out) (by omega)).add (RS.of (Sb1.out) (Sb2.out) (by omega)) (by omega))
  have RS4 : Hid (RS 17 ((Rat.divInt pa qa) - (Rat.divInt pb qb))) := hid ((RS.of (Sa1.out) (Sa2.out) (by omega)).sub (RS.of (Sb1.out) (Sb2.out) (by omega)) (by omega))
  have RS5 : Hid (RS 17 ((Rat.divInt pa qa) - (Rat.divInt pb qb))) := hid ((RS.of (Sa1.out) (Sa2.out) (by omega)).sub (RS.of (Sb1.out) (Sb2.out) (by omega)) (by omega))
  have RS6 : Hid (RS 8 (-(Rat.divInt pa qa))) := hid ((RS.of (Sa1.out) (Sa2.out) (by omega)).neg)
  have RS7 : Hid (RS 8 (-(Rat.divInt pa qa))) := hid ((RS.of (Sa1.out) (Sa2.out) (by omega)).neg)
  refine wp_region_eachG (by kernel_rfl) 27 36 rfl rfl (by kernel_rfl)
    [Fact.eq (.agg #[.bool sa1, .slice Aa1 na1 ca1, .bool sa2, .slice Aa2 na2 ca2]), Fact.eq (.agg #[.bool sb1, .slice Ab1 nb1 cb1, .bool sb2, .slice Ab2 nb2 cb2]), Fact.pair (.V (((Rat.divInt pa qa) + (Rat.divInt pb qb))).num) (.V ((((Rat.divInt pa qa) + (Rat.divInt pb qb))).den : Int)), Fact.eq (.agg #[.bool sa1, .slice Aa1 na1 ca1, .bool sa2, .slice Aa2 na2 ca2]), Fact.eq (.agg #[.bool sb1, .slice Ab1 nb1 cb1, .bool sb2, .slice Ab2 nb2 cb2]), Fact.pair (.V (((Rat.divInt pa qa) + (Rat.divInt pb qb))).num) (.V ((((Rat.divInt pa qa) + (Rat.divInt pb qb))).den : Int)), Fact.eq (.bool true), Fact.eq (.bool true), Fact.eq (.agg #[.bool sa1, .slice Aa1 na1 ca1, .bool sa2, .slice Aa2 na2 ca2]), Fact.eq (.agg #[.bool sb1, .slice Ab1 nb1 cb1, .bool sb2, .slice Ab2 nb2 cb2]), Fact.pair (.V (((Rat.divInt pa qa) - (Rat.divInt pb qb))).num) (.V ((((Rat.divInt pa qa) - (Rat.divInt pb qb))).den : Int)), Fact.eq (.agg #[.bool sa1, .slice Aa1 na1 ca1, .bool sa2, .slice Aa2 na2 ca2]), Fact.eq (.agg #[.bool sb1, .slice Ab1 nb1 cb1, .bool sb2, .slice Ab2 nb2 cb2]), Fact.pair (.V (((Rat.divInt pa qa) - (Rat.divInt pb qb))).num) (.V ((((Rat.divInt pa qa) - (Rat.divInt pb qb))).den : Int)), Fact.eq (.bool true), Fact.eq (.bool true), Fact.eq (.bool true), Fact.eq (.agg #[.bool sa1, .slice Aa1 na1 ca1, .bool sa2, .slice Aa2 na2 ca2]), Fact.pair (.V ((-(Rat.divInt pa qa))).num) (.V (((-(Rat.divInt pa qa))).den : Int)), Fact.eq (.agg #[.bool sa1, .slice Aa1 na1 ca1, .bool sa2, .slice Aa2 na2 ca2]), Fact.pair (.V ((-(Rat.divInt pa qa))).num) (.V (((-(Rat.divInt pa qa))).den : Int)), Fact.eq (.bool true), Fact.eq (.bool true), Fact.eq (.bool true), Fact.eq (.bool true), Fact.eq (.bool true), Fact.eq (.bool true)]
    [.val, .val, .val, .val, .val, .val, .val, .val, .val, .val, .val, .val, .val, .val, .val, .val, .val, .val, .val, .val, .val, .val, .val, .val, .val, .val, .val]
    (fun w' => IntA w' (.agg #[.bool sa1, .slice Aa1 na1 ca1]) (pa) 8 ∧ IntA w' (.agg #[.bool sa2, .slice Aa2 na2 ca2]) (qa) 8 ∧ IntA w' (.agg #[.bool sb1, .slice Ab1 nb1 cb1]) (pb) 8 ∧ IntA w' (.agg #[.bool sb2, .slice Ab2 nb2 cb2]) (qb) 8 ∧ Blk w' (w.heap.size) 26 #[.bool sa1, .slice Aa1 na1 ca1, .bool sa2, .slice Aa2 na2 ca2] ∧ Blk w' (w.heap.size + 1) 26 #[.bool sb1, .slice Ab1 nb1 cb1, .bool sb2, .slice Ab2 nb2 cb2] ∧ Below w.heap.size w w')
    (fun _ _ _ => True) [] (fun _ => 0) (by kernel_rfl)
    ⟨Fa1.out, Fa2.out, Fb1.out, Fb2.out, Pa.out, Pb.out, HB.out⟩
    (fun w1 w2 ⟨h0, h1, h2, h3, h4, h5, h6⟩ hb => ⟨h0.below hb, h1.below hb, h2.below hb, h3.below hb, h4.below hb, h5.below hb, bw_step h6 hb⟩)
    (fun w1 w2 g ⟨h0, h1, h2, h3, h4, h5, h6⟩ hg hn ho => by
      have hg' : W1.heap.size ≤ g := hg.elim id (fun ⟨_, h, _⟩ => absurd h (Nat.not_lt_zero _))
      exact ⟨h0.only hn ho, h1.only hn ho, h2.only hn ho, h3.only hn ho, h4.only ho (by have := Pa.out.lt; have := Pb.out.lt; omega), h5.only ho (by have := Pa.out.lt; have := Pb.out.lt; omega), below_only h6 ho (by have := Pa.out.lt; have := Pb.out.lt; have := HB.out.size; omega)⟩)
    (fun l h => trivial) (fun l b w1 w2 h _ _ => trivial) (fun l b w1 w2 g h _ _ _ _ => trivial) (fun l h => by cases h) (fun l k h => by cases h) ?_ ?_
  · refine ⟨?_, ?_, ?_, ?_, ?_, ?_, ?_, ?_, ?_, ?_, ?_, ?_, ?_, ?_, ?_, ?_, ?_, ?_, ?_, ?_, ?_, ?_, ?_, ?_, ?_, ?_, ?_, trivial⟩ <;> intro L V a1 w1 hf hG hsz hφ hψ hL hdep hcl
    · obtain ⟨Fa1_, Fa2_, Fb1_, Fb2_, Pa_, Pb_, HB_⟩ := hG
      refine og_none rfl ?_
      have e2 := old_slot hf 2 (by kernel_rfl)
      exact ob_pure (ex_loadR rfl e2 Pa_) rfl
    · obtain ⟨Fa1_, Fa2_, Fb1_, Fb2_, Pa_, Pb_, HB_⟩ := hG
      refine og_none rfl ?_
      have e3 := old_slot hf 3 (by kernel_rfl)
      exact ob_pure (ex_loadR rfl e3 Pb_) rfl
    · obtain ⟨Fa1_, Fa2_, Fb1_, Fb2_, Pa_, Pb_, HB_⟩ := hG
      refine og_none rfl ?_
      have d0 := dep_of hdep 0 (by kernel_rfl)
      have e10 := (new_slot hf 0 10 d0 (by kernel_rfl)).trans (show V 0 = .agg #[.bool sa1, .slice Aa1 na1 ca1, .bool sa2, .slice Aa2 na2 ca2] from hφ 0 d0)
      have d1 := dep_of hdep 1 (by kernel_rfl)
      have e11 := (new_slot hf 1 11 d1 (by kernel_rfl)).trans (show V 1 = .agg #[.bool sb1, .slice Ab1 nb1 cb1, .bool sb2, .slice Ab2 nb2 cb2] from hφ 1 d1)
      refine ob_go rfl (vs := #[.agg #[.bool sa1, .slice Aa1 na1 ca1, .bool sa2, .slice Aa2 na2 ca2], .agg #[.bool sb1, .slice Ab1 nb1 cb1, .bool sb2, .slice Ab2 nb2 cb2]]) (by simp only [List.map_toArray, List.map_cons, List.map_nil, e10, e11]) (by kernel_rfl) (addR_any _ _ _ (Rat.divInt pa qa) (Rat.divInt pb qb) 8 (RatA.of (Pair.mk (a := .A pa 8) (b := .A qa 8) Fa1_ Fa2_)) (RatA.of (Pair.mk (a := .A pb 8) (b := .A qb 8) Fb1_ Fb2_)) (by omega) (by omega)) ?_
      rintro e w2 ⟨⟨v, rfl, hv⟩, hb⟩
      exact ⟨v, rfl, hb, hv⟩
    · obtain ⟨Fa1_, Fa2_, Fb1_, Fb2_, Pa_, Pb_, HB_⟩ := hG
      refine og_none rfl ?_
      have e2 := old_slot hf 2 (by kernel_rfl)
      exact ob_pure (ex_loadR rfl e2 Pa_) rfl
    · obtain ⟨Fa1_, Fa2_, Fb1_, Fb2_, Pa_, Pb_, HB_⟩ := hG
      refine og_none rfl ?_
      have e3 := old_slot hf 3 (by kernel_rfl)
      exact ob_pure (ex_loadR rfl e3 Pb_) rfl
    · obtain ⟨Fa1_, Fa2_, Fb1_, Fb2_, Pa_, Pb_, HB_⟩ := hG
      refine og_none rfl ?_
      have d3 := dep_of hdep 3 (by kernel_rfl)
      have e13 := (new_slot hf 3 13 d3 (by kernel_rfl)).trans (show V 3 = .agg #[.bool sa1, .slice Aa1 na1 ca1, .bool sa2, .slice Aa2 na2 ca2] from hφ 3 d3)
      have d4 := dep_of hdep 4 (by kernel_rfl)
      have e14 := (new_slot hf 4 14 d4 (by kernel_rfl)).trans (show V 4 = .agg #[.bool sb1, .slice Ab1 nb1 cb1, .bool sb2, .slice Ab2 nb2 cb2] from hφ 4 d4)
      refine ob_go rfl (vs := #[.agg #[.bool sa1, .slice Aa1 na1 ca1, .bool sa2, .slice Aa2 na2 ca2], .agg #[.bool sb1, .slice Ab1 nb1 cb1, .bool sb2, .slice Ab2 nb2 cb2]]) (by simp only [List.map_toArray, List.map_cons, List.map_nil, e13, e14]) (by kernel_rfl) (raddR_any _ _ _ (Rat.divInt pa qa) (Rat.divInt pb qb) 8 (RatA.of (Pair.mk (a := .A pa 8) (b := .A qa 8) Fa1_ Fa2_)) (RatA.of (Pair.mk (a := .A pb 8) (b := .A qb 8) Fb1_ Fb2_)) (by omega) (by omega)) ?_
      rintro e w2 ⟨⟨v, rfl, hv⟩, hb⟩
      exact ⟨v, rfl, hb, hv⟩
    · obtain ⟨Fa1_, Fa2_, Fb1_, Fb2_, Pa_, Pb_, HB_⟩ := hG
      refine og_none rfl ?_
      have d2 := dep_of hdep 2 (by kernel_rfl)
      have e12 := new_slot hf 2 12 d2 (by kernel_rfl)
      have p12 : Pair w1 (V 2) (.V (((Rat.divInt pa qa) + (Rat.divInt pb qb))).num) (.V ((((Rat.divInt pa qa) + (Rat.divInt pb qb))).den : Int)) := hφ 2 d2
      have d5 := dep_of hdep 5 (by kernel_rfl)
      have e15 := new_slot hf 5 15 d5 (by kernel_rfl)
      have p15 : Pair w1 (V 5) (.V (((Rat.divInt pa qa) + (Rat.divInt pb qb))).num) (.V ((((Rat.divInt pa qa) + (Rat.divInt pb qb))).den : Int)) := hφ 5 d5
      refine ob_go rfl (vs := #[V 2, V 5]) (by simp only [List.map_toArray, List.map_cons, List.map_nil, e12, e15]) (by kernel_rfl) (rsameR_any _ _ _ ((Rat.divInt pa qa) + (Rat.divInt pb qb)) p12 p15) ?_
      rintro e w2 ⟨he, hb⟩
      exact ⟨_, he, hb, rfl⟩
    · obtain ⟨Fa1_, Fa2_, Fb1_, Fb2_, Pa_, Pb_, HB_⟩ := hG
      refine og_none rfl ?_
      have d6 := dep_of hdep 6 (by kernel_rfl)
      have e16 := (new_slot hf 6 16 d6 (by kernel_rfl)).trans (show V 6 = .bool true from hφ 6 d6)
      exact ob_pure (v := .bool true) (ex_moveV rfl e16) rfl
    · obtain ⟨Fa1_, Fa2_, Fb1_, Fb2_, Pa_, Pb_, HB_⟩ := hG
      have dg := dep_of hdep 7 (by kernel_rfl)
      refine og_want rfl (yielded_of hf (n := 36) (by kernel_rfl) rfl 7 17 dg (by kernel_rfl) (show V 7 = .bool true from hφ 7 dg)) ?_
      have e2 := old_slot hf 2 (by kernel_rfl)
      exact ob_pure (ex_loadR rfl e2 Pa_) rfl
    · obtain ⟨Fa1_, Fa2_, Fb1_, Fb2_, Pa_, Pb_, HB_⟩ := hG
      have dg := dep_of hdep 7 (by kernel_rfl)
      refine og_want rfl (yielded_of hf (n := 36) (by kernel_rfl) rfl 7 17 dg (by kernel_rfl) (show V 7 = .bool true from hφ 7 dg)) ?_
      have e3 := old_slot hf 3 (by kernel_rfl)
      exact ob_pure (ex_loadR rfl e3 Pb_) rfl
    · obtain ⟨Fa1_, Fa2_, Fb1_, Fb2_, Pa_, Pb_, HB_⟩ := hG
      have dg := dep_of hdep 7 (by kernel_rfl)
      refine og_want rfl (yielded_of hf (n := 36) (by kernel_rfl) rfl 7 17 dg (by kernel_rfl) (show V 7 = .bool true from hφ 7 dg)) ?_
      have d8 := dep_of hdep 8 (by kernel_rfl)
      have e18 := (new_slot hf 8 18 d8 (by kernel_rfl)).trans (show V 8 = .agg #[.bool sa1, .slice Aa1 na1 ca1, .bool sa2, .slice Aa2 na2 ca2] from hφ 8 d8)
      have d9 := dep_of hdep 9 (by kernel_rfl)
      have e19 := (new_slot hf 9 19 d9 (by kernel_rfl)).trans (show V 9 = .agg #[.bool sb1, .slice Ab1 nb1 cb1, .bool sb2, .slice Ab2 nb2 cb2] from hφ 9 d9)
      refine ob_go rfl (vs := #[.agg #[.bool sa1, .slice Aa1 na1 ca1, .bool sa2, .slice Aa2 na2 ca2], .agg #[.bool sb1, .slice Ab1 nb1 cb1, .bool sb2, .slice Ab2 nb2 cb2]]) (by simp only [List.map_toArray, List.map_cons, List.map_nil, e18, e19]) (by kernel_rfl) (subR_any _ _ _ (Rat.divInt pa qa) (Rat.divInt pb qb) 8 (RatA.of (Pair.mk (a := .A pa 8) (b := .A qa 8) Fa1_ Fa2_)) (RatA.of (Pair.mk (a := .A pb 8) (b := .A qb 8) Fb1_ Fb2_)) (by omega) (by omega)) ?_
      rintro e w2 ⟨⟨v, rfl, hv⟩, hb⟩
      exact ⟨v, rfl, hb, hv⟩
    · obtain ⟨Fa1_, Fa2_, Fb1_, Fb2_, Pa_, Pb_, HB_⟩ := hG
      have dg := dep_of hdep 7 (by kernel_rfl)
      refine og_want rfl (yielded_of hf (n := 36) (by kernel_rfl) rfl 7 17 dg (by kernel_rfl) (show V 7 = .bool true from hφ 7 dg)) ?_
      have e2 := old_slot hf 2 (by kernel_rfl)
      exact ob_pure (ex_loadR rfl e2 Pa_) rfl
    · obtain ⟨Fa1_, Fa2_, Fb1_, Fb2_, Pa_, Pb_, HB_⟩ := hG
      have dg := dep_of hdep 7 (by kernel_rfl)
      refine og_want rfl (yielded_of hf (n := 36) (by kernel_rfl) rfl 7 17 dg (by kernel_rfl) (show V 7 = .bool true from hφ 7 dg)) ?_
      have e3 := old_slot hf 3 (by kernel_rfl)
      exact ob_pure (ex_loadR rfl e3 Pb_) rfl
    · obtain ⟨Fa1_, Fa2_, Fb1_, Fb2_, Pa_, Pb_, HB_⟩ := hG
      have dg := dep_of hdep 7 (by kernel_rfl)
      refine og_want rfl (yielded_of hf (n := 36) (by kernel_rfl) rfl 7 17 dg (by kernel_rfl) (show V 7 = .bool true from hφ 7 dg)) ?_
      have d11 := dep_of hdep 11 (by kernel_rfl)
      have e21 := (new_slot hf 11 21 d11 (by kernel_rfl)).trans (show V 11 = .agg #[.bool sa1, .slice Aa1 na1 ca1, .bool sa2, .slice Aa2 na2 ca2] from hφ 11 d11)
      have d12 := dep_of hdep 12 (by kernel_rfl)
      have e22 := (new_slot hf 12 22 d12 (by kernel_rfl)).trans (show V 12 = .agg #[.bool sb1, .slice Ab1 nb1 cb1, .bool sb2, .slice Ab2 nb2 cb2] from hφ 12 d12)
      refine ob_go rfl (vs := #[.agg #[.bool sa1, .slice Aa1 na1 ca1, .bool sa2, .slice Aa2 na2 ca2], .agg #[.bool sb1, .slice Ab1 nb1 cb1, .bool sb2, .slice Ab2 nb2 cb2]]) (by simp only [List.map_toArray, List.map_cons, List.map_nil, e21, e22]) (by kernel_rfl) (rsubR_any _ _ _ (Rat.divInt pa qa) (Rat.divInt pb qb) 8 (RatA.of (Pair.mk (a := .A pa 8) (b := .A qa 8) Fa1_ Fa2_)) (RatA.of (Pair.mk (a := .A pb 8) (b := .A qb 8) Fb1_ Fb2_)) (by omega) (by omega)) ?_
      rintro e w2 ⟨⟨v, rfl, hv⟩, hb⟩
      exact ⟨v, rfl, hb, hv⟩
    · obtain ⟨Fa1_, Fa2_, Fb1_, Fb2_, Pa_, Pb_, HB_⟩ := hG
      have dg := dep_of hdep 7 (by kernel_rfl)
      refine og_want rfl (yielded_of hf (n := 36) (by kernel_rfl) rfl 7 17 dg (by kernel_rfl) (show V 7 = .bool true from hφ 7 dg)) ?_
      have d10 := dep_of hdep 10 (by kernel_rfl)
      have e20 := new_slot hf 10 20 d10 (by kernel_rfl)
      have p20 : Pair w1 (V 10) (.V (((Rat.divInt pa qa) - (Rat.divInt pb qb))).num) (.V ((((Rat.divInt pa qa) - (Rat.divInt pb qb))).den : Int)) := hφ 10 d10
      have d13 := dep_of hdep 13 (by kernel_rfl)
      have e23 := new_slot hf 13 23 d13 (by kernel_rfl)
      have p23 : Pair w1 (V 13) (.V (((Rat.divInt pa qa) - (Rat.divInt pb qb))).num) (.V ((((Rat.divInt pa qa) - (Rat.divInt pb qb))).den : Int)) := hφ 13 d13
      refine ob_go rfl (vs := #[V 10, V 13]) (by simp only [List.map_toArray, List.map_cons, List.map_nil, e20, e23]) (by kernel_rfl) (rsameR_any _ _ _ ((Rat.divInt pa qa) - (Rat.divInt pb qb)) p20 p23) ?_
      rintro e w2 ⟨he, hb⟩
      exact ⟨_, he, hb, rfl⟩
    · obtain ⟨Fa1_, Fa2_, Fb1_, Fb2_, Pa_, Pb_, HB_⟩ := hG
      refine og_none rfl ?_
      have d7 := dep_of hdep 7 (by kernel_rfl)
      have e17 := (new_slot hf 7 17 d7 (by kernel_rfl)).trans (show V 7 = .bool true from hφ 7 d7)
      have d14 := dep_of hdep 14 (by kernel_rfl)
      have e24 := (new_slot hf 14 24 d14 (by kernel_rfl)).trans (show V 14 = .bool true from hφ 14 d14)
      exact ob_pure (v := .bool true) (ex_pick_true rfl e17 e24) rfl
    · obtain ⟨Fa1_, Fa2_, Fb1_, Fb2_, Pa_, Pb_, HB_⟩ := hG
      refine og_none rfl ?_
      have d15 := dep_of hdep 15 (by kernel_rfl)
      have e25 := (new_slot hf 15 25 d15 (by kernel_rfl)).trans (show V 15 = .bool true from hφ 15 d15)
      exact ob_pure (v := .bool true) (ex_moveV rfl e25) rfl
    · obtain ⟨Fa1_, Fa2_, Fb1_, Fb2_, Pa_, Pb_, HB_⟩ := hG
      have dg := dep_of hdep 16 (by kernel_rfl)
      refine og_want rfl (yielded_of hf (n := 36) (by kernel_rfl) rfl 16 26 dg (by kernel_rfl) (show V 16 = .bool true from hφ 16 dg)) ?_
      have e2 := old_slot hf 2 (by kernel_rfl)
      exact ob_pure (ex_loadR rfl e2 Pa_) rfl
    · obtain ⟨Fa1_, Fa2_, Fb1_, Fb2_, Pa_, Pb_, HB_⟩ := hG
      have dg := dep_of hdep 16 (by kernel_rfl)
      refine og_want rfl (yielded_of hf (n := 36) (by kernel_rfl) rfl 16 26 dg (by kernel_rfl) (show V 16 = .bool true from hφ 16 dg)) ?_
      have d17 := dep_of hdep 17 (by kernel_rfl)
      have e27 := (new_slot hf 17 27 d17 (by kernel_rfl)).trans (show V 17 = .agg #[.bool sa1, .slice Aa1 na1 ca1, .bool sa2, .slice Aa2 na2 ca2] from hφ 17 d17)
      refine ob_go rfl (vs := #[.agg #[.bool sa1, .slice Aa1 na1 ca1, .bool sa2, .slice Aa2 na2 ca2]]) (by simp only [List.map_toArray, List.map_cons, List.map_nil, e27]) (by kernel_rfl) (negR_any _ _ (Rat.divInt pa qa) 8 (RatA.of (Pair.mk (a := .A pa 8) (b := .A qa 8) Fa1_ Fa2_)) (by omega) (by omega)) ?_
      rintro e w2 ⟨⟨v, rfl, hv⟩, hb⟩
      exact ⟨v, rfl, hb, hv⟩
    · obtain ⟨Fa1_, Fa2_, Fb1_, Fb2_, Pa_, Pb_, HB_⟩ := hG
      have dg := dep_of hdep 16 (by kernel_rfl)
      refine og_want rfl (yielded_of hf (n := 36) (by kernel_rfl) rfl 16 26 dg (by kernel_rfl) (show V 16 = .bool true from hφ 16 dg)) ?_
      have e2 := old_slot hf 2 (by kernel_rfl)
      exact ob_pure (ex_loadR rfl e2 Pa_) rfl
    · obtain ⟨Fa1_, Fa2_, Fb1_, Fb2_, Pa_, Pb_, HB_⟩ := hG
      have dg := dep_of hdep 16 (by kernel_rfl)
      refine og_want rfl (yielded_of hf (n := 36) (by kernel_rfl) rfl 16 26 dg (by kernel_rfl) (show V 16 = .bool true from hφ 16 dg)) ?_
      have d19 := dep_of hdep 19 (by kernel_rfl)
      have e29 := (new_slot hf 19 29 d19 (by kernel_rfl)).trans (show V 19 = .agg #[.bool sa1, .slice Aa1 na1 ca1, .bool sa2, .slice Aa2 na2 ca2] from hφ 19 d19)
      refine ob_go rfl (vs := #[.agg #[.bool sa1, .slice Aa1 na1 ca1, .bool sa2, .slice Aa2 na2 ca2]]) (by simp only [List.map_toArray, List.map_cons, List.map_nil, e29]) (by kernel_rfl) (rnegR_any _ _ (Rat.divInt pa qa) 8 (RatA.of (Pair.mk (a := .A pa 8) (b := .A qa 8) Fa1_ Fa2_)) (by omega) (by omega)) ?_
      rintro e w2 ⟨⟨v, rfl, hv⟩, hb⟩
      exact ⟨v, rfl, hb, hv⟩
    · obtain ⟨Fa1_, Fa2_, Fb1_, Fb2_, Pa_, Pb_, HB_⟩ := hG
      have dg := dep_of hdep 16 (by kernel_rfl)
      refine og_want rfl (yielded_of hf (n := 36) (by kernel_rfl) rfl 16 26 dg (by kernel_rfl) (show V 16 = .bool true from hφ 16 dg)) ?_
      have d18 := dep_of hdep 18 (by kernel_rfl)
      have e28 := new_slot hf 18 28 d18 (by kernel_rfl)
      have p28 : Pair w1 (V 18) (.V ((-(Rat.divInt pa qa))).num) (.V (((-(Rat.divInt pa qa))).den : Int)) := hφ 18 d18
      have d20 := dep_of hdep 20 (by kernel_rfl)
      have e30 := new_slot hf 20 30 d20 (by kernel_rfl)
      have p30 : Pair w1 (V 20) (.V ((-(Rat.divInt pa qa))).num) (.V (((-(Rat.divInt pa qa))).den : Int)) := hφ 20 d20
      refine ob_go rfl (vs := #[V 18, V 20]) (by simp only [List.map_toArray, List.map_cons, List.map_nil, e28, e30]) (by kernel_rfl) (rsameR_any _ _ _ (-(Rat.divInt pa qa)) p28 p30) ?_
      rintro e w2 ⟨he, hb⟩
      exact ⟨_, he, hb, rfl⟩
    · obtain ⟨Fa1_, Fa2_, Fb1_, Fb2_, Pa_, Pb_, HB_⟩ := hG
      refine og_none rfl ?_
      have d16 := dep_of hdep 16 (by kernel_rfl)
      have e26 := (new_slot hf 16 26 d16 (by kernel_rfl)).trans (show V 16 = .bool true from hφ 16 d16)
      have d21 := dep_of hdep 21 (by kernel_rfl)
      have e31 := (new_slot hf 21 31 d21 (by kernel_rfl)).trans (show V 21 = .bool true from hφ 21 d21)
      exact ob_pure (v := .bool true) (ex_pick_true rfl e26 e31) rfl
    · obtain ⟨Fa1_, Fa2_, Fb1_, Fb2_, Pa_, Pb_, HB_⟩ := hG
      refine og_none rfl ?_
      have d22 := dep_of hdep 22 (by kernel_rfl)
      have e32 := (new_slot hf 22 32 d22 (by kernel_rfl)).trans (show V 22 = .bool true from hφ 22 d22)
      exact ob_pure (v := .bool true) (ex_moveV rfl e32) rfl
    · obtain ⟨Fa1_, Fa2_, Fb1_, Fb2_, Pa_, Pb_, HB_⟩ := hG
      have dg := dep_of hdep 23 (by kernel_rfl)
      refine og_want rfl (yielded_of hf (n := 36) (by kernel_rfl) rfl 23 33 dg (by kernel_rfl) (show V 23 = .bool true from hφ 23 dg)) ?_
      refine ob_go rfl (vs := #[]) (by simp only [List.map_toArray, List.map_nil]) (by kernel_rfl) (awakeR_any _) ?_
      rintro e w2 ⟨he, hb⟩
      exact ⟨_, he, hb, rfl⟩
    · obtain ⟨Fa1_, Fa2_, Fb1_, Fb2_, Pa_, Pb_, HB_⟩ := hG
      refine og_none rfl ?_
      have d23 := dep_of hdep 23 (by kernel_rfl)
      have e33 := (new_slot hf 23 33 d23 (by kernel_rfl)).trans (show V 23 = .bool true from hφ 23 d23)
      have d24 := dep_of hdep 24 (by kernel_rfl)
      have e34 := (new_slot hf 24 34 d24 (by kernel_rfl)).trans (show V 24 = .bool true from hφ 24 d24)
      exact ob_pure (v := .bool true) (ex_pick_true rfl e33 e34) rfl
    · obtain ⟨Fa1_, Fa2_, Fb1_, Fb2_, Pa_, Pb_, HB_⟩ := hG
      refine og_none rfl ?_
      have d25 := dep_of hdep 25 (by kernel_rfl)
      have e35 := (new_slot hf 25 35 d25 (by kernel_rfl)).trans (show V 25 = .bool true from hφ 25 d25)
      exact ob_pure (v := .bool true) (ex_assignV rfl e35) rfl
  · intro V W8 hG hsz8 hφ hψ hne
    have hlt8 : W1.heap.size ≤ W8.heap.size := hsz8
    obtain ⟨Fa1_, Fa2_, Fb1_, Fb2_, Pa_, Pb_, HB_⟩ := hG
    have Fa1 := hid Fa1_
    have Fa2 := hid Fa2_
    have Fb1 := hid Fb1_
    have Fb2 := hid Fb2_
    have Pa := hid Pa_
    have Pb := hid Pb_
    have HB := hid HB_
    have y0 : V 0 = .agg #[.bool sa1, .slice Aa1 na1 ca1, .bool sa2, .slice Aa2 na2 ca2] := hφ 0 (by decide)
    have y1 : V 1 = .agg #[.bool sb1, .slice Ab1 nb1 cb1, .bool sb2, .slice Ab2 nb2 cb2] := hφ 1 (by decide)
    have y3 : V 3 = .agg #[.bool sa1, .slice Aa1 na1 ca1, .bool sa2, .slice Aa2 na2 ca2] := hφ 3 (by decide)
    have y4 : V 4 = .agg #[.bool sb1, .slice Ab1 nb1 cb1, .bool sb2, .slice Ab2 nb2 cb2] := hφ 4 (by decide)
    have y6 : V 6 = .bool true := hφ 6 (by decide)
    have y7 : V 7 = .bool true := hφ 7 (by decide)
    have y8 : V 8 = .agg #[.bool sa1, .slice Aa1 na1 ca1, .bool sa2, .slice Aa2 na2 ca2] := hφ 8 (by decide)
    have y9 : V 9 = .agg #[.bool sb1, .slice Ab1 nb1 cb1, .bool sb2, .slice Ab2 nb2 cb2] := hφ 9 (by decide)
    have y11 : V 11 = .agg #[.bool sa1, .slice Aa1 na1 ca1, .bool sa2, .slice Aa2 na2 ca2] := hφ 11 (by decide)
    have y12 : V 12 = .agg #[.bool sb1, .slice Ab1 nb1 cb1, .bool sb2, .slice Ab2 nb2 cb2] := hφ 12 (by decide)
    have y14 : V 14 = .bool true := hφ 14 (by decide)
    have y15 : V 15 = .bool true := hφ 15 (by decide)
    have y16 : V 16 = .bool true := hφ 16 (by decide)
    have y17 : V 17 = .agg #[.bool sa1, .slice Aa1 na1 ca1, .bool sa2, .slice Aa2 na2 ca2] := hφ 17 (by decide)
    have y19 : V 19 = .agg #[.bool sa1, .slice Aa1 na1 ca1, .bool sa2, .slice Aa2 na2 ca2] := hφ 19 (by decide)
    have y21 : V 21 = .bool true := hφ 21 (by decide)
    have y22 : V 22 = .bool true := hφ 22 (by decide)
    have y23 : V 23 = .bool true := hφ 23 (by decide)
    have y24 : V 24 = .bool true := hφ 24 (by decide)
    have y25 : V 25 = .bool true := hφ 25 (by decide)
    have y26 : V 26 = .bool true := hφ 26 (by decide)
    simp only [puts, Act.put, List.setIfInBounds_toArray, List.set_cons_zero, List.set_cons_succ, y0, y1, y3, y4, y6, y7, y8, y9, y11, y12, y14, y15, y16, y17, y19, y21, y22, y23, y24, y25, y26]
    clear hφ hψ hne y0 y1 y3 y4 y6 y7 y8 y9 y11 y12 y14 y15 y16 y17 y19 y21 y22 y23 y24 y25 y26 Fa1_ Fa2_ Fb1_ Fb2_ Pa_ Pb_ HB_ hsz8
    go_wp2
    go_ret
    exact ⟨rfl, HB.out⟩
theorem rationalAdds_walk (w : World) (va : Value) (ha : ArgR w va) (vb : Value) (hb : ArgR w vb) :
    Calls Try.prog 3 #[va, vb] w fun e w' => e = .returned (.bool true) ∧ Below w.heap.size w w' := by
  obtain ⟨sa1, Aa1, na1, ca1, sa2, Aa2, na2, ca2, rfl, ka⟩ := ha.short
  obtain ⟨sb1, Ab1, nb1, cb1, sb2, Ab2, nb2, cb2, rfl, kb⟩ := hb.short
  rcases ka 8 (by decide) with ka | ⟨la1, la2, pa, qa, fa1, fa2⟩
  · exact rationalAdds_long w sa1 Aa1 na1 ca1 sa2 Aa2 na2 ca2 sb1 Ab1 nb1 cb1 sb2 Ab2 nb2 cb2 (by omega)
  rcases kb 8 (by decide) with kb | ⟨lb1, lb2, pb, qb, fb1, fb2⟩
  · exact rationalAdds_long w sa1 Aa1 na1 ca1 sa2 Aa2 na2 ca2 sb1 Ab1 nb1 cb1 sb2 Ab2 nb2 cb2 (by omega)
  exact rationalAdds_short w sa1 Aa1 na1 ca1 sa2 Aa2 na2 ca2 sb1 Ab1 nb1 cb1 sb2 Ab2 nb2 cb2 ⟨la1, la2⟩ pa qa fa1 fa2 ⟨lb1, lb2⟩ pb qb fb1 fb2
end Go.Proofs.Ytklamiajcdkmnaa

