/- A part of the proof of the laws of rationals: RCompare, RatFns1b, RatFns1. -/
import Derived.Test.YtklamiajcdkmnaaPae
import Derived.Test.YtklamiajcdkmnaaPam
import Derived.Test.YtklamiajcdkmnaaPal
import Derived.Test.YtklamiajcdkmnaaPab
import Derived.Test.YtklamiajcdkmnaaPad
import Derived.Test.YtklamiajcdkmnaaPkRationalFieldb
import Derived.Test.YtklamiajcdkmnaaPac
import Derived.Test.YtklamiajcdkmnaaPkRationalFielda
import Derived.Test.YtklamiajcdkmnaaPaa
import Derived.Test.YtklamiajcdkmnaaPai
import Derived.Test.YtklamiajcdkmnaaPap
import Derived.Test.YtklamiajcdkmnaaPan
import Derived.Test.YtklamiajcdkmnaaPkRationalFieldc
import Derived.Test.YtklamiajcdkmnaaPak
import Derived.Test.YtklamiajcdkmnaaPao
import Derived.Test.YtklamiajcdkmnaaPaq
import Derived.Test.YtklamiajcdkmnaaPkRationalFieldd
import Derived.Test.YtklamiajcdkmnaaPar
import Derived.Test.YtklamiajcdkmnaaPkRationalFielde
import Derived.Test.YtklamiajcdkmnaaPaBa
namespace Go.Proofs.Ytklamiajcdkmnaa
open Go.RowKit
set_option linter.unusedVariables false
set_option maxRecDepth 100000

set_option maxHeartbeats 4000000 in
theorem compareF_any (w : World) (va vb : Value) (pa qa pb qb : Int) (n : Nat) (ha : Pair w va (.A pa n) (.A qa n)) (hb : Pair w vb (.A pb n) (.A qb n)) (h1n : 1 ≤ n) (hn : n ≤ 1000000) :
    Calls Try.prog 39 #[va, vb] w fun e w' => e = .returned (.int .i64 (cm (pa * qb) (pb * qa))) ∧ Below w.heap.size w w' := by
  obtain ⟨sa1, Aa1, na1, ca1, sa2, Aa2, na2, ca2, rfl, h1, h2⟩ := ha.form
  have Fa1 : Hid (IntA w (.agg #[.bool sa1, .slice Aa1 na1 ca1]) pa n) := hid h1
  have Fa2 : Hid (IntA w (.agg #[.bool sa2, .slice Aa2 na2 ca2]) qa n) := hid h2
  have Sa1 := hid Fa1.out.sm
  have Sa2 := hid Fa2.out.sm
  clear h1 h2 ha
  obtain ⟨sb1, Ab1, nb1, cb1, sb2, Ab2, nb2, cb2, rfl, h1, h2⟩ := hb.form
  have Fb1 : Hid (IntA w (.agg #[.bool sb1, .slice Ab1 nb1 cb1]) pb n) := hid h1
  have Fb2 : Hid (IntA w (.agg #[.bool sb2, .slice Ab2 nb2 cb2]) qb n) := hid h2
  have Sb1 := hid Fb1.out.sm
  have Sb2 := hid Fb2.out.sm
  clear h1 h2 hb
  have HB := hid (Below.refl w.heap.size w)
  obtain ⟨W, hW⟩ : ∃ W, W = ((w.alloc (.cells #[.bool sa1, .slice Aa1 na1 ca1, .bool sa2, .slice Aa2 na2 ca2] 50)).alloc (.cells #[.bool sb1, .slice Ab1 nb1 cb1, .bool sb2, .slice Ab2 nb2 cb2] 50)) := ⟨_, rfl⟩
  have hbb : Below w.heap.size w W := by rw [hW]; exact (bw_alloc (bw_alloc (Below.refl _ _) _) _)
  have HB := hid (bw_step HB.out hbb)
  have Fa1 := hid (Fa1.out.below hbb)
  have Fa2 := hid (Fa2.out.below hbb)
  have Fb1 := hid (Fb1.out.below hbb)
  have Fb2 := hid (Fb2.out.below hbb)
  have Pa : Hid (Blk W (w.heap.size) 50 #[.bool sa1, .slice Aa1 na1 ca1, .bool sa2, .slice Aa2 na2 ca2]) := by
    rw [hW]
    have := (Blk.new w 50 #[.bool sa1, .slice Aa1 na1 ca1, .bool sa2, .slice Aa2 na2 ca2]).below (bw_alloc (Below.refl _ _) (.cells #[.bool sb1, .slice Ab1 nb1 cb1, .bool sb2, .slice Ab2 nb2 cb2] 50))
    exact hid (by simpa only [World.size_alloc] using this)
  have Pb : Hid (Blk W (w.heap.size + 1) 50 #[.bool sb1, .slice Ab1 nb1 cb1, .bool sb2, .slice Ab2 nb2 cb2]) := by
    rw [hW]
    have := Blk.new (w.alloc (.cells #[.bool sa1, .slice Aa1 na1 ca1, .bool sa2, .slice Aa2 na2 ca2] 50)) 50 #[.bool sb1, .slice Ab1 nb1 cb1, .bool sb2, .slice Ab2 nb2 cb2]
    exact hid (by simpa only [World.size_alloc] using this)
  clear hbb
  have M1 := hid (Sa1.out.times Sb2.out (show n + n ≤ n + n by omega))
  have M2 := hid (Sb1.out.times Sa2.out (show n + n ≤ n + n by omega))
  go_enter Try.func39, Try.ntmps39
  go_wp2_with fail
  rw [← hW]
  clear hW
  refine wp_region_each (by kernel_rfl) 14 18 rfl rfl (by kernel_rfl)
    [Fact.eq (.pointer (some ⟨w.heap.size, 0, none⟩)), Fact.eq (.agg #[.bool sa1, .slice Aa1 na1 ca1]), Fact.eq (.pointer (some ⟨w.heap.size + 1, 2, none⟩)), Fact.eq (.agg #[.bool sb2, .slice Ab2 nb2 cb2]), Fact.ints2 (.A pa n) (.A qb n), Fact.int (pa * qb), Fact.eq (.pointer (some ⟨w.heap.size + 1, 0, none⟩)), Fact.eq (.agg #[.bool sb1, .slice Ab1 nb1 cb1]), Fact.eq (.pointer (some ⟨w.heap.size, 2, none⟩)), Fact.eq (.agg #[.bool sa2, .slice Aa2 na2 ca2]), Fact.ints2 (.A pb n) (.A qa n), Fact.int (pb * qa), Fact.eq (.int .i64 (cm (pa * qb) (pb * qa))), Fact.eq (.int .i64 (cm (pa * qb) (pb * qa)))]
    [.val, .val, .val, .val, .val, .val, .val, .val, .val, .val, .val, .val, .val, .val]
    (fun w' => IntA w' (.agg #[.bool sa1, .slice Aa1 na1 ca1]) (pa) n ∧ IntA w' (.agg #[.bool sa2, .slice Aa2 na2 ca2]) (qa) n ∧ IntA w' (.agg #[.bool sb1, .slice Ab1 nb1 cb1]) (pb) n ∧ IntA w' (.agg #[.bool sb2, .slice Ab2 nb2 cb2]) (qb) n ∧ Blk w' (w.heap.size) 50 #[.bool sa1, .slice Aa1 na1 ca1, .bool sa2, .slice Aa2 na2 ca2] ∧ Blk w' (w.heap.size + 1) 50 #[.bool sb1, .slice Ab1 nb1 cb1, .bool sb2, .slice Ab2 nb2 cb2] ∧ Below w.heap.size w w')
    (fun _ _ _ => True) [] (fun _ => 0) (by kernel_rfl)
    ⟨Fa1.out, Fa2.out, Fb1.out, Fb2.out, Pa.out, Pb.out, HB.out⟩
    (fun w1 w2 ⟨h0, h1, h2, h3, h4, h5, h6⟩ hb => ⟨h0.below hb, h1.below hb, h2.below hb, h3.below hb, h4.below hb, h5.below hb, bw_step h6 hb⟩)
    (fun w1 w2 g ⟨h0, h1, h2, h3, h4, h5, h6⟩ hg hn ho => by
      have hg' : W.heap.size ≤ g := hg.elim id (fun ⟨_, h, _⟩ => absurd h (Nat.not_lt_zero _))
      exact ⟨h0.only hn ho, h1.only hn ho, h2.only hn ho, h3.only hn ho, h4.only ho (by have := Pa.out.lt; have := Pb.out.lt; omega), h5.only ho (by have := Pa.out.lt; have := Pb.out.lt; omega), below_only h6 ho (by have := Pa.out.lt; have := Pb.out.lt; have := HB.out.size; omega)⟩)
    (fun l h => trivial) (fun l b w1 w2 h _ _ => trivial) (fun l b w1 w2 g h _ _ _ _ => trivial) (fun l h => by cases h) (fun l k h => by cases h) ?_ ?_
  · refine ⟨?_, ?_, ?_, ?_, ?_, ?_, ?_, ?_, ?_, ?_, ?_, ?_, ?_, ?_, trivial⟩ <;> intro L V a1 w1 hf hG hsz hφ hψ hL hdep hcl
    · obtain ⟨Fa1_, Fa2_, Fb1_, Fb2_, Pa_, Pb_, HB_⟩ := hG
      have e2 := old_slot hf 2 (by kernel_rfl)
      exact ob_pure (ex_fieldAddrF0 rfl e2) rfl
    · obtain ⟨Fa1_, Fa2_, Fb1_, Fb2_, Pa_, Pb_, HB_⟩ := hG
      have d0 := dep_of hdep 0 (by kernel_rfl)
      have e5 := (new_slot hf 0 5 d0 (by kernel_rfl)).trans (show V 0 = .pointer (some ⟨w.heap.size, 0, none⟩) from hφ 0 d0)
      exact ob_pure (ex_load_at0 rfl e5 Pa_) rfl
    · obtain ⟨Fa1_, Fa2_, Fb1_, Fb2_, Pa_, Pb_, HB_⟩ := hG
      have e3 := old_slot hf 3 (by kernel_rfl)
      exact ob_pure (ex_fieldAddrF1 rfl e3) rfl
    · obtain ⟨Fa1_, Fa2_, Fb1_, Fb2_, Pa_, Pb_, HB_⟩ := hG
      have d2 := dep_of hdep 2 (by kernel_rfl)
      have e7 := (new_slot hf 2 7 d2 (by kernel_rfl)).trans (show V 2 = .pointer (some ⟨w.heap.size + 1, 2, none⟩) from hφ 2 d2)
      exact ob_pure (ex_load_at2 rfl e7 Pb_) rfl
    · obtain ⟨Fa1_, Fa2_, Fb1_, Fb2_, Pa_, Pb_, HB_⟩ := hG
      have d1 := dep_of hdep 1 (by kernel_rfl)
      have e6 := (new_slot hf 1 6 d1 (by kernel_rfl)).trans (show V 1 = .agg #[.bool sa1, .slice Aa1 na1 ca1] from hφ 1 d1)
      have d3 := dep_of hdep 3 (by kernel_rfl)
      have e8 := (new_slot hf 3 8 d3 (by kernel_rfl)).trans (show V 3 = .agg #[.bool sb2, .slice Ab2 nb2 cb2] from hφ 3 d3)
      exact ob_ints2 (A := .A pa n) (B := .A qb n) rfl e6 Fa1_ e8 Fb2_ rfl
    · obtain ⟨Fa1_, Fa2_, Fb1_, Fb2_, Pa_, Pb_, HB_⟩ := hG
      have d4 := dep_of hdep 4 (by kernel_rfl)
      have e9 := new_slot hf 4 9 d4 (by kernel_rfl)
      have p9 : Ints2 w1 (V 4) (.A pa n) (.A qb n) := hφ 4 d4
      refine ob_go rfl (vs := #[V 4]) (by simp only [List.map_toArray, List.map_cons, List.map_nil, e9]) (by kernel_rfl) (product_any _ _ pa qb n p9 h1n hn) ?_
      rintro e w2 ⟨⟨v, rfl, hv⟩, hb⟩
      exact ⟨v, rfl, hb, hv⟩
    · obtain ⟨Fa1_, Fa2_, Fb1_, Fb2_, Pa_, Pb_, HB_⟩ := hG
      have e3 := old_slot hf 3 (by kernel_rfl)
      exact ob_pure (ex_fieldAddrF0 rfl e3) rfl
    · obtain ⟨Fa1_, Fa2_, Fb1_, Fb2_, Pa_, Pb_, HB_⟩ := hG
      have d6 := dep_of hdep 6 (by kernel_rfl)
      have e11 := (new_slot hf 6 11 d6 (by kernel_rfl)).trans (show V 6 = .pointer (some ⟨w.heap.size + 1, 0, none⟩) from hφ 6 d6)
      exact ob_pure (ex_load_at0 rfl e11 Pb_) rfl
    · obtain ⟨Fa1_, Fa2_, Fb1_, Fb2_, Pa_, Pb_, HB_⟩ := hG
      have e2 := old_slot hf 2 (by kernel_rfl)
      exact ob_pure (ex_fieldAddrF1 rfl e2) rfl
    · obtain ⟨Fa1_, Fa2_, Fb1_, Fb2_, Pa_, Pb_, HB_⟩ := hG
      have d8 := dep_of hdep 8 (by kernel_rfl)
      have e13 := (new_slot hf 8 13 d8 (by kernel_rfl)).trans (show V 8 = .pointer (some ⟨w.heap.size, 2, none⟩) from hφ 8 d8)
      exact ob_pure (ex_load_at2 rfl e13 Pa_) rfl
    · obtain ⟨Fa1_, Fa2_, Fb1_, Fb2_, Pa_, Pb_, HB_⟩ := hG
      have d7 := dep_of hdep 7 (by kernel_rfl)
      have e12 := (new_slot hf 7 12 d7 (by kernel_rfl)).trans (show V 7 = .agg #[.bool sb1, .slice Ab1 nb1 cb1] from hφ 7 d7)
      have d9 := dep_of hdep 9 (by kernel_rfl)
      have e14 := (new_slot hf 9 14 d9 (by kernel_rfl)).trans (show V 9 = .agg #[.bool sa2, .slice Aa2 na2 ca2] from hφ 9 d9)
      exact ob_ints2 (A := .A pb n) (B := .A qa n) rfl e12 Fb1_ e14 Fa2_ rfl
    · obtain ⟨Fa1_, Fa2_, Fb1_, Fb2_, Pa_, Pb_, HB_⟩ := hG
      have d10 := dep_of hdep 10 (by kernel_rfl)
      have e15 := new_slot hf 10 15 d10 (by kernel_rfl)
      have p15 : Ints2 w1 (V 10) (.A pb n) (.A qa n) := hφ 10 d10
      refine ob_go rfl (vs := #[V 10]) (by simp only [List.map_toArray, List.map_cons, List.map_nil, e15]) (by kernel_rfl) (product_any _ _ pb qa n p15 h1n hn) ?_
      rintro e w2 ⟨⟨v, rfl, hv⟩, hb⟩
      exact ⟨v, rfl, hb, hv⟩
    · obtain ⟨Fa1_, Fa2_, Fb1_, Fb2_, Pa_, Pb_, HB_⟩ := hG
      have d5 := dep_of hdep 5 (by kernel_rfl)
      have e10 := new_slot hf 5 10 d5 (by kernel_rfl)
      have p10 : IntV w1 (V 5) (pa * qb) := hφ 5 d5
      have d11 := dep_of hdep 11 (by kernel_rfl)
      have e16 := new_slot hf 11 16 d11 (by kernel_rfl)
      have p16 : IntV w1 (V 11) (pb * qa) := hφ 11 d11
      refine ob_go rfl (vs := #[V 5, V 11]) (by simp only [List.map_toArray, List.map_cons, List.map_nil, e10, e16]) (by kernel_rfl) (cmp_any _ (V 5) (V 11) (pa * qb) (pb * qa) (n + n) (n + n) (p10.arg M1.out) (p16.arg M2.out) ) ?_
      rintro e w2 ⟨he, hb⟩
      exact ⟨_, he, hb, rfl⟩
    · obtain ⟨Fa1_, Fa2_, Fb1_, Fb2_, Pa_, Pb_, HB_⟩ := hG
      have d12 := dep_of hdep 12 (by kernel_rfl)
      have e17 := (new_slot hf 12 17 d12 (by kernel_rfl)).trans (show V 12 = .int .i64 (cm (pa * qb) (pb * qa)) from hφ 12 d12)
      exact ob_pure (v := .int .i64 (cm (pa * qb) (pb * qa))) (ex_assignV rfl e17) rfl
  · intro V W1 hG hsz1 hφ hψ hne
    have hlt1 : W.heap.size ≤ W1.heap.size := hsz1
    obtain ⟨Fa1_, Fa2_, Fb1_, Fb2_, Pa_, Pb_, HB_⟩ := hG
    have Fa1 := hid Fa1_
    have Fa2 := hid Fa2_
    have Fb1 := hid Fb1_
    have Fb2 := hid Fb2_
    have Pa := hid Pa_
    have Pb := hid Pb_
    have HB := hid HB_
    have y0 : V 0 = .pointer (some ⟨w.heap.size, 0, none⟩) := hφ 0 (by decide)
    have y1 : V 1 = .agg #[.bool sa1, .slice Aa1 na1 ca1] := hφ 1 (by decide)
    have y2 : V 2 = .pointer (some ⟨w.heap.size + 1, 2, none⟩) := hφ 2 (by decide)
    have y3 : V 3 = .agg #[.bool sb2, .slice Ab2 nb2 cb2] := hφ 3 (by decide)
    have y6 : V 6 = .pointer (some ⟨w.heap.size + 1, 0, none⟩) := hφ 6 (by decide)
    have y7 : V 7 = .agg #[.bool sb1, .slice Ab1 nb1 cb1] := hφ 7 (by decide)
    have y8 : V 8 = .pointer (some ⟨w.heap.size, 2, none⟩) := hφ 8 (by decide)
    have y9 : V 9 = .agg #[.bool sa2, .slice Aa2 na2 ca2] := hφ 9 (by decide)
    have y12 : V 12 = .int .i64 (cm (pa * qb) (pb * qa)) := hφ 12 (by decide)
    have y13 : V 13 = .int .i64 (cm (pa * qb) (pb * qa)) := hφ 13 (by decide)
    simp only [puts, Act.put, List.setIfInBounds_toArray, List.set_cons_zero, List.set_cons_succ, y0, y1, y2, y3, y6, y7, y8, y9, y12, y13]
    clear hφ hψ hne y0 y1 y2 y3 y6 y7 y8 y9 y12 y13 Fa1_ Fa2_ Fb1_ Fb2_ Pa_ Pb_ HB_ hsz1
    go_wp2
    go_ret
    exact ⟨rfl, HB.out⟩
end Go.Proofs.Ytklamiajcdkmnaa

namespace Go.Proofs.Ytklamiajcdkmnaa
open Go.RowKit
set_option linter.unusedVariables false
set_option maxRecDepth 100000

theorem cmp_of (p q r s : Int) : cm (ofN p q * ofD r s) (ofN r s * ofD p q) = cm (Rat.divInt p q - Rat.divInt r s).num 0 := by rw [cm_cross (ofD_pos p q) (ofD_pos r s), of_val, of_val]
set_option maxHeartbeats 4000000 in
theorem cmpR_any (w : World) (va vb : Value) (x y : Rat) (n : Nat) (ha : RatA w va x n) (hb : RatA w vb y n) (h1n : 1 ≤ n) (hn : n ≤ 300000) :
    Calls Try.prog 16 #[va, vb] w fun e w' => e = .returned (.int .i64 (cm (x - y).num 0)) ∧ Below w.heap.size w w' := by
  obtain ⟨pa, qa, ha, rfl⟩ := ha
  obtain ⟨pb, qb, hb, rfl⟩ := hb
  obtain ⟨sa1, Aa1, na1, ca1, sa2, Aa2, na2, ca2, rfl, h1, h2⟩ := ha.form
  have Fa1 : Hid (IntA w (.agg #[.bool sa1, .slice Aa1 na1 ca1]) pa n) := hid h1
  have Fa2 : Hid (IntA w (.agg #[.bool sa2, .slice Aa2 na2 ca2]) qa n) := hid h2
  have Sa1 := hid Fa1.out.sm
  have Sa2 := hid Fa2.out.sm
  clear h1 h2 ha
  obtain ⟨sb1, Ab1, nb1, cb1, sb2, Ab2, nb2, cb2, rfl, h1, h2⟩ := hb.form
  have Fb1 : Hid (IntA w (.agg #[.bool sb1, .slice Ab1 nb1 cb1]) pb n) := hid h1
  have Fb2 : Hid (IntA w (.agg #[.bool sb2, .slice Ab2 nb2 cb2]) qb n) := hid h2
  have Sb1 := hid Fb1.out.sm
  have Sb2 := hid Fb2.out.sm
  clear h1 h2 hb
  have HB := hid (Below.refl w.heap.size w)
  obtain ⟨W, hW⟩ : ∃ W, W = ((w.alloc (.cells #[.bool sa1, .slice Aa1 na1 ca1, .bool sa2, .slice Aa2 na2 ca2] 26)).alloc (.cells #[.bool sb1, .slice Ab1 nb1 cb1, .bool sb2, .slice Ab2 nb2 cb2] 26)) := ⟨_, rfl⟩
  have hbb : Below w.heap.size w W := by rw [hW]; exact (bw_alloc (bw_alloc (Below.refl _ _) _) _)
  have HB := hid (bw_step HB.out hbb)
  have Fa1 := hid (Fa1.out.below hbb)
  have Fa2 := hid (Fa2.out.below hbb)
  have Fb1 := hid (Fb1.out.below hbb)
  have Fb2 := hid (Fb2.out.below hbb)
  have Pa : Hid (Blk W (w.heap.size) 26 #[.bool sa1, .slice Aa1 na1 ca1, .bool sa2, .slice Aa2 na2 ca2]) := by
    rw [hW]
    have := (Blk.new w 26 #[.bool sa1, .slice Aa1 na1 ca1, .bool sa2, .slice Aa2 na2 ca2]).below (bw_alloc (Below.refl _ _) (.cells #[.bool sb1, .slice Ab1 nb1 cb1, .bool sb2, .slice Ab2 nb2 cb2] 26))
    exact hid (by simpa only [World.size_alloc] using this)
  have Pb : Hid (Blk W (w.heap.size + 1) 26 #[.bool sb1, .slice Ab1 nb1 cb1, .bool sb2, .slice Ab2 nb2 cb2]) := by
    rw [hW]
    have := Blk.new (w.alloc (.cells #[.bool sa1, .slice Aa1 na1 ca1, .bool sa2, .slice Aa2 na2 ca2] 26)) 26 #[.bool sb1, .slice Ab1 nb1 cb1, .bool sb2, .slice Ab2 nb2 cb2]
    exact hid (by simpa only [World.size_alloc] using this)
  clear hbb
  go_enter Try.func16, Try.ntmps16
  go_wp2_with fail
  rw [← hW]
  clear hW
  have SO1 := hid (of_sm (Sa1.out) (Sa2.out) (show 1 ≤ n by omega))
  have SO2 := hid (of_sm (Sb1.out) (Sb2.out) (show 1 ≤ n by omega))
  refine wp_region_each (by kernel_rfl) 7 12 rfl rfl (by kernel_rfl)
    [Fact.eq (.func (.func 39) #[] #[]), Fact.eq (.agg #[.bool sa1, .slice Aa1 na1 ca1, .bool sa2, .slice Aa2 na2 ca2]), Fact.pair (.A (ofN pa qa) n) (.A (ofD pa qa) n), Fact.eq (.agg #[.bool sb1, .slice Ab1 nb1 cb1, .bool sb2, .slice Ab2 nb2 cb2]), Fact.pair (.A (ofN pb qb) n) (.A (ofD pb qb) n), Fact.eq (.int .i64 (cm ((ofN pa qa) * (ofD pb qb)) ((ofN pb qb) * (ofD pa qa)))), Fact.eq (.int .i64 (cm ((ofN pa qa) * (ofD pb qb)) ((ofN pb qb) * (ofD pa qa))))]
    [.val, .val, .val, .val, .val, .val, .val]
    (fun w' => IntA w' (.agg #[.bool sa1, .slice Aa1 na1 ca1]) (pa) n ∧ IntA w' (.agg #[.bool sa2, .slice Aa2 na2 ca2]) (qa) n ∧ IntA w' (.agg #[.bool sb1, .slice Ab1 nb1 cb1]) (pb) n ∧ IntA w' (.agg #[.bool sb2, .slice Ab2 nb2 cb2]) (qb) n ∧ Blk w' (w.heap.size) 26 #[.bool sa1, .slice Aa1 na1 ca1, .bool sa2, .slice Aa2 na2 ca2] ∧ Blk w' (w.heap.size + 1) 26 #[.bool sb1, .slice Ab1 nb1 cb1, .bool sb2, .slice Ab2 nb2 cb2] ∧ Below w.heap.size w w')
    (fun _ _ _ => True) [] (fun _ => 0) (by kernel_rfl)
    ⟨Fa1.out, Fa2.out, Fb1.out, Fb2.out, Pa.out, Pb.out, HB.out⟩
    (fun w1 w2 ⟨h0, h1, h2, h3, h4, h5, h6⟩ hb => ⟨h0.below hb, h1.below hb, h2.below hb, h3.below hb, h4.below hb, h5.below hb, bw_step h6 hb⟩)
    (fun w1 w2 g ⟨h0, h1, h2, h3, h4, h5, h6⟩ hg hn ho => by
      have hg' : W.heap.size ≤ g := hg.elim id (fun ⟨_, h, _⟩ => absurd h (Nat.not_lt_zero _))
      exact ⟨h0.only hn ho, h1.only hn ho, h2.only hn ho, h3.only hn ho, h4.only ho (by have := Pa.out.lt; have := Pb.out.lt; omega), h5.only ho (by have := Pa.out.lt; have := Pb.out.lt; omega), below_only h6 ho (by have := Pa.out.lt; have := Pb.out.lt; have := HB.out.size; omega)⟩)
    (fun l h => trivial) (fun l b w1 w2 h _ _ => trivial) (fun l b w1 w2 g h _ _ _ _ => trivial) (fun l h => by cases h) (fun l k h => by cases h) ?_ ?_
  · refine ⟨?_, ?_, ?_, ?_, ?_, ?_, ?_, trivial⟩ <;> intro L V a1 w1 hf hG hsz hφ hψ hL hdep hcl
    · obtain ⟨Fa1_, Fa2_, Fb1_, Fb2_, Pa_, Pb_, HB_⟩ := hG
      have e5 := old_slot hf 5 (by kernel_rfl)
      exact ob_pure (v := .func (.func 39) #[] #[]) (ex_moveV rfl e5) rfl
    · obtain ⟨Fa1_, Fa2_, Fb1_, Fb2_, Pa_, Pb_, HB_⟩ := hG
      have e2 := old_slot hf 2 (by kernel_rfl)
      exact ob_pure (ex_loadR rfl e2 Pa_) rfl
    · obtain ⟨Fa1_, Fa2_, Fb1_, Fb2_, Pa_, Pb_, HB_⟩ := hG
      have d1 := dep_of hdep 1 (by kernel_rfl)
      have e7 := (new_slot hf 1 7 d1 (by kernel_rfl)).trans (show V 1 = .agg #[.bool sa1, .slice Aa1 na1 ca1, .bool sa2, .slice Aa2 na2 ca2] from hφ 1 d1)
      refine ob_go rfl (vs := #[.agg #[.bool sa1, .slice Aa1 na1 ca1, .bool sa2, .slice Aa2 na2 ca2]]) (by simp only [List.map_toArray, List.map_cons, List.map_nil, e7]) (by kernel_rfl) (of_any _ _ pa qa n (Pair.mk (a := .A pa n) (b := .A qa n) Fa1_ Fa2_) (by omega) (by omega)) ?_
      rintro e w2 ⟨⟨v, rfl, hv⟩, hb⟩
      exact ⟨v, rfl, hb, hv⟩
    · obtain ⟨Fa1_, Fa2_, Fb1_, Fb2_, Pa_, Pb_, HB_⟩ := hG
      have e3 := old_slot hf 3 (by kernel_rfl)
      exact ob_pure (ex_loadR rfl e3 Pb_) rfl
    · obtain ⟨Fa1_, Fa2_, Fb1_, Fb2_, Pa_, Pb_, HB_⟩ := hG
      have d3 := dep_of hdep 3 (by kernel_rfl)
      have e9 := (new_slot hf 3 9 d3 (by kernel_rfl)).trans (show V 3 = .agg #[.bool sb1, .slice Ab1 nb1 cb1, .bool sb2, .slice Ab2 nb2 cb2] from hφ 3 d3)
      refine ob_go rfl (vs := #[.agg #[.bool sb1, .slice Ab1 nb1 cb1, .bool sb2, .slice Ab2 nb2 cb2]]) (by simp only [List.map_toArray, List.map_cons, List.map_nil, e9]) (by kernel_rfl) (of_any _ _ pb qb n (Pair.mk (a := .A pb n) (b := .A qb n) Fb1_ Fb2_) (by omega) (by omega)) ?_
      rintro e w2 ⟨⟨v, rfl, hv⟩, hb⟩
      exact ⟨v, rfl, hb, hv⟩
    · obtain ⟨Fa1_, Fa2_, Fb1_, Fb2_, Pa_, Pb_, HB_⟩ := hG
      have d0 := dep_of hdep 0 (by kernel_rfl)
      have e6 := (new_slot hf 0 6 d0 (by kernel_rfl)).trans (show V 0 = .func (.func 39) #[] #[] from hφ 0 d0)
      have d2 := dep_of hdep 2 (by kernel_rfl)
      have e8 := new_slot hf 2 8 d2 (by kernel_rfl)
      have p8 : Pair w1 (V 2) (.A (ofN pa qa) n) (.A (ofD pa qa) n) := hφ 2 d2
      have d4 := dep_of hdep 4 (by kernel_rfl)
      have e10 := new_slot hf 4 10 d4 (by kernel_rfl)
      have p10 : Pair w1 (V 4) (.A (ofN pb qb) n) (.A (ofD pb qb) n) := hφ 4 d4
      refine ob_goX rfl e6 (vs := #[V 2, V 4]) (by simp only [List.map_toArray, List.map_cons, List.map_nil, e10, e8]) (by kernel_rfl) (compareF_any _ _ _ (ofN pa qa) (ofD pa qa) (ofN pb qb) (ofD pb qb) n p8 p10 (by omega) (by omega)) ?_
      rintro e w2 ⟨he, hb⟩
      exact ⟨_, he, hb, rfl⟩
    · obtain ⟨Fa1_, Fa2_, Fb1_, Fb2_, Pa_, Pb_, HB_⟩ := hG
      have d5 := dep_of hdep 5 (by kernel_rfl)
      have e11 := (new_slot hf 5 11 d5 (by kernel_rfl)).trans (show V 5 = .int .i64 (cm ((ofN pa qa) * (ofD pb qb)) ((ofN pb qb) * (ofD pa qa))) from hφ 5 d5)
      exact ob_pure (v := .int .i64 (cm ((ofN pa qa) * (ofD pb qb)) ((ofN pb qb) * (ofD pa qa)))) (ex_assignV rfl e11) rfl
  · intro V W3 hG hsz3 hφ hψ hne
    have hlt3 : W.heap.size ≤ W3.heap.size := hsz3
    obtain ⟨Fa1_, Fa2_, Fb1_, Fb2_, Pa_, Pb_, HB_⟩ := hG
    have Fa1 := hid Fa1_
    have Fa2 := hid Fa2_
    have Fb1 := hid Fb1_
    have Fb2 := hid Fb2_
    have Pa := hid Pa_
    have Pb := hid Pb_
    have HB := hid HB_
    have y0 : V 0 = .func (.func 39) #[] #[] := hφ 0 (by decide)
    have y1 : V 1 = .agg #[.bool sa1, .slice Aa1 na1 ca1, .bool sa2, .slice Aa2 na2 ca2] := hφ 1 (by decide)
    have y3 : V 3 = .agg #[.bool sb1, .slice Ab1 nb1 cb1, .bool sb2, .slice Ab2 nb2 cb2] := hφ 3 (by decide)
    have y5 : V 5 = .int .i64 (cm ((ofN pa qa) * (ofD pb qb)) ((ofN pb qb) * (ofD pa qa))) := hφ 5 (by decide)
    have y6 : V 6 = .int .i64 (cm ((ofN pa qa) * (ofD pb qb)) ((ofN pb qb) * (ofD pa qa))) := hφ 6 (by decide)
    simp only [puts, Act.put, List.setIfInBounds_toArray, List.set_cons_zero, List.set_cons_succ, y0, y1, y3, y5, y6]
    clear hφ hψ hne y0 y1 y3 y5 y6 Fa1_ Fa2_ Fb1_ Fb2_ Pa_ Pb_ HB_ hsz3
    go_wp2
    go_ret
    exact ⟨by rw [← cmp_of]; first | done | rfl, HB.out⟩
end Go.Proofs.Ytklamiajcdkmnaa

namespace Go.Proofs.Ytklamiajcdkmnaa
open Go.RowKit
set_option linter.unusedVariables false
set_option maxRecDepth 100000

theorem mul_of (p q r s : Int) : Rat.divInt (ofN p q * ofN r s) (ofD p q * ofD r s) = Rat.divInt p q * Rat.divInt r s := by rw [← Rat.divInt_mul_divInt, of_val, of_val]

set_option maxHeartbeats 4000000 in
theorem mulR_any (w : World) (va vb : Value) (x y : Rat) (n : Nat) (ha : RatA w va x n) (hb : RatA w vb y n) (h1n : 1 ≤ n) (hn : n ≤ 300000) :
    Calls Try.prog 15 #[va, vb] w fun e w' => RetR w' (x * y) e ∧ Below w.heap.size w w' := by
  obtain ⟨pa, qa, ha, rfl⟩ := ha
  obtain ⟨pb, qb, hb, rfl⟩ := hb
  obtain ⟨sa1, Aa1, na1, ca1, sa2, Aa2, na2, ca2, rfl, h1, h2⟩ := ha.form
  have Fa1 : Hid (IntA w (.agg #[.bool sa1, .slice Aa1 na1 ca1]) pa n) := hid h1
  have Fa2 : Hid (IntA w (.agg #[.bool sa2, .slice Aa2 na2 ca2]) qa n) := hid h2
  have Sa1 := hid Fa1.out.sm
  have Sa2 := hid Fa2.out.sm
  clear h1 h2 ha
  obtain ⟨sb1, Ab1, nb1, cb1, sb2, Ab2, nb2, cb2, rfl, h1, h2⟩ := hb.form
  have Fb1 : Hid (IntA w (.agg #[.bool sb1, .slice Ab1 nb1 cb1]) pb n) := hid h1
  have Fb2 : Hid (IntA w (.agg #[.bool sb2, .slice Ab2 nb2 cb2]) qb n) := hid h2
  have Sb1 := hid Fb1.out.sm
  have Sb2 := hid Fb2.out.sm
  clear h1 h2 hb
  have HB := hid (Below.refl w.heap.size w)
  obtain ⟨W, hW⟩ : ∃ W, W = (((w.alloc (.cells #[.bool sa1, .slice Aa1 na1 ca1, .bool sa2, .slice Aa2 na2 ca2] 26)).alloc (.cells #[.bool sb1, .slice Ab1 nb1 cb1, .bool sb2, .slice Ab2 nb2 cb2] 26)).alloc (.cells #[.bool false, .slice none 0 0, .bool false, .slice none 0 0] 26)) := ⟨_, rfl⟩
  have hbb : Below w.heap.size w W := by rw [hW]; exact (bw_alloc (bw_alloc (bw_alloc (Below.refl _ _) _) _) _)
  have HB := hid (bw_step HB.out hbb)
  have Fa1 := hid (Fa1.out.below hbb)
  have Fa2 := hid (Fa2.out.below hbb)
  have Fb1 := hid (Fb1.out.below hbb)
  have Fb2 := hid (Fb2.out.below hbb)
  have Pa : Hid (Blk W (w.heap.size) 26 #[.bool sa1, .slice Aa1 na1 ca1, .bool sa2, .slice Aa2 na2 ca2]) := by
    rw [hW]
    have := ((Blk.new w 26 #[.bool sa1, .slice Aa1 na1 ca1, .bool sa2, .slice Aa2 na2 ca2]).below (bw_alloc (Below.refl _ _) (.cells #[.bool sb1, .slice Ab1 nb1 cb1, .bool sb2, .slice Ab2 nb2 cb2] 26))).below (bw_alloc (Below.refl _ _) (.cells #[.bool false, .slice none 0 0, .bool false, .slice none 0 0] 26))
    exact hid (by simpa only [World.size_alloc] using this)
  have Pb : Hid (Blk W (w.heap.size + 1) 26 #[.bool sb1, .slice Ab1 nb1 cb1, .bool sb2, .slice Ab2 nb2 cb2]) := by
    rw [hW]
    have := (Blk.new (w.alloc (.cells #[.bool sa1, .slice Aa1 na1 ca1, .bool sa2, .slice Aa2 na2 ca2] 26)) 26 #[.bool sb1, .slice Ab1 nb1 cb1, .bool sb2, .slice Ab2 nb2 cb2]).below (bw_alloc (Below.refl _ _) (.cells #[.bool false, .slice none 0 0, .bool false, .slice none 0 0] 26))
    exact hid (by simpa only [World.size_alloc] using this)
  have R0 : Hid (Blk W (w.heap.size + 1 + 1) 26 #[.bool false, .slice none 0 0, .bool false, .slice none 0 0]) := by
    rw [hW]
    have := Blk.new ((w.alloc (.cells #[.bool sa1, .slice Aa1 na1 ca1, .bool sa2, .slice Aa2 na2 ca2] 26)).alloc (.cells #[.bool sb1, .slice Ab1 nb1 cb1, .bool sb2, .slice Ab2 nb2 cb2] 26)) 26 #[.bool false, .slice none 0 0, .bool false, .slice none 0 0]
    exact hid (by simpa only [World.size_alloc] using this)
  clear hbb
  go_enter Try.func15, Try.ntmps15
  go_wp2_with fail
  rw [← hW]
  clear hW
  have SO1 := hid (of_sm (Sa1.out) (Sa2.out) (show 1 ≤ n by omega))
  have SO2 := hid (of_sm (Sb1.out) (Sb2.out) (show 1 ≤ n by omega))
  have lt2_Pa := Pa.out.lt
  have lt2_Pb := Pb.out.lt
  have lt2_R0 := R0.out.lt
  refine wp_region_each (by kernel_rfl) 8 25 rfl rfl (by kernel_rfl)
    [Fact.eq (.agg #[.bool sa1, .slice Aa1 na1 ca1, .bool sa2, .slice Aa2 na2 ca2]), Fact.pair (.A (ofN pa qa) n) (.A (ofD pa qa) n), Fact.eq (.agg #[.bool sb1, .slice Ab1 nb1 cb1, .bool sb2, .slice Ab2 nb2 cb2]), Fact.pair (.A (ofN pb qb) n) (.A (ofD pb qb) n), Fact.boxR 50 Fne (.A (ofN pa qa) n) (.A (ofD pa qa) n), Fact.boxR 50 Fne (.A (ofN pb qb) n) (.A (ofD pb qb) n), Fact.top _, Fact.top _]
    [.val, .val, .val, .val, .alloc 6, .alloc 7, .fill 4, .fill 5]
    (fun w' => IntA w' (.agg #[.bool sa1, .slice Aa1 na1 ca1]) (pa) n ∧ IntA w' (.agg #[.bool sa2, .slice Aa2 na2 ca2]) (qa) n ∧ IntA w' (.agg #[.bool sb1, .slice Ab1 nb1 cb1]) (pb) n ∧ IntA w' (.agg #[.bool sb2, .slice Ab2 nb2 cb2]) (qb) n ∧ Blk w' (w.heap.size) 26 #[.bool sa1, .slice Aa1 na1 ca1, .bool sa2, .slice Aa2 na2 ca2] ∧ Blk w' (w.heap.size + 1) 26 #[.bool sb1, .slice Ab1 nb1 cb1, .bool sb2, .slice Ab2 nb2 cb2] ∧ Blk w' (w.heap.size + 1 + 1) 26 #[.bool false, .slice none 0 0, .bool false, .slice none 0 0] ∧ Below w.heap.size w w')
    (fun _ _ _ => True) [] (fun _ => 0) (by kernel_rfl)
    ⟨Fa1.out, Fa2.out, Fb1.out, Fb2.out, Pa.out, Pb.out, R0.out, HB.out⟩
    (fun w1 w2 ⟨h0, h1, h2, h3, h4, h5, h6, h7⟩ hb => ⟨h0.below hb, h1.below hb, h2.below hb, h3.below hb, h4.below hb, h5.below hb, h6.below hb, bw_step h7 hb⟩)
    (fun w1 w2 g ⟨h0, h1, h2, h3, h4, h5, h6, h7⟩ hg hn ho => by
      have hg' : W.heap.size ≤ g := hg.elim id (fun ⟨_, h, _⟩ => absurd h (Nat.not_lt_zero _))
      exact ⟨h0.only hn ho, h1.only hn ho, h2.only hn ho, h3.only hn ho, h4.only ho (by have := Pa.out.lt; have := Pb.out.lt; have := R0.out.lt; omega), h5.only ho (by have := Pa.out.lt; have := Pb.out.lt; have := R0.out.lt; omega), h6.only ho (by have := Pa.out.lt; have := Pb.out.lt; have := R0.out.lt; omega), below_only h7 ho (by have := Pa.out.lt; have := Pb.out.lt; have := R0.out.lt; have := HB.out.size; omega)⟩)
    (fun l h => trivial) (fun l b w1 w2 h _ _ => trivial) (fun l b w1 w2 g h _ _ _ _ => trivial) (fun l h => by cases h) (fun l k h => by cases h) ?_ ?_
  · refine ⟨?_, ?_, ?_, ?_, ?_, ?_, ?_, ?_, trivial⟩ <;> intro L V a1 w1 hf hG hsz hφ hψ hL hdep hcl
    · obtain ⟨Fa1_, Fa2_, Fb1_, Fb2_, Pa_, Pb_, R0_, HB_⟩ := hG
      have e2 := old_slot hf 2 (by kernel_rfl)
      exact ob_pure (ex_loadR rfl e2 Pa_) rfl
    · obtain ⟨Fa1_, Fa2_, Fb1_, Fb2_, Pa_, Pb_, R0_, HB_⟩ := hG
      have d0 := dep_of hdep 0 (by kernel_rfl)
      have e7 := (new_slot hf 0 7 d0 (by kernel_rfl)).trans (show V 0 = .agg #[.bool sa1, .slice Aa1 na1 ca1, .bool sa2, .slice Aa2 na2 ca2] from hφ 0 d0)
      refine ob_go rfl (vs := #[.agg #[.bool sa1, .slice Aa1 na1 ca1, .bool sa2, .slice Aa2 na2 ca2]]) (by simp only [List.map_toArray, List.map_cons, List.map_nil, e7]) (by kernel_rfl) (of_any _ _ pa qa n (Pair.mk (a := .A pa n) (b := .A qa n) Fa1_ Fa2_) (by omega) (by omega)) ?_
      rintro e w2 ⟨⟨v, rfl, hv⟩, hb⟩
      exact ⟨v, rfl, hb, hv⟩
    · obtain ⟨Fa1_, Fa2_, Fb1_, Fb2_, Pa_, Pb_, R0_, HB_⟩ := hG
      have e3 := old_slot hf 3 (by kernel_rfl)
      exact ob_pure (ex_loadR rfl e3 Pb_) rfl
    · obtain ⟨Fa1_, Fa2_, Fb1_, Fb2_, Pa_, Pb_, R0_, HB_⟩ := hG
      have d2 := dep_of hdep 2 (by kernel_rfl)
      have e9 := (new_slot hf 2 9 d2 (by kernel_rfl)).trans (show V 2 = .agg #[.bool sb1, .slice Ab1 nb1 cb1, .bool sb2, .slice Ab2 nb2 cb2] from hφ 2 d2)
      refine ob_go rfl (vs := #[.agg #[.bool sb1, .slice Ab1 nb1 cb1, .bool sb2, .slice Ab2 nb2 cb2]]) (by simp only [List.map_toArray, List.map_cons, List.map_nil, e9]) (by kernel_rfl) (of_any _ _ pb qb n (Pair.mk (a := .A pb n) (b := .A qb n) Fb1_ Fb2_) (by omega) (by omega)) ?_
      rintro e w2 ⟨⟨v, rfl, hv⟩, hb⟩
      exact ⟨v, rfl, hb, hv⟩
    · obtain ⟨Fa1_, Fa2_, Fb1_, Fb2_, Pa_, Pb_, R0_, HB_⟩ := hG
      exact ob_allocF rfl hsz rfl
    · obtain ⟨Fa1_, Fa2_, Fb1_, Fb2_, Pa_, Pb_, R0_, HB_⟩ := hG
      exact ob_allocF rfl hsz rfl
    · obtain ⟨Fa1_, Fa2_, Fb1_, Fb2_, Pa_, Pb_, R0_, HB_⟩ := hG
      have d1 := dep_of hdep 1 (by kernel_rfl)
      have e8 := new_slot hf 1 8 d1 (by kernel_rfl)
      have p8 : Pair w1 (V 1) (.A (ofN pa qa) n) (.A (ofD pa qa) n) := hφ 1 d1
      have d4 := dep_of hdep 4 (by kernel_rfl)
      obtain ⟨g, h1, h2, h3, _⟩ := hφ 4 d4
      have hz := h3 (show (true && L 6) = false from by have h : L 6 = false := hL; rw [h]; rfl)
      exact ob_fillF rfl ((new_slot hf 4 5 d4 (by kernel_rfl)).trans h1) e8 h1 h2 hz p8 rfl rfl
    · obtain ⟨Fa1_, Fa2_, Fb1_, Fb2_, Pa_, Pb_, R0_, HB_⟩ := hG
      have d3 := dep_of hdep 3 (by kernel_rfl)
      have e10 := new_slot hf 3 10 d3 (by kernel_rfl)
      have p10 : Pair w1 (V 3) (.A (ofN pb qb) n) (.A (ofD pb qb) n) := hφ 3 d3
      have d5 := dep_of hdep 5 (by kernel_rfl)
      obtain ⟨g, h1, h2, h3, _⟩ := hφ 5 d5
      have hz := h3 (show (true && L 7) = false from by have h : L 7 = false := hL; rw [h]; rfl)
      exact ob_fillF rfl ((new_slot hf 5 6 d5 (by kernel_rfl)).trans h1) e10 h1 h2 hz p10 rfl rfl
  · intro V W3 hG hsz3 hφ hψ hne
    have hlt3 : W.heap.size ≤ W3.heap.size := hsz3
    obtain ⟨Fa1_, Fa2_, Fb1_, Fb2_, Pa_, Pb_, R0_, HB_⟩ := hG
    have Fa1 := hid Fa1_
    have Fa2 := hid Fa2_
    have Fb1 := hid Fb1_
    have Fb2 := hid Fb2_
    have Pa := hid Pa_
    have Pb := hid Pb_
    have R0 := hid R0_
    have HB := hid HB_
    have y0 : V 0 = .agg #[.bool sa1, .slice Aa1 na1 ca1, .bool sa2, .slice Aa2 na2 ca2] := hφ 0 (by decide)
    have y2 : V 2 = .agg #[.bool sb1, .slice Ab1 nb1 cb1, .bool sb2, .slice Ab2 nb2 cb2] := hφ 2 (by decide)
    obtain ⟨G3_4, y4, gb304, _, hb304⟩ := hφ 4 (by decide)
    obtain ⟨q3041, A3041, n3041, c3041, q3042, A3042, n3042, c3042, kb304, va304, vb304⟩ := hb304 rfl
    have Xt5_ := hid kb304
    have t5_1 : Hid (IntA W3 (.agg #[.bool q3041, .slice A3041 n3041 c3041]) (ofN pa qa) n) := hid va304
    have t5_2 : Hid (IntA W3 (.agg #[.bool q3042, .slice A3042 n3042 c3042]) (ofD pa qa) n) := hid vb304
    clear kb304 va304 vb304
    clear hb304
    obtain ⟨G3_5, y5, gb305, _, hb305⟩ := hφ 5 (by decide)
    obtain ⟨q3051, A3051, n3051, c3051, q3052, A3052, n3052, c3052, kb305, va305, vb305⟩ := hb305 rfl
    have Xt6_ := hid kb305
    have t6_1 : Hid (IntA W3 (.agg #[.bool q3051, .slice A3051 n3051 c3051]) (ofN pb qb) n) := hid va305
    have t6_2 : Hid (IntA W3 (.agg #[.bool q3052, .slice A3052 n3052 c3052]) (ofD pb qb) n) := hid vb305
    clear kb305 va305 vb305
    clear hb305
    have ne3_4_5 : G3_4 ≠ G3_5 := fun e => hne 4 5 (by decide) rfl rfl (by rw [y4, y5, e])
    simp only [puts, Act.put, List.setIfInBounds_toArray, List.set_cons_zero, List.set_cons_succ, y0, y2, y4, y5, ptr]
    clear hφ hψ hne y0 y2 y4 y5 Fa1_ Fa2_ Fb1_ Fb2_ Pa_ Pb_ R0_ HB_ hsz3
    go_wp2_with fail
    have SM4 : Hid (Sm (n + n) ((ofN pa qa) * (ofN pb qb))) := hid ((SO1.out.1).times (SO2.out.1) (by omega))
    have SM5 : Hid (Sm (n + n) ((ofD pa qa) * (ofD pb qb))) := hid ((SO1.out.2).times (SO2.out.2) (by omega))
    have RS6 : Hid (RS (n + n) ((Rat.divInt pa qa) * (Rat.divInt pb qb))) := hid (by have h := rat_sm (Sm.to (n := (n + n)) (SM4.out) (by omega)) (Sm.to (n := (n + n)) (SM5.out) (by omega)) (Int.mul_pos (ofD_pos pa qa) (ofD_pos pb qb)); rw [show Rat.divInt ((ofN pa qa) * (ofN pb qb)) ((ofD pa qa) * (ofD pb qb)) = ((Rat.divInt pa qa) * (Rat.divInt pb qb)) from mul_of _ _ _ _] at h; exact h)
    refine wp_region_each (by kernel_rfl) 15 25 rfl rfl (by kernel_rfl)
      [Fact.eq (.pointer (some ⟨G3_4, 0, none⟩)), Fact.eq (.agg #[.bool q3041, .slice A3041 n3041 c3041]), Fact.eq (.pointer (some ⟨G3_5, 0, none⟩)), Fact.eq (.agg #[.bool q3051, .slice A3051 n3051 c3051]), Fact.ints2 (.A (ofN pa qa) n) (.A (ofN pb qb) n), Fact.int ((ofN pa qa) * (ofN pb qb)), Fact.eq (.pointer (some ⟨G3_4, 2, none⟩)), Fact.eq (.agg #[.bool q3042, .slice A3042 n3042 c3042]), Fact.eq (.pointer (some ⟨G3_5, 2, none⟩)), Fact.eq (.agg #[.bool q3052, .slice A3052 n3052 c3052]), Fact.ints2 (.A (ofD pa qa) n) (.A (ofD pb qb) n), Fact.int ((ofD pa qa) * (ofD pb qb)), Fact.pair (.V ((ofN pa qa) * (ofN pb qb))) (.V ((ofD pa qa) * (ofD pb qb))), Fact.pair (.V (((Rat.divInt pa qa) * (Rat.divInt pb qb))).num) (.V ((((Rat.divInt pa qa) * (Rat.divInt pb qb))).den : Int)), Fact.top _]
      [.val, .val, .val, .val, .val, .val, .val, .val, .val, .val, .val, .val, .val, .val, .fillOld 0]
      (fun w' => IntA w' (.agg #[.bool sa1, .slice Aa1 na1 ca1]) (pa) n ∧ IntA w' (.agg #[.bool sa2, .slice Aa2 na2 ca2]) (qa) n ∧ IntA w' (.agg #[.bool sb1, .slice Ab1 nb1 cb1]) (pb) n ∧ IntA w' (.agg #[.bool sb2, .slice Ab2 nb2 cb2]) (qb) n ∧ Blk w' (w.heap.size) 26 #[.bool sa1, .slice Aa1 na1 ca1, .bool sa2, .slice Aa2 na2 ca2] ∧ Blk w' (w.heap.size + 1) 26 #[.bool sb1, .slice Ab1 nb1 cb1, .bool sb2, .slice Ab2 nb2 cb2] ∧ IntA w' (.agg #[.bool q3041, .slice A3041 n3041 c3041]) ((ofN pa qa)) n ∧ IntA w' (.agg #[.bool q3042, .slice A3042 n3042 c3042]) ((ofD pa qa)) n ∧ Blk w' (G3_4) 50 #[.bool q3041, .slice A3041 n3041 c3041, .bool q3042, .slice A3042 n3042 c3042] ∧ IntA w' (.agg #[.bool q3051, .slice A3051 n3051 c3051]) ((ofN pb qb)) n ∧ IntA w' (.agg #[.bool q3052, .slice A3052 n3052 c3052]) ((ofD pb qb)) n ∧ Blk w' (G3_5) 50 #[.bool q3051, .slice A3051 n3051 c3051, .bool q3052, .slice A3052 n3052 c3052] ∧ Below w.heap.size w w')
      (fun l b w' => match l with
        | 0 => if b = true then BoxR w' (w.heap.size + 1 + 1) 26 (.V (((Rat.divInt pa qa) * (Rat.divInt pb qb))).num) (.V ((((Rat.divInt pa qa) * (Rat.divInt pb qb))).den : Int)) else Blk w' (w.heap.size + 1 + 1) 26 #[.bool false, .slice none 0 0, .bool false, .slice none 0 0]
        | _ => True)
      [14] (fun l => match l with | 0 => w.heap.size + 1 + 1 | _ => 0) (by kernel_rfl)
      ⟨Fa1.out, Fa2.out, Fb1.out, Fb2.out, Pa.out, Pb.out, t5_1.out, t5_2.out, Xt5_.out, t6_1.out, t6_2.out, Xt6_.out, HB.out⟩
      (fun w1 w2 ⟨h0, h1, h2, h3, h4, h5, h6, h7, h8, h9, h10, h11, h12⟩ hb => ⟨h0.below hb, h1.below hb, h2.below hb, h3.below hb, h4.below hb, h5.below hb, h6.below hb, h7.below hb, h8.below hb, h9.below hb, h10.below hb, h11.below hb, bw_step h12 hb⟩)
      (fun w1 w2 g ⟨h0, h1, h2, h3, h4, h5, h6, h7, h8, h9, h10, h11, h12⟩ hg hn ho => by
        have hg' : W3.heap.size ≤ g ∨ g = w.heap.size + 1 + 1 := by
          rcases hg with h | ⟨l, hl, h⟩
          · exact .inl h
          · rcases l with _ | l
            · exact .inr h
            · exact absurd hl (by simp)
        exact ⟨h0.only hn ho, h1.only hn ho, h2.only hn ho, h3.only hn ho, h4.only ho (by have := Pa.out.lt; have := Pb.out.lt; have := R0.out.lt; have := Xt5_.out.lt; have := Xt6_.out.lt; omega), h5.only ho (by have := Pa.out.lt; have := Pb.out.lt; have := R0.out.lt; have := Xt5_.out.lt; have := Xt6_.out.lt; omega), h6.only hn ho, h7.only hn ho, h8.only ho (by have := Pa.out.lt; have := Pb.out.lt; have := R0.out.lt; have := Xt5_.out.lt; have := Xt6_.out.lt; omega), h9.only hn ho, h10.only hn ho, h11.only ho (by have := Pa.out.lt; have := Pb.out.lt; have := R0.out.lt; have := Xt5_.out.lt; have := Xt6_.out.lt; omega), below_only h12 ho (by have := Pa.out.lt; have := Pb.out.lt; have := R0.out.lt; have := Xt5_.out.lt; have := Xt6_.out.lt; have := HB.out.size; omega)⟩)
      (fun l hl => by
          rcases l with _ | l
          · exact R0.out
          · exact absurd hl (by simp))
      (fun l b w1 w2 hl h hb => by
          rcases l with _ | l
          · (cases b <;> exact h.below hb)
          · exact absurd hl (by simp))
      (fun l b w1 w2 g hl h hg hn ho => by
          rcases l with _ | l
          · (cases b; (exact h.only ho (Ne.symm hg)); (exact h.only (Ne.symm hg) hn ho))
          · exact absurd hl (by simp))
      (fun l hl => by
          rcases l with _ | l
          · exact R0.out.lt
          · exact absurd hl (by simp))
      (fun l k hl hk hne => by rcases l with _ | l <;> rcases k with _ | k <;> simp at hl hk hne)
      ?_ ?_
    · refine ⟨?_, ?_, ?_, ?_, ?_, ?_, ?_, ?_, ?_, ?_, ?_, ?_, ?_, ?_, ?_, trivial⟩ <;> intro L V a1 w1 hf hG hsz hφ hψ hL hdep hcl
      · obtain ⟨Fa1_, Fa2_, Fb1_, Fb2_, Pa_, Pb_, t5_1_, t5_2_, Xt5__, t6_1_, t6_2_, Xt6__, HB_⟩ := hG
        have e5 := old_slot hf 5 (by kernel_rfl)
        exact ob_pure (ex_fieldAddrF0 rfl e5) rfl
      · obtain ⟨Fa1_, Fa2_, Fb1_, Fb2_, Pa_, Pb_, t5_1_, t5_2_, Xt5__, t6_1_, t6_2_, Xt6__, HB_⟩ := hG
        have d0 := dep_of hdep 0 (by kernel_rfl)
        have e11 := (new_slot hf 0 11 d0 (by kernel_rfl)).trans (show V 0 = .pointer (some ⟨G3_4, 0, none⟩) from hφ 0 d0)
        exact ob_pure (ex_load_at0 rfl e11 Xt5__) rfl
      · obtain ⟨Fa1_, Fa2_, Fb1_, Fb2_, Pa_, Pb_, t5_1_, t5_2_, Xt5__, t6_1_, t6_2_, Xt6__, HB_⟩ := hG
        have e6 := old_slot hf 6 (by kernel_rfl)
        exact ob_pure (ex_fieldAddrF0 rfl e6) rfl
      · obtain ⟨Fa1_, Fa2_, Fb1_, Fb2_, Pa_, Pb_, t5_1_, t5_2_, Xt5__, t6_1_, t6_2_, Xt6__, HB_⟩ := hG
        have d2 := dep_of hdep 2 (by kernel_rfl)
        have e13 := (new_slot hf 2 13 d2 (by kernel_rfl)).trans (show V 2 = .pointer (some ⟨G3_5, 0, none⟩) from hφ 2 d2)
        exact ob_pure (ex_load_at0 rfl e13 Xt6__) rfl
      · obtain ⟨Fa1_, Fa2_, Fb1_, Fb2_, Pa_, Pb_, t5_1_, t5_2_, Xt5__, t6_1_, t6_2_, Xt6__, HB_⟩ := hG
        have d1 := dep_of hdep 1 (by kernel_rfl)
        have e12 := (new_slot hf 1 12 d1 (by kernel_rfl)).trans (show V 1 = .agg #[.bool q3041, .slice A3041 n3041 c3041] from hφ 1 d1)
        have d3 := dep_of hdep 3 (by kernel_rfl)
        have e14 := (new_slot hf 3 14 d3 (by kernel_rfl)).trans (show V 3 = .agg #[.bool q3051, .slice A3051 n3051 c3051] from hφ 3 d3)
        exact ob_ints2 (A := .A (ofN pa qa) n) (B := .A (ofN pb qb) n) rfl e12 t5_1_ e14 t6_1_ rfl
      · obtain ⟨Fa1_, Fa2_, Fb1_, Fb2_, Pa_, Pb_, t5_1_, t5_2_, Xt5__, t6_1_, t6_2_, Xt6__, HB_⟩ := hG
        have d4 := dep_of hdep 4 (by kernel_rfl)
        have e15 := new_slot hf 4 15 d4 (by kernel_rfl)
        have p15 : Ints2 w1 (V 4) (.A (ofN pa qa) n) (.A (ofN pb qb) n) := hφ 4 d4
        refine ob_go rfl (vs := #[V 4]) (by simp only [List.map_toArray, List.map_cons, List.map_nil, e15]) (by kernel_rfl) (product_any _ _ (ofN pa qa) (ofN pb qb) n (Ints2.mapA (A := .A (ofN pa qa) n) (B := .A (ofN pb qb) n) p15 (fun h => IntA.mono h (by omega)) (fun h => IntA.mono h (by omega))) (by omega) (by omega)) ?_
        rintro e w2 ⟨⟨v, rfl, hv⟩, hb⟩
        exact ⟨v, rfl, hb, hv⟩
      · obtain ⟨Fa1_, Fa2_, Fb1_, Fb2_, Pa_, Pb_, t5_1_, t5_2_, Xt5__, t6_1_, t6_2_, Xt6__, HB_⟩ := hG
        have e5 := old_slot hf 5 (by kernel_rfl)
        exact ob_pure (ex_fieldAddrF1 rfl e5) rfl
      · obtain ⟨Fa1_, Fa2_, Fb1_, Fb2_, Pa_, Pb_, t5_1_, t5_2_, Xt5__, t6_1_, t6_2_, Xt6__, HB_⟩ := hG
        have d6 := dep_of hdep 6 (by kernel_rfl)
        have e17 := (new_slot hf 6 17 d6 (by kernel_rfl)).trans (show V 6 = .pointer (some ⟨G3_4, 2, none⟩) from hφ 6 d6)
        exact ob_pure (ex_load_at2 rfl e17 Xt5__) rfl
      · obtain ⟨Fa1_, Fa2_, Fb1_, Fb2_, Pa_, Pb_, t5_1_, t5_2_, Xt5__, t6_1_, t6_2_, Xt6__, HB_⟩ := hG
        have e6 := old_slot hf 6 (by kernel_rfl)
        exact ob_pure (ex_fieldAddrF1 rfl e6) rfl
      · obtain ⟨Fa1_, Fa2_, Fb1_, Fb2_, Pa_, Pb_, t5_1_, t5_2_, Xt5__, t6_1_, t6_2_, Xt6__, HB_⟩ := hG
        have d8 := dep_of hdep 8 (by kernel_rfl)
        have e19 := (new_slot hf 8 19 d8 (by kernel_rfl)).trans (show V 8 = .pointer (some ⟨G3_5, 2, none⟩) from hφ 8 d8)
        exact ob_pure (ex_load_at2 rfl e19 Xt6__) rfl
      · obtain ⟨Fa1_, Fa2_, Fb1_, Fb2_, Pa_, Pb_, t5_1_, t5_2_, Xt5__, t6_1_, t6_2_, Xt6__, HB_⟩ := hG
        have d7 := dep_of hdep 7 (by kernel_rfl)
        have e18 := (new_slot hf 7 18 d7 (by kernel_rfl)).trans (show V 7 = .agg #[.bool q3042, .slice A3042 n3042 c3042] from hφ 7 d7)
        have d9 := dep_of hdep 9 (by kernel_rfl)
        have e20 := (new_slot hf 9 20 d9 (by kernel_rfl)).trans (show V 9 = .agg #[.bool q3052, .slice A3052 n3052 c3052] from hφ 9 d9)
        exact ob_ints2 (A := .A (ofD pa qa) n) (B := .A (ofD pb qb) n) rfl e18 t5_2_ e20 t6_2_ rfl
      · obtain ⟨Fa1_, Fa2_, Fb1_, Fb2_, Pa_, Pb_, t5_1_, t5_2_, Xt5__, t6_1_, t6_2_, Xt6__, HB_⟩ := hG
        have d10 := dep_of hdep 10 (by kernel_rfl)
        have e21 := new_slot hf 10 21 d10 (by kernel_rfl)
        have p21 : Ints2 w1 (V 10) (.A (ofD pa qa) n) (.A (ofD pb qb) n) := hφ 10 d10
        refine ob_go rfl (vs := #[V 10]) (by simp only [List.map_toArray, List.map_cons, List.map_nil, e21]) (by kernel_rfl) (product_any _ _ (ofD pa qa) (ofD pb qb) n (Ints2.mapA (A := .A (ofD pa qa) n) (B := .A (ofD pb qb) n) p21 (fun h => IntA.mono h (by omega)) (fun h => IntA.mono h (by omega))) (by omega) (by omega)) ?_
        rintro e w2 ⟨⟨v, rfl, hv⟩, hb⟩
        exact ⟨v, rfl, hb, hv⟩
      · obtain ⟨Fa1_, Fa2_, Fb1_, Fb2_, Pa_, Pb_, t5_1_, t5_2_, Xt5__, t6_1_, t6_2_, Xt6__, HB_⟩ := hG
        have d5 := dep_of hdep 5 (by kernel_rfl)
        have e16 := new_slot hf 5 16 d5 (by kernel_rfl)
        have p16 : IntV w1 (V 5) ((ofN pa qa) * (ofN pb qb)) := hφ 5 d5
        have d11 := dep_of hdep 11 (by kernel_rfl)
        have e22 := new_slot hf 11 22 d11 (by kernel_rfl)
        have p22 : IntV w1 (V 11) ((ofD pa qa) * (ofD pb qb)) := hφ 11 d11
        exact ob_buildF (A := .V ((ofN pa qa) * (ofN pb qb))) (B := .V ((ofD pa qa) * (ofD pb qb))) rfl e16 p16 e22 p22 rfl
      · obtain ⟨Fa1_, Fa2_, Fb1_, Fb2_, Pa_, Pb_, t5_1_, t5_2_, Xt5__, t6_1_, t6_2_, Xt6__, HB_⟩ := hG
        have d12 := dep_of hdep 12 (by kernel_rfl)
        have e23 := new_slot hf 12 23 d12 (by kernel_rfl)
        have p23 : Pair w1 (V 12) (.V ((ofN pa qa) * (ofN pb qb))) (.V ((ofD pa qa) * (ofD pb qb))) := hφ 12 d12
        refine ob_go rfl (vs := #[V 12]) (by simp only [List.map_toArray, List.map_cons, List.map_nil, e23]) (by kernel_rfl) (rat_any _ _ ((ofN pa qa) * (ofN pb qb)) ((ofD pa qa) * (ofD pb qb)) (n + n) (Pair.mapA (A := .V ((ofN pa qa) * (ofN pb qb))) (B := .V ((ofD pa qa) * (ofD pb qb))) p23 (fun h => IntV.arg h (Sm.to (SM4.out) (by omega))) (fun h => IntV.arg h (Sm.to (SM5.out) (by omega)))) (Int.mul_pos (ofD_pos pa qa) (ofD_pos pb qb)) (by omega)) ?_
        rintro e w2 ⟨⟨v, rfl, hv⟩, hb⟩
        rw [show Rat.divInt ((ofN pa qa) * (ofN pb qb)) ((ofD pa qa) * (ofD pb qb)) = ((Rat.divInt pa qa) * (Rat.divInt pb qb)) from mul_of _ _ _ _] at hv
        exact ⟨v, rfl, hb, hv⟩
      · obtain ⟨Fa1_, Fa2_, Fb1_, Fb2_, Pa_, Pb_, t5_1_, t5_2_, Xt5__, t6_1_, t6_2_, Xt6__, HB_⟩ := hG
        have d13 := dep_of hdep 13 (by kernel_rfl)
        have e24 := new_slot hf 13 24 d13 (by kernel_rfl)
        have p24 : Pair w1 (V 13) (.V (((Rat.divInt pa qa) * (Rat.divInt pb qb))).num) (.V ((((Rat.divInt pa qa) * (Rat.divInt pb qb))).den : Int)) := hφ 13 d13
        have e4 := old_slot hf 4 (by kernel_rfl)
        have hb0 := hψ 0 (by decide)
        rw [show [14].getD 0 0 = 14 from rfl, hL] at hb0
        exact ob_fillOldR rfl e4 e24 hb0 p24 (fun w2 h => h) rfl
    · intro V W7 hG hsz7 hφ hψ hne
      have hlt7 : W3.heap.size ≤ W7.heap.size := hsz7
      obtain ⟨Fa1_, Fa2_, Fb1_, Fb2_, Pa_, Pb_, t5_1_, t5_2_, Xt5__, t6_1_, t6_2_, Xt6__, HB_⟩ := hG
      have Fa1 := hid Fa1_
      have Fa2 := hid Fa2_
      have Fb1 := hid Fb1_
      have Fb2 := hid Fb2_
      have Pa := hid Pa_
      have Pb := hid Pb_
      have t5_1 := hid t5_1_
      have t5_2 := hid t5_2_
      have Xt5_ := hid Xt5__
      have t6_1 := hid t6_1_
      have t6_2 := hid t6_2_
      have Xt6_ := hid Xt6__
      have HB := hid HB_
      have y0 : V 0 = .pointer (some ⟨G3_4, 0, none⟩) := hφ 0 (by decide)
      have y1 : V 1 = .agg #[.bool q3041, .slice A3041 n3041 c3041] := hφ 1 (by decide)
      have y2 : V 2 = .pointer (some ⟨G3_5, 0, none⟩) := hφ 2 (by decide)
      have y3 : V 3 = .agg #[.bool q3051, .slice A3051 n3051 c3051] := hφ 3 (by decide)
      have y6 : V 6 = .pointer (some ⟨G3_4, 2, none⟩) := hφ 6 (by decide)
      have y7 : V 7 = .agg #[.bool q3042, .slice A3042 n3042 c3042] := hφ 7 (by decide)
      have y8 : V 8 = .pointer (some ⟨G3_5, 2, none⟩) := hφ 8 (by decide)
      have y9 : V 9 = .agg #[.bool q3052, .slice A3052 n3052 c3052] := hφ 9 (by decide)
      obtain ⟨q7501, A7501, n7501, c7501, q7502, A7502, n7502, c7502, kb750, va750, vb750⟩ := hψ 0 (by decide)
      have R0 := hid kb750
      have R01 : Hid (IntV W7 (.agg #[.bool q7501, .slice A7501 n7501 c7501]) (((Rat.divInt pa qa) * (Rat.divInt pb qb))).num) := hid va750
      have R02 : Hid (IntV W7 (.agg #[.bool q7502, .slice A7502 n7502 c7502]) ((((Rat.divInt pa qa) * (Rat.divInt pb qb))).den : Int)) := hid vb750
      clear kb750 va750 vb750
      simp only [puts, Act.put, List.setIfInBounds_toArray, List.set_cons_zero, List.set_cons_succ, y0, y1, y2, y3, y6, y7, y8, y9]
      clear hφ hψ hne y0 y1 y2 y3 y6 y7 y8 y9 Fa1_ Fa2_ Fb1_ Fb2_ Pa_ Pb_ t5_1_ t5_2_ Xt5__ t6_1_ t6_2_ Xt6__ HB_ hsz7
      have k0 := R0.out.cell 0
      have k1 := R0.out.cell 1
      have k2 := R0.out.cell 2
      have k3 := R0.out.cell 3
      go_wp2
      refine bodyPost_ret (v := .agg #[.bool q7501, .slice A7501 n7501 c7501, .bool q7502, .slice A7502 n7502 c7502]) (by simp [results, Try.results15, go_sem, k0, k1, k2, k3]) rfl ⟨⟨_, rfl, ?_⟩, HB.out⟩
      have hp := RetR.val (x := ((Rat.divInt pa qa) * (Rat.divInt pb qb))) R01.out R02.out
      exact hp
set_option maxHeartbeats 4000000 in
theorem signR_any (w : World) (va : Value) (x : Rat) (n : Nat) (ha : RatA w va x n) (h1n : 1 ≤ n) (hn : n ≤ 300000) :
    Calls Try.prog 17 #[va] w fun e w' => e = .returned (.int .i64 (cm (x).num 0)) ∧ Below w.heap.size w w' := by
  obtain ⟨pa, qa, ha, rfl⟩ := ha
  obtain ⟨sa1, Aa1, na1, ca1, sa2, Aa2, na2, ca2, rfl, h1, h2⟩ := ha.form
  have Fa1 : Hid (IntA w (.agg #[.bool sa1, .slice Aa1 na1 ca1]) pa n) := hid h1
  have Fa2 : Hid (IntA w (.agg #[.bool sa2, .slice Aa2 na2 ca2]) qa n) := hid h2
  have Sa1 := hid Fa1.out.sm
  have Sa2 := hid Fa2.out.sm
  clear h1 h2 ha
  have HB := hid (Below.refl w.heap.size w)
  obtain ⟨W, hW⟩ : ∃ W, W = (w.alloc (.cells #[.bool sa1, .slice Aa1 na1 ca1, .bool sa2, .slice Aa2 na2 ca2] 26)) := ⟨_, rfl⟩
  have hbb : Below w.heap.size w W := by rw [hW]; exact (bw_alloc (Below.refl _ _) _)
  have HB := hid (bw_step HB.out hbb)
  have Fa1 := hid (Fa1.out.below hbb)
  have Fa2 := hid (Fa2.out.below hbb)
  have Pa : Hid (Blk W (w.heap.size) 26 #[.bool sa1, .slice Aa1 na1 ca1, .bool sa2, .slice Aa2 na2 ca2]) := by
    rw [hW]
    have := Blk.new w 26 #[.bool sa1, .slice Aa1 na1 ca1, .bool sa2, .slice Aa2 na2 ca2]
    exact hid (by simpa only [World.size_alloc] using this)
  clear hbb
  go_enter Try.func17, Try.ntmps17
  go_wp2_with (with_reducible refine halt_at 3 rfl ?_)
  rw [← hW]
  clear hW
  have SO1 := hid (of_sm (Sa1.out) (Sa2.out) (show 1 ≤ n by omega))
  unfold Halted
  refine wp_list_each (by kernel_rfl) 5 7 rfl rfl (by kernel_rfl)
    [Fact.eq (.agg #[.bool sa1, .slice Aa1 na1 ca1, .bool sa2, .slice Aa2 na2 ca2]), Fact.pair (.A (ofN pa qa) n) (.A (ofD pa qa) n), Fact.num (.A (ofN pa qa) n), Fact.eq (.int .i64 (cm (ofN pa qa) 0)), Fact.eq (.int .i64 (cm (ofN pa qa) 0))]
    [.val, .val, .val, .val, .val]
    (fun w' => IntA w' (.agg #[.bool sa1, .slice Aa1 na1 ca1]) (pa) n ∧ IntA w' (.agg #[.bool sa2, .slice Aa2 na2 ca2]) (qa) n ∧ Blk w' (w.heap.size) 26 #[.bool sa1, .slice Aa1 na1 ca1, .bool sa2, .slice Aa2 na2 ca2] ∧ Below w.heap.size w w')
    (fun _ _ _ => True) [] (fun _ => 0) (by kernel_rfl)
    ⟨Fa1.out, Fa2.out, Pa.out, HB.out⟩
    (fun w1 w2 ⟨h0, h1, h2, h3⟩ hb => ⟨h0.below hb, h1.below hb, h2.below hb, bw_step h3 hb⟩)
    (fun w1 w2 g ⟨h0, h1, h2, h3⟩ hg hn ho => by
      have hg' : W.heap.size ≤ g := hg.elim id (fun ⟨_, h, _⟩ => absurd h (Nat.not_lt_zero _))
      exact ⟨h0.only hn ho, h1.only hn ho, h2.only ho (by have := Pa.out.lt; omega), below_only h3 ho (by have := Pa.out.lt; have := HB.out.size; omega)⟩)
    (fun l h => trivial) (fun l b w1 w2 h _ _ => trivial) (fun l b w1 w2 g h _ _ _ _ => trivial) (fun l h => by cases h) (fun l k h => by cases h) ?_ ?_
  · refine ⟨?_, ?_, ?_, ?_, ?_, trivial⟩ <;> intro L V a1 w1 hf hG hsz hφ hψ hL hdep hcl
    · obtain ⟨Fa1_, Fa2_, Pa_, HB_⟩ := hG
      have e1 := old_slot hf 1 (by kernel_rfl)
      exact ob_pure (ex_loadR rfl e1 Pa_) rfl
    · obtain ⟨Fa1_, Fa2_, Pa_, HB_⟩ := hG
      have d0 := dep_of hdep 0 (by kernel_rfl)
      have e3 := (new_slot hf 0 3 d0 (by kernel_rfl)).trans (show V 0 = .agg #[.bool sa1, .slice Aa1 na1 ca1, .bool sa2, .slice Aa2 na2 ca2] from hφ 0 d0)
      refine ob_go rfl (vs := #[.agg #[.bool sa1, .slice Aa1 na1 ca1, .bool sa2, .slice Aa2 na2 ca2]]) (by simp only [List.map_toArray, List.map_cons, List.map_nil, e3]) (by kernel_rfl) (of_any _ _ pa qa n (Pair.mk (a := .A pa n) (b := .A qa n) Fa1_ Fa2_) (by omega) (by omega)) ?_
      rintro e w2 ⟨⟨v, rfl, hv⟩, hb⟩
      exact ⟨v, rfl, hb, hv⟩
    · obtain ⟨Fa1_, Fa2_, Pa_, HB_⟩ := hG
      have d1 := dep_of hdep 1 (by kernel_rfl)
      have e4 := new_slot hf 1 4 d1 (by kernel_rfl)
      have p4 : Pair w1 (V 1) (.A (ofN pa qa) n) (.A (ofD pa qa) n) := hφ 1 d1
      exact ob_fieldF0 rfl e4 p4 rfl
    · obtain ⟨Fa1_, Fa2_, Pa_, HB_⟩ := hG
      have d2 := dep_of hdep 2 (by kernel_rfl)
      have e5 := new_slot hf 2 5 d2 (by kernel_rfl)
      have p5 : IntA w1 (V 2) (ofN pa qa) n := hφ 2 d2
      refine ob_go rfl (vs := #[V 2]) (by simp only [List.map_toArray, List.map_cons, List.map_nil, e5]) (by kernel_rfl) (sign_any _ (V 2) (ofN pa qa) n p5 ) ?_
      rintro e w2 ⟨he, hb⟩
      exact ⟨_, he, hb, rfl⟩
    · obtain ⟨Fa1_, Fa2_, Pa_, HB_⟩ := hG
      have d3 := dep_of hdep 3 (by kernel_rfl)
      have e6 := (new_slot hf 3 6 d3 (by kernel_rfl)).trans (show V 3 = .int .i64 (cm (ofN pa qa) 0) from hφ 3 d3)
      exact ob_pure (v := .int .i64 (cm (ofN pa qa) 0)) (ex_assignV rfl e6) rfl
  · intro V W2 hG hsz2 hφ hψ hne
    have hlt2 : W.heap.size ≤ W2.heap.size := hsz2
    obtain ⟨Fa1_, Fa2_, Pa_, HB_⟩ := hG
    have Fa1 := hid Fa1_
    have Fa2 := hid Fa2_
    have Pa := hid Pa_
    have HB := hid HB_
    have y0 : V 0 = .agg #[.bool sa1, .slice Aa1 na1 ca1, .bool sa2, .slice Aa2 na2 ca2] := hφ 0 (by decide)
    have y3 : V 3 = .int .i64 (cm (ofN pa qa) 0) := hφ 3 (by decide)
    have y4 : V 4 = .int .i64 (cm (ofN pa qa) 0) := hφ 4 (by decide)
    simp only [puts, Act.put, List.setIfInBounds_toArray, List.set_cons_zero, List.set_cons_succ, y0, y3, y4]
    clear hφ hψ hne y0 y3 y4 Fa1_ Fa2_ Pa_ HB_ hsz2
    go_wp2
    go_ret
    exact ⟨by rw [← of_val pa qa, num_sign (ofD_pos pa qa)]; first | done | rfl, HB.out⟩
end Go.Proofs.Ytklamiajcdkmnaa

