/- A part of the proof of the laws of rationals: WRRoundTripR. -/
import Derived.Test.YtijmjkkjopplbaaPae
import Derived.Test.YtijmjkkjopplbaaPam
import Derived.Test.YtijmjkkjopplbaaPaBc
import Derived.Test.YtijmjkkjopplbaaPaBd
import Derived.Test.YtijmjkkjopplbaaPaBb
import Derived.Test.YtijmjkkjopplbaaPbh
import Derived.Test.YtijmjkkjopplbaaPal
import Derived.Test.YtijmjkkjopplbaaPab
import Derived.Test.YtijmjkkjopplbaaPaf
import Derived.Test.YtijmjkkjopplbaaPkRationalRoundTripa
import Derived.Test.YtijmjkkjopplbaaPad
import Derived.Test.YtijmjkkjopplbaaPbb
import Derived.Test.YtijmjkkjopplbaaPac
import Derived.Test.YtijmjkkjopplbaaPav
import Derived.Test.YtijmjkkjopplbaaPay
import Derived.Test.YtijmjkkjopplbaaPao
import Derived.Test.YtijmjkkjopplbaaPat
import Derived.Test.YtijmjkkjopplbaaPba
import Derived.Test.YtijmjkkjopplbaaPaa
import Derived.Test.YtijmjkkjopplbaaPan
import Derived.Test.YtijmjkkjopplbaaPai
import Derived.Test.YtijmjkkjopplbaaPah
import Derived.Test.YtijmjkkjopplbaaPag
import Derived.Test.YtijmjkkjopplbaaPaj
import Derived.Test.YtijmjkkjopplbaaPax
import Derived.Test.YtijmjkkjopplbaaPap
import Derived.Test.YtijmjkkjopplbaaPas
import Derived.Test.YtijmjkkjopplbaaPbf
import Derived.Test.YtijmjkkjopplbaaPbe
import Derived.Test.YtijmjkkjopplbaaPbg
import Derived.Test.YtijmjkkjopplbaaPbd
import Derived.Test.YtijmjkkjopplbaaPbj
import Derived.Test.YtijmjkkjopplbaaPau
import Derived.Test.YtijmjkkjopplbaaPbi
import Derived.Test.YtijmjkkjopplbaaPar
import Derived.Test.YtijmjkkjopplbaaPaw
import Derived.Test.YtijmjkkjopplbaaPbk
import Derived.Test.YtijmjkkjopplbaaPbc
import Derived.Test.YtijmjkkjopplbaaPaBa
import Derived.Test.YtijmjkkjopplbaaPbn
import Derived.Test.YtijmjkkjopplbaaPaq
import Derived.Test.YtijmjkkjopplbaaPbl
import Derived.Test.YtijmjkkjopplbaaPkRationalRoundTripb
import Derived.Test.YtijmjkkjopplbaaPbm
import Derived.Test.YtijmjkkjopplbaaPak
import Derived.Test.YtijmjkkjopplbaaPaz
import Derived.Test.YtijmjkkjopplbaaPkRationalRoundTripc
namespace Go.Proofs.Ytijmjkkjopplbaa
open Go.RowKit
set_option linter.unusedVariables false
set_option maxRecDepth 100000

theorem ratT_size {n : Nat} {x : Rat} (h : RS n x) : (ratT x).size ≤ 20 * n + 3 := by
  have h1 := text_size h.1
  have h2 := text_size h.2
  unfold ratT
  split
  · omega
  · rw [ByteArray.size_append, ByteArray.size_append]
    have e47 : (ByteArray.mk #[47]).size = 1 := rfl
    omega
theorem rt_ok {x : Rat} (h : RS 8 x) : rE (ratT x) = 0 ∧ rP (ratT x) = x.num ∧ rQ (ratT x) = (x.den : Int) := by
  by_cases hd : x.den = 1
  · unfold ratT
    rw [if_pos hd]
    obtain ⟨h1, h2, h3⟩ := rE_whole h.1 (by decide)
    exact ⟨h1, h2, by rw [h3, hd]; rfl⟩
  · rw [ratT_frac hd]
    have hp := den_pos x
    obtain ⟨h1, h2⟩ := rE_frac h.1 h.2 (by decide) (Int.le_of_lt hp)
    have hg : Int.gcd x.num (x.den : Int) = 1 := by
      have := x.reduced
      unfold Nat.Coprime at this
      unfold Int.gcd
      rw [Int.natAbs_natCast]
      exact this
    have h3 : rcf 0 0 true false x.num (x.den : Int) = 0 := by
      unfold rcf
      rw [if_neg (by simp), if_neg (by simp), if_neg (by rw [hg]; simp; omega)]
    rw [h1, h3]
    exact ⟨rfl, h2 h3⟩

set_option maxHeartbeats 4000000 in
theorem rationalRoundTrip_long (w : World) (sa1 : Bool) (Aa1 : Option Addr) (na1 ca1 : Nat) (sa2 : Bool) (Aa2 : Option Addr) (na2 ca2 : Nat) (hl : 8 < na1 ∨ 8 < na2) :
    Calls Try.prog 10 #[.agg #[.bool sa1, .slice Aa1 na1 ca1, .bool sa2, .slice Aa2 na2 ca2]] w fun e w' => e = .returned (.bool true) ∧ Below w.heap.size w w' := by
  have HL := hid hl
  clear hl
  have HB := hid (Below.refl w.heap.size w)
  obtain ⟨W, hW⟩ : ∃ W, W = (w.alloc (.cells #[.bool sa1, .slice Aa1 na1 ca1, .bool sa2, .slice Aa2 na2 ca2] 26)) := ⟨_, rfl⟩
  have hbb : Below w.heap.size w W := by rw [hW]; exact (bw_alloc (Below.refl _ _) _)
  have HB := hid (bw_step HB.out hbb)
  have Pa : Hid (Blk W (w.heap.size) 26 #[.bool sa1, .slice Aa1 na1 ca1, .bool sa2, .slice Aa2 na2 ca2]) := by
    rw [hW]
    have := Blk.new w 26 #[.bool sa1, .slice Aa1 na1 ca1, .bool sa2, .slice Aa2 na2 ca2]
    exact hid (by simpa only [World.size_alloc] using this)
  clear hbb
  have HWs := hid (show W.heap.size = w.heap.size + 1 by rw [hW]; simp)
  have ua0 := Pa.out.cell 0
  have ua1 := Pa.out.cell 1
  have ua2 := Pa.out.cell 2
  have ua3 := Pa.out.cell 3
  go_enter Try.func10, Try.ntmps10
  go_wp2_with fail
  rw [← hW]
  clear hW
  have hbb := bw_alloc (Below.refl _ W) (.cells #[.bool sa1, .slice Aa1 na1 ca1, .bool sa2, .slice Aa2 na2 ca2] 26)
  have XL := Blk.new W 26 #[.bool sa1, .slice Aa1 na1 ca1, .bool sa2, .slice Aa2 na2 ca2]
  rw [HWs.out] at XL
  have HB := hid (bw_step HB.out hbb)
  have Pa := hid (Pa.out.below hbb)
  clear hbb
  refine (long1 _ _ sa1 Aa1 na1 ca1 sa2 Aa2 na2 ca2 XL true ⟨fun _ => HL.out, fun _ => rfl⟩).mono ?_
  rintro e W1 ⟨rfl, hb1⟩
  clear XL
  have HB := hid (bw_step HB.out hb1)
  have Pa := hid (Pa.out.below hb1)
  clear hb1
  clear ua0 ua1 ua2 ua3
  go_wp2_with fail
  refine (awakeR_any _).mono ?_
  rintro e W2 ⟨rfl, hb2⟩
  have HB := hid (bw_step HB.out hb2)
  have Pa := hid (Pa.out.below hb2)
  clear hb2
  go_wp2
  go_ret
  exact ⟨rfl, HB.out⟩
set_option maxHeartbeats 8000000 in
theorem rationalRoundTrip_short (w : World) (sa1 : Bool) (Aa1 : Option Addr) (na1 ca1 : Nat) (sa2 : Bool) (Aa2 : Option Addr) (na2 ca2 : Nat) (laa : na1 ≤ 8 ∧ na2 ≤ 8) (pa qa : Int) (fa1 : IntA w (.agg #[.bool sa1, .slice Aa1 na1 ca1]) pa 8) (fa2 : IntA w (.agg #[.bool sa2, .slice Aa2 na2 ca2]) qa 8) :
    Calls Try.prog 10 #[.agg #[.bool sa1, .slice Aa1 na1 ca1, .bool sa2, .slice Aa2 na2 ca2]] w fun e w' => e = .returned (.bool true) ∧ Below w.heap.size w w' := by
  have LAa := hid laa
  clear laa
  have Fa1 := hid fa1
  have Sa1 := hid fa1.sm
  have Fa2 := hid fa2
  have Sa2 := hid fa2.sm
  clear fa1 fa2
  have HB := hid (Below.refl w.heap.size w)
  obtain ⟨W, hW⟩ : ∃ W, W = (w.alloc (.cells #[.bool sa1, .slice Aa1 na1 ca1, .bool sa2, .slice Aa2 na2 ca2] 26)) := ⟨_, rfl⟩
  have hbb : Below w.heap.size w W := by rw [hW]; exact (bw_alloc (Below.refl _ _) _)
  have HB := hid (bw_step HB.out hbb)
  have Fa1 := hid (Fa1.out.below hbb)
  have Fa2 := hid (Fa2.out.below hbb)
  have Pa : Hid (Blk W (w.heap.size) 26 #[.bool sa1, .slice Aa1 na1 ca1, .bool sa2, .slice Aa2 na2 ca2]) := by
    rw [hW]
    have := Blk.new w 26 #[.bool sa1, .slice Aa1 na1 ca1, .bool sa2, .slice Aa2 na2 ca2]
    exact hid (by simpa only [World.size_alloc] using this)
  clear hbb
  have HWs := hid (show W.heap.size = w.heap.size + 1 by rw [hW]; simp)
  have ua0 := Pa.out.cell 0
  have ua1 := Pa.out.cell 1
  have ua2 := Pa.out.cell 2
  have ua3 := Pa.out.cell 3
  go_enter Try.func10, Try.ntmps10
  go_wp2_with fail
  rw [← hW]
  clear hW
  have hbb := bw_alloc (Below.refl _ W) (.cells #[.bool sa1, .slice Aa1 na1 ca1, .bool sa2, .slice Aa2 na2 ca2] 26)
  have XL := Blk.new W 26 #[.bool sa1, .slice Aa1 na1 ca1, .bool sa2, .slice Aa2 na2 ca2]
  rw [HWs.out] at XL
  have HB := hid (bw_step HB.out hbb)
  have Fa1 := hid (Fa1.out.below hbb)
  have Fa2 := hid (Fa2.out.below hbb)
  have Pa := hid (Pa.out.below hbb)
  clear hbb
  refine (long1 _ _ sa1 Aa1 na1 ca1 sa2 Aa2 na2 ca2 XL false ⟨fun h => absurd h (by decide), fun h => by have := LAa.out; omega⟩).mono ?_
  rintro e W1 ⟨rfl, hb1⟩
  clear XL
  have HB := hid (bw_step HB.out hb1)
  have Fa1 := hid (Fa1.out.below hb1)
  have Fa2 := hid (Fa2.out.below hb1)
  have Pa := hid (Pa.out.below hb1)
  clear hb1
  clear ua0 ua1 ua2 ua3
  have RX := hid (RS.of Sa1.out Sa2.out (show 1 ≤ 8 by decide))
  have RT := hid (rt_ok RX.out)
  go_wp2_with (with_reducible refine halt_at 10 rfl ?_)
  have lt2_Pa := Pa.out.lt
  unfold Halted
  refine wp_list_each (by kernel_rfl) 9 26 rfl rfl (by kernel_rfl)
    [Fact.eq (.agg #[.bool sa1, .slice Aa1 na1 ca1, .bool sa2, .slice Aa2 na2 ca2]), Fact.eq (.string (ratT (Rat.divInt pa qa))), Fact.pairE (.V ((Rat.divInt pa qa)).num) (.V (((Rat.divInt pa qa)).den : Int)) 0, Fact.pairE (.V ((Rat.divInt pa qa)).num) (.V (((Rat.divInt pa qa)).den : Int)) 0, Fact.pair (.V ((Rat.divInt pa qa)).num) (.V (((Rat.divInt pa qa)).den : Int)), Fact.eq (.int .i64 0), Fact.boxR 26 Rne (.V ((Rat.divInt pa qa)).num) (.V (((Rat.divInt pa qa)).den : Int)), Fact.top _, Fact.eq (.int .i64 0)]
    [.val, .val, .val, .val, .val, .val, .alloc 7, .fill 6, .val]
    (fun w' => IntA w' (.agg #[.bool sa1, .slice Aa1 na1 ca1]) (pa) 8 ∧ IntA w' (.agg #[.bool sa2, .slice Aa2 na2 ca2]) (qa) 8 ∧ Blk w' (w.heap.size) 26 #[.bool sa1, .slice Aa1 na1 ca1, .bool sa2, .slice Aa2 na2 ca2] ∧ Below w.heap.size w w')
    (fun _ _ _ => True) [] (fun _ => 0) (by kernel_rfl)
    ⟨Fa1.out, Fa2.out, Pa.out, HB.out⟩
    (fun w1 w2 ⟨h0, h1, h2, h3⟩ hb => ⟨h0.below hb, h1.below hb, h2.below hb, bw_step h3 hb⟩)
    (fun w1 w2 g ⟨h0, h1, h2, h3⟩ hg hn ho => by
      have hg' : W1.heap.size ≤ g := hg.elim id (fun ⟨_, h, _⟩ => absurd h (Nat.not_lt_zero _))
      exact ⟨h0.only hn ho, h1.only hn ho, h2.only ho (by have := Pa.out.lt; omega), below_only h3 ho (by have := Pa.out.lt; have := HB.out.size; omega)⟩)
    (fun l h => trivial) (fun l b w1 w2 h _ _ => trivial) (fun l b w1 w2 g h _ _ _ _ => trivial) (fun l h => by cases h) (fun l k h => by cases h) ?_ ?_
  · refine ⟨?_, ?_, ?_, ?_, ?_, ?_, ?_, ?_, ?_, trivial⟩ <;> intro L V a1 w1 hf hG hsz hφ hψ hL hdep hcl
    · obtain ⟨Fa1_, Fa2_, Pa_, HB_⟩ := hG
      have e1 := old_slot hf 1 (by kernel_rfl)
      exact ob_pure (ex_loadR rfl e1 Pa_) rfl
    · obtain ⟨Fa1_, Fa2_, Pa_, HB_⟩ := hG
      have d0 := dep_of hdep 0 (by kernel_rfl)
      have e10 := (new_slot hf 0 10 d0 (by kernel_rfl)).trans (show V 0 = .agg #[.bool sa1, .slice Aa1 na1 ca1, .bool sa2, .slice Aa2 na2 ca2] from hφ 0 d0)
      refine ob_go rfl (vs := #[.agg #[.bool sa1, .slice Aa1 na1 ca1, .bool sa2, .slice Aa2 na2 ca2]]) (by simp only [List.map_toArray, List.map_cons, List.map_nil, e10]) (by kernel_rfl) (formatR_any _ _ (Rat.divInt pa qa) 8 (RatA.of (Pair.mk (a := .A pa 8) (b := .A qa 8) Fa1_ Fa2_)) (by omega) (by omega)) ?_
      rintro e w2 ⟨he, hb⟩
      exact ⟨_, he, hb, rfl⟩
    · obtain ⟨Fa1_, Fa2_, Pa_, HB_⟩ := hG
      have d1 := dep_of hdep 1 (by kernel_rfl)
      have e11 := (new_slot hf 1 11 d1 (by kernel_rfl)).trans (show V 1 = .string (ratT (Rat.divInt pa qa)) from hφ 1 d1)
      refine ob_go rfl (vs := #[.string (ratT (Rat.divInt pa qa))]) (by simp only [List.map_toArray, List.map_cons, List.map_nil, e11]) (by kernel_rfl) (parseR_any _ (ratT (Rat.divInt pa qa)) (by have := ratT_size RX.out; omega)) ?_
      rintro e w2 ⟨⟨v, rfl, hv⟩, hb⟩
      rw [RT.out.2.1, RT.out.2.2] at hv
      rw [RT.out.1]
      exact ⟨_, rfl, hb, v, rfl, hv⟩
    · obtain ⟨Fa1_, Fa2_, Pa_, HB_⟩ := hG
      have d2 := dep_of hdep 2 (by kernel_rfl)
      have e12 := new_slot hf 2 12 d2 (by kernel_rfl)
      have p12 : PairE w1 (V 2) (.V ((Rat.divInt pa qa)).num) (.V (((Rat.divInt pa qa)).den : Int)) 0 := hφ 2 d2
      exact ob_pure (ex_moveV rfl e12) (by exact p12)
    · obtain ⟨Fa1_, Fa2_, Pa_, HB_⟩ := hG
      have d3 := dep_of hdep 3 (by kernel_rfl)
      have e9 := new_slot hf 3 9 d3 (by kernel_rfl)
      have p9 : PairE w1 (V 3) (.V ((Rat.divInt pa qa)).num) (.V (((Rat.divInt pa qa)).den : Int)) 0 := hφ 3 d3
      exact ob_pairE0 rfl e9 p9 rfl
    · obtain ⟨Fa1_, Fa2_, Pa_, HB_⟩ := hG
      have d3 := dep_of hdep 3 (by kernel_rfl)
      have e9 := new_slot hf 3 9 d3 (by kernel_rfl)
      have p9 : PairE w1 (V 3) (.V ((Rat.divInt pa qa)).num) (.V (((Rat.divInt pa qa)).den : Int)) 0 := hφ 3 d3
      exact ob_pairE1 rfl e9 p9 rfl
    · obtain ⟨Fa1_, Fa2_, Pa_, HB_⟩ := hG
      exact ob_allocR rfl hsz rfl
    · obtain ⟨Fa1_, Fa2_, Pa_, HB_⟩ := hG
      have d4 := dep_of hdep 4 (by kernel_rfl)
      have e13 := new_slot hf 4 13 d4 (by kernel_rfl)
      have p13 : Pair w1 (V 4) (.V ((Rat.divInt pa qa)).num) (.V (((Rat.divInt pa qa)).den : Int)) := hφ 4 d4
      have d6 := dep_of hdep 6 (by kernel_rfl)
      obtain ⟨g, h1, h2, h3, _⟩ := hφ 6 d6
      have hz := h3 (show (true && L 7) = false from by have h : L 7 = false := hL; rw [h]; rfl)
      exact ob_fillR rfl ((new_slot hf 6 3 d6 (by kernel_rfl)).trans h1) e13 h1 h2 hz p13 rfl rfl
    · obtain ⟨Fa1_, Fa2_, Pa_, HB_⟩ := hG
      have d5 := dep_of hdep 5 (by kernel_rfl)
      have e14 := (new_slot hf 5 14 d5 (by kernel_rfl)).trans (show V 5 = .int .i64 0 from hφ 5 d5)
      exact ob_pure (v := .int .i64 0) (ex_assignV rfl e14) rfl
  · intro V W3 hG hsz3 hφ hψ hne
    have hlt3 : W1.heap.size ≤ W3.heap.size := hsz3
    obtain ⟨Fa1_, Fa2_, Pa_, HB_⟩ := hG
    have Fa1 := hid Fa1_
    have Fa2 := hid Fa2_
    have Pa := hid Pa_
    have HB := hid HB_
    have y0 : V 0 = .agg #[.bool sa1, .slice Aa1 na1 ca1, .bool sa2, .slice Aa2 na2 ca2] := hφ 0 (by decide)
    have y1 : V 1 = .string (ratT (Rat.divInt pa qa)) := hφ 1 (by decide)
    have y5 : V 5 = .int .i64 0 := hφ 5 (by decide)
    obtain ⟨G3_6, y6, gb306, _, hb306⟩ := hφ 6 (by decide)
    obtain ⟨q3061, A3061, n3061, c3061, q3062, A3062, n3062, c3062, kb306, va306, vb306⟩ := hb306 rfl
    have Xt3_ := hid kb306
    have t3_1 : Hid (IntV W3 (.agg #[.bool q3061, .slice A3061 n3061 c3061]) ((Rat.divInt pa qa)).num) := hid va306
    have t3_2 : Hid (IntV W3 (.agg #[.bool q3062, .slice A3062 n3062 c3062]) (((Rat.divInt pa qa)).den : Int)) := hid vb306
    clear kb306 va306 vb306
    clear hb306
    have y8 : V 8 = .int .i64 0 := hφ 8 (by decide)
    simp only [puts, Act.put, List.setIfInBounds_toArray, List.set_cons_zero, List.set_cons_succ, y0, y1, y5, y6, y8, ptr]
    clear hφ hψ hne y0 y1 y5 y6 y8 Fa1_ Fa2_ Pa_ HB_ hsz3
    go_wp2_with fail
    have RS4 : Hid (RS 8 (Rat.divInt pa qa)) := hid ((RS.of (Sa1.out) (Sa2.out) (by omega)))
    refine wp_region_eachG (by kernel_rfl) 12 26 rfl rfl (by kernel_rfl)
      [Fact.eq (.int .i64 0), Fact.eq (.bool true), Fact.eq (.bool true), Fact.eq (.agg #[.bool q3061, .slice A3061 n3061 c3061, .bool q3062, .slice A3062 n3062 c3062]), Fact.eq (.agg #[.bool sa1, .slice Aa1 na1 ca1, .bool sa2, .slice Aa2 na2 ca2]), Fact.pair (.V ((Rat.divInt pa qa)).num) (.V (((Rat.divInt pa qa)).den : Int)), Fact.eq (.bool true), Fact.eq (.bool true), Fact.eq (.bool true), Fact.eq (.bool true), Fact.eq (.bool true), Fact.eq (.bool true)]
      [.val, .val, .val, .val, .val, .val, .val, .val, .val, .val, .val, .val]
      (fun w' => IntA w' (.agg #[.bool sa1, .slice Aa1 na1 ca1]) (pa) 8 ∧ IntA w' (.agg #[.bool sa2, .slice Aa2 na2 ca2]) (qa) 8 ∧ Blk w' (w.heap.size) 26 #[.bool sa1, .slice Aa1 na1 ca1, .bool sa2, .slice Aa2 na2 ca2] ∧ IntV w' (.agg #[.bool q3061, .slice A3061 n3061 c3061]) (((Rat.divInt pa qa)).num) ∧ IntV w' (.agg #[.bool q3062, .slice A3062 n3062 c3062]) ((((Rat.divInt pa qa)).den : Int)) ∧ Blk w' (G3_6) 26 #[.bool q3061, .slice A3061 n3061 c3061, .bool q3062, .slice A3062 n3062 c3062] ∧ Below w.heap.size w w')
      (fun _ _ _ => True) [] (fun _ => 0) (by kernel_rfl)
      ⟨Fa1.out, Fa2.out, Pa.out, t3_1.out, t3_2.out, Xt3_.out, HB.out⟩
      (fun w1 w2 ⟨h0, h1, h2, h3, h4, h5, h6⟩ hb => ⟨h0.below hb, h1.below hb, h2.below hb, h3.below hb, h4.below hb, h5.below hb, bw_step h6 hb⟩)
      (fun w1 w2 g ⟨h0, h1, h2, h3, h4, h5, h6⟩ hg hn ho => by
        have hg' : W3.heap.size ≤ g := hg.elim id (fun ⟨_, h, _⟩ => absurd h (Nat.not_lt_zero _))
        exact ⟨h0.only hn ho, h1.only hn ho, h2.only ho (by have := Pa.out.lt; have := Xt3_.out.lt; omega), h3.only hn ho, h4.only hn ho, h5.only ho (by have := Pa.out.lt; have := Xt3_.out.lt; omega), below_only h6 ho (by have := Pa.out.lt; have := Xt3_.out.lt; have := HB.out.size; omega)⟩)
      (fun l h => trivial) (fun l b w1 w2 h _ _ => trivial) (fun l b w1 w2 g h _ _ _ _ => trivial) (fun l h => by cases h) (fun l k h => by cases h) ?_ ?_
    · refine ⟨?_, ?_, ?_, ?_, ?_, ?_, ?_, ?_, ?_, ?_, ?_, ?_, trivial⟩ <;> intro L V a1 w1 hf hG hsz hφ hψ hL hdep hcl
      · obtain ⟨Fa1_, Fa2_, Pa_, t3_1_, t3_2_, Xt3__, HB_⟩ := hG
        refine og_none rfl ?_
        have e4 := old_slot hf 4 (by kernel_rfl)
        exact ob_pure (v := .int .i64 0) (ex_moveV rfl e4) rfl
      · obtain ⟨Fa1_, Fa2_, Pa_, t3_1_, t3_2_, Xt3__, HB_⟩ := hG
        refine og_none rfl ?_
        have d0 := dep_of hdep 0 (by kernel_rfl)
        have e15 := (new_slot hf 0 15 d0 (by kernel_rfl)).trans (show V 0 = .int .i64 0 from hφ 0 d0)
        exact ob_pure (ex_eql_err rfl e15 rfl) (show Value.bool (0 == 0) = Value.bool true from by simp)
      · obtain ⟨Fa1_, Fa2_, Pa_, t3_1_, t3_2_, Xt3__, HB_⟩ := hG
        refine og_none rfl ?_
        have d1 := dep_of hdep 1 (by kernel_rfl)
        have e16 := (new_slot hf 1 16 d1 (by kernel_rfl)).trans (show V 1 = .bool true from hφ 1 d1)
        exact ob_pure (v := .bool true) (ex_moveV rfl e16) rfl
      · obtain ⟨Fa1_, Fa2_, Pa_, t3_1_, t3_2_, Xt3__, HB_⟩ := hG
        have dg := dep_of hdep 2 (by kernel_rfl)
        refine og_want rfl (yielded_of hf (n := 26) (by kernel_rfl) rfl 2 17 dg (by kernel_rfl) (show V 2 = .bool true from hφ 2 dg)) ?_
        have e3 := old_slot hf 3 (by kernel_rfl)
        exact ob_pure (ex_loadR rfl e3 Xt3__) rfl
      · obtain ⟨Fa1_, Fa2_, Pa_, t3_1_, t3_2_, Xt3__, HB_⟩ := hG
        have dg := dep_of hdep 2 (by kernel_rfl)
        refine og_want rfl (yielded_of hf (n := 26) (by kernel_rfl) rfl 2 17 dg (by kernel_rfl) (show V 2 = .bool true from hφ 2 dg)) ?_
        have e1 := old_slot hf 1 (by kernel_rfl)
        exact ob_pure (ex_loadR rfl e1 Pa_) rfl
      · obtain ⟨Fa1_, Fa2_, Pa_, t3_1_, t3_2_, Xt3__, HB_⟩ := hG
        have dg := dep_of hdep 2 (by kernel_rfl)
        refine og_want rfl (yielded_of hf (n := 26) (by kernel_rfl) rfl 2 17 dg (by kernel_rfl) (show V 2 = .bool true from hφ 2 dg)) ?_
        have d4 := dep_of hdep 4 (by kernel_rfl)
        have e19 := (new_slot hf 4 19 d4 (by kernel_rfl)).trans (show V 4 = .agg #[.bool sa1, .slice Aa1 na1 ca1, .bool sa2, .slice Aa2 na2 ca2] from hφ 4 d4)
        refine ob_go rfl (vs := #[.agg #[.bool sa1, .slice Aa1 na1 ca1, .bool sa2, .slice Aa2 na2 ca2]]) (by simp only [List.map_toArray, List.map_cons, List.map_nil, e19]) (by kernel_rfl) (rnormalizeR_any _ _ (Rat.divInt pa qa) 8 (RatA.of (Pair.mk (a := .A pa 8) (b := .A qa 8) Fa1_ Fa2_)) (by omega) (by omega)) ?_
        rintro e w2 ⟨⟨v, rfl, hv⟩, hb⟩
        exact ⟨v, rfl, hb, hv⟩
      · obtain ⟨Fa1_, Fa2_, Pa_, t3_1_, t3_2_, Xt3__, HB_⟩ := hG
        have dg := dep_of hdep 2 (by kernel_rfl)
        refine og_want rfl (yielded_of hf (n := 26) (by kernel_rfl) rfl 2 17 dg (by kernel_rfl) (show V 2 = .bool true from hφ 2 dg)) ?_
        have d3 := dep_of hdep 3 (by kernel_rfl)
        have e18 := (new_slot hf 3 18 d3 (by kernel_rfl)).trans (show V 3 = .agg #[.bool q3061, .slice A3061 n3061 c3061, .bool q3062, .slice A3062 n3062 c3062] from hφ 3 d3)
        have d5 := dep_of hdep 5 (by kernel_rfl)
        have e20 := new_slot hf 5 20 d5 (by kernel_rfl)
        have p20 : Pair w1 (V 5) (.V ((Rat.divInt pa qa)).num) (.V (((Rat.divInt pa qa)).den : Int)) := hφ 5 d5
        refine ob_go rfl (vs := #[.agg #[.bool q3061, .slice A3061 n3061 c3061, .bool q3062, .slice A3062 n3062 c3062], V 5]) (by simp only [List.map_toArray, List.map_cons, List.map_nil, e18, e20]) (by kernel_rfl) (rsameR_any _ _ _ (Rat.divInt pa qa) (Pair.mk (a := .V ((Rat.divInt pa qa)).num) (b := .V (((Rat.divInt pa qa)).den : Int)) t3_1_ t3_2_) p20) ?_
        rintro e w2 ⟨he, hb⟩
        exact ⟨_, he, hb, rfl⟩
      · obtain ⟨Fa1_, Fa2_, Pa_, t3_1_, t3_2_, Xt3__, HB_⟩ := hG
        refine og_none rfl ?_
        have d2 := dep_of hdep 2 (by kernel_rfl)
        have e17 := (new_slot hf 2 17 d2 (by kernel_rfl)).trans (show V 2 = .bool true from hφ 2 d2)
        have d6 := dep_of hdep 6 (by kernel_rfl)
        have e21 := (new_slot hf 6 21 d6 (by kernel_rfl)).trans (show V 6 = .bool true from hφ 6 d6)
        exact ob_pure (v := .bool true) (ex_pick_true rfl e17 e21) rfl
      · obtain ⟨Fa1_, Fa2_, Pa_, t3_1_, t3_2_, Xt3__, HB_⟩ := hG
        refine og_none rfl ?_
        have d7 := dep_of hdep 7 (by kernel_rfl)
        have e22 := (new_slot hf 7 22 d7 (by kernel_rfl)).trans (show V 7 = .bool true from hφ 7 d7)
        exact ob_pure (v := .bool true) (ex_moveV rfl e22) rfl
      · obtain ⟨Fa1_, Fa2_, Pa_, t3_1_, t3_2_, Xt3__, HB_⟩ := hG
        have dg := dep_of hdep 8 (by kernel_rfl)
        refine og_want rfl (yielded_of hf (n := 26) (by kernel_rfl) rfl 8 23 dg (by kernel_rfl) (show V 8 = .bool true from hφ 8 dg)) ?_
        refine ob_go rfl (vs := #[]) (by simp only [List.map_toArray, List.map_nil]) (by kernel_rfl) (awakeR_any _) ?_
        rintro e w2 ⟨he, hb⟩
        exact ⟨_, he, hb, rfl⟩
      · obtain ⟨Fa1_, Fa2_, Pa_, t3_1_, t3_2_, Xt3__, HB_⟩ := hG
        refine og_none rfl ?_
        have d8 := dep_of hdep 8 (by kernel_rfl)
        have e23 := (new_slot hf 8 23 d8 (by kernel_rfl)).trans (show V 8 = .bool true from hφ 8 d8)
        have d9 := dep_of hdep 9 (by kernel_rfl)
        have e24 := (new_slot hf 9 24 d9 (by kernel_rfl)).trans (show V 9 = .bool true from hφ 9 d9)
        exact ob_pure (v := .bool true) (ex_pick_true rfl e23 e24) rfl
      · obtain ⟨Fa1_, Fa2_, Pa_, t3_1_, t3_2_, Xt3__, HB_⟩ := hG
        refine og_none rfl ?_
        have d10 := dep_of hdep 10 (by kernel_rfl)
        have e25 := (new_slot hf 10 25 d10 (by kernel_rfl)).trans (show V 10 = .bool true from hφ 10 d10)
        exact ob_pure (v := .bool true) (ex_assignV rfl e25) rfl
    · intro V W5 hG hsz5 hφ hψ hne
      have hlt5 : W3.heap.size ≤ W5.heap.size := hsz5
      obtain ⟨Fa1_, Fa2_, Pa_, t3_1_, t3_2_, Xt3__, HB_⟩ := hG
      have Fa1 := hid Fa1_
      have Fa2 := hid Fa2_
      have Pa := hid Pa_
      have t3_1 := hid t3_1_
      have t3_2 := hid t3_2_
      have Xt3_ := hid Xt3__
      have HB := hid HB_
      have y0 : V 0 = .int .i64 0 := hφ 0 (by decide)
      have y1 : V 1 = .bool true := hφ 1 (by decide)
      have y2 : V 2 = .bool true := hφ 2 (by decide)
      have y3 : V 3 = .agg #[.bool q3061, .slice A3061 n3061 c3061, .bool q3062, .slice A3062 n3062 c3062] := hφ 3 (by decide)
      have y4 : V 4 = .agg #[.bool sa1, .slice Aa1 na1 ca1, .bool sa2, .slice Aa2 na2 ca2] := hφ 4 (by decide)
      have y6 : V 6 = .bool true := hφ 6 (by decide)
      have y7 : V 7 = .bool true := hφ 7 (by decide)
      have y8 : V 8 = .bool true := hφ 8 (by decide)
      have y9 : V 9 = .bool true := hφ 9 (by decide)
      have y10 : V 10 = .bool true := hφ 10 (by decide)
      have y11 : V 11 = .bool true := hφ 11 (by decide)
      simp only [puts, Act.put, List.setIfInBounds_toArray, List.set_cons_zero, List.set_cons_succ, y0, y1, y2, y3, y4, y6, y7, y8, y9, y10, y11]
      clear hφ hψ hne y0 y1 y2 y3 y4 y6 y7 y8 y9 y10 y11 Fa1_ Fa2_ Pa_ t3_1_ t3_2_ Xt3__ HB_ hsz5
      go_wp2
      go_ret
      exact ⟨rfl, HB.out⟩
theorem rationalRoundTrip_walk (w : World) (va : Value) (ha : ArgR w va) :
    Calls Try.prog 10 #[va] w fun e w' => e = .returned (.bool true) ∧ Below w.heap.size w w' := by
  obtain ⟨sa1, Aa1, na1, ca1, sa2, Aa2, na2, ca2, rfl, ka⟩ := ha.short
  rcases ka 8 (by decide) with ka | ⟨la1, la2, pa, qa, fa1, fa2⟩
  · exact rationalRoundTrip_long w sa1 Aa1 na1 ca1 sa2 Aa2 na2 ca2 (by omega)
  exact rationalRoundTrip_short w sa1 Aa1 na1 ca1 sa2 Aa2 na2 ca2 ⟨la1, la2⟩ pa qa fa1 fa2
end Go.Proofs.Ytijmjkkjopplbaa

