/- A part of the proof of the laws of rationals: RatFns1b. -/
import Derived.Test.YtijmjkkjopplbaaPae
import Derived.Test.YtijmjkkjopplbaaPam
import Derived.Test.YtijmjkkjopplbaaPal
import Derived.Test.YtijmjkkjopplbaaPab
import Derived.Test.YtijmjkkjopplbaaPad
import Derived.Test.YtijmjkkjopplbaaPac
import Derived.Test.YtijmjkkjopplbaaPao
import Derived.Test.YtijmjkkjopplbaaPaa
import Derived.Test.YtijmjkkjopplbaaPai
import Derived.Test.YtijmjkkjopplbaaPap
import Derived.Test.YtijmjkkjopplbaaPan
import Derived.Test.YtijmjkkjopplbaaPak
namespace Go.Proofs.Ytijmjkkjopplbaa
open Go.RowKit
set_option linter.unusedVariables false
set_option maxRecDepth 100000

theorem cm_zero_dec (a : Int) : (cm a 0 == 0) = decide (a = 0) := by
  by_cases h : a = 0
  · rw [h]; rfl
  · rw [decide_eq_false h, beq_eq_false_iff_ne]
    rcases cm_form a 0 with ⟨h, e⟩ | ⟨h, e⟩ | ⟨h, e⟩ <;> omega
theorem whole_of (p q : Int) : (cm (ofN p q % ofD p q) 0 == 0) = decide ((Rat.divInt p q).den = 1) := by
  rw [cm_zero_dec]
  have h0 := ofD_pos p q
  have hd := rat_den (p := ofN p q) h0
  rw [of_val] at hd
  have hg := gcd_pos' (p := ofN p q) h0
  have h1 := Int.gcd_dvd_left (a := ofN p q) (b := ofD p q)
  have h2 := Int.ediv_mul_cancel (Int.gcd_dvd_right (a := ofN p q) (b := ofD p q))
  rw [← hd] at h2
  rw [decide_eq_decide]
  constructor
  · intro h
    have hdv : ofD p q ∣ ofN p q := Int.dvd_of_emod_eq_zero h
    have hg2 : (Int.gcd (ofN p q) (ofD p q) : Int) = ofD p q := by
      have hh := Int.gcd_eq_right (Int.le_of_lt h0) hdv
      exact_mod_cast hh
    rw [hg2] at h2
    have h3 : ((Rat.divInt p q).den : Int) = 1 := by
      have h4 : (((Rat.divInt p q).den : Int) - 1) * ofD p q = 0 := by rw [Int.sub_mul]; omega
      rcases Int.mul_eq_zero.1 h4 with h | h <;> omega
    omega
  · intro h
    rw [h] at h2
    have h5 : ((Int.gcd (ofN p q) (ofD p q) : Nat) : Int) = ofD p q := by rw [← h2]; simp
    rw [h5] at h1
    exact Int.emod_eq_zero_of_dvd h1

set_option maxHeartbeats 4000000 in
theorem isWholeR_any (w : World) (va : Value) (x : Rat) (n : Nat) (ha : RatA w va x n) (h1n : 1 ≤ n) (hn : n ≤ 300000) :
    Calls Try.prog 48 #[va] w fun e w' => e = .returned (.bool (decide (x.den = 1))) ∧ Below w.heap.size w w' := by
  obtain ⟨pa, qa, ha, rfl⟩ := ha
  obtain ⟨sa1, Aa1, na1, ca1, sa2, Aa2, na2, ca2, rfl, h1, h2⟩ := ha.form
  have Fa1 : Hid (IntA w (.agg #[.bool sa1, .slice Aa1 na1 ca1]) pa n) := hid h1
  have Fa2 : Hid (IntA w (.agg #[.bool sa2, .slice Aa2 na2 ca2]) qa n) := hid h2
  have Sa1 := hid Fa1.out.sm
  have Sa2 := hid Fa2.out.sm
  clear h1 h2 ha
  have HB := hid (Below.refl w.heap.size w)
  obtain ⟨W, hW⟩ : ∃ W, W = (w.alloc (.cells #[.bool sa1, .slice Aa1 na1 ca1, .bool sa2, .slice Aa2 na2 ca2] 26)) := ⟨_, rfl⟩
  have hbb : Below w.heap.size w W := by rw [hW]; exact (bw_alloc (Below.refl _ _) _)
  have HB := hid (bw_step HB.out hbb)
  have Fa1 := hid (Fa1.out.below hbb)
  have Fa2 := hid (Fa2.out.below hbb)
  have Pa : Hid (Blk W (w.heap.size) 26 #[.bool sa1, .slice Aa1 na1 ca1, .bool sa2, .slice Aa2 na2 ca2]) := by
    rw [hW]
    have := Blk.new w 26 #[.bool sa1, .slice Aa1 na1 ca1, .bool sa2, .slice Aa2 na2 ca2]
    exact hid (by simpa only [World.size_alloc] using this)
  clear hbb
  have hca := whole_of pa qa
  generalize decide ((Rat.divInt pa qa).den = 1) = D at *
  go_enter Try.func48, Try.ntmps48
  go_wp2_with (with_reducible refine halt_at 7 rfl ?_)
  rw [← hW]
  clear hW
  have SO1 := hid (of_sm (Sa1.out) (Sa2.out) (show 1 ≤ n by omega))
  have lt1_Pa := Pa.out.lt
  unfold Halted
  refine wp_list_each (by kernel_rfl) 4 21 rfl rfl (by kernel_rfl)
    [Fact.eq (.agg #[.bool sa1, .slice Aa1 na1 ca1, .bool sa2, .slice Aa2 na2 ca2]), Fact.pair (.A (ofN pa qa) n) (.A (ofD pa qa) n), Fact.boxR 56 Fne (.A (ofN pa qa) n) (.A (ofD pa qa) n), Fact.top _]
    [.val, .val, .alloc 3, .fill 2]
    (fun w' => IntA w' (.agg #[.bool sa1, .slice Aa1 na1 ca1]) (pa) n ∧ IntA w' (.agg #[.bool sa2, .slice Aa2 na2 ca2]) (qa) n ∧ Blk w' (w.heap.size) 26 #[.bool sa1, .slice Aa1 na1 ca1, .bool sa2, .slice Aa2 na2 ca2] ∧ Below w.heap.size w w')
    (fun _ _ _ => True) [] (fun _ => 0) (by kernel_rfl)
    ⟨Fa1.out, Fa2.out, Pa.out, HB.out⟩
    (fun w1 w2 ⟨h0, h1, h2, h3⟩ hb => ⟨h0.below hb, h1.below hb, h2.below hb, bw_step h3 hb⟩)
    (fun w1 w2 g ⟨h0, h1, h2, h3⟩ hg hn ho => by
      have hg' : W.heap.size ≤ g := hg.elim id (fun ⟨_, h, _⟩ => absurd h (Nat.not_lt_zero _))
      exact ⟨h0.only hn ho, h1.only hn ho, h2.only ho (by have := Pa.out.lt; omega), below_only h3 ho (by have := Pa.out.lt; have := HB.out.size; omega)⟩)
    (fun l h => trivial) (fun l b w1 w2 h _ _ => trivial) (fun l b w1 w2 g h _ _ _ _ => trivial) (fun l h => by cases h) (fun l k h => by cases h) ?_ ?_
  · refine ⟨?_, ?_, ?_, ?_, trivial⟩ <;> intro L V a1 w1 hf hG hsz hφ hψ hL hdep hcl
    · obtain ⟨_, _, Pa_, _⟩ := hG
      have e1 := old_slot hf 1 (by kernel_rfl)
      exact ob_pure (ex_loadR rfl e1 Pa_) rfl
    · obtain ⟨Fa1_, Fa2_, _⟩ := hG
      have d0 := dep_of hdep 0 (by kernel_rfl)
      have e7 := (new_slot hf 0 7 d0 (by kernel_rfl)).trans (show V 0 = .agg #[.bool sa1, .slice Aa1 na1 ca1, .bool sa2, .slice Aa2 na2 ca2] from hφ 0 d0)
      refine ob_go rfl (vs := #[.agg #[.bool sa1, .slice Aa1 na1 ca1, .bool sa2, .slice Aa2 na2 ca2]]) (by simp only [List.map_toArray, List.map_cons, List.map_nil, e7]) (by kernel_rfl) (of_any _ _ pa qa n (Pair.mk (a := .A pa n) (b := .A qa n) Fa1_ Fa2_) (by omega) (by omega)) ?_
      rintro e w2 ⟨⟨v, rfl, hv⟩, hb⟩
      exact ⟨v, rfl, hb, hv⟩
    · exact ob_allocF rfl hsz rfl
    · have d1 := dep_of hdep 1 (by kernel_rfl)
      have e8 := new_slot hf 1 8 d1 (by kernel_rfl)
      have p8 : Pair w1 (V 1) (.A (ofN pa qa) n) (.A (ofD pa qa) n) := hφ 1 d1
      have d2 := dep_of hdep 2 (by kernel_rfl)
      obtain ⟨g, h1, h2, h3, _⟩ := hφ 2 d2
      have hz := h3 (show (true && L 3) = false from by have h : L 3 = false := hL; rw [h]; rfl)
      exact ob_fillF rfl ((new_slot hf 2 3 d2 (by kernel_rfl)).trans h1) e8 h1 h2 hz p8 rfl rfl
  · intro V W2 hG hsz2 hφ hψ hne
    have hlt2 : W.heap.size ≤ W2.heap.size := hsz2
    obtain ⟨Fa1_, Fa2_, Pa_, HB_⟩ := hG
    have Fa1 := hid Fa1_
    have Fa2 := hid Fa2_
    have Pa := hid Pa_
    have HB := hid HB_
    have y0 : V 0 = .agg #[.bool sa1, .slice Aa1 na1 ca1, .bool sa2, .slice Aa2 na2 ca2] := hφ 0 (by decide)
    obtain ⟨G2_2, y2, gb202, _, hb202⟩ := hφ 2 (by decide)
    obtain ⟨q2021, A2021, n2021, c2021, q2022, A2022, n2022, c2022, kb202, va202, vb202⟩ := hb202 rfl
    have Xt3_ := hid kb202
    have t3_1 : Hid (IntA W2 (.agg #[.bool q2021, .slice A2021 n2021 c2021]) (ofN pa qa) n) := hid va202
    have t3_2 : Hid (IntA W2 (.agg #[.bool q2022, .slice A2022 n2022 c2022]) (ofD pa qa) n) := hid vb202
    clear kb202 va202 vb202
    clear hb202
    simp only [puts, Act.put, List.setIfInBounds_toArray, List.set_cons_zero, List.set_cons_succ, y0, y2, ptr]
    clear hφ hψ hne y0 y2 Fa1_ Fa2_ Pa_ HB_ hsz2
    go_wp2_with (with_reducible refine halt_at 10 rfl ?_)
    have SQ3 : Hid (Sm n ((ofN pa qa) / (ofD pa qa))) := hid (Sm.quo (SO1.out.1))
    have SR3 : Hid (Sm n ((ofN pa qa) % (ofD pa qa))) := hid (Sm.rem (SO1.out.2) (by have := ofD_pos pa qa; omega))
    have lt3_Pa := Pa.out.lt
    have lt3_Xt3_ := Xt3_.out.lt
    unfold Halted
    refine wp_list_each (by kernel_rfl) 14 21 rfl rfl (by kernel_rfl)
      [Fact.eq (.pointer (some ⟨G2_2, 0, none⟩)), Fact.eq (.agg #[.bool q2021, .slice A2021 n2021 c2021]), Fact.eq (.pointer (some ⟨G2_2, 2, none⟩)), Fact.eq (.agg #[.bool q2022, .slice A2022 n2022 c2022]), Fact.tup3 ((ofN pa qa) / (ofD pa qa)) ((ofN pa qa) % (ofD pa qa)) true, Fact.tup3 ((ofN pa qa) / (ofD pa qa)) ((ofN pa qa) % (ofD pa qa)) true, Fact.int ((ofN pa qa) / (ofD pa qa)), Fact.int ((ofN pa qa) % (ofD pa qa)), Fact.eq (.bool true), Fact.box ((ofN pa qa) / (ofD pa qa)), Fact.box ((ofN pa qa) % (ofD pa qa)), Fact.top _, Fact.top _, Fact.eq (.bool true)]
      [.val, .val, .val, .val, .val, .val, .val, .val, .val, .alloc 11, .alloc 12, .fill 9, .fill 10, .val]
      (fun w' => IntA w' (.agg #[.bool sa1, .slice Aa1 na1 ca1]) (pa) n ∧ IntA w' (.agg #[.bool sa2, .slice Aa2 na2 ca2]) (qa) n ∧ Blk w' (w.heap.size) 26 #[.bool sa1, .slice Aa1 na1 ca1, .bool sa2, .slice Aa2 na2 ca2] ∧ IntA w' (.agg #[.bool q2021, .slice A2021 n2021 c2021]) ((ofN pa qa)) n ∧ IntA w' (.agg #[.bool q2022, .slice A2022 n2022 c2022]) ((ofD pa qa)) n ∧ Blk w' (G2_2) 56 #[.bool q2021, .slice A2021 n2021 c2021, .bool q2022, .slice A2022 n2022 c2022] ∧ Below w.heap.size w w')
      (fun _ _ _ => True) [] (fun _ => 0) (by kernel_rfl)
      ⟨Fa1.out, Fa2.out, Pa.out, t3_1.out, t3_2.out, Xt3_.out, HB.out⟩
      (fun w1 w2 ⟨h0, h1, h2, h3, h4, h5, h6⟩ hb => ⟨h0.below hb, h1.below hb, h2.below hb, h3.below hb, h4.below hb, h5.below hb, bw_step h6 hb⟩)
      (fun w1 w2 g ⟨h0, h1, h2, h3, h4, h5, h6⟩ hg hn ho => by
        have hg' : W2.heap.size ≤ g := hg.elim id (fun ⟨_, h, _⟩ => absurd h (Nat.not_lt_zero _))
        exact ⟨h0.only hn ho, h1.only hn ho, h2.only ho (by have := Pa.out.lt; have := Xt3_.out.lt; omega), h3.only hn ho, h4.only hn ho, h5.only ho (by have := Pa.out.lt; have := Xt3_.out.lt; omega), below_only h6 ho (by have := Pa.out.lt; have := Xt3_.out.lt; have := HB.out.size; omega)⟩)
      (fun l h => trivial) (fun l b w1 w2 h _ _ => trivial) (fun l b w1 w2 g h _ _ _ _ => trivial) (fun l h => by cases h) (fun l k h => by cases h) ?_ ?_
    · refine ⟨?_, ?_, ?_, ?_, ?_, ?_, ?_, ?_, ?_, ?_, ?_, ?_, ?_, ?_, trivial⟩ <;> intro L V a1 w1 hf hG hsz hφ hψ hL hdep hcl
      · have e3 := old_slot hf 3 (by kernel_rfl)
        exact ob_pure (ex_fieldAddrF0 rfl e3) rfl
      · obtain ⟨_, _, _, _, _, Xt3__, _⟩ := hG
        have d0 := dep_of hdep 0 (by kernel_rfl)
        have e10 := (new_slot hf 0 10 d0 (by kernel_rfl)).trans (show V 0 = .pointer (some ⟨G2_2, 0, none⟩) from hφ 0 d0)
        exact ob_pure (ex_load_at0 rfl e10 Xt3__) rfl
      · have e3 := old_slot hf 3 (by kernel_rfl)
        exact ob_pure (ex_fieldAddrF1 rfl e3) rfl
      · obtain ⟨_, _, _, _, _, Xt3__, _⟩ := hG
        have d2 := dep_of hdep 2 (by kernel_rfl)
        have e12 := (new_slot hf 2 12 d2 (by kernel_rfl)).trans (show V 2 = .pointer (some ⟨G2_2, 2, none⟩) from hφ 2 d2)
        exact ob_pure (ex_load_at2 rfl e12 Xt3__) rfl
      · obtain ⟨_, _, _, t3_1_, t3_2_, _⟩ := hG
        have d1 := dep_of hdep 1 (by kernel_rfl)
        have e11 := (new_slot hf 1 11 d1 (by kernel_rfl)).trans (show V 1 = .agg #[.bool q2021, .slice A2021 n2021 c2021] from hφ 1 d1)
        have d3 := dep_of hdep 3 (by kernel_rfl)
        have e13 := (new_slot hf 3 13 d3 (by kernel_rfl)).trans (show V 3 = .agg #[.bool q2022, .slice A2022 n2022 c2022] from hφ 3 d3)
        refine ob_go rfl (vs := #[.agg #[.bool q2021, .slice A2021 n2021 c2021], .agg #[.bool q2022, .slice A2022 n2022 c2022]]) (by simp only [List.map_toArray, List.map_cons, List.map_nil, e11, e13]) (by kernel_rfl) (divMod_any _ _ _ (ofN pa qa) (ofD pa qa) n n t3_1_ t3_2_ (by omega) (by have := ofD_pos pa qa; omega)) ?_
        rintro e w2 ⟨⟨v1, v2, rfl, h1, h2⟩, hb⟩
        exact ⟨_, rfl, hb, v1, v2, rfl, h1, h2⟩
      · have d4 := dep_of hdep 4 (by kernel_rfl)
        have e14 := new_slot hf 4 14 d4 (by kernel_rfl)
        have p14 : Tup3 w1 (V 4) ((ofN pa qa) / (ofD pa qa)) ((ofN pa qa) % (ofD pa qa)) true := hφ 4 d4
        exact ob_pure (ex_moveV rfl e14) (by exact p14)
      · have d5 := dep_of hdep 5 (by kernel_rfl)
        have e9 := new_slot hf 5 9 d5 (by kernel_rfl)
        have p9 : Tup3 w1 (V 5) ((ofN pa qa) / (ofD pa qa)) ((ofN pa qa) % (ofD pa qa)) true := hφ 5 d5
        exact ob_extract0 rfl e9 p9 rfl
      · have d5 := dep_of hdep 5 (by kernel_rfl)
        have e9 := new_slot hf 5 9 d5 (by kernel_rfl)
        have p9 : Tup3 w1 (V 5) ((ofN pa qa) / (ofD pa qa)) ((ofN pa qa) % (ofD pa qa)) true := hφ 5 d5
        exact ob_extract1 rfl e9 p9 rfl
      · have d5 := dep_of hdep 5 (by kernel_rfl)
        have e9 := new_slot hf 5 9 d5 (by kernel_rfl)
        have p9 : Tup3 w1 (V 5) ((ofN pa qa) / (ofD pa qa)) ((ofN pa qa) % (ofD pa qa)) true := hφ 5 d5
        exact ob_extract2 rfl e9 p9 rfl
      · exact ob_alloc_int rfl hsz rfl
      · exact ob_alloc_int rfl hsz rfl
      · have d6 := dep_of hdep 6 (by kernel_rfl)
        have e15 := new_slot hf 6 15 d6 (by kernel_rfl)
        have p15 : IntV w1 (V 6) ((ofN pa qa) / (ofD pa qa)) := hφ 6 d6
        have d9 := dep_of hdep 9 (by kernel_rfl)
        obtain ⟨g, h1, h2, h3⟩ := hφ 9 d9
        exact ob_fill_int rfl ((new_slot hf 9 4 d9 (by kernel_rfl)).trans h1) e15 h1 h2 h3 p15 rfl rfl
      · have d7 := dep_of hdep 7 (by kernel_rfl)
        have e16 := new_slot hf 7 16 d7 (by kernel_rfl)
        have p16 : IntV w1 (V 7) ((ofN pa qa) % (ofD pa qa)) := hφ 7 d7
        have d10 := dep_of hdep 10 (by kernel_rfl)
        obtain ⟨g, h1, h2, h3⟩ := hφ 10 d10
        exact ob_fill_int rfl ((new_slot hf 10 5 d10 (by kernel_rfl)).trans h1) e16 h1 h2 h3 p16 rfl rfl
      · have d8 := dep_of hdep 8 (by kernel_rfl)
        have e17 := (new_slot hf 8 17 d8 (by kernel_rfl)).trans (show V 8 = .bool true from hφ 8 d8)
        exact ob_pure (v := .bool true) (ex_assignV rfl e17) rfl
    · intro V W4 hG hsz4 hφ hψ hne
      have hlt4 : W2.heap.size ≤ W4.heap.size := hsz4
      obtain ⟨Fa1_, Fa2_, Pa_, t3_1_, t3_2_, Xt3__, HB_⟩ := hG
      have Fa1 := hid Fa1_
      have Fa2 := hid Fa2_
      have Pa := hid Pa_
      have t3_1 := hid t3_1_
      have t3_2 := hid t3_2_
      have Xt3_ := hid Xt3__
      have HB := hid HB_
      have y0 : V 0 = .pointer (some ⟨G2_2, 0, none⟩) := hφ 0 (by decide)
      have y1 : V 1 = .agg #[.bool q2021, .slice A2021 n2021 c2021] := hφ 1 (by decide)
      have y2 : V 2 = .pointer (some ⟨G2_2, 2, none⟩) := hφ 2 (by decide)
      have y3 : V 3 = .agg #[.bool q2022, .slice A2022 n2022 c2022] := hφ 3 (by decide)
      have y8 : V 8 = .bool true := hφ 8 (by decide)
      obtain ⟨G4_9, y9, gb409, q409, A409, n409, c409, kb409, vb409⟩ := hφ 9 (by decide)
      have Xt4_ := hid kb409
      have t4_ := hid vb409
      clear kb409 vb409
      obtain ⟨G4_10, y10, gb410, q410, A410, n410, c410, kb410, vb410⟩ := hφ 10 (by decide)
      have Xt5_ := hid kb410
      have t5_ := hid vb410
      clear kb410 vb410
      have y13 : V 13 = .bool true := hφ 13 (by decide)
      have ne4_9_10 : G4_9 ≠ G4_10 := fun e => hne 9 10 (by decide) rfl rfl (by rw [y9, y10, e])
      simp only [puts, Act.put, List.setIfInBounds_toArray, List.set_cons_zero, List.set_cons_succ, y0, y1, y2, y3, y8, y9, y10, y13, ptr]
      clear hφ hψ hne y0 y1 y2 y3 y8 y9 y10 y13 Fa1_ Fa2_ Pa_ t3_1_ t3_2_ Xt3__ HB_ hsz4
      obtain ⟨k5, l5, f5, g5⟩ := id Xt5_.out.bx
      go_wp2_with fail
      refine (sign_any _ _ ((ofN pa qa) % (ofD pa qa)) n (t5_.out.arg SR3.out)).mono ?_
      rintro e W6 ⟨rfl, hb6⟩
      clear k5 l5 f5 g5
      have HB := hid (bw_step HB.out hb6)
      have Fa1 := hid (Fa1.out.below hb6)
      have Fa2 := hid (Fa2.out.below hb6)
      have Pa := hid (Pa.out.below hb6)
      have t3_1 := hid (t3_1.out.below hb6)
      have t3_2 := hid (t3_2.out.below hb6)
      have Xt3_ := hid (Xt3_.out.below hb6)
      have Xt4_ := hid (Xt4_.out.below hb6)
      have t4_ := hid (t4_.out.below hb6)
      have Xt5_ := hid (Xt5_.out.below hb6)
      have t5_ := hid (t5_.out.below hb6)
      clear hb6
      go_wp2
      go_ret
      exact ⟨by first | rfl | rw [hca], HB.out⟩
end Go.Proofs.Ytijmjkkjopplbaa

