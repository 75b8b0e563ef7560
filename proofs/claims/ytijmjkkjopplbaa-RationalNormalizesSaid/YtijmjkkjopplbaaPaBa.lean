/- A part of the proof of the laws of rationals: RatFns1. -/
import Derived.Test.YtijmjkkjopplbaaPae
import Derived.Test.YtijmjkkjopplbaaPam
import Derived.Test.YtijmjkkjopplbaaPal
import Derived.Test.YtijmjkkjopplbaaPab
import Derived.Test.YtijmjkkjopplbaaPad
import Derived.Test.YtijmjkkjopplbaaPac
import Derived.Test.YtijmjkkjopplbaaPao
import Derived.Test.YtijmjkkjopplbaaPaa
import Derived.Test.YtijmjkkjopplbaaPai
import Derived.Test.YtijmjkkjopplbaaPap
import Derived.Test.YtijmjkkjopplbaaPar
import Derived.Test.YtijmjkkjopplbaaPan
import Derived.Test.YtijmjkkjopplbaaPak
namespace Go.Proofs.Ytijmjkkjopplbaa
open Go.RowKit
set_option linter.unusedVariables false
set_option maxRecDepth 100000

theorem floor_of (p q : Int) : (ofN p q) / (ofD p q) = (Rat.divInt p q).floor := by rw [← of_val p q, rat_floor (ofD_pos p q)]
theorem near_of (p q : Int) : (2 * ofN p q + ofD p q) / (2 * ofD p q) = (Rat.divInt p q + half).floor := by
  have e : Rat.divInt p q + half = Rat.divInt (2 * ofN p q + ofD p q) (2 * ofD p q) := by
    rw [← of_val p q, half, ← add_divInt (ofD_pos p q) (by decide), Int.mul_comm (ofN p q) 2, Int.one_mul, Int.mul_comm (ofD p q) 2]
  rw [e, rat_floor (Int.mul_pos (by decide) (ofD_pos p q))]
set_option maxHeartbeats 4000000 in
theorem floorR_any (w : World) (va : Value) (x : Rat) (n : Nat) (ha : RatA w va x n) (h1n : 1 ≤ n) (hn : n ≤ 300000) :
    Calls Try.prog 21 #[va] w fun e w' => RetI w' (x).floor e ∧ Below w.heap.size w w' := by
  obtain ⟨pa, qa, ha, rfl⟩ := ha
  obtain ⟨sa1, Aa1, na1, ca1, sa2, Aa2, na2, ca2, rfl, h1, h2⟩ := ha.form
  have Fa1 : Hid (IntA w (.agg #[.bool sa1, .slice Aa1 na1 ca1]) pa n) := hid h1
  have Fa2 : Hid (IntA w (.agg #[.bool sa2, .slice Aa2 na2 ca2]) qa n) := hid h2
  have Sa1 := hid Fa1.out.sm
  have Sa2 := hid Fa2.out.sm
  clear h1 h2 ha
  have HB := hid (Below.refl w.heap.size w)
  obtain ⟨W, hW⟩ : ∃ W, W = ((w.alloc (.cells #[.bool sa1, .slice Aa1 na1 ca1, .bool sa2, .slice Aa2 na2 ca2] 26)).alloc (.cells #[.bool false, .slice none 0 0] 24)) := ⟨_, rfl⟩
  have hbb : Below w.heap.size w W := by rw [hW]; exact (bw_alloc (bw_alloc (Below.refl _ _) _) _)
  have HB := hid (bw_step HB.out hbb)
  have Fa1 := hid (Fa1.out.below hbb)
  have Fa2 := hid (Fa2.out.below hbb)
  have Pa : Hid (Blk W (w.heap.size) 26 #[.bool sa1, .slice Aa1 na1 ca1, .bool sa2, .slice Aa2 na2 ca2]) := by
    rw [hW]
    have := (Blk.new w 26 #[.bool sa1, .slice Aa1 na1 ca1, .bool sa2, .slice Aa2 na2 ca2]).below (bw_alloc (Below.refl _ _) (.cells #[.bool false, .slice none 0 0] 24))
    exact hid (by simpa only [World.size_alloc] using this)
  have R0 : Hid (Blk W (w.heap.size + 1) 24 #[.bool false, .slice none 0 0]) := by
    rw [hW]
    have := Blk.new (w.alloc (.cells #[.bool sa1, .slice Aa1 na1 ca1, .bool sa2, .slice Aa2 na2 ca2] 26)) 24 #[.bool false, .slice none 0 0]
    exact hid (by simpa only [World.size_alloc] using this)
  clear hbb
  go_enter Try.func21, Try.ntmps21
  go_wp2_with (with_reducible refine halt_at 7 rfl ?_)
  rw [← hW]
  clear hW
  have SO1 := hid (of_sm (Sa1.out) (Sa2.out) (show 1 ≤ n by omega))
  have lt1_Pa := Pa.out.lt
  have lt1_R0 := R0.out.lt
  unfold Halted
  refine wp_list_each (by kernel_rfl) 4 19 rfl rfl (by kernel_rfl)
    [Fact.eq (.agg #[.bool sa1, .slice Aa1 na1 ca1, .bool sa2, .slice Aa2 na2 ca2]), Fact.pair (.A (ofN pa qa) n) (.A (ofD pa qa) n), Fact.boxR 56 Fne (.A (ofN pa qa) n) (.A (ofD pa qa) n), Fact.top _]
    [.val, .val, .alloc 3, .fill 2]
    (fun w' => IntA w' (.agg #[.bool sa1, .slice Aa1 na1 ca1]) (pa) n ∧ IntA w' (.agg #[.bool sa2, .slice Aa2 na2 ca2]) (qa) n ∧ Blk w' (w.heap.size) 26 #[.bool sa1, .slice Aa1 na1 ca1, .bool sa2, .slice Aa2 na2 ca2] ∧ Blk w' (w.heap.size + 1) 24 #[.bool false, .slice none 0 0] ∧ Below w.heap.size w w')
    (fun _ _ _ => True) [] (fun _ => 0) (by kernel_rfl)
    ⟨Fa1.out, Fa2.out, Pa.out, R0.out, HB.out⟩
    (fun w1 w2 ⟨h0, h1, h2, h3, h4⟩ hb => ⟨h0.below hb, h1.below hb, h2.below hb, h3.below hb, bw_step h4 hb⟩)
    (fun w1 w2 g ⟨h0, h1, h2, h3, h4⟩ hg hn ho => by
      have hg' : W.heap.size ≤ g := hg.elim id (fun ⟨_, h, _⟩ => absurd h (Nat.not_lt_zero _))
      exact ⟨h0.only hn ho, h1.only hn ho, h2.only ho (by have := Pa.out.lt; have := R0.out.lt; omega), h3.only ho (by have := Pa.out.lt; have := R0.out.lt; omega), below_only h4 ho (by have := Pa.out.lt; have := R0.out.lt; have := HB.out.size; omega)⟩)
    (fun l h => trivial) (fun l b w1 w2 h _ _ => trivial) (fun l b w1 w2 g h _ _ _ _ => trivial) (fun l h => by cases h) (fun l k h => by cases h) ?_ ?_
  · refine ⟨?_, ?_, ?_, ?_, trivial⟩ <;> intro L V a1 w1 hf hG hsz hφ hψ hL hdep hcl
    · obtain ⟨_, _, Pa_, _⟩ := hG
      have e1 := old_slot hf 1 (by kernel_rfl)
      exact ob_pure (ex_loadR rfl e1 Pa_) rfl
    · obtain ⟨Fa1_, Fa2_, _⟩ := hG
      have d0 := dep_of hdep 0 (by kernel_rfl)
      have e7 := (new_slot hf 0 7 d0 (by kernel_rfl)).trans (show V 0 = .agg #[.bool sa1, .slice Aa1 na1 ca1, .bool sa2, .slice Aa2 na2 ca2] from hφ 0 d0)
      refine ob_go rfl (vs := #[.agg #[.bool sa1, .slice Aa1 na1 ca1, .bool sa2, .slice Aa2 na2 ca2]]) (by simp only [List.map_toArray, List.map_cons, List.map_nil, e7]) (by kernel_rfl) (of_any _ _ pa qa n (Pair.mk (a := .A pa n) (b := .A qa n) Fa1_ Fa2_) (by omega) (by omega)) ?_
      rintro e w2 ⟨⟨v, rfl, hv⟩, hb⟩
      exact ⟨v, rfl, hb, hv⟩
    · exact ob_allocF rfl hsz rfl
    · have d1 := dep_of hdep 1 (by kernel_rfl)
      have e8 := new_slot hf 1 8 d1 (by kernel_rfl)
      have p8 : Pair w1 (V 1) (.A (ofN pa qa) n) (.A (ofD pa qa) n) := hφ 1 d1
      have d2 := dep_of hdep 2 (by kernel_rfl)
      obtain ⟨g, h1, h2, h3, _⟩ := hφ 2 d2
      have hz := h3 (show (true && L 3) = false from by have h : L 3 = false := hL; rw [h]; rfl)
      exact ob_fillF rfl ((new_slot hf 2 3 d2 (by kernel_rfl)).trans h1) e8 h1 h2 hz p8 rfl rfl
  · intro V W2 hG hsz2 hφ hψ hne
    have hlt2 : W.heap.size ≤ W2.heap.size := hsz2
    obtain ⟨Fa1_, Fa2_, Pa_, R0_, HB_⟩ := hG
    have Fa1 := hid Fa1_
    have Fa2 := hid Fa2_
    have Pa := hid Pa_
    have R0 := hid R0_
    have HB := hid HB_
    have y0 : V 0 = .agg #[.bool sa1, .slice Aa1 na1 ca1, .bool sa2, .slice Aa2 na2 ca2] := hφ 0 (by decide)
    obtain ⟨G2_2, y2, gb202, _, hb202⟩ := hφ 2 (by decide)
    obtain ⟨q2021, A2021, n2021, c2021, q2022, A2022, n2022, c2022, kb202, va202, vb202⟩ := hb202 rfl
    have Xt3_ := hid kb202
    have t3_1 : Hid (IntA W2 (.agg #[.bool q2021, .slice A2021 n2021 c2021]) (ofN pa qa) n) := hid va202
    have t3_2 : Hid (IntA W2 (.agg #[.bool q2022, .slice A2022 n2022 c2022]) (ofD pa qa) n) := hid vb202
    clear kb202 va202 vb202
    clear hb202
    simp only [puts, Act.put, List.setIfInBounds_toArray, List.set_cons_zero, List.set_cons_succ, y0, y2, ptr]
    clear hφ hψ hne y0 y2 Fa1_ Fa2_ Pa_ R0_ HB_ hsz2
    go_wp2_with (with_reducible refine halt_at 10 rfl ?_)
    have SQ3 : Hid (Sm n ((ofN pa qa) / (ofD pa qa))) := hid (Sm.quo (SO1.out.1))
    have SR3 : Hid (Sm n ((ofN pa qa) % (ofD pa qa))) := hid (Sm.rem (SO1.out.2) (by have := ofD_pos pa qa; omega))
    have lt3_Pa := Pa.out.lt
    have lt3_R0 := R0.out.lt
    have lt3_Xt3_ := Xt3_.out.lt
    unfold Halted
    refine wp_list_each (by kernel_rfl) 14 19 rfl rfl (by kernel_rfl)
      [Fact.eq (.pointer (some ⟨G2_2, 0, none⟩)), Fact.eq (.agg #[.bool q2021, .slice A2021 n2021 c2021]), Fact.eq (.pointer (some ⟨G2_2, 2, none⟩)), Fact.eq (.agg #[.bool q2022, .slice A2022 n2022 c2022]), Fact.tup3 ((ofN pa qa) / (ofD pa qa)) ((ofN pa qa) % (ofD pa qa)) true, Fact.tup3 ((ofN pa qa) / (ofD pa qa)) ((ofN pa qa) % (ofD pa qa)) true, Fact.int ((ofN pa qa) / (ofD pa qa)), Fact.int ((ofN pa qa) % (ofD pa qa)), Fact.eq (.bool true), Fact.box ((ofN pa qa) / (ofD pa qa)), Fact.box ((ofN pa qa) % (ofD pa qa)), Fact.top _, Fact.top _, Fact.eq (.bool true)]
      [.val, .val, .val, .val, .val, .val, .val, .val, .val, .alloc 11, .alloc 12, .fill 9, .fill 10, .val]
      (fun w' => IntA w' (.agg #[.bool sa1, .slice Aa1 na1 ca1]) (pa) n ∧ IntA w' (.agg #[.bool sa2, .slice Aa2 na2 ca2]) (qa) n ∧ Blk w' (w.heap.size) 26 #[.bool sa1, .slice Aa1 na1 ca1, .bool sa2, .slice Aa2 na2 ca2] ∧ Blk w' (w.heap.size + 1) 24 #[.bool false, .slice none 0 0] ∧ IntA w' (.agg #[.bool q2021, .slice A2021 n2021 c2021]) ((ofN pa qa)) n ∧ IntA w' (.agg #[.bool q2022, .slice A2022 n2022 c2022]) ((ofD pa qa)) n ∧ Blk w' (G2_2) 56 #[.bool q2021, .slice A2021 n2021 c2021, .bool q2022, .slice A2022 n2022 c2022] ∧ Below w.heap.size w w')
      (fun _ _ _ => True) [] (fun _ => 0) (by kernel_rfl)
      ⟨Fa1.out, Fa2.out, Pa.out, R0.out, t3_1.out, t3_2.out, Xt3_.out, HB.out⟩
      (fun w1 w2 ⟨h0, h1, h2, h3, h4, h5, h6, h7⟩ hb => ⟨h0.below hb, h1.below hb, h2.below hb, h3.below hb, h4.below hb, h5.below hb, h6.below hb, bw_step h7 hb⟩)
      (fun w1 w2 g ⟨h0, h1, h2, h3, h4, h5, h6, h7⟩ hg hn ho => by
        have hg' : W2.heap.size ≤ g := hg.elim id (fun ⟨_, h, _⟩ => absurd h (Nat.not_lt_zero _))
        exact ⟨h0.only hn ho, h1.only hn ho, h2.only ho (by have := Pa.out.lt; have := R0.out.lt; have := Xt3_.out.lt; omega), h3.only ho (by have := Pa.out.lt; have := R0.out.lt; have := Xt3_.out.lt; omega), h4.only hn ho, h5.only hn ho, h6.only ho (by have := Pa.out.lt; have := R0.out.lt; have := Xt3_.out.lt; omega), below_only h7 ho (by have := Pa.out.lt; have := R0.out.lt; have := Xt3_.out.lt; have := HB.out.size; omega)⟩)
      (fun l h => trivial) (fun l b w1 w2 h _ _ => trivial) (fun l b w1 w2 g h _ _ _ _ => trivial) (fun l h => by cases h) (fun l k h => by cases h) ?_ ?_
    · refine ⟨?_, ?_, ?_, ?_, ?_, ?_, ?_, ?_, ?_, ?_, ?_, ?_, ?_, ?_, trivial⟩ <;> intro L V a1 w1 hf hG hsz hφ hψ hL hdep hcl
      · have e3 := old_slot hf 3 (by kernel_rfl)
        exact ob_pure (ex_fieldAddrF0 rfl e3) rfl
      · obtain ⟨_, _, _, _, _, _, Xt3__, _⟩ := hG
        have d0 := dep_of hdep 0 (by kernel_rfl)
        have e10 := (new_slot hf 0 10 d0 (by kernel_rfl)).trans (show V 0 = .pointer (some ⟨G2_2, 0, none⟩) from hφ 0 d0)
        exact ob_pure (ex_load_at0 rfl e10 Xt3__) rfl
      · have e3 := old_slot hf 3 (by kernel_rfl)
        exact ob_pure (ex_fieldAddrF1 rfl e3) rfl
      · obtain ⟨_, _, _, _, _, _, Xt3__, _⟩ := hG
        have d2 := dep_of hdep 2 (by kernel_rfl)
        have e12 := (new_slot hf 2 12 d2 (by kernel_rfl)).trans (show V 2 = .pointer (some ⟨G2_2, 2, none⟩) from hφ 2 d2)
        exact ob_pure (ex_load_at2 rfl e12 Xt3__) rfl
      · obtain ⟨_, _, _, _, t3_1_, t3_2_, _⟩ := hG
        have d1 := dep_of hdep 1 (by kernel_rfl)
        have e11 := (new_slot hf 1 11 d1 (by kernel_rfl)).trans (show V 1 = .agg #[.bool q2021, .slice A2021 n2021 c2021] from hφ 1 d1)
        have d3 := dep_of hdep 3 (by kernel_rfl)
        have e13 := (new_slot hf 3 13 d3 (by kernel_rfl)).trans (show V 3 = .agg #[.bool q2022, .slice A2022 n2022 c2022] from hφ 3 d3)
        refine ob_go rfl (vs := #[.agg #[.bool q2021, .slice A2021 n2021 c2021], .agg #[.bool q2022, .slice A2022 n2022 c2022]]) (by simp only [List.map_toArray, List.map_cons, List.map_nil, e11, e13]) (by kernel_rfl) (divMod_any _ _ _ (ofN pa qa) (ofD pa qa) n n t3_1_ t3_2_ (by omega) (by have := ofD_pos pa qa; omega)) ?_
        rintro e w2 ⟨⟨v1, v2, rfl, h1, h2⟩, hb⟩
        exact ⟨_, rfl, hb, v1, v2, rfl, h1, h2⟩
      · have d4 := dep_of hdep 4 (by kernel_rfl)
        have e14 := new_slot hf 4 14 d4 (by kernel_rfl)
        have p14 : Tup3 w1 (V 4) ((ofN pa qa) / (ofD pa qa)) ((ofN pa qa) % (ofD pa qa)) true := hφ 4 d4
        exact ob_pure (ex_moveV rfl e14) (by exact p14)
      · have d5 := dep_of hdep 5 (by kernel_rfl)
        have e9 := new_slot hf 5 9 d5 (by kernel_rfl)
        have p9 : Tup3 w1 (V 5) ((ofN pa qa) / (ofD pa qa)) ((ofN pa qa) % (ofD pa qa)) true := hφ 5 d5
        exact ob_extract0 rfl e9 p9 rfl
      · have d5 := dep_of hdep 5 (by kernel_rfl)
        have e9 := new_slot hf 5 9 d5 (by kernel_rfl)
        have p9 : Tup3 w1 (V 5) ((ofN pa qa) / (ofD pa qa)) ((ofN pa qa) % (ofD pa qa)) true := hφ 5 d5
        exact ob_extract1 rfl e9 p9 rfl
      · have d5 := dep_of hdep 5 (by kernel_rfl)
        have e9 := new_slot hf 5 9 d5 (by kernel_rfl)
        have p9 : Tup3 w1 (V 5) ((ofN pa qa) / (ofD pa qa)) ((ofN pa qa) % (ofD pa qa)) true := hφ 5 d5
        exact ob_extract2 rfl e9 p9 rfl
      · exact ob_alloc_int rfl hsz rfl
      · exact ob_alloc_int rfl hsz rfl
      · have d6 := dep_of hdep 6 (by kernel_rfl)
        have e15 := new_slot hf 6 15 d6 (by kernel_rfl)
        have p15 : IntV w1 (V 6) ((ofN pa qa) / (ofD pa qa)) := hφ 6 d6
        have d9 := dep_of hdep 9 (by kernel_rfl)
        obtain ⟨g, h1, h2, h3⟩ := hφ 9 d9
        exact ob_fill_int rfl ((new_slot hf 9 4 d9 (by kernel_rfl)).trans h1) e15 h1 h2 h3 p15 rfl rfl
      · have d7 := dep_of hdep 7 (by kernel_rfl)
        have e16 := new_slot hf 7 16 d7 (by kernel_rfl)
        have p16 : IntV w1 (V 7) ((ofN pa qa) % (ofD pa qa)) := hφ 7 d7
        have d10 := dep_of hdep 10 (by kernel_rfl)
        obtain ⟨g, h1, h2, h3⟩ := hφ 10 d10
        exact ob_fill_int rfl ((new_slot hf 10 5 d10 (by kernel_rfl)).trans h1) e16 h1 h2 h3 p16 rfl rfl
      · have d8 := dep_of hdep 8 (by kernel_rfl)
        have e17 := (new_slot hf 8 17 d8 (by kernel_rfl)).trans (show V 8 = .bool true from hφ 8 d8)
        exact ob_pure (v := .bool true) (ex_assignV rfl e17) rfl
    · intro V W4 hG hsz4 hφ hψ hne
      have hlt4 : W2.heap.size ≤ W4.heap.size := hsz4
      obtain ⟨Fa1_, Fa2_, Pa_, R0_, t3_1_, t3_2_, Xt3__, HB_⟩ := hG
      have Fa1 := hid Fa1_
      have Fa2 := hid Fa2_
      have Pa := hid Pa_
      have R0 := hid R0_
      have t3_1 := hid t3_1_
      have t3_2 := hid t3_2_
      have Xt3_ := hid Xt3__
      have HB := hid HB_
      have y0 : V 0 = .pointer (some ⟨G2_2, 0, none⟩) := hφ 0 (by decide)
      have y1 : V 1 = .agg #[.bool q2021, .slice A2021 n2021 c2021] := hφ 1 (by decide)
      have y2 : V 2 = .pointer (some ⟨G2_2, 2, none⟩) := hφ 2 (by decide)
      have y3 : V 3 = .agg #[.bool q2022, .slice A2022 n2022 c2022] := hφ 3 (by decide)
      have y8 : V 8 = .bool true := hφ 8 (by decide)
      obtain ⟨G4_9, y9, gb409, q409, A409, n409, c409, kb409, vb409⟩ := hφ 9 (by decide)
      have Xt4_ := hid kb409
      have t4_ := hid vb409
      clear kb409 vb409
      obtain ⟨G4_10, y10, gb410, q410, A410, n410, c410, kb410, vb410⟩ := hφ 10 (by decide)
      have Xt5_ := hid kb410
      have t5_ := hid vb410
      clear kb410 vb410
      have y13 : V 13 = .bool true := hφ 13 (by decide)
      have ne4_9_10 : G4_9 ≠ G4_10 := fun e => hne 9 10 (by decide) rfl rfl (by rw [y9, y10, e])
      simp only [puts, Act.put, List.setIfInBounds_toArray, List.set_cons_zero, List.set_cons_succ, y0, y1, y2, y3, y8, y9, y10, y13, ptr]
      clear hφ hψ hne y0 y1 y2 y3 y8 y9 y10 y13 Fa1_ Fa2_ Pa_ R0_ t3_1_ t3_2_ Xt3__ HB_ hsz4
      go_wp2_with (with_reducible refine halt_at 18 rfl ?_)
      unfold Halted
      refine wp_list_each (by kernel_rfl) 2 19 rfl rfl (by kernel_rfl)
        [Fact.eq (.agg #[.bool q409, .slice A409 n409 c409]), Fact.top _]
        [.val, .fillOld 0]
        (fun w' => IntA w' (.agg #[.bool sa1, .slice Aa1 na1 ca1]) (pa) n ∧ IntA w' (.agg #[.bool sa2, .slice Aa2 na2 ca2]) (qa) n ∧ Blk w' (w.heap.size) 26 #[.bool sa1, .slice Aa1 na1 ca1, .bool sa2, .slice Aa2 na2 ca2] ∧ IntA w' (.agg #[.bool q2021, .slice A2021 n2021 c2021]) ((ofN pa qa)) n ∧ IntA w' (.agg #[.bool q2022, .slice A2022 n2022 c2022]) ((ofD pa qa)) n ∧ Blk w' (G2_2) 56 #[.bool q2021, .slice A2021 n2021 c2021, .bool q2022, .slice A2022 n2022 c2022] ∧ Blk w' (G4_9) 24 #[.bool q409, .slice A409 n409 c409] ∧ IntV w' (.agg #[.bool q409, .slice A409 n409 c409]) (((ofN pa qa) / (ofD pa qa))) ∧ Blk w' (G4_10) 24 #[.bool q410, .slice A410 n410 c410] ∧ IntV w' (.agg #[.bool q410, .slice A410 n410 c410]) (((ofN pa qa) % (ofD pa qa))) ∧ Below w.heap.size w w')
        (fun l b w' => match l with
          | 0 => if b = true then BoxI w' (w.heap.size + 1) ((ofN pa qa) / (ofD pa qa)) else Blk w' (w.heap.size + 1) 24 #[.bool false, .slice none 0 0]
          | _ => True)
        [1] (fun l => match l with | 0 => w.heap.size + 1 | _ => 0) (by kernel_rfl)
        ⟨Fa1.out, Fa2.out, Pa.out, t3_1.out, t3_2.out, Xt3_.out, Xt4_.out, t4_.out, Xt5_.out, t5_.out, HB.out⟩
        (fun w1 w2 ⟨h0, h1, h2, h3, h4, h5, h6, h7, h8, h9, h10⟩ hb => ⟨h0.below hb, h1.below hb, h2.below hb, h3.below hb, h4.below hb, h5.below hb, h6.below hb, h7.below hb, h8.below hb, h9.below hb, bw_step h10 hb⟩)
        (fun w1 w2 g ⟨h0, h1, h2, h3, h4, h5, h6, h7, h8, h9, h10⟩ hg hn ho => by
          have hg' : W4.heap.size ≤ g ∨ g = w.heap.size + 1 := by
            rcases hg with h | ⟨l, hl, h⟩
            · exact .inl h
            · rcases l with _ | l
              · exact .inr h
              · exact absurd hl (by simp)
          exact ⟨h0.only hn ho, h1.only hn ho, h2.only ho (by have := Pa.out.lt; have := R0.out.lt; have := Xt3_.out.lt; have := Xt4_.out.lt; have := Xt5_.out.lt; omega), h3.only hn ho, h4.only hn ho, h5.only ho (by have := Pa.out.lt; have := R0.out.lt; have := Xt3_.out.lt; have := Xt4_.out.lt; have := Xt5_.out.lt; omega), h6.only ho (by have := Pa.out.lt; have := R0.out.lt; have := Xt3_.out.lt; have := Xt4_.out.lt; have := Xt5_.out.lt; omega), h7.only hn ho, h8.only ho (by have := Pa.out.lt; have := R0.out.lt; have := Xt3_.out.lt; have := Xt4_.out.lt; have := Xt5_.out.lt; omega), h9.only hn ho, below_only h10 ho (by have := Pa.out.lt; have := R0.out.lt; have := Xt3_.out.lt; have := Xt4_.out.lt; have := Xt5_.out.lt; have := HB.out.size; omega)⟩)
        (fun l hl => by
            rcases l with _ | l
            · exact R0.out
            · exact absurd hl (by simp))
        (fun l b w1 w2 hl h hb => by
            rcases l with _ | l
            · (cases b <;> exact h.below hb)
            · exact absurd hl (by simp))
        (fun l b w1 w2 g hl h hg hn ho => by
            rcases l with _ | l
            · (cases b; (exact h.only ho (Ne.symm hg)); (exact h.only (Ne.symm hg) hn ho))
            · exact absurd hl (by simp))
        (fun l hl => by
            rcases l with _ | l
            · exact R0.out.lt
            · exact absurd hl (by simp))
        (fun l k hl hk hne => by rcases l with _ | l <;> rcases k with _ | k <;> simp at hl hk hne)
        ?_ ?_
      · refine ⟨?_, ?_, trivial⟩ <;> intro L V a1 w1 hf hG hsz hφ hψ hL hdep hcl
        · obtain ⟨_, _, _, _, _, _, Xt4__, _⟩ := hG
          have e4 := old_slot hf 4 (by kernel_rfl)
          exact ob_load_int rfl e4 Xt4__ rfl
        · obtain ⟨_, _, _, _, _, _, _, t4__, _⟩ := hG
          have d0 := dep_of hdep 0 (by kernel_rfl)
          have e18 := (new_slot hf 0 18 d0 (by kernel_rfl)).trans (show V 0 = .agg #[.bool q409, .slice A409 n409 c409] from hφ 0 d0)
          have e2 := old_slot hf 2 (by kernel_rfl)
          have hb0 := hψ 0 (by decide)
          rw [show [1].getD 0 0 = 1 from rfl, hL] at hb0
          exact ob_fillOld_int rfl e2 e18 hb0 t4__ (fun w2 h => h) rfl
      · intro V W5 hG hsz5 hφ hψ hne
        have hlt5 : W4.heap.size ≤ W5.heap.size := hsz5
        obtain ⟨Fa1_, Fa2_, Pa_, t3_1_, t3_2_, Xt3__, Xt4__, t4__, Xt5__, t5__, HB_⟩ := hG
        have Fa1 := hid Fa1_
        have Fa2 := hid Fa2_
        have Pa := hid Pa_
        have t3_1 := hid t3_1_
        have t3_2 := hid t3_2_
        have Xt3_ := hid Xt3__
        have Xt4_ := hid Xt4__
        have t4_ := hid t4__
        have Xt5_ := hid Xt5__
        have t5_ := hid t5__
        have HB := hid HB_
        have y0 : V 0 = .agg #[.bool q409, .slice A409 n409 c409] := hφ 0 (by decide)
        obtain ⟨q550, A550, n550, c550, kb550, vb550⟩ := hψ 0 (by decide)
        have R0 := hid kb550
        have VR0 := hid vb550
        clear kb550 vb550
        simp only [puts, Act.put, List.setIfInBounds_toArray, List.set_cons_zero, List.set_cons_succ, y0]
        clear hφ hψ hne y0 Fa1_ Fa2_ Pa_ t3_1_ t3_2_ Xt3__ Xt4__ t4__ Xt5__ t5__ HB_ hsz5
        have k0 := R0.out.cell 0
        have k1 := R0.out.cell 1
        go_wp2
        refine bodyPost_ret (v := .agg #[.bool q550, .slice A550 n550 c550]) (by simp [results, Try.results21, go_sem, k0, k1]) rfl ⟨⟨_, rfl, ?_⟩, HB.out⟩
        have hp := VR0.out
        rw [show ((ofN pa qa) / (ofD pa qa)) = ((Rat.divInt pa qa)).floor from floor_of _ _] at hp
        exact hp
set_option maxHeartbeats 4000000 in
theorem nearestR_any (w : World) (va : Value) (x : Rat) (n : Nat) (ha : RatA w va x n) (h1n : 1 ≤ n) (hn : n ≤ 300000) :
    Calls Try.prog 23 #[va] w fun e w' => RetI w' (x + half).floor e ∧ Below w.heap.size w w' := by
  obtain ⟨pa, qa, ha, rfl⟩ := ha
  obtain ⟨sa1, Aa1, na1, ca1, sa2, Aa2, na2, ca2, rfl, h1, h2⟩ := ha.form
  have Fa1 : Hid (IntA w (.agg #[.bool sa1, .slice Aa1 na1 ca1]) pa n) := hid h1
  have Fa2 : Hid (IntA w (.agg #[.bool sa2, .slice Aa2 na2 ca2]) qa n) := hid h2
  have Sa1 := hid Fa1.out.sm
  have Sa2 := hid Fa2.out.sm
  clear h1 h2 ha
  have HB := hid (Below.refl w.heap.size w)
  obtain ⟨W, hW⟩ : ∃ W, W = ((w.alloc (.cells #[.bool sa1, .slice Aa1 na1 ca1, .bool sa2, .slice Aa2 na2 ca2] 26)).alloc (.cells #[.bool false, .slice none 0 0] 24)) := ⟨_, rfl⟩
  have hbb : Below w.heap.size w W := by rw [hW]; exact (bw_alloc (bw_alloc (Below.refl _ _) _) _)
  have HB := hid (bw_step HB.out hbb)
  have Fa1 := hid (Fa1.out.below hbb)
  have Fa2 := hid (Fa2.out.below hbb)
  have Pa : Hid (Blk W (w.heap.size) 26 #[.bool sa1, .slice Aa1 na1 ca1, .bool sa2, .slice Aa2 na2 ca2]) := by
    rw [hW]
    have := (Blk.new w 26 #[.bool sa1, .slice Aa1 na1 ca1, .bool sa2, .slice Aa2 na2 ca2]).below (bw_alloc (Below.refl _ _) (.cells #[.bool false, .slice none 0 0] 24))
    exact hid (by simpa only [World.size_alloc] using this)
  have R0 : Hid (Blk W (w.heap.size + 1) 24 #[.bool false, .slice none 0 0]) := by
    rw [hW]
    have := Blk.new (w.alloc (.cells #[.bool sa1, .slice Aa1 na1 ca1, .bool sa2, .slice Aa2 na2 ca2] 26)) 24 #[.bool false, .slice none 0 0]
    exact hid (by simpa only [World.size_alloc] using this)
  clear hbb
  go_enter Try.func23, Try.ntmps23
  go_wp2_with (with_reducible refine halt_at 8 rfl ?_)
  rw [← hW]
  clear hW
  have SO1 := hid (of_sm (Sa1.out) (Sa2.out) (show 1 ≤ n by omega))
  have lt1_Pa := Pa.out.lt
  have lt1_R0 := R0.out.lt
  unfold Halted
  refine wp_list_each (by kernel_rfl) 7 31 rfl rfl (by kernel_rfl)
    [Fact.eq (.agg #[.bool sa1, .slice Aa1 na1 ca1, .bool sa2, .slice Aa2 na2 ca2]), Fact.pair (.A (ofN pa qa) n) (.A (ofD pa qa) n), Fact.int 2, Fact.boxR 56 Fne (.A (ofN pa qa) n) (.A (ofD pa qa) n), Fact.box 2, Fact.top _, Fact.top _]
    [.val, .val, .val, .alloc 5, .alloc 6, .fill 3, .fill 4]
    (fun w' => IntA w' (.agg #[.bool sa1, .slice Aa1 na1 ca1]) (pa) n ∧ IntA w' (.agg #[.bool sa2, .slice Aa2 na2 ca2]) (qa) n ∧ Blk w' (w.heap.size) 26 #[.bool sa1, .slice Aa1 na1 ca1, .bool sa2, .slice Aa2 na2 ca2] ∧ Blk w' (w.heap.size + 1) 24 #[.bool false, .slice none 0 0] ∧ Below w.heap.size w w')
    (fun _ _ _ => True) [] (fun _ => 0) (by kernel_rfl)
    ⟨Fa1.out, Fa2.out, Pa.out, R0.out, HB.out⟩
    (fun w1 w2 ⟨h0, h1, h2, h3, h4⟩ hb => ⟨h0.below hb, h1.below hb, h2.below hb, h3.below hb, bw_step h4 hb⟩)
    (fun w1 w2 g ⟨h0, h1, h2, h3, h4⟩ hg hn ho => by
      have hg' : W.heap.size ≤ g := hg.elim id (fun ⟨_, h, _⟩ => absurd h (Nat.not_lt_zero _))
      exact ⟨h0.only hn ho, h1.only hn ho, h2.only ho (by have := Pa.out.lt; have := R0.out.lt; omega), h3.only ho (by have := Pa.out.lt; have := R0.out.lt; omega), below_only h4 ho (by have := Pa.out.lt; have := R0.out.lt; have := HB.out.size; omega)⟩)
    (fun l h => trivial) (fun l b w1 w2 h _ _ => trivial) (fun l b w1 w2 g h _ _ _ _ => trivial) (fun l h => by cases h) (fun l k h => by cases h) ?_ ?_
  · refine ⟨?_, ?_, ?_, ?_, ?_, ?_, ?_, trivial⟩ <;> intro L V a1 w1 hf hG hsz hφ hψ hL hdep hcl
    · obtain ⟨_, _, Pa_, _⟩ := hG
      have e1 := old_slot hf 1 (by kernel_rfl)
      exact ob_pure (ex_loadR rfl e1 Pa_) rfl
    · obtain ⟨Fa1_, Fa2_, _⟩ := hG
      have d0 := dep_of hdep 0 (by kernel_rfl)
      have e8 := (new_slot hf 0 8 d0 (by kernel_rfl)).trans (show V 0 = .agg #[.bool sa1, .slice Aa1 na1 ca1, .bool sa2, .slice Aa2 na2 ca2] from hφ 0 d0)
      refine ob_go rfl (vs := #[.agg #[.bool sa1, .slice Aa1 na1 ca1, .bool sa2, .slice Aa2 na2 ca2]]) (by simp only [List.map_toArray, List.map_cons, List.map_nil, e8]) (by kernel_rfl) (of_any _ _ pa qa n (Pair.mk (a := .A pa n) (b := .A qa n) Fa1_ Fa2_) (by omega) (by omega)) ?_
      rintro e w2 ⟨⟨v, rfl, hv⟩, hb⟩
      exact ⟨v, rfl, hb, hv⟩
    · refine ob_go rfl (vs := #[.int .i64 2]) (by simp only [List.map_toArray, List.map_cons, List.map_nil, ev_const]) (by kernel_rfl) (small_any _ 2 (by decide) (by decide)) ?_
      rintro e w2 ⟨⟨v, rfl, hv⟩, hb⟩
      exact ⟨v, rfl, hb, hv⟩
    · exact ob_allocF rfl hsz rfl
    · exact ob_alloc_int rfl hsz rfl
    · have d1 := dep_of hdep 1 (by kernel_rfl)
      have e9 := new_slot hf 1 9 d1 (by kernel_rfl)
      have p9 : Pair w1 (V 1) (.A (ofN pa qa) n) (.A (ofD pa qa) n) := hφ 1 d1
      have d3 := dep_of hdep 3 (by kernel_rfl)
      obtain ⟨g, h1, h2, h3, _⟩ := hφ 3 d3
      have hz := h3 (show (true && L 5) = false from by have h : L 5 = false := hL; rw [h]; rfl)
      exact ob_fillF rfl ((new_slot hf 3 3 d3 (by kernel_rfl)).trans h1) e9 h1 h2 hz p9 rfl rfl
    · have d2 := dep_of hdep 2 (by kernel_rfl)
      have e10 := new_slot hf 2 10 d2 (by kernel_rfl)
      have p10 : IntV w1 (V 2) 2 := hφ 2 d2
      have d4 := dep_of hdep 4 (by kernel_rfl)
      obtain ⟨g, h1, h2, h3⟩ := hφ 4 d4
      exact ob_fill_int rfl ((new_slot hf 4 4 d4 (by kernel_rfl)).trans h1) e10 h1 h2 h3 p10 rfl rfl
  · intro V W2 hG hsz2 hφ hψ hne
    have hlt2 : W.heap.size ≤ W2.heap.size := hsz2
    obtain ⟨Fa1_, Fa2_, Pa_, R0_, HB_⟩ := hG
    have Fa1 := hid Fa1_
    have Fa2 := hid Fa2_
    have Pa := hid Pa_
    have R0 := hid R0_
    have HB := hid HB_
    have y0 : V 0 = .agg #[.bool sa1, .slice Aa1 na1 ca1, .bool sa2, .slice Aa2 na2 ca2] := hφ 0 (by decide)
    obtain ⟨G2_3, y3, gb203, _, hb203⟩ := hφ 3 (by decide)
    obtain ⟨q2031, A2031, n2031, c2031, q2032, A2032, n2032, c2032, kb203, va203, vb203⟩ := hb203 rfl
    have Xt3_ := hid kb203
    have t3_1 : Hid (IntA W2 (.agg #[.bool q2031, .slice A2031 n2031 c2031]) (ofN pa qa) n) := hid va203
    have t3_2 : Hid (IntA W2 (.agg #[.bool q2032, .slice A2032 n2032 c2032]) (ofD pa qa) n) := hid vb203
    clear kb203 va203 vb203
    clear hb203
    obtain ⟨G2_4, y4, gb204, q204, A204, n204, c204, kb204, vb204⟩ := hφ 4 (by decide)
    have Xt4_ := hid kb204
    have t4_ := hid vb204
    clear kb204 vb204
    have ne2_3_4 : G2_3 ≠ G2_4 := fun e => hne 3 4 (by decide) rfl rfl (by rw [y3, y4, e])
    simp only [puts, Act.put, List.setIfInBounds_toArray, List.set_cons_zero, List.set_cons_succ, y0, y3, y4, ptr]
    clear hφ hψ hne y0 y3 y4 Fa1_ Fa2_ Pa_ R0_ HB_ hsz2
    go_wp2_with fail
    have SM3 : Hid (Sm (n + n) (2 * (ofN pa qa))) := hid (((Sm.one (n := 2) (by decide) (by decide))).times (SO1.out.1) (by omega))
    have SM4 : Hid (Sm ((n + n) + 1) ((2 * (ofN pa qa)) + (ofD pa qa))) := hid ((SM3.out).plus (SO1.out.2) (by omega) (by omega))
    have SM5 : Hid (Sm (n + n) (2 * (ofD pa qa))) := hid (((Sm.one (n := 2) (by decide) (by decide))).times (SO1.out.2) (by omega))
    have SQ6 : Hid (Sm ((n + n) + 1) (((2 * (ofN pa qa)) + (ofD pa qa)) / (2 * (ofD pa qa)))) := hid (Sm.quo (SM4.out))
    have SR6 : Hid (Sm (n + n) (((2 * (ofN pa qa)) + (ofD pa qa)) % (2 * (ofD pa qa)))) := hid (Sm.rem (SM5.out) (by have := Int.mul_pos (show (0 : Int) < 2 by decide) (ofD_pos pa qa); omega))
    have lt6_Pa := Pa.out.lt
    have lt6_R0 := R0.out.lt
    have lt6_Xt3_ := Xt3_.out.lt
    have lt6_Xt4_ := Xt4_.out.lt
    refine wp_region_each (by kernel_rfl) 24 31 rfl rfl (by kernel_rfl)
      [Fact.eq (.agg #[.bool q204, .slice A204 n204 c204]), Fact.eq (.pointer (some ⟨G2_3, 0, none⟩)), Fact.eq (.agg #[.bool q2031, .slice A2031 n2031 c2031]), Fact.ints2 (.V 2) (.A (ofN pa qa) n), Fact.int (2 * (ofN pa qa)), Fact.eq (.pointer (some ⟨G2_3, 2, none⟩)), Fact.eq (.agg #[.bool q2032, .slice A2032 n2032 c2032]), Fact.ints2 (.V (2 * (ofN pa qa))) (.A (ofD pa qa) n), Fact.int ((2 * (ofN pa qa)) + (ofD pa qa)), Fact.eq (.agg #[.bool q204, .slice A204 n204 c204]), Fact.eq (.pointer (some ⟨G2_3, 2, none⟩)), Fact.eq (.agg #[.bool q2032, .slice A2032 n2032 c2032]), Fact.ints2 (.V 2) (.A (ofD pa qa) n), Fact.int (2 * (ofD pa qa)), Fact.tup3 (((2 * (ofN pa qa)) + (ofD pa qa)) / (2 * (ofD pa qa))) (((2 * (ofN pa qa)) + (ofD pa qa)) % (2 * (ofD pa qa))) true, Fact.tup3 (((2 * (ofN pa qa)) + (ofD pa qa)) / (2 * (ofD pa qa))) (((2 * (ofN pa qa)) + (ofD pa qa)) % (2 * (ofD pa qa))) true, Fact.int (((2 * (ofN pa qa)) + (ofD pa qa)) / (2 * (ofD pa qa))), Fact.int (((2 * (ofN pa qa)) + (ofD pa qa)) % (2 * (ofD pa qa))), Fact.eq (.bool true), Fact.box (((2 * (ofN pa qa)) + (ofD pa qa)) / (2 * (ofD pa qa))), Fact.box (((2 * (ofN pa qa)) + (ofD pa qa)) % (2 * (ofD pa qa))), Fact.top _, Fact.top _, Fact.eq (.bool true)]
      [.val, .val, .val, .val, .val, .val, .val, .val, .val, .val, .val, .val, .val, .val, .val, .val, .val, .val, .val, .alloc 21, .alloc 22, .fill 19, .fill 20, .val]
      (fun w' => IntA w' (.agg #[.bool sa1, .slice Aa1 na1 ca1]) (pa) n ∧ IntA w' (.agg #[.bool sa2, .slice Aa2 na2 ca2]) (qa) n ∧ Blk w' (w.heap.size) 26 #[.bool sa1, .slice Aa1 na1 ca1, .bool sa2, .slice Aa2 na2 ca2] ∧ Blk w' (w.heap.size + 1) 24 #[.bool false, .slice none 0 0] ∧ IntA w' (.agg #[.bool q2031, .slice A2031 n2031 c2031]) ((ofN pa qa)) n ∧ IntA w' (.agg #[.bool q2032, .slice A2032 n2032 c2032]) ((ofD pa qa)) n ∧ Blk w' (G2_3) 56 #[.bool q2031, .slice A2031 n2031 c2031, .bool q2032, .slice A2032 n2032 c2032] ∧ Blk w' (G2_4) 24 #[.bool q204, .slice A204 n204 c204] ∧ IntV w' (.agg #[.bool q204, .slice A204 n204 c204]) (2) ∧ Below w.heap.size w w')
      (fun _ _ _ => True) [] (fun _ => 0) (by kernel_rfl)
      ⟨Fa1.out, Fa2.out, Pa.out, R0.out, t3_1.out, t3_2.out, Xt3_.out, Xt4_.out, t4_.out, HB.out⟩
      (fun w1 w2 ⟨h0, h1, h2, h3, h4, h5, h6, h7, h8, h9⟩ hb => ⟨h0.below hb, h1.below hb, h2.below hb, h3.below hb, h4.below hb, h5.below hb, h6.below hb, h7.below hb, h8.below hb, bw_step h9 hb⟩)
      (fun w1 w2 g ⟨h0, h1, h2, h3, h4, h5, h6, h7, h8, h9⟩ hg hn ho => by
        have hg' : W2.heap.size ≤ g := hg.elim id (fun ⟨_, h, _⟩ => absurd h (Nat.not_lt_zero _))
        exact ⟨h0.only hn ho, h1.only hn ho, h2.only ho (by have := Pa.out.lt; have := R0.out.lt; have := Xt3_.out.lt; have := Xt4_.out.lt; omega), h3.only ho (by have := Pa.out.lt; have := R0.out.lt; have := Xt3_.out.lt; have := Xt4_.out.lt; omega), h4.only hn ho, h5.only hn ho, h6.only ho (by have := Pa.out.lt; have := R0.out.lt; have := Xt3_.out.lt; have := Xt4_.out.lt; omega), h7.only ho (by have := Pa.out.lt; have := R0.out.lt; have := Xt3_.out.lt; have := Xt4_.out.lt; omega), h8.only hn ho, below_only h9 ho (by have := Pa.out.lt; have := R0.out.lt; have := Xt3_.out.lt; have := Xt4_.out.lt; have := HB.out.size; omega)⟩)
      (fun l h => trivial) (fun l b w1 w2 h _ _ => trivial) (fun l b w1 w2 g h _ _ _ _ => trivial) (fun l h => by cases h) (fun l k h => by cases h) ?_ ?_
    · refine ⟨?_, ?_, ?_, ?_, ?_, ?_, ?_, ?_, ?_, ?_, ?_, ?_, ?_, ?_, ?_, ?_, ?_, ?_, ?_, ?_, ?_, ?_, ?_, ?_, trivial⟩ <;> intro L V a1 w1 hf hG hsz hφ hψ hL hdep hcl
      · obtain ⟨_, _, _, _, _, _, _, Xt4__, _⟩ := hG
        have e4 := old_slot hf 4 (by kernel_rfl)
        exact ob_load_int rfl e4 Xt4__ rfl
      · have e3 := old_slot hf 3 (by kernel_rfl)
        exact ob_pure (ex_fieldAddrF0 rfl e3) rfl
      · obtain ⟨_, _, _, _, _, _, Xt3__, _⟩ := hG
        have d1 := dep_of hdep 1 (by kernel_rfl)
        have e13 := (new_slot hf 1 13 d1 (by kernel_rfl)).trans (show V 1 = .pointer (some ⟨G2_3, 0, none⟩) from hφ 1 d1)
        exact ob_pure (ex_load_at0 rfl e13 Xt3__) rfl
      · obtain ⟨_, _, _, _, t3_1_, _, _, _, t4__, _⟩ := hG
        have d0 := dep_of hdep 0 (by kernel_rfl)
        have e12 := (new_slot hf 0 12 d0 (by kernel_rfl)).trans (show V 0 = .agg #[.bool q204, .slice A204 n204 c204] from hφ 0 d0)
        have d2 := dep_of hdep 2 (by kernel_rfl)
        have e14 := (new_slot hf 2 14 d2 (by kernel_rfl)).trans (show V 2 = .agg #[.bool q2031, .slice A2031 n2031 c2031] from hφ 2 d2)
        exact ob_ints2 (A := .V 2) (B := .A (ofN pa qa) n) rfl e12 t4__ e14 t3_1_ rfl
      · have d3 := dep_of hdep 3 (by kernel_rfl)
        have e15 := new_slot hf 3 15 d3 (by kernel_rfl)
        have p15 : Ints2 w1 (V 3) (.V 2) (.A (ofN pa qa) n) := hφ 3 d3
        refine ob_go rfl (vs := #[V 3]) (by simp only [List.map_toArray, List.map_cons, List.map_nil, e15]) (by kernel_rfl) (product_any _ _ 2 (ofN pa qa) n (Ints2.mapA (A := .V 2) (B := .A (ofN pa qa) n) p15 (fun h => IntV.arg h (Sm.to ((Sm.one (n := 2) (by decide) (by decide))) (by omega))) (fun h => IntA.mono h (by omega))) (by omega) (by omega)) ?_
        rintro e w2 ⟨⟨v, rfl, hv⟩, hb⟩
        exact ⟨v, rfl, hb, hv⟩
      · have e3 := old_slot hf 3 (by kernel_rfl)
        exact ob_pure (ex_fieldAddrF1 rfl e3) rfl
      · obtain ⟨_, _, _, _, _, _, Xt3__, _⟩ := hG
        have d5 := dep_of hdep 5 (by kernel_rfl)
        have e17 := (new_slot hf 5 17 d5 (by kernel_rfl)).trans (show V 5 = .pointer (some ⟨G2_3, 2, none⟩) from hφ 5 d5)
        exact ob_pure (ex_load_at2 rfl e17 Xt3__) rfl
      · obtain ⟨_, _, _, _, _, t3_2_, _⟩ := hG
        have d4 := dep_of hdep 4 (by kernel_rfl)
        have e16 := new_slot hf 4 16 d4 (by kernel_rfl)
        have p16 : IntV w1 (V 4) (2 * (ofN pa qa)) := hφ 4 d4
        have d6 := dep_of hdep 6 (by kernel_rfl)
        have e18 := (new_slot hf 6 18 d6 (by kernel_rfl)).trans (show V 6 = .agg #[.bool q2032, .slice A2032 n2032 c2032] from hφ 6 d6)
        exact ob_ints2 (A := .V (2 * (ofN pa qa))) (B := .A (ofD pa qa) n) rfl e16 p16 e18 t3_2_ rfl
      · have d7 := dep_of hdep 7 (by kernel_rfl)
        have e19 := new_slot hf 7 19 d7 (by kernel_rfl)
        have p19 : Ints2 w1 (V 7) (.V (2 * (ofN pa qa))) (.A (ofD pa qa) n) := hφ 7 d7
        refine ob_go rfl (vs := #[V 7]) (by simp only [List.map_toArray, List.map_cons, List.map_nil, e19]) (by kernel_rfl) (sum_any _ _ (2 * (ofN pa qa)) (ofD pa qa) (n + n) (Ints2.mapA (A := .V (2 * (ofN pa qa))) (B := .A (ofD pa qa) n) p19 (fun h => IntV.arg h (Sm.to (SM3.out) (by omega))) (fun h => IntA.mono h (by omega))) (by omega) (by omega)) ?_
        rintro e w2 ⟨⟨v, rfl, hv⟩, hb⟩
        exact ⟨v, rfl, hb, hv⟩
      · obtain ⟨_, _, _, _, _, _, _, Xt4__, _⟩ := hG
        have e4 := old_slot hf 4 (by kernel_rfl)
        exact ob_load_int rfl e4 Xt4__ rfl
      · have e3 := old_slot hf 3 (by kernel_rfl)
        exact ob_pure (ex_fieldAddrF1 rfl e3) rfl
      · obtain ⟨_, _, _, _, _, _, Xt3__, _⟩ := hG
        have d10 := dep_of hdep 10 (by kernel_rfl)
        have e22 := (new_slot hf 10 22 d10 (by kernel_rfl)).trans (show V 10 = .pointer (some ⟨G2_3, 2, none⟩) from hφ 10 d10)
        exact ob_pure (ex_load_at2 rfl e22 Xt3__) rfl
      · obtain ⟨_, _, _, _, _, t3_2_, _, _, t4__, _⟩ := hG
        have d9 := dep_of hdep 9 (by kernel_rfl)
        have e21 := (new_slot hf 9 21 d9 (by kernel_rfl)).trans (show V 9 = .agg #[.bool q204, .slice A204 n204 c204] from hφ 9 d9)
        have d11 := dep_of hdep 11 (by kernel_rfl)
        have e23 := (new_slot hf 11 23 d11 (by kernel_rfl)).trans (show V 11 = .agg #[.bool q2032, .slice A2032 n2032 c2032] from hφ 11 d11)
        exact ob_ints2 (A := .V 2) (B := .A (ofD pa qa) n) rfl e21 t4__ e23 t3_2_ rfl
      · have d12 := dep_of hdep 12 (by kernel_rfl)
        have e24 := new_slot hf 12 24 d12 (by kernel_rfl)
        have p24 : Ints2 w1 (V 12) (.V 2) (.A (ofD pa qa) n) := hφ 12 d12
        refine ob_go rfl (vs := #[V 12]) (by simp only [List.map_toArray, List.map_cons, List.map_nil, e24]) (by kernel_rfl) (product_any _ _ 2 (ofD pa qa) n (Ints2.mapA (A := .V 2) (B := .A (ofD pa qa) n) p24 (fun h => IntV.arg h (Sm.to ((Sm.one (n := 2) (by decide) (by decide))) (by omega))) (fun h => IntA.mono h (by omega))) (by omega) (by omega)) ?_
        rintro e w2 ⟨⟨v, rfl, hv⟩, hb⟩
        exact ⟨v, rfl, hb, hv⟩
      · have d8 := dep_of hdep 8 (by kernel_rfl)
        have e20 := new_slot hf 8 20 d8 (by kernel_rfl)
        have p20 : IntV w1 (V 8) ((2 * (ofN pa qa)) + (ofD pa qa)) := hφ 8 d8
        have d13 := dep_of hdep 13 (by kernel_rfl)
        have e25 := new_slot hf 13 25 d13 (by kernel_rfl)
        have p25 : IntV w1 (V 13) (2 * (ofD pa qa)) := hφ 13 d13
        refine ob_go rfl (vs := #[V 8, V 13]) (by simp only [List.map_toArray, List.map_cons, List.map_nil, e20, e25]) (by kernel_rfl) (divMod_any _ _ _ ((2 * (ofN pa qa)) + (ofD pa qa)) (2 * (ofD pa qa)) ((n + n) + 1) ((n + n) + 1) (IntV.arg p20 (Sm.to (SM4.out) (by omega))) (IntV.arg p25 (Sm.to (SM5.out) (by omega))) (by omega) (by have := Int.mul_pos (show (0 : Int) < 2 by decide) (ofD_pos pa qa); omega)) ?_
        rintro e w2 ⟨⟨v1, v2, rfl, h1, h2⟩, hb⟩
        exact ⟨_, rfl, hb, v1, v2, rfl, h1, h2⟩
      · have d14 := dep_of hdep 14 (by kernel_rfl)
        have e26 := new_slot hf 14 26 d14 (by kernel_rfl)
        have p26 : Tup3 w1 (V 14) (((2 * (ofN pa qa)) + (ofD pa qa)) / (2 * (ofD pa qa))) (((2 * (ofN pa qa)) + (ofD pa qa)) % (2 * (ofD pa qa))) true := hφ 14 d14
        exact ob_pure (ex_moveV rfl e26) (by exact p26)
      · have d15 := dep_of hdep 15 (by kernel_rfl)
        have e11 := new_slot hf 15 11 d15 (by kernel_rfl)
        have p11 : Tup3 w1 (V 15) (((2 * (ofN pa qa)) + (ofD pa qa)) / (2 * (ofD pa qa))) (((2 * (ofN pa qa)) + (ofD pa qa)) % (2 * (ofD pa qa))) true := hφ 15 d15
        exact ob_extract0 rfl e11 p11 rfl
      · have d15 := dep_of hdep 15 (by kernel_rfl)
        have e11 := new_slot hf 15 11 d15 (by kernel_rfl)
        have p11 : Tup3 w1 (V 15) (((2 * (ofN pa qa)) + (ofD pa qa)) / (2 * (ofD pa qa))) (((2 * (ofN pa qa)) + (ofD pa qa)) % (2 * (ofD pa qa))) true := hφ 15 d15
        exact ob_extract1 rfl e11 p11 rfl
      · have d15 := dep_of hdep 15 (by kernel_rfl)
        have e11 := new_slot hf 15 11 d15 (by kernel_rfl)
        have p11 : Tup3 w1 (V 15) (((2 * (ofN pa qa)) + (ofD pa qa)) / (2 * (ofD pa qa))) (((2 * (ofN pa qa)) + (ofD pa qa)) % (2 * (ofD pa qa))) true := hφ 15 d15
        exact ob_extract2 rfl e11 p11 rfl
      · exact ob_alloc_int rfl hsz rfl
      · exact ob_alloc_int rfl hsz rfl
      · have d16 := dep_of hdep 16 (by kernel_rfl)
        have e27 := new_slot hf 16 27 d16 (by kernel_rfl)
        have p27 : IntV w1 (V 16) (((2 * (ofN pa qa)) + (ofD pa qa)) / (2 * (ofD pa qa))) := hφ 16 d16
        have d19 := dep_of hdep 19 (by kernel_rfl)
        obtain ⟨g, h1, h2, h3⟩ := hφ 19 d19
        exact ob_fill_int rfl ((new_slot hf 19 5 d19 (by kernel_rfl)).trans h1) e27 h1 h2 h3 p27 rfl rfl
      · have d17 := dep_of hdep 17 (by kernel_rfl)
        have e28 := new_slot hf 17 28 d17 (by kernel_rfl)
        have p28 : IntV w1 (V 17) (((2 * (ofN pa qa)) + (ofD pa qa)) % (2 * (ofD pa qa))) := hφ 17 d17
        have d20 := dep_of hdep 20 (by kernel_rfl)
        obtain ⟨g, h1, h2, h3⟩ := hφ 20 d20
        exact ob_fill_int rfl ((new_slot hf 20 6 d20 (by kernel_rfl)).trans h1) e28 h1 h2 h3 p28 rfl rfl
      · have d18 := dep_of hdep 18 (by kernel_rfl)
        have e29 := (new_slot hf 18 29 d18 (by kernel_rfl)).trans (show V 18 = .bool true from hφ 18 d18)
        exact ob_pure (v := .bool true) (ex_assignV rfl e29) rfl
    · intro V W7 hG hsz7 hφ hψ hne
      have hlt7 : W2.heap.size ≤ W7.heap.size := hsz7
      obtain ⟨Fa1_, Fa2_, Pa_, R0_, t3_1_, t3_2_, Xt3__, Xt4__, t4__, HB_⟩ := hG
      have Fa1 := hid Fa1_
      have Fa2 := hid Fa2_
      have Pa := hid Pa_
      have R0 := hid R0_
      have t3_1 := hid t3_1_
      have t3_2 := hid t3_2_
      have Xt3_ := hid Xt3__
      have Xt4_ := hid Xt4__
      have t4_ := hid t4__
      have HB := hid HB_
      have y0 : V 0 = .agg #[.bool q204, .slice A204 n204 c204] := hφ 0 (by decide)
      have y1 : V 1 = .pointer (some ⟨G2_3, 0, none⟩) := hφ 1 (by decide)
      have y2 : V 2 = .agg #[.bool q2031, .slice A2031 n2031 c2031] := hφ 2 (by decide)
      have y5 : V 5 = .pointer (some ⟨G2_3, 2, none⟩) := hφ 5 (by decide)
      have y6 : V 6 = .agg #[.bool q2032, .slice A2032 n2032 c2032] := hφ 6 (by decide)
      have y9 : V 9 = .agg #[.bool q204, .slice A204 n204 c204] := hφ 9 (by decide)
      have y10 : V 10 = .pointer (some ⟨G2_3, 2, none⟩) := hφ 10 (by decide)
      have y11 : V 11 = .agg #[.bool q2032, .slice A2032 n2032 c2032] := hφ 11 (by decide)
      have y18 : V 18 = .bool true := hφ 18 (by decide)
      obtain ⟨G7_19, y19, gb719, q719, A719, n719, c719, kb719, vb719⟩ := hφ 19 (by decide)
      have Xt5_ := hid kb719
      have t5_ := hid vb719
      clear kb719 vb719
      obtain ⟨G7_20, y20, gb720, q720, A720, n720, c720, kb720, vb720⟩ := hφ 20 (by decide)
      have Xt6_ := hid kb720
      have t6_ := hid vb720
      clear kb720 vb720
      have y23 : V 23 = .bool true := hφ 23 (by decide)
      have ne7_19_20 : G7_19 ≠ G7_20 := fun e => hne 19 20 (by decide) rfl rfl (by rw [y19, y20, e])
      simp only [puts, Act.put, List.setIfInBounds_toArray, List.set_cons_zero, List.set_cons_succ, y0, y1, y2, y5, y6, y9, y10, y11, y18, y19, y20, y23, ptr]
      clear hφ hψ hne y0 y1 y2 y5 y6 y9 y10 y11 y18 y19 y20 y23 Fa1_ Fa2_ Pa_ R0_ t3_1_ t3_2_ Xt3__ Xt4__ t4__ HB_ hsz7
      go_wp2_with (with_reducible refine halt_at 30 rfl ?_)
      unfold Halted
      refine wp_list_each (by kernel_rfl) 2 31 rfl rfl (by kernel_rfl)
        [Fact.eq (.agg #[.bool q719, .slice A719 n719 c719]), Fact.top _]
        [.val, .fillOld 0]
        (fun w' => IntA w' (.agg #[.bool sa1, .slice Aa1 na1 ca1]) (pa) n ∧ IntA w' (.agg #[.bool sa2, .slice Aa2 na2 ca2]) (qa) n ∧ Blk w' (w.heap.size) 26 #[.bool sa1, .slice Aa1 na1 ca1, .bool sa2, .slice Aa2 na2 ca2] ∧ IntA w' (.agg #[.bool q2031, .slice A2031 n2031 c2031]) ((ofN pa qa)) n ∧ IntA w' (.agg #[.bool q2032, .slice A2032 n2032 c2032]) ((ofD pa qa)) n ∧ Blk w' (G2_3) 56 #[.bool q2031, .slice A2031 n2031 c2031, .bool q2032, .slice A2032 n2032 c2032] ∧ Blk w' (G2_4) 24 #[.bool q204, .slice A204 n204 c204] ∧ IntV w' (.agg #[.bool q204, .slice A204 n204 c204]) (2) ∧ Blk w' (G7_19) 24 #[.bool q719, .slice A719 n719 c719] ∧ IntV w' (.agg #[.bool q719, .slice A719 n719 c719]) ((((2 * (ofN pa qa)) + (ofD pa qa)) / (2 * (ofD pa qa)))) ∧ Blk w' (G7_20) 24 #[.bool q720, .slice A720 n720 c720] ∧ IntV w' (.agg #[.bool q720, .slice A720 n720 c720]) ((((2 * (ofN pa qa)) + (ofD pa qa)) % (2 * (ofD pa qa)))) ∧ Below w.heap.size w w')
        (fun l b w' => match l with
          | 0 => if b = true then BoxI w' (w.heap.size + 1) (((2 * (ofN pa qa)) + (ofD pa qa)) / (2 * (ofD pa qa))) else Blk w' (w.heap.size + 1) 24 #[.bool false, .slice none 0 0]
          | _ => True)
        [1] (fun l => match l with | 0 => w.heap.size + 1 | _ => 0) (by kernel_rfl)
        ⟨Fa1.out, Fa2.out, Pa.out, t3_1.out, t3_2.out, Xt3_.out, Xt4_.out, t4_.out, Xt5_.out, t5_.out, Xt6_.out, t6_.out, HB.out⟩
        (fun w1 w2 ⟨h0, h1, h2, h3, h4, h5, h6, h7, h8, h9, h10, h11, h12⟩ hb => ⟨h0.below hb, h1.below hb, h2.below hb, h3.below hb, h4.below hb, h5.below hb, h6.below hb, h7.below hb, h8.below hb, h9.below hb, h10.below hb, h11.below hb, bw_step h12 hb⟩)
        (fun w1 w2 g ⟨h0, h1, h2, h3, h4, h5, h6, h7, h8, h9, h10, h11, h12⟩ hg hn ho => by
          have hg' : W7.heap.size ≤ g ∨ g = w.heap.size + 1 := by
            rcases hg with h | ⟨l, hl, h⟩
            · exact .inl h
            · rcases l with _ | l
              · exact .inr h
              · exact absurd hl (by simp)
          exact ⟨h0.only hn ho, h1.only hn ho, h2.only ho (by have := Pa.out.lt; have := R0.out.lt; have := Xt3_.out.lt; have := Xt4_.out.lt; have := Xt5_.out.lt; have := Xt6_.out.lt; omega), h3.only hn ho, h4.only hn ho, h5.only ho (by have := Pa.out.lt; have := R0.out.lt; have := Xt3_.out.lt; have := Xt4_.out.lt; have := Xt5_.out.lt; have := Xt6_.out.lt; omega), h6.only ho (by have := Pa.out.lt; have := R0.out.lt; have := Xt3_.out.lt; have := Xt4_.out.lt; have := Xt5_.out.lt; have := Xt6_.out.lt; omega), h7.only hn ho, h8.only ho (by have := Pa.out.lt; have := R0.out.lt; have := Xt3_.out.lt; have := Xt4_.out.lt; have := Xt5_.out.lt; have := Xt6_.out.lt; omega), h9.only hn ho, h10.only ho (by have := Pa.out.lt; have := R0.out.lt; have := Xt3_.out.lt; have := Xt4_.out.lt; have := Xt5_.out.lt; have := Xt6_.out.lt; omega), h11.only hn ho, below_only h12 ho (by have := Pa.out.lt; have := R0.out.lt; have := Xt3_.out.lt; have := Xt4_.out.lt; have := Xt5_.out.lt; have := Xt6_.out.lt; have := HB.out.size; omega)⟩)
        (fun l hl => by
            rcases l with _ | l
            · exact R0.out
            · exact absurd hl (by simp))
        (fun l b w1 w2 hl h hb => by
            rcases l with _ | l
            · (cases b <;> exact h.below hb)
            · exact absurd hl (by simp))
        (fun l b w1 w2 g hl h hg hn ho => by
            rcases l with _ | l
            · (cases b; (exact h.only ho (Ne.symm hg)); (exact h.only (Ne.symm hg) hn ho))
            · exact absurd hl (by simp))
        (fun l hl => by
            rcases l with _ | l
            · exact R0.out.lt
            · exact absurd hl (by simp))
        (fun l k hl hk hne => by rcases l with _ | l <;> rcases k with _ | k <;> simp at hl hk hne)
        ?_ ?_
      · refine ⟨?_, ?_, trivial⟩ <;> intro L V a1 w1 hf hG hsz hφ hψ hL hdep hcl
        · obtain ⟨_, _, _, _, _, _, _, _, Xt5__, _⟩ := hG
          have e5 := old_slot hf 5 (by kernel_rfl)
          exact ob_load_int rfl e5 Xt5__ rfl
        · obtain ⟨_, _, _, _, _, _, _, _, _, t5__, _⟩ := hG
          have d0 := dep_of hdep 0 (by kernel_rfl)
          have e30 := (new_slot hf 0 30 d0 (by kernel_rfl)).trans (show V 0 = .agg #[.bool q719, .slice A719 n719 c719] from hφ 0 d0)
          have e2 := old_slot hf 2 (by kernel_rfl)
          have hb0 := hψ 0 (by decide)
          rw [show [1].getD 0 0 = 1 from rfl, hL] at hb0
          exact ob_fillOld_int rfl e2 e30 hb0 t5__ (fun w2 h => h) rfl
      · intro V W8 hG hsz8 hφ hψ hne
        have hlt8 : W7.heap.size ≤ W8.heap.size := hsz8
        obtain ⟨Fa1_, Fa2_, Pa_, t3_1_, t3_2_, Xt3__, Xt4__, t4__, Xt5__, t5__, Xt6__, t6__, HB_⟩ := hG
        have Fa1 := hid Fa1_
        have Fa2 := hid Fa2_
        have Pa := hid Pa_
        have t3_1 := hid t3_1_
        have t3_2 := hid t3_2_
        have Xt3_ := hid Xt3__
        have Xt4_ := hid Xt4__
        have t4_ := hid t4__
        have Xt5_ := hid Xt5__
        have t5_ := hid t5__
        have Xt6_ := hid Xt6__
        have t6_ := hid t6__
        have HB := hid HB_
        have y0 : V 0 = .agg #[.bool q719, .slice A719 n719 c719] := hφ 0 (by decide)
        obtain ⟨q850, A850, n850, c850, kb850, vb850⟩ := hψ 0 (by decide)
        have R0 := hid kb850
        have VR0 := hid vb850
        clear kb850 vb850
        simp only [puts, Act.put, List.setIfInBounds_toArray, List.set_cons_zero, List.set_cons_succ, y0]
        clear hφ hψ hne y0 Fa1_ Fa2_ Pa_ t3_1_ t3_2_ Xt3__ Xt4__ t4__ Xt5__ t5__ Xt6__ t6__ HB_ hsz8
        have k0 := R0.out.cell 0
        have k1 := R0.out.cell 1
        go_wp2
        refine bodyPost_ret (v := .agg #[.bool q850, .slice A850 n850 c850]) (by simp [results, Try.results23, go_sem, k0, k1]) rfl ⟨⟨_, rfl, ?_⟩, HB.out⟩
        have hp := VR0.out
        rw [show (((2 * (ofN pa qa)) + (ofD pa qa)) / (2 * (ofD pa qa))) = ((Rat.divInt pa qa) + half).floor from near_of _ _] at hp
        exact hp
end Go.Proofs.Ytijmjkkjopplbaa

