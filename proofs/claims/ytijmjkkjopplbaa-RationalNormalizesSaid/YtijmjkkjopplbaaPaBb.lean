/- A part of the proof of the laws of rationals: AwakeR. -/
import Derived.Test.YtijmjkkjopplbaaPae
import Derived.Test.YtijmjkkjopplbaaPam
import Derived.Test.YtijmjkkjopplbaaPal
import Derived.Test.YtijmjkkjopplbaaPab
import Derived.Test.YtijmjkkjopplbaaPaf
import Derived.Test.YtijmjkkjopplbaaPad
import Derived.Test.YtijmjkkjopplbaaPac
import Derived.Test.YtijmjkkjopplbaaPav
import Derived.Test.YtijmjkkjopplbaaPay
import Derived.Test.YtijmjkkjopplbaaPao
import Derived.Test.YtijmjkkjopplbaaPat
import Derived.Test.YtijmjkkjopplbaaPaa
import Derived.Test.YtijmjkkjopplbaaPai
import Derived.Test.YtijmjkkjopplbaaPah
import Derived.Test.YtijmjkkjopplbaaPag
import Derived.Test.YtijmjkkjopplbaaPan
import Derived.Test.YtijmjkkjopplbaaPaj
import Derived.Test.YtijmjkkjopplbaaPax
import Derived.Test.YtijmjkkjopplbaaPap
import Derived.Test.YtijmjkkjopplbaaPas
import Derived.Test.YtijmjkkjopplbaaPau
import Derived.Test.YtijmjkkjopplbaaPar
import Derived.Test.YtijmjkkjopplbaaPaw
import Derived.Test.YtijmjkkjopplbaaPaBa
import Derived.Test.YtijmjkkjopplbaaPaq
import Derived.Test.YtijmjkkjopplbaaPak
import Derived.Test.YtijmjkkjopplbaaPaz
namespace Go.Proofs.Ytijmjkkjopplbaa
open Go.RowKit
set_option linter.unusedVariables false
set_option maxRecDepth 100000

set_option maxHeartbeats 8000000 in
theorem awakeR_any (w : World)  :
    Calls Try.prog 16 #[] w fun e w' => e = .returned (.bool true) ∧ Below w.heap.size w w' := by
  have HB := hid (Below.refl w.heap.size w)
  go_enter Try.func16, Try.ntmps16
  go_wp2_with (with_reducible refine halt_at 9 rfl ?_)
  have RS1 : Hid (RS 1 (Rat.divInt 4 (-6))) := hid (by have h := RS.of (Sm.to (n := 1) ((Sm.one (n := 4) (by decide) (by decide))) (by omega)) (Sm.to (n := 1) ((Sm.one (n := (-6)) (by decide) (by decide))) (by omega)) (by omega); rw [show Rat.divInt 4 (-6) = (Rat.divInt 4 (-6)) from rfl] at h; exact h)
  unfold Halted
  refine wp_list_each (by kernel_rfl) 9 57 rfl rfl (by kernel_rfl)
    [Fact.int 4, Fact.int (-6), Fact.pairB (.V ((Rat.divInt 4 (-6))).num) (.V (((Rat.divInt 4 (-6))).den : Int)) true, Fact.pairB (.V ((Rat.divInt 4 (-6))).num) (.V (((Rat.divInt 4 (-6))).den : Int)) true, Fact.pair (.V ((Rat.divInt 4 (-6))).num) (.V (((Rat.divInt 4 (-6))).den : Int)), Fact.eq (.bool true), Fact.boxR 26 Rne (.V ((Rat.divInt 4 (-6))).num) (.V (((Rat.divInt 4 (-6))).den : Int)), Fact.top _, Fact.eq (.bool true)]
    [.val, .val, .val, .val, .val, .val, .alloc 7, .fill 6, .val]
    (fun w' => Below w.heap.size w w')
    (fun _ _ _ => True) [] (fun _ => 0) (by kernel_rfl)
    HB.out
    (fun w1 w2 h0 hb => bw_step h0 hb)
    (fun w1 w2 g h0 hg hn ho => by
      have hg' : w.heap.size ≤ g := hg.elim id (fun ⟨_, h, _⟩ => absurd h (Nat.not_lt_zero _))
      exact below_only h0 ho (by have := HB.out.size; omega))
    (fun l h => trivial) (fun l b w1 w2 h _ _ => trivial) (fun l b w1 w2 g h _ _ _ _ => trivial) (fun l h => by cases h) (fun l k h => by cases h) ?_ ?_
  · refine ⟨?_, ?_, ?_, ?_, ?_, ?_, ?_, ?_, ?_, trivial⟩ <;> intro L V a1 w1 hf hG hsz hφ hψ hL hdep hcl
    · refine ob_go rfl (vs := #[.int .i64 4]) (by simp only [List.map_toArray, List.map_cons, List.map_nil, ev_const]) (by kernel_rfl) (rsmall_any _ 4 (by decide) (by decide)) ?_
      rintro e w2 ⟨⟨v, rfl, hv⟩, hb⟩
      exact ⟨v, rfl, hb, hv⟩
    · refine ob_go rfl (vs := #[.int .i64 (-6)]) (by simp only [List.map_toArray, List.map_cons, List.map_nil, ev_const]) (by kernel_rfl) (rsmall_any _ (-6) (by decide) (by decide)) ?_
      rintro e w2 ⟨⟨v, rfl, hv⟩, hb⟩
      exact ⟨v, rfl, hb, hv⟩
    · have d0 := dep_of hdep 0 (by kernel_rfl)
      have e9 := new_slot hf 0 9 d0 (by kernel_rfl)
      have p9 : IntV w1 (V 0) 4 := hφ 0 d0
      have d1 := dep_of hdep 1 (by kernel_rfl)
      have e10 := new_slot hf 1 10 d1 (by kernel_rfl)
      have p10 : IntV w1 (V 1) (-6) := hφ 1 d1
      refine ob_go rfl (vs := #[V 0, V 1]) (by simp only [List.map_toArray, List.map_cons, List.map_nil, e10, e9]) (by kernel_rfl) (newR_any _ _ _ 4 (-6) (Rat.divInt 4 (-6)) 1 (IntV.arg p9 (Sm.to ((Sm.one (n := 4) (by decide) (by decide))) (by omega))) (IntV.arg p10 (Sm.to ((Sm.one (n := (-6)) (by decide) (by decide))) (by omega))) (by omega) (by omega) (by decide) (rfl)) ?_
      rintro e w2 ⟨⟨v, rfl, hv⟩, hb⟩
      exact ⟨v, rfl, hb, hv⟩
    · have d2 := dep_of hdep 2 (by kernel_rfl)
      have e11 := new_slot hf 2 11 d2 (by kernel_rfl)
      have p11 : PairB w1 (V 2) (.V ((Rat.divInt 4 (-6))).num) (.V (((Rat.divInt 4 (-6))).den : Int)) true := hφ 2 d2
      exact ob_pure (ex_moveV rfl e11) (by exact p11)
    · have d3 := dep_of hdep 3 (by kernel_rfl)
      have e8 := new_slot hf 3 8 d3 (by kernel_rfl)
      have p8 : PairB w1 (V 3) (.V ((Rat.divInt 4 (-6))).num) (.V (((Rat.divInt 4 (-6))).den : Int)) true := hφ 3 d3
      exact ob_pairB0 rfl e8 p8 rfl
    · have d3 := dep_of hdep 3 (by kernel_rfl)
      have e8 := new_slot hf 3 8 d3 (by kernel_rfl)
      have p8 : PairB w1 (V 3) (.V ((Rat.divInt 4 (-6))).num) (.V (((Rat.divInt 4 (-6))).den : Int)) true := hφ 3 d3
      exact ob_pairB1 rfl e8 p8 rfl
    · exact ob_allocR rfl hsz rfl
    · have d4 := dep_of hdep 4 (by kernel_rfl)
      have e12 := new_slot hf 4 12 d4 (by kernel_rfl)
      have p12 : Pair w1 (V 4) (.V ((Rat.divInt 4 (-6))).num) (.V (((Rat.divInt 4 (-6))).den : Int)) := hφ 4 d4
      have d6 := dep_of hdep 6 (by kernel_rfl)
      obtain ⟨g, h1, h2, h3, _⟩ := hφ 6 d6
      have hz := h3 (show (true && L 7) = false from by have h : L 7 = false := hL; rw [h]; rfl)
      exact ob_fillR rfl ((new_slot hf 6 1 d6 (by kernel_rfl)).trans h1) e12 h1 h2 hz p12 rfl rfl
    · have d5 := dep_of hdep 5 (by kernel_rfl)
      have e13 := (new_slot hf 5 13 d5 (by kernel_rfl)).trans (show V 5 = .bool true from hφ 5 d5)
      exact ob_pure (v := .bool true) (ex_assignV rfl e13) rfl
  · intro V W2 hG hsz2 hφ hψ hne
    have hlt2 : w.heap.size ≤ W2.heap.size := hsz2
    have HB_ := hG
    have HB := hid HB_
    have y5 : V 5 = .bool true := hφ 5 (by decide)
    obtain ⟨G2_6, y6, gb206, _, hb206⟩ := hφ 6 (by decide)
    obtain ⟨q2061, A2061, n2061, c2061, q2062, A2062, n2062, c2062, kb206, va206, vb206⟩ := hb206 rfl
    have Xt1_ := hid kb206
    have t1_1 : Hid (IntV W2 (.agg #[.bool q2061, .slice A2061 n2061 c2061]) ((Rat.divInt 4 (-6))).num) := hid va206
    have t1_2 : Hid (IntV W2 (.agg #[.bool q2062, .slice A2062 n2062 c2062]) (((Rat.divInt 4 (-6))).den : Int)) := hid vb206
    clear kb206 va206 vb206
    clear hb206
    have y8 : V 8 = .bool true := hφ 8 (by decide)
    simp only [puts, Act.put, List.setIfInBounds_toArray, List.set_cons_zero, List.set_cons_succ, y5, y6, y8, ptr]
    clear hφ hψ hne y5 y6 y8 HB_ hsz2
    go_wp2_with (with_reducible refine halt_at 15 rfl ?_)
    have lt2_Xt1_ := Xt1_.out.lt
    unfold Halted
    refine wp_list_each (by kernel_rfl) 7 57 rfl rfl (by kernel_rfl)
      [Fact.pairE (.V (-3)) (.V 4) 0, Fact.pairE (.V (-3)) (.V 4) 0, Fact.pair (.V (-3)) (.V 4), Fact.eq (.int .i64 0), Fact.boxR 26 Rne (.V (-3)) (.V 4), Fact.top _, Fact.eq (.int .i64 0)]
      [.val, .val, .val, .val, .alloc 5, .fill 4, .val]
      (fun w' => IntV w' (.agg #[.bool q2061, .slice A2061 n2061 c2061]) (((Rat.divInt 4 (-6))).num) ∧ IntV w' (.agg #[.bool q2062, .slice A2062 n2062 c2062]) ((((Rat.divInt 4 (-6))).den : Int)) ∧ Blk w' (G2_6) 26 #[.bool q2061, .slice A2061 n2061 c2061, .bool q2062, .slice A2062 n2062 c2062] ∧ Below w.heap.size w w')
      (fun _ _ _ => True) [] (fun _ => 0) (by kernel_rfl)
      ⟨t1_1.out, t1_2.out, Xt1_.out, HB.out⟩
      (fun w1 w2 ⟨h0, h1, h2, h3⟩ hb => ⟨h0.below hb, h1.below hb, h2.below hb, bw_step h3 hb⟩)
      (fun w1 w2 g ⟨h0, h1, h2, h3⟩ hg hn ho => by
        have hg' : W2.heap.size ≤ g := hg.elim id (fun ⟨_, h, _⟩ => absurd h (Nat.not_lt_zero _))
        exact ⟨h0.only hn ho, h1.only hn ho, h2.only ho (by have := Xt1_.out.lt; omega), below_only h3 ho (by have := Xt1_.out.lt; have := HB.out.size; omega)⟩)
      (fun l h => trivial) (fun l b w1 w2 h _ _ => trivial) (fun l b w1 w2 g h _ _ _ _ => trivial) (fun l h => by cases h) (fun l k h => by cases h) ?_ ?_
    · refine ⟨?_, ?_, ?_, ?_, ?_, ?_, ?_, trivial⟩ <;> intro L V a1 w1 hf hG hsz hφ hψ hL hdep hcl
      · refine ob_go rfl (vs := #[.string (ByteArray.mk #[45, 51, 47, 52])]) (by simp only [List.map_toArray, List.map_cons, List.map_nil, ev_const]) (by kernel_rfl) (parseR_any _ (ByteArray.mk #[45, 51, 47, 52]) (by decide)) ?_
        rintro e w2 ⟨⟨v, rfl, hv⟩, hb⟩
        rw [aw1.2.1, aw1.2.2] at hv
        rw [aw1.1]
        exact ⟨_, rfl, hb, v, rfl, hv⟩
      · have d0 := dep_of hdep 0 (by kernel_rfl)
        have e15 := new_slot hf 0 15 d0 (by kernel_rfl)
        have p15 : PairE w1 (V 0) (.V (-3)) (.V 4) 0 := hφ 0 d0
        exact ob_pure (ex_moveV rfl e15) (by exact p15)
      · have d1 := dep_of hdep 1 (by kernel_rfl)
        have e14 := new_slot hf 1 14 d1 (by kernel_rfl)
        have p14 : PairE w1 (V 1) (.V (-3)) (.V 4) 0 := hφ 1 d1
        exact ob_pairE0 rfl e14 p14 rfl
      · have d1 := dep_of hdep 1 (by kernel_rfl)
        have e14 := new_slot hf 1 14 d1 (by kernel_rfl)
        have p14 : PairE w1 (V 1) (.V (-3)) (.V 4) 0 := hφ 1 d1
        exact ob_pairE1 rfl e14 p14 rfl
      · exact ob_allocR rfl hsz rfl
      · have d2 := dep_of hdep 2 (by kernel_rfl)
        have e16 := new_slot hf 2 16 d2 (by kernel_rfl)
        have p16 : Pair w1 (V 2) (.V (-3)) (.V 4) := hφ 2 d2
        have d4 := dep_of hdep 4 (by kernel_rfl)
        obtain ⟨g, h1, h2, h3, _⟩ := hφ 4 d4
        have hz := h3 (show (true && L 5) = false from by have h : L 5 = false := hL; rw [h]; rfl)
        exact ob_fillR rfl ((new_slot hf 4 3 d4 (by kernel_rfl)).trans h1) e16 h1 h2 hz p16 rfl rfl
      · have d3 := dep_of hdep 3 (by kernel_rfl)
        have e17 := (new_slot hf 3 17 d3 (by kernel_rfl)).trans (show V 3 = .int .i64 0 from hφ 3 d3)
        exact ob_pure (v := .int .i64 0) (ex_assignV rfl e17) rfl
    · intro V W3 hG hsz3 hφ hψ hne
      have hlt3 : W2.heap.size ≤ W3.heap.size := hsz3
      obtain ⟨t1_1_, t1_2_, Xt1__, HB_⟩ := hG
      have t1_1 := hid t1_1_
      have t1_2 := hid t1_2_
      have Xt1_ := hid Xt1__
      have HB := hid HB_
      have y3 : V 3 = .int .i64 0 := hφ 3 (by decide)
      obtain ⟨G3_4, y4, gb304, _, hb304⟩ := hφ 4 (by decide)
      obtain ⟨q3041, A3041, n3041, c3041, q3042, A3042, n3042, c3042, kb304, va304, vb304⟩ := hb304 rfl
      have Xt3_ := hid kb304
      have t3_1 : Hid (IntV W3 (.agg #[.bool q3041, .slice A3041 n3041 c3041]) (-3)) := hid va304
      have t3_2 : Hid (IntV W3 (.agg #[.bool q3042, .slice A3042 n3042 c3042]) 4) := hid vb304
      clear kb304 va304 vb304
      clear hb304
      have y6 : V 6 = .int .i64 0 := hφ 6 (by decide)
      simp only [puts, Act.put, List.setIfInBounds_toArray, List.set_cons_zero, List.set_cons_succ, y3, y4, y6, ptr]
      clear hφ hψ hne y3 y4 y6 t1_1_ t1_2_ Xt1__ HB_ hsz3
      go_wp2_with (with_reducible refine halt_at 19 rfl ?_)
      have lt3_Xt1_ := Xt1_.out.lt
      have lt3_Xt3_ := Xt3_.out.lt
      unfold Halted
      refine wp_list_each (by kernel_rfl) 7 57 rfl rfl (by kernel_rfl)
        [Fact.pairE (.V 0) (.V 0) 1, Fact.pairE (.V 0) (.V 0) 1, Fact.pair (.V 0) (.V 0), Fact.eq (.int .i64 1), Fact.boxR 26 Rne (.V 0) (.V 0), Fact.top _, Fact.eq (.int .i64 1)]
        [.val, .val, .val, .val, .alloc 5, .fill 4, .val]
        (fun w' => IntV w' (.agg #[.bool q2061, .slice A2061 n2061 c2061]) (((Rat.divInt 4 (-6))).num) ∧ IntV w' (.agg #[.bool q2062, .slice A2062 n2062 c2062]) ((((Rat.divInt 4 (-6))).den : Int)) ∧ Blk w' (G2_6) 26 #[.bool q2061, .slice A2061 n2061 c2061, .bool q2062, .slice A2062 n2062 c2062] ∧ IntV w' (.agg #[.bool q3041, .slice A3041 n3041 c3041]) ((-3)) ∧ IntV w' (.agg #[.bool q3042, .slice A3042 n3042 c3042]) (4) ∧ Blk w' (G3_4) 26 #[.bool q3041, .slice A3041 n3041 c3041, .bool q3042, .slice A3042 n3042 c3042] ∧ Below w.heap.size w w')
        (fun _ _ _ => True) [] (fun _ => 0) (by kernel_rfl)
        ⟨t1_1.out, t1_2.out, Xt1_.out, t3_1.out, t3_2.out, Xt3_.out, HB.out⟩
        (fun w1 w2 ⟨h0, h1, h2, h3, h4, h5, h6⟩ hb => ⟨h0.below hb, h1.below hb, h2.below hb, h3.below hb, h4.below hb, h5.below hb, bw_step h6 hb⟩)
        (fun w1 w2 g ⟨h0, h1, h2, h3, h4, h5, h6⟩ hg hn ho => by
          have hg' : W3.heap.size ≤ g := hg.elim id (fun ⟨_, h, _⟩ => absurd h (Nat.not_lt_zero _))
          exact ⟨h0.only hn ho, h1.only hn ho, h2.only ho (by have := Xt1_.out.lt; have := Xt3_.out.lt; omega), h3.only hn ho, h4.only hn ho, h5.only ho (by have := Xt1_.out.lt; have := Xt3_.out.lt; omega), below_only h6 ho (by have := Xt1_.out.lt; have := Xt3_.out.lt; have := HB.out.size; omega)⟩)
        (fun l h => trivial) (fun l b w1 w2 h _ _ => trivial) (fun l b w1 w2 g h _ _ _ _ => trivial) (fun l h => by cases h) (fun l k h => by cases h) ?_ ?_
      · refine ⟨?_, ?_, ?_, ?_, ?_, ?_, ?_, trivial⟩ <;> intro L V a1 w1 hf hG hsz hφ hψ hL hdep hcl
        · refine ob_go rfl (vs := #[.string (ByteArray.mk #[54, 47, 52])]) (by simp only [List.map_toArray, List.map_cons, List.map_nil, ev_const]) (by kernel_rfl) (parseR_any _ (ByteArray.mk #[54, 47, 52]) (by decide)) ?_
          rintro e w2 ⟨⟨v, rfl, hv⟩, hb⟩
          rw [aw2.2.1, aw2.2.2] at hv
          rw [aw2.1]
          exact ⟨_, rfl, hb, v, rfl, hv⟩
        · have d0 := dep_of hdep 0 (by kernel_rfl)
          have e19 := new_slot hf 0 19 d0 (by kernel_rfl)
          have p19 : PairE w1 (V 0) (.V 0) (.V 0) 1 := hφ 0 d0
          exact ob_pure (ex_moveV rfl e19) (by exact p19)
        · have d1 := dep_of hdep 1 (by kernel_rfl)
          have e18 := new_slot hf 1 18 d1 (by kernel_rfl)
          have p18 : PairE w1 (V 1) (.V 0) (.V 0) 1 := hφ 1 d1
          exact ob_pairE0 rfl e18 p18 rfl
        · have d1 := dep_of hdep 1 (by kernel_rfl)
          have e18 := new_slot hf 1 18 d1 (by kernel_rfl)
          have p18 : PairE w1 (V 1) (.V 0) (.V 0) 1 := hφ 1 d1
          exact ob_pairE1 rfl e18 p18 rfl
        · exact ob_allocR rfl hsz rfl
        · have d2 := dep_of hdep 2 (by kernel_rfl)
          have e20 := new_slot hf 2 20 d2 (by kernel_rfl)
          have p20 : Pair w1 (V 2) (.V 0) (.V 0) := hφ 2 d2
          have d4 := dep_of hdep 4 (by kernel_rfl)
          obtain ⟨g, h1, h2, h3, _⟩ := hφ 4 d4
          have hz := h3 (show (true && L 5) = false from by have h : L 5 = false := hL; rw [h]; rfl)
          exact ob_fillR rfl ((new_slot hf 4 5 d4 (by kernel_rfl)).trans h1) e20 h1 h2 hz p20 rfl rfl
        · have d3 := dep_of hdep 3 (by kernel_rfl)
          have e21 := (new_slot hf 3 21 d3 (by kernel_rfl)).trans (show V 3 = .int .i64 1 from hφ 3 d3)
          exact ob_pure (v := .int .i64 1) (ex_assignV rfl e21) rfl
      · intro V W4 hG hsz4 hφ hψ hne
        have hlt4 : W3.heap.size ≤ W4.heap.size := hsz4
        obtain ⟨t1_1_, t1_2_, Xt1__, t3_1_, t3_2_, Xt3__, HB_⟩ := hG
        have t1_1 := hid t1_1_
        have t1_2 := hid t1_2_
        have Xt1_ := hid Xt1__
        have t3_1 := hid t3_1_
        have t3_2 := hid t3_2_
        have Xt3_ := hid Xt3__
        have HB := hid HB_
        have y3 : V 3 = .int .i64 1 := hφ 3 (by decide)
        obtain ⟨G4_4, y4, gb404, _, hb404⟩ := hφ 4 (by decide)
        obtain ⟨q4041, A4041, n4041, c4041, q4042, A4042, n4042, c4042, kb404, va404, vb404⟩ := hb404 rfl
        have Xt5_ := hid kb404
        have t5_1 : Hid (IntV W4 (.agg #[.bool q4041, .slice A4041 n4041 c4041]) 0) := hid va404
        have t5_2 : Hid (IntV W4 (.agg #[.bool q4042, .slice A4042 n4042 c4042]) 0) := hid vb404
        clear kb404 va404 vb404
        clear hb404
        have y6 : V 6 = .int .i64 1 := hφ 6 (by decide)
        simp only [puts, Act.put, List.setIfInBounds_toArray, List.set_cons_zero, List.set_cons_succ, y3, y4, y6, ptr]
        clear hφ hψ hne y3 y4 y6 t1_1_ t1_2_ Xt1__ t3_1_ t3_2_ Xt3__ HB_ hsz4
        go_wp2_with (with_reducible refine halt_at 22 rfl ?_)
        have lt4_Xt1_ := Xt1_.out.lt
        have lt4_Xt3_ := Xt3_.out.lt
        have lt4_Xt5_ := Xt5_.out.lt
        unfold Halted
        refine wp_list_each (by kernel_rfl) 5 57 rfl rfl (by kernel_rfl)
          [Fact.int (-7), Fact.int 2, Fact.pair (.V (-7)) (.V 2), Fact.boxR 26 Rne (.V (-7)) (.V 2), Fact.top _]
          [.val, .val, .val, .alloc 4, .fill 3]
          (fun w' => IntV w' (.agg #[.bool q2061, .slice A2061 n2061 c2061]) (((Rat.divInt 4 (-6))).num) ∧ IntV w' (.agg #[.bool q2062, .slice A2062 n2062 c2062]) ((((Rat.divInt 4 (-6))).den : Int)) ∧ Blk w' (G2_6) 26 #[.bool q2061, .slice A2061 n2061 c2061, .bool q2062, .slice A2062 n2062 c2062] ∧ IntV w' (.agg #[.bool q3041, .slice A3041 n3041 c3041]) ((-3)) ∧ IntV w' (.agg #[.bool q3042, .slice A3042 n3042 c3042]) (4) ∧ Blk w' (G3_4) 26 #[.bool q3041, .slice A3041 n3041 c3041, .bool q3042, .slice A3042 n3042 c3042] ∧ IntV w' (.agg #[.bool q4041, .slice A4041 n4041 c4041]) (0) ∧ IntV w' (.agg #[.bool q4042, .slice A4042 n4042 c4042]) (0) ∧ Blk w' (G4_4) 26 #[.bool q4041, .slice A4041 n4041 c4041, .bool q4042, .slice A4042 n4042 c4042] ∧ Below w.heap.size w w')
          (fun _ _ _ => True) [] (fun _ => 0) (by kernel_rfl)
          ⟨t1_1.out, t1_2.out, Xt1_.out, t3_1.out, t3_2.out, Xt3_.out, t5_1.out, t5_2.out, Xt5_.out, HB.out⟩
          (fun w1 w2 ⟨h0, h1, h2, h3, h4, h5, h6, h7, h8, h9⟩ hb => ⟨h0.below hb, h1.below hb, h2.below hb, h3.below hb, h4.below hb, h5.below hb, h6.below hb, h7.below hb, h8.below hb, bw_step h9 hb⟩)
          (fun w1 w2 g ⟨h0, h1, h2, h3, h4, h5, h6, h7, h8, h9⟩ hg hn ho => by
            have hg' : W4.heap.size ≤ g := hg.elim id (fun ⟨_, h, _⟩ => absurd h (Nat.not_lt_zero _))
            exact ⟨h0.only hn ho, h1.only hn ho, h2.only ho (by have := Xt1_.out.lt; have := Xt3_.out.lt; have := Xt5_.out.lt; omega), h3.only hn ho, h4.only hn ho, h5.only ho (by have := Xt1_.out.lt; have := Xt3_.out.lt; have := Xt5_.out.lt; omega), h6.only hn ho, h7.only hn ho, h8.only ho (by have := Xt1_.out.lt; have := Xt3_.out.lt; have := Xt5_.out.lt; omega), below_only h9 ho (by have := Xt1_.out.lt; have := Xt3_.out.lt; have := Xt5_.out.lt; have := HB.out.size; omega)⟩)
          (fun l h => trivial) (fun l b w1 w2 h _ _ => trivial) (fun l b w1 w2 g h _ _ _ _ => trivial) (fun l h => by cases h) (fun l k h => by cases h) ?_ ?_
        · refine ⟨?_, ?_, ?_, ?_, ?_, trivial⟩ <;> intro L V a1 w1 hf hG hsz hφ hψ hL hdep hcl
          · refine ob_go rfl (vs := #[.int .i64 (-7)]) (by simp only [List.map_toArray, List.map_cons, List.map_nil, ev_const]) (by kernel_rfl) (rsmall_any _ (-7) (by decide) (by decide)) ?_
            rintro e w2 ⟨⟨v, rfl, hv⟩, hb⟩
            exact ⟨v, rfl, hb, hv⟩
          · refine ob_go rfl (vs := #[.int .i64 2]) (by simp only [List.map_toArray, List.map_cons, List.map_nil, ev_const]) (by kernel_rfl) (rsmall_any _ 2 (by decide) (by decide)) ?_
            rintro e w2 ⟨⟨v, rfl, hv⟩, hb⟩
            exact ⟨v, rfl, hb, hv⟩
          · have d0 := dep_of hdep 0 (by kernel_rfl)
            have e22 := new_slot hf 0 22 d0 (by kernel_rfl)
            have p22 : IntV w1 (V 0) (-7) := hφ 0 d0
            have d1 := dep_of hdep 1 (by kernel_rfl)
            have e23 := new_slot hf 1 23 d1 (by kernel_rfl)
            have p23 : IntV w1 (V 1) 2 := hφ 1 d1
            exact ob_buildR (A := .V (-7)) (B := .V 2) rfl e22 p22 e23 p23 rfl
          · exact ob_allocR rfl hsz rfl
          · have d2 := dep_of hdep 2 (by kernel_rfl)
            have e24 := new_slot hf 2 24 d2 (by kernel_rfl)
            have p24 : Pair w1 (V 2) (.V (-7)) (.V 2) := hφ 2 d2
            have d3 := dep_of hdep 3 (by kernel_rfl)
            obtain ⟨g, h1, h2, h3, _⟩ := hφ 3 d3
            have hz := h3 (show (true && L 4) = false from by have h : L 4 = false := hL; rw [h]; rfl)
            exact ob_fillR rfl ((new_slot hf 3 7 d3 (by kernel_rfl)).trans h1) e24 h1 h2 hz p24 rfl rfl
        · intro V W5 hG hsz5 hφ hψ hne
          have hlt5 : W4.heap.size ≤ W5.heap.size := hsz5
          obtain ⟨t1_1_, t1_2_, Xt1__, t3_1_, t3_2_, Xt3__, t5_1_, t5_2_, Xt5__, HB_⟩ := hG
          have t1_1 := hid t1_1_
          have t1_2 := hid t1_2_
          have Xt1_ := hid Xt1__
          have t3_1 := hid t3_1_
          have t3_2 := hid t3_2_
          have Xt3_ := hid Xt3__
          have t5_1 := hid t5_1_
          have t5_2 := hid t5_2_
          have Xt5_ := hid Xt5__
          have HB := hid HB_
          obtain ⟨G5_3, y3, gb503, _, hb503⟩ := hφ 3 (by decide)
          obtain ⟨q5031, A5031, n5031, c5031, q5032, A5032, n5032, c5032, kb503, va503, vb503⟩ := hb503 rfl
          have Xt7_ := hid kb503
          have t7_1 : Hid (IntV W5 (.agg #[.bool q5031, .slice A5031 n5031 c5031]) (-7)) := hid va503
          have t7_2 : Hid (IntV W5 (.agg #[.bool q5032, .slice A5032 n5032 c5032]) 2) := hid vb503
          clear kb503 va503 vb503
          clear hb503
          simp only [puts, Act.put, List.setIfInBounds_toArray, List.set_cons_zero, List.set_cons_succ, y3, ptr]
          clear hφ hψ hne y3 t1_1_ t1_2_ Xt1__ t3_1_ t3_2_ Xt3__ t5_1_ t5_2_ Xt5__ HB_ hsz5
          go_wp2_with fail
          have SM7 : Hid (Sm 1 ((Rat.divInt (-7) 2)).floor) := hid ((RS.of ((Sm.one (n := (-7)) (by decide) (by decide))) ((Sm.one (n := 2) (by decide) (by decide))) (by omega)).floor)
          have SM8 : Hid (Sm 5 ((Rat.divInt (-7) 2) + half).floor) := hid (((RS.of ((Sm.one (n := (-7)) (by decide) (by decide))) ((Sm.one (n := 2) (by decide) (by decide))) (by omega)).add RS.half (by omega)).floor)
          refine wp_region_eachG (by kernel_rfl) 33 57 rfl rfl (by kernel_rfl)
            [Fact.eq (.bool true), Fact.eq (.bool true), Fact.eq (.int .i64 0), Fact.eq (.bool true), Fact.eq (.bool true), Fact.eq (.bool true), Fact.eq (.int .i64 1), Fact.eq (.bool true), Fact.eq (.bool true), Fact.eq (.bool true), Fact.eq (.agg #[.bool q2061, .slice A2061 n2061 c2061, .bool q2062, .slice A2062 n2062 c2062]), Fact.eq (.string (ratT (Rat.divInt 4 (-6)))), Fact.eq (.bool true), Fact.eq (.bool true), Fact.eq (.bool true), Fact.eq (.pointer (some ⟨G3_4, 0, none⟩)), Fact.eq (.agg #[.bool q3041, .slice A3041 n3041 c3041]), Fact.int (-3), Fact.eq (.bool true), Fact.eq (.bool true), Fact.eq (.bool true), Fact.eq (.agg #[.bool q5031, .slice A5031 n5031 c5031, .bool q5032, .slice A5032 n5032 c5032]), Fact.int ((Rat.divInt (-7) 2)).floor, Fact.int (-4), Fact.eq (.bool true), Fact.eq (.bool true), Fact.eq (.bool true), Fact.eq (.agg #[.bool q5031, .slice A5031 n5031 c5031, .bool q5032, .slice A5032 n5032 c5032]), Fact.int ((Rat.divInt (-7) 2) + half).floor, Fact.int (-3), Fact.eq (.bool true), Fact.eq (.bool true), Fact.eq (.bool true)]
            [.val, .val, .val, .val, .val, .val, .val, .val, .val, .val, .val, .val, .val, .val, .val, .val, .val, .val, .val, .val, .val, .val, .val, .val, .val, .val, .val, .val, .val, .val, .val, .val, .val]
            (fun w' => IntV w' (.agg #[.bool q2061, .slice A2061 n2061 c2061]) (((Rat.divInt 4 (-6))).num) ∧ IntV w' (.agg #[.bool q2062, .slice A2062 n2062 c2062]) ((((Rat.divInt 4 (-6))).den : Int)) ∧ Blk w' (G2_6) 26 #[.bool q2061, .slice A2061 n2061 c2061, .bool q2062, .slice A2062 n2062 c2062] ∧ IntV w' (.agg #[.bool q3041, .slice A3041 n3041 c3041]) ((-3)) ∧ IntV w' (.agg #[.bool q3042, .slice A3042 n3042 c3042]) (4) ∧ Blk w' (G3_4) 26 #[.bool q3041, .slice A3041 n3041 c3041, .bool q3042, .slice A3042 n3042 c3042] ∧ IntV w' (.agg #[.bool q4041, .slice A4041 n4041 c4041]) (0) ∧ IntV w' (.agg #[.bool q4042, .slice A4042 n4042 c4042]) (0) ∧ Blk w' (G4_4) 26 #[.bool q4041, .slice A4041 n4041 c4041, .bool q4042, .slice A4042 n4042 c4042] ∧ IntV w' (.agg #[.bool q5031, .slice A5031 n5031 c5031]) ((-7)) ∧ IntV w' (.agg #[.bool q5032, .slice A5032 n5032 c5032]) (2) ∧ Blk w' (G5_3) 26 #[.bool q5031, .slice A5031 n5031 c5031, .bool q5032, .slice A5032 n5032 c5032] ∧ Below w.heap.size w w')
            (fun _ _ _ => True) [] (fun _ => 0) (by kernel_rfl)
            ⟨t1_1.out, t1_2.out, Xt1_.out, t3_1.out, t3_2.out, Xt3_.out, t5_1.out, t5_2.out, Xt5_.out, t7_1.out, t7_2.out, Xt7_.out, HB.out⟩
            (fun w1 w2 ⟨h0, h1, h2, h3, h4, h5, h6, h7, h8, h9, h10, h11, h12⟩ hb => ⟨h0.below hb, h1.below hb, h2.below hb, h3.below hb, h4.below hb, h5.below hb, h6.below hb, h7.below hb, h8.below hb, h9.below hb, h10.below hb, h11.below hb, bw_step h12 hb⟩)
            (fun w1 w2 g ⟨h0, h1, h2, h3, h4, h5, h6, h7, h8, h9, h10, h11, h12⟩ hg hn ho => by
              have hg' : W5.heap.size ≤ g := hg.elim id (fun ⟨_, h, _⟩ => absurd h (Nat.not_lt_zero _))
              exact ⟨h0.only hn ho, h1.only hn ho, h2.only ho (by have := Xt1_.out.lt; have := Xt3_.out.lt; have := Xt5_.out.lt; have := Xt7_.out.lt; omega), h3.only hn ho, h4.only hn ho, h5.only ho (by have := Xt1_.out.lt; have := Xt3_.out.lt; have := Xt5_.out.lt; have := Xt7_.out.lt; omega), h6.only hn ho, h7.only hn ho, h8.only ho (by have := Xt1_.out.lt; have := Xt3_.out.lt; have := Xt5_.out.lt; have := Xt7_.out.lt; omega), h9.only hn ho, h10.only hn ho, h11.only ho (by have := Xt1_.out.lt; have := Xt3_.out.lt; have := Xt5_.out.lt; have := Xt7_.out.lt; omega), below_only h12 ho (by have := Xt1_.out.lt; have := Xt3_.out.lt; have := Xt5_.out.lt; have := Xt7_.out.lt; have := HB.out.size; omega)⟩)
            (fun l h => trivial) (fun l b w1 w2 h _ _ => trivial) (fun l b w1 w2 g h _ _ _ _ => trivial) (fun l h => by cases h) (fun l k h => by cases h) ?_ ?_
          · refine ⟨?_, ?_, ?_, ?_, ?_, ?_, ?_, ?_, ?_, ?_, ?_, ?_, ?_, ?_, ?_, ?_, ?_, ?_, ?_, ?_, ?_, ?_, ?_, ?_, ?_, ?_, ?_, ?_, ?_, ?_, ?_, ?_, ?_, trivial⟩ <;> intro L V a1 w1 hf hG hsz hφ hψ hL hdep hcl
            · refine og_none rfl ?_
              have e2 := old_slot hf 2 (by kernel_rfl)
              exact ob_pure (v := .bool true) (ex_moveV rfl e2) rfl
            · refine og_none rfl ?_
              have d0 := dep_of hdep 0 (by kernel_rfl)
              have e25 := (new_slot hf 0 25 d0 (by kernel_rfl)).trans (show V 0 = .bool true from hφ 0 d0)
              exact ob_pure (v := .bool true) (ex_moveV rfl e25) rfl
            · have dg := dep_of hdep 1 (by kernel_rfl)
              refine og_want rfl (yielded_of hf (n := 57) (by kernel_rfl) rfl 1 26 dg (by kernel_rfl) (show V 1 = .bool true from hφ 1 dg)) ?_
              have e4 := old_slot hf 4 (by kernel_rfl)
              exact ob_pure (v := .int .i64 0) (ex_moveV rfl e4) rfl
            · have dg := dep_of hdep 1 (by kernel_rfl)
              refine og_want rfl (yielded_of hf (n := 57) (by kernel_rfl) rfl 1 26 dg (by kernel_rfl) (show V 1 = .bool true from hφ 1 dg)) ?_
              have d2 := dep_of hdep 2 (by kernel_rfl)
              have e27 := (new_slot hf 2 27 d2 (by kernel_rfl)).trans (show V 2 = .int .i64 0 from hφ 2 d2)
              exact ob_pure (ex_eql_err rfl e27 rfl) (show Value.bool (0 == 0) = Value.bool true from by simp)
            · refine og_none rfl ?_
              have d1 := dep_of hdep 1 (by kernel_rfl)
              have e26 := (new_slot hf 1 26 d1 (by kernel_rfl)).trans (show V 1 = .bool true from hφ 1 d1)
              have d3 := dep_of hdep 3 (by kernel_rfl)
              have e28 := (new_slot hf 3 28 d3 (by kernel_rfl)).trans (show V 3 = .bool true from hφ 3 d3)
              exact ob_pure (v := .bool true) (ex_pick_true rfl e26 e28) rfl
            · refine og_none rfl ?_
              have d4 := dep_of hdep 4 (by kernel_rfl)
              have e29 := (new_slot hf 4 29 d4 (by kernel_rfl)).trans (show V 4 = .bool true from hφ 4 d4)
              exact ob_pure (v := .bool true) (ex_moveV rfl e29) rfl
            · have dg := dep_of hdep 5 (by kernel_rfl)
              refine og_want rfl (yielded_of hf (n := 57) (by kernel_rfl) rfl 5 30 dg (by kernel_rfl) (show V 5 = .bool true from hφ 5 dg)) ?_
              have e6 := old_slot hf 6 (by kernel_rfl)
              exact ob_pure (v := .int .i64 1) (ex_moveV rfl e6) rfl
            · have dg := dep_of hdep 5 (by kernel_rfl)
              refine og_want rfl (yielded_of hf (n := 57) (by kernel_rfl) rfl 5 30 dg (by kernel_rfl) (show V 5 = .bool true from hφ 5 dg)) ?_
              have d6 := dep_of hdep 6 (by kernel_rfl)
              have e31 := (new_slot hf 6 31 d6 (by kernel_rfl)).trans (show V 6 = .int .i64 1 from hφ 6 d6)
              exact ob_pure (ex_eql_err rfl e31 rfl) (show Value.bool (1 == 1) = Value.bool true from by simp)
            · refine og_none rfl ?_
              have d5 := dep_of hdep 5 (by kernel_rfl)
              have e30 := (new_slot hf 5 30 d5 (by kernel_rfl)).trans (show V 5 = .bool true from hφ 5 d5)
              have d7 := dep_of hdep 7 (by kernel_rfl)
              have e32 := (new_slot hf 7 32 d7 (by kernel_rfl)).trans (show V 7 = .bool true from hφ 7 d7)
              exact ob_pure (v := .bool true) (ex_pick_true rfl e30 e32) rfl
            · refine og_none rfl ?_
              have d8 := dep_of hdep 8 (by kernel_rfl)
              have e33 := (new_slot hf 8 33 d8 (by kernel_rfl)).trans (show V 8 = .bool true from hφ 8 d8)
              exact ob_pure (v := .bool true) (ex_moveV rfl e33) rfl
            · obtain ⟨_, _, Xt1__, _⟩ := hG
              have dg := dep_of hdep 9 (by kernel_rfl)
              refine og_want rfl (yielded_of hf (n := 57) (by kernel_rfl) rfl 9 34 dg (by kernel_rfl) (show V 9 = .bool true from hφ 9 dg)) ?_
              have e1 := old_slot hf 1 (by kernel_rfl)
              exact ob_pure (ex_loadR rfl e1 Xt1__) rfl
            · obtain ⟨t1_1_, t1_2_, _⟩ := hG
              have dg := dep_of hdep 9 (by kernel_rfl)
              refine og_want rfl (yielded_of hf (n := 57) (by kernel_rfl) rfl 9 34 dg (by kernel_rfl) (show V 9 = .bool true from hφ 9 dg)) ?_
              have d10 := dep_of hdep 10 (by kernel_rfl)
              have e35 := (new_slot hf 10 35 d10 (by kernel_rfl)).trans (show V 10 = .agg #[.bool q2061, .slice A2061 n2061 c2061, .bool q2062, .slice A2062 n2062 c2062] from hφ 10 d10)
              refine ob_go rfl (vs := #[.agg #[.bool q2061, .slice A2061 n2061 c2061, .bool q2062, .slice A2062 n2062 c2062]]) (by simp only [List.map_toArray, List.map_cons, List.map_nil, e35]) (by kernel_rfl) (formatR_any _ _ (Rat.divInt 4 (-6)) 1 (RatV.arg (x := (Rat.divInt 4 (-6))) (Pair.mk (a := .V ((Rat.divInt 4 (-6))).num) (b := .V (((Rat.divInt 4 (-6))).den : Int)) t1_1_ t1_2_) ((RS1.out).to (by omega))) (by omega) (by omega)) ?_
              rintro e w2 ⟨he, hb⟩
              exact ⟨_, he, hb, rfl⟩
            · have dg := dep_of hdep 9 (by kernel_rfl)
              refine og_want rfl (yielded_of hf (n := 57) (by kernel_rfl) rfl 9 34 dg (by kernel_rfl) (show V 9 = .bool true from hφ 9 dg)) ?_
              have d11 := dep_of hdep 11 (by kernel_rfl)
              have e36 := (new_slot hf 11 36 d11 (by kernel_rfl)).trans (show V 11 = .string (ratT (Rat.divInt 4 (-6))) from hφ 11 d11)
              exact ob_pure (ex_eql_str rfl e36 rfl (aw3)) rfl
            · refine og_none rfl ?_
              have d9 := dep_of hdep 9 (by kernel_rfl)
              have e34 := (new_slot hf 9 34 d9 (by kernel_rfl)).trans (show V 9 = .bool true from hφ 9 d9)
              have d12 := dep_of hdep 12 (by kernel_rfl)
              have e37 := (new_slot hf 12 37 d12 (by kernel_rfl)).trans (show V 12 = .bool true from hφ 12 d12)
              exact ob_pure (v := .bool true) (ex_pick_true rfl e34 e37) rfl
            · refine og_none rfl ?_
              have d13 := dep_of hdep 13 (by kernel_rfl)
              have e38 := (new_slot hf 13 38 d13 (by kernel_rfl)).trans (show V 13 = .bool true from hφ 13 d13)
              exact ob_pure (v := .bool true) (ex_moveV rfl e38) rfl
            · have dg := dep_of hdep 14 (by kernel_rfl)
              refine og_want rfl (yielded_of hf (n := 57) (by kernel_rfl) rfl 14 39 dg (by kernel_rfl) (show V 14 = .bool true from hφ 14 dg)) ?_
              have e3 := old_slot hf 3 (by kernel_rfl)
              exact ob_pure (ex_fieldAddrR0 rfl e3) rfl
            · obtain ⟨_, _, _, _, _, Xt3__, _⟩ := hG
              have dg := dep_of hdep 14 (by kernel_rfl)
              refine og_want rfl (yielded_of hf (n := 57) (by kernel_rfl) rfl 14 39 dg (by kernel_rfl) (show V 14 = .bool true from hφ 14 dg)) ?_
              have d15 := dep_of hdep 15 (by kernel_rfl)
              have e40 := (new_slot hf 15 40 d15 (by kernel_rfl)).trans (show V 15 = .pointer (some ⟨G3_4, 0, none⟩) from hφ 15 d15)
              exact ob_pure (ex_load_at0 rfl e40 Xt3__) rfl
            · have dg := dep_of hdep 14 (by kernel_rfl)
              refine og_want rfl (yielded_of hf (n := 57) (by kernel_rfl) rfl 14 39 dg (by kernel_rfl) (show V 14 = .bool true from hφ 14 dg)) ?_
              refine ob_go rfl (vs := #[.int .i64 (-3)]) (by simp only [List.map_toArray, List.map_cons, List.map_nil, ev_const]) (by kernel_rfl) (rsmall_any _ (-3) (by decide) (by decide)) ?_
              rintro e w2 ⟨⟨v, rfl, hv⟩, hb⟩
              exact ⟨v, rfl, hb, hv⟩
            · obtain ⟨_, _, _, t3_1_, _⟩ := hG
              have dg := dep_of hdep 14 (by kernel_rfl)
              refine og_want rfl (yielded_of hf (n := 57) (by kernel_rfl) rfl 14 39 dg (by kernel_rfl) (show V 14 = .bool true from hφ 14 dg)) ?_
              have d16 := dep_of hdep 16 (by kernel_rfl)
              have e41 := (new_slot hf 16 41 d16 (by kernel_rfl)).trans (show V 16 = .agg #[.bool q3041, .slice A3041 n3041 c3041] from hφ 16 d16)
              have d17 := dep_of hdep 17 (by kernel_rfl)
              have e42 := new_slot hf 17 42 d17 (by kernel_rfl)
              have p42 : IntV w1 (V 17) (-3) := hφ 17 d17
              refine ob_go rfl (vs := #[.agg #[.bool q3041, .slice A3041 n3041 c3041], V 17]) (by simp only [List.map_toArray, List.map_cons, List.map_nil, e41, e42]) (by kernel_rfl) (rsame_any _ _ _ (-3) (-3) t3_1_ p42) ?_
              rintro e w2 ⟨he, hb⟩
              rw [decide_eq_true rfl] at he
              exact ⟨_, he, hb, rfl⟩
            · refine og_none rfl ?_
              have d14 := dep_of hdep 14 (by kernel_rfl)
              have e39 := (new_slot hf 14 39 d14 (by kernel_rfl)).trans (show V 14 = .bool true from hφ 14 d14)
              have d18 := dep_of hdep 18 (by kernel_rfl)
              have e43 := (new_slot hf 18 43 d18 (by kernel_rfl)).trans (show V 18 = .bool true from hφ 18 d18)
              exact ob_pure (v := .bool true) (ex_pick_true rfl e39 e43) rfl
            · refine og_none rfl ?_
              have d19 := dep_of hdep 19 (by kernel_rfl)
              have e44 := (new_slot hf 19 44 d19 (by kernel_rfl)).trans (show V 19 = .bool true from hφ 19 d19)
              exact ob_pure (v := .bool true) (ex_moveV rfl e44) rfl
            · obtain ⟨_, _, _, _, _, _, _, _, _, _, _, Xt7__, _⟩ := hG
              have dg := dep_of hdep 20 (by kernel_rfl)
              refine og_want rfl (yielded_of hf (n := 57) (by kernel_rfl) rfl 20 45 dg (by kernel_rfl) (show V 20 = .bool true from hφ 20 dg)) ?_
              have e7 := old_slot hf 7 (by kernel_rfl)
              exact ob_pure (ex_loadR rfl e7 Xt7__) rfl
            · obtain ⟨_, _, _, _, _, _, _, _, _, t7_1_, t7_2_, _⟩ := hG
              have dg := dep_of hdep 20 (by kernel_rfl)
              refine og_want rfl (yielded_of hf (n := 57) (by kernel_rfl) rfl 20 45 dg (by kernel_rfl) (show V 20 = .bool true from hφ 20 dg)) ?_
              have d21 := dep_of hdep 21 (by kernel_rfl)
              have e46 := (new_slot hf 21 46 d21 (by kernel_rfl)).trans (show V 21 = .agg #[.bool q5031, .slice A5031 n5031 c5031, .bool q5032, .slice A5032 n5032 c5032] from hφ 21 d21)
              refine ob_go rfl (vs := #[.agg #[.bool q5031, .slice A5031 n5031 c5031, .bool q5032, .slice A5032 n5032 c5032]]) (by simp only [List.map_toArray, List.map_cons, List.map_nil, e46]) (by kernel_rfl) (floorR_any _ _ (Rat.divInt (-7) 2) 1 (RatA.of (Pair.mapA (A := .V (-7)) (B := .V 2) (Pair.mk (a := .V (-7)) (b := .V 2) t7_1_ t7_2_) (fun h => IntV.arg h (Sm.to ((Sm.one (n := (-7)) (by decide) (by decide))) (by omega))) (fun h => IntV.arg h (Sm.to ((Sm.one (n := 2) (by decide) (by decide))) (by omega))))) (by omega) (by omega)) ?_
              rintro e w2 ⟨⟨v, rfl, hv⟩, hb⟩
              exact ⟨v, rfl, hb, hv⟩
            · have dg := dep_of hdep 20 (by kernel_rfl)
              refine og_want rfl (yielded_of hf (n := 57) (by kernel_rfl) rfl 20 45 dg (by kernel_rfl) (show V 20 = .bool true from hφ 20 dg)) ?_
              refine ob_go rfl (vs := #[.int .i64 (-4)]) (by simp only [List.map_toArray, List.map_cons, List.map_nil, ev_const]) (by kernel_rfl) (rsmall_any _ (-4) (by decide) (by decide)) ?_
              rintro e w2 ⟨⟨v, rfl, hv⟩, hb⟩
              exact ⟨v, rfl, hb, hv⟩
            · have dg := dep_of hdep 20 (by kernel_rfl)
              refine og_want rfl (yielded_of hf (n := 57) (by kernel_rfl) rfl 20 45 dg (by kernel_rfl) (show V 20 = .bool true from hφ 20 dg)) ?_
              have d22 := dep_of hdep 22 (by kernel_rfl)
              have e47 := new_slot hf 22 47 d22 (by kernel_rfl)
              have p47 : IntV w1 (V 22) ((Rat.divInt (-7) 2)).floor := hφ 22 d22
              have d23 := dep_of hdep 23 (by kernel_rfl)
              have e48 := new_slot hf 23 48 d23 (by kernel_rfl)
              have p48 : IntV w1 (V 23) (-4) := hφ 23 d23
              refine ob_go rfl (vs := #[V 22, V 23]) (by simp only [List.map_toArray, List.map_cons, List.map_nil, e47, e48]) (by kernel_rfl) (rsame_any _ _ _ (-4) (-4) (by have h := (show IntV w1 _ ((Rat.divInt (-7) 2)).floor from p47); rw [aw4] at h; exact h) p48) ?_
              rintro e w2 ⟨he, hb⟩
              rw [decide_eq_true rfl] at he
              exact ⟨_, he, hb, rfl⟩
            · refine og_none rfl ?_
              have d20 := dep_of hdep 20 (by kernel_rfl)
              have e45 := (new_slot hf 20 45 d20 (by kernel_rfl)).trans (show V 20 = .bool true from hφ 20 d20)
              have d24 := dep_of hdep 24 (by kernel_rfl)
              have e49 := (new_slot hf 24 49 d24 (by kernel_rfl)).trans (show V 24 = .bool true from hφ 24 d24)
              exact ob_pure (v := .bool true) (ex_pick_true rfl e45 e49) rfl
            · refine og_none rfl ?_
              have d25 := dep_of hdep 25 (by kernel_rfl)
              have e50 := (new_slot hf 25 50 d25 (by kernel_rfl)).trans (show V 25 = .bool true from hφ 25 d25)
              exact ob_pure (v := .bool true) (ex_moveV rfl e50) rfl
            · obtain ⟨_, _, _, _, _, _, _, _, _, _, _, Xt7__, _⟩ := hG
              have dg := dep_of hdep 26 (by kernel_rfl)
              refine og_want rfl (yielded_of hf (n := 57) (by kernel_rfl) rfl 26 51 dg (by kernel_rfl) (show V 26 = .bool true from hφ 26 dg)) ?_
              have e7 := old_slot hf 7 (by kernel_rfl)
              exact ob_pure (ex_loadR rfl e7 Xt7__) rfl
            · obtain ⟨_, _, _, _, _, _, _, _, _, t7_1_, t7_2_, _⟩ := hG
              have dg := dep_of hdep 26 (by kernel_rfl)
              refine og_want rfl (yielded_of hf (n := 57) (by kernel_rfl) rfl 26 51 dg (by kernel_rfl) (show V 26 = .bool true from hφ 26 dg)) ?_
              have d27 := dep_of hdep 27 (by kernel_rfl)
              have e52 := (new_slot hf 27 52 d27 (by kernel_rfl)).trans (show V 27 = .agg #[.bool q5031, .slice A5031 n5031 c5031, .bool q5032, .slice A5032 n5032 c5032] from hφ 27 d27)
              refine ob_go rfl (vs := #[.agg #[.bool q5031, .slice A5031 n5031 c5031, .bool q5032, .slice A5032 n5032 c5032]]) (by simp only [List.map_toArray, List.map_cons, List.map_nil, e52]) (by kernel_rfl) (nearestR_any _ _ (Rat.divInt (-7) 2) 1 (RatA.of (Pair.mapA (A := .V (-7)) (B := .V 2) (Pair.mk (a := .V (-7)) (b := .V 2) t7_1_ t7_2_) (fun h => IntV.arg h (Sm.to ((Sm.one (n := (-7)) (by decide) (by decide))) (by omega))) (fun h => IntV.arg h (Sm.to ((Sm.one (n := 2) (by decide) (by decide))) (by omega))))) (by omega) (by omega)) ?_
              rintro e w2 ⟨⟨v, rfl, hv⟩, hb⟩
              exact ⟨v, rfl, hb, hv⟩
            · have dg := dep_of hdep 26 (by kernel_rfl)
              refine og_want rfl (yielded_of hf (n := 57) (by kernel_rfl) rfl 26 51 dg (by kernel_rfl) (show V 26 = .bool true from hφ 26 dg)) ?_
              refine ob_go rfl (vs := #[.int .i64 (-3)]) (by simp only [List.map_toArray, List.map_cons, List.map_nil, ev_const]) (by kernel_rfl) (rsmall_any _ (-3) (by decide) (by decide)) ?_
              rintro e w2 ⟨⟨v, rfl, hv⟩, hb⟩
              exact ⟨v, rfl, hb, hv⟩
            · have dg := dep_of hdep 26 (by kernel_rfl)
              refine og_want rfl (yielded_of hf (n := 57) (by kernel_rfl) rfl 26 51 dg (by kernel_rfl) (show V 26 = .bool true from hφ 26 dg)) ?_
              have d28 := dep_of hdep 28 (by kernel_rfl)
              have e53 := new_slot hf 28 53 d28 (by kernel_rfl)
              have p53 : IntV w1 (V 28) ((Rat.divInt (-7) 2) + half).floor := hφ 28 d28
              have d29 := dep_of hdep 29 (by kernel_rfl)
              have e54 := new_slot hf 29 54 d29 (by kernel_rfl)
              have p54 : IntV w1 (V 29) (-3) := hφ 29 d29
              refine ob_go rfl (vs := #[V 28, V 29]) (by simp only [List.map_toArray, List.map_cons, List.map_nil, e53, e54]) (by kernel_rfl) (rsame_any _ _ _ (-3) (-3) (by have h := (show IntV w1 _ ((Rat.divInt (-7) 2) + half).floor from p53); rw [aw5] at h; exact h) p54) ?_
              rintro e w2 ⟨he, hb⟩
              rw [decide_eq_true rfl] at he
              exact ⟨_, he, hb, rfl⟩
            · refine og_none rfl ?_
              have d26 := dep_of hdep 26 (by kernel_rfl)
              have e51 := (new_slot hf 26 51 d26 (by kernel_rfl)).trans (show V 26 = .bool true from hφ 26 d26)
              have d30 := dep_of hdep 30 (by kernel_rfl)
              have e55 := (new_slot hf 30 55 d30 (by kernel_rfl)).trans (show V 30 = .bool true from hφ 30 d30)
              exact ob_pure (v := .bool true) (ex_pick_true rfl e51 e55) rfl
            · refine og_none rfl ?_
              have d31 := dep_of hdep 31 (by kernel_rfl)
              have e56 := (new_slot hf 31 56 d31 (by kernel_rfl)).trans (show V 31 = .bool true from hφ 31 d31)
              exact ob_pure (v := .bool true) (ex_assignV rfl e56) rfl
          · intro V W9 hG hsz9 hφ hψ hne
            have hlt9 : W5.heap.size ≤ W9.heap.size := hsz9
            obtain ⟨t1_1_, t1_2_, Xt1__, t3_1_, t3_2_, Xt3__, t5_1_, t5_2_, Xt5__, t7_1_, t7_2_, Xt7__, HB_⟩ := hG
            have t1_1 := hid t1_1_
            have t1_2 := hid t1_2_
            have Xt1_ := hid Xt1__
            have t3_1 := hid t3_1_
            have t3_2 := hid t3_2_
            have Xt3_ := hid Xt3__
            have t5_1 := hid t5_1_
            have t5_2 := hid t5_2_
            have Xt5_ := hid Xt5__
            have t7_1 := hid t7_1_
            have t7_2 := hid t7_2_
            have Xt7_ := hid Xt7__
            have HB := hid HB_
            have y0 : V 0 = .bool true := hφ 0 (by decide)
            have y1 : V 1 = .bool true := hφ 1 (by decide)
            have y2 : V 2 = .int .i64 0 := hφ 2 (by decide)
            have y3 : V 3 = .bool true := hφ 3 (by decide)
            have y4 : V 4 = .bool true := hφ 4 (by decide)
            have y5 : V 5 = .bool true := hφ 5 (by decide)
            have y6 : V 6 = .int .i64 1 := hφ 6 (by decide)
            have y7 : V 7 = .bool true := hφ 7 (by decide)
            have y8 : V 8 = .bool true := hφ 8 (by decide)
            have y9 : V 9 = .bool true := hφ 9 (by decide)
            have y10 : V 10 = .agg #[.bool q2061, .slice A2061 n2061 c2061, .bool q2062, .slice A2062 n2062 c2062] := hφ 10 (by decide)
            have y11 : V 11 = .string (ratT (Rat.divInt 4 (-6))) := hφ 11 (by decide)
            have y12 : V 12 = .bool true := hφ 12 (by decide)
            have y13 : V 13 = .bool true := hφ 13 (by decide)
            have y14 : V 14 = .bool true := hφ 14 (by decide)
            have y15 : V 15 = .pointer (some ⟨G3_4, 0, none⟩) := hφ 15 (by decide)
            have y16 : V 16 = .agg #[.bool q3041, .slice A3041 n3041 c3041] := hφ 16 (by decide)
            have y18 : V 18 = .bool true := hφ 18 (by decide)
            have y19 : V 19 = .bool true := hφ 19 (by decide)
            have y20 : V 20 = .bool true := hφ 20 (by decide)
            have y21 : V 21 = .agg #[.bool q5031, .slice A5031 n5031 c5031, .bool q5032, .slice A5032 n5032 c5032] := hφ 21 (by decide)
            have y24 : V 24 = .bool true := hφ 24 (by decide)
            have y25 : V 25 = .bool true := hφ 25 (by decide)
            have y26 : V 26 = .bool true := hφ 26 (by decide)
            have y27 : V 27 = .agg #[.bool q5031, .slice A5031 n5031 c5031, .bool q5032, .slice A5032 n5032 c5032] := hφ 27 (by decide)
            have y30 : V 30 = .bool true := hφ 30 (by decide)
            have y31 : V 31 = .bool true := hφ 31 (by decide)
            have y32 : V 32 = .bool true := hφ 32 (by decide)
            simp only [puts, Act.put, List.setIfInBounds_toArray, List.set_cons_zero, List.set_cons_succ, y0, y1, y2, y3, y4, y5, y6, y7, y8, y9, y10, y11, y12, y13, y14, y15, y16, y18, y19, y20, y21, y24, y25, y26, y27, y30, y31, y32]
            clear hφ hψ hne y0 y1 y2 y3 y4 y5 y6 y7 y8 y9 y10 y11 y12 y13 y14 y15 y16 y18 y19 y20 y21 y24 y25 y26 y27 y30 y31 y32 t1_1_ t1_2_ Xt1__ t3_1_ t3_2_ Xt3__ t5_1_ t5_2_ Xt5__ t7_1_ t7_2_ Xt7__ HB_ hsz9
            go_wp2
            go_ret
            exact ⟨rfl, HB.out⟩
end Go.Proofs.Ytijmjkkjopplbaa

