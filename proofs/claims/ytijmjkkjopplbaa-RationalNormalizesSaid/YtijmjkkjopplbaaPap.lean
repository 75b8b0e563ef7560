/- A part of the proof of the laws of rationals: RRat, RNormal, ProdSum. -/
import Derived.Test.YtijmjkkjopplbaaPam
import Derived.Test.YtijmjkkjopplbaaPal
import Derived.Test.YtijmjkkjopplbaaPab
import Derived.Test.YtijmjkkjopplbaaPad
import Derived.Test.YtijmjkkjopplbaaPac
import Derived.Test.YtijmjkkjopplbaaPao
import Derived.Test.YtijmjkkjopplbaaPaa
import Derived.Test.YtijmjkkjopplbaaPai
import Derived.Test.YtijmjkkjopplbaaPan
import Derived.Test.YtijmjkkjopplbaaPak
import Derived.Test.YtijmjkkjopplbaaPae
namespace Go.Proofs.Ytijmjkkjopplbaa
open Go.RowKit
set_option linter.unusedVariables false
set_option maxRecDepth 100000

set_option maxHeartbeats 8000000 in
theorem rat_any (w : World) (v : Value) (p q : Int) (n : Nat) (h : Pair w v (.A p n) (.A q n)) (hq : 0 < q) (hn : n ≤ 1000000) :
    Calls Try.prog 51 #[v] w fun e w' => (∃ u, e = .returned u ∧ Pair w' u (.V (Rat.divInt p q).num) (.V ((Rat.divInt p q).den : Int))) ∧ Below w.heap.size w w' := by
  obtain ⟨q1, A1, n1, c1, q2, A2, n2, c2, rfl, h1, h2⟩ := h.form
  have Fa1 : Hid (IntA w (.agg #[.bool q1, .slice A1 n1 c1]) p n) := hid h1
  have Fa2 : Hid (IntA w (.agg #[.bool q2, .slice A2 n2 c2]) q n) := hid h2
  have S1 := hid Fa1.out.sm
  have S2 := hid Fa2.out.sm
  clear h1 h2 h
  have G0 := hid (show ((Int.gcd p q : Nat) : Int) ≠ 0 by have := gcd_pos' (p := p) hq; omega)
  have HQ := hid hq
  clear hq
  have HB := hid (Below.refl w.heap.size w)
  obtain ⟨W, hW⟩ : ∃ W, W = ((w.alloc (.cells #[.bool q1, .slice A1 n1 c1, .bool q2, .slice A2 n2 c2] 56)).alloc (.cells #[.bool false, .slice none 0 0, .bool false, .slice none 0 0] 26)) := ⟨_, rfl⟩
  have hbb : Below w.heap.size w W := by rw [hW]; exact (bw_alloc (bw_alloc (Below.refl _ _) _) _)
  have HB := hid (bw_step HB.out hbb)
  have Fa1 := hid (Fa1.out.below hbb)
  have Fa2 := hid (Fa2.out.below hbb)
  have Pa : Hid (Blk W (w.heap.size) 56 #[.bool q1, .slice A1 n1 c1, .bool q2, .slice A2 n2 c2]) := by
    rw [hW]
    have := (Blk.new w 56 #[.bool q1, .slice A1 n1 c1, .bool q2, .slice A2 n2 c2]).below (bw_alloc (Below.refl _ _) (.cells #[.bool false, .slice none 0 0, .bool false, .slice none 0 0] 26))
    exact hid (by simpa only [World.size_alloc] using this)
  have R0 : Hid (Blk W (w.heap.size + 1) 26 #[.bool false, .slice none 0 0, .bool false, .slice none 0 0]) := by
    rw [hW]
    have := Blk.new (w.alloc (.cells #[.bool q1, .slice A1 n1 c1, .bool q2, .slice A2 n2 c2] 56)) 26 #[.bool false, .slice none 0 0, .bool false, .slice none 0 0]
    exact hid (by simpa only [World.size_alloc] using this)
  clear hbb
  go_enter Try.func51, Try.ntmps51
  go_wp2_with (with_reducible refine halt_at 10 rfl ?_)
  rw [← hW]
  clear hW
  have SM1 : Hid (Sm n ((Int.gcd p q : Nat) : Int)) := hid ((S1.out).gcd (S2.out))
  have lt1_Pa := Pa.out.lt
  have lt1_R0 := R0.out.lt
  unfold Halted
  refine wp_list_each (by kernel_rfl) 7 34 rfl rfl (by kernel_rfl)
    [Fact.eq (.pointer (some ⟨w.heap.size, 0, none⟩)), Fact.eq (.agg #[.bool q1, .slice A1 n1 c1]), Fact.eq (.pointer (some ⟨w.heap.size, 2, none⟩)), Fact.eq (.agg #[.bool q2, .slice A2 n2 c2]), Fact.int ((Int.gcd p q : Nat) : Int), Fact.box ((Int.gcd p q : Nat) : Int), Fact.top _]
    [.val, .val, .val, .val, .val, .alloc 6, .fill 5]
    (fun w' => IntA w' (.agg #[.bool q1, .slice A1 n1 c1]) (p) n ∧ IntA w' (.agg #[.bool q2, .slice A2 n2 c2]) (q) n ∧ Blk w' (w.heap.size) 56 #[.bool q1, .slice A1 n1 c1, .bool q2, .slice A2 n2 c2] ∧ Blk w' (w.heap.size + 1) 26 #[.bool false, .slice none 0 0, .bool false, .slice none 0 0] ∧ Below w.heap.size w w')
    (fun _ _ _ => True) [] (fun _ => 0) (by kernel_rfl)
    ⟨Fa1.out, Fa2.out, Pa.out, R0.out, HB.out⟩
    (fun w1 w2 ⟨h0, h1, h2, h3, h4⟩ hb => ⟨h0.below hb, h1.below hb, h2.below hb, h3.below hb, bw_step h4 hb⟩)
    (fun w1 w2 g ⟨h0, h1, h2, h3, h4⟩ hg hn ho => by
      have hg' : W.heap.size ≤ g := hg.elim id (fun ⟨_, h, _⟩ => absurd h (Nat.not_lt_zero _))
      exact ⟨h0.only hn ho, h1.only hn ho, h2.only ho (by have := Pa.out.lt; have := R0.out.lt; omega), h3.only ho (by have := Pa.out.lt; have := R0.out.lt; omega), below_only h4 ho (by have := Pa.out.lt; have := R0.out.lt; have := HB.out.size; omega)⟩)
    (fun l h => trivial) (fun l b w1 w2 h _ _ => trivial) (fun l b w1 w2 g h _ _ _ _ => trivial) (fun l h => by cases h) (fun l k h => by cases h) ?_ ?_
  · refine ⟨?_, ?_, ?_, ?_, ?_, ?_, ?_, trivial⟩ <;> intro L V a1 w1 hf hG hsz hφ hψ hL hdep hcl
    · have e1 := old_slot hf 1 (by kernel_rfl)
      exact ob_pure (ex_fieldAddrF0 rfl e1) rfl
    · obtain ⟨_, _, Pa_, _⟩ := hG
      have d0 := dep_of hdep 0 (by kernel_rfl)
      have e10 := (new_slot hf 0 10 d0 (by kernel_rfl)).trans (show V 0 = .pointer (some ⟨w.heap.size, 0, none⟩) from hφ 0 d0)
      exact ob_pure (ex_load_at0 rfl e10 Pa_) rfl
    · have e1 := old_slot hf 1 (by kernel_rfl)
      exact ob_pure (ex_fieldAddrF1 rfl e1) rfl
    · obtain ⟨_, _, Pa_, _⟩ := hG
      have d2 := dep_of hdep 2 (by kernel_rfl)
      have e12 := (new_slot hf 2 12 d2 (by kernel_rfl)).trans (show V 2 = .pointer (some ⟨w.heap.size, 2, none⟩) from hφ 2 d2)
      exact ob_pure (ex_load_at2 rfl e12 Pa_) rfl
    · obtain ⟨Fa1_, Fa2_, _⟩ := hG
      have d1 := dep_of hdep 1 (by kernel_rfl)
      have e11 := (new_slot hf 1 11 d1 (by kernel_rfl)).trans (show V 1 = .agg #[.bool q1, .slice A1 n1 c1] from hφ 1 d1)
      have d3 := dep_of hdep 3 (by kernel_rfl)
      have e13 := (new_slot hf 3 13 d3 (by kernel_rfl)).trans (show V 3 = .agg #[.bool q2, .slice A2 n2 c2] from hφ 3 d3)
      refine ob_go rfl (vs := #[.agg #[.bool q1, .slice A1 n1 c1], .agg #[.bool q2, .slice A2 n2 c2]]) (by simp only [List.map_toArray, List.map_cons, List.map_nil, e11, e13]) (by kernel_rfl) (gcd_any _ (.agg #[.bool q1, .slice A1 n1 c1]) (.agg #[.bool q2, .slice A2 n2 c2]) p q n (by omega) Fa1_ Fa2_) ?_
      rintro e w2 ⟨⟨v, rfl, hv⟩, hb⟩
      exact ⟨v, rfl, hb, hv⟩
    · exact ob_alloc_int rfl hsz rfl
    · have d4 := dep_of hdep 4 (by kernel_rfl)
      have e14 := new_slot hf 4 14 d4 (by kernel_rfl)
      have p14 : IntV w1 (V 4) ((Int.gcd p q : Nat) : Int) := hφ 4 d4
      have d5 := dep_of hdep 5 (by kernel_rfl)
      obtain ⟨g, h1, h2, h3⟩ := hφ 5 d5
      exact ob_fill_int rfl ((new_slot hf 5 3 d5 (by kernel_rfl)).trans h1) e14 h1 h2 h3 p14 rfl rfl
  · intro V W2 hG hsz2 hφ hψ hne
    have hlt2 : W.heap.size ≤ W2.heap.size := hsz2
    obtain ⟨Fa1_, Fa2_, Pa_, R0_, HB_⟩ := hG
    have Fa1 := hid Fa1_
    have Fa2 := hid Fa2_
    have Pa := hid Pa_
    have R0 := hid R0_
    have HB := hid HB_
    have y0 : V 0 = .pointer (some ⟨w.heap.size, 0, none⟩) := hφ 0 (by decide)
    have y1 : V 1 = .agg #[.bool q1, .slice A1 n1 c1] := hφ 1 (by decide)
    have y2 : V 2 = .pointer (some ⟨w.heap.size, 2, none⟩) := hφ 2 (by decide)
    have y3 : V 3 = .agg #[.bool q2, .slice A2 n2 c2] := hφ 3 (by decide)
    obtain ⟨G2_5, y5, gb205, q205, A205, n205, c205, kb205, vb205⟩ := hφ 5 (by decide)
    have Xg := hid kb205
    have g := hid vb205
    clear kb205 vb205
    simp only [puts, Act.put, List.setIfInBounds_toArray, List.set_cons_zero, List.set_cons_succ, y0, y1, y2, y3, y5, ptr]
    clear hφ hψ hne y0 y1 y2 y3 y5 Fa1_ Fa2_ Pa_ R0_ HB_ hsz2
    go_wp2_with (with_reducible refine halt_at 16 rfl ?_)
    have SQ2 : Hid (Sm n (p / ((Int.gcd p q : Nat) : Int))) := hid S1.out.quo
    have SR2 : Hid (Sm n (p % ((Int.gcd p q : Nat) : Int))) := hid ((SM1.out).rem G0.out)
    have lt2_Pa := Pa.out.lt
    have lt2_R0 := R0.out.lt
    have lt2_Xg := Xg.out.lt
    unfold Halted
    refine wp_list_each (by kernel_rfl) 13 34 rfl rfl (by kernel_rfl)
      [Fact.eq (.pointer (some ⟨w.heap.size, 0, none⟩)), Fact.eq (.agg #[.bool q1, .slice A1 n1 c1]), Fact.eq (.agg #[.bool q205, .slice A205 n205 c205]), Fact.tup3 (p / ((Int.gcd p q : Nat) : Int)) (p % ((Int.gcd p q : Nat) : Int)) true, Fact.tup3 (p / ((Int.gcd p q : Nat) : Int)) (p % ((Int.gcd p q : Nat) : Int)) true, Fact.int (p / ((Int.gcd p q : Nat) : Int)), Fact.int (p % ((Int.gcd p q : Nat) : Int)), Fact.eq (.bool true), Fact.box (p / ((Int.gcd p q : Nat) : Int)), Fact.box (p % ((Int.gcd p q : Nat) : Int)), Fact.top _, Fact.top _, Fact.eq (.bool true)]
      [.val, .val, .val, .val, .val, .val, .val, .val, .alloc 10, .alloc 11, .fill 8, .fill 9, .val]
      (fun w' => IntA w' (.agg #[.bool q1, .slice A1 n1 c1]) (p) n ∧ IntA w' (.agg #[.bool q2, .slice A2 n2 c2]) (q) n ∧ Blk w' (w.heap.size) 56 #[.bool q1, .slice A1 n1 c1, .bool q2, .slice A2 n2 c2] ∧ Blk w' (w.heap.size + 1) 26 #[.bool false, .slice none 0 0, .bool false, .slice none 0 0] ∧ Blk w' (G2_5) 24 #[.bool q205, .slice A205 n205 c205] ∧ IntV w' (.agg #[.bool q205, .slice A205 n205 c205]) (((Int.gcd p q : Nat) : Int)) ∧ Below w.heap.size w w')
      (fun _ _ _ => True) [] (fun _ => 0) (by kernel_rfl)
      ⟨Fa1.out, Fa2.out, Pa.out, R0.out, Xg.out, g.out, HB.out⟩
      (fun w1 w2 ⟨h0, h1, h2, h3, h4, h5, h6⟩ hb => ⟨h0.below hb, h1.below hb, h2.below hb, h3.below hb, h4.below hb, h5.below hb, bw_step h6 hb⟩)
      (fun w1 w2 g ⟨h0, h1, h2, h3, h4, h5, h6⟩ hg hn ho => by
        have hg' : W2.heap.size ≤ g := hg.elim id (fun ⟨_, h, _⟩ => absurd h (Nat.not_lt_zero _))
        exact ⟨h0.only hn ho, h1.only hn ho, h2.only ho (by have := Pa.out.lt; have := R0.out.lt; have := Xg.out.lt; omega), h3.only ho (by have := Pa.out.lt; have := R0.out.lt; have := Xg.out.lt; omega), h4.only ho (by have := Pa.out.lt; have := R0.out.lt; have := Xg.out.lt; omega), h5.only hn ho, below_only h6 ho (by have := Pa.out.lt; have := R0.out.lt; have := Xg.out.lt; have := HB.out.size; omega)⟩)
      (fun l h => trivial) (fun l b w1 w2 h _ _ => trivial) (fun l b w1 w2 g h _ _ _ _ => trivial) (fun l h => by cases h) (fun l k h => by cases h) ?_ ?_
    · refine ⟨?_, ?_, ?_, ?_, ?_, ?_, ?_, ?_, ?_, ?_, ?_, ?_, ?_, trivial⟩ <;> intro L V a1 w1 hf hG hsz hφ hψ hL hdep hcl
      · have e1 := old_slot hf 1 (by kernel_rfl)
        exact ob_pure (ex_fieldAddrF0 rfl e1) rfl
      · obtain ⟨_, _, Pa_, _⟩ := hG
        have d0 := dep_of hdep 0 (by kernel_rfl)
        have e16 := (new_slot hf 0 16 d0 (by kernel_rfl)).trans (show V 0 = .pointer (some ⟨w.heap.size, 0, none⟩) from hφ 0 d0)
        exact ob_pure (ex_load_at0 rfl e16 Pa_) rfl
      · obtain ⟨_, _, _, _, Xg_, _⟩ := hG
        have e3 := old_slot hf 3 (by kernel_rfl)
        exact ob_load_int rfl e3 Xg_ rfl
      · obtain ⟨Fa1_, _, _, _, _, g_, _⟩ := hG
        have d1 := dep_of hdep 1 (by kernel_rfl)
        have e17 := (new_slot hf 1 17 d1 (by kernel_rfl)).trans (show V 1 = .agg #[.bool q1, .slice A1 n1 c1] from hφ 1 d1)
        have d2 := dep_of hdep 2 (by kernel_rfl)
        have e18 := (new_slot hf 2 18 d2 (by kernel_rfl)).trans (show V 2 = .agg #[.bool q205, .slice A205 n205 c205] from hφ 2 d2)
        refine ob_go rfl (vs := #[.agg #[.bool q1, .slice A1 n1 c1], .agg #[.bool q205, .slice A205 n205 c205]]) (by simp only [List.map_toArray, List.map_cons, List.map_nil, e17, e18]) (by kernel_rfl) (divMod_any _ _ _ p ((Int.gcd p q : Nat) : Int) n n Fa1_ (g_.arg SM1.out) (by omega) G0.out) ?_
        rintro e w2 ⟨⟨v1, v2, rfl, h1, h2⟩, hb⟩
        exact ⟨_, rfl, hb, v1, v2, rfl, h1, h2⟩
      · have d3 := dep_of hdep 3 (by kernel_rfl)
        have e19 := new_slot hf 3 19 d3 (by kernel_rfl)
        have p19 : Tup3 w1 (V 3) (p / ((Int.gcd p q : Nat) : Int)) (p % ((Int.gcd p q : Nat) : Int)) true := hφ 3 d3
        exact ob_pure (ex_moveV rfl e19) (by exact p19)
      · have d4 := dep_of hdep 4 (by kernel_rfl)
        have e15 := new_slot hf 4 15 d4 (by kernel_rfl)
        have p15 : Tup3 w1 (V 4) (p / ((Int.gcd p q : Nat) : Int)) (p % ((Int.gcd p q : Nat) : Int)) true := hφ 4 d4
        exact ob_extract0 rfl e15 p15 rfl
      · have d4 := dep_of hdep 4 (by kernel_rfl)
        have e15 := new_slot hf 4 15 d4 (by kernel_rfl)
        have p15 : Tup3 w1 (V 4) (p / ((Int.gcd p q : Nat) : Int)) (p % ((Int.gcd p q : Nat) : Int)) true := hφ 4 d4
        exact ob_extract1 rfl e15 p15 rfl
      · have d4 := dep_of hdep 4 (by kernel_rfl)
        have e15 := new_slot hf 4 15 d4 (by kernel_rfl)
        have p15 : Tup3 w1 (V 4) (p / ((Int.gcd p q : Nat) : Int)) (p % ((Int.gcd p q : Nat) : Int)) true := hφ 4 d4
        exact ob_extract2 rfl e15 p15 rfl
      · exact ob_alloc_int rfl hsz rfl
      · exact ob_alloc_int rfl hsz rfl
      · have d5 := dep_of hdep 5 (by kernel_rfl)
        have e20 := new_slot hf 5 20 d5 (by kernel_rfl)
        have p20 : IntV w1 (V 5) (p / ((Int.gcd p q : Nat) : Int)) := hφ 5 d5
        have d8 := dep_of hdep 8 (by kernel_rfl)
        obtain ⟨g, h1, h2, h3⟩ := hφ 8 d8
        exact ob_fill_int rfl ((new_slot hf 8 4 d8 (by kernel_rfl)).trans h1) e20 h1 h2 h3 p20 rfl rfl
      · have d6 := dep_of hdep 6 (by kernel_rfl)
        have e21 := new_slot hf 6 21 d6 (by kernel_rfl)
        have p21 : IntV w1 (V 6) (p % ((Int.gcd p q : Nat) : Int)) := hφ 6 d6
        have d9 := dep_of hdep 9 (by kernel_rfl)
        obtain ⟨g, h1, h2, h3⟩ := hφ 9 d9
        exact ob_fill_int rfl ((new_slot hf 9 5 d9 (by kernel_rfl)).trans h1) e21 h1 h2 h3 p21 rfl rfl
      · have d7 := dep_of hdep 7 (by kernel_rfl)
        have e22 := (new_slot hf 7 22 d7 (by kernel_rfl)).trans (show V 7 = .bool true from hφ 7 d7)
        exact ob_pure (v := .bool true) (ex_assignV rfl e22) rfl
    · intro V W3 hG hsz3 hφ hψ hne
      have hlt3 : W2.heap.size ≤ W3.heap.size := hsz3
      obtain ⟨Fa1_, Fa2_, Pa_, R0_, Xg_, g_, HB_⟩ := hG
      have Fa1 := hid Fa1_
      have Fa2 := hid Fa2_
      have Pa := hid Pa_
      have R0 := hid R0_
      have Xg := hid Xg_
      have g := hid g_
      have HB := hid HB_
      have y0 : V 0 = .pointer (some ⟨w.heap.size, 0, none⟩) := hφ 0 (by decide)
      have y1 : V 1 = .agg #[.bool q1, .slice A1 n1 c1] := hφ 1 (by decide)
      have y2 : V 2 = .agg #[.bool q205, .slice A205 n205 c205] := hφ 2 (by decide)
      have y7 : V 7 = .bool true := hφ 7 (by decide)
      obtain ⟨G3_8, y8, gb308, q308, A308, n308, c308, kb308, vb308⟩ := hφ 8 (by decide)
      have Xa2 := hid kb308
      have a2 := hid vb308
      clear kb308 vb308
      obtain ⟨G3_9, y9, gb309, q309, A309, n309, c309, kb309, vb309⟩ := hφ 9 (by decide)
      have Xb2 := hid kb309
      have b2 := hid vb309
      clear kb309 vb309
      have y12 : V 12 = .bool true := hφ 12 (by decide)
      have ne3_8_9 : G3_8 ≠ G3_9 := fun e => hne 8 9 (by decide) rfl rfl (by rw [y8, y9, e])
      simp only [puts, Act.put, List.setIfInBounds_toArray, List.set_cons_zero, List.set_cons_succ, y0, y1, y2, y7, y8, y9, y12, ptr]
      clear hφ hψ hne y0 y1 y2 y7 y8 y9 y12 Fa1_ Fa2_ Pa_ R0_ Xg_ g_ HB_ hsz3
      go_wp2_with (with_reducible refine halt_at 24 rfl ?_)
      have SQ3 : Hid (Sm n (q / ((Int.gcd p q : Nat) : Int))) := hid S2.out.quo
      have SR3 : Hid (Sm n (q % ((Int.gcd p q : Nat) : Int))) := hid ((SM1.out).rem G0.out)
      have lt3_Pa := Pa.out.lt
      have lt3_R0 := R0.out.lt
      have lt3_Xg := Xg.out.lt
      have lt3_Xa2 := Xa2.out.lt
      have lt3_Xb2 := Xb2.out.lt
      unfold Halted
      refine wp_list_each (by kernel_rfl) 13 34 rfl rfl (by kernel_rfl)
        [Fact.eq (.pointer (some ⟨w.heap.size, 2, none⟩)), Fact.eq (.agg #[.bool q2, .slice A2 n2 c2]), Fact.eq (.agg #[.bool q205, .slice A205 n205 c205]), Fact.tup3 (q / ((Int.gcd p q : Nat) : Int)) (q % ((Int.gcd p q : Nat) : Int)) true, Fact.tup3 (q / ((Int.gcd p q : Nat) : Int)) (q % ((Int.gcd p q : Nat) : Int)) true, Fact.int (q / ((Int.gcd p q : Nat) : Int)), Fact.int (q % ((Int.gcd p q : Nat) : Int)), Fact.eq (.bool true), Fact.box (q / ((Int.gcd p q : Nat) : Int)), Fact.box (q % ((Int.gcd p q : Nat) : Int)), Fact.top _, Fact.top _, Fact.eq (.bool true)]
        [.val, .val, .val, .val, .val, .val, .val, .val, .alloc 10, .alloc 11, .fill 8, .fill 9, .val]
        (fun w' => IntA w' (.agg #[.bool q1, .slice A1 n1 c1]) (p) n ∧ IntA w' (.agg #[.bool q2, .slice A2 n2 c2]) (q) n ∧ Blk w' (w.heap.size) 56 #[.bool q1, .slice A1 n1 c1, .bool q2, .slice A2 n2 c2] ∧ Blk w' (w.heap.size + 1) 26 #[.bool false, .slice none 0 0, .bool false, .slice none 0 0] ∧ Blk w' (G2_5) 24 #[.bool q205, .slice A205 n205 c205] ∧ IntV w' (.agg #[.bool q205, .slice A205 n205 c205]) (((Int.gcd p q : Nat) : Int)) ∧ Blk w' (G3_8) 24 #[.bool q308, .slice A308 n308 c308] ∧ IntV w' (.agg #[.bool q308, .slice A308 n308 c308]) ((p / ((Int.gcd p q : Nat) : Int))) ∧ Blk w' (G3_9) 24 #[.bool q309, .slice A309 n309 c309] ∧ IntV w' (.agg #[.bool q309, .slice A309 n309 c309]) ((p % ((Int.gcd p q : Nat) : Int))) ∧ Below w.heap.size w w')
        (fun _ _ _ => True) [] (fun _ => 0) (by kernel_rfl)
        ⟨Fa1.out, Fa2.out, Pa.out, R0.out, Xg.out, g.out, Xa2.out, a2.out, Xb2.out, b2.out, HB.out⟩
        (fun w1 w2 ⟨h0, h1, h2, h3, h4, h5, h6, h7, h8, h9, h10⟩ hb => ⟨h0.below hb, h1.below hb, h2.below hb, h3.below hb, h4.below hb, h5.below hb, h6.below hb, h7.below hb, h8.below hb, h9.below hb, bw_step h10 hb⟩)
        (fun w1 w2 g ⟨h0, h1, h2, h3, h4, h5, h6, h7, h8, h9, h10⟩ hg hn ho => by
          have hg' : W3.heap.size ≤ g := hg.elim id (fun ⟨_, h, _⟩ => absurd h (Nat.not_lt_zero _))
          exact ⟨h0.only hn ho, h1.only hn ho, h2.only ho (by have := Pa.out.lt; have := R0.out.lt; have := Xg.out.lt; have := Xa2.out.lt; have := Xb2.out.lt; omega), h3.only ho (by have := Pa.out.lt; have := R0.out.lt; have := Xg.out.lt; have := Xa2.out.lt; have := Xb2.out.lt; omega), h4.only ho (by have := Pa.out.lt; have := R0.out.lt; have := Xg.out.lt; have := Xa2.out.lt; have := Xb2.out.lt; omega), h5.only hn ho, h6.only ho (by have := Pa.out.lt; have := R0.out.lt; have := Xg.out.lt; have := Xa2.out.lt; have := Xb2.out.lt; omega), h7.only hn ho, h8.only ho (by have := Pa.out.lt; have := R0.out.lt; have := Xg.out.lt; have := Xa2.out.lt; have := Xb2.out.lt; omega), h9.only hn ho, below_only h10 ho (by have := Pa.out.lt; have := R0.out.lt; have := Xg.out.lt; have := Xa2.out.lt; have := Xb2.out.lt; have := HB.out.size; omega)⟩)
        (fun l h => trivial) (fun l b w1 w2 h _ _ => trivial) (fun l b w1 w2 g h _ _ _ _ => trivial) (fun l h => by cases h) (fun l k h => by cases h) ?_ ?_
      · refine ⟨?_, ?_, ?_, ?_, ?_, ?_, ?_, ?_, ?_, ?_, ?_, ?_, ?_, trivial⟩ <;> intro L V a1 w1 hf hG hsz hφ hψ hL hdep hcl
        · have e1 := old_slot hf 1 (by kernel_rfl)
          exact ob_pure (ex_fieldAddrF1 rfl e1) rfl
        · obtain ⟨_, _, Pa_, _⟩ := hG
          have d0 := dep_of hdep 0 (by kernel_rfl)
          have e24 := (new_slot hf 0 24 d0 (by kernel_rfl)).trans (show V 0 = .pointer (some ⟨w.heap.size, 2, none⟩) from hφ 0 d0)
          exact ob_pure (ex_load_at2 rfl e24 Pa_) rfl
        · obtain ⟨_, _, _, _, Xg_, _⟩ := hG
          have e3 := old_slot hf 3 (by kernel_rfl)
          exact ob_load_int rfl e3 Xg_ rfl
        · obtain ⟨_, Fa2_, _, _, _, g_, _⟩ := hG
          have d1 := dep_of hdep 1 (by kernel_rfl)
          have e25 := (new_slot hf 1 25 d1 (by kernel_rfl)).trans (show V 1 = .agg #[.bool q2, .slice A2 n2 c2] from hφ 1 d1)
          have d2 := dep_of hdep 2 (by kernel_rfl)
          have e26 := (new_slot hf 2 26 d2 (by kernel_rfl)).trans (show V 2 = .agg #[.bool q205, .slice A205 n205 c205] from hφ 2 d2)
          refine ob_go rfl (vs := #[.agg #[.bool q2, .slice A2 n2 c2], .agg #[.bool q205, .slice A205 n205 c205]]) (by simp only [List.map_toArray, List.map_cons, List.map_nil, e25, e26]) (by kernel_rfl) (divMod_any _ _ _ q ((Int.gcd p q : Nat) : Int) n n Fa2_ (g_.arg SM1.out) (by omega) G0.out) ?_
          rintro e w2 ⟨⟨v1, v2, rfl, h1, h2⟩, hb⟩
          exact ⟨_, rfl, hb, v1, v2, rfl, h1, h2⟩
        · have d3 := dep_of hdep 3 (by kernel_rfl)
          have e27 := new_slot hf 3 27 d3 (by kernel_rfl)
          have p27 : Tup3 w1 (V 3) (q / ((Int.gcd p q : Nat) : Int)) (q % ((Int.gcd p q : Nat) : Int)) true := hφ 3 d3
          exact ob_pure (ex_moveV rfl e27) (by exact p27)
        · have d4 := dep_of hdep 4 (by kernel_rfl)
          have e23 := new_slot hf 4 23 d4 (by kernel_rfl)
          have p23 : Tup3 w1 (V 4) (q / ((Int.gcd p q : Nat) : Int)) (q % ((Int.gcd p q : Nat) : Int)) true := hφ 4 d4
          exact ob_extract0 rfl e23 p23 rfl
        · have d4 := dep_of hdep 4 (by kernel_rfl)
          have e23 := new_slot hf 4 23 d4 (by kernel_rfl)
          have p23 : Tup3 w1 (V 4) (q / ((Int.gcd p q : Nat) : Int)) (q % ((Int.gcd p q : Nat) : Int)) true := hφ 4 d4
          exact ob_extract1 rfl e23 p23 rfl
        · have d4 := dep_of hdep 4 (by kernel_rfl)
          have e23 := new_slot hf 4 23 d4 (by kernel_rfl)
          have p23 : Tup3 w1 (V 4) (q / ((Int.gcd p q : Nat) : Int)) (q % ((Int.gcd p q : Nat) : Int)) true := hφ 4 d4
          exact ob_extract2 rfl e23 p23 rfl
        · exact ob_alloc_int rfl hsz rfl
        · exact ob_alloc_int rfl hsz rfl
        · have d5 := dep_of hdep 5 (by kernel_rfl)
          have e28 := new_slot hf 5 28 d5 (by kernel_rfl)
          have p28 : IntV w1 (V 5) (q / ((Int.gcd p q : Nat) : Int)) := hφ 5 d5
          have d8 := dep_of hdep 8 (by kernel_rfl)
          obtain ⟨g, h1, h2, h3⟩ := hφ 8 d8
          exact ob_fill_int rfl ((new_slot hf 8 7 d8 (by kernel_rfl)).trans h1) e28 h1 h2 h3 p28 rfl rfl
        · have d6 := dep_of hdep 6 (by kernel_rfl)
          have e29 := new_slot hf 6 29 d6 (by kernel_rfl)
          have p29 : IntV w1 (V 6) (q % ((Int.gcd p q : Nat) : Int)) := hφ 6 d6
          have d9 := dep_of hdep 9 (by kernel_rfl)
          obtain ⟨g, h1, h2, h3⟩ := hφ 9 d9
          exact ob_fill_int rfl ((new_slot hf 9 8 d9 (by kernel_rfl)).trans h1) e29 h1 h2 h3 p29 rfl rfl
        · have d7 := dep_of hdep 7 (by kernel_rfl)
          have e30 := (new_slot hf 7 30 d7 (by kernel_rfl)).trans (show V 7 = .bool true from hφ 7 d7)
          exact ob_pure (v := .bool true) (ex_assignV rfl e30) rfl
      · intro V W4 hG hsz4 hφ hψ hne
        have hlt4 : W3.heap.size ≤ W4.heap.size := hsz4
        obtain ⟨Fa1_, Fa2_, Pa_, R0_, Xg_, g_, Xa2_, a2_, Xb2_, b2_, HB_⟩ := hG
        have Fa1 := hid Fa1_
        have Fa2 := hid Fa2_
        have Pa := hid Pa_
        have R0 := hid R0_
        have Xg := hid Xg_
        have g := hid g_
        have Xa2 := hid Xa2_
        have a2 := hid a2_
        have Xb2 := hid Xb2_
        have b2 := hid b2_
        have HB := hid HB_
        have y0 : V 0 = .pointer (some ⟨w.heap.size, 2, none⟩) := hφ 0 (by decide)
        have y1 : V 1 = .agg #[.bool q2, .slice A2 n2 c2] := hφ 1 (by decide)
        have y2 : V 2 = .agg #[.bool q205, .slice A205 n205 c205] := hφ 2 (by decide)
        have y7 : V 7 = .bool true := hφ 7 (by decide)
        obtain ⟨G4_8, y8, gb408, q408, A408, n408, c408, kb408, vb408⟩ := hφ 8 (by decide)
        have Xa3 := hid kb408
        have a3 := hid vb408
        clear kb408 vb408
        obtain ⟨G4_9, y9, gb409, q409, A409, n409, c409, kb409, vb409⟩ := hφ 9 (by decide)
        have Xb3 := hid kb409
        have b3 := hid vb409
        clear kb409 vb409
        have y12 : V 12 = .bool true := hφ 12 (by decide)
        have ne4_8_9 : G4_8 ≠ G4_9 := fun e => hne 8 9 (by decide) rfl rfl (by rw [y8, y9, e])
        simp only [puts, Act.put, List.setIfInBounds_toArray, List.set_cons_zero, List.set_cons_succ, y0, y1, y2, y7, y8, y9, y12, ptr]
        clear hφ hψ hne y0 y1 y2 y7 y8 y9 y12 Fa1_ Fa2_ Pa_ R0_ Xg_ g_ Xa2_ a2_ Xb2_ b2_ HB_ hsz4
        go_wp2_with (with_reducible refine halt_at 31 rfl ?_)
        unfold Halted
        refine wp_list_each (by kernel_rfl) 4 34 rfl rfl (by kernel_rfl)
          [Fact.eq (.agg #[.bool q308, .slice A308 n308 c308]), Fact.eq (.agg #[.bool q408, .slice A408 n408 c408]), Fact.pair (.V (p / ((Int.gcd p q : Nat) : Int))) (.V (q / ((Int.gcd p q : Nat) : Int))), Fact.top _]
          [.val, .val, .val, .fillOld 0]
          (fun w' => IntA w' (.agg #[.bool q1, .slice A1 n1 c1]) (p) n ∧ IntA w' (.agg #[.bool q2, .slice A2 n2 c2]) (q) n ∧ Blk w' (w.heap.size) 56 #[.bool q1, .slice A1 n1 c1, .bool q2, .slice A2 n2 c2] ∧ Blk w' (G2_5) 24 #[.bool q205, .slice A205 n205 c205] ∧ IntV w' (.agg #[.bool q205, .slice A205 n205 c205]) (((Int.gcd p q : Nat) : Int)) ∧ Blk w' (G3_8) 24 #[.bool q308, .slice A308 n308 c308] ∧ IntV w' (.agg #[.bool q308, .slice A308 n308 c308]) ((p / ((Int.gcd p q : Nat) : Int))) ∧ Blk w' (G3_9) 24 #[.bool q309, .slice A309 n309 c309] ∧ IntV w' (.agg #[.bool q309, .slice A309 n309 c309]) ((p % ((Int.gcd p q : Nat) : Int))) ∧ Blk w' (G4_8) 24 #[.bool q408, .slice A408 n408 c408] ∧ IntV w' (.agg #[.bool q408, .slice A408 n408 c408]) ((q / ((Int.gcd p q : Nat) : Int))) ∧ Blk w' (G4_9) 24 #[.bool q409, .slice A409 n409 c409] ∧ IntV w' (.agg #[.bool q409, .slice A409 n409 c409]) ((q % ((Int.gcd p q : Nat) : Int))) ∧ Below w.heap.size w w')
          (fun l b w' => match l with
            | 0 => if b = true then BoxR w' (w.heap.size + 1) 26 (.V (p / ((Int.gcd p q : Nat) : Int))) (.V (q / ((Int.gcd p q : Nat) : Int))) else Blk w' (w.heap.size + 1) 26 #[.bool false, .slice none 0 0, .bool false, .slice none 0 0]
            | _ => True)
          [3] (fun l => match l with | 0 => w.heap.size + 1 | _ => 0) (by kernel_rfl)
          ⟨Fa1.out, Fa2.out, Pa.out, Xg.out, g.out, Xa2.out, a2.out, Xb2.out, b2.out, Xa3.out, a3.out, Xb3.out, b3.out, HB.out⟩
          (fun w1 w2 ⟨h0, h1, h2, h3, h4, h5, h6, h7, h8, h9, h10, h11, h12, h13⟩ hb => ⟨h0.below hb, h1.below hb, h2.below hb, h3.below hb, h4.below hb, h5.below hb, h6.below hb, h7.below hb, h8.below hb, h9.below hb, h10.below hb, h11.below hb, h12.below hb, bw_step h13 hb⟩)
          (fun w1 w2 g ⟨h0, h1, h2, h3, h4, h5, h6, h7, h8, h9, h10, h11, h12, h13⟩ hg hn ho => by
            have hg' : W4.heap.size ≤ g ∨ g = w.heap.size + 1 := by
              rcases hg with h | ⟨l, hl, h⟩
              · exact .inl h
              · rcases l with _ | l
                · exact .inr h
                · exact absurd hl (by simp)
            exact ⟨h0.only hn ho, h1.only hn ho, h2.only ho (by have := Pa.out.lt; have := R0.out.lt; have := Xg.out.lt; have := Xa2.out.lt; have := Xb2.out.lt; have := Xa3.out.lt; have := Xb3.out.lt; omega), h3.only ho (by have := Pa.out.lt; have := R0.out.lt; have := Xg.out.lt; have := Xa2.out.lt; have := Xb2.out.lt; have := Xa3.out.lt; have := Xb3.out.lt; omega), h4.only hn ho, h5.only ho (by have := Pa.out.lt; have := R0.out.lt; have := Xg.out.lt; have := Xa2.out.lt; have := Xb2.out.lt; have := Xa3.out.lt; have := Xb3.out.lt; omega), h6.only hn ho, h7.only ho (by have := Pa.out.lt; have := R0.out.lt; have := Xg.out.lt; have := Xa2.out.lt; have := Xb2.out.lt; have := Xa3.out.lt; have := Xb3.out.lt; omega), h8.only hn ho, h9.only ho (by have := Pa.out.lt; have := R0.out.lt; have := Xg.out.lt; have := Xa2.out.lt; have := Xb2.out.lt; have := Xa3.out.lt; have := Xb3.out.lt; omega), h10.only hn ho, h11.only ho (by have := Pa.out.lt; have := R0.out.lt; have := Xg.out.lt; have := Xa2.out.lt; have := Xb2.out.lt; have := Xa3.out.lt; have := Xb3.out.lt; omega), h12.only hn ho, below_only h13 ho (by have := Pa.out.lt; have := R0.out.lt; have := Xg.out.lt; have := Xa2.out.lt; have := Xb2.out.lt; have := Xa3.out.lt; have := Xb3.out.lt; have := HB.out.size; omega)⟩)
          (fun l hl => by
              rcases l with _ | l
              · exact R0.out
              · exact absurd hl (by simp))
          (fun l b w1 w2 hl h hb => by
              rcases l with _ | l
              · (cases b <;> exact h.below hb)
              · exact absurd hl (by simp))
          (fun l b w1 w2 g hl h hg hn ho => by
              rcases l with _ | l
              · (cases b; (exact h.only ho (Ne.symm hg)); (exact h.only (Ne.symm hg) hn ho))
              · exact absurd hl (by simp))
          (fun l hl => by
              rcases l with _ | l
              · exact R0.out.lt
              · exact absurd hl (by simp))
          (fun l k hl hk hne => by rcases l with _ | l <;> rcases k with _ | k <;> simp at hl hk hne)
          ?_ ?_
        · refine ⟨?_, ?_, ?_, ?_, trivial⟩ <;> intro L V a1 w1 hf hG hsz hφ hψ hL hdep hcl
          · obtain ⟨_, _, _, _, _, Xa2_, _⟩ := hG
            have e4 := old_slot hf 4 (by kernel_rfl)
            exact ob_load_int rfl e4 Xa2_ rfl
          · obtain ⟨_, _, _, _, _, _, _, _, _, Xa3_, _⟩ := hG
            have e7 := old_slot hf 7 (by kernel_rfl)
            exact ob_load_int rfl e7 Xa3_ rfl
          · obtain ⟨_, _, _, _, _, _, a2_, _, _, _, a3_, _⟩ := hG
            have d0 := dep_of hdep 0 (by kernel_rfl)
            have e31 := (new_slot hf 0 31 d0 (by kernel_rfl)).trans (show V 0 = .agg #[.bool q308, .slice A308 n308 c308] from hφ 0 d0)
            have d1 := dep_of hdep 1 (by kernel_rfl)
            have e32 := (new_slot hf 1 32 d1 (by kernel_rfl)).trans (show V 1 = .agg #[.bool q408, .slice A408 n408 c408] from hφ 1 d1)
            exact ob_buildR (A := .V (p / ((Int.gcd p q : Nat) : Int))) (B := .V (q / ((Int.gcd p q : Nat) : Int))) rfl e31 a2_ e32 a3_ rfl
          · have d2 := dep_of hdep 2 (by kernel_rfl)
            have e33 := new_slot hf 2 33 d2 (by kernel_rfl)
            have p33 : Pair w1 (V 2) (.V (p / ((Int.gcd p q : Nat) : Int))) (.V (q / ((Int.gcd p q : Nat) : Int))) := hφ 2 d2
            have e2 := old_slot hf 2 (by kernel_rfl)
            have hb0 := hψ 0 (by decide)
            rw [show [3].getD 0 0 = 3 from rfl, hL] at hb0
            exact ob_fillOldR rfl e2 e33 hb0 p33 (fun w2 h => h) rfl
        · intro V W5 hG hsz5 hφ hψ hne
          have hlt5 : W4.heap.size ≤ W5.heap.size := hsz5
          obtain ⟨Fa1_, Fa2_, Pa_, Xg_, g_, Xa2_, a2_, Xb2_, b2_, Xa3_, a3_, Xb3_, b3_, HB_⟩ := hG
          have Fa1 := hid Fa1_
          have Fa2 := hid Fa2_
          have Pa := hid Pa_
          have Xg := hid Xg_
          have g := hid g_
          have Xa2 := hid Xa2_
          have a2 := hid a2_
          have Xb2 := hid Xb2_
          have b2 := hid b2_
          have Xa3 := hid Xa3_
          have a3 := hid a3_
          have Xb3 := hid Xb3_
          have b3 := hid b3_
          have HB := hid HB_
          have y0 : V 0 = .agg #[.bool q308, .slice A308 n308 c308] := hφ 0 (by decide)
          have y1 : V 1 = .agg #[.bool q408, .slice A408 n408 c408] := hφ 1 (by decide)
          obtain ⟨q5501, A5501, n5501, c5501, q5502, A5502, n5502, c5502, kb550, va550, vb550⟩ := hψ 0 (by decide)
          have R0 := hid kb550
          have R01 : Hid (IntV W5 (.agg #[.bool q5501, .slice A5501 n5501 c5501]) (p / ((Int.gcd p q : Nat) : Int))) := hid va550
          have R02 : Hid (IntV W5 (.agg #[.bool q5502, .slice A5502 n5502 c5502]) (q / ((Int.gcd p q : Nat) : Int))) := hid vb550
          clear kb550 va550 vb550
          simp only [puts, Act.put, List.setIfInBounds_toArray, List.set_cons_zero, List.set_cons_succ, y0, y1]
          clear hφ hψ hne y0 y1 Fa1_ Fa2_ Pa_ Xg_ g_ Xa2_ a2_ Xb2_ b2_ Xa3_ a3_ Xb3_ b3_ HB_ hsz5
          have k0 := R0.out.cell 0
          have k1 := R0.out.cell 1
          have k2 := R0.out.cell 2
          have k3 := R0.out.cell 3
          go_wp2
          refine bodyPost_ret (v := .agg #[.bool q5501, .slice A5501 n5501 c5501, .bool q5502, .slice A5502 n5502 c5502]) (by simp [results, Try.results51, go_sem, k0, k1, k2, k3]) rfl ⟨⟨_, rfl, ?_⟩, HB.out⟩
          rw [rat_num HQ.out, rat_den HQ.out]
          exact Pair.mk (a := .V (p / ((Int.gcd p q : Nat) : Int))) (b := .V (q / ((Int.gcd p q : Nat) : Int))) R01.out R02.out
end Go.Proofs.Ytijmjkkjopplbaa

namespace Go.Proofs.Ytijmjkkjopplbaa
open Go.RowKit
set_option linter.unusedVariables false
set_option maxRecDepth 100000

set_option maxHeartbeats 4000000 in
theorem normalizeR_any (w : World) (va : Value) (x : Rat) (n : Nat) (ha : RatA w va x n) (h1n : 1 ≤ n) (hn : n ≤ 300000) :
    Calls Try.prog 17 #[va] w fun e w' => RetR w' x e ∧ Below w.heap.size w w' := by
  obtain ⟨pa, qa, ha, rfl⟩ := ha
  obtain ⟨sa1, Aa1, na1, ca1, sa2, Aa2, na2, ca2, rfl, h1, h2⟩ := ha.form
  have Fa1 : Hid (IntA w (.agg #[.bool sa1, .slice Aa1 na1 ca1]) pa n) := hid h1
  have Fa2 : Hid (IntA w (.agg #[.bool sa2, .slice Aa2 na2 ca2]) qa n) := hid h2
  have Sa1 := hid Fa1.out.sm
  have Sa2 := hid Fa2.out.sm
  clear h1 h2 ha
  have HB := hid (Below.refl w.heap.size w)
  obtain ⟨W, hW⟩ : ∃ W, W = ((w.alloc (.cells #[.bool sa1, .slice Aa1 na1 ca1, .bool sa2, .slice Aa2 na2 ca2] 26)).alloc (.cells #[.bool false, .slice none 0 0, .bool false, .slice none 0 0] 26)) := ⟨_, rfl⟩
  have hbb : Below w.heap.size w W := by rw [hW]; exact (bw_alloc (bw_alloc (Below.refl _ _) _) _)
  have HB := hid (bw_step HB.out hbb)
  have Fa1 := hid (Fa1.out.below hbb)
  have Fa2 := hid (Fa2.out.below hbb)
  have Pa : Hid (Blk W (w.heap.size) 26 #[.bool sa1, .slice Aa1 na1 ca1, .bool sa2, .slice Aa2 na2 ca2]) := by
    rw [hW]
    have := (Blk.new w 26 #[.bool sa1, .slice Aa1 na1 ca1, .bool sa2, .slice Aa2 na2 ca2]).below (bw_alloc (Below.refl _ _) (.cells #[.bool false, .slice none 0 0, .bool false, .slice none 0 0] 26))
    exact hid (by simpa only [World.size_alloc] using this)
  have R0 : Hid (Blk W (w.heap.size + 1) 26 #[.bool false, .slice none 0 0, .bool false, .slice none 0 0]) := by
    rw [hW]
    have := Blk.new (w.alloc (.cells #[.bool sa1, .slice Aa1 na1 ca1, .bool sa2, .slice Aa2 na2 ca2] 26)) 26 #[.bool false, .slice none 0 0, .bool false, .slice none 0 0]
    exact hid (by simpa only [World.size_alloc] using this)
  clear hbb
  go_enter Try.func17, Try.ntmps17
  go_wp2_with (with_reducible refine halt_at 3 rfl ?_)
  rw [← hW]
  clear hW
  have SO1 := hid (of_sm (Sa1.out) (Sa2.out) (show 1 ≤ n by omega))
  have RS2 : Hid (RS n (Rat.divInt pa qa)) := hid (by have h := rat_sm (Sm.to (n := n) (SO1.out.1) (by omega)) (Sm.to (n := n) (SO1.out.2) (by omega)) (ofD_pos pa qa); rw [show Rat.divInt (ofN pa qa) (ofD pa qa) = (Rat.divInt pa qa) from of_val _ _] at h; exact h)
  unfold Halted
  refine wp_list_each (by kernel_rfl) 4 6 rfl rfl (by kernel_rfl)
    [Fact.eq (.agg #[.bool sa1, .slice Aa1 na1 ca1, .bool sa2, .slice Aa2 na2 ca2]), Fact.pair (.A (ofN pa qa) n) (.A (ofD pa qa) n), Fact.pair (.V ((Rat.divInt pa qa)).num) (.V (((Rat.divInt pa qa)).den : Int)), Fact.top _]
    [.val, .val, .val, .fillOld 0]
    (fun w' => IntA w' (.agg #[.bool sa1, .slice Aa1 na1 ca1]) (pa) n ∧ IntA w' (.agg #[.bool sa2, .slice Aa2 na2 ca2]) (qa) n ∧ Blk w' (w.heap.size) 26 #[.bool sa1, .slice Aa1 na1 ca1, .bool sa2, .slice Aa2 na2 ca2] ∧ Below w.heap.size w w')
    (fun l b w' => match l with
      | 0 => if b = true then BoxR w' (w.heap.size + 1) 26 (.V ((Rat.divInt pa qa)).num) (.V (((Rat.divInt pa qa)).den : Int)) else Blk w' (w.heap.size + 1) 26 #[.bool false, .slice none 0 0, .bool false, .slice none 0 0]
      | _ => True)
    [3] (fun l => match l with | 0 => w.heap.size + 1 | _ => 0) (by kernel_rfl)
    ⟨Fa1.out, Fa2.out, Pa.out, HB.out⟩
    (fun w1 w2 ⟨h0, h1, h2, h3⟩ hb => ⟨h0.below hb, h1.below hb, h2.below hb, bw_step h3 hb⟩)
    (fun w1 w2 g ⟨h0, h1, h2, h3⟩ hg hn ho => by
      have hg' : W.heap.size ≤ g ∨ g = w.heap.size + 1 := by
        rcases hg with h | ⟨l, hl, h⟩
        · exact .inl h
        · rcases l with _ | l
          · exact .inr h
          · exact absurd hl (by simp)
      exact ⟨h0.only hn ho, h1.only hn ho, h2.only ho (by have := Pa.out.lt; have := R0.out.lt; omega), below_only h3 ho (by have := Pa.out.lt; have := R0.out.lt; have := HB.out.size; omega)⟩)
    (fun l hl => by
        rcases l with _ | l
        · exact R0.out
        · exact absurd hl (by simp))
    (fun l b w1 w2 hl h hb => by
        rcases l with _ | l
        · (cases b <;> exact h.below hb)
        · exact absurd hl (by simp))
    (fun l b w1 w2 g hl h hg hn ho => by
        rcases l with _ | l
        · (cases b; (exact h.only ho (Ne.symm hg)); (exact h.only (Ne.symm hg) hn ho))
        · exact absurd hl (by simp))
    (fun l hl => by
        rcases l with _ | l
        · exact R0.out.lt
        · exact absurd hl (by simp))
    (fun l k hl hk hne => by rcases l with _ | l <;> rcases k with _ | k <;> simp at hl hk hne)
    ?_ ?_
  · refine ⟨?_, ?_, ?_, ?_, trivial⟩ <;> intro L V a1 w1 hf hG hsz hφ hψ hL hdep hcl
    · obtain ⟨_, _, Pa_, _⟩ := hG
      have e1 := old_slot hf 1 (by kernel_rfl)
      exact ob_pure (ex_loadR rfl e1 Pa_) rfl
    · obtain ⟨Fa1_, Fa2_, _⟩ := hG
      have d0 := dep_of hdep 0 (by kernel_rfl)
      have e3 := (new_slot hf 0 3 d0 (by kernel_rfl)).trans (show V 0 = .agg #[.bool sa1, .slice Aa1 na1 ca1, .bool sa2, .slice Aa2 na2 ca2] from hφ 0 d0)
      refine ob_go rfl (vs := #[.agg #[.bool sa1, .slice Aa1 na1 ca1, .bool sa2, .slice Aa2 na2 ca2]]) (by simp only [List.map_toArray, List.map_cons, List.map_nil, e3]) (by kernel_rfl) (of_any _ _ pa qa n (Pair.mk (a := .A pa n) (b := .A qa n) Fa1_ Fa2_) (by omega) (by omega)) ?_
      rintro e w2 ⟨⟨v, rfl, hv⟩, hb⟩
      exact ⟨v, rfl, hb, hv⟩
    · have d1 := dep_of hdep 1 (by kernel_rfl)
      have e4 := new_slot hf 1 4 d1 (by kernel_rfl)
      have p4 : Pair w1 (V 1) (.A (ofN pa qa) n) (.A (ofD pa qa) n) := hφ 1 d1
      refine ob_go rfl (vs := #[V 1]) (by simp only [List.map_toArray, List.map_cons, List.map_nil, e4]) (by kernel_rfl) (rat_any _ _ (ofN pa qa) (ofD pa qa) n (Pair.mapA (A := .A (ofN pa qa) n) (B := .A (ofD pa qa) n) p4 (fun h => IntA.mono h (by omega)) (fun h => IntA.mono h (by omega))) (ofD_pos pa qa) (by omega)) ?_
      rintro e w2 ⟨⟨v, rfl, hv⟩, hb⟩
      rw [show Rat.divInt (ofN pa qa) (ofD pa qa) = (Rat.divInt pa qa) from of_val _ _] at hv
      exact ⟨v, rfl, hb, hv⟩
    · have d2 := dep_of hdep 2 (by kernel_rfl)
      have e5 := new_slot hf 2 5 d2 (by kernel_rfl)
      have p5 : Pair w1 (V 2) (.V ((Rat.divInt pa qa)).num) (.V (((Rat.divInt pa qa)).den : Int)) := hφ 2 d2
      have e2 := old_slot hf 2 (by kernel_rfl)
      have hb0 := hψ 0 (by decide)
      rw [show [3].getD 0 0 = 3 from rfl, hL] at hb0
      exact ob_fillOldR rfl e2 e5 hb0 p5 (fun w2 h => h) rfl
  · intro V W3 hG hsz3 hφ hψ hne
    have hlt3 : W.heap.size ≤ W3.heap.size := hsz3
    obtain ⟨Fa1_, Fa2_, Pa_, HB_⟩ := hG
    have Fa1 := hid Fa1_
    have Fa2 := hid Fa2_
    have Pa := hid Pa_
    have HB := hid HB_
    have y0 : V 0 = .agg #[.bool sa1, .slice Aa1 na1 ca1, .bool sa2, .slice Aa2 na2 ca2] := hφ 0 (by decide)
    obtain ⟨q3501, A3501, n3501, c3501, q3502, A3502, n3502, c3502, kb350, va350, vb350⟩ := hψ 0 (by decide)
    have R0 := hid kb350
    have R01 : Hid (IntV W3 (.agg #[.bool q3501, .slice A3501 n3501 c3501]) ((Rat.divInt pa qa)).num) := hid va350
    have R02 : Hid (IntV W3 (.agg #[.bool q3502, .slice A3502 n3502 c3502]) (((Rat.divInt pa qa)).den : Int)) := hid vb350
    clear kb350 va350 vb350
    simp only [puts, Act.put, List.setIfInBounds_toArray, List.set_cons_zero, List.set_cons_succ, y0]
    clear hφ hψ hne y0 Fa1_ Fa2_ Pa_ HB_ hsz3
    have k0 := R0.out.cell 0
    have k1 := R0.out.cell 1
    have k2 := R0.out.cell 2
    have k3 := R0.out.cell 3
    go_wp2
    refine bodyPost_ret (v := .agg #[.bool q3501, .slice A3501 n3501 c3501, .bool q3502, .slice A3502 n3502 c3502]) (by simp [results, Try.results17, go_sem, k0, k1, k2, k3]) rfl ⟨⟨_, rfl, ?_⟩, HB.out⟩
    exact Pair.mk (a := .V (Rat.divInt pa qa).num) (b := .V ((Rat.divInt pa qa).den : Int)) R01.out R02.out
end Go.Proofs.Ytijmjkkjopplbaa

namespace Go.Proofs.Ytijmjkkjopplbaa
open Go.RowKit
set_option linter.unusedVariables false
set_option maxRecDepth 100000

set_option maxHeartbeats 4000000 in
theorem product_any (w : World) (v : Value) (a b : Int) (n : Nat) (h : Ints2 w v (.A a n) (.A b n)) (hn1 : 1 ≤ n) (hn : n ≤ 1000000) :
    Calls Try.prog 57 #[v] w fun e w' => RetI w' (a * b) e ∧ Below w.heap.size w w' := by
  obtain ⟨g, qa, Aa, na, ca, qb, Ab, nb, cb, rfl, hk, h1, h2⟩ := h
  have FA := hid (show IntA w (.agg #[.bool qa, .slice Aa na ca]) a n from h1)
  have FB := hid (show IntA w (.agg #[.bool qb, .slice Ab nb cb]) b n from h2)
  have BK := hid hk
  have SA := hid FA.out.sm
  have SB := hid FB.out.sm
  clear h1 h2 hk
  have gl := BK.out.lt
  have HB := hid (Below.refl w.heap.size w)
  obtain ⟨W, hW⟩ : ∃ W, W = (w.alloc (.cells #[.bool false, .slice none 0 0] 24)) := ⟨_, rfl⟩
  have hbb : Below w.heap.size w W := by rw [hW]; exact (bw_alloc (Below.refl _ _) _)
  have HB := hid (bw_step HB.out hbb)
  have FA := hid (FA.out.below hbb)
  have FB := hid (FB.out.below hbb)
  have BK := hid (BK.out.below hbb)
  have R0 : Hid (Blk W (w.heap.size) 24 #[.bool false, .slice none 0 0]) := by
    rw [hW]
    have := Blk.new w 24 #[.bool false, .slice none 0 0]
    exact hid (by simpa only [World.size_alloc] using this)
  clear hbb
  go_enter Try.func57, Try.ntmps57
  go_wp2_with fail
  rw [← hW]
  clear hW
  refine (small_any _ 1 (by decide) (by decide)).mono ?_
  rintro e W1 ⟨⟨v, rfl, hv⟩, hb1⟩
  have HB := hid (bw_step HB.out hb1)
  have FA := hid (FA.out.below hb1)
  have FB := hid (FB.out.below hb1)
  have BK := hid (BK.out.below hb1)
  have R0 := hid (R0.out.below hb1)
  clear hb1
  obtain ⟨q11, A11, n11, c11, rfl⟩ := hv.form
  have x := hid hv
  clear hv
  have ltR := R0.out.lt
  have hbb := bw_alloc (Below.refl _ W1) (.cells #[.bool q11, .slice A11 n11 c11] 24)
  have Xx := Blk.new W1 24 #[.bool q11, .slice A11 n11 c11]
  have HB := hid (bw_step HB.out hbb)
  have FA := hid (FA.out.below hbb)
  have FB := hid (FB.out.below hbb)
  have BK := hid (BK.out.below hbb)
  have R0 := hid (R0.out.below hbb)
  have x := hid (x.out.below hbb)
  have Xx := hid Xx
  clear hbb
  go_wp2_with fail
  go_loopw [9] (fun iv wr => ∃ (k : Nat) (z : Int), iv = .int .i64 (k : Int) ∧ k ≤ 2 ∧ Hid ((k = 0 ∧ 1 = z) ∨ (k = 1 ∧ a = z) ∨ (k = 2 ∧ a * b = z)) ∧ Hid (BoxI wr (W1.heap.size) z) ∧ Hid (Blk wr w.heap.size 24 #[.bool false, .slice none 0 0]) ∧ Hid (Blk wr g 24 #[.bool qa, .slice Aa na ca, .bool qb, .slice Ab nb cb]) ∧ Hid (IntA wr (.agg #[.bool qa, .slice Aa na ca]) a n) ∧ Hid (IntA wr (.agg #[.bool qb, .slice Ab nb cb]) b n) ∧ Hid (Below w.heap.size w wr)) (fun i _ => 2 - (intOf i).toNat)
  case atStart => exact ⟨0, 1, rfl, by omega, hid (.inl ⟨rfl, rfl⟩), hid ⟨_, _, _, _, Xx.out, x.out⟩, R0, BK, FA, FB, HB⟩
  case round =>
    clear R0 BK FA FB HB Xx x
    obtain ⟨k, z, rfl, hk, HZ, BX, R0, BK, FA, FB, HB⟩ := hrel
    obtain ⟨qx, Ax, nx, cx, kx, vx⟩ := BX.out
    have Xx := hid kx
    have x := hid vx
    clear BX kx vx
    rcases HZ.out with ⟨rfl, rfl⟩ | ⟨rfl, rfl⟩ | ⟨rfl, rfl⟩
    · clear HZ
      have u0 := BK.out.cell 0
      have u1 := BK.out.cell 1
      obtain ⟨t0, t1, t2, t3⟩ := id Xx.out.bx
      have e1 := hid (bw_alloc (Below.refl _ wr) (.cells #[.bool qa, .slice Aa na ca] 24))
      have t0 := cell_below e1.out t0
      have t1 := cell_below e1.out t1
      go_wp2_with fail
      have HB := hid (bw_step HB.out e1.out)
      have FA := hid (FA.out.below e1.out)
      have FB := hid (FB.out.below e1.out)
      have BK := hid (BK.out.below e1.out)
      have R0 := hid (R0.out.below e1.out)
      have x := hid (x.out.below e1.out)
      have Xx := hid (Xx.out.below e1.out)
      have SX0 := hid (Sm.one (n := 1) (by decide) (by decide))
      refine (mul_any _ _ _ 1 a 1 n (x.out.arg SX0.out) FA.out (by omega) (by omega)).mono ?_
      rintro e W3 ⟨⟨v, rfl, hv⟩, hb3⟩
      have HB := hid (bw_step HB.out hb3)
      have FA := hid (FA.out.below hb3)
      have FB := hid (FB.out.below hb3)
      have BK := hid (BK.out.below hb3)
      have R0 := hid (R0.out.below hb3)
      have x := hid (x.out.below hb3)
      have Xx := hid (Xx.out.below hb3)
      clear hb3
      obtain ⟨q31, A31, n31, c31, rfl⟩ := hv.form
      rw [Int.one_mul] at hv
      have x := hid hv
      clear hv
      obtain ⟨k4, l4, f4, g4⟩ := id Xx.out.bx
      have hnf := Xx.out.numFree (noNum_int _ _ _ _)
      have hon := only_two W3 (W1.heap.size) (.bool q31) (.slice A31 n31 c31)
      have FA := hid (FA.out.only hnf hon)
      have FB := hid (FB.out.only hnf hon)
      have BK := hid (BK.out.only hon (by have := BK.out.lt; have := R0.out.lt; have := Xx.out.lt; omega))
      have R0 := hid (R0.out.only hon (by have := BK.out.lt; have := R0.out.lt; have := Xx.out.lt; omega))
      have x := hid (x.out.only hnf hon)
      have Xx := hid (blk_fill (q := q31) (A := A31) (n := n31) (c := c31) Xx.out)
      have HB := hid (below_only HB.out hon (by have := BK.out.lt; have := R0.out.lt; have := Xx.out.lt; have := HB.out.size; omega))
      clear hnf hon
      go_wp2
      go_roundw
      case measure => simp [intOf]
      case rel =>
        first
          | exact ⟨1, a, by go_num, by omega, hid (.inr (.inl ⟨rfl, rfl⟩)), hid ⟨_, _, _, _, Xx.out, x.out⟩, R0, BK, FA, FB, HB⟩
          | ((repeat apply Exists.intro); refine ⟨?_, rfl⟩; exact ⟨1, a, by go_num, by omega, hid (.inr (.inl ⟨rfl, rfl⟩)), hid ⟨_, _, _, _, Xx.out, x.out⟩, R0, BK, FA, FB, HB⟩)
    · clear HZ
      have u0 := BK.out.cell 2
      have u1 := BK.out.cell 3
      obtain ⟨t0, t1, t2, t3⟩ := id Xx.out.bx
      have e1 := hid (bw_alloc (Below.refl _ wr) (.cells #[.bool qb, .slice Ab nb cb] 24))
      have t0 := cell_below e1.out t0
      have t1 := cell_below e1.out t1
      go_wp2_with fail
      have HB := hid (bw_step HB.out e1.out)
      have FA := hid (FA.out.below e1.out)
      have FB := hid (FB.out.below e1.out)
      have BK := hid (BK.out.below e1.out)
      have R0 := hid (R0.out.below e1.out)
      have x := hid (x.out.below e1.out)
      have Xx := hid (Xx.out.below e1.out)
      have SX1 := SA
      refine (mul_any _ _ _ a b n n (x.out.arg SX1.out) FB.out (by omega) (by omega)).mono ?_
      rintro e W23 ⟨⟨v, rfl, hv⟩, hb23⟩
      have HB := hid (bw_step HB.out hb23)
      have FA := hid (FA.out.below hb23)
      have FB := hid (FB.out.below hb23)
      have BK := hid (BK.out.below hb23)
      have R0 := hid (R0.out.below hb23)
      have x := hid (x.out.below hb23)
      have Xx := hid (Xx.out.below hb23)
      clear hb23
      obtain ⟨q231, A231, n231, c231, rfl⟩ := hv.form
      have x := hid hv
      clear hv
      obtain ⟨k24, l24, f24, g24⟩ := id Xx.out.bx
      have hnf := Xx.out.numFree (noNum_int _ _ _ _)
      have hon := only_two W23 (W1.heap.size) (.bool q231) (.slice A231 n231 c231)
      have FA := hid (FA.out.only hnf hon)
      have FB := hid (FB.out.only hnf hon)
      have BK := hid (BK.out.only hon (by have := BK.out.lt; have := R0.out.lt; have := Xx.out.lt; omega))
      have R0 := hid (R0.out.only hon (by have := BK.out.lt; have := R0.out.lt; have := Xx.out.lt; omega))
      have x := hid (x.out.only hnf hon)
      have Xx := hid (blk_fill (q := q231) (A := A231) (n := n231) (c := c231) Xx.out)
      have HB := hid (below_only HB.out hon (by have := BK.out.lt; have := R0.out.lt; have := Xx.out.lt; have := HB.out.size; omega))
      clear hnf hon
      go_wp2
      go_roundw
      case measure => simp [intOf]
      case rel =>
        first
          | exact ⟨2, (a * b), by go_num, by omega, hid (.inr (.inr ⟨rfl, rfl⟩)), hid ⟨_, _, _, _, Xx.out, x.out⟩, R0, BK, FA, FB, HB⟩
          | ((repeat apply Exists.intro); refine ⟨?_, rfl⟩; exact ⟨2, (a * b), by go_num, by omega, hid (.inr (.inr ⟨rfl, rfl⟩)), hid ⟨_, _, _, _, Xx.out, x.out⟩, R0, BK, FA, FB, HB⟩)
    · clear HZ
      obtain ⟨k62, l62, f62, g62⟩ := id R0.out.bx
      obtain ⟨k63, l63, f63, g63⟩ := id Xx.out.bx
      have F := hid (fin_any HB.out (g := w.heap.size) (Nat.le_refl _) k62 l62 x.out (.bool qx) (.slice Ax nx cx))
      go_wp2
      refine bodyPost_ret (v := .agg #[.bool qx, .slice Ax nx cx]) (by simp [results, Try.results57, go_sem, k62, l62]) rfl ⟨⟨_, rfl, F.out.1⟩, F.out.2⟩
set_option maxHeartbeats 4000000 in
theorem sum_any (w : World) (v : Value) (a b : Int) (n : Nat) (h : Ints2 w v (.A a n) (.A b n)) (hn1 : 1 ≤ n) (hn : n ≤ 1000000) :
    Calls Try.prog 56 #[v] w fun e w' => RetI w' (a + b) e ∧ Below w.heap.size w w' := by
  obtain ⟨g, qa, Aa, na, ca, qb, Ab, nb, cb, rfl, hk, h1, h2⟩ := h
  have FA := hid (show IntA w (.agg #[.bool qa, .slice Aa na ca]) a n from h1)
  have FB := hid (show IntA w (.agg #[.bool qb, .slice Ab nb cb]) b n from h2)
  have BK := hid hk
  have SA := hid FA.out.sm
  have SB := hid FB.out.sm
  clear h1 h2 hk
  have gl := BK.out.lt
  have HB := hid (Below.refl w.heap.size w)
  obtain ⟨W, hW⟩ : ∃ W, W = ((w.alloc (.cells #[.bool false, .slice none 0 0] 24)).alloc (.cells #[.bool false, .slice none 0 0] 24)) := ⟨_, rfl⟩
  have hbb : Below w.heap.size w W := by rw [hW]; exact (bw_alloc (bw_alloc (Below.refl _ _) _) _)
  have HB := hid (bw_step HB.out hbb)
  have FA := hid (FA.out.below hbb)
  have FB := hid (FB.out.below hbb)
  have BK := hid (BK.out.below hbb)
  have R0 : Hid (Blk W (w.heap.size) 24 #[.bool false, .slice none 0 0]) := by
    rw [hW]
    have := (Blk.new w 24 #[.bool false, .slice none 0 0]).below (bw_alloc (Below.refl _ _) (.cells #[.bool false, .slice none 0 0] 24))
    exact hid (by simpa only [World.size_alloc] using this)
  have Xx : Hid (Blk W (w.heap.size + 1) 24 #[.bool false, .slice none 0 0]) := by
    rw [hW]
    have := Blk.new (w.alloc (.cells #[.bool false, .slice none 0 0] 24)) 24 #[.bool false, .slice none 0 0]
    exact hid (by simpa only [World.size_alloc] using this)
  clear hbb
  go_enter Try.func56, Try.ntmps56
  go_wp2_with fail
  rw [← hW]
  clear hW
  have x := hid (IntV.zero W)
  go_loopw [8] (fun iv wr => ∃ (k : Nat) (z : Int), iv = .int .i64 (k : Int) ∧ k ≤ 2 ∧ Hid ((k = 0 ∧ 0 = z) ∨ (k = 1 ∧ a = z) ∨ (k = 2 ∧ a + b = z)) ∧ Hid (BoxI wr (w.heap.size + 1) z) ∧ Hid (Blk wr w.heap.size 24 #[.bool false, .slice none 0 0]) ∧ Hid (Blk wr g 24 #[.bool qa, .slice Aa na ca, .bool qb, .slice Ab nb cb]) ∧ Hid (IntA wr (.agg #[.bool qa, .slice Aa na ca]) a n) ∧ Hid (IntA wr (.agg #[.bool qb, .slice Ab nb cb]) b n) ∧ Hid (Below w.heap.size w wr)) (fun i _ => 2 - (intOf i).toNat)
  case atStart => exact ⟨0, 0, rfl, by omega, hid (.inl ⟨rfl, rfl⟩), hid ⟨_, _, _, _, Xx.out, x.out⟩, R0, BK, FA, FB, HB⟩
  case round =>
    clear R0 BK FA FB HB Xx x
    obtain ⟨k, z, rfl, hk, HZ, BX, R0, BK, FA, FB, HB⟩ := hrel
    obtain ⟨qx, Ax, nx, cx, kx, vx⟩ := BX.out
    have Xx := hid kx
    have x := hid vx
    clear BX kx vx
    rcases HZ.out with ⟨rfl, rfl⟩ | ⟨rfl, rfl⟩ | ⟨rfl, rfl⟩
    · clear HZ
      have u0 := BK.out.cell 0
      have u1 := BK.out.cell 1
      obtain ⟨t0, t1, t2, t3⟩ := id Xx.out.bx
      have e1 := hid (bw_alloc (Below.refl _ wr) (.cells #[.bool qa, .slice Aa na ca] 24))
      have t0 := cell_below e1.out t0
      have t1 := cell_below e1.out t1
      go_wp2_with fail
      have HB := hid (bw_step HB.out e1.out)
      have FA := hid (FA.out.below e1.out)
      have FB := hid (FB.out.below e1.out)
      have BK := hid (BK.out.below e1.out)
      have R0 := hid (R0.out.below e1.out)
      have Xx := hid (Xx.out.below e1.out)
      have x := hid (x.out.below e1.out)
      have SX0 := hid (Sm.one (n := 0) (by decide) (by decide))
      refine (add_any _ _ _ 0 a 1 n (x.out.arg SX0.out) FA.out (by omega) (by omega)).mono ?_
      rintro e W2 ⟨⟨v, rfl, hv⟩, hb2⟩
      have HB := hid (bw_step HB.out hb2)
      have FA := hid (FA.out.below hb2)
      have FB := hid (FB.out.below hb2)
      have BK := hid (BK.out.below hb2)
      have R0 := hid (R0.out.below hb2)
      have Xx := hid (Xx.out.below hb2)
      have x := hid (x.out.below hb2)
      clear hb2
      obtain ⟨q21, A21, n21, c21, rfl⟩ := hv.form
      rw [Int.zero_add] at hv
      have x := hid hv
      clear hv
      obtain ⟨k3, l3, f3, g3⟩ := id Xx.out.bx
      have hnf := Xx.out.numFree (noNum_int _ _ _ _)
      have hon := only_two W2 (w.heap.size + 1) (.bool q21) (.slice A21 n21 c21)
      have FA := hid (FA.out.only hnf hon)
      have FB := hid (FB.out.only hnf hon)
      have BK := hid (BK.out.only hon (by have := BK.out.lt; have := R0.out.lt; have := Xx.out.lt; omega))
      have R0 := hid (R0.out.only hon (by have := BK.out.lt; have := R0.out.lt; have := Xx.out.lt; omega))
      have Xx := hid (blk_fill (q := q21) (A := A21) (n := n21) (c := c21) Xx.out)
      have x := hid (x.out.only hnf hon)
      have HB := hid (below_only HB.out hon (by have := BK.out.lt; have := R0.out.lt; have := Xx.out.lt; have := HB.out.size; omega))
      clear hnf hon
      go_wp2
      go_roundw
      case measure => simp [intOf]
      case rel =>
        first
          | exact ⟨1, a, by go_num, by omega, hid (.inr (.inl ⟨rfl, rfl⟩)), hid ⟨_, _, _, _, Xx.out, x.out⟩, R0, BK, FA, FB, HB⟩
          | ((repeat apply Exists.intro); refine ⟨?_, rfl⟩; exact ⟨1, a, by go_num, by omega, hid (.inr (.inl ⟨rfl, rfl⟩)), hid ⟨_, _, _, _, Xx.out, x.out⟩, R0, BK, FA, FB, HB⟩)
    · clear HZ
      have u0 := BK.out.cell 2
      have u1 := BK.out.cell 3
      obtain ⟨t0, t1, t2, t3⟩ := id Xx.out.bx
      have e1 := hid (bw_alloc (Below.refl _ wr) (.cells #[.bool qb, .slice Ab nb cb] 24))
      have t0 := cell_below e1.out t0
      have t1 := cell_below e1.out t1
      go_wp2_with fail
      have HB := hid (bw_step HB.out e1.out)
      have FA := hid (FA.out.below e1.out)
      have FB := hid (FB.out.below e1.out)
      have BK := hid (BK.out.below e1.out)
      have R0 := hid (R0.out.below e1.out)
      have Xx := hid (Xx.out.below e1.out)
      have x := hid (x.out.below e1.out)
      have SX1 := SA
      refine (add_any _ _ _ a b n n (x.out.arg SX1.out) FB.out (by omega) (by omega)).mono ?_
      rintro e W22 ⟨⟨v, rfl, hv⟩, hb22⟩
      have HB := hid (bw_step HB.out hb22)
      have FA := hid (FA.out.below hb22)
      have FB := hid (FB.out.below hb22)
      have BK := hid (BK.out.below hb22)
      have R0 := hid (R0.out.below hb22)
      have Xx := hid (Xx.out.below hb22)
      have x := hid (x.out.below hb22)
      clear hb22
      obtain ⟨q221, A221, n221, c221, rfl⟩ := hv.form
      have x := hid hv
      clear hv
      obtain ⟨k23, l23, f23, g23⟩ := id Xx.out.bx
      have hnf := Xx.out.numFree (noNum_int _ _ _ _)
      have hon := only_two W22 (w.heap.size + 1) (.bool q221) (.slice A221 n221 c221)
      have FA := hid (FA.out.only hnf hon)
      have FB := hid (FB.out.only hnf hon)
      have BK := hid (BK.out.only hon (by have := BK.out.lt; have := R0.out.lt; have := Xx.out.lt; omega))
      have R0 := hid (R0.out.only hon (by have := BK.out.lt; have := R0.out.lt; have := Xx.out.lt; omega))
      have Xx := hid (blk_fill (q := q221) (A := A221) (n := n221) (c := c221) Xx.out)
      have x := hid (x.out.only hnf hon)
      have HB := hid (below_only HB.out hon (by have := BK.out.lt; have := R0.out.lt; have := Xx.out.lt; have := HB.out.size; omega))
      clear hnf hon
      go_wp2
      go_roundw
      case measure => simp [intOf]
      case rel =>
        first
          | exact ⟨2, (a + b), by go_num, by omega, hid (.inr (.inr ⟨rfl, rfl⟩)), hid ⟨_, _, _, _, Xx.out, x.out⟩, R0, BK, FA, FB, HB⟩
          | ((repeat apply Exists.intro); refine ⟨?_, rfl⟩; exact ⟨2, (a + b), by go_num, by omega, hid (.inr (.inr ⟨rfl, rfl⟩)), hid ⟨_, _, _, _, Xx.out, x.out⟩, R0, BK, FA, FB, HB⟩)
    · clear HZ
      obtain ⟨k61, l61, f61, g61⟩ := id R0.out.bx
      obtain ⟨k62, l62, f62, g62⟩ := id Xx.out.bx
      have F := hid (fin_any HB.out (g := w.heap.size) (Nat.le_refl _) k61 l61 x.out (.bool qx) (.slice Ax nx cx))
      go_wp2
      refine bodyPost_ret (v := .agg #[.bool qx, .slice Ax nx cx]) (by simp [results, Try.results56, go_sem, k61, l61]) rfl ⟨⟨_, rfl, F.out.1⟩, F.out.2⟩
end Go.Proofs.Ytijmjkkjopplbaa

