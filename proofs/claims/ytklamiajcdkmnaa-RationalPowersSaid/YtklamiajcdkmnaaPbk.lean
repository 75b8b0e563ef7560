/- A part of the proof of the laws of rationals: RNewR. -/
import Derived.Test.YtklamiajcdkmnaaPae
import Derived.Test.YtklamiajcdkmnaaPam
import Derived.Test.YtklamiajcdkmnaaPbh
import Derived.Test.YtklamiajcdkmnaaPal
import Derived.Test.YtklamiajcdkmnaaPab
import Derived.Test.YtklamiajcdkmnaaPad
import Derived.Test.YtklamiajcdkmnaaPbb
import Derived.Test.YtklamiajcdkmnaaPac
import Derived.Test.YtklamiajcdkmnaaPao
import Derived.Test.YtklamiajcdkmnaaPat
import Derived.Test.YtklamiajcdkmnaaPba
import Derived.Test.YtklamiajcdkmnaaPaa
import Derived.Test.YtklamiajcdkmnaaPai
import Derived.Test.YtklamiajcdkmnaaPas
import Derived.Test.YtklamiajcdkmnaaPbf
import Derived.Test.YtklamiajcdkmnaaPbe
import Derived.Test.YtklamiajcdkmnaaPbg
import Derived.Test.YtklamiajcdkmnaaPbd
import Derived.Test.YtklamiajcdkmnaaPbj
import Derived.Test.YtklamiajcdkmnaaPau
import Derived.Test.YtklamiajcdkmnaaPbi
import Derived.Test.YtklamiajcdkmnaaPar
import Derived.Test.YtklamiajcdkmnaaPaw
import Derived.Test.YtklamiajcdkmnaaPap
import Derived.Test.YtklamiajcdkmnaaPav
import Derived.Test.YtklamiajcdkmnaaPan
import Derived.Test.YtklamiajcdkmnaaPbc
import Derived.Test.YtklamiajcdkmnaaPak
namespace Go.Proofs.Ytklamiajcdkmnaa
open Go.RowKit
set_option linter.unusedVariables false
set_option maxRecDepth 100000

set_option maxHeartbeats 4000000 in
theorem rquo_any (w : World) (v u : Value) (za zb : Int) (N : Nat) (hN : N ≤ 1000000) (ha : IntA w v za N) (hb : IntA w u zb N) (hb0 : zb ≠ 0) :
    Calls Try.prog 61 #[v, u] w fun e w' => RetI w' (za / zb) e ∧ Below w.heap.size w w' := by
  obtain ⟨na, As, sn, cs, rfl⟩ := ha.form
  obtain ⟨nb, Ar, rn, cr, rfl⟩ := hb.form
  have FA := hid ha
  have FB := hid hb
  clear ha hb
  have HB := hid (Below.refl w.heap.size w)
  obtain ⟨W, hW⟩ : ∃ W, W = (((w.alloc (.cells #[.bool na, .slice As sn cs] 24)).alloc (.cells #[.bool nb, .slice Ar rn cr] 24)).alloc (.cells #[.bool false, .slice none 0 0] 24)) := ⟨_, rfl⟩
  have hbb : Below w.heap.size w W := by rw [hW]; exact (bw_alloc (bw_alloc (bw_alloc (Below.refl _ _) _) _) _)
  have HB := hid (bw_step HB.out hbb)
  have FA := hid (FA.out.below hbb)
  have FB := hid (FB.out.below hbb)
  have P0 : Hid (Blk W (w.heap.size) 24 #[.bool na, .slice As sn cs]) := by
    rw [hW]
    have := ((Blk.new w 24 #[.bool na, .slice As sn cs]).below (bw_alloc (Below.refl _ _) (.cells #[.bool nb, .slice Ar rn cr] 24))).below (bw_alloc (Below.refl _ _) (.cells #[.bool false, .slice none 0 0] 24))
    exact hid (by simpa only [World.size_alloc] using this)
  have P1 : Hid (Blk W (w.heap.size + 1) 24 #[.bool nb, .slice Ar rn cr]) := by
    rw [hW]
    have := (Blk.new (w.alloc (.cells #[.bool na, .slice As sn cs] 24)) 24 #[.bool nb, .slice Ar rn cr]).below (bw_alloc (Below.refl _ _) (.cells #[.bool false, .slice none 0 0] 24))
    exact hid (by simpa only [World.size_alloc] using this)
  have R0 : Hid (Blk W (w.heap.size + 1 + 1) 24 #[.bool false, .slice none 0 0]) := by
    rw [hW]
    have := Blk.new ((w.alloc (.cells #[.bool na, .slice As sn cs] 24)).alloc (.cells #[.bool nb, .slice Ar rn cr] 24)) 24 #[.bool false, .slice none 0 0]
    exact hid (by simpa only [World.size_alloc] using this)
  clear hbb
  go_enter Try.func61, Try.ntmps61
  go_wp2_with (with_reducible refine halt_at 9 rfl ?_)
  rw [← hW]
  clear hW
  have SQ1 : Hid (Sm N (za / zb)) := hid (Sm.quo (FA.out.sm))
  have SR1 : Hid (Sm N (za % zb)) := hid (Sm.rem (FB.out.sm) (hb0))
  have lt1_P0 := P0.out.lt
  have lt1_P1 := P1.out.lt
  have lt1_R0 := R0.out.lt
  unfold Halted
  refine wp_list_each (by kernel_rfl) 12 16 rfl rfl (by kernel_rfl)
    [Fact.eq (.agg #[.bool na, .slice As sn cs]), Fact.eq (.agg #[.bool nb, .slice Ar rn cr]), Fact.tup3 (za / zb) (za % zb) true, Fact.tup3 (za / zb) (za % zb) true, Fact.int (za / zb), Fact.int (za % zb), Fact.eq (.bool true), Fact.box (za / zb), Fact.box (za % zb), Fact.top _, Fact.top _, Fact.eq (.bool true)]
    [.val, .val, .val, .val, .val, .val, .val, .alloc 9, .alloc 10, .fill 7, .fill 8, .val]
    (fun w' => IntA w' (.agg #[.bool na, .slice As sn cs]) (za) N ∧ IntA w' (.agg #[.bool nb, .slice Ar rn cr]) (zb) N ∧ Blk w' (w.heap.size) 24 #[.bool na, .slice As sn cs] ∧ Blk w' (w.heap.size + 1) 24 #[.bool nb, .slice Ar rn cr] ∧ Blk w' (w.heap.size + 1 + 1) 24 #[.bool false, .slice none 0 0] ∧ Below w.heap.size w w')
    (fun _ _ _ => True) [] (fun _ => 0) (by kernel_rfl)
    ⟨FA.out, FB.out, P0.out, P1.out, R0.out, HB.out⟩
    (fun w1 w2 ⟨h0, h1, h2, h3, h4, h5⟩ hb => ⟨h0.below hb, h1.below hb, h2.below hb, h3.below hb, h4.below hb, bw_step h5 hb⟩)
    (fun w1 w2 g ⟨h0, h1, h2, h3, h4, h5⟩ hg hn ho => by
      have hg' : W.heap.size ≤ g := hg.elim id (fun ⟨_, h, _⟩ => absurd h (Nat.not_lt_zero _))
      exact ⟨h0.only hn ho, h1.only hn ho, h2.only ho (by have := P0.out.lt; have := P1.out.lt; have := R0.out.lt; omega), h3.only ho (by have := P0.out.lt; have := P1.out.lt; have := R0.out.lt; omega), h4.only ho (by have := P0.out.lt; have := P1.out.lt; have := R0.out.lt; omega), below_only h5 ho (by have := P0.out.lt; have := P1.out.lt; have := R0.out.lt; have := HB.out.size; omega)⟩)
    (fun l h => trivial) (fun l b w1 w2 h _ _ => trivial) (fun l b w1 w2 g h _ _ _ _ => trivial) (fun l h => by cases h) (fun l k h => by cases h) ?_ ?_
  · refine ⟨?_, ?_, ?_, ?_, ?_, ?_, ?_, ?_, ?_, ?_, ?_, ?_, trivial⟩ <;> intro L V a1 w1 hf hG hsz hφ hψ hL hdep hcl
    · obtain ⟨FA_, FB_, P0_, P1_, R0_, HB_⟩ := hG
      have e2 := old_slot hf 2 (by kernel_rfl)
      exact ob_load_int rfl e2 P0_ rfl
    · obtain ⟨FA_, FB_, P0_, P1_, R0_, HB_⟩ := hG
      have e3 := old_slot hf 3 (by kernel_rfl)
      exact ob_load_int rfl e3 P1_ rfl
    · obtain ⟨FA_, FB_, P0_, P1_, R0_, HB_⟩ := hG
      have d0 := dep_of hdep 0 (by kernel_rfl)
      have e9 := (new_slot hf 0 9 d0 (by kernel_rfl)).trans (show V 0 = .agg #[.bool na, .slice As sn cs] from hφ 0 d0)
      have d1 := dep_of hdep 1 (by kernel_rfl)
      have e10 := (new_slot hf 1 10 d1 (by kernel_rfl)).trans (show V 1 = .agg #[.bool nb, .slice Ar rn cr] from hφ 1 d1)
      refine ob_go rfl (vs := #[.agg #[.bool na, .slice As sn cs], .agg #[.bool nb, .slice Ar rn cr]]) (by simp only [List.map_toArray, List.map_cons, List.map_nil, e10, e9]) (by kernel_rfl) (rdivMod_any _ _ _ za zb N (by omega) FA_ FB_ (hb0)) ?_
      rintro e w2 ⟨⟨v1, v2, rfl, h1, h2⟩, hb⟩
      exact ⟨_, rfl, hb, v1, v2, rfl, h1, h2⟩
    · obtain ⟨FA_, FB_, P0_, P1_, R0_, HB_⟩ := hG
      have d2 := dep_of hdep 2 (by kernel_rfl)
      have e11 := new_slot hf 2 11 d2 (by kernel_rfl)
      have p11 : Tup3 w1 (V 2) (za / zb) (za % zb) true := hφ 2 d2
      exact ob_pure (ex_moveV rfl e11) (by exact p11)
    · obtain ⟨FA_, FB_, P0_, P1_, R0_, HB_⟩ := hG
      have d3 := dep_of hdep 3 (by kernel_rfl)
      have e8 := new_slot hf 3 8 d3 (by kernel_rfl)
      have p8 : Tup3 w1 (V 3) (za / zb) (za % zb) true := hφ 3 d3
      exact ob_extract0 rfl e8 p8 rfl
    · obtain ⟨FA_, FB_, P0_, P1_, R0_, HB_⟩ := hG
      have d3 := dep_of hdep 3 (by kernel_rfl)
      have e8 := new_slot hf 3 8 d3 (by kernel_rfl)
      have p8 : Tup3 w1 (V 3) (za / zb) (za % zb) true := hφ 3 d3
      exact ob_extract1 rfl e8 p8 rfl
    · obtain ⟨FA_, FB_, P0_, P1_, R0_, HB_⟩ := hG
      have d3 := dep_of hdep 3 (by kernel_rfl)
      have e8 := new_slot hf 3 8 d3 (by kernel_rfl)
      have p8 : Tup3 w1 (V 3) (za / zb) (za % zb) true := hφ 3 d3
      exact ob_extract2 rfl e8 p8 rfl
    · obtain ⟨FA_, FB_, P0_, P1_, R0_, HB_⟩ := hG
      exact ob_alloc_int rfl hsz rfl
    · obtain ⟨FA_, FB_, P0_, P1_, R0_, HB_⟩ := hG
      exact ob_alloc_int rfl hsz rfl
    · obtain ⟨FA_, FB_, P0_, P1_, R0_, HB_⟩ := hG
      have d4 := dep_of hdep 4 (by kernel_rfl)
      have e12 := new_slot hf 4 12 d4 (by kernel_rfl)
      have p12 : IntV w1 (V 4) (za / zb) := hφ 4 d4
      have d7 := dep_of hdep 7 (by kernel_rfl)
      obtain ⟨g, h1, h2, h3⟩ := hφ 7 d7
      exact ob_fill_int rfl ((new_slot hf 7 5 d7 (by kernel_rfl)).trans h1) e12 h1 h2 h3 p12 rfl rfl
    · obtain ⟨FA_, FB_, P0_, P1_, R0_, HB_⟩ := hG
      have d5 := dep_of hdep 5 (by kernel_rfl)
      have e13 := new_slot hf 5 13 d5 (by kernel_rfl)
      have p13 : IntV w1 (V 5) (za % zb) := hφ 5 d5
      have d8 := dep_of hdep 8 (by kernel_rfl)
      obtain ⟨g, h1, h2, h3⟩ := hφ 8 d8
      exact ob_fill_int rfl ((new_slot hf 8 6 d8 (by kernel_rfl)).trans h1) e13 h1 h2 h3 p13 rfl rfl
    · obtain ⟨FA_, FB_, P0_, P1_, R0_, HB_⟩ := hG
      have d6 := dep_of hdep 6 (by kernel_rfl)
      have e14 := (new_slot hf 6 14 d6 (by kernel_rfl)).trans (show V 6 = .bool true from hφ 6 d6)
      exact ob_pure (v := .bool true) (ex_assignV rfl e14) rfl
  · intro V W2 hG hsz2 hφ hψ hne
    have hlt2 : W.heap.size ≤ W2.heap.size := hsz2
    obtain ⟨FA_, FB_, P0_, P1_, R0_, HB_⟩ := hG
    have FA := hid FA_
    have FB := hid FB_
    have P0 := hid P0_
    have P1 := hid P1_
    have R0 := hid R0_
    have HB := hid HB_
    have y0 : V 0 = .agg #[.bool na, .slice As sn cs] := hφ 0 (by decide)
    have y1 : V 1 = .agg #[.bool nb, .slice Ar rn cr] := hφ 1 (by decide)
    have y6 : V 6 = .bool true := hφ 6 (by decide)
    obtain ⟨G2_7, y7, gb207, q207, A207, n207, c207, kb207, vb207⟩ := hφ 7 (by decide)
    have Xt5_ := hid kb207
    have t5_ := hid vb207
    clear kb207 vb207
    obtain ⟨G2_8, y8, gb208, q208, A208, n208, c208, kb208, vb208⟩ := hφ 8 (by decide)
    have Xt6_ := hid kb208
    have t6_ := hid vb208
    clear kb208 vb208
    have y11 : V 11 = .bool true := hφ 11 (by decide)
    have ne2_7_8 : G2_7 ≠ G2_8 := fun e => hne 7 8 (by decide) rfl rfl (by rw [y7, y8, e])
    simp only [puts, Act.put, List.setIfInBounds_toArray, List.set_cons_zero, List.set_cons_succ, y0, y1, y6, y7, y8, y11, ptr]
    clear hφ hψ hne y0 y1 y6 y7 y8 y11 FA_ FB_ P0_ P1_ R0_ HB_ hsz2
    go_wp2_with (with_reducible refine halt_at 15 rfl ?_)
    unfold Halted
    refine wp_list_each (by kernel_rfl) 2 16 rfl rfl (by kernel_rfl)
      [Fact.eq (.agg #[.bool q207, .slice A207 n207 c207]), Fact.top _]
      [.val, .fillOld 0]
      (fun w' => IntA w' (.agg #[.bool na, .slice As sn cs]) (za) N ∧ IntA w' (.agg #[.bool nb, .slice Ar rn cr]) (zb) N ∧ Blk w' (w.heap.size) 24 #[.bool na, .slice As sn cs] ∧ Blk w' (w.heap.size + 1) 24 #[.bool nb, .slice Ar rn cr] ∧ Blk w' (G2_7) 24 #[.bool q207, .slice A207 n207 c207] ∧ IntV w' (.agg #[.bool q207, .slice A207 n207 c207]) ((za / zb)) ∧ Blk w' (G2_8) 24 #[.bool q208, .slice A208 n208 c208] ∧ IntV w' (.agg #[.bool q208, .slice A208 n208 c208]) ((za % zb)) ∧ Below w.heap.size w w')
      (fun l b w' => match l with
        | 0 => if b = true then BoxI w' (w.heap.size + 1 + 1) (za / zb) else Blk w' (w.heap.size + 1 + 1) 24 #[.bool false, .slice none 0 0]
        | _ => True)
      [1] (fun l => match l with | 0 => w.heap.size + 1 + 1 | _ => 0) (by kernel_rfl)
      ⟨FA.out, FB.out, P0.out, P1.out, Xt5_.out, t5_.out, Xt6_.out, t6_.out, HB.out⟩
      (fun w1 w2 ⟨h0, h1, h2, h3, h4, h5, h6, h7, h8⟩ hb => ⟨h0.below hb, h1.below hb, h2.below hb, h3.below hb, h4.below hb, h5.below hb, h6.below hb, h7.below hb, bw_step h8 hb⟩)
      (fun w1 w2 g ⟨h0, h1, h2, h3, h4, h5, h6, h7, h8⟩ hg hn ho => by
        have hg' : W2.heap.size ≤ g ∨ g = w.heap.size + 1 + 1 := by
          rcases hg with h | ⟨l, hl, h⟩
          · exact .inl h
          · rcases l with _ | l
            · exact .inr h
            · exact absurd hl (by simp)
        exact ⟨h0.only hn ho, h1.only hn ho, h2.only ho (by have := P0.out.lt; have := P1.out.lt; have := R0.out.lt; have := Xt5_.out.lt; have := Xt6_.out.lt; omega), h3.only ho (by have := P0.out.lt; have := P1.out.lt; have := R0.out.lt; have := Xt5_.out.lt; have := Xt6_.out.lt; omega), h4.only ho (by have := P0.out.lt; have := P1.out.lt; have := R0.out.lt; have := Xt5_.out.lt; have := Xt6_.out.lt; omega), h5.only hn ho, h6.only ho (by have := P0.out.lt; have := P1.out.lt; have := R0.out.lt; have := Xt5_.out.lt; have := Xt6_.out.lt; omega), h7.only hn ho, below_only h8 ho (by have := P0.out.lt; have := P1.out.lt; have := R0.out.lt; have := Xt5_.out.lt; have := Xt6_.out.lt; have := HB.out.size; omega)⟩)
      (fun l hl => by
          rcases l with _ | l
          · exact R0.out
          · exact absurd hl (by simp))
      (fun l b w1 w2 hl h hb => by
          rcases l with _ | l
          · (cases b <;> exact h.below hb)
          · exact absurd hl (by simp))
      (fun l b w1 w2 g hl h hg hn ho => by
          rcases l with _ | l
          · (cases b; (exact h.only ho (Ne.symm hg)); (exact h.only (Ne.symm hg) hn ho))
          · exact absurd hl (by simp))
      (fun l hl => by
          rcases l with _ | l
          · exact R0.out.lt
          · exact absurd hl (by simp))
      (fun l k hl hk hne => by rcases l with _ | l <;> rcases k with _ | k <;> simp at hl hk hne)
      ?_ ?_
    · refine ⟨?_, ?_, trivial⟩ <;> intro L V a1 w1 hf hG hsz hφ hψ hL hdep hcl
      · obtain ⟨FA_, FB_, P0_, P1_, Xt5__, t5__, Xt6__, t6__, HB_⟩ := hG
        have e5 := old_slot hf 5 (by kernel_rfl)
        exact ob_load_int rfl e5 Xt5__ rfl
      · obtain ⟨FA_, FB_, P0_, P1_, Xt5__, t5__, Xt6__, t6__, HB_⟩ := hG
        have d0 := dep_of hdep 0 (by kernel_rfl)
        have e15 := (new_slot hf 0 15 d0 (by kernel_rfl)).trans (show V 0 = .agg #[.bool q207, .slice A207 n207 c207] from hφ 0 d0)
        have e4 := old_slot hf 4 (by kernel_rfl)
        have hb0 := hψ 0 (by decide)
        rw [show [1].getD 0 0 = 1 from rfl, hL] at hb0
        exact ob_fillOld_int rfl e4 e15 hb0 t5__ (fun w2 h => h) rfl
    · intro V W3 hG hsz3 hφ hψ hne
      have hlt3 : W2.heap.size ≤ W3.heap.size := hsz3
      obtain ⟨FA_, FB_, P0_, P1_, Xt5__, t5__, Xt6__, t6__, HB_⟩ := hG
      have FA := hid FA_
      have FB := hid FB_
      have P0 := hid P0_
      have P1 := hid P1_
      have Xt5_ := hid Xt5__
      have t5_ := hid t5__
      have Xt6_ := hid Xt6__
      have t6_ := hid t6__
      have HB := hid HB_
      have y0 : V 0 = .agg #[.bool q207, .slice A207 n207 c207] := hφ 0 (by decide)
      obtain ⟨q350, A350, n350, c350, kb350, vb350⟩ := hψ 0 (by decide)
      have R0 := hid kb350
      have VR0 := hid vb350
      clear kb350 vb350
      simp only [puts, Act.put, List.setIfInBounds_toArray, List.set_cons_zero, List.set_cons_succ, y0]
      clear hφ hψ hne y0 FA_ FB_ P0_ P1_ Xt5__ t5__ Xt6__ t6__ HB_ hsz3
      have k0 := R0.out.cell 0
      have k1 := R0.out.cell 1
      go_wp2
      refine bodyPost_ret (v := .agg #[.bool q350, .slice A350 n350 c350]) (by simp [results, Try.results61, go_sem, k0, k1]) rfl ⟨⟨_, rfl, ?_⟩, HB.out⟩
      exact VR0.out
set_option maxHeartbeats 4000000 in
theorem rnewR_any0 (w : World) (va vb : Value) (za zb : Int) (n : Nat) (ha : IntA w va za n) (hb : IntA w vb zb n) (hn : n ≤ 300000) (hz : zb = 0) :
    Calls Try.prog 34 #[va, vb] w fun e w' => (∃ u, e = .returned u ∧ PairB w' u (.V 0) (.V 0) false) ∧ Below w.heap.size w w' := by
  have Fa := hid ha
  have Sa := hid ha.sm
  obtain ⟨sa, Aa, na, ca, rfl⟩ := ha.form
  clear ha
  have Fb := hid hb
  have Sb := hid hb.sm
  obtain ⟨sb, Ab, nb, cb, rfl⟩ := hb.form
  clear hb
  have hc : (cm zb 0 == 0) = true := by rw [hz]; rfl
  have HB := hid (Below.refl w.heap.size w)
  obtain ⟨W, hW⟩ : ∃ W, W = (((w.alloc (.cells #[.bool sa, .slice Aa na ca] 24)).alloc (.cells #[.bool sb, .slice Ab nb cb] 24)).alloc (.cells #[.bool false, .slice none 0 0, .bool false, .slice none 0 0] 26)) := ⟨_, rfl⟩
  have hbb : Below w.heap.size w W := by rw [hW]; exact (bw_alloc (bw_alloc (bw_alloc (Below.refl _ _) _) _) _)
  have HB := hid (bw_step HB.out hbb)
  have Fa := hid (Fa.out.below hbb)
  have Fb := hid (Fb.out.below hbb)
  have Pa : Hid (Blk W (w.heap.size) 24 #[.bool sa, .slice Aa na ca]) := by
    rw [hW]
    have := ((Blk.new w 24 #[.bool sa, .slice Aa na ca]).below (bw_alloc (Below.refl _ _) (.cells #[.bool sb, .slice Ab nb cb] 24))).below (bw_alloc (Below.refl _ _) (.cells #[.bool false, .slice none 0 0, .bool false, .slice none 0 0] 26))
    exact hid (by simpa only [World.size_alloc] using this)
  have Pb : Hid (Blk W (w.heap.size + 1) 24 #[.bool sb, .slice Ab nb cb]) := by
    rw [hW]
    have := (Blk.new (w.alloc (.cells #[.bool sa, .slice Aa na ca] 24)) 24 #[.bool sb, .slice Ab nb cb]).below (bw_alloc (Below.refl _ _) (.cells #[.bool false, .slice none 0 0, .bool false, .slice none 0 0] 26))
    exact hid (by simpa only [World.size_alloc] using this)
  have R0 : Hid (Blk W (w.heap.size + 1 + 1) 26 #[.bool false, .slice none 0 0, .bool false, .slice none 0 0]) := by
    rw [hW]
    have := Blk.new ((w.alloc (.cells #[.bool sa, .slice Aa na ca] 24)).alloc (.cells #[.bool sb, .slice Ab nb cb] 24)) 26 #[.bool false, .slice none 0 0, .bool false, .slice none 0 0]
    exact hid (by simpa only [World.size_alloc] using this)
  clear hbb
  obtain ⟨k1, l1, f1, g1⟩ := id Pb.out.bx
  go_enter Try.func34, Try.ntmps34
  go_wp2_with fail
  rw [← hW]
  clear hW
  refine (rsign_any _ _ zb n Fb.out).mono ?_
  rintro e W2 ⟨rfl, hb2⟩
  clear k1 l1 f1 g1
  have HB := hid (bw_step HB.out hb2)
  have Fa := hid (Fa.out.below hb2)
  have Fb := hid (Fb.out.below hb2)
  have Pa := hid (Pa.out.below hb2)
  have Pb := hid (Pb.out.below hb2)
  have R0 := hid (R0.out.below hb2)
  clear hb2
  go_wp2_with (with_reducible refine halt_at 10 rfl ?_)
  unfold Halted
  refine wp_list_each (by kernel_rfl) 3 28 rfl rfl (by kernel_rfl)
    [Fact.eq (.agg #[.bool false, .slice none 0 0, .bool false, .slice none 0 0]), Fact.top _, Fact.eq (.bool false)]
    [.val, .fillOld 0, .val]
    (fun w' => IntA w' (.agg #[.bool sa, .slice Aa na ca]) (za) n ∧ IntA w' (.agg #[.bool sb, .slice Ab nb cb]) (zb) n ∧ Blk w' (w.heap.size) 24 #[.bool sa, .slice Aa na ca] ∧ Blk w' (w.heap.size + 1) 24 #[.bool sb, .slice Ab nb cb] ∧ Below w.heap.size w w')
    (fun l b w' => match l with
      | 0 => if b = true then BoxR w' (w.heap.size + 1 + 1) 26 (.V 0) (.V 0) else Blk w' (w.heap.size + 1 + 1) 26 #[.bool false, .slice none 0 0, .bool false, .slice none 0 0]
      | _ => True)
    [1] (fun l => match l with | 0 => w.heap.size + 1 + 1 | _ => 0) (by kernel_rfl)
    ⟨Fa.out, Fb.out, Pa.out, Pb.out, HB.out⟩
    (fun w1 w2 ⟨h0, h1, h2, h3, h4⟩ hb => ⟨h0.below hb, h1.below hb, h2.below hb, h3.below hb, bw_step h4 hb⟩)
    (fun w1 w2 g ⟨h0, h1, h2, h3, h4⟩ hg hn ho => by
      have hg' : W2.heap.size ≤ g ∨ g = w.heap.size + 1 + 1 := by
        rcases hg with h | ⟨l, hl, h⟩
        · exact .inl h
        · rcases l with _ | l
          · exact .inr h
          · exact absurd hl (by simp)
      exact ⟨h0.only hn ho, h1.only hn ho, h2.only ho (by have := Pa.out.lt; have := Pb.out.lt; have := R0.out.lt; omega), h3.only ho (by have := Pa.out.lt; have := Pb.out.lt; have := R0.out.lt; omega), below_only h4 ho (by have := Pa.out.lt; have := Pb.out.lt; have := R0.out.lt; have := HB.out.size; omega)⟩)
    (fun l hl => by
        rcases l with _ | l
        · exact R0.out
        · exact absurd hl (by simp))
    (fun l b w1 w2 hl h hb => by
        rcases l with _ | l
        · (cases b <;> exact h.below hb)
        · exact absurd hl (by simp))
    (fun l b w1 w2 g hl h hg hn ho => by
        rcases l with _ | l
        · (cases b; (exact h.only ho (Ne.symm hg)); (exact h.only (Ne.symm hg) hn ho))
        · exact absurd hl (by simp))
    (fun l hl => by
        rcases l with _ | l
        · exact R0.out.lt
        · exact absurd hl (by simp))
    (fun l k hl hk hne => by rcases l with _ | l <;> rcases k with _ | k <;> simp at hl hk hne)
    ?_ ?_
  · refine ⟨?_, ?_, ?_, trivial⟩ <;> intro L V a1 w1 hf hG hsz hφ hψ hL hdep hcl
    · obtain ⟨Fa_, Fb_, Pa_, Pb_, HB_⟩ := hG
      exact ob_pure (ex_zeroR rfl) rfl
    · obtain ⟨Fa_, Fb_, Pa_, Pb_, HB_⟩ := hG
      have d0 := dep_of hdep 0 (by kernel_rfl)
      have e10 := (new_slot hf 0 10 d0 (by kernel_rfl)).trans (show V 0 = .agg #[.bool false, .slice none 0 0, .bool false, .slice none 0 0] from hφ 0 d0)
      have e4 := old_slot hf 4 (by kernel_rfl)
      have hb0 := hψ 0 (by decide)
      rw [show [1].getD 0 0 = 1 from rfl, hL] at hb0
      exact ob_fillOldR rfl e4 e10 hb0 (Pair.mk (a := .V 0) (b := .V 0) (IntV.zero _) (IntV.zero _)) (fun w2 h => h) rfl
    · obtain ⟨Fa_, Fb_, Pa_, Pb_, HB_⟩ := hG
      exact ob_pure (v := .bool false) (ex_assignV rfl rfl) rfl
  · intro V W3 hG hsz3 hφ hψ hne
    have hlt3 : W2.heap.size ≤ W3.heap.size := hsz3
    obtain ⟨Fa_, Fb_, Pa_, Pb_, HB_⟩ := hG
    have Fa := hid Fa_
    have Fb := hid Fb_
    have Pa := hid Pa_
    have Pb := hid Pb_
    have HB := hid HB_
    have y0 : V 0 = .agg #[.bool false, .slice none 0 0, .bool false, .slice none 0 0] := hφ 0 (by decide)
    have y2 : V 2 = .bool false := hφ 2 (by decide)
    obtain ⟨q3501, A3501, n3501, c3501, q3502, A3502, n3502, c3502, kb350, va350, vb350⟩ := hψ 0 (by decide)
    have R0 := hid kb350
    have R01 : Hid (IntV W3 (.agg #[.bool q3501, .slice A3501 n3501 c3501]) 0) := hid va350
    have R02 : Hid (IntV W3 (.agg #[.bool q3502, .slice A3502 n3502 c3502]) 0) := hid vb350
    clear kb350 va350 vb350
    simp only [puts, Act.put, List.setIfInBounds_toArray, List.set_cons_zero, List.set_cons_succ, y0, y2]
    clear hφ hψ hne y0 y2 Fa_ Fb_ Pa_ Pb_ HB_ hsz3
    have k0 := R0.out.cell 0
    have k1 := R0.out.cell 1
    have k2 := R0.out.cell 2
    have k3 := R0.out.cell 3
    go_wp2
    refine bodyPost_ret (v := .tuple #[.agg #[.bool q3501, .slice A3501 n3501 c3501, .bool q3502, .slice A3502 n3502 c3502], .bool false]) (by simp [results, Try.results34, go_sem, k0, k1, k2, k3]) rfl ⟨⟨_, rfl, _, rfl, ?_⟩, HB.out⟩
    exact Pair.mk (a := .V 0) (b := .V 0) R01.out R02.out
set_option maxHeartbeats 4000000 in
theorem rnewR_neg (w : World) (va vb : Value) (za zb : Int) (x : Rat) (n : Nat) (ha : IntA w va za n) (hb : IntA w vb zb n) (h1n : 1 ≤ n) (hn : n ≤ 300000) (hz : zb < 0) (hx : Rat.divInt za zb = x) :
    Calls Try.prog 34 #[va, vb] w fun e w' => (∃ u, e = .returned u ∧ PairB w' u (.V x.num) (.V (x.den : Int)) true) ∧ Below w.heap.size w w' := by
  have Fa := hid ha
  have Sa := hid ha.sm
  obtain ⟨sa, Aa, na, ca, rfl⟩ := ha.form
  clear ha
  have Fb := hid hb
  have Sb := hid hb.sm
  obtain ⟨sb, Ab, nb, cb, rfl⟩ := hb.form
  clear hb
  have hc : (cm zb 0 == 0) = false := by
    rw [beq_eq_false_iff_ne]; rcases cm_form zb 0 with ⟨h, e⟩ | ⟨h, e⟩ | ⟨h, e⟩ <;> omega
  have hl : decide (cm zb 0 < 0) = true := by
    rw [decide_eq_true_eq]; rcases cm_form zb 0 with ⟨h, e⟩ | ⟨h, e⟩ | ⟨h, e⟩ <;> omega
  subst hx
  have HZ := hid hz
  clear hz
  have HB := hid (Below.refl w.heap.size w)
  obtain ⟨W, hW⟩ : ∃ W, W = (((w.alloc (.cells #[.bool sa, .slice Aa na ca] 24)).alloc (.cells #[.bool sb, .slice Ab nb cb] 24)).alloc (.cells #[.bool false, .slice none 0 0, .bool false, .slice none 0 0] 26)) := ⟨_, rfl⟩
  have hbb : Below w.heap.size w W := by rw [hW]; exact (bw_alloc (bw_alloc (bw_alloc (Below.refl _ _) _) _) _)
  have HB := hid (bw_step HB.out hbb)
  have Fa := hid (Fa.out.below hbb)
  have Fb := hid (Fb.out.below hbb)
  have Pa : Hid (Blk W (w.heap.size) 24 #[.bool sa, .slice Aa na ca]) := by
    rw [hW]
    have := ((Blk.new w 24 #[.bool sa, .slice Aa na ca]).below (bw_alloc (Below.refl _ _) (.cells #[.bool sb, .slice Ab nb cb] 24))).below (bw_alloc (Below.refl _ _) (.cells #[.bool false, .slice none 0 0, .bool false, .slice none 0 0] 26))
    exact hid (by simpa only [World.size_alloc] using this)
  have Pb : Hid (Blk W (w.heap.size + 1) 24 #[.bool sb, .slice Ab nb cb]) := by
    rw [hW]
    have := (Blk.new (w.alloc (.cells #[.bool sa, .slice Aa na ca] 24)) 24 #[.bool sb, .slice Ab nb cb]).below (bw_alloc (Below.refl _ _) (.cells #[.bool false, .slice none 0 0, .bool false, .slice none 0 0] 26))
    exact hid (by simpa only [World.size_alloc] using this)
  have R0 : Hid (Blk W (w.heap.size + 1 + 1) 26 #[.bool false, .slice none 0 0, .bool false, .slice none 0 0]) := by
    rw [hW]
    have := Blk.new ((w.alloc (.cells #[.bool sa, .slice Aa na ca] 24)).alloc (.cells #[.bool sb, .slice Ab nb cb] 24)) 26 #[.bool false, .slice none 0 0, .bool false, .slice none 0 0]
    exact hid (by simpa only [World.size_alloc] using this)
  clear hbb
  obtain ⟨k1, l1, f1, g1⟩ := id Pb.out.bx
  go_enter Try.func34, Try.ntmps34
  go_wp2_with fail
  rw [← hW]
  clear hW
  refine (rsign_any _ _ zb n Fb.out).mono ?_
  rintro e W2 ⟨rfl, hb2⟩
  clear k1 l1 f1 g1
  have HB := hid (bw_step HB.out hb2)
  have Fa := hid (Fa.out.below hb2)
  have Fb := hid (Fb.out.below hb2)
  have Pa := hid (Pa.out.below hb2)
  have Pb := hid (Pb.out.below hb2)
  have R0 := hid (R0.out.below hb2)
  clear hb2
  obtain ⟨k3, l3, f3, g3⟩ := id Pb.out.bx
  go_wp2_with fail
  refine (rsign_any _ _ zb n Fb.out).mono ?_
  rintro e W4 ⟨rfl, hb4⟩
  clear k3 l3 f3 g3
  have HB := hid (bw_step HB.out hb4)
  have Fa := hid (Fa.out.below hb4)
  have Fb := hid (Fb.out.below hb4)
  have Pa := hid (Pa.out.below hb4)
  have Pb := hid (Pb.out.below hb4)
  have R0 := hid (R0.out.below hb4)
  clear hb4
  go_wp2_with fail
  have SM5 : Hid (Sm n (-za)) := hid ((Sa.out).opp)
  have SM6 : Hid (Sm n (-zb)) := hid ((Sb.out).opp)
  refine wp_region_each (by kernel_rfl) 6 28 rfl rfl (by kernel_rfl)
    [Fact.eq (.agg #[.bool sa, .slice Aa na ca]), Fact.int (-za), Fact.eq (.agg #[.bool sb, .slice Ab nb cb]), Fact.int (-zb), Fact.top _, Fact.top _]
    [.val, .val, .val, .val, .fillOld 0, .fillOld 1]
    (fun w' => IntA w' (.agg #[.bool sa, .slice Aa na ca]) (za) n ∧ IntA w' (.agg #[.bool sb, .slice Ab nb cb]) (zb) n ∧ Blk w' (w.heap.size + 1 + 1) 26 #[.bool false, .slice none 0 0, .bool false, .slice none 0 0] ∧ Below w.heap.size w w')
    (fun l b w' => match l with
      | 0 => if b = true then BoxI w' (w.heap.size) (-za) else Blk w' (w.heap.size) 24 #[.bool sa, .slice Aa na ca]
      | 1 => if b = true then BoxI w' (w.heap.size + 1) (-zb) else Blk w' (w.heap.size + 1) 24 #[.bool sb, .slice Ab nb cb]
      | _ => True)
    [4, 5] (fun l => match l with | 0 => w.heap.size | 1 => w.heap.size + 1 | _ => 0) (by kernel_rfl)
    ⟨Fa.out, Fb.out, R0.out, HB.out⟩
    (fun w1 w2 ⟨h0, h1, h2, h3⟩ hb => ⟨h0.below hb, h1.below hb, h2.below hb, bw_step h3 hb⟩)
    (fun w1 w2 g ⟨h0, h1, h2, h3⟩ hg hn ho => by
      have hg' : W4.heap.size ≤ g ∨ g = w.heap.size ∨ g = w.heap.size + 1 := by
        rcases hg with h | ⟨l, hl, h⟩
        · exact .inl h
        · rcases l with _ | l
          · exact .inr (.inl h)
          · rcases l with _ | l
            · exact .inr (.inr h)
            · exact absurd hl (by simp)
      exact ⟨h0.only hn ho, h1.only hn ho, h2.only ho (by have := Pa.out.lt; have := Pb.out.lt; have := R0.out.lt; omega), below_only h3 ho (by have := Pa.out.lt; have := Pb.out.lt; have := R0.out.lt; have := HB.out.size; omega)⟩)
    (fun l hl => by
        rcases l with _ | l
        · exact Pa.out
        rcases l with _ | l
        · exact Pb.out
        · exact absurd hl (by simp))
    (fun l b w1 w2 hl h hb => by
        rcases l with _ | l
        · (cases b <;> exact h.below hb)
        rcases l with _ | l
        · (cases b <;> exact h.below hb)
        · exact absurd hl (by simp))
    (fun l b w1 w2 g hl h hg hn ho => by
        rcases l with _ | l
        · (cases b; (exact h.only ho (Ne.symm hg)); (exact h.only (Ne.symm hg) hn ho))
        rcases l with _ | l
        · (cases b; (exact h.only ho (Ne.symm hg)); (exact h.only (Ne.symm hg) hn ho))
        · exact absurd hl (by simp))
    (fun l hl => by
        rcases l with _ | l
        · exact Pa.out.lt
        rcases l with _ | l
        · exact Pb.out.lt
        · exact absurd hl (by simp))
    (fun l k hl hk hne => by
      have hh : w.heap.size ≠ w.heap.size + 1 := by omega
      have h1 : l = 0 ∨ l = 1 := by simp at hl; omega
      have h2 : k = 0 ∨ k = 1 := by simp at hk; omega
      rcases h1 with rfl | rfl <;> rcases h2 with rfl | rfl
      · exact absurd rfl hne
      · exact hh
      · exact Ne.symm hh
      · exact absurd rfl hne)
    ?_ ?_
  · refine ⟨?_, ?_, ?_, ?_, ?_, ?_, trivial⟩ <;> intro L V a1 w1 hf hG hsz hφ hψ hL hdep hcl
    · obtain ⟨Fa_, Fb_, R0_, HB_⟩ := hG
      have e2 := old_slot hf 2 (by kernel_rfl)
      have hb0 := hψ 0 (by decide)
      rw [show [4, 5].getD 0 0 = 4 from rfl, not_yet hcl 4 0 hL (by kernel_rfl)] at hb0
      exact ob_load_int rfl e2 hb0 rfl
    · obtain ⟨Fa_, Fb_, R0_, HB_⟩ := hG
      have d0 := dep_of hdep 0 (by kernel_rfl)
      have e14 := (new_slot hf 0 14 d0 (by kernel_rfl)).trans (show V 0 = .agg #[.bool sa, .slice Aa na ca] from hφ 0 d0)
      refine ob_go rfl (vs := #[.agg #[.bool sa, .slice Aa na ca]]) (by simp only [List.map_toArray, List.map_cons, List.map_nil, e14]) (by kernel_rfl) (rneg_any _ (.agg #[.bool sa, .slice Aa na ca]) za n Fa_ ) ?_
      rintro e w2 ⟨⟨v, rfl, hv⟩, hb⟩
      exact ⟨v, rfl, hb, hv⟩
    · obtain ⟨Fa_, Fb_, R0_, HB_⟩ := hG
      have e3 := old_slot hf 3 (by kernel_rfl)
      have hb0 := hψ 1 (by decide)
      rw [show [4, 5].getD 1 0 = 5 from rfl, not_yet hcl 5 2 hL (by kernel_rfl)] at hb0
      exact ob_load_int rfl e3 hb0 rfl
    · obtain ⟨Fa_, Fb_, R0_, HB_⟩ := hG
      have d2 := dep_of hdep 2 (by kernel_rfl)
      have e16 := (new_slot hf 2 16 d2 (by kernel_rfl)).trans (show V 2 = .agg #[.bool sb, .slice Ab nb cb] from hφ 2 d2)
      refine ob_go rfl (vs := #[.agg #[.bool sb, .slice Ab nb cb]]) (by simp only [List.map_toArray, List.map_cons, List.map_nil, e16]) (by kernel_rfl) (rneg_any _ (.agg #[.bool sb, .slice Ab nb cb]) zb n Fb_ ) ?_
      rintro e w2 ⟨⟨v, rfl, hv⟩, hb⟩
      exact ⟨v, rfl, hb, hv⟩
    · obtain ⟨Fa_, Fb_, R0_, HB_⟩ := hG
      have d1 := dep_of hdep 1 (by kernel_rfl)
      have e15 := new_slot hf 1 15 d1 (by kernel_rfl)
      have p15 : IntV w1 (V 1) (-za) := hφ 1 d1
      have e2 := old_slot hf 2 (by kernel_rfl)
      have hb0 := hψ 0 (by decide)
      rw [show [4, 5].getD 0 0 = 4 from rfl, hL] at hb0
      exact ob_fillOld_int rfl e2 e15 hb0 p15 (fun w2 h => h) rfl
    · obtain ⟨Fa_, Fb_, R0_, HB_⟩ := hG
      have d3 := dep_of hdep 3 (by kernel_rfl)
      have e17 := new_slot hf 3 17 d3 (by kernel_rfl)
      have p17 : IntV w1 (V 3) (-zb) := hφ 3 d3
      have e3 := old_slot hf 3 (by kernel_rfl)
      have hb0 := hψ 1 (by decide)
      rw [show [4, 5].getD 1 0 = 5 from rfl, hL] at hb0
      exact ob_fillOld_int rfl e3 e17 hb0 p17 (fun w2 h => h) rfl
  · intro V W7 hG hsz7 hφ hψ hne
    have hlt7 : W4.heap.size ≤ W7.heap.size := hsz7
    obtain ⟨Fa_, Fb_, R0_, HB_⟩ := hG
    have Fa := hid Fa_
    have Fb := hid Fb_
    have R0 := hid R0_
    have HB := hid HB_
    have y0 : V 0 = .agg #[.bool sa, .slice Aa na ca] := hφ 0 (by decide)
    have y2 : V 2 = .agg #[.bool sb, .slice Ab nb cb] := hφ 2 (by decide)
    obtain ⟨q750, A750, n750, c750, kb750, vb750⟩ := hψ 0 (by decide)
    have Pa := hid kb750
    have VPa := hid vb750
    clear kb750 vb750
    obtain ⟨q751, A751, n751, c751, kb751, vb751⟩ := hψ 1 (by decide)
    have Pb := hid kb751
    have VPb := hid vb751
    clear kb751 vb751
    simp only [puts, Act.put, List.setIfInBounds_toArray, List.set_cons_zero, List.set_cons_succ, y0, y2]
    clear hφ hψ hne y0 y2 Fa_ Fb_ R0_ HB_ hsz7
    go_wp2_with (with_reducible refine halt_at 18 rfl ?_)
    have SM8 : Hid (Sm n ((Int.gcd (-za) (-zb) : Nat) : Int)) := hid ((SM5.out).gcd (SM6.out))
    have lt8_Pa := Pa.out.lt
    have lt8_Pb := Pb.out.lt
    have lt8_R0 := R0.out.lt
    unfold Halted
    refine wp_list_each (by kernel_rfl) 5 28 rfl rfl (by kernel_rfl)
      [Fact.eq (.agg #[.bool q750, .slice A750 n750 c750]), Fact.eq (.agg #[.bool q751, .slice A751 n751 c751]), Fact.int ((Int.gcd (-za) (-zb) : Nat) : Int), Fact.box ((Int.gcd (-za) (-zb) : Nat) : Int), Fact.top _]
      [.val, .val, .val, .alloc 4, .fill 3]
      (fun w' => IntA w' (.agg #[.bool sa, .slice Aa na ca]) (za) n ∧ IntA w' (.agg #[.bool sb, .slice Ab nb cb]) (zb) n ∧ Blk w' (w.heap.size) 24 #[.bool q750, .slice A750 n750 c750] ∧ Blk w' (w.heap.size + 1) 24 #[.bool q751, .slice A751 n751 c751] ∧ Blk w' (w.heap.size + 1 + 1) 26 #[.bool false, .slice none 0 0, .bool false, .slice none 0 0] ∧ IntV w' (.agg #[.bool q750, .slice A750 n750 c750]) ((-za)) ∧ IntV w' (.agg #[.bool q751, .slice A751 n751 c751]) ((-zb)) ∧ Below w.heap.size w w')
      (fun _ _ _ => True) [] (fun _ => 0) (by kernel_rfl)
      ⟨Fa.out, Fb.out, Pa.out, Pb.out, R0.out, VPa.out, VPb.out, HB.out⟩
      (fun w1 w2 ⟨h0, h1, h2, h3, h4, h5, h6, h7⟩ hb => ⟨h0.below hb, h1.below hb, h2.below hb, h3.below hb, h4.below hb, h5.below hb, h6.below hb, bw_step h7 hb⟩)
      (fun w1 w2 g ⟨h0, h1, h2, h3, h4, h5, h6, h7⟩ hg hn ho => by
        have hg' : W7.heap.size ≤ g := hg.elim id (fun ⟨_, h, _⟩ => absurd h (Nat.not_lt_zero _))
        exact ⟨h0.only hn ho, h1.only hn ho, h2.only ho (by have := Pa.out.lt; have := Pb.out.lt; have := R0.out.lt; omega), h3.only ho (by have := Pa.out.lt; have := Pb.out.lt; have := R0.out.lt; omega), h4.only ho (by have := Pa.out.lt; have := Pb.out.lt; have := R0.out.lt; omega), h5.only hn ho, h6.only hn ho, below_only h7 ho (by have := Pa.out.lt; have := Pb.out.lt; have := R0.out.lt; have := HB.out.size; omega)⟩)
      (fun l h => trivial) (fun l b w1 w2 h _ _ => trivial) (fun l b w1 w2 g h _ _ _ _ => trivial) (fun l h => by cases h) (fun l k h => by cases h) ?_ ?_
    · refine ⟨?_, ?_, ?_, ?_, ?_, trivial⟩ <;> intro L V a1 w1 hf hG hsz hφ hψ hL hdep hcl
      · obtain ⟨Fa_, Fb_, Pa_, Pb_, R0_, VPa_, VPb_, HB_⟩ := hG
        have e2 := old_slot hf 2 (by kernel_rfl)
        exact ob_load_int rfl e2 Pa_ rfl
      · obtain ⟨Fa_, Fb_, Pa_, Pb_, R0_, VPa_, VPb_, HB_⟩ := hG
        have e3 := old_slot hf 3 (by kernel_rfl)
        exact ob_load_int rfl e3 Pb_ rfl
      · obtain ⟨Fa_, Fb_, Pa_, Pb_, R0_, VPa_, VPb_, HB_⟩ := hG
        have d0 := dep_of hdep 0 (by kernel_rfl)
        have e18 := (new_slot hf 0 18 d0 (by kernel_rfl)).trans (show V 0 = .agg #[.bool q750, .slice A750 n750 c750] from hφ 0 d0)
        have d1 := dep_of hdep 1 (by kernel_rfl)
        have e19 := (new_slot hf 1 19 d1 (by kernel_rfl)).trans (show V 1 = .agg #[.bool q751, .slice A751 n751 c751] from hφ 1 d1)
        refine ob_go rfl (vs := #[.agg #[.bool q750, .slice A750 n750 c750], .agg #[.bool q751, .slice A751 n751 c751]]) (by simp only [List.map_toArray, List.map_cons, List.map_nil, e18, e19]) (by kernel_rfl) (rgcd_any _ (.agg #[.bool q750, .slice A750 n750 c750]) (.agg #[.bool q751, .slice A751 n751 c751]) (-za) (-zb) n (by omega) (VPa_.arg (SM5.out)) (VPb_.arg (SM6.out))) ?_
        rintro e w2 ⟨⟨v, rfl, hv⟩, hb⟩
        exact ⟨v, rfl, hb, hv⟩
      · obtain ⟨Fa_, Fb_, Pa_, Pb_, R0_, VPa_, VPb_, HB_⟩ := hG
        exact ob_alloc_int rfl hsz rfl
      · obtain ⟨Fa_, Fb_, Pa_, Pb_, R0_, VPa_, VPb_, HB_⟩ := hG
        have d2 := dep_of hdep 2 (by kernel_rfl)
        have e20 := new_slot hf 2 20 d2 (by kernel_rfl)
        have p20 : IntV w1 (V 2) ((Int.gcd (-za) (-zb) : Nat) : Int) := hφ 2 d2
        have d3 := dep_of hdep 3 (by kernel_rfl)
        obtain ⟨g, h1, h2, h3⟩ := hφ 3 d3
        exact ob_fill_int rfl ((new_slot hf 3 6 d3 (by kernel_rfl)).trans h1) e20 h1 h2 h3 p20 rfl rfl
    · intro V W9 hG hsz9 hφ hψ hne
      have hlt9 : W7.heap.size ≤ W9.heap.size := hsz9
      obtain ⟨Fa_, Fb_, Pa_, Pb_, R0_, VPa_, VPb_, HB_⟩ := hG
      have Fa := hid Fa_
      have Fb := hid Fb_
      have Pa := hid Pa_
      have Pb := hid Pb_
      have R0 := hid R0_
      have VPa := hid VPa_
      have VPb := hid VPb_
      have HB := hid HB_
      have y0 : V 0 = .agg #[.bool q750, .slice A750 n750 c750] := hφ 0 (by decide)
      have y1 : V 1 = .agg #[.bool q751, .slice A751 n751 c751] := hφ 1 (by decide)
      obtain ⟨G9_3, y3, gb903, q903, A903, n903, c903, kb903, vb903⟩ := hφ 3 (by decide)
      have Xt6_ := hid kb903
      have t6_ := hid vb903
      clear kb903 vb903
      simp only [puts, Act.put, List.setIfInBounds_toArray, List.set_cons_zero, List.set_cons_succ, y0, y1, y3, ptr]
      clear hφ hψ hne y0 y1 y3 Fa_ Fb_ Pa_ Pb_ R0_ VPa_ VPb_ HB_ hsz9
      go_wp2_with fail
      have SQ10 : Hid (Sm n ((-za) / ((Int.gcd (-za) (-zb) : Nat) : Int))) := hid (Sm.quo (SM5.out))
      have SQ11 : Hid (Sm n ((-zb) / ((Int.gcd (-za) (-zb) : Nat) : Int))) := hid (Sm.quo (SM6.out))
      refine wp_region_each (by kernel_rfl) 9 28 rfl rfl (by kernel_rfl)
        [Fact.eq (.agg #[.bool q750, .slice A750 n750 c750]), Fact.eq (.agg #[.bool q903, .slice A903 n903 c903]), Fact.int ((-za) / ((Int.gcd (-za) (-zb) : Nat) : Int)), Fact.eq (.agg #[.bool q751, .slice A751 n751 c751]), Fact.eq (.agg #[.bool q903, .slice A903 n903 c903]), Fact.int ((-zb) / ((Int.gcd (-za) (-zb) : Nat) : Int)), Fact.pair (.V ((-za) / ((Int.gcd (-za) (-zb) : Nat) : Int))) (.V ((-zb) / ((Int.gcd (-za) (-zb) : Nat) : Int))), Fact.top _, Fact.eq (.bool true)]
        [.val, .val, .val, .val, .val, .val, .val, .fillOld 0, .val]
        (fun w' => IntA w' (.agg #[.bool sa, .slice Aa na ca]) (za) n ∧ IntA w' (.agg #[.bool sb, .slice Ab nb cb]) (zb) n ∧ Blk w' (w.heap.size) 24 #[.bool q750, .slice A750 n750 c750] ∧ Blk w' (w.heap.size + 1) 24 #[.bool q751, .slice A751 n751 c751] ∧ IntV w' (.agg #[.bool q750, .slice A750 n750 c750]) ((-za)) ∧ IntV w' (.agg #[.bool q751, .slice A751 n751 c751]) ((-zb)) ∧ Blk w' (G9_3) 24 #[.bool q903, .slice A903 n903 c903] ∧ IntV w' (.agg #[.bool q903, .slice A903 n903 c903]) (((Int.gcd (-za) (-zb) : Nat) : Int)) ∧ Below w.heap.size w w')
        (fun l b w' => match l with
          | 0 => if b = true then BoxR w' (w.heap.size + 1 + 1) 26 (.V ((-za) / ((Int.gcd (-za) (-zb) : Nat) : Int))) (.V ((-zb) / ((Int.gcd (-za) (-zb) : Nat) : Int))) else Blk w' (w.heap.size + 1 + 1) 26 #[.bool false, .slice none 0 0, .bool false, .slice none 0 0]
          | _ => True)
        [7] (fun l => match l with | 0 => w.heap.size + 1 + 1 | _ => 0) (by kernel_rfl)
        ⟨Fa.out, Fb.out, Pa.out, Pb.out, VPa.out, VPb.out, Xt6_.out, t6_.out, HB.out⟩
        (fun w1 w2 ⟨h0, h1, h2, h3, h4, h5, h6, h7, h8⟩ hb => ⟨h0.below hb, h1.below hb, h2.below hb, h3.below hb, h4.below hb, h5.below hb, h6.below hb, h7.below hb, bw_step h8 hb⟩)
        (fun w1 w2 g ⟨h0, h1, h2, h3, h4, h5, h6, h7, h8⟩ hg hn ho => by
          have hg' : W9.heap.size ≤ g ∨ g = w.heap.size + 1 + 1 := by
            rcases hg with h | ⟨l, hl, h⟩
            · exact .inl h
            · rcases l with _ | l
              · exact .inr h
              · exact absurd hl (by simp)
          exact ⟨h0.only hn ho, h1.only hn ho, h2.only ho (by have := Pa.out.lt; have := Pb.out.lt; have := R0.out.lt; have := Xt6_.out.lt; omega), h3.only ho (by have := Pa.out.lt; have := Pb.out.lt; have := R0.out.lt; have := Xt6_.out.lt; omega), h4.only hn ho, h5.only hn ho, h6.only ho (by have := Pa.out.lt; have := Pb.out.lt; have := R0.out.lt; have := Xt6_.out.lt; omega), h7.only hn ho, below_only h8 ho (by have := Pa.out.lt; have := Pb.out.lt; have := R0.out.lt; have := Xt6_.out.lt; have := HB.out.size; omega)⟩)
        (fun l hl => by
            rcases l with _ | l
            · exact R0.out
            · exact absurd hl (by simp))
        (fun l b w1 w2 hl h hb => by
            rcases l with _ | l
            · (cases b <;> exact h.below hb)
            · exact absurd hl (by simp))
        (fun l b w1 w2 g hl h hg hn ho => by
            rcases l with _ | l
            · (cases b; (exact h.only ho (Ne.symm hg)); (exact h.only (Ne.symm hg) hn ho))
            · exact absurd hl (by simp))
        (fun l hl => by
            rcases l with _ | l
            · exact R0.out.lt
            · exact absurd hl (by simp))
        (fun l k hl hk hne => by rcases l with _ | l <;> rcases k with _ | k <;> simp at hl hk hne)
        ?_ ?_
      · refine ⟨?_, ?_, ?_, ?_, ?_, ?_, ?_, ?_, ?_, trivial⟩ <;> intro L V a1 w1 hf hG hsz hφ hψ hL hdep hcl
        · obtain ⟨Fa_, Fb_, Pa_, Pb_, VPa_, VPb_, Xt6__, t6__, HB_⟩ := hG
          have e2 := old_slot hf 2 (by kernel_rfl)
          exact ob_load_int rfl e2 Pa_ rfl
        · obtain ⟨Fa_, Fb_, Pa_, Pb_, VPa_, VPb_, Xt6__, t6__, HB_⟩ := hG
          have e6 := old_slot hf 6 (by kernel_rfl)
          exact ob_load_int rfl e6 Xt6__ rfl
        · obtain ⟨Fa_, Fb_, Pa_, Pb_, VPa_, VPb_, Xt6__, t6__, HB_⟩ := hG
          have d0 := dep_of hdep 0 (by kernel_rfl)
          have e21 := (new_slot hf 0 21 d0 (by kernel_rfl)).trans (show V 0 = .agg #[.bool q750, .slice A750 n750 c750] from hφ 0 d0)
          have d1 := dep_of hdep 1 (by kernel_rfl)
          have e22 := (new_slot hf 1 22 d1 (by kernel_rfl)).trans (show V 1 = .agg #[.bool q903, .slice A903 n903 c903] from hφ 1 d1)
          refine ob_go rfl (vs := #[.agg #[.bool q750, .slice A750 n750 c750], .agg #[.bool q903, .slice A903 n903 c903]]) (by simp only [List.map_toArray, List.map_cons, List.map_nil, e21, e22]) (by kernel_rfl) (rquo_any _ _ _ (-za) ((Int.gcd (-za) (-zb) : Nat) : Int) n (by omega) (IntV.arg VPa_ (Sm.to (SM5.out) (by omega))) (IntV.arg t6__ (Sm.to (SM8.out) (by omega))) (by have := gcd_pos' (p := (-za)) (show (0 : Int) < (-zb) by have := HZ.out; omega); omega)) ?_
          rintro e w2 ⟨⟨v, rfl, hv⟩, hb⟩
          exact ⟨v, rfl, hb, hv⟩
        · obtain ⟨Fa_, Fb_, Pa_, Pb_, VPa_, VPb_, Xt6__, t6__, HB_⟩ := hG
          have e3 := old_slot hf 3 (by kernel_rfl)
          exact ob_load_int rfl e3 Pb_ rfl
        · obtain ⟨Fa_, Fb_, Pa_, Pb_, VPa_, VPb_, Xt6__, t6__, HB_⟩ := hG
          have e6 := old_slot hf 6 (by kernel_rfl)
          exact ob_load_int rfl e6 Xt6__ rfl
        · obtain ⟨Fa_, Fb_, Pa_, Pb_, VPa_, VPb_, Xt6__, t6__, HB_⟩ := hG
          have d3 := dep_of hdep 3 (by kernel_rfl)
          have e24 := (new_slot hf 3 24 d3 (by kernel_rfl)).trans (show V 3 = .agg #[.bool q751, .slice A751 n751 c751] from hφ 3 d3)
          have d4 := dep_of hdep 4 (by kernel_rfl)
          have e25 := (new_slot hf 4 25 d4 (by kernel_rfl)).trans (show V 4 = .agg #[.bool q903, .slice A903 n903 c903] from hφ 4 d4)
          refine ob_go rfl (vs := #[.agg #[.bool q751, .slice A751 n751 c751], .agg #[.bool q903, .slice A903 n903 c903]]) (by simp only [List.map_toArray, List.map_cons, List.map_nil, e24, e25]) (by kernel_rfl) (rquo_any _ _ _ (-zb) ((Int.gcd (-za) (-zb) : Nat) : Int) n (by omega) (IntV.arg VPb_ (Sm.to (SM6.out) (by omega))) (IntV.arg t6__ (Sm.to (SM8.out) (by omega))) (by have := gcd_pos' (p := (-za)) (show (0 : Int) < (-zb) by have := HZ.out; omega); omega)) ?_
          rintro e w2 ⟨⟨v, rfl, hv⟩, hb⟩
          exact ⟨v, rfl, hb, hv⟩
        · obtain ⟨Fa_, Fb_, Pa_, Pb_, VPa_, VPb_, Xt6__, t6__, HB_⟩ := hG
          have d2 := dep_of hdep 2 (by kernel_rfl)
          have e23 := new_slot hf 2 23 d2 (by kernel_rfl)
          have p23 : IntV w1 (V 2) ((-za) / ((Int.gcd (-za) (-zb) : Nat) : Int)) := hφ 2 d2
          have d5 := dep_of hdep 5 (by kernel_rfl)
          have e26 := new_slot hf 5 26 d5 (by kernel_rfl)
          have p26 : IntV w1 (V 5) ((-zb) / ((Int.gcd (-za) (-zb) : Nat) : Int)) := hφ 5 d5
          exact ob_buildR (A := .V ((-za) / ((Int.gcd (-za) (-zb) : Nat) : Int))) (B := .V ((-zb) / ((Int.gcd (-za) (-zb) : Nat) : Int))) rfl e23 p23 e26 p26 rfl
        · obtain ⟨Fa_, Fb_, Pa_, Pb_, VPa_, VPb_, Xt6__, t6__, HB_⟩ := hG
          have d6 := dep_of hdep 6 (by kernel_rfl)
          have e27 := new_slot hf 6 27 d6 (by kernel_rfl)
          have p27 : Pair w1 (V 6) (.V ((-za) / ((Int.gcd (-za) (-zb) : Nat) : Int))) (.V ((-zb) / ((Int.gcd (-za) (-zb) : Nat) : Int))) := hφ 6 d6
          have e4 := old_slot hf 4 (by kernel_rfl)
          have hb0 := hψ 0 (by decide)
          rw [show [7].getD 0 0 = 7 from rfl, hL] at hb0
          exact ob_fillOldR rfl e4 e27 hb0 p27 (fun w2 h => h) rfl
        · obtain ⟨Fa_, Fb_, Pa_, Pb_, VPa_, VPb_, Xt6__, t6__, HB_⟩ := hG
          exact ob_pure (v := .bool true) (ex_assignV rfl rfl) rfl
      · intro V W12 hG hsz12 hφ hψ hne
        have hlt12 : W9.heap.size ≤ W12.heap.size := hsz12
        obtain ⟨Fa_, Fb_, Pa_, Pb_, VPa_, VPb_, Xt6__, t6__, HB_⟩ := hG
        have Fa := hid Fa_
        have Fb := hid Fb_
        have Pa := hid Pa_
        have Pb := hid Pb_
        have VPa := hid VPa_
        have VPb := hid VPb_
        have Xt6_ := hid Xt6__
        have t6_ := hid t6__
        have HB := hid HB_
        have y0 : V 0 = .agg #[.bool q750, .slice A750 n750 c750] := hφ 0 (by decide)
        have y1 : V 1 = .agg #[.bool q903, .slice A903 n903 c903] := hφ 1 (by decide)
        have y3 : V 3 = .agg #[.bool q751, .slice A751 n751 c751] := hφ 3 (by decide)
        have y4 : V 4 = .agg #[.bool q903, .slice A903 n903 c903] := hφ 4 (by decide)
        have y8 : V 8 = .bool true := hφ 8 (by decide)
        obtain ⟨q12501, A12501, n12501, c12501, q12502, A12502, n12502, c12502, kb1250, va1250, vb1250⟩ := hψ 0 (by decide)
        have R0 := hid kb1250
        have R01 : Hid (IntV W12 (.agg #[.bool q12501, .slice A12501 n12501 c12501]) ((-za) / ((Int.gcd (-za) (-zb) : Nat) : Int))) := hid va1250
        have R02 : Hid (IntV W12 (.agg #[.bool q12502, .slice A12502 n12502 c12502]) ((-zb) / ((Int.gcd (-za) (-zb) : Nat) : Int))) := hid vb1250
        clear kb1250 va1250 vb1250
        simp only [puts, Act.put, List.setIfInBounds_toArray, List.set_cons_zero, List.set_cons_succ, y0, y1, y3, y4, y8]
        clear hφ hψ hne y0 y1 y3 y4 y8 Fa_ Fb_ Pa_ Pb_ VPa_ VPb_ Xt6__ t6__ HB_ hsz12
        have e1 : (Rat.divInt za zb).num = (-za) / ((Int.gcd (-za) (-zb) : Nat) : Int) := by rw [← Rat.neg_divInt_neg, rat_num (show (0 : Int) < (-zb) by have := HZ.out; omega)]
        have e2 : ((Rat.divInt za zb).den : Int) = (-zb) / ((Int.gcd (-za) (-zb) : Nat) : Int) := by rw [← Rat.neg_divInt_neg, rat_den (show (0 : Int) < (-zb) by have := HZ.out; omega)]
        have E := hid (And.intro e1 e2)
        clear e1 e2
        have k0 := R0.out.cell 0
        have k1 := R0.out.cell 1
        have k2 := R0.out.cell 2
        have k3 := R0.out.cell 3
        go_wp2
        refine bodyPost_ret (v := .tuple #[.agg #[.bool q12501, .slice A12501 n12501 c12501, .bool q12502, .slice A12502 n12502 c12502], .bool true]) (by simp [results, Try.results34, go_sem, k0, k1, k2, k3]) rfl ⟨⟨_, rfl, _, rfl, ?_⟩, HB.out⟩
        rw [E.out.1, E.out.2]
        exact Pair.mk (a := .V ((-za) / ((Int.gcd (-za) (-zb) : Nat) : Int))) (b := .V ((-zb) / ((Int.gcd (-za) (-zb) : Nat) : Int))) R01.out R02.out
set_option maxHeartbeats 4000000 in
theorem rnewR_pos (w : World) (va vb : Value) (za zb : Int) (x : Rat) (n : Nat) (ha : IntA w va za n) (hb : IntA w vb zb n) (h1n : 1 ≤ n) (hn : n ≤ 300000) (hz : 0 < zb) (hx : Rat.divInt za zb = x) :
    Calls Try.prog 34 #[va, vb] w fun e w' => (∃ u, e = .returned u ∧ PairB w' u (.V x.num) (.V (x.den : Int)) true) ∧ Below w.heap.size w w' := by
  have Fa := hid ha
  have Sa := hid ha.sm
  obtain ⟨sa, Aa, na, ca, rfl⟩ := ha.form
  clear ha
  have Fb := hid hb
  have Sb := hid hb.sm
  obtain ⟨sb, Ab, nb, cb, rfl⟩ := hb.form
  clear hb
  have hc : (cm zb 0 == 0) = false := by
    rw [beq_eq_false_iff_ne]; rcases cm_form zb 0 with ⟨h, e⟩ | ⟨h, e⟩ | ⟨h, e⟩ <;> omega
  have hl : decide (cm zb 0 < 0) = false := by
    rw [decide_eq_false_iff_not]; rcases cm_form zb 0 with ⟨h, e⟩ | ⟨h, e⟩ | ⟨h, e⟩ <;> omega
  subst hx
  have HZ := hid hz
  clear hz
  have HB := hid (Below.refl w.heap.size w)
  obtain ⟨W, hW⟩ : ∃ W, W = (((w.alloc (.cells #[.bool sa, .slice Aa na ca] 24)).alloc (.cells #[.bool sb, .slice Ab nb cb] 24)).alloc (.cells #[.bool false, .slice none 0 0, .bool false, .slice none 0 0] 26)) := ⟨_, rfl⟩
  have hbb : Below w.heap.size w W := by rw [hW]; exact (bw_alloc (bw_alloc (bw_alloc (Below.refl _ _) _) _) _)
  have HB := hid (bw_step HB.out hbb)
  have Fa := hid (Fa.out.below hbb)
  have Fb := hid (Fb.out.below hbb)
  have Pa : Hid (Blk W (w.heap.size) 24 #[.bool sa, .slice Aa na ca]) := by
    rw [hW]
    have := ((Blk.new w 24 #[.bool sa, .slice Aa na ca]).below (bw_alloc (Below.refl _ _) (.cells #[.bool sb, .slice Ab nb cb] 24))).below (bw_alloc (Below.refl _ _) (.cells #[.bool false, .slice none 0 0, .bool false, .slice none 0 0] 26))
    exact hid (by simpa only [World.size_alloc] using this)
  have Pb : Hid (Blk W (w.heap.size + 1) 24 #[.bool sb, .slice Ab nb cb]) := by
    rw [hW]
    have := (Blk.new (w.alloc (.cells #[.bool sa, .slice Aa na ca] 24)) 24 #[.bool sb, .slice Ab nb cb]).below (bw_alloc (Below.refl _ _) (.cells #[.bool false, .slice none 0 0, .bool false, .slice none 0 0] 26))
    exact hid (by simpa only [World.size_alloc] using this)
  have R0 : Hid (Blk W (w.heap.size + 1 + 1) 26 #[.bool false, .slice none 0 0, .bool false, .slice none 0 0]) := by
    rw [hW]
    have := Blk.new ((w.alloc (.cells #[.bool sa, .slice Aa na ca] 24)).alloc (.cells #[.bool sb, .slice Ab nb cb] 24)) 26 #[.bool false, .slice none 0 0, .bool false, .slice none 0 0]
    exact hid (by simpa only [World.size_alloc] using this)
  clear hbb
  obtain ⟨k1, l1, f1, g1⟩ := id Pb.out.bx
  go_enter Try.func34, Try.ntmps34
  go_wp2_with fail
  rw [← hW]
  clear hW
  refine (rsign_any _ _ zb n Fb.out).mono ?_
  rintro e W2 ⟨rfl, hb2⟩
  clear k1 l1 f1 g1
  have HB := hid (bw_step HB.out hb2)
  have Fa := hid (Fa.out.below hb2)
  have Fb := hid (Fb.out.below hb2)
  have Pa := hid (Pa.out.below hb2)
  have Pb := hid (Pb.out.below hb2)
  have R0 := hid (R0.out.below hb2)
  clear hb2
  obtain ⟨k3, l3, f3, g3⟩ := id Pb.out.bx
  go_wp2_with fail
  refine (rsign_any _ _ zb n Fb.out).mono ?_
  rintro e W4 ⟨rfl, hb4⟩
  clear k3 l3 f3 g3
  have HB := hid (bw_step HB.out hb4)
  have Fa := hid (Fa.out.below hb4)
  have Fb := hid (Fb.out.below hb4)
  have Pa := hid (Pa.out.below hb4)
  have Pb := hid (Pb.out.below hb4)
  have R0 := hid (R0.out.below hb4)
  clear hb4
  go_wp2_with (with_reducible refine halt_at 18 rfl ?_)
  have SM5 : Hid (Sm n ((Int.gcd za zb : Nat) : Int)) := hid ((Sa.out).gcd (Sb.out))
  have lt5_Pa := Pa.out.lt
  have lt5_Pb := Pb.out.lt
  have lt5_R0 := R0.out.lt
  unfold Halted
  refine wp_list_each (by kernel_rfl) 5 28 rfl rfl (by kernel_rfl)
    [Fact.eq (.agg #[.bool sa, .slice Aa na ca]), Fact.eq (.agg #[.bool sb, .slice Ab nb cb]), Fact.int ((Int.gcd za zb : Nat) : Int), Fact.box ((Int.gcd za zb : Nat) : Int), Fact.top _]
    [.val, .val, .val, .alloc 4, .fill 3]
    (fun w' => IntA w' (.agg #[.bool sa, .slice Aa na ca]) (za) n ∧ IntA w' (.agg #[.bool sb, .slice Ab nb cb]) (zb) n ∧ Blk w' (w.heap.size) 24 #[.bool sa, .slice Aa na ca] ∧ Blk w' (w.heap.size + 1) 24 #[.bool sb, .slice Ab nb cb] ∧ Blk w' (w.heap.size + 1 + 1) 26 #[.bool false, .slice none 0 0, .bool false, .slice none 0 0] ∧ Below w.heap.size w w')
    (fun _ _ _ => True) [] (fun _ => 0) (by kernel_rfl)
    ⟨Fa.out, Fb.out, Pa.out, Pb.out, R0.out, HB.out⟩
    (fun w1 w2 ⟨h0, h1, h2, h3, h4, h5⟩ hb => ⟨h0.below hb, h1.below hb, h2.below hb, h3.below hb, h4.below hb, bw_step h5 hb⟩)
    (fun w1 w2 g ⟨h0, h1, h2, h3, h4, h5⟩ hg hn ho => by
      have hg' : W4.heap.size ≤ g := hg.elim id (fun ⟨_, h, _⟩ => absurd h (Nat.not_lt_zero _))
      exact ⟨h0.only hn ho, h1.only hn ho, h2.only ho (by have := Pa.out.lt; have := Pb.out.lt; have := R0.out.lt; omega), h3.only ho (by have := Pa.out.lt; have := Pb.out.lt; have := R0.out.lt; omega), h4.only ho (by have := Pa.out.lt; have := Pb.out.lt; have := R0.out.lt; omega), below_only h5 ho (by have := Pa.out.lt; have := Pb.out.lt; have := R0.out.lt; have := HB.out.size; omega)⟩)
    (fun l h => trivial) (fun l b w1 w2 h _ _ => trivial) (fun l b w1 w2 g h _ _ _ _ => trivial) (fun l h => by cases h) (fun l k h => by cases h) ?_ ?_
  · refine ⟨?_, ?_, ?_, ?_, ?_, trivial⟩ <;> intro L V a1 w1 hf hG hsz hφ hψ hL hdep hcl
    · obtain ⟨Fa_, Fb_, Pa_, Pb_, R0_, HB_⟩ := hG
      have e2 := old_slot hf 2 (by kernel_rfl)
      exact ob_load_int rfl e2 Pa_ rfl
    · obtain ⟨Fa_, Fb_, Pa_, Pb_, R0_, HB_⟩ := hG
      have e3 := old_slot hf 3 (by kernel_rfl)
      exact ob_load_int rfl e3 Pb_ rfl
    · obtain ⟨Fa_, Fb_, Pa_, Pb_, R0_, HB_⟩ := hG
      have d0 := dep_of hdep 0 (by kernel_rfl)
      have e18 := (new_slot hf 0 18 d0 (by kernel_rfl)).trans (show V 0 = .agg #[.bool sa, .slice Aa na ca] from hφ 0 d0)
      have d1 := dep_of hdep 1 (by kernel_rfl)
      have e19 := (new_slot hf 1 19 d1 (by kernel_rfl)).trans (show V 1 = .agg #[.bool sb, .slice Ab nb cb] from hφ 1 d1)
      refine ob_go rfl (vs := #[.agg #[.bool sa, .slice Aa na ca], .agg #[.bool sb, .slice Ab nb cb]]) (by simp only [List.map_toArray, List.map_cons, List.map_nil, e18, e19]) (by kernel_rfl) (rgcd_any _ (.agg #[.bool sa, .slice Aa na ca]) (.agg #[.bool sb, .slice Ab nb cb]) za zb n (by omega) Fa_ Fb_) ?_
      rintro e w2 ⟨⟨v, rfl, hv⟩, hb⟩
      exact ⟨v, rfl, hb, hv⟩
    · obtain ⟨Fa_, Fb_, Pa_, Pb_, R0_, HB_⟩ := hG
      exact ob_alloc_int rfl hsz rfl
    · obtain ⟨Fa_, Fb_, Pa_, Pb_, R0_, HB_⟩ := hG
      have d2 := dep_of hdep 2 (by kernel_rfl)
      have e20 := new_slot hf 2 20 d2 (by kernel_rfl)
      have p20 : IntV w1 (V 2) ((Int.gcd za zb : Nat) : Int) := hφ 2 d2
      have d3 := dep_of hdep 3 (by kernel_rfl)
      obtain ⟨g, h1, h2, h3⟩ := hφ 3 d3
      exact ob_fill_int rfl ((new_slot hf 3 6 d3 (by kernel_rfl)).trans h1) e20 h1 h2 h3 p20 rfl rfl
  · intro V W6 hG hsz6 hφ hψ hne
    have hlt6 : W4.heap.size ≤ W6.heap.size := hsz6
    obtain ⟨Fa_, Fb_, Pa_, Pb_, R0_, HB_⟩ := hG
    have Fa := hid Fa_
    have Fb := hid Fb_
    have Pa := hid Pa_
    have Pb := hid Pb_
    have R0 := hid R0_
    have HB := hid HB_
    have y0 : V 0 = .agg #[.bool sa, .slice Aa na ca] := hφ 0 (by decide)
    have y1 : V 1 = .agg #[.bool sb, .slice Ab nb cb] := hφ 1 (by decide)
    obtain ⟨G6_3, y3, gb603, q603, A603, n603, c603, kb603, vb603⟩ := hφ 3 (by decide)
    have Xt6_ := hid kb603
    have t6_ := hid vb603
    clear kb603 vb603
    simp only [puts, Act.put, List.setIfInBounds_toArray, List.set_cons_zero, List.set_cons_succ, y0, y1, y3, ptr]
    clear hφ hψ hne y0 y1 y3 Fa_ Fb_ Pa_ Pb_ R0_ HB_ hsz6
    go_wp2_with fail
    have SQ7 : Hid (Sm n (za / ((Int.gcd za zb : Nat) : Int))) := hid (Sm.quo (Sa.out))
    have SQ8 : Hid (Sm n (zb / ((Int.gcd za zb : Nat) : Int))) := hid (Sm.quo (Sb.out))
    refine wp_region_each (by kernel_rfl) 9 28 rfl rfl (by kernel_rfl)
      [Fact.eq (.agg #[.bool sa, .slice Aa na ca]), Fact.eq (.agg #[.bool q603, .slice A603 n603 c603]), Fact.int (za / ((Int.gcd za zb : Nat) : Int)), Fact.eq (.agg #[.bool sb, .slice Ab nb cb]), Fact.eq (.agg #[.bool q603, .slice A603 n603 c603]), Fact.int (zb / ((Int.gcd za zb : Nat) : Int)), Fact.pair (.V (za / ((Int.gcd za zb : Nat) : Int))) (.V (zb / ((Int.gcd za zb : Nat) : Int))), Fact.top _, Fact.eq (.bool true)]
      [.val, .val, .val, .val, .val, .val, .val, .fillOld 0, .val]
      (fun w' => IntA w' (.agg #[.bool sa, .slice Aa na ca]) (za) n ∧ IntA w' (.agg #[.bool sb, .slice Ab nb cb]) (zb) n ∧ Blk w' (w.heap.size) 24 #[.bool sa, .slice Aa na ca] ∧ Blk w' (w.heap.size + 1) 24 #[.bool sb, .slice Ab nb cb] ∧ Blk w' (G6_3) 24 #[.bool q603, .slice A603 n603 c603] ∧ IntV w' (.agg #[.bool q603, .slice A603 n603 c603]) (((Int.gcd za zb : Nat) : Int)) ∧ Below w.heap.size w w')
      (fun l b w' => match l with
        | 0 => if b = true then BoxR w' (w.heap.size + 1 + 1) 26 (.V (za / ((Int.gcd za zb : Nat) : Int))) (.V (zb / ((Int.gcd za zb : Nat) : Int))) else Blk w' (w.heap.size + 1 + 1) 26 #[.bool false, .slice none 0 0, .bool false, .slice none 0 0]
        | _ => True)
      [7] (fun l => match l with | 0 => w.heap.size + 1 + 1 | _ => 0) (by kernel_rfl)
      ⟨Fa.out, Fb.out, Pa.out, Pb.out, Xt6_.out, t6_.out, HB.out⟩
      (fun w1 w2 ⟨h0, h1, h2, h3, h4, h5, h6⟩ hb => ⟨h0.below hb, h1.below hb, h2.below hb, h3.below hb, h4.below hb, h5.below hb, bw_step h6 hb⟩)
      (fun w1 w2 g ⟨h0, h1, h2, h3, h4, h5, h6⟩ hg hn ho => by
        have hg' : W6.heap.size ≤ g ∨ g = w.heap.size + 1 + 1 := by
          rcases hg with h | ⟨l, hl, h⟩
          · exact .inl h
          · rcases l with _ | l
            · exact .inr h
            · exact absurd hl (by simp)
        exact ⟨h0.only hn ho, h1.only hn ho, h2.only ho (by have := Pa.out.lt; have := Pb.out.lt; have := R0.out.lt; have := Xt6_.out.lt; omega), h3.only ho (by have := Pa.out.lt; have := Pb.out.lt; have := R0.out.lt; have := Xt6_.out.lt; omega), h4.only ho (by have := Pa.out.lt; have := Pb.out.lt; have := R0.out.lt; have := Xt6_.out.lt; omega), h5.only hn ho, below_only h6 ho (by have := Pa.out.lt; have := Pb.out.lt; have := R0.out.lt; have := Xt6_.out.lt; have := HB.out.size; omega)⟩)
      (fun l hl => by
          rcases l with _ | l
          · exact R0.out
          · exact absurd hl (by simp))
      (fun l b w1 w2 hl h hb => by
          rcases l with _ | l
          · (cases b <;> exact h.below hb)
          · exact absurd hl (by simp))
      (fun l b w1 w2 g hl h hg hn ho => by
          rcases l with _ | l
          · (cases b; (exact h.only ho (Ne.symm hg)); (exact h.only (Ne.symm hg) hn ho))
          · exact absurd hl (by simp))
      (fun l hl => by
          rcases l with _ | l
          · exact R0.out.lt
          · exact absurd hl (by simp))
      (fun l k hl hk hne => by rcases l with _ | l <;> rcases k with _ | k <;> simp at hl hk hne)
      ?_ ?_
    · refine ⟨?_, ?_, ?_, ?_, ?_, ?_, ?_, ?_, ?_, trivial⟩ <;> intro L V a1 w1 hf hG hsz hφ hψ hL hdep hcl
      · obtain ⟨Fa_, Fb_, Pa_, Pb_, Xt6__, t6__, HB_⟩ := hG
        have e2 := old_slot hf 2 (by kernel_rfl)
        exact ob_load_int rfl e2 Pa_ rfl
      · obtain ⟨Fa_, Fb_, Pa_, Pb_, Xt6__, t6__, HB_⟩ := hG
        have e6 := old_slot hf 6 (by kernel_rfl)
        exact ob_load_int rfl e6 Xt6__ rfl
      · obtain ⟨Fa_, Fb_, Pa_, Pb_, Xt6__, t6__, HB_⟩ := hG
        have d0 := dep_of hdep 0 (by kernel_rfl)
        have e21 := (new_slot hf 0 21 d0 (by kernel_rfl)).trans (show V 0 = .agg #[.bool sa, .slice Aa na ca] from hφ 0 d0)
        have d1 := dep_of hdep 1 (by kernel_rfl)
        have e22 := (new_slot hf 1 22 d1 (by kernel_rfl)).trans (show V 1 = .agg #[.bool q603, .slice A603 n603 c603] from hφ 1 d1)
        refine ob_go rfl (vs := #[.agg #[.bool sa, .slice Aa na ca], .agg #[.bool q603, .slice A603 n603 c603]]) (by simp only [List.map_toArray, List.map_cons, List.map_nil, e21, e22]) (by kernel_rfl) (rquo_any _ _ _ za ((Int.gcd za zb : Nat) : Int) n (by omega) Fa_ (IntV.arg t6__ (Sm.to (SM5.out) (by omega))) (by have := gcd_pos' (p := za) (show (0 : Int) < zb by have := HZ.out; omega); omega)) ?_
        rintro e w2 ⟨⟨v, rfl, hv⟩, hb⟩
        exact ⟨v, rfl, hb, hv⟩
      · obtain ⟨Fa_, Fb_, Pa_, Pb_, Xt6__, t6__, HB_⟩ := hG
        have e3 := old_slot hf 3 (by kernel_rfl)
        exact ob_load_int rfl e3 Pb_ rfl
      · obtain ⟨Fa_, Fb_, Pa_, Pb_, Xt6__, t6__, HB_⟩ := hG
        have e6 := old_slot hf 6 (by kernel_rfl)
        exact ob_load_int rfl e6 Xt6__ rfl
      · obtain ⟨Fa_, Fb_, Pa_, Pb_, Xt6__, t6__, HB_⟩ := hG
        have d3 := dep_of hdep 3 (by kernel_rfl)
        have e24 := (new_slot hf 3 24 d3 (by kernel_rfl)).trans (show V 3 = .agg #[.bool sb, .slice Ab nb cb] from hφ 3 d3)
        have d4 := dep_of hdep 4 (by kernel_rfl)
        have e25 := (new_slot hf 4 25 d4 (by kernel_rfl)).trans (show V 4 = .agg #[.bool q603, .slice A603 n603 c603] from hφ 4 d4)
        refine ob_go rfl (vs := #[.agg #[.bool sb, .slice Ab nb cb], .agg #[.bool q603, .slice A603 n603 c603]]) (by simp only [List.map_toArray, List.map_cons, List.map_nil, e24, e25]) (by kernel_rfl) (rquo_any _ _ _ zb ((Int.gcd za zb : Nat) : Int) n (by omega) Fb_ (IntV.arg t6__ (Sm.to (SM5.out) (by omega))) (by have := gcd_pos' (p := za) (show (0 : Int) < zb by have := HZ.out; omega); omega)) ?_
        rintro e w2 ⟨⟨v, rfl, hv⟩, hb⟩
        exact ⟨v, rfl, hb, hv⟩
      · obtain ⟨Fa_, Fb_, Pa_, Pb_, Xt6__, t6__, HB_⟩ := hG
        have d2 := dep_of hdep 2 (by kernel_rfl)
        have e23 := new_slot hf 2 23 d2 (by kernel_rfl)
        have p23 : IntV w1 (V 2) (za / ((Int.gcd za zb : Nat) : Int)) := hφ 2 d2
        have d5 := dep_of hdep 5 (by kernel_rfl)
        have e26 := new_slot hf 5 26 d5 (by kernel_rfl)
        have p26 : IntV w1 (V 5) (zb / ((Int.gcd za zb : Nat) : Int)) := hφ 5 d5
        exact ob_buildR (A := .V (za / ((Int.gcd za zb : Nat) : Int))) (B := .V (zb / ((Int.gcd za zb : Nat) : Int))) rfl e23 p23 e26 p26 rfl
      · obtain ⟨Fa_, Fb_, Pa_, Pb_, Xt6__, t6__, HB_⟩ := hG
        have d6 := dep_of hdep 6 (by kernel_rfl)
        have e27 := new_slot hf 6 27 d6 (by kernel_rfl)
        have p27 : Pair w1 (V 6) (.V (za / ((Int.gcd za zb : Nat) : Int))) (.V (zb / ((Int.gcd za zb : Nat) : Int))) := hφ 6 d6
        have e4 := old_slot hf 4 (by kernel_rfl)
        have hb0 := hψ 0 (by decide)
        rw [show [7].getD 0 0 = 7 from rfl, hL] at hb0
        exact ob_fillOldR rfl e4 e27 hb0 p27 (fun w2 h => h) rfl
      · obtain ⟨Fa_, Fb_, Pa_, Pb_, Xt6__, t6__, HB_⟩ := hG
        exact ob_pure (v := .bool true) (ex_assignV rfl rfl) rfl
    · intro V W9 hG hsz9 hφ hψ hne
      have hlt9 : W6.heap.size ≤ W9.heap.size := hsz9
      obtain ⟨Fa_, Fb_, Pa_, Pb_, Xt6__, t6__, HB_⟩ := hG
      have Fa := hid Fa_
      have Fb := hid Fb_
      have Pa := hid Pa_
      have Pb := hid Pb_
      have Xt6_ := hid Xt6__
      have t6_ := hid t6__
      have HB := hid HB_
      have y0 : V 0 = .agg #[.bool sa, .slice Aa na ca] := hφ 0 (by decide)
      have y1 : V 1 = .agg #[.bool q603, .slice A603 n603 c603] := hφ 1 (by decide)
      have y3 : V 3 = .agg #[.bool sb, .slice Ab nb cb] := hφ 3 (by decide)
      have y4 : V 4 = .agg #[.bool q603, .slice A603 n603 c603] := hφ 4 (by decide)
      have y8 : V 8 = .bool true := hφ 8 (by decide)
      obtain ⟨q9501, A9501, n9501, c9501, q9502, A9502, n9502, c9502, kb950, va950, vb950⟩ := hψ 0 (by decide)
      have R0 := hid kb950
      have R01 : Hid (IntV W9 (.agg #[.bool q9501, .slice A9501 n9501 c9501]) (za / ((Int.gcd za zb : Nat) : Int))) := hid va950
      have R02 : Hid (IntV W9 (.agg #[.bool q9502, .slice A9502 n9502 c9502]) (zb / ((Int.gcd za zb : Nat) : Int))) := hid vb950
      clear kb950 va950 vb950
      simp only [puts, Act.put, List.setIfInBounds_toArray, List.set_cons_zero, List.set_cons_succ, y0, y1, y3, y4, y8]
      clear hφ hψ hne y0 y1 y3 y4 y8 Fa_ Fb_ Pa_ Pb_ Xt6__ t6__ HB_ hsz9
      have e1 : (Rat.divInt za zb).num = za / ((Int.gcd za zb : Nat) : Int) := by rw [rat_num (show (0 : Int) < zb by have := HZ.out; omega)]
      have e2 : ((Rat.divInt za zb).den : Int) = zb / ((Int.gcd za zb : Nat) : Int) := by rw [rat_den (show (0 : Int) < zb by have := HZ.out; omega)]
      have E := hid (And.intro e1 e2)
      clear e1 e2
      have k0 := R0.out.cell 0
      have k1 := R0.out.cell 1
      have k2 := R0.out.cell 2
      have k3 := R0.out.cell 3
      go_wp2
      refine bodyPost_ret (v := .tuple #[.agg #[.bool q9501, .slice A9501 n9501 c9501, .bool q9502, .slice A9502 n9502 c9502], .bool true]) (by simp [results, Try.results34, go_sem, k0, k1, k2, k3]) rfl ⟨⟨_, rfl, _, rfl, ?_⟩, HB.out⟩
      rw [E.out.1, E.out.2]
      exact Pair.mk (a := .V (za / ((Int.gcd za zb : Nat) : Int))) (b := .V (zb / ((Int.gcd za zb : Nat) : Int))) R01.out R02.out
theorem rnewR_any (w : World) (va vb : Value) (za zb : Int) (x : Rat) (n : Nat) (ha : IntA w va za n) (hb : IntA w vb zb n) (h1n : 1 ≤ n) (hn : n ≤ 300000) (hz : zb ≠ 0) (hx : Rat.divInt za zb = x) :
    Calls Try.prog 34 #[va, vb] w fun e w' => (∃ u, e = .returned u ∧ PairB w' u (.V x.num) (.V (x.den : Int)) true) ∧ Below w.heap.size w w' := by
  rcases Int.lt_trichotomy zb 0 with h | h | h
  · exact rnewR_neg w va vb za zb x n ha hb h1n hn h hx
  · exact absurd h hz
  · exact rnewR_pos w va vb za zb x n ha hb h1n hn h hx
end Go.Proofs.Ytklamiajcdkmnaa

