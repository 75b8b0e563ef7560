/- A part of the proof of the laws of rationals: RatRef2. -/
import Derived.Test.YtklamiajcdkmnaaPae
import Derived.Test.YtklamiajcdkmnaaPam
import Derived.Test.YtklamiajcdkmnaaPbh
import Derived.Test.YtklamiajcdkmnaaPal
import Derived.Test.YtklamiajcdkmnaaPab
import Derived.Test.YtklamiajcdkmnaaPad
import Derived.Test.YtklamiajcdkmnaaPbb
import Derived.Test.YtklamiajcdkmnaaPac
import Derived.Test.YtklamiajcdkmnaaPao
import Derived.Test.YtklamiajcdkmnaaPat
import Derived.Test.YtklamiajcdkmnaaPba
import Derived.Test.YtklamiajcdkmnaaPaa
import Derived.Test.YtklamiajcdkmnaaPai
import Derived.Test.YtklamiajcdkmnaaPap
import Derived.Test.YtklamiajcdkmnaaPas
import Derived.Test.YtklamiajcdkmnaaPbf
import Derived.Test.YtklamiajcdkmnaaPbe
import Derived.Test.YtklamiajcdkmnaaPbg
import Derived.Test.YtklamiajcdkmnaaPbd
import Derived.Test.YtklamiajcdkmnaaPbj
import Derived.Test.YtklamiajcdkmnaaPau
import Derived.Test.YtklamiajcdkmnaaPbi
import Derived.Test.YtklamiajcdkmnaaPar
import Derived.Test.YtklamiajcdkmnaaPkRationalAddsb
import Derived.Test.YtklamiajcdkmnaaPaw
import Derived.Test.YtklamiajcdkmnaaPbk
import Derived.Test.YtklamiajcdkmnaaPav
import Derived.Test.YtklamiajcdkmnaaPan
import Derived.Test.YtklamiajcdkmnaaPbc
import Derived.Test.YtklamiajcdkmnaaPkRationalAddsa
import Derived.Test.YtklamiajcdkmnaaPbl
import Derived.Test.YtklamiajcdkmnaaPak
namespace Go.Proofs.Ytklamiajcdkmnaa
open Go.RowKit
set_option linter.unusedVariables false
set_option maxRecDepth 100000

set_option maxHeartbeats 4000000 in
theorem rnegR_any (w : World) (va : Value) (x : Rat) (n : Nat) (ha : RatA w va x n) (h1n : 1 ≤ n) (hn : n ≤ 300000) :
    Calls Try.prog 14 #[va] w fun e w' => RetR w' (-x) e ∧ Below w.heap.size w w' := by
  obtain ⟨pa, qa, ha, rfl⟩ := ha
  obtain ⟨sa1, Aa1, na1, ca1, sa2, Aa2, na2, ca2, rfl, h1, h2⟩ := ha.form
  have Fa1 : Hid (IntA w (.agg #[.bool sa1, .slice Aa1 na1 ca1]) pa n) := hid h1
  have Fa2 : Hid (IntA w (.agg #[.bool sa2, .slice Aa2 na2 ca2]) qa n) := hid h2
  have Sa1 := hid Fa1.out.sm
  have Sa2 := hid Fa2.out.sm
  clear h1 h2 ha
  have HB := hid (Below.refl w.heap.size w)
  obtain ⟨W, hW⟩ : ∃ W, W = ((w.alloc (.cells #[.bool sa1, .slice Aa1 na1 ca1, .bool sa2, .slice Aa2 na2 ca2] 26)).alloc (.cells #[.bool false, .slice none 0 0, .bool false, .slice none 0 0] 26)) := ⟨_, rfl⟩
  have hbb : Below w.heap.size w W := by rw [hW]; exact (bw_alloc (bw_alloc (Below.refl _ _) _) _)
  have HB := hid (bw_step HB.out hbb)
  have Fa1 := hid (Fa1.out.below hbb)
  have Fa2 := hid (Fa2.out.below hbb)
  have Pa : Hid (Blk W (w.heap.size) 26 #[.bool sa1, .slice Aa1 na1 ca1, .bool sa2, .slice Aa2 na2 ca2]) := by
    rw [hW]
    have := (Blk.new w 26 #[.bool sa1, .slice Aa1 na1 ca1, .bool sa2, .slice Aa2 na2 ca2]).below (bw_alloc (Below.refl _ _) (.cells #[.bool false, .slice none 0 0, .bool false, .slice none 0 0] 26))
    exact hid (by simpa only [World.size_alloc] using this)
  have R0 : Hid (Blk W (w.heap.size + 1) 26 #[.bool false, .slice none 0 0, .bool false, .slice none 0 0]) := by
    rw [hW]
    have := Blk.new (w.alloc (.cells #[.bool sa1, .slice Aa1 na1 ca1, .bool sa2, .slice Aa2 na2 ca2] 26)) 26 #[.bool false, .slice none 0 0, .bool false, .slice none 0 0]
    exact hid (by simpa only [World.size_alloc] using this)
  clear hbb
  go_enter Try.func14, Try.ntmps14
  go_wp2_with (with_reducible refine halt_at 4 rfl ?_)
  rw [← hW]
  clear hW
  have RS1 : Hid (RS n (Rat.divInt pa qa)) := hid ((RS.of (Sa1.out) (Sa2.out) (by omega)))
  have lt1_Pa := Pa.out.lt
  have lt1_R0 := R0.out.lt
  unfold Halted
  refine wp_list_each (by kernel_rfl) 4 12 rfl rfl (by kernel_rfl)
    [Fact.eq (.agg #[.bool sa1, .slice Aa1 na1 ca1, .bool sa2, .slice Aa2 na2 ca2]), Fact.pair (.V ((Rat.divInt pa qa)).num) (.V (((Rat.divInt pa qa)).den : Int)), Fact.boxR 26 Rne (.V ((Rat.divInt pa qa)).num) (.V (((Rat.divInt pa qa)).den : Int)), Fact.top _]
    [.val, .val, .alloc 3, .fill 2]
    (fun w' => IntA w' (.agg #[.bool sa1, .slice Aa1 na1 ca1]) (pa) n ∧ IntA w' (.agg #[.bool sa2, .slice Aa2 na2 ca2]) (qa) n ∧ Blk w' (w.heap.size) 26 #[.bool sa1, .slice Aa1 na1 ca1, .bool sa2, .slice Aa2 na2 ca2] ∧ Blk w' (w.heap.size + 1) 26 #[.bool false, .slice none 0 0, .bool false, .slice none 0 0] ∧ Below w.heap.size w w')
    (fun _ _ _ => True) [] (fun _ => 0) (by kernel_rfl)
    ⟨Fa1.out, Fa2.out, Pa.out, R0.out, HB.out⟩
    (fun w1 w2 ⟨h0, h1, h2, h3, h4⟩ hb => ⟨h0.below hb, h1.below hb, h2.below hb, h3.below hb, bw_step h4 hb⟩)
    (fun w1 w2 g ⟨h0, h1, h2, h3, h4⟩ hg hn ho => by
      have hg' : W.heap.size ≤ g := hg.elim id (fun ⟨_, h, _⟩ => absurd h (Nat.not_lt_zero _))
      exact ⟨h0.only hn ho, h1.only hn ho, h2.only ho (by have := Pa.out.lt; have := R0.out.lt; omega), h3.only ho (by have := Pa.out.lt; have := R0.out.lt; omega), below_only h4 ho (by have := Pa.out.lt; have := R0.out.lt; have := HB.out.size; omega)⟩)
    (fun l h => trivial) (fun l b w1 w2 h _ _ => trivial) (fun l b w1 w2 g h _ _ _ _ => trivial) (fun l h => by cases h) (fun l k h => by cases h) ?_ ?_
  · refine ⟨?_, ?_, ?_, ?_, trivial⟩ <;> intro L V a1 w1 hf hG hsz hφ hψ hL hdep hcl
    · obtain ⟨Fa1_, Fa2_, Pa_, R0_, HB_⟩ := hG
      have e1 := old_slot hf 1 (by kernel_rfl)
      exact ob_pure (ex_loadR rfl e1 Pa_) rfl
    · obtain ⟨Fa1_, Fa2_, Pa_, R0_, HB_⟩ := hG
      have d0 := dep_of hdep 0 (by kernel_rfl)
      have e4 := (new_slot hf 0 4 d0 (by kernel_rfl)).trans (show V 0 = .agg #[.bool sa1, .slice Aa1 na1 ca1, .bool sa2, .slice Aa2 na2 ca2] from hφ 0 d0)
      refine ob_go rfl (vs := #[.agg #[.bool sa1, .slice Aa1 na1 ca1, .bool sa2, .slice Aa2 na2 ca2]]) (by simp only [List.map_toArray, List.map_cons, List.map_nil, e4]) (by kernel_rfl) (rnormalizeR_any _ _ (Rat.divInt pa qa) n (RatA.of (Pair.mk (a := .A pa n) (b := .A qa n) Fa1_ Fa2_)) (by omega) (by omega)) ?_
      rintro e w2 ⟨⟨v, rfl, hv⟩, hb⟩
      exact ⟨v, rfl, hb, hv⟩
    · obtain ⟨Fa1_, Fa2_, Pa_, R0_, HB_⟩ := hG
      exact ob_allocR rfl hsz rfl
    · obtain ⟨Fa1_, Fa2_, Pa_, R0_, HB_⟩ := hG
      have d1 := dep_of hdep 1 (by kernel_rfl)
      have e5 := new_slot hf 1 5 d1 (by kernel_rfl)
      have p5 : Pair w1 (V 1) (.V ((Rat.divInt pa qa)).num) (.V (((Rat.divInt pa qa)).den : Int)) := hφ 1 d1
      have d2 := dep_of hdep 2 (by kernel_rfl)
      obtain ⟨g, h1, h2, h3, _⟩ := hφ 2 d2
      have hz := h3 (show (true && L 3) = false from by have h : L 3 = false := hL; rw [h]; rfl)
      exact ob_fillR rfl ((new_slot hf 2 3 d2 (by kernel_rfl)).trans h1) e5 h1 h2 hz p5 rfl rfl
  · intro V W2 hG hsz2 hφ hψ hne
    have hlt2 : W.heap.size ≤ W2.heap.size := hsz2
    obtain ⟨Fa1_, Fa2_, Pa_, R0_, HB_⟩ := hG
    have Fa1 := hid Fa1_
    have Fa2 := hid Fa2_
    have Pa := hid Pa_
    have R0 := hid R0_
    have HB := hid HB_
    have y0 : V 0 = .agg #[.bool sa1, .slice Aa1 na1 ca1, .bool sa2, .slice Aa2 na2 ca2] := hφ 0 (by decide)
    obtain ⟨G2_2, y2, gb202, _, hb202⟩ := hφ 2 (by decide)
    obtain ⟨q2021, A2021, n2021, c2021, q2022, A2022, n2022, c2022, kb202, va202, vb202⟩ := hb202 rfl
    have Xt3_ := hid kb202
    have t3_1 : Hid (IntV W2 (.agg #[.bool q2021, .slice A2021 n2021 c2021]) ((Rat.divInt pa qa)).num) := hid va202
    have t3_2 : Hid (IntV W2 (.agg #[.bool q2022, .slice A2022 n2022 c2022]) (((Rat.divInt pa qa)).den : Int)) := hid vb202
    clear kb202 va202 vb202
    clear hb202
    simp only [puts, Act.put, List.setIfInBounds_toArray, List.set_cons_zero, List.set_cons_succ, y0, y2, ptr]
    clear hφ hψ hne y0 y2 Fa1_ Fa2_ Pa_ R0_ HB_ hsz2
    go_wp2_with fail
    have SM3 : Hid (Sm n (-((Rat.divInt pa qa)).num)) := hid (((RS1.out).1).opp)
    refine wp_region_each (by kernel_rfl) 7 12 rfl rfl (by kernel_rfl)
      [Fact.eq (.pointer (some ⟨G2_2, 0, none⟩)), Fact.eq (.agg #[.bool q2021, .slice A2021 n2021 c2021]), Fact.int (-((Rat.divInt pa qa)).num), Fact.eq (.pointer (some ⟨G2_2, 2, none⟩)), Fact.eq (.agg #[.bool q2022, .slice A2022 n2022 c2022]), Fact.pair (.V (-((Rat.divInt pa qa)).num)) (.V (((Rat.divInt pa qa)).den : Int)), Fact.top _]
      [.val, .val, .val, .val, .val, .val, .fillOld 0]
      (fun w' => IntA w' (.agg #[.bool sa1, .slice Aa1 na1 ca1]) (pa) n ∧ IntA w' (.agg #[.bool sa2, .slice Aa2 na2 ca2]) (qa) n ∧ Blk w' (w.heap.size) 26 #[.bool sa1, .slice Aa1 na1 ca1, .bool sa2, .slice Aa2 na2 ca2] ∧ IntV w' (.agg #[.bool q2021, .slice A2021 n2021 c2021]) (((Rat.divInt pa qa)).num) ∧ IntV w' (.agg #[.bool q2022, .slice A2022 n2022 c2022]) ((((Rat.divInt pa qa)).den : Int)) ∧ Blk w' (G2_2) 26 #[.bool q2021, .slice A2021 n2021 c2021, .bool q2022, .slice A2022 n2022 c2022] ∧ Below w.heap.size w w')
      (fun l b w' => match l with
        | 0 => if b = true then BoxR w' (w.heap.size + 1) 26 (.V (-((Rat.divInt pa qa)).num)) (.V (((Rat.divInt pa qa)).den : Int)) else Blk w' (w.heap.size + 1) 26 #[.bool false, .slice none 0 0, .bool false, .slice none 0 0]
        | _ => True)
      [6] (fun l => match l with | 0 => w.heap.size + 1 | _ => 0) (by kernel_rfl)
      ⟨Fa1.out, Fa2.out, Pa.out, t3_1.out, t3_2.out, Xt3_.out, HB.out⟩
      (fun w1 w2 ⟨h0, h1, h2, h3, h4, h5, h6⟩ hb => ⟨h0.below hb, h1.below hb, h2.below hb, h3.below hb, h4.below hb, h5.below hb, bw_step h6 hb⟩)
      (fun w1 w2 g ⟨h0, h1, h2, h3, h4, h5, h6⟩ hg hn ho => by
        have hg' : W2.heap.size ≤ g ∨ g = w.heap.size + 1 := by
          rcases hg with h | ⟨l, hl, h⟩
          · exact .inl h
          · rcases l with _ | l
            · exact .inr h
            · exact absurd hl (by simp)
        exact ⟨h0.only hn ho, h1.only hn ho, h2.only ho (by have := Pa.out.lt; have := R0.out.lt; have := Xt3_.out.lt; omega), h3.only hn ho, h4.only hn ho, h5.only ho (by have := Pa.out.lt; have := R0.out.lt; have := Xt3_.out.lt; omega), below_only h6 ho (by have := Pa.out.lt; have := R0.out.lt; have := Xt3_.out.lt; have := HB.out.size; omega)⟩)
      (fun l hl => by
          rcases l with _ | l
          · exact R0.out
          · exact absurd hl (by simp))
      (fun l b w1 w2 hl h hb => by
          rcases l with _ | l
          · (cases b <;> exact h.below hb)
          · exact absurd hl (by simp))
      (fun l b w1 w2 g hl h hg hn ho => by
          rcases l with _ | l
          · (cases b; (exact h.only ho (Ne.symm hg)); (exact h.only (Ne.symm hg) hn ho))
          · exact absurd hl (by simp))
      (fun l hl => by
          rcases l with _ | l
          · exact R0.out.lt
          · exact absurd hl (by simp))
      (fun l k hl hk hne => by rcases l with _ | l <;> rcases k with _ | k <;> simp at hl hk hne)
      ?_ ?_
    · refine ⟨?_, ?_, ?_, ?_, ?_, ?_, ?_, trivial⟩ <;> intro L V a1 w1 hf hG hsz hφ hψ hL hdep hcl
      · obtain ⟨Fa1_, Fa2_, Pa_, t3_1_, t3_2_, Xt3__, HB_⟩ := hG
        have e3 := old_slot hf 3 (by kernel_rfl)
        exact ob_pure (ex_fieldAddrR0 rfl e3) rfl
      · obtain ⟨Fa1_, Fa2_, Pa_, t3_1_, t3_2_, Xt3__, HB_⟩ := hG
        have d0 := dep_of hdep 0 (by kernel_rfl)
        have e6 := (new_slot hf 0 6 d0 (by kernel_rfl)).trans (show V 0 = .pointer (some ⟨G2_2, 0, none⟩) from hφ 0 d0)
        exact ob_pure (ex_load_at0 rfl e6 Xt3__) rfl
      · obtain ⟨Fa1_, Fa2_, Pa_, t3_1_, t3_2_, Xt3__, HB_⟩ := hG
        have d1 := dep_of hdep 1 (by kernel_rfl)
        have e7 := (new_slot hf 1 7 d1 (by kernel_rfl)).trans (show V 1 = .agg #[.bool q2021, .slice A2021 n2021 c2021] from hφ 1 d1)
        refine ob_go rfl (vs := #[.agg #[.bool q2021, .slice A2021 n2021 c2021]]) (by simp only [List.map_toArray, List.map_cons, List.map_nil, e7]) (by kernel_rfl) (rneg_any _ (.agg #[.bool q2021, .slice A2021 n2021 c2021]) ((Rat.divInt pa qa)).num n (t3_1_.arg ((RS1.out).1)) ) ?_
        rintro e w2 ⟨⟨v, rfl, hv⟩, hb⟩
        exact ⟨v, rfl, hb, hv⟩
      · obtain ⟨Fa1_, Fa2_, Pa_, t3_1_, t3_2_, Xt3__, HB_⟩ := hG
        have e3 := old_slot hf 3 (by kernel_rfl)
        exact ob_pure (ex_fieldAddrR1 rfl e3) rfl
      · obtain ⟨Fa1_, Fa2_, Pa_, t3_1_, t3_2_, Xt3__, HB_⟩ := hG
        have d3 := dep_of hdep 3 (by kernel_rfl)
        have e9 := (new_slot hf 3 9 d3 (by kernel_rfl)).trans (show V 3 = .pointer (some ⟨G2_2, 2, none⟩) from hφ 3 d3)
        exact ob_pure (ex_load_at2 rfl e9 Xt3__) rfl
      · obtain ⟨Fa1_, Fa2_, Pa_, t3_1_, t3_2_, Xt3__, HB_⟩ := hG
        have d2 := dep_of hdep 2 (by kernel_rfl)
        have e8 := new_slot hf 2 8 d2 (by kernel_rfl)
        have p8 : IntV w1 (V 2) (-((Rat.divInt pa qa)).num) := hφ 2 d2
        have d4 := dep_of hdep 4 (by kernel_rfl)
        have e10 := (new_slot hf 4 10 d4 (by kernel_rfl)).trans (show V 4 = .agg #[.bool q2022, .slice A2022 n2022 c2022] from hφ 4 d4)
        exact ob_buildR (A := .V (-((Rat.divInt pa qa)).num)) (B := .V (((Rat.divInt pa qa)).den : Int)) rfl e8 p8 e10 t3_2_ rfl
      · obtain ⟨Fa1_, Fa2_, Pa_, t3_1_, t3_2_, Xt3__, HB_⟩ := hG
        have d5 := dep_of hdep 5 (by kernel_rfl)
        have e11 := new_slot hf 5 11 d5 (by kernel_rfl)
        have p11 : Pair w1 (V 5) (.V (-((Rat.divInt pa qa)).num)) (.V (((Rat.divInt pa qa)).den : Int)) := hφ 5 d5
        have e2 := old_slot hf 2 (by kernel_rfl)
        have hb0 := hψ 0 (by decide)
        rw [show [6].getD 0 0 = 6 from rfl, hL] at hb0
        exact ob_fillOldR rfl e2 e11 hb0 p11 (fun w2 h => h) rfl
    · intro V W4 hG hsz4 hφ hψ hne
      have hlt4 : W2.heap.size ≤ W4.heap.size := hsz4
      obtain ⟨Fa1_, Fa2_, Pa_, t3_1_, t3_2_, Xt3__, HB_⟩ := hG
      have Fa1 := hid Fa1_
      have Fa2 := hid Fa2_
      have Pa := hid Pa_
      have t3_1 := hid t3_1_
      have t3_2 := hid t3_2_
      have Xt3_ := hid Xt3__
      have HB := hid HB_
      have y0 : V 0 = .pointer (some ⟨G2_2, 0, none⟩) := hφ 0 (by decide)
      have y1 : V 1 = .agg #[.bool q2021, .slice A2021 n2021 c2021] := hφ 1 (by decide)
      have y3 : V 3 = .pointer (some ⟨G2_2, 2, none⟩) := hφ 3 (by decide)
      have y4 : V 4 = .agg #[.bool q2022, .slice A2022 n2022 c2022] := hφ 4 (by decide)
      obtain ⟨q4501, A4501, n4501, c4501, q4502, A4502, n4502, c4502, kb450, va450, vb450⟩ := hψ 0 (by decide)
      have R0 := hid kb450
      have R01 : Hid (IntV W4 (.agg #[.bool q4501, .slice A4501 n4501 c4501]) (-((Rat.divInt pa qa)).num)) := hid va450
      have R02 : Hid (IntV W4 (.agg #[.bool q4502, .slice A4502 n4502 c4502]) (((Rat.divInt pa qa)).den : Int)) := hid vb450
      clear kb450 va450 vb450
      simp only [puts, Act.put, List.setIfInBounds_toArray, List.set_cons_zero, List.set_cons_succ, y0, y1, y3, y4]
      clear hφ hψ hne y0 y1 y3 y4 Fa1_ Fa2_ Pa_ t3_1_ t3_2_ Xt3__ HB_ hsz4
      have k0 := R0.out.cell 0
      have k1 := R0.out.cell 1
      have k2 := R0.out.cell 2
      have k3 := R0.out.cell 3
      go_wp2
      refine bodyPost_ret (v := .agg #[.bool q4501, .slice A4501 n4501 c4501, .bool q4502, .slice A4502 n4502 c4502]) (by simp [results, Try.results14, go_sem, k0, k1, k2, k3]) rfl ⟨⟨_, rfl, ?_⟩, HB.out⟩
      refine RetR.val (x := -(Rat.divInt pa qa)) ?_ ?_
      · rw [Rat.neg_num]; exact R01.out
      · rw [Rat.neg_den]; exact R02.out
set_option maxHeartbeats 4000000 in
theorem raddR_any (w : World) (va vb : Value) (x y : Rat) (n : Nat) (ha : RatA w va x n) (hb : RatA w vb y n) (h1n : 1 ≤ n) (hn : n ≤ 100000) :
    Calls Try.prog 10 #[va, vb] w fun e w' => RetR w' (x + y) e ∧ Below w.heap.size w w' := by
  obtain ⟨pa, qa, ha, rfl⟩ := ha
  obtain ⟨pb, qb, hb, rfl⟩ := hb
  obtain ⟨sa1, Aa1, na1, ca1, sa2, Aa2, na2, ca2, rfl, h1, h2⟩ := ha.form
  have Fa1 : Hid (IntA w (.agg #[.bool sa1, .slice Aa1 na1 ca1]) pa n) := hid h1
  have Fa2 : Hid (IntA w (.agg #[.bool sa2, .slice Aa2 na2 ca2]) qa n) := hid h2
  have Sa1 := hid Fa1.out.sm
  have Sa2 := hid Fa2.out.sm
  clear h1 h2 ha
  obtain ⟨sb1, Ab1, nb1, cb1, sb2, Ab2, nb2, cb2, rfl, h1, h2⟩ := hb.form
  have Fb1 : Hid (IntA w (.agg #[.bool sb1, .slice Ab1 nb1 cb1]) pb n) := hid h1
  have Fb2 : Hid (IntA w (.agg #[.bool sb2, .slice Ab2 nb2 cb2]) qb n) := hid h2
  have Sb1 := hid Fb1.out.sm
  have Sb2 := hid Fb2.out.sm
  clear h1 h2 hb
  have HB := hid (Below.refl w.heap.size w)
  obtain ⟨W, hW⟩ : ∃ W, W = (((w.alloc (.cells #[.bool sa1, .slice Aa1 na1 ca1, .bool sa2, .slice Aa2 na2 ca2] 26)).alloc (.cells #[.bool sb1, .slice Ab1 nb1 cb1, .bool sb2, .slice Ab2 nb2 cb2] 26)).alloc (.cells #[.bool false, .slice none 0 0, .bool false, .slice none 0 0] 26)) := ⟨_, rfl⟩
  have hbb : Below w.heap.size w W := by rw [hW]; exact (bw_alloc (bw_alloc (bw_alloc (Below.refl _ _) _) _) _)
  have HB := hid (bw_step HB.out hbb)
  have Fa1 := hid (Fa1.out.below hbb)
  have Fa2 := hid (Fa2.out.below hbb)
  have Fb1 := hid (Fb1.out.below hbb)
  have Fb2 := hid (Fb2.out.below hbb)
  have Pa : Hid (Blk W (w.heap.size) 26 #[.bool sa1, .slice Aa1 na1 ca1, .bool sa2, .slice Aa2 na2 ca2]) := by
    rw [hW]
    have := ((Blk.new w 26 #[.bool sa1, .slice Aa1 na1 ca1, .bool sa2, .slice Aa2 na2 ca2]).below (bw_alloc (Below.refl _ _) (.cells #[.bool sb1, .slice Ab1 nb1 cb1, .bool sb2, .slice Ab2 nb2 cb2] 26))).below (bw_alloc (Below.refl _ _) (.cells #[.bool false, .slice none 0 0, .bool false, .slice none 0 0] 26))
    exact hid (by simpa only [World.size_alloc] using this)
  have Pb : Hid (Blk W (w.heap.size + 1) 26 #[.bool sb1, .slice Ab1 nb1 cb1, .bool sb2, .slice Ab2 nb2 cb2]) := by
    rw [hW]
    have := (Blk.new (w.alloc (.cells #[.bool sa1, .slice Aa1 na1 ca1, .bool sa2, .slice Aa2 na2 ca2] 26)) 26 #[.bool sb1, .slice Ab1 nb1 cb1, .bool sb2, .slice Ab2 nb2 cb2]).below (bw_alloc (Below.refl _ _) (.cells #[.bool false, .slice none 0 0, .bool false, .slice none 0 0] 26))
    exact hid (by simpa only [World.size_alloc] using this)
  have R0 : Hid (Blk W (w.heap.size + 1 + 1) 26 #[.bool false, .slice none 0 0, .bool false, .slice none 0 0]) := by
    rw [hW]
    have := Blk.new ((w.alloc (.cells #[.bool sa1, .slice Aa1 na1 ca1, .bool sa2, .slice Aa2 na2 ca2] 26)).alloc (.cells #[.bool sb1, .slice Ab1 nb1 cb1, .bool sb2, .slice Ab2 nb2 cb2] 26)) 26 #[.bool false, .slice none 0 0, .bool false, .slice none 0 0]
    exact hid (by simpa only [World.size_alloc] using this)
  clear hbb
  go_enter Try.func10, Try.ntmps10
  go_wp2_with fail
  rw [← hW]
  clear hW
  have RS1 : Hid (RS n (Rat.divInt pa qa)) := hid ((RS.of (Sa1.out) (Sa2.out) (by omega)))
  have RS2 : Hid (RS n (Rat.divInt pb qb)) := hid ((RS.of (Sb1.out) (Sb2.out) (by omega)))
  have lt2_Pa := Pa.out.lt
  have lt2_Pb := Pb.out.lt
  have lt2_R0 := R0.out.lt
  refine wp_region_each (by kernel_rfl) 8 34 rfl rfl (by kernel_rfl)
    [Fact.eq (.agg #[.bool sa1, .slice Aa1 na1 ca1, .bool sa2, .slice Aa2 na2 ca2]), Fact.pair (.V ((Rat.divInt pa qa)).num) (.V (((Rat.divInt pa qa)).den : Int)), Fact.eq (.agg #[.bool sb1, .slice Ab1 nb1 cb1, .bool sb2, .slice Ab2 nb2 cb2]), Fact.pair (.V ((Rat.divInt pb qb)).num) (.V (((Rat.divInt pb qb)).den : Int)), Fact.boxR 26 Rne (.V ((Rat.divInt pa qa)).num) (.V (((Rat.divInt pa qa)).den : Int)), Fact.boxR 26 Rne (.V ((Rat.divInt pb qb)).num) (.V (((Rat.divInt pb qb)).den : Int)), Fact.top _, Fact.top _]
    [.val, .val, .val, .val, .alloc 6, .alloc 7, .fill 4, .fill 5]
    (fun w' => IntA w' (.agg #[.bool sa1, .slice Aa1 na1 ca1]) (pa) n ∧ IntA w' (.agg #[.bool sa2, .slice Aa2 na2 ca2]) (qa) n ∧ IntA w' (.agg #[.bool sb1, .slice Ab1 nb1 cb1]) (pb) n ∧ IntA w' (.agg #[.bool sb2, .slice Ab2 nb2 cb2]) (qb) n ∧ Blk w' (w.heap.size) 26 #[.bool sa1, .slice Aa1 na1 ca1, .bool sa2, .slice Aa2 na2 ca2] ∧ Blk w' (w.heap.size + 1) 26 #[.bool sb1, .slice Ab1 nb1 cb1, .bool sb2, .slice Ab2 nb2 cb2] ∧ Blk w' (w.heap.size + 1 + 1) 26 #[.bool false, .slice none 0 0, .bool false, .slice none 0 0] ∧ Below w.heap.size w w')
    (fun _ _ _ => True) [] (fun _ => 0) (by kernel_rfl)
    ⟨Fa1.out, Fa2.out, Fb1.out, Fb2.out, Pa.out, Pb.out, R0.out, HB.out⟩
    (fun w1 w2 ⟨h0, h1, h2, h3, h4, h5, h6, h7⟩ hb => ⟨h0.below hb, h1.below hb, h2.below hb, h3.below hb, h4.below hb, h5.below hb, h6.below hb, bw_step h7 hb⟩)
    (fun w1 w2 g ⟨h0, h1, h2, h3, h4, h5, h6, h7⟩ hg hn ho => by
      have hg' : W.heap.size ≤ g := hg.elim id (fun ⟨_, h, _⟩ => absurd h (Nat.not_lt_zero _))
      exact ⟨h0.only hn ho, h1.only hn ho, h2.only hn ho, h3.only hn ho, h4.only ho (by have := Pa.out.lt; have := Pb.out.lt; have := R0.out.lt; omega), h5.only ho (by have := Pa.out.lt; have := Pb.out.lt; have := R0.out.lt; omega), h6.only ho (by have := Pa.out.lt; have := Pb.out.lt; have := R0.out.lt; omega), below_only h7 ho (by have := Pa.out.lt; have := Pb.out.lt; have := R0.out.lt; have := HB.out.size; omega)⟩)
    (fun l h => trivial) (fun l b w1 w2 h _ _ => trivial) (fun l b w1 w2 g h _ _ _ _ => trivial) (fun l h => by cases h) (fun l k h => by cases h) ?_ ?_
  · refine ⟨?_, ?_, ?_, ?_, ?_, ?_, ?_, ?_, trivial⟩ <;> intro L V a1 w1 hf hG hsz hφ hψ hL hdep hcl
    · obtain ⟨Fa1_, Fa2_, Fb1_, Fb2_, Pa_, Pb_, R0_, HB_⟩ := hG
      have e2 := old_slot hf 2 (by kernel_rfl)
      exact ob_pure (ex_loadR rfl e2 Pa_) rfl
    · obtain ⟨Fa1_, Fa2_, Fb1_, Fb2_, Pa_, Pb_, R0_, HB_⟩ := hG
      have d0 := dep_of hdep 0 (by kernel_rfl)
      have e9 := (new_slot hf 0 9 d0 (by kernel_rfl)).trans (show V 0 = .agg #[.bool sa1, .slice Aa1 na1 ca1, .bool sa2, .slice Aa2 na2 ca2] from hφ 0 d0)
      refine ob_go rfl (vs := #[.agg #[.bool sa1, .slice Aa1 na1 ca1, .bool sa2, .slice Aa2 na2 ca2]]) (by simp only [List.map_toArray, List.map_cons, List.map_nil, e9]) (by kernel_rfl) (rnormalizeR_any _ _ (Rat.divInt pa qa) n (RatA.of (Pair.mk (a := .A pa n) (b := .A qa n) Fa1_ Fa2_)) (by omega) (by omega)) ?_
      rintro e w2 ⟨⟨v, rfl, hv⟩, hb⟩
      exact ⟨v, rfl, hb, hv⟩
    · obtain ⟨Fa1_, Fa2_, Fb1_, Fb2_, Pa_, Pb_, R0_, HB_⟩ := hG
      have e3 := old_slot hf 3 (by kernel_rfl)
      exact ob_pure (ex_loadR rfl e3 Pb_) rfl
    · obtain ⟨Fa1_, Fa2_, Fb1_, Fb2_, Pa_, Pb_, R0_, HB_⟩ := hG
      have d2 := dep_of hdep 2 (by kernel_rfl)
      have e11 := (new_slot hf 2 11 d2 (by kernel_rfl)).trans (show V 2 = .agg #[.bool sb1, .slice Ab1 nb1 cb1, .bool sb2, .slice Ab2 nb2 cb2] from hφ 2 d2)
      refine ob_go rfl (vs := #[.agg #[.bool sb1, .slice Ab1 nb1 cb1, .bool sb2, .slice Ab2 nb2 cb2]]) (by simp only [List.map_toArray, List.map_cons, List.map_nil, e11]) (by kernel_rfl) (rnormalizeR_any _ _ (Rat.divInt pb qb) n (RatA.of (Pair.mk (a := .A pb n) (b := .A qb n) Fb1_ Fb2_)) (by omega) (by omega)) ?_
      rintro e w2 ⟨⟨v, rfl, hv⟩, hb⟩
      exact ⟨v, rfl, hb, hv⟩
    · obtain ⟨Fa1_, Fa2_, Fb1_, Fb2_, Pa_, Pb_, R0_, HB_⟩ := hG
      exact ob_allocR rfl hsz rfl
    · obtain ⟨Fa1_, Fa2_, Fb1_, Fb2_, Pa_, Pb_, R0_, HB_⟩ := hG
      exact ob_allocR rfl hsz rfl
    · obtain ⟨Fa1_, Fa2_, Fb1_, Fb2_, Pa_, Pb_, R0_, HB_⟩ := hG
      have d1 := dep_of hdep 1 (by kernel_rfl)
      have e10 := new_slot hf 1 10 d1 (by kernel_rfl)
      have p10 : Pair w1 (V 1) (.V ((Rat.divInt pa qa)).num) (.V (((Rat.divInt pa qa)).den : Int)) := hφ 1 d1
      have d4 := dep_of hdep 4 (by kernel_rfl)
      obtain ⟨g, h1, h2, h3, _⟩ := hφ 4 d4
      have hz := h3 (show (true && L 6) = false from by have h : L 6 = false := hL; rw [h]; rfl)
      exact ob_fillR rfl ((new_slot hf 4 5 d4 (by kernel_rfl)).trans h1) e10 h1 h2 hz p10 rfl rfl
    · obtain ⟨Fa1_, Fa2_, Fb1_, Fb2_, Pa_, Pb_, R0_, HB_⟩ := hG
      have d3 := dep_of hdep 3 (by kernel_rfl)
      have e12 := new_slot hf 3 12 d3 (by kernel_rfl)
      have p12 : Pair w1 (V 3) (.V ((Rat.divInt pb qb)).num) (.V (((Rat.divInt pb qb)).den : Int)) := hφ 3 d3
      have d5 := dep_of hdep 5 (by kernel_rfl)
      obtain ⟨g, h1, h2, h3, _⟩ := hφ 5 d5
      have hz := h3 (show (true && L 7) = false from by have h : L 7 = false := hL; rw [h]; rfl)
      exact ob_fillR rfl ((new_slot hf 5 6 d5 (by kernel_rfl)).trans h1) e12 h1 h2 hz p12 rfl rfl
  · intro V W3 hG hsz3 hφ hψ hne
    have hlt3 : W.heap.size ≤ W3.heap.size := hsz3
    obtain ⟨Fa1_, Fa2_, Fb1_, Fb2_, Pa_, Pb_, R0_, HB_⟩ := hG
    have Fa1 := hid Fa1_
    have Fa2 := hid Fa2_
    have Fb1 := hid Fb1_
    have Fb2 := hid Fb2_
    have Pa := hid Pa_
    have Pb := hid Pb_
    have R0 := hid R0_
    have HB := hid HB_
    have y0 : V 0 = .agg #[.bool sa1, .slice Aa1 na1 ca1, .bool sa2, .slice Aa2 na2 ca2] := hφ 0 (by decide)
    have y2 : V 2 = .agg #[.bool sb1, .slice Ab1 nb1 cb1, .bool sb2, .slice Ab2 nb2 cb2] := hφ 2 (by decide)
    obtain ⟨G3_4, y4, gb304, _, hb304⟩ := hφ 4 (by decide)
    obtain ⟨q3041, A3041, n3041, c3041, q3042, A3042, n3042, c3042, kb304, va304, vb304⟩ := hb304 rfl
    have Xt5_ := hid kb304
    have t5_1 : Hid (IntV W3 (.agg #[.bool q3041, .slice A3041 n3041 c3041]) ((Rat.divInt pa qa)).num) := hid va304
    have t5_2 : Hid (IntV W3 (.agg #[.bool q3042, .slice A3042 n3042 c3042]) (((Rat.divInt pa qa)).den : Int)) := hid vb304
    clear kb304 va304 vb304
    clear hb304
    obtain ⟨G3_5, y5, gb305, _, hb305⟩ := hφ 5 (by decide)
    obtain ⟨q3051, A3051, n3051, c3051, q3052, A3052, n3052, c3052, kb305, va305, vb305⟩ := hb305 rfl
    have Xt6_ := hid kb305
    have t6_1 : Hid (IntV W3 (.agg #[.bool q3051, .slice A3051 n3051 c3051]) ((Rat.divInt pb qb)).num) := hid va305
    have t6_2 : Hid (IntV W3 (.agg #[.bool q3052, .slice A3052 n3052 c3052]) (((Rat.divInt pb qb)).den : Int)) := hid vb305
    clear kb305 va305 vb305
    clear hb305
    have ne3_4_5 : G3_4 ≠ G3_5 := fun e => hne 4 5 (by decide) rfl rfl (by rw [y4, y5, e])
    simp only [puts, Act.put, List.setIfInBounds_toArray, List.set_cons_zero, List.set_cons_succ, y0, y2, y4, y5, ptr]
    clear hφ hψ hne y0 y2 y4 y5 Fa1_ Fa2_ Fb1_ Fb2_ Pa_ Pb_ R0_ HB_ hsz3
    go_wp2_with fail
    have SM4 : Hid (Sm (n + n) (((Rat.divInt pa qa)).num * (((Rat.divInt pb qb)).den : Int))) := hid (((RS1.out).1).times ((RS2.out).2) (by omega))
    have SM5 : Hid (Sm (n + n) (((Rat.divInt pb qb)).num * (((Rat.divInt pa qa)).den : Int))) := hid (((RS2.out).1).times ((RS1.out).2) (by omega))
    have SM6 : Hid (Sm ((n + n) + 1) ((((Rat.divInt pa qa)).num * (((Rat.divInt pb qb)).den : Int)) + (((Rat.divInt pb qb)).num * (((Rat.divInt pa qa)).den : Int)))) := hid ((SM4.out).plus (SM5.out) (by omega) (by omega))
    have SM7 : Hid (Sm (n + n) ((((Rat.divInt pa qa)).den : Int) * (((Rat.divInt pb qb)).den : Int))) := hid (((RS1.out).2).times ((RS2.out).2) (by omega))
    have RS8 : Hid (RS ((n + n) + 1) ((Rat.divInt pa qa) + (Rat.divInt pb qb))) := hid (by have h := RS.of (Sm.to (n := ((n + n) + 1)) (SM6.out) (by omega)) (Sm.to (n := ((n + n) + 1)) (SM7.out) (by omega)) (by omega); rw [show Rat.divInt ((((Rat.divInt pa qa)).num * (((Rat.divInt pb qb)).den : Int)) + (((Rat.divInt pb qb)).num * (((Rat.divInt pa qa)).den : Int))) ((((Rat.divInt pa qa)).den : Int) * (((Rat.divInt pb qb)).den : Int)) = ((Rat.divInt pa qa) + (Rat.divInt pb qb)) from add_nd _ _] at h; exact h)
    have lt8_Pa := Pa.out.lt
    have lt8_Pb := Pb.out.lt
    have lt8_R0 := R0.out.lt
    have lt8_Xt5_ := Xt5_.out.lt
    have lt8_Xt6_ := Xt6_.out.lt
    refine wp_region_each (by kernel_rfl) 23 34 rfl rfl (by kernel_rfl)
      [Fact.eq (.pointer (some ⟨G3_4, 0, none⟩)), Fact.eq (.agg #[.bool q3041, .slice A3041 n3041 c3041]), Fact.eq (.pointer (some ⟨G3_5, 2, none⟩)), Fact.eq (.agg #[.bool q3052, .slice A3052 n3052 c3052]), Fact.int (((Rat.divInt pa qa)).num * (((Rat.divInt pb qb)).den : Int)), Fact.eq (.pointer (some ⟨G3_5, 0, none⟩)), Fact.eq (.agg #[.bool q3051, .slice A3051 n3051 c3051]), Fact.eq (.pointer (some ⟨G3_4, 2, none⟩)), Fact.eq (.agg #[.bool q3042, .slice A3042 n3042 c3042]), Fact.int (((Rat.divInt pb qb)).num * (((Rat.divInt pa qa)).den : Int)), Fact.int ((((Rat.divInt pa qa)).num * (((Rat.divInt pb qb)).den : Int)) + (((Rat.divInt pb qb)).num * (((Rat.divInt pa qa)).den : Int))), Fact.eq (.pointer (some ⟨G3_4, 2, none⟩)), Fact.eq (.agg #[.bool q3042, .slice A3042 n3042 c3042]), Fact.eq (.pointer (some ⟨G3_5, 2, none⟩)), Fact.eq (.agg #[.bool q3052, .slice A3052 n3052 c3052]), Fact.int ((((Rat.divInt pa qa)).den : Int) * (((Rat.divInt pb qb)).den : Int)), Fact.pairB (.V (((Rat.divInt pa qa) + (Rat.divInt pb qb))).num) (.V ((((Rat.divInt pa qa) + (Rat.divInt pb qb))).den : Int)) true, Fact.pairB (.V (((Rat.divInt pa qa) + (Rat.divInt pb qb))).num) (.V ((((Rat.divInt pa qa) + (Rat.divInt pb qb))).den : Int)) true, Fact.pair (.V (((Rat.divInt pa qa) + (Rat.divInt pb qb))).num) (.V ((((Rat.divInt pa qa) + (Rat.divInt pb qb))).den : Int)), Fact.eq (.bool true), Fact.boxR 26 Rne (.V (((Rat.divInt pa qa) + (Rat.divInt pb qb))).num) (.V ((((Rat.divInt pa qa) + (Rat.divInt pb qb))).den : Int)), Fact.top _, Fact.eq (.bool true)]
      [.val, .val, .val, .val, .val, .val, .val, .val, .val, .val, .val, .val, .val, .val, .val, .val, .val, .val, .val, .val, .alloc 21, .fill 20, .val]
      (fun w' => IntA w' (.agg #[.bool sa1, .slice Aa1 na1 ca1]) (pa) n ∧ IntA w' (.agg #[.bool sa2, .slice Aa2 na2 ca2]) (qa) n ∧ IntA w' (.agg #[.bool sb1, .slice Ab1 nb1 cb1]) (pb) n ∧ IntA w' (.agg #[.bool sb2, .slice Ab2 nb2 cb2]) (qb) n ∧ Blk w' (w.heap.size) 26 #[.bool sa1, .slice Aa1 na1 ca1, .bool sa2, .slice Aa2 na2 ca2] ∧ Blk w' (w.heap.size + 1) 26 #[.bool sb1, .slice Ab1 nb1 cb1, .bool sb2, .slice Ab2 nb2 cb2] ∧ Blk w' (w.heap.size + 1 + 1) 26 #[.bool false, .slice none 0 0, .bool false, .slice none 0 0] ∧ IntV w' (.agg #[.bool q3041, .slice A3041 n3041 c3041]) (((Rat.divInt pa qa)).num) ∧ IntV w' (.agg #[.bool q3042, .slice A3042 n3042 c3042]) ((((Rat.divInt pa qa)).den : Int)) ∧ Blk w' (G3_4) 26 #[.bool q3041, .slice A3041 n3041 c3041, .bool q3042, .slice A3042 n3042 c3042] ∧ IntV w' (.agg #[.bool q3051, .slice A3051 n3051 c3051]) (((Rat.divInt pb qb)).num) ∧ IntV w' (.agg #[.bool q3052, .slice A3052 n3052 c3052]) ((((Rat.divInt pb qb)).den : Int)) ∧ Blk w' (G3_5) 26 #[.bool q3051, .slice A3051 n3051 c3051, .bool q3052, .slice A3052 n3052 c3052] ∧ Below w.heap.size w w')
      (fun _ _ _ => True) [] (fun _ => 0) (by kernel_rfl)
      ⟨Fa1.out, Fa2.out, Fb1.out, Fb2.out, Pa.out, Pb.out, R0.out, t5_1.out, t5_2.out, Xt5_.out, t6_1.out, t6_2.out, Xt6_.out, HB.out⟩
      (fun w1 w2 ⟨h0, h1, h2, h3, h4, h5, h6, h7, h8, h9, h10, h11, h12, h13⟩ hb => ⟨h0.below hb, h1.below hb, h2.below hb, h3.below hb, h4.below hb, h5.below hb, h6.below hb, h7.below hb, h8.below hb, h9.below hb, h10.below hb, h11.below hb, h12.below hb, bw_step h13 hb⟩)
      (fun w1 w2 g ⟨h0, h1, h2, h3, h4, h5, h6, h7, h8, h9, h10, h11, h12, h13⟩ hg hn ho => by
        have hg' : W3.heap.size ≤ g := hg.elim id (fun ⟨_, h, _⟩ => absurd h (Nat.not_lt_zero _))
        exact ⟨h0.only hn ho, h1.only hn ho, h2.only hn ho, h3.only hn ho, h4.only ho (by have := Pa.out.lt; have := Pb.out.lt; have := R0.out.lt; have := Xt5_.out.lt; have := Xt6_.out.lt; omega), h5.only ho (by have := Pa.out.lt; have := Pb.out.lt; have := R0.out.lt; have := Xt5_.out.lt; have := Xt6_.out.lt; omega), h6.only ho (by have := Pa.out.lt; have := Pb.out.lt; have := R0.out.lt; have := Xt5_.out.lt; have := Xt6_.out.lt; omega), h7.only hn ho, h8.only hn ho, h9.only ho (by have := Pa.out.lt; have := Pb.out.lt; have := R0.out.lt; have := Xt5_.out.lt; have := Xt6_.out.lt; omega), h10.only hn ho, h11.only hn ho, h12.only ho (by have := Pa.out.lt; have := Pb.out.lt; have := R0.out.lt; have := Xt5_.out.lt; have := Xt6_.out.lt; omega), below_only h13 ho (by have := Pa.out.lt; have := Pb.out.lt; have := R0.out.lt; have := Xt5_.out.lt; have := Xt6_.out.lt; have := HB.out.size; omega)⟩)
      (fun l h => trivial) (fun l b w1 w2 h _ _ => trivial) (fun l b w1 w2 g h _ _ _ _ => trivial) (fun l h => by cases h) (fun l k h => by cases h) ?_ ?_
    · refine ⟨?_, ?_, ?_, ?_, ?_, ?_, ?_, ?_, ?_, ?_, ?_, ?_, ?_, ?_, ?_, ?_, ?_, ?_, ?_, ?_, ?_, ?_, ?_, trivial⟩ <;> intro L V a1 w1 hf hG hsz hφ hψ hL hdep hcl
      · obtain ⟨Fa1_, Fa2_, Fb1_, Fb2_, Pa_, Pb_, R0_, t5_1_, t5_2_, Xt5__, t6_1_, t6_2_, Xt6__, HB_⟩ := hG
        have e5 := old_slot hf 5 (by kernel_rfl)
        exact ob_pure (ex_fieldAddrR0 rfl e5) rfl
      · obtain ⟨Fa1_, Fa2_, Fb1_, Fb2_, Pa_, Pb_, R0_, t5_1_, t5_2_, Xt5__, t6_1_, t6_2_, Xt6__, HB_⟩ := hG
        have d0 := dep_of hdep 0 (by kernel_rfl)
        have e14 := (new_slot hf 0 14 d0 (by kernel_rfl)).trans (show V 0 = .pointer (some ⟨G3_4, 0, none⟩) from hφ 0 d0)
        exact ob_pure (ex_load_at0 rfl e14 Xt5__) rfl
      · obtain ⟨Fa1_, Fa2_, Fb1_, Fb2_, Pa_, Pb_, R0_, t5_1_, t5_2_, Xt5__, t6_1_, t6_2_, Xt6__, HB_⟩ := hG
        have e6 := old_slot hf 6 (by kernel_rfl)
        exact ob_pure (ex_fieldAddrR1 rfl e6) rfl
      · obtain ⟨Fa1_, Fa2_, Fb1_, Fb2_, Pa_, Pb_, R0_, t5_1_, t5_2_, Xt5__, t6_1_, t6_2_, Xt6__, HB_⟩ := hG
        have d2 := dep_of hdep 2 (by kernel_rfl)
        have e16 := (new_slot hf 2 16 d2 (by kernel_rfl)).trans (show V 2 = .pointer (some ⟨G3_5, 2, none⟩) from hφ 2 d2)
        exact ob_pure (ex_load_at2 rfl e16 Xt6__) rfl
      · obtain ⟨Fa1_, Fa2_, Fb1_, Fb2_, Pa_, Pb_, R0_, t5_1_, t5_2_, Xt5__, t6_1_, t6_2_, Xt6__, HB_⟩ := hG
        have d1 := dep_of hdep 1 (by kernel_rfl)
        have e15 := (new_slot hf 1 15 d1 (by kernel_rfl)).trans (show V 1 = .agg #[.bool q3041, .slice A3041 n3041 c3041] from hφ 1 d1)
        have d3 := dep_of hdep 3 (by kernel_rfl)
        have e17 := (new_slot hf 3 17 d3 (by kernel_rfl)).trans (show V 3 = .agg #[.bool q3052, .slice A3052 n3052 c3052] from hφ 3 d3)
        refine ob_go rfl (vs := #[.agg #[.bool q3041, .slice A3041 n3041 c3041], .agg #[.bool q3052, .slice A3052 n3052 c3052]]) (by simp only [List.map_toArray, List.map_cons, List.map_nil, e15, e17]) (by kernel_rfl) (rmul_any _ (.agg #[.bool q3041, .slice A3041 n3041 c3041]) (.agg #[.bool q3052, .slice A3052 n3052 c3052]) ((Rat.divInt pa qa)).num (((Rat.divInt pb qb)).den : Int) n n (t5_1_.arg ((RS1.out).1)) (t6_2_.arg ((RS2.out).2)) (by omega) (by omega)) ?_
        rintro e w2 ⟨⟨v, rfl, hv⟩, hb⟩
        exact ⟨v, rfl, hb, hv⟩
      · obtain ⟨Fa1_, Fa2_, Fb1_, Fb2_, Pa_, Pb_, R0_, t5_1_, t5_2_, Xt5__, t6_1_, t6_2_, Xt6__, HB_⟩ := hG
        have e6 := old_slot hf 6 (by kernel_rfl)
        exact ob_pure (ex_fieldAddrR0 rfl e6) rfl
      · obtain ⟨Fa1_, Fa2_, Fb1_, Fb2_, Pa_, Pb_, R0_, t5_1_, t5_2_, Xt5__, t6_1_, t6_2_, Xt6__, HB_⟩ := hG
        have d5 := dep_of hdep 5 (by kernel_rfl)
        have e19 := (new_slot hf 5 19 d5 (by kernel_rfl)).trans (show V 5 = .pointer (some ⟨G3_5, 0, none⟩) from hφ 5 d5)
        exact ob_pure (ex_load_at0 rfl e19 Xt6__) rfl
      · obtain ⟨Fa1_, Fa2_, Fb1_, Fb2_, Pa_, Pb_, R0_, t5_1_, t5_2_, Xt5__, t6_1_, t6_2_, Xt6__, HB_⟩ := hG
        have e5 := old_slot hf 5 (by kernel_rfl)
        exact ob_pure (ex_fieldAddrR1 rfl e5) rfl
      · obtain ⟨Fa1_, Fa2_, Fb1_, Fb2_, Pa_, Pb_, R0_, t5_1_, t5_2_, Xt5__, t6_1_, t6_2_, Xt6__, HB_⟩ := hG
        have d7 := dep_of hdep 7 (by kernel_rfl)
        have e21 := (new_slot hf 7 21 d7 (by kernel_rfl)).trans (show V 7 = .pointer (some ⟨G3_4, 2, none⟩) from hφ 7 d7)
        exact ob_pure (ex_load_at2 rfl e21 Xt5__) rfl
      · obtain ⟨Fa1_, Fa2_, Fb1_, Fb2_, Pa_, Pb_, R0_, t5_1_, t5_2_, Xt5__, t6_1_, t6_2_, Xt6__, HB_⟩ := hG
        have d6 := dep_of hdep 6 (by kernel_rfl)
        have e20 := (new_slot hf 6 20 d6 (by kernel_rfl)).trans (show V 6 = .agg #[.bool q3051, .slice A3051 n3051 c3051] from hφ 6 d6)
        have d8 := dep_of hdep 8 (by kernel_rfl)
        have e22 := (new_slot hf 8 22 d8 (by kernel_rfl)).trans (show V 8 = .agg #[.bool q3042, .slice A3042 n3042 c3042] from hφ 8 d8)
        refine ob_go rfl (vs := #[.agg #[.bool q3051, .slice A3051 n3051 c3051], .agg #[.bool q3042, .slice A3042 n3042 c3042]]) (by simp only [List.map_toArray, List.map_cons, List.map_nil, e20, e22]) (by kernel_rfl) (rmul_any _ (.agg #[.bool q3051, .slice A3051 n3051 c3051]) (.agg #[.bool q3042, .slice A3042 n3042 c3042]) ((Rat.divInt pb qb)).num (((Rat.divInt pa qa)).den : Int) n n (t6_1_.arg ((RS2.out).1)) (t5_2_.arg ((RS1.out).2)) (by omega) (by omega)) ?_
        rintro e w2 ⟨⟨v, rfl, hv⟩, hb⟩
        exact ⟨v, rfl, hb, hv⟩
      · obtain ⟨Fa1_, Fa2_, Fb1_, Fb2_, Pa_, Pb_, R0_, t5_1_, t5_2_, Xt5__, t6_1_, t6_2_, Xt6__, HB_⟩ := hG
        have d4 := dep_of hdep 4 (by kernel_rfl)
        have e18 := new_slot hf 4 18 d4 (by kernel_rfl)
        have p18 : IntV w1 (V 4) (((Rat.divInt pa qa)).num * (((Rat.divInt pb qb)).den : Int)) := hφ 4 d4
        have d9 := dep_of hdep 9 (by kernel_rfl)
        have e23 := new_slot hf 9 23 d9 (by kernel_rfl)
        have p23 : IntV w1 (V 9) (((Rat.divInt pb qb)).num * (((Rat.divInt pa qa)).den : Int)) := hφ 9 d9
        refine ob_go rfl (vs := #[V 4, V 9]) (by simp only [List.map_toArray, List.map_cons, List.map_nil, e18, e23]) (by kernel_rfl) (radd_any _ (V 4) (V 9) (((Rat.divInt pa qa)).num * (((Rat.divInt pb qb)).den : Int)) (((Rat.divInt pb qb)).num * (((Rat.divInt pa qa)).den : Int)) (n + n) (n + n) (p18.arg (SM4.out)) (p23.arg (SM5.out)) (by omega) (by omega)) ?_
        rintro e w2 ⟨⟨v, rfl, hv⟩, hb⟩
        exact ⟨v, rfl, hb, hv⟩
      · obtain ⟨Fa1_, Fa2_, Fb1_, Fb2_, Pa_, Pb_, R0_, t5_1_, t5_2_, Xt5__, t6_1_, t6_2_, Xt6__, HB_⟩ := hG
        have e5 := old_slot hf 5 (by kernel_rfl)
        exact ob_pure (ex_fieldAddrR1 rfl e5) rfl
      · obtain ⟨Fa1_, Fa2_, Fb1_, Fb2_, Pa_, Pb_, R0_, t5_1_, t5_2_, Xt5__, t6_1_, t6_2_, Xt6__, HB_⟩ := hG
        have d11 := dep_of hdep 11 (by kernel_rfl)
        have e25 := (new_slot hf 11 25 d11 (by kernel_rfl)).trans (show V 11 = .pointer (some ⟨G3_4, 2, none⟩) from hφ 11 d11)
        exact ob_pure (ex_load_at2 rfl e25 Xt5__) rfl
      · obtain ⟨Fa1_, Fa2_, Fb1_, Fb2_, Pa_, Pb_, R0_, t5_1_, t5_2_, Xt5__, t6_1_, t6_2_, Xt6__, HB_⟩ := hG
        have e6 := old_slot hf 6 (by kernel_rfl)
        exact ob_pure (ex_fieldAddrR1 rfl e6) rfl
      · obtain ⟨Fa1_, Fa2_, Fb1_, Fb2_, Pa_, Pb_, R0_, t5_1_, t5_2_, Xt5__, t6_1_, t6_2_, Xt6__, HB_⟩ := hG
        have d13 := dep_of hdep 13 (by kernel_rfl)
        have e27 := (new_slot hf 13 27 d13 (by kernel_rfl)).trans (show V 13 = .pointer (some ⟨G3_5, 2, none⟩) from hφ 13 d13)
        exact ob_pure (ex_load_at2 rfl e27 Xt6__) rfl
      · obtain ⟨Fa1_, Fa2_, Fb1_, Fb2_, Pa_, Pb_, R0_, t5_1_, t5_2_, Xt5__, t6_1_, t6_2_, Xt6__, HB_⟩ := hG
        have d12 := dep_of hdep 12 (by kernel_rfl)
        have e26 := (new_slot hf 12 26 d12 (by kernel_rfl)).trans (show V 12 = .agg #[.bool q3042, .slice A3042 n3042 c3042] from hφ 12 d12)
        have d14 := dep_of hdep 14 (by kernel_rfl)
        have e28 := (new_slot hf 14 28 d14 (by kernel_rfl)).trans (show V 14 = .agg #[.bool q3052, .slice A3052 n3052 c3052] from hφ 14 d14)
        refine ob_go rfl (vs := #[.agg #[.bool q3042, .slice A3042 n3042 c3042], .agg #[.bool q3052, .slice A3052 n3052 c3052]]) (by simp only [List.map_toArray, List.map_cons, List.map_nil, e26, e28]) (by kernel_rfl) (rmul_any _ (.agg #[.bool q3042, .slice A3042 n3042 c3042]) (.agg #[.bool q3052, .slice A3052 n3052 c3052]) (((Rat.divInt pa qa)).den : Int) (((Rat.divInt pb qb)).den : Int) n n (t5_2_.arg ((RS1.out).2)) (t6_2_.arg ((RS2.out).2)) (by omega) (by omega)) ?_
        rintro e w2 ⟨⟨v, rfl, hv⟩, hb⟩
        exact ⟨v, rfl, hb, hv⟩
      · obtain ⟨Fa1_, Fa2_, Fb1_, Fb2_, Pa_, Pb_, R0_, t5_1_, t5_2_, Xt5__, t6_1_, t6_2_, Xt6__, HB_⟩ := hG
        have d10 := dep_of hdep 10 (by kernel_rfl)
        have e24 := new_slot hf 10 24 d10 (by kernel_rfl)
        have p24 : IntV w1 (V 10) ((((Rat.divInt pa qa)).num * (((Rat.divInt pb qb)).den : Int)) + (((Rat.divInt pb qb)).num * (((Rat.divInt pa qa)).den : Int))) := hφ 10 d10
        have d15 := dep_of hdep 15 (by kernel_rfl)
        have e29 := new_slot hf 15 29 d15 (by kernel_rfl)
        have p29 : IntV w1 (V 15) ((((Rat.divInt pa qa)).den : Int) * (((Rat.divInt pb qb)).den : Int)) := hφ 15 d15
        refine ob_go rfl (vs := #[V 10, V 15]) (by simp only [List.map_toArray, List.map_cons, List.map_nil, e24, e29]) (by kernel_rfl) (rnewR_any _ _ _ ((((Rat.divInt pa qa)).num * (((Rat.divInt pb qb)).den : Int)) + (((Rat.divInt pb qb)).num * (((Rat.divInt pa qa)).den : Int))) ((((Rat.divInt pa qa)).den : Int) * (((Rat.divInt pb qb)).den : Int)) ((Rat.divInt pa qa) + (Rat.divInt pb qb)) ((n + n) + 1) (IntV.arg p24 (Sm.to (SM6.out) (by omega))) (IntV.arg p29 (Sm.to (SM7.out) (by omega))) (by omega) (by omega) (by have := Int.mul_pos (den_pos (Rat.divInt pa qa)) (den_pos (Rat.divInt pb qb)); omega) (add_nd _ _)) ?_
        rintro e w2 ⟨⟨v, rfl, hv⟩, hb⟩
        exact ⟨v, rfl, hb, hv⟩
      · obtain ⟨Fa1_, Fa2_, Fb1_, Fb2_, Pa_, Pb_, R0_, t5_1_, t5_2_, Xt5__, t6_1_, t6_2_, Xt6__, HB_⟩ := hG
        have d16 := dep_of hdep 16 (by kernel_rfl)
        have e30 := new_slot hf 16 30 d16 (by kernel_rfl)
        have p30 : PairB w1 (V 16) (.V (((Rat.divInt pa qa) + (Rat.divInt pb qb))).num) (.V ((((Rat.divInt pa qa) + (Rat.divInt pb qb))).den : Int)) true := hφ 16 d16
        exact ob_pure (ex_moveV rfl e30) (by exact p30)
      · obtain ⟨Fa1_, Fa2_, Fb1_, Fb2_, Pa_, Pb_, R0_, t5_1_, t5_2_, Xt5__, t6_1_, t6_2_, Xt6__, HB_⟩ := hG
        have d17 := dep_of hdep 17 (by kernel_rfl)
        have e13 := new_slot hf 17 13 d17 (by kernel_rfl)
        have p13 : PairB w1 (V 17) (.V (((Rat.divInt pa qa) + (Rat.divInt pb qb))).num) (.V ((((Rat.divInt pa qa) + (Rat.divInt pb qb))).den : Int)) true := hφ 17 d17
        exact ob_pairB0 rfl e13 p13 rfl
      · obtain ⟨Fa1_, Fa2_, Fb1_, Fb2_, Pa_, Pb_, R0_, t5_1_, t5_2_, Xt5__, t6_1_, t6_2_, Xt6__, HB_⟩ := hG
        have d17 := dep_of hdep 17 (by kernel_rfl)
        have e13 := new_slot hf 17 13 d17 (by kernel_rfl)
        have p13 : PairB w1 (V 17) (.V (((Rat.divInt pa qa) + (Rat.divInt pb qb))).num) (.V ((((Rat.divInt pa qa) + (Rat.divInt pb qb))).den : Int)) true := hφ 17 d17
        exact ob_pairB1 rfl e13 p13 rfl
      · obtain ⟨Fa1_, Fa2_, Fb1_, Fb2_, Pa_, Pb_, R0_, t5_1_, t5_2_, Xt5__, t6_1_, t6_2_, Xt6__, HB_⟩ := hG
        exact ob_allocR rfl hsz rfl
      · obtain ⟨Fa1_, Fa2_, Fb1_, Fb2_, Pa_, Pb_, R0_, t5_1_, t5_2_, Xt5__, t6_1_, t6_2_, Xt6__, HB_⟩ := hG
        have d18 := dep_of hdep 18 (by kernel_rfl)
        have e31 := new_slot hf 18 31 d18 (by kernel_rfl)
        have p31 : Pair w1 (V 18) (.V (((Rat.divInt pa qa) + (Rat.divInt pb qb))).num) (.V ((((Rat.divInt pa qa) + (Rat.divInt pb qb))).den : Int)) := hφ 18 d18
        have d20 := dep_of hdep 20 (by kernel_rfl)
        obtain ⟨g, h1, h2, h3, _⟩ := hφ 20 d20
        have hz := h3 (show (true && L 21) = false from by have h : L 21 = false := hL; rw [h]; rfl)
        exact ob_fillR rfl ((new_slot hf 20 7 d20 (by kernel_rfl)).trans h1) e31 h1 h2 hz p31 rfl rfl
      · obtain ⟨Fa1_, Fa2_, Fb1_, Fb2_, Pa_, Pb_, R0_, t5_1_, t5_2_, Xt5__, t6_1_, t6_2_, Xt6__, HB_⟩ := hG
        have d19 := dep_of hdep 19 (by kernel_rfl)
        have e32 := (new_slot hf 19 32 d19 (by kernel_rfl)).trans (show V 19 = .bool true from hφ 19 d19)
        exact ob_pure (v := .bool true) (ex_assignV rfl e32) rfl
    · intro V W9 hG hsz9 hφ hψ hne
      have hlt9 : W3.heap.size ≤ W9.heap.size := hsz9
      obtain ⟨Fa1_, Fa2_, Fb1_, Fb2_, Pa_, Pb_, R0_, t5_1_, t5_2_, Xt5__, t6_1_, t6_2_, Xt6__, HB_⟩ := hG
      have Fa1 := hid Fa1_
      have Fa2 := hid Fa2_
      have Fb1 := hid Fb1_
      have Fb2 := hid Fb2_
      have Pa := hid Pa_
      have Pb := hid Pb_
      have R0 := hid R0_
      have t5_1 := hid t5_1_
      have t5_2 := hid t5_2_
      have Xt5_ := hid Xt5__
      have t6_1 := hid t6_1_
      have t6_2 := hid t6_2_
      have Xt6_ := hid Xt6__
      have HB := hid HB_
      have y0 : V 0 = .pointer (some ⟨G3_4, 0, none⟩) := hφ 0 (by decide)
      have y1 : V 1 = .agg #[.bool q3041, .slice A3041 n3041 c3041] := hφ 1 (by decide)
      have y2 : V 2 = .pointer (some ⟨G3_5, 2, none⟩) := hφ 2 (by decide)
      have y3 : V 3 = .agg #[.bool q3052, .slice A3052 n3052 c3052] := hφ 3 (by decide)
      have y5 : V 5 = .pointer (some ⟨G3_5, 0, none⟩) := hφ 5 (by decide)
      have y6 : V 6 = .agg #[.bool q3051, .slice A3051 n3051 c3051] := hφ 6 (by decide)
      have y7 : V 7 = .pointer (some ⟨G3_4, 2, none⟩) := hφ 7 (by decide)
      have y8 : V 8 = .agg #[.bool q3042, .slice A3042 n3042 c3042] := hφ 8 (by decide)
      have y11 : V 11 = .pointer (some ⟨G3_4, 2, none⟩) := hφ 11 (by decide)
      have y12 : V 12 = .agg #[.bool q3042, .slice A3042 n3042 c3042] := hφ 12 (by decide)
      have y13 : V 13 = .pointer (some ⟨G3_5, 2, none⟩) := hφ 13 (by decide)
      have y14 : V 14 = .agg #[.bool q3052, .slice A3052 n3052 c3052] := hφ 14 (by decide)
      have y19 : V 19 = .bool true := hφ 19 (by decide)
      obtain ⟨G9_20, y20, gb920, _, hb920⟩ := hφ 20 (by decide)
      obtain ⟨q9201, A9201, n9201, c9201, q9202, A9202, n9202, c9202, kb920, va920, vb920⟩ := hb920 rfl
      have Xt7_ := hid kb920
      have t7_1 : Hid (IntV W9 (.agg #[.bool q9201, .slice A9201 n9201 c9201]) (((Rat.divInt pa qa) + (Rat.divInt pb qb))).num) := hid va920
      have t7_2 : Hid (IntV W9 (.agg #[.bool q9202, .slice A9202 n9202 c9202]) ((((Rat.divInt pa qa) + (Rat.divInt pb qb))).den : Int)) := hid vb920
      clear kb920 va920 vb920
      clear hb920
      have y22 : V 22 = .bool true := hφ 22 (by decide)
      simp only [puts, Act.put, List.setIfInBounds_toArray, List.set_cons_zero, List.set_cons_succ, y0, y1, y2, y3, y5, y6, y7, y8, y11, y12, y13, y14, y19, y20, y22, ptr]
      clear hφ hψ hne y0 y1 y2 y3 y5 y6 y7 y8 y11 y12 y13 y14 y19 y20 y22 Fa1_ Fa2_ Fb1_ Fb2_ Pa_ Pb_ R0_ t5_1_ t5_2_ Xt5__ t6_1_ t6_2_ Xt6__ HB_ hsz9
      go_wp2_with (with_reducible refine halt_at 33 rfl ?_)
      unfold Halted
      refine wp_list_each (by kernel_rfl) 2 34 rfl rfl (by kernel_rfl)
        [Fact.eq (.agg #[.bool q9201, .slice A9201 n9201 c9201, .bool q9202, .slice A9202 n9202 c9202]), Fact.top _]
        [.val, .fillOld 0]
        (fun w' => IntA w' (.agg #[.bool sa1, .slice Aa1 na1 ca1]) (pa) n ∧ IntA w' (.agg #[.bool sa2, .slice Aa2 na2 ca2]) (qa) n ∧ IntA w' (.agg #[.bool sb1, .slice Ab1 nb1 cb1]) (pb) n ∧ IntA w' (.agg #[.bool sb2, .slice Ab2 nb2 cb2]) (qb) n ∧ Blk w' (w.heap.size) 26 #[.bool sa1, .slice Aa1 na1 ca1, .bool sa2, .slice Aa2 na2 ca2] ∧ Blk w' (w.heap.size + 1) 26 #[.bool sb1, .slice Ab1 nb1 cb1, .bool sb2, .slice Ab2 nb2 cb2] ∧ IntV w' (.agg #[.bool q3041, .slice A3041 n3041 c3041]) (((Rat.divInt pa qa)).num) ∧ IntV w' (.agg #[.bool q3042, .slice A3042 n3042 c3042]) ((((Rat.divInt pa qa)).den : Int)) ∧ Blk w' (G3_4) 26 #[.bool q3041, .slice A3041 n3041 c3041, .bool q3042, .slice A3042 n3042 c3042] ∧ IntV w' (.agg #[.bool q3051, .slice A3051 n3051 c3051]) (((Rat.divInt pb qb)).num) ∧ IntV w' (.agg #[.bool q3052, .slice A3052 n3052 c3052]) ((((Rat.divInt pb qb)).den : Int)) ∧ Blk w' (G3_5) 26 #[.bool q3051, .slice A3051 n3051 c3051, .bool q3052, .slice A3052 n3052 c3052] ∧ IntV w' (.agg #[.bool q9201, .slice A9201 n9201 c9201]) ((((Rat.divInt pa qa) + (Rat.divInt pb qb))).num) ∧ IntV w' (.agg #[.bool q9202, .slice A9202 n9202 c9202]) (((((Rat.divInt pa qa) + (Rat.divInt pb qb))).den : Int)) ∧ Blk w' (G9_20) 26 #[.bool q9201, .slice A9201 n9201 c9201, .bool q9202, .slice A9202 n9202 c9202] ∧ Below w.heap.size w w')
        (fun l b w' => match l with
          | 0 => if b = true then BoxR w' (w.heap.size + 1 + 1) 26 (.V (((Rat.divInt pa qa) + (Rat.divInt pb qb))).num) (.V ((((Rat.divInt pa qa) + (Rat.divInt pb qb))).den : Int)) else Blk w' (w.heap.size + 1 + 1) 26 #[.bool false, .slice none 0 0, .bool false, .slice none 0 0]
          | _ => True)
        [1] (fun l => match l with | 0 => w.heap.size + 1 + 1 | _ => 0) (by kernel_rfl)
        ⟨Fa1.out, Fa2.out, Fb1.out, Fb2.out, Pa.out, Pb.out, t5_1.out, t5_2.out, Xt5_.out, t6_1.out, t6_2.out, Xt6_.out, t7_1.out, t7_2.out, Xt7_.out, HB.out⟩
        (fun w1 w2 ⟨h0, h1, h2, h3, h4, h5, h6, h7, h8, h9, h10, h11, h12, h13, h14, h15⟩ hb => ⟨h0.below hb, h1.below hb, h2.below hb, h3.below hb, h4.below hb, h5.below hb, h6.below hb, h7.below hb, h8.below hb, h9.below hb, h10.below hb, h11.below hb, h12.below hb, h13.below hb, h14.below hb, bw_step h15 hb⟩)
        (fun w1 w2 g ⟨h0, h1, h2, h3, h4, h5, h6, h7, h8, h9, h10, h11, h12, h13, h14, h15⟩ hg hn ho => by
          have hg' : W9.heap.size ≤ g ∨ g = w.heap.size + 1 + 1 := by
            rcases hg with h | ⟨l, hl, h⟩
            · exact .inl h
            · rcases l with _ | l
              · exact .inr h
              · exact absurd hl (by simp)
          exact ⟨h0.only hn ho, h1.only hn ho, h2.only hn ho, h3.only hn ho, h4.only ho (by have := Pa.out.lt; have := Pb.out.lt; have := R0.out.lt; have := Xt5_.out.lt; have := Xt6_.out.lt; have := Xt7_.out.lt; omega), h5.only ho (by have := Pa.out.lt; have := Pb.out.lt; have := R0.out.lt; have := Xt5_.out.lt; have := Xt6_.out.lt; have := Xt7_.out.lt; omega), h6.only hn ho, h7.only hn ho, h8.only ho (by have := Pa.out.lt; have := Pb.out.lt; have := R0.out.lt; have := Xt5_.out.lt; have := Xt6_.out.lt; have := Xt7_.out.lt; omega), h9.only hn ho, h10.only hn ho, h11.only ho (by have := Pa.out.lt; have := Pb.out.lt; have := R0.out.lt; have := Xt5_.out.lt; have := Xt6_.out.lt; have := Xt7_.out.lt; omega), h12.only hn ho, h13.only hn ho, h14.only ho (by have := Pa.out.lt; have := Pb.out.lt; have := R0.out.lt; have := Xt5_.out.lt; have := Xt6_.out.lt; have := Xt7_.out.lt; omega), below_only h15 ho (by have := Pa.out.lt; have := Pb.out.lt; have := R0.out.lt; have := Xt5_.out.lt; have := Xt6_.out.lt; have := Xt7_.out.lt; have := HB.out.size; omega)⟩)
        (fun l hl => by
            rcases l with _ | l
            · exact R0.out
            · exact absurd hl (by simp))
        (fun l b w1 w2 hl h hb => by
            rcases l with _ | l
            · (cases b <;> exact h.below hb)
            · exact absurd hl (by simp))
        (fun l b w1 w2 g hl h hg hn ho => by
            rcases l with _ | l
            · (cases b; (exact h.only ho (Ne.symm hg)); (exact h.only (Ne.symm hg) hn ho))
            · exact absurd hl (by simp))
        (fun l hl => by
            rcases l with _ | l
            · exact R0.out.lt
            · exact absurd hl (by simp))
        (fun l k hl hk hne => by rcases l with _ | l <;> rcases k with _ | k <;> simp at hl hk hne)
        ?_ ?_
      · refine ⟨?_, ?_, trivial⟩ <;> intro L V a1 w1 hf hG hsz hφ hψ hL hdep hcl
        · obtain ⟨Fa1_, Fa2_, Fb1_, Fb2_, Pa_, Pb_, t5_1_, t5_2_, Xt5__, t6_1_, t6_2_, Xt6__, t7_1_, t7_2_, Xt7__, HB_⟩ := hG
          have e7 := old_slot hf 7 (by kernel_rfl)
          exact ob_pure (ex_loadR rfl e7 Xt7__) rfl
        · obtain ⟨Fa1_, Fa2_, Fb1_, Fb2_, Pa_, Pb_, t5_1_, t5_2_, Xt5__, t6_1_, t6_2_, Xt6__, t7_1_, t7_2_, Xt7__, HB_⟩ := hG
          have d0 := dep_of hdep 0 (by kernel_rfl)
          have e33 := (new_slot hf 0 33 d0 (by kernel_rfl)).trans (show V 0 = .agg #[.bool q9201, .slice A9201 n9201 c9201, .bool q9202, .slice A9202 n9202 c9202] from hφ 0 d0)
          have e4 := old_slot hf 4 (by kernel_rfl)
          have hb0 := hψ 0 (by decide)
          rw [show [1].getD 0 0 = 1 from rfl, hL] at hb0
          exact ob_fillOldR rfl e4 e33 hb0 (Pair.mk (a := .V (((Rat.divInt pa qa) + (Rat.divInt pb qb))).num) (b := .V ((((Rat.divInt pa qa) + (Rat.divInt pb qb))).den : Int)) t7_1_ t7_2_) (fun w2 h => h) rfl
      · intro V W10 hG hsz10 hφ hψ hne
        have hlt10 : W9.heap.size ≤ W10.heap.size := hsz10
        obtain ⟨Fa1_, Fa2_, Fb1_, Fb2_, Pa_, Pb_, t5_1_, t5_2_, Xt5__, t6_1_, t6_2_, Xt6__, t7_1_, t7_2_, Xt7__, HB_⟩ := hG
        have Fa1 := hid Fa1_
        have Fa2 := hid Fa2_
        have Fb1 := hid Fb1_
        have Fb2 := hid Fb2_
        have Pa := hid Pa_
        have Pb := hid Pb_
        have t5_1 := hid t5_1_
        have t5_2 := hid t5_2_
        have Xt5_ := hid Xt5__
        have t6_1 := hid t6_1_
        have t6_2 := hid t6_2_
        have Xt6_ := hid Xt6__
        have t7_1 := hid t7_1_
        have t7_2 := hid t7_2_
        have Xt7_ := hid Xt7__
        have HB := hid HB_
        have y0 : V 0 = .agg #[.bool q9201, .slice A9201 n9201 c9201, .bool q9202, .slice A9202 n9202 c9202] := hφ 0 (by decide)
        obtain ⟨q10501, A10501, n10501, c10501, q10502, A10502, n10502, c10502, kb1050, va1050, vb1050⟩ := hψ 0 (by decide)
        have R0 := hid kb1050
        have R01 : Hid (IntV W10 (.agg #[.bool q10501, .slice A10501 n10501 c10501]) (((Rat.divInt pa qa) + (Rat.divInt pb qb))).num) := hid va1050
        have R02 : Hid (IntV W10 (.agg #[.bool q10502, .slice A10502 n10502 c10502]) ((((Rat.divInt pa qa) + (Rat.divInt pb qb))).den : Int)) := hid vb1050
        clear kb1050 va1050 vb1050
        simp only [puts, Act.put, List.setIfInBounds_toArray, List.set_cons_zero, List.set_cons_succ, y0]
        clear hφ hψ hne y0 Fa1_ Fa2_ Fb1_ Fb2_ Pa_ Pb_ t5_1_ t5_2_ Xt5__ t6_1_ t6_2_ Xt6__ t7_1_ t7_2_ Xt7__ HB_ hsz10
        have k0 := R0.out.cell 0
        have k1 := R0.out.cell 1
        have k2 := R0.out.cell 2
        have k3 := R0.out.cell 3
        go_wp2
        refine bodyPost_ret (v := .agg #[.bool q10501, .slice A10501 n10501 c10501, .bool q10502, .slice A10502 n10502 c10502]) (by simp [results, Try.results10, go_sem, k0, k1, k2, k3]) rfl ⟨⟨_, rfl, ?_⟩, HB.out⟩
        have hp := RetR.val (x := ((Rat.divInt pa qa) + (Rat.divInt pb qb))) R01.out R02.out
        exact hp
set_option maxHeartbeats 4000000 in
theorem rsubR_any (w : World) (va vb : Value) (x y : Rat) (n : Nat) (ha : RatA w va x n) (hb : RatA w vb y n) (h1n : 1 ≤ n) (hn : n ≤ 100000) :
    Calls Try.prog 12 #[va, vb] w fun e w' => RetR w' (x - y) e ∧ Below w.heap.size w w' := by
  obtain ⟨pa, qa, ha, rfl⟩ := ha
  obtain ⟨pb, qb, hb, rfl⟩ := hb
  obtain ⟨sa1, Aa1, na1, ca1, sa2, Aa2, na2, ca2, rfl, h1, h2⟩ := ha.form
  have Fa1 : Hid (IntA w (.agg #[.bool sa1, .slice Aa1 na1 ca1]) pa n) := hid h1
  have Fa2 : Hid (IntA w (.agg #[.bool sa2, .slice Aa2 na2 ca2]) qa n) := hid h2
  have Sa1 := hid Fa1.out.sm
  have Sa2 := hid Fa2.out.sm
  clear h1 h2 ha
  obtain ⟨sb1, Ab1, nb1, cb1, sb2, Ab2, nb2, cb2, rfl, h1, h2⟩ := hb.form
  have Fb1 : Hid (IntA w (.agg #[.bool sb1, .slice Ab1 nb1 cb1]) pb n) := hid h1
  have Fb2 : Hid (IntA w (.agg #[.bool sb2, .slice Ab2 nb2 cb2]) qb n) := hid h2
  have Sb1 := hid Fb1.out.sm
  have Sb2 := hid Fb2.out.sm
  clear h1 h2 hb
  have HB := hid (Below.refl w.heap.size w)
  obtain ⟨W, hW⟩ : ∃ W, W = (((w.alloc (.cells #[.bool sa1, .slice Aa1 na1 ca1, .bool sa2, .slice Aa2 na2 ca2] 26)).alloc (.cells #[.bool sb1, .slice Ab1 nb1 cb1, .bool sb2, .slice Ab2 nb2 cb2] 26)).alloc (.cells #[.bool false, .slice none 0 0, .bool false, .slice none 0 0] 26)) := ⟨_, rfl⟩
  have hbb : Below w.heap.size w W := by rw [hW]; exact (bw_alloc (bw_alloc (bw_alloc (Below.refl _ _) _) _) _)
  have HB := hid (bw_step HB.out hbb)
  have Fa1 := hid (Fa1.out.below hbb)
  have Fa2 := hid (Fa2.out.below hbb)
  have Fb1 := hid (Fb1.out.below hbb)
  have Fb2 := hid (Fb2.out.below hbb)
  have Pa : Hid (Blk W (w.heap.size) 26 #[.bool sa1, .slice Aa1 na1 ca1, .bool sa2, .slice Aa2 na2 ca2]) := by
    rw [hW]
    have := ((Blk.new w 26 #[.bool sa1, .slice Aa1 na1 ca1, .bool sa2, .slice Aa2 na2 ca2]).below (bw_alloc (Below.refl _ _) (.cells #[.bool sb1, .slice Ab1 nb1 cb1, .bool sb2, .slice Ab2 nb2 cb2] 26))).below (bw_alloc (Below.refl _ _) (.cells #[.bool false, .slice none 0 0, .bool false, .slice none 0 0] 26))
    exact hid (by simpa only [World.size_alloc] using this)
  have Pb : Hid (Blk W (w.heap.size + 1) 26 #[.bool sb1, .slice Ab1 nb1 cb1, .bool sb2, .slice Ab2 nb2 cb2]) := by
    rw [hW]
    have := (Blk.new (w.alloc (.cells #[.bool sa1, .slice Aa1 na1 ca1, .bool sa2, .slice Aa2 na2 ca2] 26)) 26 #[.bool sb1, .slice Ab1 nb1 cb1, .bool sb2, .slice Ab2 nb2 cb2]).below (bw_alloc (Below.refl _ _) (.cells #[.bool false, .slice none 0 0, .bool false, .slice none 0 0] 26))
    exact hid (by simpa only [World.size_alloc] using this)
  have R0 : Hid (Blk W (w.heap.size + 1 + 1) 26 #[.bool false, .slice none 0 0, .bool false, .slice none 0 0]) := by
    rw [hW]
    have := Blk.new ((w.alloc (.cells #[.bool sa1, .slice Aa1 na1 ca1, .bool sa2, .slice Aa2 na2 ca2] 26)).alloc (.cells #[.bool sb1, .slice Ab1 nb1 cb1, .bool sb2, .slice Ab2 nb2 cb2] 26)) 26 #[.bool false, .slice none 0 0, .bool false, .slice none 0 0]
    exact hid (by simpa only [World.size_alloc] using this)
  clear hbb
  go_enter Try.func12, Try.ntmps12
  go_wp2_with fail
  rw [← hW]
  clear hW
  have RS1 : Hid (RS n (-(Rat.divInt pb qb))) := hid ((RS.of (Sb1.out) (Sb2.out) (by omega)).neg)
  have RS2 : Hid (RS (n + n + 1) ((Rat.divInt pa qa) + (-(Rat.divInt pb qb)))) := hid ((RS.of (Sa1.out) (Sa2.out) (by omega)).add (RS1.out) (by omega))
  refine wp_region_each (by kernel_rfl) 5 9 rfl rfl (by kernel_rfl)
    [Fact.eq (.agg #[.bool sa1, .slice Aa1 na1 ca1, .bool sa2, .slice Aa2 na2 ca2]), Fact.eq (.agg #[.bool sb1, .slice Ab1 nb1 cb1, .bool sb2, .slice Ab2 nb2 cb2]), Fact.pair (.V ((-(Rat.divInt pb qb))).num) (.V (((-(Rat.divInt pb qb))).den : Int)), Fact.pair (.V (((Rat.divInt pa qa) + (-(Rat.divInt pb qb)))).num) (.V ((((Rat.divInt pa qa) + (-(Rat.divInt pb qb)))).den : Int)), Fact.top _]
    [.val, .val, .val, .val, .fillOld 0]
    (fun w' => IntA w' (.agg #[.bool sa1, .slice Aa1 na1 ca1]) (pa) n ∧ IntA w' (.agg #[.bool sa2, .slice Aa2 na2 ca2]) (qa) n ∧ IntA w' (.agg #[.bool sb1, .slice Ab1 nb1 cb1]) (pb) n ∧ IntA w' (.agg #[.bool sb2, .slice Ab2 nb2 cb2]) (qb) n ∧ Blk w' (w.heap.size) 26 #[.bool sa1, .slice Aa1 na1 ca1, .bool sa2, .slice Aa2 na2 ca2] ∧ Blk w' (w.heap.size + 1) 26 #[.bool sb1, .slice Ab1 nb1 cb1, .bool sb2, .slice Ab2 nb2 cb2] ∧ Below w.heap.size w w')
    (fun l b w' => match l with
      | 0 => if b = true then BoxR w' (w.heap.size + 1 + 1) 26 (.V (((Rat.divInt pa qa) + (-(Rat.divInt pb qb)))).num) (.V ((((Rat.divInt pa qa) + (-(Rat.divInt pb qb)))).den : Int)) else Blk w' (w.heap.size + 1 + 1) 26 #[.bool false, .slice none 0 0, .bool false, .slice none 0 0]
      | _ => True)
    [4] (fun l => match l with | 0 => w.heap.size + 1 + 1 | _ => 0) (by kernel_rfl)
    ⟨Fa1.out, Fa2.out, Fb1.out, Fb2.out, Pa.out, Pb.out, HB.out⟩
    (fun w1 w2 ⟨h0, h1, h2, h3, h4, h5, h6⟩ hb => ⟨h0.below hb, h1.below hb, h2.below hb, h3.below hb, h4.below hb, h5.below hb, bw_step h6 hb⟩)
    (fun w1 w2 g ⟨h0, h1, h2, h3, h4, h5, h6⟩ hg hn ho => by
      have hg' : W.heap.size ≤ g ∨ g = w.heap.size + 1 + 1 := by
        rcases hg with h | ⟨l, hl, h⟩
        · exact .inl h
        · rcases l with _ | l
          · exact .inr h
          · exact absurd hl (by simp)
      exact ⟨h0.only hn ho, h1.only hn ho, h2.only hn ho, h3.only hn ho, h4.only ho (by have := Pa.out.lt; have := Pb.out.lt; have := R0.out.lt; omega), h5.only ho (by have := Pa.out.lt; have := Pb.out.lt; have := R0.out.lt; omega), below_only h6 ho (by have := Pa.out.lt; have := Pb.out.lt; have := R0.out.lt; have := HB.out.size; omega)⟩)
    (fun l hl => by
        rcases l with _ | l
        · exact R0.out
        · exact absurd hl (by simp))
    (fun l b w1 w2 hl h hb => by
        rcases l with _ | l
        · (cases b <;> exact h.below hb)
        · exact absurd hl (by simp))
    (fun l b w1 w2 g hl h hg hn ho => by
        rcases l with _ | l
        · (cases b; (exact h.only ho (Ne.symm hg)); (exact h.only (Ne.symm hg) hn ho))
        · exact absurd hl (by simp))
    (fun l hl => by
        rcases l with _ | l
        · exact R0.out.lt
        · exact absurd hl (by simp))
    (fun l k hl hk hne => by rcases l with _ | l <;> rcases k with _ | k <;> simp at hl hk hne)
    ?_ ?_
  · refine ⟨?_, ?_, ?_, ?_, ?_, trivial⟩ <;> intro L V a1 w1 hf hG hsz hφ hψ hL hdep hcl
    · obtain ⟨Fa1_, Fa2_, Fb1_, Fb2_, Pa_, Pb_, HB_⟩ := hG
      have e2 := old_slot hf 2 (by kernel_rfl)
      exact ob_pure (ex_loadR rfl e2 Pa_) rfl
    · obtain ⟨Fa1_, Fa2_, Fb1_, Fb2_, Pa_, Pb_, HB_⟩ := hG
      have e3 := old_slot hf 3 (by kernel_rfl)
      exact ob_pure (ex_loadR rfl e3 Pb_) rfl
    · obtain ⟨Fa1_, Fa2_, Fb1_, Fb2_, Pa_, Pb_, HB_⟩ := hG
      have d1 := dep_of hdep 1 (by kernel_rfl)
      have e6 := (new_slot hf 1 6 d1 (by kernel_rfl)).trans (show V 1 = .agg #[.bool sb1, .slice Ab1 nb1 cb1, .bool sb2, .slice Ab2 nb2 cb2] from hφ 1 d1)
      refine ob_go rfl (vs := #[.agg #[.bool sb1, .slice Ab1 nb1 cb1, .bool sb2, .slice Ab2 nb2 cb2]]) (by simp only [List.map_toArray, List.map_cons, List.map_nil, e6]) (by kernel_rfl) (rnegR_any _ _ (Rat.divInt pb qb) n (RatA.of (Pair.mk (a := .A pb n) (b := .A qb n) Fb1_ Fb2_)) (by omega) (by omega)) ?_
      rintro e w2 ⟨⟨v, rfl, hv⟩, hb⟩
      exact ⟨v, rfl, hb, hv⟩
    · obtain ⟨Fa1_, Fa2_, Fb1_, Fb2_, Pa_, Pb_, HB_⟩ := hG
      have d0 := dep_of hdep 0 (by kernel_rfl)
      have e5 := (new_slot hf 0 5 d0 (by kernel_rfl)).trans (show V 0 = .agg #[.bool sa1, .slice Aa1 na1 ca1, .bool sa2, .slice Aa2 na2 ca2] from hφ 0 d0)
      have d2 := dep_of hdep 2 (by kernel_rfl)
      have e7 := new_slot hf 2 7 d2 (by kernel_rfl)
      have p7 : Pair w1 (V 2) (.V ((-(Rat.divInt pb qb))).num) (.V (((-(Rat.divInt pb qb))).den : Int)) := hφ 2 d2
      refine ob_go rfl (vs := #[.agg #[.bool sa1, .slice Aa1 na1 ca1, .bool sa2, .slice Aa2 na2 ca2], V 2]) (by simp only [List.map_toArray, List.map_cons, List.map_nil, e5, e7]) (by kernel_rfl) (raddR_any _ _ _ (Rat.divInt pa qa) (-(Rat.divInt pb qb)) n (RatA.of (Pair.mk (a := .A pa n) (b := .A qa n) Fa1_ Fa2_)) (RatV.arg (x := (-(Rat.divInt pb qb))) p7 ((RS1.out).to (by omega))) (by omega) (by omega)) ?_
      rintro e w2 ⟨⟨v, rfl, hv⟩, hb⟩
      exact ⟨v, rfl, hb, hv⟩
    · obtain ⟨Fa1_, Fa2_, Fb1_, Fb2_, Pa_, Pb_, HB_⟩ := hG
      have d3 := dep_of hdep 3 (by kernel_rfl)
      have e8 := new_slot hf 3 8 d3 (by kernel_rfl)
      have p8 : Pair w1 (V 3) (.V (((Rat.divInt pa qa) + (-(Rat.divInt pb qb)))).num) (.V ((((Rat.divInt pa qa) + (-(Rat.divInt pb qb)))).den : Int)) := hφ 3 d3
      have e4 := old_slot hf 4 (by kernel_rfl)
      have hb0 := hψ 0 (by decide)
      rw [show [4].getD 0 0 = 4 from rfl, hL] at hb0
      exact ob_fillOldR rfl e4 e8 hb0 p8 (fun w2 h => h) rfl
  · intro V W3 hG hsz3 hφ hψ hne
    have hlt3 : W.heap.size ≤ W3.heap.size := hsz3
    obtain ⟨Fa1_, Fa2_, Fb1_, Fb2_, Pa_, Pb_, HB_⟩ := hG
    have Fa1 := hid Fa1_
    have Fa2 := hid Fa2_
    have Fb1 := hid Fb1_
    have Fb2 := hid Fb2_
    have Pa := hid Pa_
    have Pb := hid Pb_
    have HB := hid HB_
    have y0 : V 0 = .agg #[.bool sa1, .slice Aa1 na1 ca1, .bool sa2, .slice Aa2 na2 ca2] := hφ 0 (by decide)
    have y1 : V 1 = .agg #[.bool sb1, .slice Ab1 nb1 cb1, .bool sb2, .slice Ab2 nb2 cb2] := hφ 1 (by decide)
    obtain ⟨q3501, A3501, n3501, c3501, q3502, A3502, n3502, c3502, kb350, va350, vb350⟩ := hψ 0 (by decide)
    have R0 := hid kb350
    have R01 : Hid (IntV W3 (.agg #[.bool q3501, .slice A3501 n3501 c3501]) (((Rat.divInt pa qa) + (-(Rat.divInt pb qb)))).num) := hid va350
    have R02 : Hid (IntV W3 (.agg #[.bool q3502, .slice A3502 n3502 c3502]) ((((Rat.divInt pa qa) + (-(Rat.divInt pb qb)))).den : Int)) := hid vb350
    clear kb350 va350 vb350
    simp only [puts, Act.put, List.setIfInBounds_toArray, List.set_cons_zero, List.set_cons_succ, y0, y1]
    clear hφ hψ hne y0 y1 Fa1_ Fa2_ Fb1_ Fb2_ Pa_ Pb_ HB_ hsz3
    have k0 := R0.out.cell 0
    have k1 := R0.out.cell 1
    have k2 := R0.out.cell 2
    have k3 := R0.out.cell 3
    go_wp2
    refine bodyPost_ret (v := .agg #[.bool q3501, .slice A3501 n3501 c3501, .bool q3502, .slice A3502 n3502 c3502]) (by simp [results, Try.results12, go_sem, k0, k1, k2, k3]) rfl ⟨⟨_, rfl, ?_⟩, HB.out⟩
    have hp := RetR.val (x := ((Rat.divInt pa qa) + -(Rat.divInt pb qb))) R01.out R02.out
    rw [show ((Rat.divInt pa qa) + -(Rat.divInt pb qb)) = ((Rat.divInt pa qa) - (Rat.divInt pb qb)) from (Rat.sub_eq_add_neg _ _).symm] at hp
    exact hp
end Go.Proofs.Ytklamiajcdkmnaa

