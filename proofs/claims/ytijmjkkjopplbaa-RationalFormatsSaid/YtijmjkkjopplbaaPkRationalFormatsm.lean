/- A part of the proof of the laws of rationals: FormatR. -/
import Derived.Test.YtijmjkkjopplbaaPae
import Derived.Test.YtijmjkkjopplbaaPam
import Derived.Test.YtijmjkkjopplbaaPkRationalFormatsh
import Derived.Test.YtijmjkkjopplbaaPal
import Derived.Test.YtijmjkkjopplbaaPab
import Derived.Test.YtijmjkkjopplbaaPkRationalFormatsk
import Derived.Test.YtijmjkkjopplbaaPad
import Derived.Test.YtijmjkkjopplbaaPkRationalFormatsb
import Derived.Test.YtijmjkkjopplbaaPac
import Derived.Test.YtijmjkkjopplbaaPav
import Derived.Test.YtijmjkkjopplbaaPay
import Derived.Test.YtijmjkkjopplbaaPao
import Derived.Test.YtijmjkkjopplbaaPat
import Derived.Test.YtijmjkkjopplbaaPkRationalFormatsa
import Derived.Test.YtijmjkkjopplbaaPaa
import Derived.Test.YtijmjkkjopplbaaPai
import Derived.Test.YtijmjkkjopplbaaPah
import Derived.Test.YtijmjkkjopplbaaPag
import Derived.Test.YtijmjkkjopplbaaPaj
import Derived.Test.YtijmjkkjopplbaaPap
import Derived.Test.YtijmjkkjopplbaaPas
import Derived.Test.YtijmjkkjopplbaaPkRationalFormatsf
import Derived.Test.YtijmjkkjopplbaaPkRationalFormatse
import Derived.Test.YtijmjkkjopplbaaPkRationalFormatsg
import Derived.Test.YtijmjkkjopplbaaPkRationalFormatsd
import Derived.Test.YtijmjkkjopplbaaPkRationalFormatsj
import Derived.Test.YtijmjkkjopplbaaPau
import Derived.Test.YtijmjkkjopplbaaPkRationalFormatsi
import Derived.Test.YtijmjkkjopplbaaPkRationalFormatsl
import Derived.Test.YtijmjkkjopplbaaPar
import Derived.Test.YtijmjkkjopplbaaPaw
import Derived.Test.YtijmjkkjopplbaaPan
import Derived.Test.YtijmjkkjopplbaaPkRationalFormatsc
import Derived.Test.YtijmjkkjopplbaaPaq
import Derived.Test.YtijmjkkjopplbaaPak
namespace Go.Proofs.Ytijmjkkjopplbaa
open Go.RowKit
set_option linter.unusedVariables false
set_option maxRecDepth 100000

set_option maxHeartbeats 4000000 in
theorem rformatR_whole (w : World) (va : Value) (x : Rat) (n : Nat) (ha : RatA w va x n) (h1n : 1 ≤ n) (hn : n ≤ 100000) (hw : Hid (decide (x.den = 1) = true)) :
    Calls Try.prog 37 #[va] w fun e w' => e = .returned (.string (ratT x)) ∧ Below w.heap.size w w' := by
  obtain ⟨pa, qa, ha, rfl⟩ := ha
  obtain ⟨sa1, Aa1, na1, ca1, sa2, Aa2, na2, ca2, rfl, h1, h2⟩ := ha.form
  have Fa1 : Hid (IntA w (.agg #[.bool sa1, .slice Aa1 na1 ca1]) pa n) := hid h1
  have Fa2 : Hid (IntA w (.agg #[.bool sa2, .slice Aa2 na2 ca2]) qa n) := hid h2
  have Sa1 := hid Fa1.out.sm
  have Sa2 := hid Fa2.out.sm
  clear h1 h2 ha
  have HB := hid (Below.refl w.heap.size w)
  obtain ⟨W, hW⟩ : ∃ W, W = (w.alloc (.cells #[.bool sa1, .slice Aa1 na1 ca1, .bool sa2, .slice Aa2 na2 ca2] 26)) := ⟨_, rfl⟩
  have hbb : Below w.heap.size w W := by rw [hW]; exact (bw_alloc (Below.refl _ _) _)
  have HB := hid (bw_step HB.out hbb)
  have Fa1 := hid (Fa1.out.below hbb)
  have Fa2 := hid (Fa2.out.below hbb)
  have Pa : Hid (Blk W (w.heap.size) 26 #[.bool sa1, .slice Aa1 na1 ca1, .bool sa2, .slice Aa2 na2 ca2]) := by
    rw [hW]
    have := Blk.new w 26 #[.bool sa1, .slice Aa1 na1 ca1, .bool sa2, .slice Aa2 na2 ca2]
    exact hid (by simpa only [World.size_alloc] using this)
  clear hbb
  have L1 := hid (text_size (RS.of Sa1.out Sa2.out h1n).1)
  have L2 := hid (text_size (RS.of Sa1.out Sa2.out h1n).2)
  go_enter Try.func37, Try.ntmps37
  go_wp2_with (with_reducible refine halt_at 4 rfl ?_)
  rw [← hW]
  clear hW
  have RS1 : Hid (RS n (Rat.divInt pa qa)) := hid ((RS.of (Sa1.out) (Sa2.out) (by omega)))
  have lt1_Pa := Pa.out.lt
  unfold Halted
  refine wp_list_each (by kernel_rfl) 4 19 rfl rfl (by kernel_rfl)
    [Fact.eq (.agg #[.bool sa1, .slice Aa1 na1 ca1, .bool sa2, .slice Aa2 na2 ca2]), Fact.pair (.V ((Rat.divInt pa qa)).num) (.V (((Rat.divInt pa qa)).den : Int)), Fact.boxR 26 Rne (.V ((Rat.divInt pa qa)).num) (.V (((Rat.divInt pa qa)).den : Int)), Fact.top _]
    [.val, .val, .alloc 3, .fill 2]
    (fun w' => IntA w' (.agg #[.bool sa1, .slice Aa1 na1 ca1]) (pa) n ∧ IntA w' (.agg #[.bool sa2, .slice Aa2 na2 ca2]) (qa) n ∧ Blk w' (w.heap.size) 26 #[.bool sa1, .slice Aa1 na1 ca1, .bool sa2, .slice Aa2 na2 ca2] ∧ Below w.heap.size w w')
    (fun _ _ _ => True) [] (fun _ => 0) (by kernel_rfl)
    ⟨Fa1.out, Fa2.out, Pa.out, HB.out⟩
    (fun w1 w2 ⟨h0, h1, h2, h3⟩ hb => ⟨h0.below hb, h1.below hb, h2.below hb, bw_step h3 hb⟩)
    (fun w1 w2 g ⟨h0, h1, h2, h3⟩ hg hn ho => by
      have hg' : W.heap.size ≤ g := hg.elim id (fun ⟨_, h, _⟩ => absurd h (Nat.not_lt_zero _))
      exact ⟨h0.only hn ho, h1.only hn ho, h2.only ho (by have := Pa.out.lt; omega), below_only h3 ho (by have := Pa.out.lt; have := HB.out.size; omega)⟩)
    (fun l h => trivial) (fun l b w1 w2 h _ _ => trivial) (fun l b w1 w2 g h _ _ _ _ => trivial) (fun l h => by cases h) (fun l k h => by cases h) ?_ ?_
  · refine ⟨?_, ?_, ?_, ?_, trivial⟩ <;> intro L V a1 w1 hf hG hsz hφ hψ hL hdep hcl
    · obtain ⟨Fa1_, Fa2_, Pa_, HB_⟩ := hG
      have e1 := old_slot hf 1 (by kernel_rfl)
      exact ob_pure (ex_loadR rfl e1 Pa_) rfl
    · obtain ⟨Fa1_, Fa2_, Pa_, HB_⟩ := hG
      have d0 := dep_of hdep 0 (by kernel_rfl)
      have e4 := (new_slot hf 0 4 d0 (by kernel_rfl)).trans (show V 0 = .agg #[.bool sa1, .slice Aa1 na1 ca1, .bool sa2, .slice Aa2 na2 ca2] from hφ 0 d0)
      refine ob_go rfl (vs := #[.agg #[.bool sa1, .slice Aa1 na1 ca1, .bool sa2, .slice Aa2 na2 ca2]]) (by simp only [List.map_toArray, List.map_cons, List.map_nil, e4]) (by kernel_rfl) (rnormalizeR_any _ _ (Rat.divInt pa qa) n (RatA.of (Pair.mk (a := .A pa n) (b := .A qa n) Fa1_ Fa2_)) (by omega) (by omega)) ?_
      rintro e w2 ⟨⟨v, rfl, hv⟩, hb⟩
      exact ⟨v, rfl, hb, hv⟩
    · obtain ⟨Fa1_, Fa2_, Pa_, HB_⟩ := hG
      exact ob_allocR rfl hsz rfl
    · obtain ⟨Fa1_, Fa2_, Pa_, HB_⟩ := hG
      have d1 := dep_of hdep 1 (by kernel_rfl)
      have e5 := new_slot hf 1 5 d1 (by kernel_rfl)
      have p5 : Pair w1 (V 1) (.V ((Rat.divInt pa qa)).num) (.V (((Rat.divInt pa qa)).den : Int)) := hφ 1 d1
      have d2 := dep_of hdep 2 (by kernel_rfl)
      obtain ⟨g, h1, h2, h3, _⟩ := hφ 2 d2
      have hz := h3 (show (true && L 3) = false from by have h : L 3 = false := hL; rw [h]; rfl)
      exact ob_fillR rfl ((new_slot hf 2 3 d2 (by kernel_rfl)).trans h1) e5 h1 h2 hz p5 rfl rfl
  · intro V W2 hG hsz2 hφ hψ hne
    have hlt2 : W.heap.size ≤ W2.heap.size := hsz2
    obtain ⟨Fa1_, Fa2_, Pa_, HB_⟩ := hG
    have Fa1 := hid Fa1_
    have Fa2 := hid Fa2_
    have Pa := hid Pa_
    have HB := hid HB_
    have y0 : V 0 = .agg #[.bool sa1, .slice Aa1 na1 ca1, .bool sa2, .slice Aa2 na2 ca2] := hφ 0 (by decide)
    obtain ⟨G2_2, y2, gb202, _, hb202⟩ := hφ 2 (by decide)
    obtain ⟨q2021, A2021, n2021, c2021, q2022, A2022, n2022, c2022, kb202, va202, vb202⟩ := hb202 rfl
    have Xt3_ := hid kb202
    have t3_1 : Hid (IntV W2 (.agg #[.bool q2021, .slice A2021 n2021 c2021]) ((Rat.divInt pa qa)).num) := hid va202
    have t3_2 : Hid (IntV W2 (.agg #[.bool q2022, .slice A2022 n2022 c2022]) (((Rat.divInt pa qa)).den : Int)) := hid vb202
    clear kb202 va202 vb202
    clear hb202
    simp only [puts, Act.put, List.setIfInBounds_toArray, List.set_cons_zero, List.set_cons_succ, y0, y2, ptr]
    clear hφ hψ hne y0 y2 Fa1_ Fa2_ Pa_ HB_ hsz2
    go_wp2_with (with_reducible refine halt_at 6 rfl ?_)
    unfold Halted
    refine wp_list_each (by kernel_rfl) 2 19 rfl rfl (by kernel_rfl)
      [Fact.eq (.agg #[.bool q2021, .slice A2021 n2021 c2021, .bool q2022, .slice A2022 n2022 c2022]), Fact.eq (.bool true)]
      [.val, .val]
      (fun w' => IntA w' (.agg #[.bool sa1, .slice Aa1 na1 ca1]) (pa) n ∧ IntA w' (.agg #[.bool sa2, .slice Aa2 na2 ca2]) (qa) n ∧ Blk w' (w.heap.size) 26 #[.bool sa1, .slice Aa1 na1 ca1, .bool sa2, .slice Aa2 na2 ca2] ∧ IntV w' (.agg #[.bool q2021, .slice A2021 n2021 c2021]) (((Rat.divInt pa qa)).num) ∧ IntV w' (.agg #[.bool q2022, .slice A2022 n2022 c2022]) ((((Rat.divInt pa qa)).den : Int)) ∧ Blk w' (G2_2) 26 #[.bool q2021, .slice A2021 n2021 c2021, .bool q2022, .slice A2022 n2022 c2022] ∧ Below w.heap.size w w')
      (fun _ _ _ => True) [] (fun _ => 0) (by kernel_rfl)
      ⟨Fa1.out, Fa2.out, Pa.out, t3_1.out, t3_2.out, Xt3_.out, HB.out⟩
      (fun w1 w2 ⟨h0, h1, h2, h3, h4, h5, h6⟩ hb => ⟨h0.below hb, h1.below hb, h2.below hb, h3.below hb, h4.below hb, h5.below hb, bw_step h6 hb⟩)
      (fun w1 w2 g ⟨h0, h1, h2, h3, h4, h5, h6⟩ hg hn ho => by
        have hg' : W2.heap.size ≤ g := hg.elim id (fun ⟨_, h, _⟩ => absurd h (Nat.not_lt_zero _))
        exact ⟨h0.only hn ho, h1.only hn ho, h2.only ho (by have := Pa.out.lt; have := Xt3_.out.lt; omega), h3.only hn ho, h4.only hn ho, h5.only ho (by have := Pa.out.lt; have := Xt3_.out.lt; omega), below_only h6 ho (by have := Pa.out.lt; have := Xt3_.out.lt; have := HB.out.size; omega)⟩)
      (fun l h => trivial) (fun l b w1 w2 h _ _ => trivial) (fun l b w1 w2 g h _ _ _ _ => trivial) (fun l h => by cases h) (fun l k h => by cases h) ?_ ?_
    · refine ⟨?_, ?_, trivial⟩ <;> intro L V a1 w1 hf hG hsz hφ hψ hL hdep hcl
      · obtain ⟨Fa1_, Fa2_, Pa_, t3_1_, t3_2_, Xt3__, HB_⟩ := hG
        have e3 := old_slot hf 3 (by kernel_rfl)
        exact ob_pure (ex_loadR rfl e3 Xt3__) rfl
      · obtain ⟨Fa1_, Fa2_, Pa_, t3_1_, t3_2_, Xt3__, HB_⟩ := hG
        have d0 := dep_of hdep 0 (by kernel_rfl)
        have e6 := (new_slot hf 0 6 d0 (by kernel_rfl)).trans (show V 0 = .agg #[.bool q2021, .slice A2021 n2021 c2021, .bool q2022, .slice A2022 n2022 c2022] from hφ 0 d0)
        refine ob_go rfl (vs := #[.agg #[.bool q2021, .slice A2021 n2021 c2021, .bool q2022, .slice A2022 n2022 c2022]]) (by simp only [List.map_toArray, List.map_cons, List.map_nil, e6]) (by kernel_rfl) (risWholeR_any _ _ (Rat.divInt pa qa) n (RatV.arg (x := (Rat.divInt pa qa)) (Pair.mk (a := .V ((Rat.divInt pa qa)).num) (b := .V (((Rat.divInt pa qa)).den : Int)) t3_1_ t3_2_) ((RS1.out).to (by omega))) (by omega) (by omega)) ?_
        rintro e w2 ⟨he, hb⟩
        rw [hw.out] at he
        exact ⟨_, he, hb, rfl⟩
    · intro V W4 hG hsz4 hφ hψ hne
      have hlt4 : W2.heap.size ≤ W4.heap.size := hsz4
      obtain ⟨Fa1_, Fa2_, Pa_, t3_1_, t3_2_, Xt3__, HB_⟩ := hG
      have Fa1 := hid Fa1_
      have Fa2 := hid Fa2_
      have Pa := hid Pa_
      have t3_1 := hid t3_1_
      have t3_2 := hid t3_2_
      have Xt3_ := hid Xt3__
      have HB := hid HB_
      have y0 : V 0 = .agg #[.bool q2021, .slice A2021 n2021 c2021, .bool q2022, .slice A2022 n2022 c2022] := hφ 0 (by decide)
      have y1 : V 1 = .bool true := hφ 1 (by decide)
      simp only [puts, Act.put, List.setIfInBounds_toArray, List.set_cons_zero, List.set_cons_succ, y0, y1]
      clear hφ hψ hne y0 y1 Fa1_ Fa2_ Pa_ t3_1_ t3_2_ Xt3__ HB_ hsz4
      go_wp2_with (with_reducible refine halt_at 8 rfl ?_)
      unfold Halted
      refine wp_list_each (by kernel_rfl) 4 19 rfl rfl (by kernel_rfl)
        [Fact.eq (.pointer (some ⟨G2_2, 0, none⟩)), Fact.eq (.agg #[.bool q2021, .slice A2021 n2021 c2021]), Fact.eq (.string (ByteArray.mk (text ((Rat.divInt pa qa)).num).toArray)), Fact.eq (.string (ByteArray.mk (text ((Rat.divInt pa qa)).num).toArray))]
        [.val, .val, .val, .val]
        (fun w' => IntA w' (.agg #[.bool sa1, .slice Aa1 na1 ca1]) (pa) n ∧ IntA w' (.agg #[.bool sa2, .slice Aa2 na2 ca2]) (qa) n ∧ Blk w' (w.heap.size) 26 #[.bool sa1, .slice Aa1 na1 ca1, .bool sa2, .slice Aa2 na2 ca2] ∧ IntV w' (.agg #[.bool q2021, .slice A2021 n2021 c2021]) (((Rat.divInt pa qa)).num) ∧ IntV w' (.agg #[.bool q2022, .slice A2022 n2022 c2022]) ((((Rat.divInt pa qa)).den : Int)) ∧ Blk w' (G2_2) 26 #[.bool q2021, .slice A2021 n2021 c2021, .bool q2022, .slice A2022 n2022 c2022] ∧ Below w.heap.size w w')
        (fun _ _ _ => True) [] (fun _ => 0) (by kernel_rfl)
        ⟨Fa1.out, Fa2.out, Pa.out, t3_1.out, t3_2.out, Xt3_.out, HB.out⟩
        (fun w1 w2 ⟨h0, h1, h2, h3, h4, h5, h6⟩ hb => ⟨h0.below hb, h1.below hb, h2.below hb, h3.below hb, h4.below hb, h5.below hb, bw_step h6 hb⟩)
        (fun w1 w2 g ⟨h0, h1, h2, h3, h4, h5, h6⟩ hg hn ho => by
          have hg' : W4.heap.size ≤ g := hg.elim id (fun ⟨_, h, _⟩ => absurd h (Nat.not_lt_zero _))
          exact ⟨h0.only hn ho, h1.only hn ho, h2.only ho (by have := Pa.out.lt; have := Xt3_.out.lt; omega), h3.only hn ho, h4.only hn ho, h5.only ho (by have := Pa.out.lt; have := Xt3_.out.lt; omega), below_only h6 ho (by have := Pa.out.lt; have := Xt3_.out.lt; have := HB.out.size; omega)⟩)
        (fun l h => trivial) (fun l b w1 w2 h _ _ => trivial) (fun l b w1 w2 g h _ _ _ _ => trivial) (fun l h => by cases h) (fun l k h => by cases h) ?_ ?_
      · refine ⟨?_, ?_, ?_, ?_, trivial⟩ <;> intro L V a1 w1 hf hG hsz hφ hψ hL hdep hcl
        · obtain ⟨Fa1_, Fa2_, Pa_, t3_1_, t3_2_, Xt3__, HB_⟩ := hG
          have e3 := old_slot hf 3 (by kernel_rfl)
          exact ob_pure (ex_fieldAddrR0 rfl e3) rfl
        · obtain ⟨Fa1_, Fa2_, Pa_, t3_1_, t3_2_, Xt3__, HB_⟩ := hG
          have d0 := dep_of hdep 0 (by kernel_rfl)
          have e8 := (new_slot hf 0 8 d0 (by kernel_rfl)).trans (show V 0 = .pointer (some ⟨G2_2, 0, none⟩) from hφ 0 d0)
          exact ob_pure (ex_load_at0 rfl e8 Xt3__) rfl
        · obtain ⟨Fa1_, Fa2_, Pa_, t3_1_, t3_2_, Xt3__, HB_⟩ := hG
          have d1 := dep_of hdep 1 (by kernel_rfl)
          have e9 := (new_slot hf 1 9 d1 (by kernel_rfl)).trans (show V 1 = .agg #[.bool q2021, .slice A2021 n2021 c2021] from hφ 1 d1)
          refine ob_go rfl (vs := #[.agg #[.bool q2021, .slice A2021 n2021 c2021]]) (by simp only [List.map_toArray, List.map_cons, List.map_nil, e9]) (by kernel_rfl) (rformat_any _ _ ((Rat.divInt pa qa)).num n (by omega) (IntV.arg t3_1_ (Sm.to ((RS1.out).1) (by omega)))) ?_
          rintro e w2 ⟨he, hb⟩
          exact ⟨_, he, hb, rfl⟩
        · obtain ⟨Fa1_, Fa2_, Pa_, t3_1_, t3_2_, Xt3__, HB_⟩ := hG
          have d2 := dep_of hdep 2 (by kernel_rfl)
          have e10 := (new_slot hf 2 10 d2 (by kernel_rfl)).trans (show V 2 = .string (ByteArray.mk (text ((Rat.divInt pa qa)).num).toArray) from hφ 2 d2)
          exact ob_pure (v := .string (ByteArray.mk (text ((Rat.divInt pa qa)).num).toArray)) (ex_assignV rfl e10) rfl
      · intro V W5 hG hsz5 hφ hψ hne
        have hlt5 : W4.heap.size ≤ W5.heap.size := hsz5
        obtain ⟨Fa1_, Fa2_, Pa_, t3_1_, t3_2_, Xt3__, HB_⟩ := hG
        have Fa1 := hid Fa1_
        have Fa2 := hid Fa2_
        have Pa := hid Pa_
        have t3_1 := hid t3_1_
        have t3_2 := hid t3_2_
        have Xt3_ := hid Xt3__
        have HB := hid HB_
        have y0 : V 0 = .pointer (some ⟨G2_2, 0, none⟩) := hφ 0 (by decide)
        have y1 : V 1 = .agg #[.bool q2021, .slice A2021 n2021 c2021] := hφ 1 (by decide)
        have y2 : V 2 = .string (ByteArray.mk (text ((Rat.divInt pa qa)).num).toArray) := hφ 2 (by decide)
        have y3 : V 3 = .string (ByteArray.mk (text ((Rat.divInt pa qa)).num).toArray) := hφ 3 (by decide)
        simp only [puts, Act.put, List.setIfInBounds_toArray, List.set_cons_zero, List.set_cons_succ, y0, y1, y2, y3]
        clear hφ hψ hne y0 y1 y2 y3 Fa1_ Fa2_ Pa_ t3_1_ t3_2_ Xt3__ HB_ hsz5
        go_wp2
        go_ret
        exact ⟨by rw [ratT, if_pos (by simpa using hw.out)]; first | done | rfl, HB.out⟩
set_option maxHeartbeats 4000000 in
theorem rformatR_part (w : World) (va : Value) (x : Rat) (n : Nat) (ha : RatA w va x n) (h1n : 1 ≤ n) (hn : n ≤ 100000) (hw : Hid (decide (x.den = 1) = false)) :
    Calls Try.prog 37 #[va] w fun e w' => e = .returned (.string (ratT x)) ∧ Below w.heap.size w w' := by
  obtain ⟨pa, qa, ha, rfl⟩ := ha
  obtain ⟨sa1, Aa1, na1, ca1, sa2, Aa2, na2, ca2, rfl, h1, h2⟩ := ha.form
  have Fa1 : Hid (IntA w (.agg #[.bool sa1, .slice Aa1 na1 ca1]) pa n) := hid h1
  have Fa2 : Hid (IntA w (.agg #[.bool sa2, .slice Aa2 na2 ca2]) qa n) := hid h2
  have Sa1 := hid Fa1.out.sm
  have Sa2 := hid Fa2.out.sm
  clear h1 h2 ha
  have HB := hid (Below.refl w.heap.size w)
  obtain ⟨W, hW⟩ : ∃ W, W = (w.alloc (.cells #[.bool sa1, .slice Aa1 na1 ca1, .bool sa2, .slice Aa2 na2 ca2] 26)) := ⟨_, rfl⟩
  have hbb : Below w.heap.size w W := by rw [hW]; exact (bw_alloc (Below.refl _ _) _)
  have HB := hid (bw_step HB.out hbb)
  have Fa1 := hid (Fa1.out.below hbb)
  have Fa2 := hid (Fa2.out.below hbb)
  have Pa : Hid (Blk W (w.heap.size) 26 #[.bool sa1, .slice Aa1 na1 ca1, .bool sa2, .slice Aa2 na2 ca2]) := by
    rw [hW]
    have := Blk.new w 26 #[.bool sa1, .slice Aa1 na1 ca1, .bool sa2, .slice Aa2 na2 ca2]
    exact hid (by simpa only [World.size_alloc] using this)
  clear hbb
  have L1 := hid (text_size (RS.of Sa1.out Sa2.out h1n).1)
  have L2 := hid (text_size (RS.of Sa1.out Sa2.out h1n).2)
  go_enter Try.func37, Try.ntmps37
  go_wp2_with (with_reducible refine halt_at 4 rfl ?_)
  rw [← hW]
  clear hW
  have RS1 : Hid (RS n (Rat.divInt pa qa)) := hid ((RS.of (Sa1.out) (Sa2.out) (by omega)))
  have lt1_Pa := Pa.out.lt
  unfold Halted
  refine wp_list_each (by kernel_rfl) 4 19 rfl rfl (by kernel_rfl)
    [Fact.eq (.agg #[.bool sa1, .slice Aa1 na1 ca1, .bool sa2, .slice Aa2 na2 ca2]), Fact.pair (.V ((Rat.divInt pa qa)).num) (.V (((Rat.divInt pa qa)).den : Int)), Fact.boxR 26 Rne (.V ((Rat.divInt pa qa)).num) (.V (((Rat.divInt pa qa)).den : Int)), Fact.top _]
    [.val, .val, .alloc 3, .fill 2]
    (fun w' => IntA w' (.agg #[.bool sa1, .slice Aa1 na1 ca1]) (pa) n ∧ IntA w' (.agg #[.bool sa2, .slice Aa2 na2 ca2]) (qa) n ∧ Blk w' (w.heap.size) 26 #[.bool sa1, .slice Aa1 na1 ca1, .bool sa2, .slice Aa2 na2 ca2] ∧ Below w.heap.size w w')
    (fun _ _ _ => True) [] (fun _ => 0) (by kernel_rfl)
    ⟨Fa1.out, Fa2.out, Pa.out, HB.out⟩
    (fun w1 w2 ⟨h0, h1, h2, h3⟩ hb => ⟨h0.below hb, h1.below hb, h2.below hb, bw_step h3 hb⟩)
    (fun w1 w2 g ⟨h0, h1, h2, h3⟩ hg hn ho => by
      have hg' : W.heap.size ≤ g := hg.elim id (fun ⟨_, h, _⟩ => absurd h (Nat.not_lt_zero _))
      exact ⟨h0.only hn ho, h1.only hn ho, h2.only ho (by have := Pa.out.lt; omega), below_only h3 ho (by have := Pa.out.lt; have := HB.out.size; omega)⟩)
    (fun l h => trivial) (fun l b w1 w2 h _ _ => trivial) (fun l b w1 w2 g h _ _ _ _ => trivial) (fun l h => by cases h) (fun l k h => by cases h) ?_ ?_
  · refine ⟨?_, ?_, ?_, ?_, trivial⟩ <;> intro L V a1 w1 hf hG hsz hφ hψ hL hdep hcl
    · obtain ⟨Fa1_, Fa2_, Pa_, HB_⟩ := hG
      have e1 := old_slot hf 1 (by kernel_rfl)
      exact ob_pure (ex_loadR rfl e1 Pa_) rfl
    · obtain ⟨Fa1_, Fa2_, Pa_, HB_⟩ := hG
      have d0 := dep_of hdep 0 (by kernel_rfl)
      have e4 := (new_slot hf 0 4 d0 (by kernel_rfl)).trans (show V 0 = .agg #[.bool sa1, .slice Aa1 na1 ca1, .bool sa2, .slice Aa2 na2 ca2] from hφ 0 d0)
      refine ob_go rfl (vs := #[.agg #[.bool sa1, .slice Aa1 na1 ca1, .bool sa2, .slice Aa2 na2 ca2]]) (by simp only [List.map_toArray, List.map_cons, List.map_nil, e4]) (by kernel_rfl) (rnormalizeR_any _ _ (Rat.divInt pa qa) n (RatA.of (Pair.mk (a := .A pa n) (b := .A qa n) Fa1_ Fa2_)) (by omega) (by omega)) ?_
      rintro e w2 ⟨⟨v, rfl, hv⟩, hb⟩
      exact ⟨v, rfl, hb, hv⟩
    · obtain ⟨Fa1_, Fa2_, Pa_, HB_⟩ := hG
      exact ob_allocR rfl hsz rfl
    · obtain ⟨Fa1_, Fa2_, Pa_, HB_⟩ := hG
      have d1 := dep_of hdep 1 (by kernel_rfl)
      have e5 := new_slot hf 1 5 d1 (by kernel_rfl)
      have p5 : Pair w1 (V 1) (.V ((Rat.divInt pa qa)).num) (.V (((Rat.divInt pa qa)).den : Int)) := hφ 1 d1
      have d2 := dep_of hdep 2 (by kernel_rfl)
      obtain ⟨g, h1, h2, h3, _⟩ := hφ 2 d2
      have hz := h3 (show (true && L 3) = false from by have h : L 3 = false := hL; rw [h]; rfl)
      exact ob_fillR rfl ((new_slot hf 2 3 d2 (by kernel_rfl)).trans h1) e5 h1 h2 hz p5 rfl rfl
  · intro V W2 hG hsz2 hφ hψ hne
    have hlt2 : W.heap.size ≤ W2.heap.size := hsz2
    obtain ⟨Fa1_, Fa2_, Pa_, HB_⟩ := hG
    have Fa1 := hid Fa1_
    have Fa2 := hid Fa2_
    have Pa := hid Pa_
    have HB := hid HB_
    have y0 : V 0 = .agg #[.bool sa1, .slice Aa1 na1 ca1, .bool sa2, .slice Aa2 na2 ca2] := hφ 0 (by decide)
    obtain ⟨G2_2, y2, gb202, _, hb202⟩ := hφ 2 (by decide)
    obtain ⟨q2021, A2021, n2021, c2021, q2022, A2022, n2022, c2022, kb202, va202, vb202⟩ := hb202 rfl
    have Xt3_ := hid kb202
    have t3_1 : Hid (IntV W2 (.agg #[.bool q2021, .slice A2021 n2021 c2021]) ((Rat.divInt pa qa)).num) := hid va202
    have t3_2 : Hid (IntV W2 (.agg #[.bool q2022, .slice A2022 n2022 c2022]) (((Rat.divInt pa qa)).den : Int)) := hid vb202
    clear kb202 va202 vb202
    clear hb202
    simp only [puts, Act.put, List.setIfInBounds_toArray, List.set_cons_zero, List.set_cons_succ, y0, y2, ptr]
    clear hφ hψ hne y0 y2 Fa1_ Fa2_ Pa_ HB_ hsz2
    go_wp2_with (with_reducible refine halt_at 6 rfl ?_)
    unfold Halted
    refine wp_list_each (by kernel_rfl) 2 19 rfl rfl (by kernel_rfl)
      [Fact.eq (.agg #[.bool q2021, .slice A2021 n2021 c2021, .bool q2022, .slice A2022 n2022 c2022]), Fact.eq (.bool false)]
      [.val, .val]
      (fun w' => IntA w' (.agg #[.bool sa1, .slice Aa1 na1 ca1]) (pa) n ∧ IntA w' (.agg #[.bool sa2, .slice Aa2 na2 ca2]) (qa) n ∧ Blk w' (w.heap.size) 26 #[.bool sa1, .slice Aa1 na1 ca1, .bool sa2, .slice Aa2 na2 ca2] ∧ IntV w' (.agg #[.bool q2021, .slice A2021 n2021 c2021]) (((Rat.divInt pa qa)).num) ∧ IntV w' (.agg #[.bool q2022, .slice A2022 n2022 c2022]) ((((Rat.divInt pa qa)).den : Int)) ∧ Blk w' (G2_2) 26 #[.bool q2021, .slice A2021 n2021 c2021, .bool q2022, .slice A2022 n2022 c2022] ∧ Below w.heap.size w w')
      (fun _ _ _ => True) [] (fun _ => 0) (by kernel_rfl)
      ⟨Fa1.out, Fa2.out, Pa.out, t3_1.out, t3_2.out, Xt3_.out, HB.out⟩
      (fun w1 w2 ⟨h0, h1, h2, h3, h4, h5, h6⟩ hb => ⟨h0.below hb, h1.below hb, h2.below hb, h3.below hb, h4.below hb, h5.below hb, bw_step h6 hb⟩)
      (fun w1 w2 g ⟨h0, h1, h2, h3, h4, h5, h6⟩ hg hn ho => by
        have hg' : W2.heap.size ≤ g := hg.elim id (fun ⟨_, h, _⟩ => absurd h (Nat.not_lt_zero _))
        exact ⟨h0.only hn ho, h1.only hn ho, h2.only ho (by have := Pa.out.lt; have := Xt3_.out.lt; omega), h3.only hn ho, h4.only hn ho, h5.only ho (by have := Pa.out.lt; have := Xt3_.out.lt; omega), below_only h6 ho (by have := Pa.out.lt; have := Xt3_.out.lt; have := HB.out.size; omega)⟩)
      (fun l h => trivial) (fun l b w1 w2 h _ _ => trivial) (fun l b w1 w2 g h _ _ _ _ => trivial) (fun l h => by cases h) (fun l k h => by cases h) ?_ ?_
    · refine ⟨?_, ?_, trivial⟩ <;> intro L V a1 w1 hf hG hsz hφ hψ hL hdep hcl
      · obtain ⟨Fa1_, Fa2_, Pa_, t3_1_, t3_2_, Xt3__, HB_⟩ := hG
        have e3 := old_slot hf 3 (by kernel_rfl)
        exact ob_pure (ex_loadR rfl e3 Xt3__) rfl
      · obtain ⟨Fa1_, Fa2_, Pa_, t3_1_, t3_2_, Xt3__, HB_⟩ := hG
        have d0 := dep_of hdep 0 (by kernel_rfl)
        have e6 := (new_slot hf 0 6 d0 (by kernel_rfl)).trans (show V 0 = .agg #[.bool q2021, .slice A2021 n2021 c2021, .bool q2022, .slice A2022 n2022 c2022] from hφ 0 d0)
        refine ob_go rfl (vs := #[.agg #[.bool q2021, .slice A2021 n2021 c2021, .bool q2022, .slice A2022 n2022 c2022]]) (by simp only [List.map_toArray, List.map_cons, List.map_nil, e6]) (by kernel_rfl) (risWholeR_any _ _ (Rat.divInt pa qa) n (RatV.arg (x := (Rat.divInt pa qa)) (Pair.mk (a := .V ((Rat.divInt pa qa)).num) (b := .V (((Rat.divInt pa qa)).den : Int)) t3_1_ t3_2_) ((RS1.out).to (by omega))) (by omega) (by omega)) ?_
        rintro e w2 ⟨he, hb⟩
        rw [hw.out] at he
        exact ⟨_, he, hb, rfl⟩
    · intro V W4 hG hsz4 hφ hψ hne
      have hlt4 : W2.heap.size ≤ W4.heap.size := hsz4
      obtain ⟨Fa1_, Fa2_, Pa_, t3_1_, t3_2_, Xt3__, HB_⟩ := hG
      have Fa1 := hid Fa1_
      have Fa2 := hid Fa2_
      have Pa := hid Pa_
      have t3_1 := hid t3_1_
      have t3_2 := hid t3_2_
      have Xt3_ := hid Xt3__
      have HB := hid HB_
      have y0 : V 0 = .agg #[.bool q2021, .slice A2021 n2021 c2021, .bool q2022, .slice A2022 n2022 c2022] := hφ 0 (by decide)
      have y1 : V 1 = .bool false := hφ 1 (by decide)
      simp only [puts, Act.put, List.setIfInBounds_toArray, List.set_cons_zero, List.set_cons_succ, y0, y1]
      clear hφ hψ hne y0 y1 Fa1_ Fa2_ Pa_ t3_1_ t3_2_ Xt3__ HB_ hsz4
      go_wp2_with fail
      refine wp_region_each (by kernel_rfl) 9 19 rfl rfl (by kernel_rfl)
        [Fact.eq (.pointer (some ⟨G2_2, 0, none⟩)), Fact.eq (.agg #[.bool q2021, .slice A2021 n2021 c2021]), Fact.eq (.string (ByteArray.mk (text ((Rat.divInt pa qa)).num).toArray)), Fact.eq (.string ((ByteArray.mk (text ((Rat.divInt pa qa)).num).toArray) ++ (ByteArray.mk #[47]))), Fact.eq (.pointer (some ⟨G2_2, 2, none⟩)), Fact.eq (.agg #[.bool q2022, .slice A2022 n2022 c2022]), Fact.eq (.string (ByteArray.mk (text (((Rat.divInt pa qa)).den : Int)).toArray)), Fact.eq (.string (((ByteArray.mk (text ((Rat.divInt pa qa)).num).toArray) ++ (ByteArray.mk #[47])) ++ (ByteArray.mk (text (((Rat.divInt pa qa)).den : Int)).toArray))), Fact.eq (.string (((ByteArray.mk (text ((Rat.divInt pa qa)).num).toArray) ++ (ByteArray.mk #[47])) ++ (ByteArray.mk (text (((Rat.divInt pa qa)).den : Int)).toArray)))]
        [.val, .val, .val, .val, .val, .val, .val, .val, .val]
        (fun w' => IntA w' (.agg #[.bool sa1, .slice Aa1 na1 ca1]) (pa) n ∧ IntA w' (.agg #[.bool sa2, .slice Aa2 na2 ca2]) (qa) n ∧ Blk w' (w.heap.size) 26 #[.bool sa1, .slice Aa1 na1 ca1, .bool sa2, .slice Aa2 na2 ca2] ∧ IntV w' (.agg #[.bool q2021, .slice A2021 n2021 c2021]) (((Rat.divInt pa qa)).num) ∧ IntV w' (.agg #[.bool q2022, .slice A2022 n2022 c2022]) ((((Rat.divInt pa qa)).den : Int)) ∧ Blk w' (G2_2) 26 #[.bool q2021, .slice A2021 n2021 c2021, .bool q2022, .slice A2022 n2022 c2022] ∧ Below w.heap.size w w')
        (fun _ _ _ => True) [] (fun _ => 0) (by kernel_rfl)
        ⟨Fa1.out, Fa2.out, Pa.out, t3_1.out, t3_2.out, Xt3_.out, HB.out⟩
        (fun w1 w2 ⟨h0, h1, h2, h3, h4, h5, h6⟩ hb => ⟨h0.below hb, h1.below hb, h2.below hb, h3.below hb, h4.below hb, h5.below hb, bw_step h6 hb⟩)
        (fun w1 w2 g ⟨h0, h1, h2, h3, h4, h5, h6⟩ hg hn ho => by
          have hg' : W4.heap.size ≤ g := hg.elim id (fun ⟨_, h, _⟩ => absurd h (Nat.not_lt_zero _))
          exact ⟨h0.only hn ho, h1.only hn ho, h2.only ho (by have := Pa.out.lt; have := Xt3_.out.lt; omega), h3.only hn ho, h4.only hn ho, h5.only ho (by have := Pa.out.lt; have := Xt3_.out.lt; omega), below_only h6 ho (by have := Pa.out.lt; have := Xt3_.out.lt; have := HB.out.size; omega)⟩)
        (fun l h => trivial) (fun l b w1 w2 h _ _ => trivial) (fun l b w1 w2 g h _ _ _ _ => trivial) (fun l h => by cases h) (fun l k h => by cases h) ?_ ?_
      · refine ⟨?_, ?_, ?_, ?_, ?_, ?_, ?_, ?_, ?_, trivial⟩ <;> intro L V a1 w1 hf hG hsz hφ hψ hL hdep hcl
        · obtain ⟨Fa1_, Fa2_, Pa_, t3_1_, t3_2_, Xt3__, HB_⟩ := hG
          have e3 := old_slot hf 3 (by kernel_rfl)
          exact ob_pure (ex_fieldAddrR0 rfl e3) rfl
        · obtain ⟨Fa1_, Fa2_, Pa_, t3_1_, t3_2_, Xt3__, HB_⟩ := hG
          have d0 := dep_of hdep 0 (by kernel_rfl)
          have e11 := (new_slot hf 0 11 d0 (by kernel_rfl)).trans (show V 0 = .pointer (some ⟨G2_2, 0, none⟩) from hφ 0 d0)
          exact ob_pure (ex_load_at0 rfl e11 Xt3__) rfl
        · obtain ⟨Fa1_, Fa2_, Pa_, t3_1_, t3_2_, Xt3__, HB_⟩ := hG
          have d1 := dep_of hdep 1 (by kernel_rfl)
          have e12 := (new_slot hf 1 12 d1 (by kernel_rfl)).trans (show V 1 = .agg #[.bool q2021, .slice A2021 n2021 c2021] from hφ 1 d1)
          refine ob_go rfl (vs := #[.agg #[.bool q2021, .slice A2021 n2021 c2021]]) (by simp only [List.map_toArray, List.map_cons, List.map_nil, e12]) (by kernel_rfl) (rformat_any _ _ ((Rat.divInt pa qa)).num n (by omega) (IntV.arg t3_1_ (Sm.to ((RS1.out).1) (by omega)))) ?_
          rintro e w2 ⟨he, hb⟩
          exact ⟨_, he, hb, rfl⟩
        · obtain ⟨Fa1_, Fa2_, Pa_, t3_1_, t3_2_, Xt3__, HB_⟩ := hG
          have d2 := dep_of hdep 2 (by kernel_rfl)
          have e13 := (new_slot hf 2 13 d2 (by kernel_rfl)).trans (show V 2 = .string (ByteArray.mk (text ((Rat.divInt pa qa)).num).toArray) from hφ 2 d2)
          exact ob_pure (ex_add_str rfl e13 rfl (by have := L1.out; have := L2.out; (try simp only [ByteArray.size_append]); (try have e47 : (ByteArray.mk #[47]).size = 1 := rfl); omega)) rfl
        · obtain ⟨Fa1_, Fa2_, Pa_, t3_1_, t3_2_, Xt3__, HB_⟩ := hG
          have e3 := old_slot hf 3 (by kernel_rfl)
          exact ob_pure (ex_fieldAddrR1 rfl e3) rfl
        · obtain ⟨Fa1_, Fa2_, Pa_, t3_1_, t3_2_, Xt3__, HB_⟩ := hG
          have d4 := dep_of hdep 4 (by kernel_rfl)
          have e15 := (new_slot hf 4 15 d4 (by kernel_rfl)).trans (show V 4 = .pointer (some ⟨G2_2, 2, none⟩) from hφ 4 d4)
          exact ob_pure (ex_load_at2 rfl e15 Xt3__) rfl
        · obtain ⟨Fa1_, Fa2_, Pa_, t3_1_, t3_2_, Xt3__, HB_⟩ := hG
          have d5 := dep_of hdep 5 (by kernel_rfl)
          have e16 := (new_slot hf 5 16 d5 (by kernel_rfl)).trans (show V 5 = .agg #[.bool q2022, .slice A2022 n2022 c2022] from hφ 5 d5)
          refine ob_go rfl (vs := #[.agg #[.bool q2022, .slice A2022 n2022 c2022]]) (by simp only [List.map_toArray, List.map_cons, List.map_nil, e16]) (by kernel_rfl) (rformat_any _ _ (((Rat.divInt pa qa)).den : Int) n (by omega) (IntV.arg t3_2_ (Sm.to ((RS1.out).2) (by omega)))) ?_
          rintro e w2 ⟨he, hb⟩
          exact ⟨_, he, hb, rfl⟩
        · obtain ⟨Fa1_, Fa2_, Pa_, t3_1_, t3_2_, Xt3__, HB_⟩ := hG
          have d3 := dep_of hdep 3 (by kernel_rfl)
          have e14 := (new_slot hf 3 14 d3 (by kernel_rfl)).trans (show V 3 = .string ((ByteArray.mk (text ((Rat.divInt pa qa)).num).toArray) ++ (ByteArray.mk #[47])) from hφ 3 d3)
          have d6 := dep_of hdep 6 (by kernel_rfl)
          have e17 := (new_slot hf 6 17 d6 (by kernel_rfl)).trans (show V 6 = .string (ByteArray.mk (text (((Rat.divInt pa qa)).den : Int)).toArray) from hφ 6 d6)
          exact ob_pure (ex_add_str rfl e14 e17 (by have := L1.out; have := L2.out; (try simp only [ByteArray.size_append]); (try have e47 : (ByteArray.mk #[47]).size = 1 := rfl); omega)) rfl
        · obtain ⟨Fa1_, Fa2_, Pa_, t3_1_, t3_2_, Xt3__, HB_⟩ := hG
          have d7 := dep_of hdep 7 (by kernel_rfl)
          have e18 := (new_slot hf 7 18 d7 (by kernel_rfl)).trans (show V 7 = .string (((ByteArray.mk (text ((Rat.divInt pa qa)).num).toArray) ++ (ByteArray.mk #[47])) ++ (ByteArray.mk (text (((Rat.divInt pa qa)).den : Int)).toArray)) from hφ 7 d7)
          exact ob_pure (v := .string (((ByteArray.mk (text ((Rat.divInt pa qa)).num).toArray) ++ (ByteArray.mk #[47])) ++ (ByteArray.mk (text (((Rat.divInt pa qa)).den : Int)).toArray))) (ex_assignV rfl e18) rfl
      · intro V W5 hG hsz5 hφ hψ hne
        have hlt5 : W4.heap.size ≤ W5.heap.size := hsz5
        obtain ⟨Fa1_, Fa2_, Pa_, t3_1_, t3_2_, Xt3__, HB_⟩ := hG
        have Fa1 := hid Fa1_
        have Fa2 := hid Fa2_
        have Pa := hid Pa_
        have t3_1 := hid t3_1_
        have t3_2 := hid t3_2_
        have Xt3_ := hid Xt3__
        have HB := hid HB_
        have y0 : V 0 = .pointer (some ⟨G2_2, 0, none⟩) := hφ 0 (by decide)
        have y1 : V 1 = .agg #[.bool q2021, .slice A2021 n2021 c2021] := hφ 1 (by decide)
        have y2 : V 2 = .string (ByteArray.mk (text ((Rat.divInt pa qa)).num).toArray) := hφ 2 (by decide)
        have y3 : V 3 = .string ((ByteArray.mk (text ((Rat.divInt pa qa)).num).toArray) ++ (ByteArray.mk #[47])) := hφ 3 (by decide)
        have y4 : V 4 = .pointer (some ⟨G2_2, 2, none⟩) := hφ 4 (by decide)
        have y5 : V 5 = .agg #[.bool q2022, .slice A2022 n2022 c2022] := hφ 5 (by decide)
        have y6 : V 6 = .string (ByteArray.mk (text (((Rat.divInt pa qa)).den : Int)).toArray) := hφ 6 (by decide)
        have y7 : V 7 = .string (((ByteArray.mk (text ((Rat.divInt pa qa)).num).toArray) ++ (ByteArray.mk #[47])) ++ (ByteArray.mk (text (((Rat.divInt pa qa)).den : Int)).toArray)) := hφ 7 (by decide)
        have y8 : V 8 = .string (((ByteArray.mk (text ((Rat.divInt pa qa)).num).toArray) ++ (ByteArray.mk #[47])) ++ (ByteArray.mk (text (((Rat.divInt pa qa)).den : Int)).toArray)) := hφ 8 (by decide)
        simp only [puts, Act.put, List.setIfInBounds_toArray, List.set_cons_zero, List.set_cons_succ, y0, y1, y2, y3, y4, y5, y6, y7, y8]
        clear hφ hψ hne y0 y1 y2 y3 y4 y5 y6 y7 y8 Fa1_ Fa2_ Pa_ t3_1_ t3_2_ Xt3__ HB_ hsz5
        go_wp2
        go_ret
        exact ⟨by rw [ratT, if_neg (by simpa using hw.out)]; first | done | rfl, HB.out⟩
theorem rformatR_any (w : World) (va : Value) (x : Rat) (n : Nat) (ha : RatA w va x n) (h1n : 1 ≤ n) (hn : n ≤ 100000) :
    Calls Try.prog 37 #[va] w fun e w' => e = .returned (.string (ratT x)) ∧ Below w.heap.size w w' := by
  cases h : decide (x.den = 1) with
  | true => exact rformatR_whole w va x n ha h1n hn (hid h)
  | false => exact rformatR_part w va x n ha h1n hn (hid h)
end Go.Proofs.Ytijmjkkjopplbaa

