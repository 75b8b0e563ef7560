/- A part of the proof of the laws of rationals: FormatR. -/
import Derived.Test.YtijmjkkjopplbaaPae
import Derived.Test.YtijmjkkjopplbaaPam
import Derived.Test.YtijmjkkjopplbaaPal
import Derived.Test.YtijmjkkjopplbaaPab
import Derived.Test.YtijmjkkjopplbaaPad
import Derived.Test.YtijmjkkjopplbaaPac
import Derived.Test.YtijmjkkjopplbaaPav
import Derived.Test.YtijmjkkjopplbaaPao
import Derived.Test.YtijmjkkjopplbaaPat
import Derived.Test.YtijmjkkjopplbaaPaa
import Derived.Test.YtijmjkkjopplbaaPai
import Derived.Test.YtijmjkkjopplbaaPah
import Derived.Test.YtijmjkkjopplbaaPag
import Derived.Test.YtijmjkkjopplbaaPaj
import Derived.Test.YtijmjkkjopplbaaPap
import Derived.Test.YtijmjkkjopplbaaPas
import Derived.Test.YtijmjkkjopplbaaPau
import Derived.Test.YtijmjkkjopplbaaPar
import Derived.Test.YtijmjkkjopplbaaPaw
import Derived.Test.YtijmjkkjopplbaaPan
import Derived.Test.YtijmjkkjopplbaaPaq
import Derived.Test.YtijmjkkjopplbaaPak
namespace Go.Proofs.Ytijmjkkjopplbaa
open Go.RowKit
set_option linter.unusedVariables false
set_option maxRecDepth 100000

/-- The text of a rational number. -/
def ratT (x : Rat) : ByteArray := if x.den = 1 then ⟨(text x.num).toArray⟩ else ⟨(text x.num).toArray⟩ ++ ⟨#[47]⟩ ++ ⟨(text (x.den : Int)).toArray⟩
theorem text_size {n : Nat} {z : Int} (h : Sm n z) : ByteArray.size ⟨(text z).toArray⟩ ≤ 10 * n + 1 := by
  have h1 := digs_sm h
  have h2 := text_len z
  rw [size_list]
  omega

set_option maxHeartbeats 4000000 in
theorem formatR_whole (w : World) (va : Value) (x : Rat) (n : Nat) (ha : RatA w va x n) (h1n : 1 ≤ n) (hn : n ≤ 100000) (hw : Hid (decide (x.den = 1) = true)) :
    Calls Try.prog 36 #[va] w fun e w' => e = .returned (.string (ratT x)) ∧ Below w.heap.size w w' := by
  obtain ⟨pa, qa, ha, rfl⟩ := ha
  obtain ⟨sa1, Aa1, na1, ca1, sa2, Aa2, na2, ca2, rfl, h1, h2⟩ := ha.form
  have Fa1 : Hid (IntA w (.agg #[.bool sa1, .slice Aa1 na1 ca1]) pa n) := hid h1
  have Fa2 : Hid (IntA w (.agg #[.bool sa2, .slice Aa2 na2 ca2]) qa n) := hid h2
  have Sa1 := hid Fa1.out.sm
  have Sa2 := hid Fa2.out.sm
  clear h1 h2 ha
  have HB := hid (Below.refl w.heap.size w)
  obtain ⟨W, hW⟩ : ∃ W, W = (w.alloc (.cells #[.bool sa1, .slice Aa1 na1 ca1, .bool sa2, .slice Aa2 na2 ca2] 26)) := ⟨_, rfl⟩
  have hbb : Below w.heap.size w W := by rw [hW]; exact (bw_alloc (Below.refl _ _) _)
  have HB := hid (bw_step HB.out hbb)
  have Fa1 := hid (Fa1.out.below hbb)
  have Fa2 := hid (Fa2.out.below hbb)
  have Pa : Hid (Blk W (w.heap.size) 26 #[.bool sa1, .slice Aa1 na1 ca1, .bool sa2, .slice Aa2 na2 ca2]) := by
    rw [hW]
    have := Blk.new w 26 #[.bool sa1, .slice Aa1 na1 ca1, .bool sa2, .slice Aa2 na2 ca2]
    exact hid (by simpa only [World.size_alloc] using this)
  clear hbb
  have L1 := hid (text_size (RS.of Sa1.out Sa2.out h1n).1)
  have L2 := hid (text_size (RS.of Sa1.out Sa2.out h1n).2)
  go_enter Try.func36, Try.ntmps36
  go_wp2_with (with_reducible refine halt_at 3 rfl ?_)
  rw [← hW]
  clear hW
  have RS1 : Hid (RS n (Rat.divInt pa qa)) := hid ((RS.of (Sa1.out) (Sa2.out) (by omega)))
  unfold Halted
  refine wp_list_each (by kernel_rfl) 3 18 rfl rfl (by kernel_rfl)
    [Fact.eq (.agg #[.bool sa1, .slice Aa1 na1 ca1, .bool sa2, .slice Aa2 na2 ca2]), Fact.pair (.V ((Rat.divInt pa qa)).num) (.V (((Rat.divInt pa qa)).den : Int)), Fact.top _]
    [.val, .val, .fillOld 0]
    (fun w' => IntA w' (.agg #[.bool sa1, .slice Aa1 na1 ca1]) (pa) n ∧ IntA w' (.agg #[.bool sa2, .slice Aa2 na2 ca2]) (qa) n ∧ Below w.heap.size w w')
    (fun l b w' => match l with
      | 0 => if b = true then BoxR w' (w.heap.size) 26 (.V ((Rat.divInt pa qa)).num) (.V (((Rat.divInt pa qa)).den : Int)) else Blk w' (w.heap.size) 26 #[.bool sa1, .slice Aa1 na1 ca1, .bool sa2, .slice Aa2 na2 ca2]
      | _ => True)
    [2] (fun l => match l with | 0 => w.heap.size | _ => 0) (by kernel_rfl)
    ⟨Fa1.out, Fa2.out, HB.out⟩
    (fun w1 w2 ⟨h0, h1, h2⟩ hb => ⟨h0.below hb, h1.below hb, bw_step h2 hb⟩)
    (fun w1 w2 g ⟨h0, h1, h2⟩ hg hn ho => by
      have hg' : W.heap.size ≤ g ∨ g = w.heap.size := by
        rcases hg with h | ⟨l, hl, h⟩
        · exact .inl h
        · rcases l with _ | l
          · exact .inr h
          · exact absurd hl (by simp)
      exact ⟨h0.only hn ho, h1.only hn ho, below_only h2 ho (by have := Pa.out.lt; have := HB.out.size; omega)⟩)
    (fun l hl => by
        rcases l with _ | l
        · exact Pa.out
        · exact absurd hl (by simp))
    (fun l b w1 w2 hl h hb => by
        rcases l with _ | l
        · (cases b <;> exact h.below hb)
        · exact absurd hl (by simp))
    (fun l b w1 w2 g hl h hg hn ho => by
        rcases l with _ | l
        · (cases b; (exact h.only ho (Ne.symm hg)); (exact h.only (Ne.symm hg) hn ho))
        · exact absurd hl (by simp))
    (fun l hl => by
        rcases l with _ | l
        · exact Pa.out.lt
        · exact absurd hl (by simp))
    (fun l k hl hk hne => by rcases l with _ | l <;> rcases k with _ | k <;> simp at hl hk hne)
    ?_ ?_
  · refine ⟨?_, ?_, ?_, trivial⟩ <;> intro L V a1 w1 hf hG hsz hφ hψ hL hdep hcl
    · have e1 := old_slot hf 1 (by kernel_rfl)
      have hb0 := hψ 0 (by decide)
      rw [show [2].getD 0 0 = 2 from rfl, not_yet hcl 2 0 hL (by kernel_rfl)] at hb0
      exact ob_pure (ex_loadR rfl e1 hb0) rfl
    · obtain ⟨Fa1_, Fa2_, _⟩ := hG
      have d0 := dep_of hdep 0 (by kernel_rfl)
      have e3 := (new_slot hf 0 3 d0 (by kernel_rfl)).trans (show V 0 = .agg #[.bool sa1, .slice Aa1 na1 ca1, .bool sa2, .slice Aa2 na2 ca2] from hφ 0 d0)
      refine ob_go rfl (vs := #[.agg #[.bool sa1, .slice Aa1 na1 ca1, .bool sa2, .slice Aa2 na2 ca2]]) (by simp only [List.map_toArray, List.map_cons, List.map_nil, e3]) (by kernel_rfl) (normalizeR_any _ _ (Rat.divInt pa qa) n (RatA.of (Pair.mk (a := .A pa n) (b := .A qa n) Fa1_ Fa2_)) (by omega) (by omega)) ?_
      rintro e w2 ⟨⟨v, rfl, hv⟩, hb⟩
      exact ⟨v, rfl, hb, hv⟩
    · have d1 := dep_of hdep 1 (by kernel_rfl)
      have e4 := new_slot hf 1 4 d1 (by kernel_rfl)
      have p4 : Pair w1 (V 1) (.V ((Rat.divInt pa qa)).num) (.V (((Rat.divInt pa qa)).den : Int)) := hφ 1 d1
      have e1 := old_slot hf 1 (by kernel_rfl)
      have hb0 := hψ 0 (by decide)
      rw [show [2].getD 0 0 = 2 from rfl, hL] at hb0
      exact ob_fillOldR rfl e1 e4 hb0 p4 (fun w2 h => h) rfl
  · intro V W2 hG hsz2 hφ hψ hne
    have hlt2 : W.heap.size ≤ W2.heap.size := hsz2
    obtain ⟨Fa1_, Fa2_, HB_⟩ := hG
    have Fa1 := hid Fa1_
    have Fa2 := hid Fa2_
    have HB := hid HB_
    have y0 : V 0 = .agg #[.bool sa1, .slice Aa1 na1 ca1, .bool sa2, .slice Aa2 na2 ca2] := hφ 0 (by decide)
    obtain ⟨q2501, A2501, n2501, c2501, q2502, A2502, n2502, c2502, kb250, va250, vb250⟩ := hψ 0 (by decide)
    have Pa := hid kb250
    have Pa1 : Hid (IntV W2 (.agg #[.bool q2501, .slice A2501 n2501 c2501]) ((Rat.divInt pa qa)).num) := hid va250
    have Pa2 : Hid (IntV W2 (.agg #[.bool q2502, .slice A2502 n2502 c2502]) (((Rat.divInt pa qa)).den : Int)) := hid vb250
    clear kb250 va250 vb250
    simp only [puts, Act.put, List.setIfInBounds_toArray, List.set_cons_zero, List.set_cons_succ, y0]
    clear hφ hψ hne y0 Fa1_ Fa2_ HB_ hsz2
    go_wp2_with (with_reducible refine halt_at 5 rfl ?_)
    unfold Halted
    refine wp_list_each (by kernel_rfl) 2 18 rfl rfl (by kernel_rfl)
      [Fact.eq (.agg #[.bool q2501, .slice A2501 n2501 c2501, .bool q2502, .slice A2502 n2502 c2502]), Fact.eq (.bool true)]
      [.val, .val]
      (fun w' => IntA w' (.agg #[.bool sa1, .slice Aa1 na1 ca1]) (pa) n ∧ IntA w' (.agg #[.bool sa2, .slice Aa2 na2 ca2]) (qa) n ∧ Blk w' (w.heap.size) 26 #[.bool q2501, .slice A2501 n2501 c2501, .bool q2502, .slice A2502 n2502 c2502] ∧ IntV w' (.agg #[.bool q2501, .slice A2501 n2501 c2501]) (((Rat.divInt pa qa)).num) ∧ IntV w' (.agg #[.bool q2502, .slice A2502 n2502 c2502]) ((((Rat.divInt pa qa)).den : Int)) ∧ Below w.heap.size w w')
      (fun _ _ _ => True) [] (fun _ => 0) (by kernel_rfl)
      ⟨Fa1.out, Fa2.out, Pa.out, Pa1.out, Pa2.out, HB.out⟩
      (fun w1 w2 ⟨h0, h1, h2, h3, h4, h5⟩ hb => ⟨h0.below hb, h1.below hb, h2.below hb, h3.below hb, h4.below hb, bw_step h5 hb⟩)
      (fun w1 w2 g ⟨h0, h1, h2, h3, h4, h5⟩ hg hn ho => by
        have hg' : W2.heap.size ≤ g := hg.elim id (fun ⟨_, h, _⟩ => absurd h (Nat.not_lt_zero _))
        exact ⟨h0.only hn ho, h1.only hn ho, h2.only ho (by have := Pa.out.lt; omega), h3.only hn ho, h4.only hn ho, below_only h5 ho (by have := Pa.out.lt; have := HB.out.size; omega)⟩)
      (fun l h => trivial) (fun l b w1 w2 h _ _ => trivial) (fun l b w1 w2 g h _ _ _ _ => trivial) (fun l h => by cases h) (fun l k h => by cases h) ?_ ?_
    · refine ⟨?_, ?_, trivial⟩ <;> intro L V a1 w1 hf hG hsz hφ hψ hL hdep hcl
      · obtain ⟨_, _, Pa_, _⟩ := hG
        have e1 := old_slot hf 1 (by kernel_rfl)
        exact ob_pure (ex_loadR rfl e1 Pa_) rfl
      · obtain ⟨_, _, _, Pa1_, Pa2_, _⟩ := hG
        have d0 := dep_of hdep 0 (by kernel_rfl)
        have e5 := (new_slot hf 0 5 d0 (by kernel_rfl)).trans (show V 0 = .agg #[.bool q2501, .slice A2501 n2501 c2501, .bool q2502, .slice A2502 n2502 c2502] from hφ 0 d0)
        refine ob_go rfl (vs := #[.agg #[.bool q2501, .slice A2501 n2501 c2501, .bool q2502, .slice A2502 n2502 c2502]]) (by simp only [List.map_toArray, List.map_cons, List.map_nil, e5]) (by kernel_rfl) (isWholeR_any _ _ (Rat.divInt pa qa) n (RatV.arg (x := (Rat.divInt pa qa)) (Pair.mk (a := .V ((Rat.divInt pa qa)).num) (b := .V (((Rat.divInt pa qa)).den : Int)) Pa1_ Pa2_) ((RS1.out).to (by omega))) (by omega) (by omega)) ?_
        rintro e w2 ⟨he, hb⟩
        rw [hw.out] at he
        exact ⟨_, he, hb, rfl⟩
    · intro V W4 hG hsz4 hφ hψ hne
      have hlt4 : W2.heap.size ≤ W4.heap.size := hsz4
      obtain ⟨Fa1_, Fa2_, Pa_, Pa1_, Pa2_, HB_⟩ := hG
      have Fa1 := hid Fa1_
      have Fa2 := hid Fa2_
      have Pa := hid Pa_
      have Pa1 := hid Pa1_
      have Pa2 := hid Pa2_
      have HB := hid HB_
      have y0 : V 0 = .agg #[.bool q2501, .slice A2501 n2501 c2501, .bool q2502, .slice A2502 n2502 c2502] := hφ 0 (by decide)
      have y1 : V 1 = .bool true := hφ 1 (by decide)
      simp only [puts, Act.put, List.setIfInBounds_toArray, List.set_cons_zero, List.set_cons_succ, y0, y1]
      clear hφ hψ hne y0 y1 Fa1_ Fa2_ Pa_ Pa1_ Pa2_ HB_ hsz4
      go_wp2_with (with_reducible refine halt_at 7 rfl ?_)
      unfold Halted
      refine wp_list_each (by kernel_rfl) 4 18 rfl rfl (by kernel_rfl)
        [Fact.eq (.pointer (some ⟨w.heap.size, 0, none⟩)), Fact.eq (.agg #[.bool q2501, .slice A2501 n2501 c2501]), Fact.eq (.string (ByteArray.mk (text ((Rat.divInt pa qa)).num).toArray)), Fact.eq (.string (ByteArray.mk (text ((Rat.divInt pa qa)).num).toArray))]
        [.val, .val, .val, .val]
        (fun w' => IntA w' (.agg #[.bool sa1, .slice Aa1 na1 ca1]) (pa) n ∧ IntA w' (.agg #[.bool sa2, .slice Aa2 na2 ca2]) (qa) n ∧ Blk w' (w.heap.size) 26 #[.bool q2501, .slice A2501 n2501 c2501, .bool q2502, .slice A2502 n2502 c2502] ∧ IntV w' (.agg #[.bool q2501, .slice A2501 n2501 c2501]) (((Rat.divInt pa qa)).num) ∧ IntV w' (.agg #[.bool q2502, .slice A2502 n2502 c2502]) ((((Rat.divInt pa qa)).den : Int)) ∧ Below w.heap.size w w')
        (fun _ _ _ => True) [] (fun _ => 0) (by kernel_rfl)
        ⟨Fa1.out, Fa2.out, Pa.out, Pa1.out, Pa2.out, HB.out⟩
        (fun w1 w2 ⟨h0, h1, h2, h3, h4, h5⟩ hb => ⟨h0.below hb, h1.below hb, h2.below hb, h3.below hb, h4.below hb, bw_step h5 hb⟩)
        (fun w1 w2 g ⟨h0, h1, h2, h3, h4, h5⟩ hg hn ho => by
          have hg' : W4.heap.size ≤ g := hg.elim id (fun ⟨_, h, _⟩ => absurd h (Nat.not_lt_zero _))
          exact ⟨h0.only hn ho, h1.only hn ho, h2.only ho (by have := Pa.out.lt; omega), h3.only hn ho, h4.only hn ho, below_only h5 ho (by have := Pa.out.lt; have := HB.out.size; omega)⟩)
        (fun l h => trivial) (fun l b w1 w2 h _ _ => trivial) (fun l b w1 w2 g h _ _ _ _ => trivial) (fun l h => by cases h) (fun l k h => by cases h) ?_ ?_
      · refine ⟨?_, ?_, ?_, ?_, trivial⟩ <;> intro L V a1 w1 hf hG hsz hφ hψ hL hdep hcl
        · have e1 := old_slot hf 1 (by kernel_rfl)
          exact ob_pure (ex_fieldAddrR0 rfl e1) rfl
        · obtain ⟨_, _, Pa_, _⟩ := hG
          have d0 := dep_of hdep 0 (by kernel_rfl)
          have e7 := (new_slot hf 0 7 d0 (by kernel_rfl)).trans (show V 0 = .pointer (some ⟨w.heap.size, 0, none⟩) from hφ 0 d0)
          exact ob_pure (ex_load_at0 rfl e7 Pa_) rfl
        · obtain ⟨_, _, _, Pa1_, _⟩ := hG
          have d1 := dep_of hdep 1 (by kernel_rfl)
          have e8 := (new_slot hf 1 8 d1 (by kernel_rfl)).trans (show V 1 = .agg #[.bool q2501, .slice A2501 n2501 c2501] from hφ 1 d1)
          refine ob_go rfl (vs := #[.agg #[.bool q2501, .slice A2501 n2501 c2501]]) (by simp only [List.map_toArray, List.map_cons, List.map_nil, e8]) (by kernel_rfl) (format_any _ _ ((Rat.divInt pa qa)).num n (IntV.arg Pa1_ (Sm.to ((RS1.out).1) (by omega))) (by omega)) ?_
          rintro e w2 ⟨he, hb⟩
          exact ⟨_, he, hb, rfl⟩
        · have d2 := dep_of hdep 2 (by kernel_rfl)
          have e9 := (new_slot hf 2 9 d2 (by kernel_rfl)).trans (show V 2 = .string (ByteArray.mk (text ((Rat.divInt pa qa)).num).toArray) from hφ 2 d2)
          exact ob_pure (v := .string (ByteArray.mk (text ((Rat.divInt pa qa)).num).toArray)) (ex_assignV rfl e9) rfl
      · intro V W5 hG hsz5 hφ hψ hne
        have hlt5 : W4.heap.size ≤ W5.heap.size := hsz5
        obtain ⟨Fa1_, Fa2_, Pa_, Pa1_, Pa2_, HB_⟩ := hG
        have Fa1 := hid Fa1_
        have Fa2 := hid Fa2_
        have Pa := hid Pa_
        have Pa1 := hid Pa1_
        have Pa2 := hid Pa2_
        have HB := hid HB_
        have y0 : V 0 = .pointer (some ⟨w.heap.size, 0, none⟩) := hφ 0 (by decide)
        have y1 : V 1 = .agg #[.bool q2501, .slice A2501 n2501 c2501] := hφ 1 (by decide)
        have y2 : V 2 = .string (ByteArray.mk (text ((Rat.divInt pa qa)).num).toArray) := hφ 2 (by decide)
        have y3 : V 3 = .string (ByteArray.mk (text ((Rat.divInt pa qa)).num).toArray) := hφ 3 (by decide)
        simp only [puts, Act.put, List.setIfInBounds_toArray, List.set_cons_zero, List.set_cons_succ, y0, y1, y2, y3]
        clear hφ hψ hne y0 y1 y2 y3 Fa1_ Fa2_ Pa_ Pa1_ Pa2_ HB_ hsz5
        go_wp2
        go_ret
        exact ⟨by rw [ratT, if_pos (by simpa using hw.out)]; first | done | rfl, HB.out⟩
set_option maxHeartbeats 4000000 in
theorem formatR_part (w : World) (va : Value) (x : Rat) (n : Nat) (ha : RatA w va x n) (h1n : 1 ≤ n) (hn : n ≤ 100000) (hw : Hid (decide (x.den = 1) = false)) :
    Calls Try.prog 36 #[va] w fun e w' => e = .returned (.string (ratT x)) ∧ Below w.heap.size w w' := by
  obtain ⟨pa, qa, ha, rfl⟩ := ha
  obtain ⟨sa1, Aa1, na1, ca1, sa2, Aa2, na2, ca2, rfl, h1, h2⟩ := ha.form
  have Fa1 : Hid (IntA w (.agg #[.bool sa1, .slice Aa1 na1 ca1]) pa n) := hid h1
  have Fa2 : Hid (IntA w (.agg #[.bool sa2, .slice Aa2 na2 ca2]) qa n) := hid h2
  have Sa1 := hid Fa1.out.sm
  have Sa2 := hid Fa2.out.sm
  clear h1 h2 ha
  have HB := hid (Below.refl w.heap.size w)
  obtain ⟨W, hW⟩ : ∃ W, W = (w.alloc (.cells #[.bool sa1, .slice Aa1 na1 ca1, .bool sa2, .slice Aa2 na2 ca2] 26)) := ⟨_, rfl⟩
  have hbb : Below w.heap.size w W := by rw [hW]; exact (bw_alloc (Below.refl _ _) _)
  have HB := hid (bw_step HB.out hbb)
  have Fa1 := hid (Fa1.out.below hbb)
  have Fa2 := hid (Fa2.out.below hbb)
  have Pa : Hid (Blk W (w.heap.size) 26 #[.bool sa1, .slice Aa1 na1 ca1, .bool sa2, .slice Aa2 na2 ca2]) := by
    rw [hW]
    have := Blk.new w 26 #[.bool sa1, .slice Aa1 na1 ca1, .bool sa2, .slice Aa2 na2 ca2]
    exact hid (by simpa only [World.size_alloc] using this)
  clear hbb
  have L1 := hid (text_size (RS.of Sa1.out Sa2.out h1n).1)
  have L2 := hid (text_size (RS.of Sa1.out Sa2.out h1n).2)
  go_enter Try.func36, Try.ntmps36
  go_wp2_with (with_reducible refine halt_at 3 rfl ?_)
  rw [← hW]
  clear hW
  have RS1 : Hid (RS n (Rat.divInt pa qa)) := hid ((RS.of (Sa1.out) (Sa2.out) (by omega)))
  unfold Halted
  refine wp_list_each (by kernel_rfl) 3 18 rfl rfl (by kernel_rfl)
    [Fact.eq (.agg #[.bool sa1, .slice Aa1 na1 ca1, .bool sa2, .slice Aa2 na2 ca2]), Fact.pair (.V ((Rat.divInt pa qa)).num) (.V (((Rat.divInt pa qa)).den : Int)), Fact.top _]
    [.val, .val, .fillOld 0]
    (fun w' => IntA w' (.agg #[.bool sa1, .slice Aa1 na1 ca1]) (pa) n ∧ IntA w' (.agg #[.bool sa2, .slice Aa2 na2 ca2]) (qa) n ∧ Below w.heap.size w w')
    (fun l b w' => match l with
      | 0 => if b = true then BoxR w' (w.heap.size) 26 (.V ((Rat.divInt pa qa)).num) (.V (((Rat.divInt pa qa)).den : Int)) else Blk w' (w.heap.size) 26 #[.bool sa1, .slice Aa1 na1 ca1, .bool sa2, .slice Aa2 na2 ca2]
      | _ => True)
    [2] (fun l => match l with | 0 => w.heap.size | _ => 0) (by kernel_rfl)
    ⟨Fa1.out, Fa2.out, HB.out⟩
    (fun w1 w2 ⟨h0, h1, h2⟩ hb => ⟨h0.below hb, h1.below hb, bw_step h2 hb⟩)
    (fun w1 w2 g ⟨h0, h1, h2⟩ hg hn ho => by
      have hg' : W.heap.size ≤ g ∨ g = w.heap.size := by
        rcases hg with h | ⟨l, hl, h⟩
        · exact .inl h
        · rcases l with _ | l
          · exact .inr h
          · exact absurd hl (by simp)
      exact ⟨h0.only hn ho, h1.only hn ho, below_only h2 ho (by have := Pa.out.lt; have := HB.out.size; omega)⟩)
    (fun l hl => by
        rcases l with _ | l
        · exact Pa.out
        · exact absurd hl (by simp))
    (fun l b w1 w2 hl h hb => by
        rcases l with _ | l
        · (cases b <;> exact h.below hb)
        · exact absurd hl (by simp))
    (fun l b w1 w2 g hl h hg hn ho => by
        rcases l with _ | l
        · (cases b; (exact h.only ho (Ne.symm hg)); (exact h.only (Ne.symm hg) hn ho))
        · exact absurd hl (by simp))
    (fun l hl => by
        rcases l with _ | l
        · exact Pa.out.lt
        · exact absurd hl (by simp))
    (fun l k hl hk hne => by rcases l with _ | l <;> rcases k with _ | k <;> simp at hl hk hne)
    ?_ ?_
  · refine ⟨?_, ?_, ?_, trivial⟩ <;> intro L V a1 w1 hf hG hsz hφ hψ hL hdep hcl
    · have e1 := old_slot hf 1 (by kernel_rfl)
      have hb0 := hψ 0 (by decide)
      rw [show [2].getD 0 0 = 2 from rfl, not_yet hcl 2 0 hL (by kernel_rfl)] at hb0
      exact ob_pure (ex_loadR rfl e1 hb0) rfl
    · obtain ⟨Fa1_, Fa2_, _⟩ := hG
      have d0 := dep_of hdep 0 (by kernel_rfl)
      have e3 := (new_slot hf 0 3 d0 (by kernel_rfl)).trans (show V 0 = .agg #[.bool sa1, .slice Aa1 na1 ca1, .bool sa2, .slice Aa2 na2 ca2] from hφ 0 d0)
      refine ob_go rfl (vs := #[.agg #[.bool sa1, .slice Aa1 na1 ca1, .bool sa2, .slice Aa2 na2 ca2]]) (by simp only [List.map_toArray, List.map_cons, List.map_nil, e3]) (by kernel_rfl) (normalizeR_any _ _ (Rat.divInt pa qa) n (RatA.of (Pair.mk (a := .A pa n) (b := .A qa n) Fa1_ Fa2_)) (by omega) (by omega)) ?_
      rintro e w2 ⟨⟨v, rfl, hv⟩, hb⟩
      exact ⟨v, rfl, hb, hv⟩
    · have d1 := dep_of hdep 1 (by kernel_rfl)
      have e4 := new_slot hf 1 4 d1 (by kernel_rfl)
      have p4 : Pair w1 (V 1) (.V ((Rat.divInt pa qa)).num) (.V (((Rat.divInt pa qa)).den : Int)) := hφ 1 d1
      have e1 := old_slot hf 1 (by kernel_rfl)
      have hb0 := hψ 0 (by decide)
      rw [show [2].getD 0 0 = 2 from rfl, hL] at hb0
      exact ob_fillOldR rfl e1 e4 hb0 p4 (fun w2 h => h) rfl
  · intro V W2 hG hsz2 hφ hψ hne
    have hlt2 : W.heap.size ≤ W2.heap.size := hsz2
    obtain ⟨Fa1_, Fa2_, HB_⟩ := hG
    have Fa1 := hid Fa1_
    have Fa2 := hid Fa2_
    have HB := hid HB_
    have y0 : V 0 = .agg #[.bool sa1, .slice Aa1 na1 ca1, .bool sa2, .slice Aa2 na2 ca2] := hφ 0 (by decide)
    obtain ⟨q2501, A2501, n2501, c2501, q2502, A2502, n2502, c2502, kb250, va250, vb250⟩ := hψ 0 (by decide)
    have Pa := hid kb250
    have Pa1 : Hid (IntV W2 (.agg #[.bool q2501, .slice A2501 n2501 c2501]) ((Rat.divInt pa qa)).num) := hid va250
    have Pa2 : Hid (IntV W2 (.agg #[.bool q2502, .slice A2502 n2502 c2502]) (((Rat.divInt pa qa)).den : Int)) := hid vb250
    clear kb250 va250 vb250
    simp only [puts, Act.put, List.setIfInBounds_toArray, List.set_cons_zero, List.set_cons_succ, y0]
    clear hφ hψ hne y0 Fa1_ Fa2_ HB_ hsz2
    go_wp2_with (with_reducible refine halt_at 5 rfl ?_)
    unfold Halted
    refine wp_list_each (by kernel_rfl) 2 18 rfl rfl (by kernel_rfl)
      [Fact.eq (.agg #[.bool q2501, .slice A2501 n2501 c2501, .bool q2502, .slice A2502 n2502 c2502]), Fact.eq (.bool false)]
      [.val, .val]
      (fun w' => IntA w' (.agg #[.bool sa1, .slice Aa1 na1 ca1]) (pa) n ∧ IntA w' (.agg #[.bool sa2, .slice Aa2 na2 ca2]) (qa) n ∧ Blk w' (w.heap.size) 26 #[.bool q2501, .slice A2501 n2501 c2501, .bool q2502, .slice A2502 n2502 c2502] ∧ IntV w' (.agg #[.bool q2501, .slice A2501 n2501 c2501]) (((Rat.divInt pa qa)).num) ∧ IntV w' (.agg #[.bool q2502, .slice A2502 n2502 c2502]) ((((Rat.divInt pa qa)).den : Int)) ∧ Below w.heap.size w w')
      (fun _ _ _ => True) [] (fun _ => 0) (by kernel_rfl)
      ⟨Fa1.out, Fa2.out, Pa.out, Pa1.out, Pa2.out, HB.out⟩
      (fun w1 w2 ⟨h0, h1, h2, h3, h4, h5⟩ hb => ⟨h0.below hb, h1.below hb, h2.below hb, h3.below hb, h4.below hb, bw_step h5 hb⟩)
      (fun w1 w2 g ⟨h0, h1, h2, h3, h4, h5⟩ hg hn ho => by
        have hg' : W2.heap.size ≤ g := hg.elim id (fun ⟨_, h, _⟩ => absurd h (Nat.not_lt_zero _))
        exact ⟨h0.only hn ho, h1.only hn ho, h2.only ho (by have := Pa.out.lt; omega), h3.only hn ho, h4.only hn ho, below_only h5 ho (by have := Pa.out.lt; have := HB.out.size; omega)⟩)
      (fun l h => trivial) (fun l b w1 w2 h _ _ => trivial) (fun l b w1 w2 g h _ _ _ _ => trivial) (fun l h => by cases h) (fun l k h => by cases h) ?_ ?_
    · refine ⟨?_, ?_, trivial⟩ <;> intro L V a1 w1 hf hG hsz hφ hψ hL hdep hcl
      · obtain ⟨_, _, Pa_, _⟩ := hG
        have e1 := old_slot hf 1 (by kernel_rfl)
        exact ob_pure (ex_loadR rfl e1 Pa_) rfl
      · obtain ⟨_, _, _, Pa1_, Pa2_, _⟩ := hG
        have d0 := dep_of hdep 0 (by kernel_rfl)
        have e5 := (new_slot hf 0 5 d0 (by kernel_rfl)).trans (show V 0 = .agg #[.bool q2501, .slice A2501 n2501 c2501, .bool q2502, .slice A2502 n2502 c2502] from hφ 0 d0)
        refine ob_go rfl (vs := #[.agg #[.bool q2501, .slice A2501 n2501 c2501, .bool q2502, .slice A2502 n2502 c2502]]) (by simp only [List.map_toArray, List.map_cons, List.map_nil, e5]) (by kernel_rfl) (isWholeR_any _ _ (Rat.divInt pa qa) n (RatV.arg (x := (Rat.divInt pa qa)) (Pair.mk (a := .V ((Rat.divInt pa qa)).num) (b := .V (((Rat.divInt pa qa)).den : Int)) Pa1_ Pa2_) ((RS1.out).to (by omega))) (by omega) (by omega)) ?_
        rintro e w2 ⟨he, hb⟩
        rw [hw.out] at he
        exact ⟨_, he, hb, rfl⟩
    · intro V W4 hG hsz4 hφ hψ hne
      have hlt4 : W2.heap.size ≤ W4.heap.size := hsz4
      obtain ⟨Fa1_, Fa2_, Pa_, Pa1_, Pa2_, HB_⟩ := hG
      have Fa1 := hid Fa1_
      have Fa2 := hid Fa2_
      have Pa := hid Pa_
      have Pa1 := hid Pa1_
      have Pa2 := hid Pa2_
      have HB := hid HB_
      have y0 : V 0 = .agg #[.bool q2501, .slice A2501 n2501 c2501, .bool q2502, .slice A2502 n2502 c2502] := hφ 0 (by decide)
      have y1 : V 1 = .bool false := hφ 1 (by decide)
      simp only [puts, Act.put, List.setIfInBounds_toArray, List.set_cons_zero, List.set_cons_succ, y0, y1]
      clear hφ hψ hne y0 y1 Fa1_ Fa2_ Pa_ Pa1_ Pa2_ HB_ hsz4
      go_wp2_with fail
      refine wp_region_each (by kernel_rfl) 9 18 rfl rfl (by kernel_rfl)
        [Fact.eq (.pointer (some ⟨w.heap.size, 0, none⟩)), Fact.eq (.agg #[.bool q2501, .slice A2501 n2501 c2501]), Fact.eq (.string (ByteArray.mk (text ((Rat.divInt pa qa)).num).toArray)), Fact.eq (.string ((ByteArray.mk (text ((Rat.divInt pa qa)).num).toArray) ++ (ByteArray.mk #[47]))), Fact.eq (.pointer (some ⟨w.heap.size, 2, none⟩)), Fact.eq (.agg #[.bool q2502, .slice A2502 n2502 c2502]), Fact.eq (.string (ByteArray.mk (text (((Rat.divInt pa qa)).den : Int)).toArray)), Fact.eq (.string (((ByteArray.mk (text ((Rat.divInt pa qa)).num).toArray) ++ (ByteArray.mk #[47])) ++ (ByteArray.mk (text (((Rat.divInt pa qa)).den : Int)).toArray))), Fact.eq (.string (((ByteArray.mk (text ((Rat.divInt pa qa)).num).toArray) ++ (ByteArray.mk #[47])) ++ (ByteArray.mk (text (((Rat.divInt pa qa)).den : Int)).toArray)))]
        [.val, .val, .val, .val, .val, .val, .val, .val, .val]
        (fun w' => IntA w' (.agg #[.bool sa1, .slice Aa1 na1 ca1]) (pa) n ∧ IntA w' (.agg #[.bool sa2, .slice Aa2 na2 ca2]) (qa) n ∧ Blk w' (w.heap.size) 26 #[.bool q2501, .slice A2501 n2501 c2501, .bool q2502, .slice A2502 n2502 c2502] ∧ IntV w' (.agg #[.bool q2501, .slice A2501 n2501 c2501]) (((Rat.divInt pa qa)).num) ∧ IntV w' (.agg #[.bool q2502, .slice A2502 n2502 c2502]) ((((Rat.divInt pa qa)).den : Int)) ∧ Below w.heap.size w w')
        (fun _ _ _ => True) [] (fun _ => 0) (by kernel_rfl)
        ⟨Fa1.out, Fa2.out, Pa.out, Pa1.out, Pa2.out, HB.out⟩
        (fun w1 w2 ⟨h0, h1, h2, h3, h4, h5⟩ hb => ⟨h0.below hb, h1.below hb, h2.below hb, h3.below hb, h4.below hb, bw_step h5 hb⟩)
        (fun w1 w2 g ⟨h0, h1, h2, h3, h4, h5⟩ hg hn ho => by
          have hg' : W4.heap.size ≤ g := hg.elim id (fun ⟨_, h, _⟩ => absurd h (Nat.not_lt_zero _))
          exact ⟨h0.only hn ho, h1.only hn ho, h2.only ho (by have := Pa.out.lt; omega), h3.only hn ho, h4.only hn ho, below_only h5 ho (by have := Pa.out.lt; have := HB.out.size; omega)⟩)
        (fun l h => trivial) (fun l b w1 w2 h _ _ => trivial) (fun l b w1 w2 g h _ _ _ _ => trivial) (fun l h => by cases h) (fun l k h => by cases h) ?_ ?_
      · refine ⟨?_, ?_, ?_, ?_, ?_, ?_, ?_, ?_, ?_, trivial⟩ <;> intro L V a1 w1 hf hG hsz hφ hψ hL hdep hcl
        · have e1 := old_slot hf 1 (by kernel_rfl)
          exact ob_pure (ex_fieldAddrR0 rfl e1) rfl
        · obtain ⟨_, _, Pa_, _⟩ := hG
          have d0 := dep_of hdep 0 (by kernel_rfl)
          have e10 := (new_slot hf 0 10 d0 (by kernel_rfl)).trans (show V 0 = .pointer (some ⟨w.heap.size, 0, none⟩) from hφ 0 d0)
          exact ob_pure (ex_load_at0 rfl e10 Pa_) rfl
        · obtain ⟨_, _, _, Pa1_, _⟩ := hG
          have d1 := dep_of hdep 1 (by kernel_rfl)
          have e11 := (new_slot hf 1 11 d1 (by kernel_rfl)).trans (show V 1 = .agg #[.bool q2501, .slice A2501 n2501 c2501] from hφ 1 d1)
          refine ob_go rfl (vs := #[.agg #[.bool q2501, .slice A2501 n2501 c2501]]) (by simp only [List.map_toArray, List.map_cons, List.map_nil, e11]) (by kernel_rfl) (format_any _ _ ((Rat.divInt pa qa)).num n (IntV.arg Pa1_ (Sm.to ((RS1.out).1) (by omega))) (by omega)) ?_
          rintro e w2 ⟨he, hb⟩
          exact ⟨_, he, hb, rfl⟩
        · have d2 := dep_of hdep 2 (by kernel_rfl)
          have e12 := (new_slot hf 2 12 d2 (by kernel_rfl)).trans (show V 2 = .string (ByteArray.mk (text ((Rat.divInt pa qa)).num).toArray) from hφ 2 d2)
          exact ob_pure (ex_add_str rfl e12 rfl (by have := L1.out; have := L2.out; (try simp only [ByteArray.size_append]); (try have e47 : (ByteArray.mk #[47]).size = 1 := rfl); omega)) rfl
        · have e1 := old_slot hf 1 (by kernel_rfl)
          exact ob_pure (ex_fieldAddrR1 rfl e1) rfl
        · obtain ⟨_, _, Pa_, _⟩ := hG
          have d4 := dep_of hdep 4 (by kernel_rfl)
          have e14 := (new_slot hf 4 14 d4 (by kernel_rfl)).trans (show V 4 = .pointer (some ⟨w.heap.size, 2, none⟩) from hφ 4 d4)
          exact ob_pure (ex_load_at2 rfl e14 Pa_) rfl
        · obtain ⟨_, _, _, _, Pa2_, _⟩ := hG
          have d5 := dep_of hdep 5 (by kernel_rfl)
          have e15 := (new_slot hf 5 15 d5 (by kernel_rfl)).trans (show V 5 = .agg #[.bool q2502, .slice A2502 n2502 c2502] from hφ 5 d5)
          refine ob_go rfl (vs := #[.agg #[.bool q2502, .slice A2502 n2502 c2502]]) (by simp only [List.map_toArray, List.map_cons, List.map_nil, e15]) (by kernel_rfl) (format_any _ _ (((Rat.divInt pa qa)).den : Int) n (IntV.arg Pa2_ (Sm.to ((RS1.out).2) (by omega))) (by omega)) ?_
          rintro e w2 ⟨he, hb⟩
          exact ⟨_, he, hb, rfl⟩
        · have d3 := dep_of hdep 3 (by kernel_rfl)
          have e13 := (new_slot hf 3 13 d3 (by kernel_rfl)).trans (show V 3 = .string ((ByteArray.mk (text ((Rat.divInt pa qa)).num).toArray) ++ (ByteArray.mk #[47])) from hφ 3 d3)
          have d6 := dep_of hdep 6 (by kernel_rfl)
          have e16 := (new_slot hf 6 16 d6 (by kernel_rfl)).trans (show V 6 = .string (ByteArray.mk (text (((Rat.divInt pa qa)).den : Int)).toArray) from hφ 6 d6)
          exact ob_pure (ex_add_str rfl e13 e16 (by have := L1.out; have := L2.out; (try simp only [ByteArray.size_append]); (try have e47 : (ByteArray.mk #[47]).size = 1 := rfl); omega)) rfl
        · have d7 := dep_of hdep 7 (by kernel_rfl)
          have e17 := (new_slot hf 7 17 d7 (by kernel_rfl)).trans (show V 7 = .string (((ByteArray.mk (text ((Rat.divInt pa qa)).num).toArray) ++ (ByteArray.mk #[47])) ++ (ByteArray.mk (text (((Rat.divInt pa qa)).den : Int)).toArray)) from hφ 7 d7)
          exact ob_pure (v := .string (((ByteArray.mk (text ((Rat.divInt pa qa)).num).toArray) ++ (ByteArray.mk #[47])) ++ (ByteArray.mk (text (((Rat.divInt pa qa)).den : Int)).toArray))) (ex_assignV rfl e17) rfl
      · intro V W5 hG hsz5 hφ hψ hne
        have hlt5 : W4.heap.size ≤ W5.heap.size := hsz5
        obtain ⟨Fa1_, Fa2_, Pa_, Pa1_, Pa2_, HB_⟩ := hG
        have Fa1 := hid Fa1_
        have Fa2 := hid Fa2_
        have Pa := hid Pa_
        have Pa1 := hid Pa1_
        have Pa2 := hid Pa2_
        have HB := hid HB_
        have y0 : V 0 = .pointer (some ⟨w.heap.size, 0, none⟩) := hφ 0 (by decide)
        have y1 : V 1 = .agg #[.bool q2501, .slice A2501 n2501 c2501] := hφ 1 (by decide)
        have y2 : V 2 = .string (ByteArray.mk (text ((Rat.divInt pa qa)).num).toArray) := hφ 2 (by decide)
        have y3 : V 3 = .string ((ByteArray.mk (text ((Rat.divInt pa qa)).num).toArray) ++ (ByteArray.mk #[47])) := hφ 3 (by decide)
        have y4 : V 4 = .pointer (some ⟨w.heap.size, 2, none⟩) := hφ 4 (by decide)
        have y5 : V 5 = .agg #[.bool q2502, .slice A2502 n2502 c2502] := hφ 5 (by decide)
        have y6 : V 6 = .string (ByteArray.mk (text (((Rat.divInt pa qa)).den : Int)).toArray) := hφ 6 (by decide)
        have y7 : V 7 = .string (((ByteArray.mk (text ((Rat.divInt pa qa)).num).toArray) ++ (ByteArray.mk #[47])) ++ (ByteArray.mk (text (((Rat.divInt pa qa)).den : Int)).toArray)) := hφ 7 (by decide)
        have y8 : V 8 = .string (((ByteArray.mk (text ((Rat.divInt pa qa)).num).toArray) ++ (ByteArray.mk #[47])) ++ (ByteArray.mk (text (((Rat.divInt pa qa)).den : Int)).toArray)) := hφ 8 (by decide)
        simp only [puts, Act.put, List.setIfInBounds_toArray, List.set_cons_zero, List.set_cons_succ, y0, y1, y2, y3, y4, y5, y6, y7, y8]
        clear hφ hψ hne y0 y1 y2 y3 y4 y5 y6 y7 y8 Fa1_ Fa2_ Pa_ Pa1_ Pa2_ HB_ hsz5
        go_wp2
        go_ret
        exact ⟨by rw [ratT, if_neg (by simpa using hw.out)]; first | done | rfl, HB.out⟩
theorem formatR_any (w : World) (va : Value) (x : Rat) (n : Nat) (ha : RatA w va x n) (h1n : 1 ≤ n) (hn : n ≤ 100000) :
    Calls Try.prog 36 #[va] w fun e w' => e = .returned (.string (ratT x)) ∧ Below w.heap.size w w' := by
  cases h : decide (x.den = 1) with
  | true => exact formatR_whole w va x n ha h1n hn (hid h)
  | false => exact formatR_part w va x n ha h1n hn (hid h)
end Go.Proofs.Ytijmjkkjopplbaa

