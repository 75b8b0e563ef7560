/- A part of the proof of the laws of rationals: RatRef1. -/
import Derived.Test.YtklamiajcdkmnaaPae
import Derived.Test.YtklamiajcdkmnaaPam
import Derived.Test.YtklamiajcdkmnaaPbh
import Derived.Test.YtklamiajcdkmnaaPal
import Derived.Test.YtklamiajcdkmnaaPab
import Derived.Test.YtklamiajcdkmnaaPad
import Derived.Test.YtklamiajcdkmnaaPbb
import Derived.Test.YtklamiajcdkmnaaPac
import Derived.Test.YtklamiajcdkmnaaPao
import Derived.Test.YtklamiajcdkmnaaPat
import Derived.Test.YtklamiajcdkmnaaPba
import Derived.Test.YtklamiajcdkmnaaPaa
import Derived.Test.YtklamiajcdkmnaaPai
import Derived.Test.YtklamiajcdkmnaaPas
import Derived.Test.YtklamiajcdkmnaaPbf
import Derived.Test.YtklamiajcdkmnaaPbe
import Derived.Test.YtklamiajcdkmnaaPbg
import Derived.Test.YtklamiajcdkmnaaPbd
import Derived.Test.YtklamiajcdkmnaaPbj
import Derived.Test.YtklamiajcdkmnaaPau
import Derived.Test.YtklamiajcdkmnaaPbi
import Derived.Test.YtklamiajcdkmnaaPar
import Derived.Test.YtklamiajcdkmnaaPaw
import Derived.Test.YtklamiajcdkmnaaPbk
import Derived.Test.YtklamiajcdkmnaaPap
import Derived.Test.YtklamiajcdkmnaaPav
import Derived.Test.YtklamiajcdkmnaaPan
import Derived.Test.YtklamiajcdkmnaaPbc
import Derived.Test.YtklamiajcdkmnaaPak
namespace Go.Proofs.Ytklamiajcdkmnaa
open Go.RowKit
set_option linter.unusedVariables false
set_option maxRecDepth 100000

set_option maxHeartbeats 4000000 in
theorem rwholeR_any (w : World) (va : Value) (za : Int) (n : Nat) (ha : IntA w va za n) :
    Calls Try.prog 69 #[va] w fun e w' => RetR w' ((za : Int) : Rat) e ∧ Below w.heap.size w w' := by
  have Fa := hid ha
  have Sa := hid ha.sm
  obtain ⟨sa, Aa, na, ca, rfl⟩ := ha.form
  clear ha
  have HB := hid (Below.refl w.heap.size w)
  obtain ⟨W, hW⟩ : ∃ W, W = ((w.alloc (.cells #[.bool sa, .slice Aa na ca] 24)).alloc (.cells #[.bool false, .slice none 0 0, .bool false, .slice none 0 0] 26)) := ⟨_, rfl⟩
  have hbb : Below w.heap.size w W := by rw [hW]; exact (bw_alloc (bw_alloc (Below.refl _ _) _) _)
  have HB := hid (bw_step HB.out hbb)
  have Fa := hid (Fa.out.below hbb)
  have Pa : Hid (Blk W (w.heap.size) 24 #[.bool sa, .slice Aa na ca]) := by
    rw [hW]
    have := (Blk.new w 24 #[.bool sa, .slice Aa na ca]).below (bw_alloc (Below.refl _ _) (.cells #[.bool false, .slice none 0 0, .bool false, .slice none 0 0] 26))
    exact hid (by simpa only [World.size_alloc] using this)
  have R0 : Hid (Blk W (w.heap.size + 1) 26 #[.bool false, .slice none 0 0, .bool false, .slice none 0 0]) := by
    rw [hW]
    have := Blk.new (w.alloc (.cells #[.bool sa, .slice Aa na ca] 24)) 26 #[.bool false, .slice none 0 0, .bool false, .slice none 0 0]
    exact hid (by simpa only [World.size_alloc] using this)
  clear hbb
  go_enter Try.func69, Try.ntmps69
  go_wp2_with (with_reducible refine halt_at 3 rfl ?_)
  rw [← hW]
  clear hW
  have SM1 : Hid (Sm n za) := hid ((Sa.out))
  unfold Halted
  refine wp_list_each (by kernel_rfl) 5 7 rfl rfl (by kernel_rfl)
    [Fact.eq (.agg #[.bool sa, .slice Aa na ca]), Fact.int za, Fact.int 1, Fact.pair (.V za) (.V 1), Fact.top _]
    [.val, .val, .val, .val, .fillOld 0]
    (fun w' => IntA w' (.agg #[.bool sa, .slice Aa na ca]) (za) n ∧ Blk w' (w.heap.size) 24 #[.bool sa, .slice Aa na ca] ∧ Below w.heap.size w w')
    (fun l b w' => match l with
      | 0 => if b = true then BoxR w' (w.heap.size + 1) 26 (.V za) (.V 1) else Blk w' (w.heap.size + 1) 26 #[.bool false, .slice none 0 0, .bool false, .slice none 0 0]
      | _ => True)
    [4] (fun l => match l with | 0 => w.heap.size + 1 | _ => 0) (by kernel_rfl)
    ⟨Fa.out, Pa.out, HB.out⟩
    (fun w1 w2 ⟨h0, h1, h2⟩ hb => ⟨h0.below hb, h1.below hb, bw_step h2 hb⟩)
    (fun w1 w2 g ⟨h0, h1, h2⟩ hg hn ho => by
      have hg' : W.heap.size ≤ g ∨ g = w.heap.size + 1 := by
        rcases hg with h | ⟨l, hl, h⟩
        · exact .inl h
        · rcases l with _ | l
          · exact .inr h
          · exact absurd hl (by simp)
      exact ⟨h0.only hn ho, h1.only ho (by have := Pa.out.lt; have := R0.out.lt; omega), below_only h2 ho (by have := Pa.out.lt; have := R0.out.lt; have := HB.out.size; omega)⟩)
    (fun l hl => by
        rcases l with _ | l
        · exact R0.out
        · exact absurd hl (by simp))
    (fun l b w1 w2 hl h hb => by
        rcases l with _ | l
        · (cases b <;> exact h.below hb)
        · exact absurd hl (by simp))
    (fun l b w1 w2 g hl h hg hn ho => by
        rcases l with _ | l
        · (cases b; (exact h.only ho (Ne.symm hg)); (exact h.only (Ne.symm hg) hn ho))
        · exact absurd hl (by simp))
    (fun l hl => by
        rcases l with _ | l
        · exact R0.out.lt
        · exact absurd hl (by simp))
    (fun l k hl hk hne => by rcases l with _ | l <;> rcases k with _ | k <;> simp at hl hk hne)
    ?_ ?_
  · refine ⟨?_, ?_, ?_, ?_, ?_, trivial⟩ <;> intro L V a1 w1 hf hG hsz hφ hψ hL hdep hcl
    · obtain ⟨Fa_, Pa_, HB_⟩ := hG
      have e1 := old_slot hf 1 (by kernel_rfl)
      exact ob_load_int rfl e1 Pa_ rfl
    · obtain ⟨Fa_, Pa_, HB_⟩ := hG
      have d0 := dep_of hdep 0 (by kernel_rfl)
      have e3 := (new_slot hf 0 3 d0 (by kernel_rfl)).trans (show V 0 = .agg #[.bool sa, .slice Aa na ca] from hφ 0 d0)
      refine ob_go rfl (vs := #[.agg #[.bool sa, .slice Aa na ca]]) (by simp only [List.map_toArray, List.map_cons, List.map_nil, e3]) (by kernel_rfl) (rnormalize_any _ (.agg #[.bool sa, .slice Aa na ca]) za n Fa_ ) ?_
      rintro e w2 ⟨⟨v, rfl, hv⟩, hb⟩
      exact ⟨v, rfl, hb, hv⟩
    · obtain ⟨Fa_, Pa_, HB_⟩ := hG
      refine ob_go rfl (vs := #[.int .i64 1]) (by simp only [List.map_toArray, List.map_cons, List.map_nil, ev_const]) (by kernel_rfl) (rsmall_any _ 1 (by decide) (by decide)) ?_
      rintro e w2 ⟨⟨v, rfl, hv⟩, hb⟩
      exact ⟨v, rfl, hb, hv⟩
    · obtain ⟨Fa_, Pa_, HB_⟩ := hG
      have d1 := dep_of hdep 1 (by kernel_rfl)
      have e4 := new_slot hf 1 4 d1 (by kernel_rfl)
      have p4 : IntV w1 (V 1) za := hφ 1 d1
      have d2 := dep_of hdep 2 (by kernel_rfl)
      have e5 := new_slot hf 2 5 d2 (by kernel_rfl)
      have p5 : IntV w1 (V 2) 1 := hφ 2 d2
      exact ob_buildR (A := .V za) (B := .V 1) rfl e4 p4 e5 p5 rfl
    · obtain ⟨Fa_, Pa_, HB_⟩ := hG
      have d3 := dep_of hdep 3 (by kernel_rfl)
      have e6 := new_slot hf 3 6 d3 (by kernel_rfl)
      have p6 : Pair w1 (V 3) (.V za) (.V 1) := hφ 3 d3
      have e2 := old_slot hf 2 (by kernel_rfl)
      have hb0 := hψ 0 (by decide)
      rw [show [4].getD 0 0 = 4 from rfl, hL] at hb0
      exact ob_fillOldR rfl e2 e6 hb0 p6 (fun w2 h => h) rfl
  · intro V W2 hG hsz2 hφ hψ hne
    have hlt2 : W.heap.size ≤ W2.heap.size := hsz2
    obtain ⟨Fa_, Pa_, HB_⟩ := hG
    have Fa := hid Fa_
    have Pa := hid Pa_
    have HB := hid HB_
    have y0 : V 0 = .agg #[.bool sa, .slice Aa na ca] := hφ 0 (by decide)
    obtain ⟨q2501, A2501, n2501, c2501, q2502, A2502, n2502, c2502, kb250, va250, vb250⟩ := hψ 0 (by decide)
    have R0 := hid kb250
    have R01 : Hid (IntV W2 (.agg #[.bool q2501, .slice A2501 n2501 c2501]) za) := hid va250
    have R02 : Hid (IntV W2 (.agg #[.bool q2502, .slice A2502 n2502 c2502]) 1) := hid vb250
    clear kb250 va250 vb250
    simp only [puts, Act.put, List.setIfInBounds_toArray, List.set_cons_zero, List.set_cons_succ, y0]
    clear hφ hψ hne y0 Fa_ Pa_ HB_ hsz2
    have k0 := R0.out.cell 0
    have k1 := R0.out.cell 1
    have k2 := R0.out.cell 2
    have k3 := R0.out.cell 3
    go_wp2
    refine bodyPost_ret (v := .agg #[.bool q2501, .slice A2501 n2501 c2501, .bool q2502, .slice A2502 n2502 c2502]) (by simp [results, Try.results69, go_sem, k0, k1, k2, k3]) rfl ⟨⟨_, rfl, ?_⟩, HB.out⟩
    exact RatV.ofInt (Pair.mk (a := .V za) (b := .V 1) R01.out R02.out)
set_option maxHeartbeats 4000000 in
theorem rsmallR_any (w : World) (k : Int) (h0 : -9223372036854775808 ≤ k) (h1 : k < 9223372036854775808) :
    Calls Try.prog 44 #[.int .i64 k] w fun e w' => RetR w' ((k : Int) : Rat) e ∧ Below w.heap.size w w' := by
  have sm := hid (Sm.i64 h0 h1)
  have HB := hid (Below.refl w.heap.size w)
  obtain ⟨W, hW⟩ : ∃ W, W = (w.alloc (.cells #[.bool false, .slice none 0 0, .bool false, .slice none 0 0] 26)) := ⟨_, rfl⟩
  have hbb : Below w.heap.size w W := by rw [hW]; exact (bw_alloc (Below.refl _ _) _)
  have HB := hid (bw_step HB.out hbb)
  have R0 : Hid (Blk W (w.heap.size) 26 #[.bool false, .slice none 0 0, .bool false, .slice none 0 0]) := by
    rw [hW]
    have := Blk.new w 26 #[.bool false, .slice none 0 0, .bool false, .slice none 0 0]
    exact hid (by simpa only [World.size_alloc] using this)
  clear hbb
  go_enter Try.func44, Try.ntmps44
  go_wp2_with fail
  rw [← hW]
  clear hW
  refine (rsmall_any _ k h0 h1).mono ?_
  rintro e W1 ⟨⟨v, rfl, hv⟩, hb1⟩
  have FV := hid hv
  clear hv
  have HB := hid (bw_step HB.out hb1)
  have R0 := hid (R0.out.below hb1)
  clear hb1
  go_wp2_with fail
  refine (rwholeR_any _ _ k 2 (FV.out.arg sm.out)).mono ?_
  rintro e W2 ⟨⟨u, rfl, hu⟩, hb2⟩
  obtain ⟨s1, A1, n1, c1, s2, A2, n2, c2, rfl, h1, h2⟩ := hu.form
  have F1 := hid h1
  have F2 := hid h2
  clear h1 h2 hu
  have HB := hid (bw_step HB.out hb2)
  have R0 := hid (R0.out.below hb2)
  have FV := hid (FV.out.below hb2)
  clear hb2
  have k0 := R0.out.cell 0
  have k1 := R0.out.cell 1
  have k2 := R0.out.cell 2
  have k3 := R0.out.cell 3
  have f0 := R0.out.free 0
  have f1 := R0.out.free 1
  have f2 := R0.out.free 2
  have f3 := R0.out.free 3
  go_wp2
  refine bodyPost_ret (v := .agg #[.bool s1, .slice A1 n1 c1, .bool s2, .slice A2 n2 c2]) (by simp [results, Try.results44, go_sem, k0, k1, k2, k3]) rfl ⟨⟨_, rfl, ?_⟩, ?_⟩
  · have hf := R0.out.numFree (noNum4' _ _ _ _ _ _ _ _) (fun e => absurd e Rne)
    exact Pair.only (Pair.mk (a := .V ((k : Int) : Rat).num) (b := .V (((k : Int) : Rat).den : Int)) F1.out F2.out) hf (only_four _ _ _ _ _ _)
  · exact below_only HB.out (only_four _ _ _ _ _ _) (Nat.le_refl _)
set_option maxHeartbeats 4000000 in
theorem rnormR_zero (w : World) (va : Value) (pa qa : Int) (n : Nat) (ha : Pair w va (.A pa n) (.A qa n)) (h1n : 1 ≤ n) (hn : n ≤ 300000) (hz : qa = 0) :
    Calls Try.prog 33 #[va] w fun e w' => RetR w' (Rat.divInt pa qa) e ∧ Below w.heap.size w w' := by
  obtain ⟨sa1, Aa1, na1, ca1, sa2, Aa2, na2, ca2, rfl, h1, h2⟩ := ha.form
  have Fa1 : Hid (IntA w (.agg #[.bool sa1, .slice Aa1 na1 ca1]) pa n) := hid h1
  have Fa2 : Hid (IntA w (.agg #[.bool sa2, .slice Aa2 na2 ca2]) qa n) := hid h2
  have Sa1 := hid Fa1.out.sm
  have Sa2 := hid Fa2.out.sm
  clear h1 h2 ha
  have HB := hid (Below.refl w.heap.size w)
  obtain ⟨W, hW⟩ : ∃ W, W = ((w.alloc (.cells #[.bool sa1, .slice Aa1 na1 ca1, .bool sa2, .slice Aa2 na2 ca2] 26)).alloc (.cells #[.bool false, .slice none 0 0, .bool false, .slice none 0 0] 26)) := ⟨_, rfl⟩
  have hbb : Below w.heap.size w W := by rw [hW]; exact (bw_alloc (bw_alloc (Below.refl _ _) _) _)
  have HB := hid (bw_step HB.out hbb)
  have Fa1 := hid (Fa1.out.below hbb)
  have Fa2 := hid (Fa2.out.below hbb)
  have Pa : Hid (Blk W (w.heap.size) 26 #[.bool sa1, .slice Aa1 na1 ca1, .bool sa2, .slice Aa2 na2 ca2]) := by
    rw [hW]
    have := (Blk.new w 26 #[.bool sa1, .slice Aa1 na1 ca1, .bool sa2, .slice Aa2 na2 ca2]).below (bw_alloc (Below.refl _ _) (.cells #[.bool false, .slice none 0 0, .bool false, .slice none 0 0] 26))
    exact hid (by simpa only [World.size_alloc] using this)
  have R0 : Hid (Blk W (w.heap.size + 1) 26 #[.bool false, .slice none 0 0, .bool false, .slice none 0 0]) := by
    rw [hW]
    have := Blk.new (w.alloc (.cells #[.bool sa1, .slice Aa1 na1 ca1, .bool sa2, .slice Aa2 na2 ca2] 26)) 26 #[.bool false, .slice none 0 0, .bool false, .slice none 0 0]
    exact hid (by simpa only [World.size_alloc] using this)
  clear hbb
  go_enter Try.func33, Try.ntmps33
  go_wp2_with (with_reducible refine halt_at 6 rfl ?_)
  rw [← hW]
  clear hW
  have lt1_Pa := Pa.out.lt
  have lt1_R0 := R0.out.lt
  unfold Halted
  refine wp_list_each (by kernel_rfl) 11 17 rfl rfl (by kernel_rfl)
    [Fact.eq (.pointer (some ⟨w.heap.size, 0, none⟩)), Fact.eq (.agg #[.bool sa1, .slice Aa1 na1 ca1]), Fact.eq (.pointer (some ⟨w.heap.size, 2, none⟩)), Fact.eq (.agg #[.bool sa2, .slice Aa2 na2 ca2]), Fact.pairB (.V 0) (.V 0) false, Fact.pairB (.V 0) (.V 0) false, Fact.pair (.V 0) (.V 0), Fact.eq (.bool false), Fact.boxR 26 Rne (.V 0) (.V 0), Fact.top _, Fact.eq (.bool false)]
    [.val, .val, .val, .val, .val, .val, .val, .val, .alloc 9, .fill 8, .val]
    (fun w' => IntA w' (.agg #[.bool sa1, .slice Aa1 na1 ca1]) (pa) n ∧ IntA w' (.agg #[.bool sa2, .slice Aa2 na2 ca2]) (qa) n ∧ Blk w' (w.heap.size) 26 #[.bool sa1, .slice Aa1 na1 ca1, .bool sa2, .slice Aa2 na2 ca2] ∧ Blk w' (w.heap.size + 1) 26 #[.bool false, .slice none 0 0, .bool false, .slice none 0 0] ∧ Below w.heap.size w w')
    (fun _ _ _ => True) [] (fun _ => 0) (by kernel_rfl)
    ⟨Fa1.out, Fa2.out, Pa.out, R0.out, HB.out⟩
    (fun w1 w2 ⟨h0, h1, h2, h3, h4⟩ hb => ⟨h0.below hb, h1.below hb, h2.below hb, h3.below hb, bw_step h4 hb⟩)
    (fun w1 w2 g ⟨h0, h1, h2, h3, h4⟩ hg hn ho => by
      have hg' : W.heap.size ≤ g := hg.elim id (fun ⟨_, h, _⟩ => absurd h (Nat.not_lt_zero _))
      exact ⟨h0.only hn ho, h1.only hn ho, h2.only ho (by have := Pa.out.lt; have := R0.out.lt; omega), h3.only ho (by have := Pa.out.lt; have := R0.out.lt; omega), below_only h4 ho (by have := Pa.out.lt; have := R0.out.lt; have := HB.out.size; omega)⟩)
    (fun l h => trivial) (fun l b w1 w2 h _ _ => trivial) (fun l b w1 w2 g h _ _ _ _ => trivial) (fun l h => by cases h) (fun l k h => by cases h) ?_ ?_
  · refine ⟨?_, ?_, ?_, ?_, ?_, ?_, ?_, ?_, ?_, ?_, ?_, trivial⟩ <;> intro L V a1 w1 hf hG hsz hφ hψ hL hdep hcl
    · obtain ⟨Fa1_, Fa2_, Pa_, R0_, HB_⟩ := hG
      have e1 := old_slot hf 1 (by kernel_rfl)
      exact ob_pure (ex_fieldAddrR0 rfl e1) rfl
    · obtain ⟨Fa1_, Fa2_, Pa_, R0_, HB_⟩ := hG
      have d0 := dep_of hdep 0 (by kernel_rfl)
      have e6 := (new_slot hf 0 6 d0 (by kernel_rfl)).trans (show V 0 = .pointer (some ⟨w.heap.size, 0, none⟩) from hφ 0 d0)
      exact ob_pure (ex_load_at0 rfl e6 Pa_) rfl
    · obtain ⟨Fa1_, Fa2_, Pa_, R0_, HB_⟩ := hG
      have e1 := old_slot hf 1 (by kernel_rfl)
      exact ob_pure (ex_fieldAddrR1 rfl e1) rfl
    · obtain ⟨Fa1_, Fa2_, Pa_, R0_, HB_⟩ := hG
      have d2 := dep_of hdep 2 (by kernel_rfl)
      have e8 := (new_slot hf 2 8 d2 (by kernel_rfl)).trans (show V 2 = .pointer (some ⟨w.heap.size, 2, none⟩) from hφ 2 d2)
      exact ob_pure (ex_load_at2 rfl e8 Pa_) rfl
    · obtain ⟨Fa1_, Fa2_, Pa_, R0_, HB_⟩ := hG
      have d1 := dep_of hdep 1 (by kernel_rfl)
      have e7 := (new_slot hf 1 7 d1 (by kernel_rfl)).trans (show V 1 = .agg #[.bool sa1, .slice Aa1 na1 ca1] from hφ 1 d1)
      have d3 := dep_of hdep 3 (by kernel_rfl)
      have e9 := (new_slot hf 3 9 d3 (by kernel_rfl)).trans (show V 3 = .agg #[.bool sa2, .slice Aa2 na2 ca2] from hφ 3 d3)
      refine ob_go rfl (vs := #[.agg #[.bool sa1, .slice Aa1 na1 ca1], .agg #[.bool sa2, .slice Aa2 na2 ca2]]) (by simp only [List.map_toArray, List.map_cons, List.map_nil, e7, e9]) (by kernel_rfl) (rnewR_any0 _ _ _ pa qa n Fa1_ Fa2_ (by omega) (hz)) ?_
      rintro e w2 ⟨⟨v, rfl, hv⟩, hb⟩
      exact ⟨v, rfl, hb, hv⟩
    · obtain ⟨Fa1_, Fa2_, Pa_, R0_, HB_⟩ := hG
      have d4 := dep_of hdep 4 (by kernel_rfl)
      have e10 := new_slot hf 4 10 d4 (by kernel_rfl)
      have p10 : PairB w1 (V 4) (.V 0) (.V 0) false := hφ 4 d4
      exact ob_pure (ex_moveV rfl e10) (by exact p10)
    · obtain ⟨Fa1_, Fa2_, Pa_, R0_, HB_⟩ := hG
      have d5 := dep_of hdep 5 (by kernel_rfl)
      have e5 := new_slot hf 5 5 d5 (by kernel_rfl)
      have p5 : PairB w1 (V 5) (.V 0) (.V 0) false := hφ 5 d5
      exact ob_pairB0 rfl e5 p5 rfl
    · obtain ⟨Fa1_, Fa2_, Pa_, R0_, HB_⟩ := hG
      have d5 := dep_of hdep 5 (by kernel_rfl)
      have e5 := new_slot hf 5 5 d5 (by kernel_rfl)
      have p5 : PairB w1 (V 5) (.V 0) (.V 0) false := hφ 5 d5
      exact ob_pairB1 rfl e5 p5 rfl
    · obtain ⟨Fa1_, Fa2_, Pa_, R0_, HB_⟩ := hG
      exact ob_allocR rfl hsz rfl
    · obtain ⟨Fa1_, Fa2_, Pa_, R0_, HB_⟩ := hG
      have d6 := dep_of hdep 6 (by kernel_rfl)
      have e11 := new_slot hf 6 11 d6 (by kernel_rfl)
      have p11 : Pair w1 (V 6) (.V 0) (.V 0) := hφ 6 d6
      have d8 := dep_of hdep 8 (by kernel_rfl)
      obtain ⟨g, h1, h2, h3, _⟩ := hφ 8 d8
      have hz := h3 (show (true && L 9) = false from by have h : L 9 = false := hL; rw [h]; rfl)
      exact ob_fillR rfl ((new_slot hf 8 3 d8 (by kernel_rfl)).trans h1) e11 h1 h2 hz p11 rfl rfl
    · obtain ⟨Fa1_, Fa2_, Pa_, R0_, HB_⟩ := hG
      have d7 := dep_of hdep 7 (by kernel_rfl)
      have e12 := (new_slot hf 7 12 d7 (by kernel_rfl)).trans (show V 7 = .bool false from hφ 7 d7)
      exact ob_pure (v := .bool false) (ex_assignV rfl e12) rfl
  · intro V W2 hG hsz2 hφ hψ hne
    have hlt2 : W.heap.size ≤ W2.heap.size := hsz2
    obtain ⟨Fa1_, Fa2_, Pa_, R0_, HB_⟩ := hG
    have Fa1 := hid Fa1_
    have Fa2 := hid Fa2_
    have Pa := hid Pa_
    have R0 := hid R0_
    have HB := hid HB_
    have y0 : V 0 = .pointer (some ⟨w.heap.size, 0, none⟩) := hφ 0 (by decide)
    have y1 : V 1 = .agg #[.bool sa1, .slice Aa1 na1 ca1] := hφ 1 (by decide)
    have y2 : V 2 = .pointer (some ⟨w.heap.size, 2, none⟩) := hφ 2 (by decide)
    have y3 : V 3 = .agg #[.bool sa2, .slice Aa2 na2 ca2] := hφ 3 (by decide)
    have y7 : V 7 = .bool false := hφ 7 (by decide)
    obtain ⟨G2_8, y8, gb208, _, hb208⟩ := hφ 8 (by decide)
    obtain ⟨q2081, A2081, n2081, c2081, q2082, A2082, n2082, c2082, kb208, va208, vb208⟩ := hb208 rfl
    have Xt3_ := hid kb208
    have t3_1 : Hid (IntV W2 (.agg #[.bool q2081, .slice A2081 n2081 c2081]) 0) := hid va208
    have t3_2 : Hid (IntV W2 (.agg #[.bool q2082, .slice A2082 n2082 c2082]) 0) := hid vb208
    clear kb208 va208 vb208
    clear hb208
    have y10 : V 10 = .bool false := hφ 10 (by decide)
    simp only [puts, Act.put, List.setIfInBounds_toArray, List.set_cons_zero, List.set_cons_succ, y0, y1, y2, y3, y7, y8, y10, ptr]
    clear hφ hψ hne y0 y1 y2 y3 y7 y8 y10 Fa1_ Fa2_ Pa_ R0_ HB_ hsz2
    go_wp2_with (with_reducible refine halt_at 15 rfl ?_)
    unfold Halted
    refine wp_list_each (by kernel_rfl) 2 17 rfl rfl (by kernel_rfl)
      [Fact.pair (.V (((0 : Int) : Rat)).num) (.V ((((0 : Int) : Rat)).den : Int)), Fact.top _]
      [.val, .fillOld 0]
      (fun w' => IntA w' (.agg #[.bool sa1, .slice Aa1 na1 ca1]) (pa) n ∧ IntA w' (.agg #[.bool sa2, .slice Aa2 na2 ca2]) (qa) n ∧ Blk w' (w.heap.size) 26 #[.bool sa1, .slice Aa1 na1 ca1, .bool sa2, .slice Aa2 na2 ca2] ∧ IntV w' (.agg #[.bool q2081, .slice A2081 n2081 c2081]) (0) ∧ IntV w' (.agg #[.bool q2082, .slice A2082 n2082 c2082]) (0) ∧ Blk w' (G2_8) 26 #[.bool q2081, .slice A2081 n2081 c2081, .bool q2082, .slice A2082 n2082 c2082] ∧ Below w.heap.size w w')
      (fun l b w' => match l with
        | 0 => if b = true then BoxR w' (w.heap.size + 1) 26 (.V (((0 : Int) : Rat)).num) (.V ((((0 : Int) : Rat)).den : Int)) else Blk w' (w.heap.size + 1) 26 #[.bool false, .slice none 0 0, .bool false, .slice none 0 0]
        | _ => True)
      [1] (fun l => match l with | 0 => w.heap.size + 1 | _ => 0) (by kernel_rfl)
      ⟨Fa1.out, Fa2.out, Pa.out, t3_1.out, t3_2.out, Xt3_.out, HB.out⟩
      (fun w1 w2 ⟨h0, h1, h2, h3, h4, h5, h6⟩ hb => ⟨h0.below hb, h1.below hb, h2.below hb, h3.below hb, h4.below hb, h5.below hb, bw_step h6 hb⟩)
      (fun w1 w2 g ⟨h0, h1, h2, h3, h4, h5, h6⟩ hg hn ho => by
        have hg' : W2.heap.size ≤ g ∨ g = w.heap.size + 1 := by
          rcases hg with h | ⟨l, hl, h⟩
          · exact .inl h
          · rcases l with _ | l
            · exact .inr h
            · exact absurd hl (by simp)
        exact ⟨h0.only hn ho, h1.only hn ho, h2.only ho (by have := Pa.out.lt; have := R0.out.lt; have := Xt3_.out.lt; omega), h3.only hn ho, h4.only hn ho, h5.only ho (by have := Pa.out.lt; have := R0.out.lt; have := Xt3_.out.lt; omega), below_only h6 ho (by have := Pa.out.lt; have := R0.out.lt; have := Xt3_.out.lt; have := HB.out.size; omega)⟩)
      (fun l hl => by
          rcases l with _ | l
          · exact R0.out
          · exact absurd hl (by simp))
      (fun l b w1 w2 hl h hb => by
          rcases l with _ | l
          · (cases b <;> exact h.below hb)
          · exact absurd hl (by simp))
      (fun l b w1 w2 g hl h hg hn ho => by
          rcases l with _ | l
          · (cases b; (exact h.only ho (Ne.symm hg)); (exact h.only (Ne.symm hg) hn ho))
          · exact absurd hl (by simp))
      (fun l hl => by
          rcases l with _ | l
          · exact R0.out.lt
          · exact absurd hl (by simp))
      (fun l k hl hk hne => by rcases l with _ | l <;> rcases k with _ | k <;> simp at hl hk hne)
      ?_ ?_
    · refine ⟨?_, ?_, trivial⟩ <;> intro L V a1 w1 hf hG hsz hφ hψ hL hdep hcl
      · obtain ⟨Fa1_, Fa2_, Pa_, t3_1_, t3_2_, Xt3__, HB_⟩ := hG
        refine ob_go rfl (vs := #[.int .i64 0]) (by simp only [List.map_toArray, List.map_cons, List.map_nil, ev_const]) (by kernel_rfl) (rsmallR_any _ 0 (by decide) (by decide)) ?_
        rintro e w2 ⟨⟨v, rfl, hv⟩, hb⟩
        exact ⟨v, rfl, hb, hv⟩
      · obtain ⟨Fa1_, Fa2_, Pa_, t3_1_, t3_2_, Xt3__, HB_⟩ := hG
        have d0 := dep_of hdep 0 (by kernel_rfl)
        have e15 := new_slot hf 0 15 d0 (by kernel_rfl)
        have p15 : Pair w1 (V 0) (.V (((0 : Int) : Rat)).num) (.V ((((0 : Int) : Rat)).den : Int)) := hφ 0 d0
        have e2 := old_slot hf 2 (by kernel_rfl)
        have hb0 := hψ 0 (by decide)
        rw [show [1].getD 0 0 = 1 from rfl, hL] at hb0
        exact ob_fillOldR rfl e2 e15 hb0 p15 (fun w2 h => h) rfl
    · intro V W3 hG hsz3 hφ hψ hne
      have hlt3 : W2.heap.size ≤ W3.heap.size := hsz3
      obtain ⟨Fa1_, Fa2_, Pa_, t3_1_, t3_2_, Xt3__, HB_⟩ := hG
      have Fa1 := hid Fa1_
      have Fa2 := hid Fa2_
      have Pa := hid Pa_
      have t3_1 := hid t3_1_
      have t3_2 := hid t3_2_
      have Xt3_ := hid Xt3__
      have HB := hid HB_
      obtain ⟨q3501, A3501, n3501, c3501, q3502, A3502, n3502, c3502, kb350, va350, vb350⟩ := hψ 0 (by decide)
      have R0 := hid kb350
      have R01 : Hid (IntV W3 (.agg #[.bool q3501, .slice A3501 n3501 c3501]) (((0 : Int) : Rat)).num) := hid va350
      have R02 : Hid (IntV W3 (.agg #[.bool q3502, .slice A3502 n3502 c3502]) ((((0 : Int) : Rat)).den : Int)) := hid vb350
      clear kb350 va350 vb350
      simp only [puts, Act.put, List.setIfInBounds_toArray, List.set_cons_zero, List.set_cons_succ]
      clear hφ hψ hne  Fa1_ Fa2_ Pa_ t3_1_ t3_2_ Xt3__ HB_ hsz3
      have k0 := R0.out.cell 0
      have k1 := R0.out.cell 1
      have k2 := R0.out.cell 2
      have k3 := R0.out.cell 3
      go_wp2
      refine bodyPost_ret (v := .agg #[.bool q3501, .slice A3501 n3501 c3501, .bool q3502, .slice A3502 n3502 c3502]) (by simp [results, Try.results33, go_sem, k0, k1, k2, k3]) rfl ⟨⟨_, rfl, ?_⟩, HB.out⟩
      rw [hz, Rat.divInt_zero]
      exact Pair.mk (a := .V ((0 : Int) : Rat).num) (b := .V (((0 : Int) : Rat).den : Int)) R01.out R02.out
set_option maxHeartbeats 4000000 in
theorem rnormR_pos (w : World) (va : Value) (pa qa : Int) (n : Nat) (ha : Pair w va (.A pa n) (.A qa n)) (h1n : 1 ≤ n) (hn : n ≤ 300000) (hz : qa ≠ 0) :
    Calls Try.prog 33 #[va] w fun e w' => RetR w' (Rat.divInt pa qa) e ∧ Below w.heap.size w w' := by
  obtain ⟨sa1, Aa1, na1, ca1, sa2, Aa2, na2, ca2, rfl, h1, h2⟩ := ha.form
  have Fa1 : Hid (IntA w (.agg #[.bool sa1, .slice Aa1 na1 ca1]) pa n) := hid h1
  have Fa2 : Hid (IntA w (.agg #[.bool sa2, .slice Aa2 na2 ca2]) qa n) := hid h2
  have Sa1 := hid Fa1.out.sm
  have Sa2 := hid Fa2.out.sm
  clear h1 h2 ha
  have HB := hid (Below.refl w.heap.size w)
  obtain ⟨W, hW⟩ : ∃ W, W = ((w.alloc (.cells #[.bool sa1, .slice Aa1 na1 ca1, .bool sa2, .slice Aa2 na2 ca2] 26)).alloc (.cells #[.bool false, .slice none 0 0, .bool false, .slice none 0 0] 26)) := ⟨_, rfl⟩
  have hbb : Below w.heap.size w W := by rw [hW]; exact (bw_alloc (bw_alloc (Below.refl _ _) _) _)
  have HB := hid (bw_step HB.out hbb)
  have Fa1 := hid (Fa1.out.below hbb)
  have Fa2 := hid (Fa2.out.below hbb)
  have Pa : Hid (Blk W (w.heap.size) 26 #[.bool sa1, .slice Aa1 na1 ca1, .bool sa2, .slice Aa2 na2 ca2]) := by
    rw [hW]
    have := (Blk.new w 26 #[.bool sa1, .slice Aa1 na1 ca1, .bool sa2, .slice Aa2 na2 ca2]).below (bw_alloc (Below.refl _ _) (.cells #[.bool false, .slice none 0 0, .bool false, .slice none 0 0] 26))
    exact hid (by simpa only [World.size_alloc] using this)
  have R0 : Hid (Blk W (w.heap.size + 1) 26 #[.bool false, .slice none 0 0, .bool false, .slice none 0 0]) := by
    rw [hW]
    have := Blk.new (w.alloc (.cells #[.bool sa1, .slice Aa1 na1 ca1, .bool sa2, .slice Aa2 na2 ca2] 26)) 26 #[.bool false, .slice none 0 0, .bool false, .slice none 0 0]
    exact hid (by simpa only [World.size_alloc] using this)
  clear hbb
  go_enter Try.func33, Try.ntmps33
  go_wp2_with (with_reducible refine halt_at 6 rfl ?_)
  rw [← hW]
  clear hW
  have RS1 : Hid (RS n (Rat.divInt pa qa)) := hid (by have h := RS.of (Sm.to (n := n) (Sa1.out) (by omega)) (Sm.to (n := n) (Sa2.out) (by omega)) (by omega); rw [show Rat.divInt pa qa = (Rat.divInt pa qa) from rfl] at h; exact h)
  have lt1_Pa := Pa.out.lt
  have lt1_R0 := R0.out.lt
  unfold Halted
  refine wp_list_each (by kernel_rfl) 11 17 rfl rfl (by kernel_rfl)
    [Fact.eq (.pointer (some ⟨w.heap.size, 0, none⟩)), Fact.eq (.agg #[.bool sa1, .slice Aa1 na1 ca1]), Fact.eq (.pointer (some ⟨w.heap.size, 2, none⟩)), Fact.eq (.agg #[.bool sa2, .slice Aa2 na2 ca2]), Fact.pairB (.V ((Rat.divInt pa qa)).num) (.V (((Rat.divInt pa qa)).den : Int)) true, Fact.pairB (.V ((Rat.divInt pa qa)).num) (.V (((Rat.divInt pa qa)).den : Int)) true, Fact.pair (.V ((Rat.divInt pa qa)).num) (.V (((Rat.divInt pa qa)).den : Int)), Fact.eq (.bool true), Fact.boxR 26 Rne (.V ((Rat.divInt pa qa)).num) (.V (((Rat.divInt pa qa)).den : Int)), Fact.top _, Fact.eq (.bool true)]
    [.val, .val, .val, .val, .val, .val, .val, .val, .alloc 9, .fill 8, .val]
    (fun w' => IntA w' (.agg #[.bool sa1, .slice Aa1 na1 ca1]) (pa) n ∧ IntA w' (.agg #[.bool sa2, .slice Aa2 na2 ca2]) (qa) n ∧ Blk w' (w.heap.size) 26 #[.bool sa1, .slice Aa1 na1 ca1, .bool sa2, .slice Aa2 na2 ca2] ∧ Blk w' (w.heap.size + 1) 26 #[.bool false, .slice none 0 0, .bool false, .slice none 0 0] ∧ Below w.heap.size w w')
    (fun _ _ _ => True) [] (fun _ => 0) (by kernel_rfl)
    ⟨Fa1.out, Fa2.out, Pa.out, R0.out, HB.out⟩
    (fun w1 w2 ⟨h0, h1, h2, h3, h4⟩ hb => ⟨h0.below hb, h1.below hb, h2.below hb, h3.below hb, bw_step h4 hb⟩)
    (fun w1 w2 g ⟨h0, h1, h2, h3, h4⟩ hg hn ho => by
      have hg' : W.heap.size ≤ g := hg.elim id (fun ⟨_, h, _⟩ => absurd h (Nat.not_lt_zero _))
      exact ⟨h0.only hn ho, h1.only hn ho, h2.only ho (by have := Pa.out.lt; have := R0.out.lt; omega), h3.only ho (by have := Pa.out.lt; have := R0.out.lt; omega), below_only h4 ho (by have := Pa.out.lt; have := R0.out.lt; have := HB.out.size; omega)⟩)
    (fun l h => trivial) (fun l b w1 w2 h _ _ => trivial) (fun l b w1 w2 g h _ _ _ _ => trivial) (fun l h => by cases h) (fun l k h => by cases h) ?_ ?_
  · refine ⟨?_, ?_, ?_, ?_, ?_, ?_, ?_, ?_, ?_, ?_, ?_, trivial⟩ <;> intro L V a1 w1 hf hG hsz hφ hψ hL hdep hcl
    · obtain ⟨Fa1_, Fa2_, Pa_, R0_, HB_⟩ := hG
      have e1 := old_slot hf 1 (by kernel_rfl)
      exact ob_pure (ex_fieldAddrR0 rfl e1) rfl
    · obtain ⟨Fa1_, Fa2_, Pa_, R0_, HB_⟩ := hG
      have d0 := dep_of hdep 0 (by kernel_rfl)
      have e6 := (new_slot hf 0 6 d0 (by kernel_rfl)).trans (show V 0 = .pointer (some ⟨w.heap.size, 0, none⟩) from hφ 0 d0)
      exact ob_pure (ex_load_at0 rfl e6 Pa_) rfl
    · obtain ⟨Fa1_, Fa2_, Pa_, R0_, HB_⟩ := hG
      have e1 := old_slot hf 1 (by kernel_rfl)
      exact ob_pure (ex_fieldAddrR1 rfl e1) rfl
    · obtain ⟨Fa1_, Fa2_, Pa_, R0_, HB_⟩ := hG
      have d2 := dep_of hdep 2 (by kernel_rfl)
      have e8 := (new_slot hf 2 8 d2 (by kernel_rfl)).trans (show V 2 = .pointer (some ⟨w.heap.size, 2, none⟩) from hφ 2 d2)
      exact ob_pure (ex_load_at2 rfl e8 Pa_) rfl
    · obtain ⟨Fa1_, Fa2_, Pa_, R0_, HB_⟩ := hG
      have d1 := dep_of hdep 1 (by kernel_rfl)
      have e7 := (new_slot hf 1 7 d1 (by kernel_rfl)).trans (show V 1 = .agg #[.bool sa1, .slice Aa1 na1 ca1] from hφ 1 d1)
      have d3 := dep_of hdep 3 (by kernel_rfl)
      have e9 := (new_slot hf 3 9 d3 (by kernel_rfl)).trans (show V 3 = .agg #[.bool sa2, .slice Aa2 na2 ca2] from hφ 3 d3)
      refine ob_go rfl (vs := #[.agg #[.bool sa1, .slice Aa1 na1 ca1], .agg #[.bool sa2, .slice Aa2 na2 ca2]]) (by simp only [List.map_toArray, List.map_cons, List.map_nil, e7, e9]) (by kernel_rfl) (rnewR_any _ _ _ pa qa (Rat.divInt pa qa) n Fa1_ Fa2_ (by omega) (by omega) (hz) (rfl)) ?_
      rintro e w2 ⟨⟨v, rfl, hv⟩, hb⟩
      exact ⟨v, rfl, hb, hv⟩
    · obtain ⟨Fa1_, Fa2_, Pa_, R0_, HB_⟩ := hG
      have d4 := dep_of hdep 4 (by kernel_rfl)
      have e10 := new_slot hf 4 10 d4 (by kernel_rfl)
      have p10 : PairB w1 (V 4) (.V ((Rat.divInt pa qa)).num) (.V (((Rat.divInt pa qa)).den : Int)) true := hφ 4 d4
      exact ob_pure (ex_moveV rfl e10) (by exact p10)
    · obtain ⟨Fa1_, Fa2_, Pa_, R0_, HB_⟩ := hG
      have d5 := dep_of hdep 5 (by kernel_rfl)
      have e5 := new_slot hf 5 5 d5 (by kernel_rfl)
      have p5 : PairB w1 (V 5) (.V ((Rat.divInt pa qa)).num) (.V (((Rat.divInt pa qa)).den : Int)) true := hφ 5 d5
      exact ob_pairB0 rfl e5 p5 rfl
    · obtain ⟨Fa1_, Fa2_, Pa_, R0_, HB_⟩ := hG
      have d5 := dep_of hdep 5 (by kernel_rfl)
      have e5 := new_slot hf 5 5 d5 (by kernel_rfl)
      have p5 : PairB w1 (V 5) (.V ((Rat.divInt pa qa)).num) (.V (((Rat.divInt pa qa)).den : Int)) true := hφ 5 d5
      exact ob_pairB1 rfl e5 p5 rfl
    · obtain ⟨Fa1_, Fa2_, Pa_, R0_, HB_⟩ := hG
      exact ob_allocR rfl hsz rfl
    · obtain ⟨Fa1_, Fa2_, Pa_, R0_, HB_⟩ := hG
      have d6 := dep_of hdep 6 (by kernel_rfl)
      have e11 := new_slot hf 6 11 d6 (by kernel_rfl)
      have p11 : Pair w1 (V 6) (.V ((Rat.divInt pa qa)).num) (.V (((Rat.divInt pa qa)).den : Int)) := hφ 6 d6
      have d8 := dep_of hdep 8 (by kernel_rfl)
      obtain ⟨g, h1, h2, h3, _⟩ := hφ 8 d8
      have hz := h3 (show (true && L 9) = false from by have h : L 9 = false := hL; rw [h]; rfl)
      exact ob_fillR rfl ((new_slot hf 8 3 d8 (by kernel_rfl)).trans h1) e11 h1 h2 hz p11 rfl rfl
    · obtain ⟨Fa1_, Fa2_, Pa_, R0_, HB_⟩ := hG
      have d7 := dep_of hdep 7 (by kernel_rfl)
      have e12 := (new_slot hf 7 12 d7 (by kernel_rfl)).trans (show V 7 = .bool true from hφ 7 d7)
      exact ob_pure (v := .bool true) (ex_assignV rfl e12) rfl
  · intro V W2 hG hsz2 hφ hψ hne
    have hlt2 : W.heap.size ≤ W2.heap.size := hsz2
    obtain ⟨Fa1_, Fa2_, Pa_, R0_, HB_⟩ := hG
    have Fa1 := hid Fa1_
    have Fa2 := hid Fa2_
    have Pa := hid Pa_
    have R0 := hid R0_
    have HB := hid HB_
    have y0 : V 0 = .pointer (some ⟨w.heap.size, 0, none⟩) := hφ 0 (by decide)
    have y1 : V 1 = .agg #[.bool sa1, .slice Aa1 na1 ca1] := hφ 1 (by decide)
    have y2 : V 2 = .pointer (some ⟨w.heap.size, 2, none⟩) := hφ 2 (by decide)
    have y3 : V 3 = .agg #[.bool sa2, .slice Aa2 na2 ca2] := hφ 3 (by decide)
    have y7 : V 7 = .bool true := hφ 7 (by decide)
    obtain ⟨G2_8, y8, gb208, _, hb208⟩ := hφ 8 (by decide)
    obtain ⟨q2081, A2081, n2081, c2081, q2082, A2082, n2082, c2082, kb208, va208, vb208⟩ := hb208 rfl
    have Xt3_ := hid kb208
    have t3_1 : Hid (IntV W2 (.agg #[.bool q2081, .slice A2081 n2081 c2081]) ((Rat.divInt pa qa)).num) := hid va208
    have t3_2 : Hid (IntV W2 (.agg #[.bool q2082, .slice A2082 n2082 c2082]) (((Rat.divInt pa qa)).den : Int)) := hid vb208
    clear kb208 va208 vb208
    clear hb208
    have y10 : V 10 = .bool true := hφ 10 (by decide)
    simp only [puts, Act.put, List.setIfInBounds_toArray, List.set_cons_zero, List.set_cons_succ, y0, y1, y2, y3, y7, y8, y10, ptr]
    clear hφ hψ hne y0 y1 y2 y3 y7 y8 y10 Fa1_ Fa2_ Pa_ R0_ HB_ hsz2
    go_wp2_with (with_reducible refine halt_at 16 rfl ?_)
    unfold Halted
    refine wp_list_each (by kernel_rfl) 2 17 rfl rfl (by kernel_rfl)
      [Fact.eq (.agg #[.bool q2081, .slice A2081 n2081 c2081, .bool q2082, .slice A2082 n2082 c2082]), Fact.top _]
      [.val, .fillOld 0]
      (fun w' => IntA w' (.agg #[.bool sa1, .slice Aa1 na1 ca1]) (pa) n ∧ IntA w' (.agg #[.bool sa2, .slice Aa2 na2 ca2]) (qa) n ∧ Blk w' (w.heap.size) 26 #[.bool sa1, .slice Aa1 na1 ca1, .bool sa2, .slice Aa2 na2 ca2] ∧ IntV w' (.agg #[.bool q2081, .slice A2081 n2081 c2081]) (((Rat.divInt pa qa)).num) ∧ IntV w' (.agg #[.bool q2082, .slice A2082 n2082 c2082]) ((((Rat.divInt pa qa)).den : Int)) ∧ Blk w' (G2_8) 26 #[.bool q2081, .slice A2081 n2081 c2081, .bool q2082, .slice A2082 n2082 c2082] ∧ Below w.heap.size w w')
      (fun l b w' => match l with
        | 0 => if b = true then BoxR w' (w.heap.size + 1) 26 (.V ((Rat.divInt pa qa)).num) (.V (((Rat.divInt pa qa)).den : Int)) else Blk w' (w.heap.size + 1) 26 #[.bool false, .slice none 0 0, .bool false, .slice none 0 0]
        | _ => True)
      [1] (fun l => match l with | 0 => w.heap.size + 1 | _ => 0) (by kernel_rfl)
      ⟨Fa1.out, Fa2.out, Pa.out, t3_1.out, t3_2.out, Xt3_.out, HB.out⟩
      (fun w1 w2 ⟨h0, h1, h2, h3, h4, h5, h6⟩ hb => ⟨h0.below hb, h1.below hb, h2.below hb, h3.below hb, h4.below hb, h5.below hb, bw_step h6 hb⟩)
      (fun w1 w2 g ⟨h0, h1, h2, h3, h4, h5, h6⟩ hg hn ho => by
        have hg' : W2.heap.size ≤ g ∨ g = w.heap.size + 1 := by
          rcases hg with h | ⟨l, hl, h⟩
          · exact .inl h
          · rcases l with _ | l
            · exact .inr h
            · exact absurd hl (by simp)
        exact ⟨h0.only hn ho, h1.only hn ho, h2.only ho (by have := Pa.out.lt; have := R0.out.lt; have := Xt3_.out.lt; omega), h3.only hn ho, h4.only hn ho, h5.only ho (by have := Pa.out.lt; have := R0.out.lt; have := Xt3_.out.lt; omega), below_only h6 ho (by have := Pa.out.lt; have := R0.out.lt; have := Xt3_.out.lt; have := HB.out.size; omega)⟩)
      (fun l hl => by
          rcases l with _ | l
          · exact R0.out
          · exact absurd hl (by simp))
      (fun l b w1 w2 hl h hb => by
          rcases l with _ | l
          · (cases b <;> exact h.below hb)
          · exact absurd hl (by simp))
      (fun l b w1 w2 g hl h hg hn ho => by
          rcases l with _ | l
          · (cases b; (exact h.only ho (Ne.symm hg)); (exact h.only (Ne.symm hg) hn ho))
          · exact absurd hl (by simp))
      (fun l hl => by
          rcases l with _ | l
          · exact R0.out.lt
          · exact absurd hl (by simp))
      (fun l k hl hk hne => by rcases l with _ | l <;> rcases k with _ | k <;> simp at hl hk hne)
      ?_ ?_
    · refine ⟨?_, ?_, trivial⟩ <;> intro L V a1 w1 hf hG hsz hφ hψ hL hdep hcl
      · obtain ⟨Fa1_, Fa2_, Pa_, t3_1_, t3_2_, Xt3__, HB_⟩ := hG
        have e3 := old_slot hf 3 (by kernel_rfl)
        exact ob_pure (ex_loadR rfl e3 Xt3__) rfl
      · obtain ⟨Fa1_, Fa2_, Pa_, t3_1_, t3_2_, Xt3__, HB_⟩ := hG
        have d0 := dep_of hdep 0 (by kernel_rfl)
        have e16 := (new_slot hf 0 16 d0 (by kernel_rfl)).trans (show V 0 = .agg #[.bool q2081, .slice A2081 n2081 c2081, .bool q2082, .slice A2082 n2082 c2082] from hφ 0 d0)
        have e2 := old_slot hf 2 (by kernel_rfl)
        have hb0 := hψ 0 (by decide)
        rw [show [1].getD 0 0 = 1 from rfl, hL] at hb0
        exact ob_fillOldR rfl e2 e16 hb0 (Pair.mk (a := .V ((Rat.divInt pa qa)).num) (b := .V (((Rat.divInt pa qa)).den : Int)) t3_1_ t3_2_) (fun w2 h => h) rfl
    · intro V W3 hG hsz3 hφ hψ hne
      have hlt3 : W2.heap.size ≤ W3.heap.size := hsz3
      obtain ⟨Fa1_, Fa2_, Pa_, t3_1_, t3_2_, Xt3__, HB_⟩ := hG
      have Fa1 := hid Fa1_
      have Fa2 := hid Fa2_
      have Pa := hid Pa_
      have t3_1 := hid t3_1_
      have t3_2 := hid t3_2_
      have Xt3_ := hid Xt3__
      have HB := hid HB_
      have y0 : V 0 = .agg #[.bool q2081, .slice A2081 n2081 c2081, .bool q2082, .slice A2082 n2082 c2082] := hφ 0 (by decide)
      obtain ⟨q3501, A3501, n3501, c3501, q3502, A3502, n3502, c3502, kb350, va350, vb350⟩ := hψ 0 (by decide)
      have R0 := hid kb350
      have R01 : Hid (IntV W3 (.agg #[.bool q3501, .slice A3501 n3501 c3501]) ((Rat.divInt pa qa)).num) := hid va350
      have R02 : Hid (IntV W3 (.agg #[.bool q3502, .slice A3502 n3502 c3502]) (((Rat.divInt pa qa)).den : Int)) := hid vb350
      clear kb350 va350 vb350
      simp only [puts, Act.put, List.setIfInBounds_toArray, List.set_cons_zero, List.set_cons_succ, y0]
      clear hφ hψ hne y0 Fa1_ Fa2_ Pa_ t3_1_ t3_2_ Xt3__ HB_ hsz3
      have k0 := R0.out.cell 0
      have k1 := R0.out.cell 1
      have k2 := R0.out.cell 2
      have k3 := R0.out.cell 3
      go_wp2
      refine bodyPost_ret (v := .agg #[.bool q3501, .slice A3501 n3501 c3501, .bool q3502, .slice A3502 n3502 c3502]) (by simp [results, Try.results33, go_sem, k0, k1, k2, k3]) rfl ⟨⟨_, rfl, ?_⟩, HB.out⟩
      exact Pair.mk (a := .V (Rat.divInt pa qa).num) (b := .V ((Rat.divInt pa qa).den : Int)) R01.out R02.out
theorem rnormalizeR_any (w : World) (va : Value) (x : Rat) (n : Nat) (ha : RatA w va x n) (h1n : 1 ≤ n) (hn : n ≤ 300000) :
    Calls Try.prog 33 #[va] w fun e w' => RetR w' x e ∧ Below w.heap.size w w' := by
  obtain ⟨p, q, h, rfl⟩ := ha
  by_cases h0 : q = 0
  · exact rnormR_zero w va p q n h h1n hn h0
  · exact rnormR_pos w va p q n h h1n hn h0
set_option maxHeartbeats 4000000 in
theorem rsameP_any (w : World) (va vb : Value) (p q : Int) (ha : Pair w va (.V p) (.V q)) (hb : Pair w vb (.V p) (.V q)) :
    Calls Try.prog 8 #[va, vb] w fun e w' => e = .returned (.bool true) ∧ Below w.heap.size w w' := by
  obtain ⟨sa1, Aa1, na1, ca1, sa2, Aa2, na2, ca2, rfl, h1, h2⟩ := ha.form
  have Fa1 : Hid (IntV w (.agg #[.bool sa1, .slice Aa1 na1 ca1]) p) := hid h1
  have Fa2 : Hid (IntV w (.agg #[.bool sa2, .slice Aa2 na2 ca2]) q) := hid h2
  clear h1 h2 ha
  obtain ⟨sb1, Ab1, nb1, cb1, sb2, Ab2, nb2, cb2, rfl, h1, h2⟩ := hb.form
  have Fb1 : Hid (IntV w (.agg #[.bool sb1, .slice Ab1 nb1 cb1]) p) := hid h1
  have Fb2 : Hid (IntV w (.agg #[.bool sb2, .slice Ab2 nb2 cb2]) q) := hid h2
  clear h1 h2 hb
  have HB := hid (Below.refl w.heap.size w)
  obtain ⟨W, hW⟩ : ∃ W, W = ((w.alloc (.cells #[.bool sa1, .slice Aa1 na1 ca1, .bool sa2, .slice Aa2 na2 ca2] 26)).alloc (.cells #[.bool sb1, .slice Ab1 nb1 cb1, .bool sb2, .slice Ab2 nb2 cb2] 26)) := ⟨_, rfl⟩
  have hbb : Below w.heap.size w W := by rw [hW]; exact (bw_alloc (bw_alloc (Below.refl _ _) _) _)
  have HB := hid (bw_step HB.out hbb)
  have Fa1 := hid (Fa1.out.below hbb)
  have Fa2 := hid (Fa2.out.below hbb)
  have Fb1 := hid (Fb1.out.below hbb)
  have Fb2 := hid (Fb2.out.below hbb)
  have Pa : Hid (Blk W (w.heap.size) 26 #[.bool sa1, .slice Aa1 na1 ca1, .bool sa2, .slice Aa2 na2 ca2]) := by
    rw [hW]
    have := (Blk.new w 26 #[.bool sa1, .slice Aa1 na1 ca1, .bool sa2, .slice Aa2 na2 ca2]).below (bw_alloc (Below.refl _ _) (.cells #[.bool sb1, .slice Ab1 nb1 cb1, .bool sb2, .slice Ab2 nb2 cb2] 26))
    exact hid (by simpa only [World.size_alloc] using this)
  have Pb : Hid (Blk W (w.heap.size + 1) 26 #[.bool sb1, .slice Ab1 nb1 cb1, .bool sb2, .slice Ab2 nb2 cb2]) := by
    rw [hW]
    have := Blk.new (w.alloc (.cells #[.bool sa1, .slice Aa1 na1 ca1, .bool sa2, .slice Aa2 na2 ca2] 26)) 26 #[.bool sb1, .slice Ab1 nb1 cb1, .bool sb2, .slice Ab2 nb2 cb2]
    exact hid (by simpa only [World.size_alloc] using this)
  clear hbb
  have ua0 := Pa.out.cell 0
  have ua1 := Pa.out.cell 1
  have ua2 := Pa.out.cell 2
  have ua3 := Pa.out.cell 3
  have ub0 := Pb.out.cell 0
  have ub1 := Pb.out.cell 1
  have ub2 := Pb.out.cell 2
  have ub3 := Pb.out.cell 3
  go_enter Try.func8, Try.ntmps8
  go_wp2_with fail
  rw [← hW]
  clear hW
  refine (rsame_any _ _ _ p p Fa1.out Fb1.out).mono ?_
  rintro e W1 ⟨he, hb1⟩
  rw [decide_eq_true rfl] at he
  subst he
  clear ua0 ua1 ua2 ua3 ub0 ub1 ub2 ub3
  have HB := hid (bw_step HB.out hb1)
  have Fa1 := hid (Fa1.out.below hb1)
  have Fa2 := hid (Fa2.out.below hb1)
  have Fb1 := hid (Fb1.out.below hb1)
  have Fb2 := hid (Fb2.out.below hb1)
  have Pa := hid (Pa.out.below hb1)
  have Pb := hid (Pb.out.below hb1)
  clear hb1
  have ua0 := Pa.out.cell 0
  have ua1 := Pa.out.cell 1
  have ua2 := Pa.out.cell 2
  have ua3 := Pa.out.cell 3
  have ub0 := Pb.out.cell 0
  have ub1 := Pb.out.cell 1
  have ub2 := Pb.out.cell 2
  have ub3 := Pb.out.cell 3
  go_wp2_with fail
  refine (rsame_any _ _ _ q q Fa2.out Fb2.out).mono ?_
  rintro e W2 ⟨he, hb2⟩
  rw [decide_eq_true rfl] at he
  subst he
  clear ua0 ua1 ua2 ua3 ub0 ub1 ub2 ub3
  have HB := hid (bw_step HB.out hb2)
  have Fa1 := hid (Fa1.out.below hb2)
  have Fa2 := hid (Fa2.out.below hb2)
  have Fb1 := hid (Fb1.out.below hb2)
  have Fb2 := hid (Fb2.out.below hb2)
  have Pa := hid (Pa.out.below hb2)
  have Pb := hid (Pb.out.below hb2)
  clear hb2
  go_wp2
  go_ret
  exact ⟨rfl, HB.out⟩
theorem rsameR_any (w : World) (va vb : Value) (x : Rat) (ha : RatV w va x) (hb : RatV w vb x) :
    Calls Try.prog 8 #[va, vb] w fun e w' => e = .returned (.bool true) ∧ Below w.heap.size w w' := rsameP_any w va vb _ _ ha hb
set_option maxHeartbeats 4000000 in
theorem rsignR_any (w : World) (va : Value) (x : Rat) (n : Nat) (ha : RatA w va x n) (h1n : 1 ≤ n) (hn : n ≤ 300000) :
    Calls Try.prog 19 #[va] w fun e w' => e = .returned (.int .i64 (cm (x).num 0)) ∧ Below w.heap.size w w' := by
  obtain ⟨pa, qa, ha, rfl⟩ := ha
  obtain ⟨sa1, Aa1, na1, ca1, sa2, Aa2, na2, ca2, rfl, h1, h2⟩ := ha.form
  have Fa1 : Hid (IntA w (.agg #[.bool sa1, .slice Aa1 na1 ca1]) pa n) := hid h1
  have Fa2 : Hid (IntA w (.agg #[.bool sa2, .slice Aa2 na2 ca2]) qa n) := hid h2
  have Sa1 := hid Fa1.out.sm
  have Sa2 := hid Fa2.out.sm
  clear h1 h2 ha
  have HB := hid (Below.refl w.heap.size w)
  obtain ⟨W, hW⟩ : ∃ W, W = (w.alloc (.cells #[.bool sa1, .slice Aa1 na1 ca1, .bool sa2, .slice Aa2 na2 ca2] 26)) := ⟨_, rfl⟩
  have hbb : Below w.heap.size w W := by rw [hW]; exact (bw_alloc (Below.refl _ _) _)
  have HB := hid (bw_step HB.out hbb)
  have Fa1 := hid (Fa1.out.below hbb)
  have Fa2 := hid (Fa2.out.below hbb)
  have Pa : Hid (Blk W (w.heap.size) 26 #[.bool sa1, .slice Aa1 na1 ca1, .bool sa2, .slice Aa2 na2 ca2]) := by
    rw [hW]
    have := Blk.new w 26 #[.bool sa1, .slice Aa1 na1 ca1, .bool sa2, .slice Aa2 na2 ca2]
    exact hid (by simpa only [World.size_alloc] using this)
  clear hbb
  go_enter Try.func19, Try.ntmps19
  go_wp2_with (with_reducible refine halt_at 3 rfl ?_)
  rw [← hW]
  clear hW
  have RS1 : Hid (RS n (Rat.divInt pa qa)) := hid ((RS.of (Sa1.out) (Sa2.out) (by omega)))
  unfold Halted
  refine wp_list_each (by kernel_rfl) 5 7 rfl rfl (by kernel_rfl)
    [Fact.eq (.agg #[.bool sa1, .slice Aa1 na1 ca1, .bool sa2, .slice Aa2 na2 ca2]), Fact.pair (.V ((Rat.divInt pa qa)).num) (.V (((Rat.divInt pa qa)).den : Int)), Fact.num (.V ((Rat.divInt pa qa)).num), Fact.eq (.int .i64 (cm ((Rat.divInt pa qa)).num 0)), Fact.eq (.int .i64 (cm ((Rat.divInt pa qa)).num 0))]
    [.val, .val, .val, .val, .val]
    (fun w' => IntA w' (.agg #[.bool sa1, .slice Aa1 na1 ca1]) (pa) n ∧ IntA w' (.agg #[.bool sa2, .slice Aa2 na2 ca2]) (qa) n ∧ Blk w' (w.heap.size) 26 #[.bool sa1, .slice Aa1 na1 ca1, .bool sa2, .slice Aa2 na2 ca2] ∧ Below w.heap.size w w')
    (fun _ _ _ => True) [] (fun _ => 0) (by kernel_rfl)
    ⟨Fa1.out, Fa2.out, Pa.out, HB.out⟩
    (fun w1 w2 ⟨h0, h1, h2, h3⟩ hb => ⟨h0.below hb, h1.below hb, h2.below hb, bw_step h3 hb⟩)
    (fun w1 w2 g ⟨h0, h1, h2, h3⟩ hg hn ho => by
      have hg' : W.heap.size ≤ g := hg.elim id (fun ⟨_, h, _⟩ => absurd h (Nat.not_lt_zero _))
      exact ⟨h0.only hn ho, h1.only hn ho, h2.only ho (by have := Pa.out.lt; omega), below_only h3 ho (by have := Pa.out.lt; have := HB.out.size; omega)⟩)
    (fun l h => trivial) (fun l b w1 w2 h _ _ => trivial) (fun l b w1 w2 g h _ _ _ _ => trivial) (fun l h => by cases h) (fun l k h => by cases h) ?_ ?_
  · refine ⟨?_, ?_, ?_, ?_, ?_, trivial⟩ <;> intro L V a1 w1 hf hG hsz hφ hψ hL hdep hcl
    · obtain ⟨Fa1_, Fa2_, Pa_, HB_⟩ := hG
      have e1 := old_slot hf 1 (by kernel_rfl)
      exact ob_pure (ex_loadR rfl e1 Pa_) rfl
    · obtain ⟨Fa1_, Fa2_, Pa_, HB_⟩ := hG
      have d0 := dep_of hdep 0 (by kernel_rfl)
      have e3 := (new_slot hf 0 3 d0 (by kernel_rfl)).trans (show V 0 = .agg #[.bool sa1, .slice Aa1 na1 ca1, .bool sa2, .slice Aa2 na2 ca2] from hφ 0 d0)
      refine ob_go rfl (vs := #[.agg #[.bool sa1, .slice Aa1 na1 ca1, .bool sa2, .slice Aa2 na2 ca2]]) (by simp only [List.map_toArray, List.map_cons, List.map_nil, e3]) (by kernel_rfl) (rnormalizeR_any _ _ (Rat.divInt pa qa) n (RatA.of (Pair.mk (a := .A pa n) (b := .A qa n) Fa1_ Fa2_)) (by omega) (by omega)) ?_
      rintro e w2 ⟨⟨v, rfl, hv⟩, hb⟩
      exact ⟨v, rfl, hb, hv⟩
    · obtain ⟨Fa1_, Fa2_, Pa_, HB_⟩ := hG
      have d1 := dep_of hdep 1 (by kernel_rfl)
      have e4 := new_slot hf 1 4 d1 (by kernel_rfl)
      have p4 : Pair w1 (V 1) (.V ((Rat.divInt pa qa)).num) (.V (((Rat.divInt pa qa)).den : Int)) := hφ 1 d1
      exact ob_fieldR0 rfl e4 p4 rfl
    · obtain ⟨Fa1_, Fa2_, Pa_, HB_⟩ := hG
      have d2 := dep_of hdep 2 (by kernel_rfl)
      have e5 := new_slot hf 2 5 d2 (by kernel_rfl)
      have p5 : IntV w1 (V 2) ((Rat.divInt pa qa)).num := hφ 2 d2
      refine ob_go rfl (vs := #[V 2]) (by simp only [List.map_toArray, List.map_cons, List.map_nil, e5]) (by kernel_rfl) (rsign_any _ (V 2) ((Rat.divInt pa qa)).num n (p5.arg ((RS1.out).1)) ) ?_
      rintro e w2 ⟨he, hb⟩
      exact ⟨_, he, hb, rfl⟩
    · obtain ⟨Fa1_, Fa2_, Pa_, HB_⟩ := hG
      have d3 := dep_of hdep 3 (by kernel_rfl)
      have e6 := (new_slot hf 3 6 d3 (by kernel_rfl)).trans (show V 3 = .int .i64 (cm ((Rat.divInt pa qa)).num 0) from hφ 3 d3)
      exact ob_pure (v := .int .i64 (cm ((Rat.divInt pa qa)).num 0)) (ex_assignV rfl e6) rfl
  · intro V W2 hG hsz2 hφ hψ hne
    have hlt2 : W.heap.size ≤ W2.heap.size := hsz2
    obtain ⟨Fa1_, Fa2_, Pa_, HB_⟩ := hG
    have Fa1 := hid Fa1_
    have Fa2 := hid Fa2_
    have Pa := hid Pa_
    have HB := hid HB_
    have y0 : V 0 = .agg #[.bool sa1, .slice Aa1 na1 ca1, .bool sa2, .slice Aa2 na2 ca2] := hφ 0 (by decide)
    have y3 : V 3 = .int .i64 (cm ((Rat.divInt pa qa)).num 0) := hφ 3 (by decide)
    have y4 : V 4 = .int .i64 (cm ((Rat.divInt pa qa)).num 0) := hφ 4 (by decide)
    simp only [puts, Act.put, List.setIfInBounds_toArray, List.set_cons_zero, List.set_cons_succ, y0, y3, y4]
    clear hφ hψ hne y0 y3 y4 Fa1_ Fa2_ Pa_ HB_ hsz2
    go_wp2
    go_ret
    exact ⟨rfl, HB.out⟩
end Go.Proofs.Ytklamiajcdkmnaa

