/- A part of the proof of the laws of rationals: ROf, Gcd. -/
import Derived.Test.YtijmjkkjopplbaaPae
import Derived.Test.YtijmjkkjopplbaaPam
import Derived.Test.YtijmjkkjopplbaaPal
import Derived.Test.YtijmjkkjopplbaaPab
import Derived.Test.YtijmjkkjopplbaaPad
import Derived.Test.YtijmjkkjopplbaaPac
import Derived.Test.YtijmjkkjopplbaaPaa
import Derived.Test.YtijmjkkjopplbaaPai
import Derived.Test.YtijmjkkjopplbaaPan
import Derived.Test.YtijmjkkjopplbaaPak
namespace Go.Proofs.Ytijmjkkjopplbaa
open Go.RowKit
set_option linter.unusedVariables false
set_option maxRecDepth 100000

set_option maxHeartbeats 4000000 in
theorem of_neg (w : World) (v : Value) (p q : Int) (n : Nat) (h : Pair w v (.A p n) (.A q n)) (hq : q < 0) (h1n : 1 ≤ n) (hn : n ≤ 1000000) :
    Calls Try.prog 50 #[v] w fun e w' => (∃ u, e = .returned u ∧ Pair w' u (.A (-p) n) (.A (-q) n)) ∧ Below w.heap.size w w' := by
  have hc : cm q 0 = -1 := cm_lt hq
  obtain ⟨q1, A1, n1, c1, q2, A2, n2, c2, rfl, h1, h2⟩ := h.form
  have Fa1 : Hid (IntA w (.agg #[.bool q1, .slice A1 n1 c1]) p n) := hid h1
  have Fa2 : Hid (IntA w (.agg #[.bool q2, .slice A2 n2 c2]) q n) := hid h2
  have S1 := hid Fa1.out.sm
  have S2 := hid Fa2.out.sm
  clear h1 h2 h
  have HB := hid (Below.refl w.heap.size w)
  obtain ⟨W, hW⟩ : ∃ W, W = ((w.alloc (.cells #[.bool q1, .slice A1 n1 c1, .bool q2, .slice A2 n2 c2] 26)).alloc (.cells #[.bool false, .slice none 0 0, .bool false, .slice none 0 0] 56)) := ⟨_, rfl⟩
  have hbb : Below w.heap.size w W := by rw [hW]; exact (bw_alloc (bw_alloc (Below.refl _ _) _) _)
  have HB := hid (bw_step HB.out hbb)
  have Fa1 := hid (Fa1.out.below hbb)
  have Fa2 := hid (Fa2.out.below hbb)
  have Pa : Hid (Blk W (w.heap.size) 26 #[.bool q1, .slice A1 n1 c1, .bool q2, .slice A2 n2 c2]) := by
    rw [hW]
    have := (Blk.new w 26 #[.bool q1, .slice A1 n1 c1, .bool q2, .slice A2 n2 c2]).below (bw_alloc (Below.refl _ _) (.cells #[.bool false, .slice none 0 0, .bool false, .slice none 0 0] 56))
    exact hid (by simpa only [World.size_alloc] using this)
  have R0 : Hid (Blk W (w.heap.size + 1) 56 #[.bool false, .slice none 0 0, .bool false, .slice none 0 0]) := by
    rw [hW]
    have := Blk.new (w.alloc (.cells #[.bool q1, .slice A1 n1 c1, .bool q2, .slice A2 n2 c2] 26)) 56 #[.bool false, .slice none 0 0, .bool false, .slice none 0 0]
    exact hid (by simpa only [World.size_alloc] using this)
  clear hbb
  have u2 := Pa.out.cell 2
  have u3 := Pa.out.cell 3
  go_enter Try.func50, Try.ntmps50
  go_wp2_with fail
  rw [← hW]
  clear hW
  refine (sign_any _ _ q n Fa2.out).mono ?_
  rintro e W1 ⟨rfl, hb1⟩
  rw [hc]
  clear u2 u3
  have HB := hid (bw_step HB.out hb1)
  have Fa1 := hid (Fa1.out.below hb1)
  have Fa2 := hid (Fa2.out.below hb1)
  have Pa := hid (Pa.out.below hb1)
  have R0 := hid (R0.out.below hb1)
  clear hb1
  go_wp2_with fail
  have SM2 : Hid (Sm n (-p)) := hid ((S1.out).opp)
  have SM3 : Hid (Sm n (-q)) := hid ((S2.out).opp)
  refine wp_region_each (by kernel_rfl) 8 25 rfl rfl (by kernel_rfl)
    [Fact.eq (.pointer (some ⟨w.heap.size, 0, none⟩)), Fact.eq (.agg #[.bool q1, .slice A1 n1 c1]), Fact.int (-p), Fact.eq (.pointer (some ⟨w.heap.size, 2, none⟩)), Fact.eq (.agg #[.bool q2, .slice A2 n2 c2]), Fact.int (-q), Fact.pair (.V (-p)) (.V (-q)), Fact.top _]
    [.val, .val, .val, .val, .val, .val, .val, .fillOld 0]
    (fun w' => IntA w' (.agg #[.bool q1, .slice A1 n1 c1]) (p) n ∧ IntA w' (.agg #[.bool q2, .slice A2 n2 c2]) (q) n ∧ Blk w' (w.heap.size) 26 #[.bool q1, .slice A1 n1 c1, .bool q2, .slice A2 n2 c2] ∧ Below w.heap.size w w')
    (fun l b w' => match l with
      | 0 => if b = true then BoxR w' (w.heap.size + 1) 56 (.V (-p)) (.V (-q)) else Blk w' (w.heap.size + 1) 56 #[.bool false, .slice none 0 0, .bool false, .slice none 0 0]
      | _ => True)
    [7] (fun l => match l with | 0 => w.heap.size + 1 | _ => 0) (by kernel_rfl)
    ⟨Fa1.out, Fa2.out, Pa.out, HB.out⟩
    (fun w1 w2 ⟨h0, h1, h2, h3⟩ hb => ⟨h0.below hb, h1.below hb, h2.below hb, bw_step h3 hb⟩)
    (fun w1 w2 g ⟨h0, h1, h2, h3⟩ hg hn ho => by
      have hg' : W1.heap.size ≤ g ∨ g = w.heap.size + 1 := by
        rcases hg with h | ⟨l, hl, h⟩
        · exact .inl h
        · rcases l with _ | l
          · exact .inr h
          · exact absurd hl (by simp)
      exact ⟨h0.only hn ho, h1.only hn ho, h2.only ho (by have := Pa.out.lt; have := R0.out.lt; omega), below_only h3 ho (by have := Pa.out.lt; have := R0.out.lt; have := HB.out.size; omega)⟩)
    (fun l hl => by
        rcases l with _ | l
        · exact R0.out
        · exact absurd hl (by simp))
    (fun l b w1 w2 hl h hb => by
        rcases l with _ | l
        · (cases b <;> exact h.below hb)
        · exact absurd hl (by simp))
    (fun l b w1 w2 g hl h hg hn ho => by
        rcases l with _ | l
        · (cases b; (exact h.only ho (Ne.symm hg)); (exact h.only (Ne.symm hg) hn ho))
        · exact absurd hl (by simp))
    (fun l hl => by
        rcases l with _ | l
        · exact R0.out.lt
        · exact absurd hl (by simp))
    (fun l k hl hk hne => by rcases l with _ | l <;> rcases k with _ | k <;> simp at hl hk hne)
    ?_ ?_
  · refine ⟨?_, ?_, ?_, ?_, ?_, ?_, ?_, ?_, trivial⟩ <;> intro L V a1 w1 hf hG hsz hφ hψ hL hdep hcl
    · have e1 := old_slot hf 1 (by kernel_rfl)
      exact ob_pure (ex_fieldAddrR0 rfl e1) rfl
    · obtain ⟨_, _, Pa_, _⟩ := hG
      have d0 := dep_of hdep 0 (by kernel_rfl)
      have e13 := (new_slot hf 0 13 d0 (by kernel_rfl)).trans (show V 0 = .pointer (some ⟨w.heap.size, 0, none⟩) from hφ 0 d0)
      exact ob_pure (ex_load_at0 rfl e13 Pa_) rfl
    · obtain ⟨Fa1_, _⟩ := hG
      have d1 := dep_of hdep 1 (by kernel_rfl)
      have e14 := (new_slot hf 1 14 d1 (by kernel_rfl)).trans (show V 1 = .agg #[.bool q1, .slice A1 n1 c1] from hφ 1 d1)
      refine ob_go rfl (vs := #[.agg #[.bool q1, .slice A1 n1 c1]]) (by simp only [List.map_toArray, List.map_cons, List.map_nil, e14]) (by kernel_rfl) (neg_any _ (.agg #[.bool q1, .slice A1 n1 c1]) p n Fa1_ ) ?_
      rintro e w2 ⟨⟨v, rfl, hv⟩, hb⟩
      exact ⟨v, rfl, hb, hv⟩
    · have e1 := old_slot hf 1 (by kernel_rfl)
      exact ob_pure (ex_fieldAddrR1 rfl e1) rfl
    · obtain ⟨_, _, Pa_, _⟩ := hG
      have d3 := dep_of hdep 3 (by kernel_rfl)
      have e16 := (new_slot hf 3 16 d3 (by kernel_rfl)).trans (show V 3 = .pointer (some ⟨w.heap.size, 2, none⟩) from hφ 3 d3)
      exact ob_pure (ex_load_at2 rfl e16 Pa_) rfl
    · obtain ⟨_, Fa2_, _⟩ := hG
      have d4 := dep_of hdep 4 (by kernel_rfl)
      have e17 := (new_slot hf 4 17 d4 (by kernel_rfl)).trans (show V 4 = .agg #[.bool q2, .slice A2 n2 c2] from hφ 4 d4)
      refine ob_go rfl (vs := #[.agg #[.bool q2, .slice A2 n2 c2]]) (by simp only [List.map_toArray, List.map_cons, List.map_nil, e17]) (by kernel_rfl) (neg_any _ (.agg #[.bool q2, .slice A2 n2 c2]) q n Fa2_ ) ?_
      rintro e w2 ⟨⟨v, rfl, hv⟩, hb⟩
      exact ⟨v, rfl, hb, hv⟩
    · have d2 := dep_of hdep 2 (by kernel_rfl)
      have e15 := new_slot hf 2 15 d2 (by kernel_rfl)
      have p15 : IntV w1 (V 2) (-p) := hφ 2 d2
      have d5 := dep_of hdep 5 (by kernel_rfl)
      have e18 := new_slot hf 5 18 d5 (by kernel_rfl)
      have p18 : IntV w1 (V 5) (-q) := hφ 5 d5
      exact ob_buildF (A := .V (-p)) (B := .V (-q)) rfl e15 p15 e18 p18 rfl
    · have d6 := dep_of hdep 6 (by kernel_rfl)
      have e19 := new_slot hf 6 19 d6 (by kernel_rfl)
      have p19 : Pair w1 (V 6) (.V (-p)) (.V (-q)) := hφ 6 d6
      have e2 := old_slot hf 2 (by kernel_rfl)
      have hb0 := hψ 0 (by decide)
      rw [show [7].getD 0 0 = 7 from rfl, hL] at hb0
      exact ob_fillOldF rfl e2 e19 hb0 p19 (fun w2 h => h) rfl
  · intro V W4 hG hsz4 hφ hψ hne
    have hlt4 : W1.heap.size ≤ W4.heap.size := hsz4
    obtain ⟨Fa1_, Fa2_, Pa_, HB_⟩ := hG
    have Fa1 := hid Fa1_
    have Fa2 := hid Fa2_
    have Pa := hid Pa_
    have HB := hid HB_
    have y0 : V 0 = .pointer (some ⟨w.heap.size, 0, none⟩) := hφ 0 (by decide)
    have y1 : V 1 = .agg #[.bool q1, .slice A1 n1 c1] := hφ 1 (by decide)
    have y3 : V 3 = .pointer (some ⟨w.heap.size, 2, none⟩) := hφ 3 (by decide)
    have y4 : V 4 = .agg #[.bool q2, .slice A2 n2 c2] := hφ 4 (by decide)
    obtain ⟨q4501, A4501, n4501, c4501, q4502, A4502, n4502, c4502, kb450, va450, vb450⟩ := hψ 0 (by decide)
    have R0 := hid kb450
    have R01 : Hid (IntV W4 (.agg #[.bool q4501, .slice A4501 n4501 c4501]) (-p)) := hid va450
    have R02 : Hid (IntV W4 (.agg #[.bool q4502, .slice A4502 n4502 c4502]) (-q)) := hid vb450
    clear kb450 va450 vb450
    simp only [puts, Act.put, List.setIfInBounds_toArray, List.set_cons_zero, List.set_cons_succ, y0, y1, y3, y4]
    clear hφ hψ hne y0 y1 y3 y4 Fa1_ Fa2_ Pa_ HB_ hsz4
    have k0 := R0.out.cell 0
    have k1 := R0.out.cell 1
    have k2 := R0.out.cell 2
    have k3 := R0.out.cell 3
    go_wp2
    refine bodyPost_ret (v := .agg #[.bool q4501, .slice A4501 n4501 c4501, .bool q4502, .slice A4502 n4502 c4502]) (by simp [results, Try.results50, go_sem, k0, k1, k2, k3]) rfl ⟨⟨_, rfl, ?_⟩, HB.out⟩
    exact Pair.mk (a := .A (-p) n) (b := .A (-q) n) (R01.out.arg SM2.out) (R02.out.arg SM3.out)
set_option maxHeartbeats 4000000 in
theorem of_pos (w : World) (v : Value) (p q : Int) (n : Nat) (h : Pair w v (.A p n) (.A q n)) (hq : 0 < q) (h1n : 1 ≤ n) (hn : n ≤ 1000000) :
    Calls Try.prog 50 #[v] w fun e w' => (∃ u, e = .returned u ∧ Pair w' u (.A (p) n) (.A (q) n)) ∧ Below w.heap.size w w' := by
  have hc : cm q 0 = 1 := cm_gt hq
  obtain ⟨q1, A1, n1, c1, q2, A2, n2, c2, rfl, h1, h2⟩ := h.form
  have Fa1 : Hid (IntA w (.agg #[.bool q1, .slice A1 n1 c1]) p n) := hid h1
  have Fa2 : Hid (IntA w (.agg #[.bool q2, .slice A2 n2 c2]) q n) := hid h2
  have S1 := hid Fa1.out.sm
  have S2 := hid Fa2.out.sm
  clear h1 h2 h
  have HB := hid (Below.refl w.heap.size w)
  obtain ⟨W, hW⟩ : ∃ W, W = ((w.alloc (.cells #[.bool q1, .slice A1 n1 c1, .bool q2, .slice A2 n2 c2] 26)).alloc (.cells #[.bool false, .slice none 0 0, .bool false, .slice none 0 0] 56)) := ⟨_, rfl⟩
  have hbb : Below w.heap.size w W := by rw [hW]; exact (bw_alloc (bw_alloc (Below.refl _ _) _) _)
  have HB := hid (bw_step HB.out hbb)
  have Fa1 := hid (Fa1.out.below hbb)
  have Fa2 := hid (Fa2.out.below hbb)
  have Pa : Hid (Blk W (w.heap.size) 26 #[.bool q1, .slice A1 n1 c1, .bool q2, .slice A2 n2 c2]) := by
    rw [hW]
    have := (Blk.new w 26 #[.bool q1, .slice A1 n1 c1, .bool q2, .slice A2 n2 c2]).below (bw_alloc (Below.refl _ _) (.cells #[.bool false, .slice none 0 0, .bool false, .slice none 0 0] 56))
    exact hid (by simpa only [World.size_alloc] using this)
  have R0 : Hid (Blk W (w.heap.size + 1) 56 #[.bool false, .slice none 0 0, .bool false, .slice none 0 0]) := by
    rw [hW]
    have := Blk.new (w.alloc (.cells #[.bool q1, .slice A1 n1 c1, .bool q2, .slice A2 n2 c2] 26)) 56 #[.bool false, .slice none 0 0, .bool false, .slice none 0 0]
    exact hid (by simpa only [World.size_alloc] using this)
  clear hbb
  have u2 := Pa.out.cell 2
  have u3 := Pa.out.cell 3
  go_enter Try.func50, Try.ntmps50
  go_wp2_with fail
  rw [← hW]
  clear hW
  refine (sign_any _ _ q n Fa2.out).mono ?_
  rintro e W1 ⟨rfl, hb1⟩
  rw [hc]
  clear u2 u3
  have HB := hid (bw_step HB.out hb1)
  have Fa1 := hid (Fa1.out.below hb1)
  have Fa2 := hid (Fa2.out.below hb1)
  have Pa := hid (Pa.out.below hb1)
  have R0 := hid (R0.out.below hb1)
  clear hb1
  go_wp2_with (with_reducible refine halt_at 20 rfl ?_)
  unfold Halted
  refine wp_list_each (by kernel_rfl) 6 25 rfl rfl (by kernel_rfl)
    [Fact.eq (.pointer (some ⟨w.heap.size, 0, none⟩)), Fact.eq (.agg #[.bool q1, .slice A1 n1 c1]), Fact.eq (.pointer (some ⟨w.heap.size, 2, none⟩)), Fact.eq (.agg #[.bool q2, .slice A2 n2 c2]), Fact.pair (.A p n) (.A q n), Fact.top _]
    [.val, .val, .val, .val, .val, .fillOld 0]
    (fun w' => IntA w' (.agg #[.bool q1, .slice A1 n1 c1]) (p) n ∧ IntA w' (.agg #[.bool q2, .slice A2 n2 c2]) (q) n ∧ Blk w' (w.heap.size) 26 #[.bool q1, .slice A1 n1 c1, .bool q2, .slice A2 n2 c2] ∧ Below w.heap.size w w')
    (fun l b w' => match l with
      | 0 => if b = true then BoxR w' (w.heap.size + 1) 56 (.A p n) (.A q n) else Blk w' (w.heap.size + 1) 56 #[.bool false, .slice none 0 0, .bool false, .slice none 0 0]
      | _ => True)
    [5] (fun l => match l with | 0 => w.heap.size + 1 | _ => 0) (by kernel_rfl)
    ⟨Fa1.out, Fa2.out, Pa.out, HB.out⟩
    (fun w1 w2 ⟨h0, h1, h2, h3⟩ hb => ⟨h0.below hb, h1.below hb, h2.below hb, bw_step h3 hb⟩)
    (fun w1 w2 g ⟨h0, h1, h2, h3⟩ hg hn ho => by
      have hg' : W1.heap.size ≤ g ∨ g = w.heap.size + 1 := by
        rcases hg with h | ⟨l, hl, h⟩
        · exact .inl h
        · rcases l with _ | l
          · exact .inr h
          · exact absurd hl (by simp)
      exact ⟨h0.only hn ho, h1.only hn ho, h2.only ho (by have := Pa.out.lt; have := R0.out.lt; omega), below_only h3 ho (by have := Pa.out.lt; have := R0.out.lt; have := HB.out.size; omega)⟩)
    (fun l hl => by
        rcases l with _ | l
        · exact R0.out
        · exact absurd hl (by simp))
    (fun l b w1 w2 hl h hb => by
        rcases l with _ | l
        · (cases b <;> exact h.below hb)
        · exact absurd hl (by simp))
    (fun l b w1 w2 g hl h hg hn ho => by
        rcases l with _ | l
        · (cases b; (exact h.only ho (Ne.symm hg)); (exact h.only (Ne.symm hg) hn ho))
        · exact absurd hl (by simp))
    (fun l hl => by
        rcases l with _ | l
        · exact R0.out.lt
        · exact absurd hl (by simp))
    (fun l k hl hk hne => by rcases l with _ | l <;> rcases k with _ | k <;> simp at hl hk hne)
    ?_ ?_
  · refine ⟨?_, ?_, ?_, ?_, ?_, ?_, trivial⟩ <;> intro L V a1 w1 hf hG hsz hφ hψ hL hdep hcl
    · have e1 := old_slot hf 1 (by kernel_rfl)
      exact ob_pure (ex_fieldAddrR0 rfl e1) rfl
    · obtain ⟨_, _, Pa_, _⟩ := hG
      have d0 := dep_of hdep 0 (by kernel_rfl)
      have e20 := (new_slot hf 0 20 d0 (by kernel_rfl)).trans (show V 0 = .pointer (some ⟨w.heap.size, 0, none⟩) from hφ 0 d0)
      exact ob_pure (ex_load_at0 rfl e20 Pa_) rfl
    · have e1 := old_slot hf 1 (by kernel_rfl)
      exact ob_pure (ex_fieldAddrR1 rfl e1) rfl
    · obtain ⟨_, _, Pa_, _⟩ := hG
      have d2 := dep_of hdep 2 (by kernel_rfl)
      have e22 := (new_slot hf 2 22 d2 (by kernel_rfl)).trans (show V 2 = .pointer (some ⟨w.heap.size, 2, none⟩) from hφ 2 d2)
      exact ob_pure (ex_load_at2 rfl e22 Pa_) rfl
    · obtain ⟨Fa1_, Fa2_, _⟩ := hG
      have d1 := dep_of hdep 1 (by kernel_rfl)
      have e21 := (new_slot hf 1 21 d1 (by kernel_rfl)).trans (show V 1 = .agg #[.bool q1, .slice A1 n1 c1] from hφ 1 d1)
      have d3 := dep_of hdep 3 (by kernel_rfl)
      have e23 := (new_slot hf 3 23 d3 (by kernel_rfl)).trans (show V 3 = .agg #[.bool q2, .slice A2 n2 c2] from hφ 3 d3)
      exact ob_buildF (A := .A p n) (B := .A q n) rfl e21 Fa1_ e23 Fa2_ rfl
    · have d4 := dep_of hdep 4 (by kernel_rfl)
      have e24 := new_slot hf 4 24 d4 (by kernel_rfl)
      have p24 : Pair w1 (V 4) (.A p n) (.A q n) := hφ 4 d4
      have e2 := old_slot hf 2 (by kernel_rfl)
      have hb0 := hψ 0 (by decide)
      rw [show [5].getD 0 0 = 5 from rfl, hL] at hb0
      exact ob_fillOldF rfl e2 e24 hb0 p24 (fun w2 h => h) rfl
  · intro V W2 hG hsz2 hφ hψ hne
    have hlt2 : W1.heap.size ≤ W2.heap.size := hsz2
    obtain ⟨Fa1_, Fa2_, Pa_, HB_⟩ := hG
    have Fa1 := hid Fa1_
    have Fa2 := hid Fa2_
    have Pa := hid Pa_
    have HB := hid HB_
    have y0 : V 0 = .pointer (some ⟨w.heap.size, 0, none⟩) := hφ 0 (by decide)
    have y1 : V 1 = .agg #[.bool q1, .slice A1 n1 c1] := hφ 1 (by decide)
    have y2 : V 2 = .pointer (some ⟨w.heap.size, 2, none⟩) := hφ 2 (by decide)
    have y3 : V 3 = .agg #[.bool q2, .slice A2 n2 c2] := hφ 3 (by decide)
    obtain ⟨q2501, A2501, n2501, c2501, q2502, A2502, n2502, c2502, kb250, va250, vb250⟩ := hψ 0 (by decide)
    have R0 := hid kb250
    have R01 : Hid (IntA W2 (.agg #[.bool q2501, .slice A2501 n2501 c2501]) p n) := hid va250
    have R02 : Hid (IntA W2 (.agg #[.bool q2502, .slice A2502 n2502 c2502]) q n) := hid vb250
    clear kb250 va250 vb250
    simp only [puts, Act.put, List.setIfInBounds_toArray, List.set_cons_zero, List.set_cons_succ, y0, y1, y2, y3]
    clear hφ hψ hne y0 y1 y2 y3 Fa1_ Fa2_ Pa_ HB_ hsz2
    have k0 := R0.out.cell 0
    have k1 := R0.out.cell 1
    have k2 := R0.out.cell 2
    have k3 := R0.out.cell 3
    go_wp2
    refine bodyPost_ret (v := .agg #[.bool q2501, .slice A2501 n2501 c2501, .bool q2502, .slice A2502 n2502 c2502]) (by simp [results, Try.results50, go_sem, k0, k1, k2, k3]) rfl ⟨⟨_, rfl, ?_⟩, HB.out⟩
    exact Pair.mk (a := .A (p) n) (b := .A (q) n) R01.out R02.out
set_option maxHeartbeats 4000000 in
theorem of_zero (w : World) (v : Value) (p q : Int) (n : Nat) (h : Pair w v (.A p n) (.A q n)) (hq : q = 0) (h1n : 1 ≤ n) (hn : n ≤ 1000000) :
    Calls Try.prog 50 #[v] w fun e w' => (∃ u, e = .returned u ∧ Pair w' u (.A (0) n) (.A (1) n)) ∧ Below w.heap.size w w' := by
  have hc : cm q 0 = 0 := cm_eq hq
  obtain ⟨q1, A1, n1, c1, q2, A2, n2, c2, rfl, h1, h2⟩ := h.form
  have Fa1 : Hid (IntA w (.agg #[.bool q1, .slice A1 n1 c1]) p n) := hid h1
  have Fa2 : Hid (IntA w (.agg #[.bool q2, .slice A2 n2 c2]) q n) := hid h2
  have S1 := hid Fa1.out.sm
  have S2 := hid Fa2.out.sm
  clear h1 h2 h
  have HB := hid (Below.refl w.heap.size w)
  obtain ⟨W, hW⟩ : ∃ W, W = ((w.alloc (.cells #[.bool q1, .slice A1 n1 c1, .bool q2, .slice A2 n2 c2] 26)).alloc (.cells #[.bool false, .slice none 0 0, .bool false, .slice none 0 0] 56)) := ⟨_, rfl⟩
  have hbb : Below w.heap.size w W := by rw [hW]; exact (bw_alloc (bw_alloc (Below.refl _ _) _) _)
  have HB := hid (bw_step HB.out hbb)
  have Fa1 := hid (Fa1.out.below hbb)
  have Fa2 := hid (Fa2.out.below hbb)
  have Pa : Hid (Blk W (w.heap.size) 26 #[.bool q1, .slice A1 n1 c1, .bool q2, .slice A2 n2 c2]) := by
    rw [hW]
    have := (Blk.new w 26 #[.bool q1, .slice A1 n1 c1, .bool q2, .slice A2 n2 c2]).below (bw_alloc (Below.refl _ _) (.cells #[.bool false, .slice none 0 0, .bool false, .slice none 0 0] 56))
    exact hid (by simpa only [World.size_alloc] using this)
  have R0 : Hid (Blk W (w.heap.size + 1) 56 #[.bool false, .slice none 0 0, .bool false, .slice none 0 0]) := by
    rw [hW]
    have := Blk.new (w.alloc (.cells #[.bool q1, .slice A1 n1 c1, .bool q2, .slice A2 n2 c2] 26)) 56 #[.bool false, .slice none 0 0, .bool false, .slice none 0 0]
    exact hid (by simpa only [World.size_alloc] using this)
  clear hbb
  have u2 := Pa.out.cell 2
  have u3 := Pa.out.cell 3
  go_enter Try.func50, Try.ntmps50
  go_wp2_with fail
  rw [← hW]
  clear hW
  refine (sign_any _ _ q n Fa2.out).mono ?_
  rintro e W1 ⟨rfl, hb1⟩
  rw [hc]
  clear u2 u3
  have HB := hid (bw_step HB.out hb1)
  have Fa1 := hid (Fa1.out.below hb1)
  have Fa2 := hid (Fa2.out.below hb1)
  have Pa := hid (Pa.out.below hb1)
  have R0 := hid (R0.out.below hb1)
  clear hb1
  go_wp2_with (with_reducible refine halt_at 8 rfl ?_)
  unfold Halted
  refine wp_list_each (by kernel_rfl) 4 25 rfl rfl (by kernel_rfl)
    [Fact.eq (.agg #[.bool false, .slice none 0 0]), Fact.int 1, Fact.pair (.V 0) (.V 1), Fact.top _]
    [.val, .val, .val, .fillOld 0]
    (fun w' => IntA w' (.agg #[.bool q1, .slice A1 n1 c1]) (p) n ∧ IntA w' (.agg #[.bool q2, .slice A2 n2 c2]) (q) n ∧ Blk w' (w.heap.size) 26 #[.bool q1, .slice A1 n1 c1, .bool q2, .slice A2 n2 c2] ∧ Below w.heap.size w w')
    (fun l b w' => match l with
      | 0 => if b = true then BoxR w' (w.heap.size + 1) 56 (.V 0) (.V 1) else Blk w' (w.heap.size + 1) 56 #[.bool false, .slice none 0 0, .bool false, .slice none 0 0]
      | _ => True)
    [3] (fun l => match l with | 0 => w.heap.size + 1 | _ => 0) (by kernel_rfl)
    ⟨Fa1.out, Fa2.out, Pa.out, HB.out⟩
    (fun w1 w2 ⟨h0, h1, h2, h3⟩ hb => ⟨h0.below hb, h1.below hb, h2.below hb, bw_step h3 hb⟩)
    (fun w1 w2 g ⟨h0, h1, h2, h3⟩ hg hn ho => by
      have hg' : W1.heap.size ≤ g ∨ g = w.heap.size + 1 := by
        rcases hg with h | ⟨l, hl, h⟩
        · exact .inl h
        · rcases l with _ | l
          · exact .inr h
          · exact absurd hl (by simp)
      exact ⟨h0.only hn ho, h1.only hn ho, h2.only ho (by have := Pa.out.lt; have := R0.out.lt; omega), below_only h3 ho (by have := Pa.out.lt; have := R0.out.lt; have := HB.out.size; omega)⟩)
    (fun l hl => by
        rcases l with _ | l
        · exact R0.out
        · exact absurd hl (by simp))
    (fun l b w1 w2 hl h hb => by
        rcases l with _ | l
        · (cases b <;> exact h.below hb)
        · exact absurd hl (by simp))
    (fun l b w1 w2 g hl h hg hn ho => by
        rcases l with _ | l
        · (cases b; (exact h.only ho (Ne.symm hg)); (exact h.only (Ne.symm hg) hn ho))
        · exact absurd hl (by simp))
    (fun l hl => by
        rcases l with _ | l
        · exact R0.out.lt
        · exact absurd hl (by simp))
    (fun l k hl hk hne => by rcases l with _ | l <;> rcases k with _ | k <;> simp at hl hk hne)
    ?_ ?_
  · refine ⟨?_, ?_, ?_, ?_, trivial⟩ <;> intro L V a1 w1 hf hG hsz hφ hψ hL hdep hcl
    · exact ob_pure (ex_build0 rfl) rfl
    · refine ob_go rfl (vs := #[.int .i64 1]) (by simp only [List.map_toArray, List.map_cons, List.map_nil, ev_const]) (by kernel_rfl) (small_any _ 1 (by decide) (by decide)) ?_
      rintro e w2 ⟨⟨v, rfl, hv⟩, hb⟩
      exact ⟨v, rfl, hb, hv⟩
    · have d0 := dep_of hdep 0 (by kernel_rfl)
      have e8 := (new_slot hf 0 8 d0 (by kernel_rfl)).trans (show V 0 = .agg #[.bool false, .slice none 0 0] from hφ 0 d0)
      have d1 := dep_of hdep 1 (by kernel_rfl)
      have e9 := new_slot hf 1 9 d1 (by kernel_rfl)
      have p9 : IntV w1 (V 1) 1 := hφ 1 d1
      exact ob_buildF (A := .V 0) (B := .V 1) rfl e8 (IntV.zero _) e9 p9 rfl
    · have d2 := dep_of hdep 2 (by kernel_rfl)
      have e10 := new_slot hf 2 10 d2 (by kernel_rfl)
      have p10 : Pair w1 (V 2) (.V 0) (.V 1) := hφ 2 d2
      have e2 := old_slot hf 2 (by kernel_rfl)
      have hb0 := hψ 0 (by decide)
      rw [show [3].getD 0 0 = 3 from rfl, hL] at hb0
      exact ob_fillOldF rfl e2 e10 hb0 p10 (fun w2 h => h) rfl
  · intro V W2 hG hsz2 hφ hψ hne
    have hlt2 : W1.heap.size ≤ W2.heap.size := hsz2
    obtain ⟨Fa1_, Fa2_, Pa_, HB_⟩ := hG
    have Fa1 := hid Fa1_
    have Fa2 := hid Fa2_
    have Pa := hid Pa_
    have HB := hid HB_
    have y0 : V 0 = .agg #[.bool false, .slice none 0 0] := hφ 0 (by decide)
    obtain ⟨q2501, A2501, n2501, c2501, q2502, A2502, n2502, c2502, kb250, va250, vb250⟩ := hψ 0 (by decide)
    have R0 := hid kb250
    have R01 : Hid (IntV W2 (.agg #[.bool q2501, .slice A2501 n2501 c2501]) 0) := hid va250
    have R02 : Hid (IntV W2 (.agg #[.bool q2502, .slice A2502 n2502 c2502]) 1) := hid vb250
    clear kb250 va250 vb250
    simp only [puts, Act.put, List.setIfInBounds_toArray, List.set_cons_zero, List.set_cons_succ, y0]
    clear hφ hψ hne y0 Fa1_ Fa2_ Pa_ HB_ hsz2
    have k0 := R0.out.cell 0
    have k1 := R0.out.cell 1
    have k2 := R0.out.cell 2
    have k3 := R0.out.cell 3
    go_wp2
    refine bodyPost_ret (v := .agg #[.bool q2501, .slice A2501 n2501 c2501, .bool q2502, .slice A2502 n2502 c2502]) (by simp [results, Try.results50, go_sem, k0, k1, k2, k3]) rfl ⟨⟨_, rfl, ?_⟩, HB.out⟩
    exact Pair.mk (a := .A (0) n) (b := .A (1) n) (R01.out.arg (show Sm n 0 from ⟨by have := bp_pos n; omega, bp_pos n⟩)) (R02.out.arg ((Sm.one (n := 1) (by decide) (by decide)).to h1n))
theorem of_any (w : World) (v : Value) (p q : Int) (n : Nat) (h : Pair w v (.A p n) (.A q n)) (h1n : 1 ≤ n) (hn : n ≤ 1000000) :
    Calls Try.prog 50 #[v] w fun e w' => (∃ u, e = .returned u ∧ Pair w' u (.A (ofN p q) n) (.A (ofD p q) n)) ∧ Below w.heap.size w w' := by
  rcases Int.lt_trichotomy q 0 with h0 | h0 | h0
  · rw [show ofN p q = -p by unfold ofN; rw [if_neg (by omega), if_pos h0], show ofD p q = -q by unfold ofD; rw [if_neg (by omega), if_pos h0]]; exact of_neg w v p q n h h0 h1n hn
  · rw [show ofN p q = 0 by unfold ofN; rw [if_pos h0], show ofD p q = 1 by unfold ofD; rw [if_pos h0]]; exact of_zero w v p q n h h0 h1n hn
  · rw [show ofN p q = p by unfold ofN; rw [if_neg (by omega), if_neg (by omega)], show ofD p q = q by unfold ofD; rw [if_neg (by omega), if_neg (by omega)]]; exact of_pos w v p q n h h0 h1n hn
end Go.Proofs.Ytijmjkkjopplbaa

namespace Go.Proofs.Ytijmjkkjopplbaa
open Go.RowKit
set_option linter.unusedVariables false
set_option maxRecDepth 100000

set_option maxHeartbeats 4000000 in
theorem gcd_any (w : World) (v u : Value) (a b : Int) (N : Nat) (hN : N ≤ 1000000) (ha : IntA w v a N) (hb : IntA w u b N) :
    Calls Try.prog 66 #[v, u] w fun e w' => RetI w' ((Int.gcd a b : Nat) : Int) e ∧ Below w.heap.size w w' := by
  obtain ⟨na, As, sn, cs, rfl⟩ := ha.form
  obtain ⟨nb, Ar, rn, cr, rfl⟩ := hb.form
  have SA := hid ha.sm.absv
  have SB := hid hb.sm.absv
  have FA := hid ha
  have FB := hid hb
  clear ha hb
  have HB := hid (Below.refl w.heap.size w)
  obtain ⟨W, hW⟩ : ∃ W, W = (((w.alloc (.cells #[.bool na, .slice As sn cs] 24)).alloc (.cells #[.bool nb, .slice Ar rn cr] 24)).alloc (.cells #[.bool false, .slice none 0 0] 24)) := ⟨_, rfl⟩
  have hbb : Below w.heap.size w W := by rw [hW]; exact (bw_alloc (bw_alloc (bw_alloc (Below.refl _ _) _) _) _)
  have HB := hid (bw_step HB.out hbb)
  have FA := hid (FA.out.below hbb)
  have FB := hid (FB.out.below hbb)
  have P0 : Hid (Blk W (w.heap.size) 24 #[.bool na, .slice As sn cs]) := by
    rw [hW]
    have := ((Blk.new w 24 #[.bool na, .slice As sn cs]).below (bw_alloc (Below.refl _ _) (.cells #[.bool nb, .slice Ar rn cr] 24))).below (bw_alloc (Below.refl _ _) (.cells #[.bool false, .slice none 0 0] 24))
    exact hid (by simpa only [World.size_alloc] using this)
  have P1 : Hid (Blk W (w.heap.size + 1) 24 #[.bool nb, .slice Ar rn cr]) := by
    rw [hW]
    have := (Blk.new (w.alloc (.cells #[.bool na, .slice As sn cs] 24)) 24 #[.bool nb, .slice Ar rn cr]).below (bw_alloc (Below.refl _ _) (.cells #[.bool false, .slice none 0 0] 24))
    exact hid (by simpa only [World.size_alloc] using this)
  have R0 : Hid (Blk W (w.heap.size + 1 + 1) 24 #[.bool false, .slice none 0 0]) := by
    rw [hW]
    have := Blk.new ((w.alloc (.cells #[.bool na, .slice As sn cs] 24)).alloc (.cells #[.bool nb, .slice Ar rn cr] 24)) 24 #[.bool false, .slice none 0 0]
    exact hid (by simpa only [World.size_alloc] using this)
  clear hbb
  go_enter Try.func66, Try.ntmps66
  go_wp2_with fail
  rw [← hW]
  clear hW
  refine wp_region_each (by kernel_rfl) 8 28 rfl rfl (by kernel_rfl)
    [Fact.eq (.agg #[.bool na, .slice As sn cs]), Fact.int a, Fact.lim (a.natAbs : Int), Fact.eq (.agg #[.bool nb, .slice Ar rn cr]), Fact.int b, Fact.lim (b.natAbs : Int), Fact.lim (a.natAbs : Int), Fact.lim (b.natAbs : Int)]
    [.val, .val, .val, .val, .val, .val, .val, .val]
    (fun w' => IntA w' (.agg #[.bool na, .slice As sn cs]) (a) N ∧ IntA w' (.agg #[.bool nb, .slice Ar rn cr]) (b) N ∧ Blk w' (w.heap.size) 24 #[.bool na, .slice As sn cs] ∧ Blk w' (w.heap.size + 1) 24 #[.bool nb, .slice Ar rn cr] ∧ Blk w' (w.heap.size + 1 + 1) 24 #[.bool false, .slice none 0 0] ∧ Below w.heap.size w w')
    (fun _ _ _ => True) [] (fun _ => 0) (by kernel_rfl)
    ⟨FA.out, FB.out, P0.out, P1.out, R0.out, HB.out⟩
    (fun w1 w2 ⟨h0, h1, h2, h3, h4, h5⟩ hb => ⟨h0.below hb, h1.below hb, h2.below hb, h3.below hb, h4.below hb, bw_step h5 hb⟩)
    (fun w1 w2 g ⟨h0, h1, h2, h3, h4, h5⟩ hg hn ho => by
      have hg' : W.heap.size ≤ g := hg.elim id (fun ⟨_, h, _⟩ => absurd h (Nat.not_lt_zero _))
      exact ⟨h0.only hn ho, h1.only hn ho, h2.only ho (by have := P0.out.lt; have := P1.out.lt; have := R0.out.lt; omega), h3.only ho (by have := P0.out.lt; have := P1.out.lt; have := R0.out.lt; omega), h4.only ho (by have := P0.out.lt; have := P1.out.lt; have := R0.out.lt; omega), below_only h5 ho (by have := P0.out.lt; have := P1.out.lt; have := R0.out.lt; have := HB.out.size; omega)⟩)
    (fun l h => trivial) (fun l b w1 w2 h _ _ => trivial) (fun l b w1 w2 g h _ _ _ _ => trivial) (fun l h => by cases h) (fun l k h => by cases h) ?_ ?_
  · refine ⟨?_, ?_, ?_, ?_, ?_, ?_, ?_, ?_, trivial⟩ <;> intro L V a1 w1 hf hG hsz hφ hψ hL hdep hcl
    · obtain ⟨FA_, FB_, P0_, P1_, R0_, HB_⟩ := hG
      have e2 := old_slot hf 2 (by kernel_rfl)
      exact ob_load_int rfl e2 P0_ rfl
    · obtain ⟨FA_, FB_, P0_, P1_, R0_, HB_⟩ := hG
      have d0 := dep_of hdep 0 (by kernel_rfl)
      have e9 := (new_slot hf 0 9 d0 (by kernel_rfl)).trans (show V 0 = .agg #[.bool na, .slice As sn cs] from hφ 0 d0)
      refine ob_go rfl (vs := #[.agg #[.bool na, .slice As sn cs]]) (by simp only [List.map_toArray, List.map_cons, List.map_nil, e9]) (by kernel_rfl) (normalize_any _ _ a N FA_) ?_
      rintro e w2 ⟨⟨v, rfl, hv, _⟩, hb⟩
      exact ⟨v, rfl, hb, hv⟩
    · obtain ⟨FA_, FB_, P0_, P1_, R0_, HB_⟩ := hG
      have d1 := dep_of hdep 1 (by kernel_rfl)
      have e10 := new_slot hf 1 10 d1 (by kernel_rfl)
      have p10 : IntV w1 (V 1) a := hφ 1 d1
      obtain ⟨q, A, n, c, ev⟩ := p10.form
      rw [ev] at p10 e10
      exact ob_pure (ex_field_mag rfl e10) p10.mag
    · obtain ⟨FA_, FB_, P0_, P1_, R0_, HB_⟩ := hG
      have e3 := old_slot hf 3 (by kernel_rfl)
      exact ob_load_int rfl e3 P1_ rfl
    · obtain ⟨FA_, FB_, P0_, P1_, R0_, HB_⟩ := hG
      have d3 := dep_of hdep 3 (by kernel_rfl)
      have e12 := (new_slot hf 3 12 d3 (by kernel_rfl)).trans (show V 3 = .agg #[.bool nb, .slice Ar rn cr] from hφ 3 d3)
      refine ob_go rfl (vs := #[.agg #[.bool nb, .slice Ar rn cr]]) (by simp only [List.map_toArray, List.map_cons, List.map_nil, e12]) (by kernel_rfl) (normalize_any _ _ b N FB_) ?_
      rintro e w2 ⟨⟨v, rfl, hv, _⟩, hb⟩
      exact ⟨v, rfl, hb, hv⟩
    · obtain ⟨FA_, FB_, P0_, P1_, R0_, HB_⟩ := hG
      have d4 := dep_of hdep 4 (by kernel_rfl)
      have e13 := new_slot hf 4 13 d4 (by kernel_rfl)
      have p13 : IntV w1 (V 4) b := hφ 4 d4
      obtain ⟨q, A, n, c, ev⟩ := p13.form
      rw [ev] at p13 e13
      exact ob_pure (ex_field_mag rfl e13) p13.mag
    · obtain ⟨FA_, FB_, P0_, P1_, R0_, HB_⟩ := hG
      have d2 := dep_of hdep 2 (by kernel_rfl)
      have d_ := dep_of hdep 2 (by kernel_rfl)
      exact ob_pure (ex_assignV rfl (new_slot hf 2 11 d_ (by kernel_rfl))) (show LimV w1 _ _ from hφ 2 d_)
    · obtain ⟨FA_, FB_, P0_, P1_, R0_, HB_⟩ := hG
      have d5 := dep_of hdep 5 (by kernel_rfl)
      have d_ := dep_of hdep 5 (by kernel_rfl)
      exact ob_pure (ex_assignV rfl (new_slot hf 5 14 d_ (by kernel_rfl))) (show LimV w1 _ _ from hφ 5 d_)
  · intro V W1 hG hsz1 hφ hψ hne
    have hlt1 : W.heap.size ≤ W1.heap.size := hsz1
    obtain ⟨FA_, FB_, P0_, P1_, R0_, HB_⟩ := hG
    have FA := hid FA_
    have FB := hid FB_
    have P0 := hid P0_
    have P1 := hid P1_
    have R0 := hid R0_
    have HB := hid HB_
    have y0 : V 0 = .agg #[.bool na, .slice As sn cs] := hφ 0 (by decide)
    have y3 : V 3 = .agg #[.bool nb, .slice Ar rn cr] := hφ 3 (by decide)
    have hs6 : LimV W1 (V 6) (a.natAbs : Int) := hφ 6 (by decide)
    obtain ⟨xs106, ⟨A106, c106, y6, hc106, _⟩, _⟩ := id hs6
    have x : Hid (LimV W1 (.slice A106 xs106.length c106) (a.natAbs : Int)) := hid (by rw [← y6]; exact hs6)
    clear hs6
    have hs7 : LimV W1 (V 7) (b.natAbs : Int) := hφ 7 (by decide)
    obtain ⟨xs107, ⟨A107, c107, y7, hc107, _⟩, _⟩ := id hs7
    have y : Hid (LimV W1 (.slice A107 xs107.length c107) (b.natAbs : Int)) := hid (by rw [← y7]; exact hs7)
    clear hs7
    simp only [puts, Act.put, List.setIfInBounds_toArray, List.set_cons_zero, List.set_cons_succ, y0, y3, y6, y7]
    clear hφ hψ hne y0 y3 y6 y7 FA_ FB_ P0_ P1_ R0_ HB_ hsz1
    go_wp2
    go_loopg [5, 6] (b.natAbs) (fun gk v u wr => ∃ A n c B m d, v = .slice A n c ∧ u = .slice B m d ∧ ∃ X Y : Int, Hid (LimV wr (.slice A n c) X) ∧ Hid (LimV wr (.slice B m d) Y) ∧ Hid (gk = Y.toNat) ∧ Hid (Int.gcd X Y = Int.gcd a b) ∧ Hid (Sm N X) ∧ Hid (Sm N Y) ∧ Hid (0 ≤ X) ∧ Hid (0 ≤ Y) ∧ Hid (Blk wr (w.heap.size + 1 + 1) 24 #[.bool false, .slice none 0 0]) ∧ Hid (Below w.heap.size w wr))
    case atStart => exact ⟨_, _, _, _, _, _, rfl, rfl, _, _, x, y, hid (by omega), hid (gcd_natAbs a b), SA, SB, hid (Int.natCast_nonneg _), hid (Int.natCast_nonneg _), R0.out, HB.out⟩
    case round =>
      clear FA FB P0 P1 R0 HB x y SA SB
      obtain ⟨A, n, c, B, m, d, rfl, rfl, X, Y, LX, LY, HG, HGC, SX, SY, X0, Y0, R0, HB⟩ := hrel
      obtain ⟨xs, hx1, hx2, hx3, hx4⟩ := LX.out
      obtain ⟨ys, hy1, hy2, hy3, hy4⟩ := LY.out
      have ex : xs.length = n := by obtain ⟨_, _, e, _⟩ := hx1; injection e with _ e _; exact e.symm
      have ey : ys.length = m := by obtain ⟨_, _, e, _⟩ := hy1; injection e with _ e _; exact e.symm
      subst ex ey
      have XS := hid hx1
      have YS := hid hy1
      have XF := hid (And.intro hx2 (And.intro hx3 hx4))
      have YF := hid (And.intro hy2 (And.intro hy3 hy4))
      have hxl := hx3.length_le hx2 (n := N) (by rw [hx4]; exact SX.out.2)
      have hyl := hy3.length_le hy2 (n := N) (by rw [hy4]; exact SY.out.2)
      have HXL := hid hxl
      have ll := hy1.len
      have l2 := hx1.len
      clear hx1 hx2 hx3 hx4 hy1 hy2 hy3 hy4 LX LY hxl hyl
      by_cases hy : 0 < ys.length
      · have hp : decide ((0 : Int) < (ys.length : Int)) = true := by rw [decide_eq_true_eq]; omega
        have hYP : 0 < nv ys := YF.out.2.1.pos YF.out.1 hy
        have YP := hid hYP
        clear hYP
        go_wp2_with fail
        refine (divide_any _ _ _ xs ys XS.out YS.out XF.out.1 YF.out.1 XF.out.2.1 YF.out.2.1 YP.out (by have := HXL.out; omega)).mono ?_
        rintro e W2 ⟨⟨q1, r1, qs, rs, rfl, hq1, hq2, hq3, hq4, hr1, hr2, hr3, hr4⟩, hb2⟩
        have HB := hid (bw_step HB.out hb2)
        have R0 := hid (R0.out.below hb2)
        have XS := hid (XS.out.below hb2)
        have YS := hid (YS.out.below hb2)
        clear hb2
        rw [XF.out.2.2, YF.out.2.2] at hr4
        obtain ⟨Ao, co, rfl, hco, _⟩ := id hr1
        have LR := hid (show LimV W2 (.slice Ao rs.length co) (X % Y) from ⟨rs, hr1, hr2, hr3, hr4⟩)
        have LY := hid (show LimV W2 (.slice B ys.length d) Y from ⟨ys, YS.out, YF.out⟩)
        clear hq1 hq2 hq3 hq4 hr1 hr2 hr3 hr4
        have hYne : Y ≠ 0 := by have := YP.out; rw [YF.out.2.2] at this; omega
        have YN := hid hYne
        clear hYne
        go_wp2
        go_roundg (X % Y).toNat
        case measure =>
          have h1 := HG.out
          have h2 := Y0.out
          have h3 := YN.out
          have h4 := Int.emod_nonneg X h3
          have h5 := Int.emod_lt_of_pos X (show 0 < Y by omega)
          omega
        case rel => exact ⟨_, _, _, _, _, _, rfl, rfl, Y, X % Y, LY, LR, hid rfl, hid (by rw [gcd_emod X0.out Y0.out]; exact HGC.out), SY, hid (SY.out.rem YN.out), Y0, hid (Int.emod_nonneg X YN.out), R0.out, HB.out⟩
      · have hp : decide ((0 : Int) < (ys.length : Int)) = false := by rw [decide_eq_false_iff_not]; omega
        have hz : Y = 0 := by rw [← YF.out.2.2, List.eq_nil_of_length_eq_zero (by omega : ys.length = 0)]; rfl
        have hX : ((Int.gcd a b : Nat) : Int) = X := by rw [← HGC.out, hz]; exact gcd_zero' X0.out
        have HX := hid hX
        clear hX hz
        go_wp2_with fail
        refine (signed_any _ _ false xs XS.out XF.out.1).mono ?_
        rintro e W3 ⟨⟨v8, rfl, hv8⟩, hb3⟩
        have HB := hid (bw_step HB.out hb3)
        have R0 := hid (R0.out.below hb3)
        have XS := hid (XS.out.below hb3)
        have YS := hid (YS.out.below hb3)
        clear hb3
        rw [sg_false, XF.out.2.2] at hv8
        obtain ⟨q8, A8, n8, c8, rfl⟩ := hv8.form
        obtain ⟨k4, l4, f4, g4⟩ := id R0.out.bx
        have F := hid (fin_any HB.out (g := w.heap.size + 1 + 1) (by omega) k4 l4 hv8 (.bool q8) (.slice A8 n8 c8))
        clear hv8
        go_wp2
        refine bodyPost_ret (v := .agg #[.bool q8, .slice A8 n8 c8]) (by simp [results, Try.results66, go_sem, k4, l4]) rfl ⟨⟨_, rfl, ?_⟩, F.out.2⟩
        rw [HX.out]; exact F.out.1
end Go.Proofs.Ytijmjkkjopplbaa

