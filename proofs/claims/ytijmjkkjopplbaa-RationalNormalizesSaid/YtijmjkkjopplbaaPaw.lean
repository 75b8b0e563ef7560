/- A part of the proof of the laws of rationals: RNewR. -/
import Derived.Test.YtijmjkkjopplbaaPae
import Derived.Test.YtijmjkkjopplbaaPam
import Derived.Test.YtijmjkkjopplbaaPal
import Derived.Test.YtijmjkkjopplbaaPab
import Derived.Test.YtijmjkkjopplbaaPad
import Derived.Test.YtijmjkkjopplbaaPac
import Derived.Test.YtijmjkkjopplbaaPao
import Derived.Test.YtijmjkkjopplbaaPat
import Derived.Test.YtijmjkkjopplbaaPaa
import Derived.Test.YtijmjkkjopplbaaPai
import Derived.Test.YtijmjkkjopplbaaPas
import Derived.Test.YtijmjkkjopplbaaPau
import Derived.Test.YtijmjkkjopplbaaPar
import Derived.Test.YtijmjkkjopplbaaPap
import Derived.Test.YtijmjkkjopplbaaPav
import Derived.Test.YtijmjkkjopplbaaPan
import Derived.Test.YtijmjkkjopplbaaPak
namespace Go.Proofs.Ytijmjkkjopplbaa
open Go.RowKit
set_option linter.unusedVariables false
set_option maxRecDepth 100000

set_option maxHeartbeats 4000000 in
theorem newR_any (w : World) (va vb : Value) (za zb : Int) (x : Rat) (n : Nat) (ha : IntA w va za n) (hb : IntA w vb zb n) (h1n : 1 ≤ n) (hn : n ≤ 300000) (hz : zb ≠ 0) (hx : Rat.divInt za zb = x) :
    Calls Try.prog 38 #[va, vb] w fun e w' => (∃ u, e = .returned u ∧ PairB w' u (.V x.num) (.V (x.den : Int)) true) ∧ Below w.heap.size w w' := by
  have Fa := hid ha
  have Sa := hid ha.sm
  obtain ⟨sa, Aa, na, ca, rfl⟩ := ha.form
  clear ha
  have Fb := hid hb
  have Sb := hid hb.sm
  obtain ⟨sb, Ab, nb, cb, rfl⟩ := hb.form
  clear hb
  have hc : (cm zb 0 == 0) = false := by
    rw [beq_eq_false_iff_ne]; rcases cm_form zb 0 with ⟨h, e⟩ | ⟨h, e⟩ | ⟨h, e⟩ <;> omega
  subst hx
  have HZ := hid hz
  clear hz
  have HB := hid (Below.refl w.heap.size w)
  obtain ⟨W, hW⟩ : ∃ W, W = (((w.alloc (.cells #[.bool sa, .slice Aa na ca] 24)).alloc (.cells #[.bool sb, .slice Ab nb cb] 24)).alloc (.cells #[.bool false, .slice none 0 0, .bool false, .slice none 0 0] 26)) := ⟨_, rfl⟩
  have hbb : Below w.heap.size w W := by rw [hW]; exact (bw_alloc (bw_alloc (bw_alloc (Below.refl _ _) _) _) _)
  have HB := hid (bw_step HB.out hbb)
  have Fa := hid (Fa.out.below hbb)
  have Fb := hid (Fb.out.below hbb)
  have Pa : Hid (Blk W (w.heap.size) 24 #[.bool sa, .slice Aa na ca]) := by
    rw [hW]
    have := ((Blk.new w 24 #[.bool sa, .slice Aa na ca]).below (bw_alloc (Below.refl _ _) (.cells #[.bool sb, .slice Ab nb cb] 24))).below (bw_alloc (Below.refl _ _) (.cells #[.bool false, .slice none 0 0, .bool false, .slice none 0 0] 26))
    exact hid (by simpa only [World.size_alloc] using this)
  have Pb : Hid (Blk W (w.heap.size + 1) 24 #[.bool sb, .slice Ab nb cb]) := by
    rw [hW]
    have := (Blk.new (w.alloc (.cells #[.bool sa, .slice Aa na ca] 24)) 24 #[.bool sb, .slice Ab nb cb]).below (bw_alloc (Below.refl _ _) (.cells #[.bool false, .slice none 0 0, .bool false, .slice none 0 0] 26))
    exact hid (by simpa only [World.size_alloc] using this)
  have R0 : Hid (Blk W (w.heap.size + 1 + 1) 26 #[.bool false, .slice none 0 0, .bool false, .slice none 0 0]) := by
    rw [hW]
    have := Blk.new ((w.alloc (.cells #[.bool sa, .slice Aa na ca] 24)).alloc (.cells #[.bool sb, .slice Ab nb cb] 24)) 26 #[.bool false, .slice none 0 0, .bool false, .slice none 0 0]
    exact hid (by simpa only [World.size_alloc] using this)
  clear hbb
  obtain ⟨k1, l1, f1, g1⟩ := id Pb.out.bx
  go_enter Try.func38, Try.ntmps38
  go_wp2_with fail
  rw [← hW]
  clear hW
  refine (sign_any _ _ zb n Fb.out).mono ?_
  rintro e W2 ⟨rfl, hb2⟩
  clear k1 l1 f1 g1
  have HB := hid (bw_step HB.out hb2)
  have Fa := hid (Fa.out.below hb2)
  have Fb := hid (Fb.out.below hb2)
  have Pa := hid (Pa.out.below hb2)
  have Pb := hid (Pb.out.below hb2)
  have R0 := hid (R0.out.below hb2)
  clear hb2
  go_wp2_with (with_reducible refine halt_at 10 rfl ?_)
  have RS3 : Hid (RS n (Rat.divInt za zb)) := hid ((RS.of (Sa.out) (Sb.out) (by omega)))
  unfold Halted
  refine wp_list_each (by kernel_rfl) 6 14 rfl rfl (by kernel_rfl)
    [Fact.eq (.agg #[.bool sa, .slice Aa na ca]), Fact.eq (.agg #[.bool sb, .slice Ab nb cb]), Fact.pair (.A za n) (.A zb n), Fact.pair (.V ((Rat.divInt za zb)).num) (.V (((Rat.divInt za zb)).den : Int)), Fact.top _, Fact.eq (.bool true)]
    [.val, .val, .val, .val, .fillOld 0, .val]
    (fun w' => IntA w' (.agg #[.bool sa, .slice Aa na ca]) (za) n ∧ IntA w' (.agg #[.bool sb, .slice Ab nb cb]) (zb) n ∧ Blk w' (w.heap.size) 24 #[.bool sa, .slice Aa na ca] ∧ Blk w' (w.heap.size + 1) 24 #[.bool sb, .slice Ab nb cb] ∧ Below w.heap.size w w')
    (fun l b w' => match l with
      | 0 => if b = true then BoxR w' (w.heap.size + 1 + 1) 26 (.V ((Rat.divInt za zb)).num) (.V (((Rat.divInt za zb)).den : Int)) else Blk w' (w.heap.size + 1 + 1) 26 #[.bool false, .slice none 0 0, .bool false, .slice none 0 0]
      | _ => True)
    [4] (fun l => match l with | 0 => w.heap.size + 1 + 1 | _ => 0) (by kernel_rfl)
    ⟨Fa.out, Fb.out, Pa.out, Pb.out, HB.out⟩
    (fun w1 w2 ⟨h0, h1, h2, h3, h4⟩ hb => ⟨h0.below hb, h1.below hb, h2.below hb, h3.below hb, bw_step h4 hb⟩)
    (fun w1 w2 g ⟨h0, h1, h2, h3, h4⟩ hg hn ho => by
      have hg' : W2.heap.size ≤ g ∨ g = w.heap.size + 1 + 1 := by
        rcases hg with h | ⟨l, hl, h⟩
        · exact .inl h
        · rcases l with _ | l
          · exact .inr h
          · exact absurd hl (by simp)
      exact ⟨h0.only hn ho, h1.only hn ho, h2.only ho (by have := Pa.out.lt; have := Pb.out.lt; have := R0.out.lt; omega), h3.only ho (by have := Pa.out.lt; have := Pb.out.lt; have := R0.out.lt; omega), below_only h4 ho (by have := Pa.out.lt; have := Pb.out.lt; have := R0.out.lt; have := HB.out.size; omega)⟩)
    (fun l hl => by
        rcases l with _ | l
        · exact R0.out
        · exact absurd hl (by simp))
    (fun l b w1 w2 hl h hb => by
        rcases l with _ | l
        · (cases b <;> exact h.below hb)
        · exact absurd hl (by simp))
    (fun l b w1 w2 g hl h hg hn ho => by
        rcases l with _ | l
        · (cases b; (exact h.only ho (Ne.symm hg)); (exact h.only (Ne.symm hg) hn ho))
        · exact absurd hl (by simp))
    (fun l hl => by
        rcases l with _ | l
        · exact R0.out.lt
        · exact absurd hl (by simp))
    (fun l k hl hk hne => by rcases l with _ | l <;> rcases k with _ | k <;> simp at hl hk hne)
    ?_ ?_
  · refine ⟨?_, ?_, ?_, ?_, ?_, ?_, trivial⟩ <;> intro L V a1 w1 hf hG hsz hφ hψ hL hdep hcl
    · obtain ⟨_, _, Pa_, _⟩ := hG
      have e2 := old_slot hf 2 (by kernel_rfl)
      exact ob_load_int rfl e2 Pa_ rfl
    · obtain ⟨_, _, _, Pb_, _⟩ := hG
      have e3 := old_slot hf 3 (by kernel_rfl)
      exact ob_load_int rfl e3 Pb_ rfl
    · obtain ⟨Fa_, Fb_, _⟩ := hG
      have d0 := dep_of hdep 0 (by kernel_rfl)
      have e10 := (new_slot hf 0 10 d0 (by kernel_rfl)).trans (show V 0 = .agg #[.bool sa, .slice Aa na ca] from hφ 0 d0)
      have d1 := dep_of hdep 1 (by kernel_rfl)
      have e11 := (new_slot hf 1 11 d1 (by kernel_rfl)).trans (show V 1 = .agg #[.bool sb, .slice Ab nb cb] from hφ 1 d1)
      exact ob_buildR (A := .A za n) (B := .A zb n) rfl e10 Fa_ e11 Fb_ rfl
    · have d2 := dep_of hdep 2 (by kernel_rfl)
      have e12 := new_slot hf 2 12 d2 (by kernel_rfl)
      have p12 : Pair w1 (V 2) (.A za n) (.A zb n) := hφ 2 d2
      refine ob_go rfl (vs := #[V 2]) (by simp only [List.map_toArray, List.map_cons, List.map_nil, e12]) (by kernel_rfl) (normalizeR_any _ _ (Rat.divInt za zb) n (RatA.of p12) (by omega) (by omega)) ?_
      rintro e w2 ⟨⟨v, rfl, hv⟩, hb⟩
      exact ⟨v, rfl, hb, hv⟩
    · have d3 := dep_of hdep 3 (by kernel_rfl)
      have e13 := new_slot hf 3 13 d3 (by kernel_rfl)
      have p13 : Pair w1 (V 3) (.V ((Rat.divInt za zb)).num) (.V (((Rat.divInt za zb)).den : Int)) := hφ 3 d3
      have e4 := old_slot hf 4 (by kernel_rfl)
      have hb0 := hψ 0 (by decide)
      rw [show [4].getD 0 0 = 4 from rfl, hL] at hb0
      exact ob_fillOldR rfl e4 e13 hb0 p13 (fun w2 h => h) rfl
    · exact ob_pure (v := .bool true) (ex_assignV rfl rfl) rfl
  · intro V W4 hG hsz4 hφ hψ hne
    have hlt4 : W2.heap.size ≤ W4.heap.size := hsz4
    obtain ⟨Fa_, Fb_, Pa_, Pb_, HB_⟩ := hG
    have Fa := hid Fa_
    have Fb := hid Fb_
    have Pa := hid Pa_
    have Pb := hid Pb_
    have HB := hid HB_
    have y0 : V 0 = .agg #[.bool sa, .slice Aa na ca] := hφ 0 (by decide)
    have y1 : V 1 = .agg #[.bool sb, .slice Ab nb cb] := hφ 1 (by decide)
    have y5 : V 5 = .bool true := hφ 5 (by decide)
    obtain ⟨q4501, A4501, n4501, c4501, q4502, A4502, n4502, c4502, kb450, va450, vb450⟩ := hψ 0 (by decide)
    have R0 := hid kb450
    have R01 : Hid (IntV W4 (.agg #[.bool q4501, .slice A4501 n4501 c4501]) ((Rat.divInt za zb)).num) := hid va450
    have R02 : Hid (IntV W4 (.agg #[.bool q4502, .slice A4502 n4502 c4502]) (((Rat.divInt za zb)).den : Int)) := hid vb450
    clear kb450 va450 vb450
    simp only [puts, Act.put, List.setIfInBounds_toArray, List.set_cons_zero, List.set_cons_succ, y0, y1, y5]
    clear hφ hψ hne y0 y1 y5 Fa_ Fb_ Pa_ Pb_ HB_ hsz4
    have k0 := R0.out.cell 0
    have k1 := R0.out.cell 1
    have k2 := R0.out.cell 2
    have k3 := R0.out.cell 3
    go_wp2
    refine bodyPost_ret (v := .tuple #[.agg #[.bool q4501, .slice A4501 n4501 c4501, .bool q4502, .slice A4502 n4502 c4502], .bool true]) (by simp [results, Try.results38, go_sem, k0, k1, k2, k3]) rfl ⟨⟨_, rfl, _, rfl, ?_⟩, HB.out⟩
    exact Pair.mk (a := .V (Rat.divInt za zb).num) (b := .V ((Rat.divInt za zb).den : Int)) R01.out R02.out
end Go.Proofs.Ytijmjkkjopplbaa

