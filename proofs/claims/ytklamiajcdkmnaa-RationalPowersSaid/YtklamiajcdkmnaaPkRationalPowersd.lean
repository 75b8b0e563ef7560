/- A part of the proof of the laws of rationals: RNewR. -/
import Derived.Test.YtklamiajcdkmnaaPae
import Derived.Test.YtklamiajcdkmnaaPam
import Derived.Test.YtklamiajcdkmnaaPbh
import Derived.Test.YtklamiajcdkmnaaPal
import Derived.Test.YtklamiajcdkmnaaPab
import Derived.Test.YtklamiajcdkmnaaPad
import Derived.Test.YtklamiajcdkmnaaPbb
import Derived.Test.YtklamiajcdkmnaaPac
import Derived.Test.YtklamiajcdkmnaaPao
import Derived.Test.YtklamiajcdkmnaaPat
import Derived.Test.YtklamiajcdkmnaaPba
import Derived.Test.YtklamiajcdkmnaaPaa
import Derived.Test.YtklamiajcdkmnaaPai
import Derived.Test.YtklamiajcdkmnaaPkRationalPowersa
import Derived.Test.YtklamiajcdkmnaaPas
import Derived.Test.YtklamiajcdkmnaaPbf
import Derived.Test.YtklamiajcdkmnaaPbe
import Derived.Test.YtklamiajcdkmnaaPbg
import Derived.Test.YtklamiajcdkmnaaPbd
import Derived.Test.YtklamiajcdkmnaaPbj
import Derived.Test.YtklamiajcdkmnaaPau
import Derived.Test.YtklamiajcdkmnaaPbi
import Derived.Test.YtklamiajcdkmnaaPar
import Derived.Test.YtklamiajcdkmnaaPaw
import Derived.Test.YtklamiajcdkmnaaPbk
import Derived.Test.YtklamiajcdkmnaaPap
import Derived.Test.YtklamiajcdkmnaaPav
import Derived.Test.YtklamiajcdkmnaaPan
import Derived.Test.YtklamiajcdkmnaaPbc
import Derived.Test.YtklamiajcdkmnaaPkRationalPowersc
import Derived.Test.YtklamiajcdkmnaaPkRationalPowersb
import Derived.Test.YtklamiajcdkmnaaPak
namespace Go.Proofs.Ytklamiajcdkmnaa
open Go.RowKit
set_option linter.unusedVariables false
set_option maxRecDepth 100000

set_option maxHeartbeats 4000000 in
theorem newR_any0 (w : World) (va vb : Value) (za zb : Int) (n : Nat) (ha : IntA w va za n) (hb : IntA w vb zb n) (hn : n ≤ 300000) (hz : zb = 0) :
    Calls Try.prog 22 #[va, vb] w fun e w' => (∃ u, e = .returned u ∧ PairB w' u (.V 0) (.V 0) false) ∧ Below w.heap.size w w' := by
  have Fa := hid ha
  have Sa := hid ha.sm
  obtain ⟨sa, Aa, na, ca, rfl⟩ := ha.form
  clear ha
  have Fb := hid hb
  have Sb := hid hb.sm
  obtain ⟨sb, Ab, nb, cb, rfl⟩ := hb.form
  clear hb
  have hc : (cm zb 0 == 0) = true := by rw [hz]; rfl
  have HB := hid (Below.refl w.heap.size w)
  obtain ⟨W, hW⟩ : ∃ W, W = (((w.alloc (.cells #[.bool sa, .slice Aa na ca] 24)).alloc (.cells #[.bool sb, .slice Ab nb cb] 24)).alloc (.cells #[.bool false, .slice none 0 0, .bool false, .slice none 0 0] 26)) := ⟨_, rfl⟩
  have hbb : Below w.heap.size w W := by rw [hW]; exact (bw_alloc (bw_alloc (bw_alloc (Below.refl _ _) _) _) _)
  have HB := hid (bw_step HB.out hbb)
  have Fa := hid (Fa.out.below hbb)
  have Fb := hid (Fb.out.below hbb)
  have Pa : Hid (Blk W (w.heap.size) 24 #[.bool sa, .slice Aa na ca]) := by
    rw [hW]
    have := ((Blk.new w 24 #[.bool sa, .slice Aa na ca]).below (bw_alloc (Below.refl _ _) (.cells #[.bool sb, .slice Ab nb cb] 24))).below (bw_alloc (Below.refl _ _) (.cells #[.bool false, .slice none 0 0, .bool false, .slice none 0 0] 26))
    exact hid (by simpa only [World.size_alloc] using this)
  have Pb : Hid (Blk W (w.heap.size + 1) 24 #[.bool sb, .slice Ab nb cb]) := by
    rw [hW]
    have := (Blk.new (w.alloc (.cells #[.bool sa, .slice Aa na ca] 24)) 24 #[.bool sb, .slice Ab nb cb]).below (bw_alloc (Below.refl _ _) (.cells #[.bool false, .slice none 0 0, .bool false, .slice none 0 0] 26))
    exact hid (by simpa only [World.size_alloc] using this)
  have R0 : Hid (Blk W (w.heap.size + 1 + 1) 26 #[.bool false, .slice none 0 0, .bool false, .slice none 0 0]) := by
    rw [hW]
    have := Blk.new ((w.alloc (.cells #[.bool sa, .slice Aa na ca] 24)).alloc (.cells #[.bool sb, .slice Ab nb cb] 24)) 26 #[.bool false, .slice none 0 0, .bool false, .slice none 0 0]
    exact hid (by simpa only [World.size_alloc] using this)
  clear hbb
  obtain ⟨k1, l1, f1, g1⟩ := id Pb.out.bx
  go_enter Try.func22, Try.ntmps22
  go_wp2_with fail
  rw [← hW]
  clear hW
  refine (sign_any _ _ zb n Fb.out).mono ?_
  rintro e W2 ⟨rfl, hb2⟩
  clear k1 l1 f1 g1
  have HB := hid (bw_step HB.out hb2)
  have Fa := hid (Fa.out.below hb2)
  have Fb := hid (Fb.out.below hb2)
  have Pa := hid (Pa.out.below hb2)
  have Pb := hid (Pb.out.below hb2)
  have R0 := hid (R0.out.below hb2)
  clear hb2
  go_wp2_with (with_reducible refine halt_at 9 rfl ?_)
  unfold Halted
  refine wp_list_each (by kernel_rfl) 3 14 rfl rfl (by kernel_rfl)
    [Fact.eq (.agg #[.bool false, .slice none 0 0, .bool false, .slice none 0 0]), Fact.top _, Fact.eq (.bool false)]
    [.val, .fillOld 0, .val]
    (fun w' => IntA w' (.agg #[.bool sa, .slice Aa na ca]) (za) n ∧ IntA w' (.agg #[.bool sb, .slice Ab nb cb]) (zb) n ∧ Blk w' (w.heap.size) 24 #[.bool sa, .slice Aa na ca] ∧ Blk w' (w.heap.size + 1) 24 #[.bool sb, .slice Ab nb cb] ∧ Below w.heap.size w w')
    (fun l b w' => match l with
      | 0 => if b = true then BoxR w' (w.heap.size + 1 + 1) 26 (.V 0) (.V 0) else Blk w' (w.heap.size + 1 + 1) 26 #[.bool false, .slice none 0 0, .bool false, .slice none 0 0]
      | _ => True)
    [1] (fun l => match l with | 0 => w.heap.size + 1 + 1 | _ => 0) (by kernel_rfl)
    ⟨Fa.out, Fb.out, Pa.out, Pb.out, HB.out⟩
    (fun w1 w2 ⟨h0, h1, h2, h3, h4⟩ hb => ⟨h0.below hb, h1.below hb, h2.below hb, h3.below hb, bw_step h4 hb⟩)
    (fun w1 w2 g ⟨h0, h1, h2, h3, h4⟩ hg hn ho => by
      have hg' : W2.heap.size ≤ g ∨ g = w.heap.size + 1 + 1 := by
        rcases hg with h | ⟨l, hl, h⟩
        · exact .inl h
        · rcases l with _ | l
          · exact .inr h
          · exact absurd hl (by simp)
      exact ⟨h0.only hn ho, h1.only hn ho, h2.only ho (by have := Pa.out.lt; have := Pb.out.lt; have := R0.out.lt; omega), h3.only ho (by have := Pa.out.lt; have := Pb.out.lt; have := R0.out.lt; omega), below_only h4 ho (by have := Pa.out.lt; have := Pb.out.lt; have := R0.out.lt; have := HB.out.size; omega)⟩)
    (fun l hl => by
        rcases l with _ | l
        · exact R0.out
        · exact absurd hl (by simp))
    (fun l b w1 w2 hl h hb => by
        rcases l with _ | l
        · (cases b <;> exact h.below hb)
        · exact absurd hl (by simp))
    (fun l b w1 w2 g hl h hg hn ho => by
        rcases l with _ | l
        · (cases b; (exact h.only ho (Ne.symm hg)); (exact h.only (Ne.symm hg) hn ho))
        · exact absurd hl (by simp))
    (fun l hl => by
        rcases l with _ | l
        · exact R0.out.lt
        · exact absurd hl (by simp))
    (fun l k hl hk hne => by rcases l with _ | l <;> rcases k with _ | k <;> simp at hl hk hne)
    ?_ ?_
  · refine ⟨?_, ?_, ?_, trivial⟩ <;> intro L V a1 w1 hf hG hsz hφ hψ hL hdep hcl
    · obtain ⟨Fa_, Fb_, Pa_, Pb_, HB_⟩ := hG
      exact ob_pure (ex_zeroR rfl) rfl
    · obtain ⟨Fa_, Fb_, Pa_, Pb_, HB_⟩ := hG
      have d0 := dep_of hdep 0 (by kernel_rfl)
      have e9 := (new_slot hf 0 9 d0 (by kernel_rfl)).trans (show V 0 = .agg #[.bool false, .slice none 0 0, .bool false, .slice none 0 0] from hφ 0 d0)
      have e4 := old_slot hf 4 (by kernel_rfl)
      have hb0 := hψ 0 (by decide)
      rw [show [1].getD 0 0 = 1 from rfl, hL] at hb0
      exact ob_fillOldR rfl e4 e9 hb0 (Pair.mk (a := .V 0) (b := .V 0) (IntV.zero _) (IntV.zero _)) (fun w2 h => h) rfl
    · obtain ⟨Fa_, Fb_, Pa_, Pb_, HB_⟩ := hG
      exact ob_pure (v := .bool false) (ex_assignV rfl rfl) rfl
  · intro V W3 hG hsz3 hφ hψ hne
    have hlt3 : W2.heap.size ≤ W3.heap.size := hsz3
    obtain ⟨Fa_, Fb_, Pa_, Pb_, HB_⟩ := hG
    have Fa := hid Fa_
    have Fb := hid Fb_
    have Pa := hid Pa_
    have Pb := hid Pb_
    have HB := hid HB_
    have y0 : V 0 = .agg #[.bool false, .slice none 0 0, .bool false, .slice none 0 0] := hφ 0 (by decide)
    have y2 : V 2 = .bool false := hφ 2 (by decide)
    obtain ⟨q3501, A3501, n3501, c3501, q3502, A3502, n3502, c3502, kb350, va350, vb350⟩ := hψ 0 (by decide)
    have R0 := hid kb350
    have R01 : Hid (IntV W3 (.agg #[.bool q3501, .slice A3501 n3501 c3501]) 0) := hid va350
    have R02 : Hid (IntV W3 (.agg #[.bool q3502, .slice A3502 n3502 c3502]) 0) := hid vb350
    clear kb350 va350 vb350
    simp only [puts, Act.put, List.setIfInBounds_toArray, List.set_cons_zero, List.set_cons_succ, y0, y2]
    clear hφ hψ hne y0 y2 Fa_ Fb_ Pa_ Pb_ HB_ hsz3
    have k0 := R0.out.cell 0
    have k1 := R0.out.cell 1
    have k2 := R0.out.cell 2
    have k3 := R0.out.cell 3
    go_wp2
    refine bodyPost_ret (v := .tuple #[.agg #[.bool q3501, .slice A3501 n3501 c3501, .bool q3502, .slice A3502 n3502 c3502], .bool false]) (by simp [results, Try.results22, go_sem, k0, k1, k2, k3]) rfl ⟨⟨_, rfl, _, rfl, ?_⟩, HB.out⟩
    exact Pair.mk (a := .V 0) (b := .V 0) R01.out R02.out
end Go.Proofs.Ytklamiajcdkmnaa

