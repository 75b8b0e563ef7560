/- A part of the proof of the laws of rationals: ParseR. -/
import Derived.Test.YtijmjkkjopplbaaPae
import Derived.Test.YtijmjkkjopplbaaPam
import Derived.Test.YtijmjkkjopplbaaPal
import Derived.Test.YtijmjkkjopplbaaPab
import Derived.Test.YtijmjkkjopplbaaPaf
import Derived.Test.YtijmjkkjopplbaaPad
import Derived.Test.YtijmjkkjopplbaaPac
import Derived.Test.YtijmjkkjopplbaaPao
import Derived.Test.YtijmjkkjopplbaaPat
import Derived.Test.YtijmjkkjopplbaaPaa
import Derived.Test.YtijmjkkjopplbaaPai
import Derived.Test.YtijmjkkjopplbaaPah
import Derived.Test.YtijmjkkjopplbaaPag
import Derived.Test.YtijmjkkjopplbaaPaj
import Derived.Test.YtijmjkkjopplbaaPas
import Derived.Test.YtijmjkkjopplbaaPau
import Derived.Test.YtijmjkkjopplbaaPar
import Derived.Test.YtijmjkkjopplbaaPaw
import Derived.Test.YtijmjkkjopplbaaPap
import Derived.Test.YtijmjkkjopplbaaPav
import Derived.Test.YtijmjkkjopplbaaPan
import Derived.Test.YtijmjkkjopplbaaPak
namespace Go.Proofs.Ytijmjkkjopplbaa
open Go.RowKit
set_option linter.unusedVariables false
set_option maxRecDepth 100000

open Classical in
/-- The error of the text of an integer. -/
noncomputable def pc (s : ByteArray) : Int := if Num s then (if 2000 < (dsB s).size then 7 else 0) else 2
/-- What the text of an integer is read as; 0 if it is none. -/
noncomputable def pz (s : ByteArray) : Int := if pc s = 0 then sg (ngB s) (dv (dsB s) (dsB s).size) else 0
theorem pc_form (s : ByteArray) : (¬ Num s ∧ pc s = 2) ∨ (Num s ∧ 2000 < (dsB s).size ∧ pc s = 7) ∨ (Num s ∧ (dsB s).size ≤ 2000 ∧ pc s = 0) := by
  unfold pc
  by_cases h : Num s
  · rw [if_pos h]
    by_cases h2 : 2000 < (dsB s).size
    · rw [if_pos h2]; exact .inr (.inl ⟨h, h2, rfl⟩)
    · rw [if_neg h2]; exact .inr (.inr ⟨h, by omega, rfl⟩)
  · rw [if_neg h]; exact .inl ⟨h, rfl⟩
theorem parseOk_c {s : ByteArray} {e : Ending} {w' : World} (h : ParseOk s e w') : ∃ v, e = .returned (.tuple #[v, .int .i64 (pc s)]) ∧ IntV w' v (pz s) := by
  unfold pz
  rcases pc_form s with ⟨h1, h2⟩ | ⟨h1, h2, h3⟩ | ⟨h1, h2, h3⟩
  · rw [h2, if_neg (by decide)]
    rcases h with ⟨_, rfl⟩ | ⟨h, _⟩ | ⟨h, _⟩
    · exact ⟨_, rfl, IntV.zero _⟩
    · exact absurd h h1
    · exact absurd h h1
  · rw [h3, if_neg (by decide)]
    rcases h with ⟨h, _⟩ | ⟨_, _, rfl⟩ | ⟨_, h, _⟩
    · exact absurd h1 h
    · exact ⟨_, rfl, IntV.zero _⟩
    · omega
  · rw [h3, if_pos rfl]
    rcases h with ⟨h, _⟩ | ⟨_, h, rfl⟩ | ⟨_, _, v, rfl, hv⟩
    · exact absurd h1 h
    · omega
    · exact ⟨v, rfl, hv⟩
theorem pz_sm (s : ByteArray) : Sm 2000 (pz s) := by
  unfold pz
  rcases pc_form s with ⟨h1, h2⟩ | ⟨h1, h2, h3⟩ | ⟨h1, h2, h3⟩
  · rw [h2, if_neg (by decide)]; exact (Sm.one (n := 0) (by decide) (by decide)).to (by decide)
  · rw [h3, if_neg (by decide)]; exact (Sm.one (n := 0) (by decide) (by decide)).to (by decide)
  · rw [h3, if_pos rfl]
    have hb := dv_bound (dsB s) h1.2.1 _ (Nat.le_refl _)
    refine Sm.to (m := (dsB s).size) ?_ h2
    generalize dv (dsB s) (dsB s).size = x at *
    unfold sg Sm
    split <;> omega
/-- How a text is read by Parse. -/
def PCon (f : FuncId) (s : ByteArray) (c z : Int) : Prop := ∀ w : World, Calls Try.prog f #[.string s] w fun e w' => (∃ v, e = .returned (.tuple #[v, .int .i64 c]) ∧ IntV w' v z) ∧ Below w.heap.size w w'
theorem parse_c (s : ByteArray) (hs : s.size ≤ 9223372036854775807) : PCon 63 s (pc s) (pz s) := fun w => (parse_any w s hs).mono fun e w' ⟨h, hb⟩ => ⟨parseOk_c h, hb⟩
theorem prefix_b (s : ByteArray) (w : World) :
    Calls Try.prog 64 #[.string s, .string ⟨#[45]⟩] w fun e w' => e = .returned (.bool (ngB s)) ∧ Below w.heap.size w w' := by
  refine (prefix_any s ⟨#[45]⟩ w).mono ?_
  rintro e w' ⟨rfl, rfl⟩
  refine ⟨?_, Below.refl _ _⟩
  have h : Lib.hasPrefix s.data.toList [45] = ngB s := by
    unfold ngB bt
    obtain ⟨⟨l⟩⟩ := s
    cases l with
    | nil => rfl
    | cons x l =>
      have h0 : 0 < (ByteArray.mk ⟨x :: l⟩).size := by show 0 < (x :: l).length; simp
      rw [dif_pos h0]
      show Lib.hasPrefix (x :: l) [45] = (x.toNat == 45)
      simp only [Lib.hasPrefix, List.isPrefixOf, Bool.and_true]
      rw [Bool.eq_iff_iff]
      simp only [beq_iff_eq]
      constructor
      · intro h; rw [← h]; rfl
      · intro h; exact (UInt8.toNat_inj.1 h).symm
  rw [← h]
/-- The error of the text of a Rat: the errors and the numbers of its parts. -/
def rcf (eB eA : Int) (F ng : Bool) (zB zA : Int) : Int :=
  if eB = 2 ∨ (F = true ∧ (eA = 2 ∨ ng = true)) then 2 else if eB ≠ 0 ∨ (F = true ∧ eA ≠ 0) then 7 else if F = true ∧ (zA ≤ 1 ∨ 1 < (Int.gcd zB zA : Int)) then 1 else 0
/-- Parse of Rats hands back this error and this pair. -/
def RetPE (w : World) (c p q : Int) (e : Ending) : Prop := ∃ v, e = .returned (.tuple #[v, .int .i64 c]) ∧ Pair w v (.V p) (.V q)
theorem cutB_size (s : ByteArray) (c : UInt8) : (cutB s c).size ≤ s.size := by
  unfold cutB; have := cutI_lt s c
  split
  · simp; omega
  · omega
theorem cutA_size (s : ByteArray) (c : UInt8) : (cutA s c).size ≤ s.size := by
  unfold cutA; have := cutI_lt s c
  split
  · simp
  · simp

set_option maxHeartbeats 8000000 in
theorem pR_syn1 (w : World) (s B A : ByteArray) (eB eA zB zA : Int) (hs : s.size ≤ 9223372036854775807) (hB : Hid (cutB s 47 = B)) (hA : Hid (cutA s 47 = A)) (hF : Hid (cutF s 47 = true)) (PB : Hid (PCon 63 B eB zB)) (PA : Hid (PCon 63 A eA zA)) (SB : Hid (Sm 2000 zB)) (SA : Hid (Sm 2000 zA)) (h2 : (eB == 2) = true) :
    Calls Try.prog 32 #[.string s] w fun e w' => RetPE w' 2 0 0 e ∧ Below w.heap.size w w' := by
  have HB := hid (Below.refl w.heap.size w)
  obtain ⟨W, hW⟩ : ∃ W, W = (w.alloc (.cells #[.bool false, .slice none 0 0, .bool false, .slice none 0 0] 26)) := ⟨_, rfl⟩
  have hbb : Below w.heap.size w W := by rw [hW]; exact (bw_alloc (Below.refl _ _) _)
  have HB := hid (bw_step HB.out hbb)
  have R0 : Hid (Blk W (w.heap.size) 26 #[.bool false, .slice none 0 0, .bool false, .slice none 0 0]) := by
    rw [hW]
    have := Blk.new w 26 #[.bool false, .slice none 0 0, .bool false, .slice none 0 0]
    exact hid (by simpa only [World.size_alloc] using this)
  clear hbb
  go_enter Try.func32, Try.ntmps32
  go_wp2_with fail
  rw [← hW]
  clear hW
  refine (cut_any s 47 _ hs).mono ?_
  rintro e W1 ⟨he, hb1⟩
  unfold CutOk at he
  rw [hB.out, hA.out, hF.out] at he
  subst he
  have HB := hid (bw_step HB.out hb1)
  have R0 := hid (R0.out.below hb1)
  clear hb1
  go_wp2_with fail
  refine (PB.out _).mono ?_
  rintro e W2 ⟨⟨v, rfl, hv⟩, hb2⟩
  have HB := hid (bw_step HB.out hb2)
  have R0 := hid (R0.out.below hb2)
  clear hb2
  have lq2_R0 := R0.out.lt
  have lq2 := HB.out.size
  obtain ⟨q21, A21, n21, c21, rfl⟩ := hv.form
  have N := hid hv
  clear hv
  have hbb := bw_alloc (Below.refl _ W2) (.cells #[.bool q21, .slice A21 n21 c21] 24)
  have XN := Blk.new W2 24 #[.bool q21, .slice A21 n21 c21]
  have HB := hid (bw_step HB.out hbb)
  have R0 := hid (R0.out.below hbb)
  have N := hid (N.out.below hbb)
  have XN := hid XN
  clear hbb
  go_wp2_with fail
  refine (small_any _ 1 (by decide) (by decide)).mono ?_
  rintro e W3 ⟨⟨v, rfl, hv⟩, hb3⟩
  have HB := hid (bw_step HB.out hb3)
  have R0 := hid (R0.out.below hb3)
  have N := hid (N.out.below hb3)
  have XN := hid (XN.out.below hb3)
  clear hb3
  have lq3_R0 := R0.out.lt
  have lq3_XN := XN.out.lt
  have lq3 := HB.out.size
  obtain ⟨q31, A31, n31, c31, rfl⟩ := hv.form
  have D := hid hv
  clear hv
  have hbb := bw_alloc (Below.refl _ W3) (.cells #[.bool q31, .slice A31 n31 c31] 24)
  have XD := Blk.new W3 24 #[.bool q31, .slice A31 n31 c31]
  have HB := hid (bw_step HB.out hbb)
  have R0 := hid (R0.out.below hbb)
  have N := hid (N.out.below hbb)
  have XN := hid (XN.out.below hbb)
  have D := hid (D.out.below hbb)
  have XD := hid XD
  clear hbb
  go_wp2_with fail
  refine (PA.out _).mono ?_
  rintro e W4 ⟨⟨v, rfl, hv⟩, hb4⟩
  have HB := hid (bw_step HB.out hb4)
  have R0 := hid (R0.out.below hb4)
  have N := hid (N.out.below hb4)
  have XN := hid (XN.out.below hb4)
  have D := hid (D.out.below hb4)
  have XD := hid (XD.out.below hb4)
  clear hb4
  obtain ⟨q41, A41, n41, c41, rfl⟩ := hv.form
  have E := hid hv
  clear hv
  have kk0 := XD.out.cell 0
  have kk1 := XD.out.cell 1
  have ff0 := XD.out.free 0
  have ff1 := XD.out.free 1
  have hnf := XD.out.numFree (noNum_int _ _ _ _)
  have hon := only_two W4 (W3.heap.size) (.bool q41) (.slice A41 n41 c41)
  have R0 := hid (R0.out.only hon (by have := R0.out.lt; have := XN.out.lt; have := XD.out.lt; omega))
  have N := hid (N.out.only hnf hon)
  have XN := hid (XN.out.only hon (by have := R0.out.lt; have := XN.out.lt; have := XD.out.lt; omega))
  have D := hid (D.out.only hnf hon)
  have XD := hid (blk_fill (q := q41) (A := A41) (n := n41) (c := c41) XD.out)
  have E := hid (E.out.only hnf hon)
  have HB := hid (below_only HB.out hon (by have := R0.out.lt; have := XN.out.lt; have := XD.out.lt; have := HB.out.size; omega))
  clear hnf hon
  go_wp2_with (with_reducible refine halt_at 41 rfl ?_)
  unfold Halted
  refine wp_list_each (by kernel_rfl) 3 70 rfl rfl (by kernel_rfl)
    [Fact.eq (.agg #[.bool false, .slice none 0 0, .bool false, .slice none 0 0]), Fact.top _, Fact.eq (.int .i64 2)]
    [.val, .fillOld 0, .val]
    (fun w' => IntV w' (.agg #[.bool q21, .slice A21 n21 c21]) (zB) ∧ Blk w' (W2.heap.size) 24 #[.bool q21, .slice A21 n21 c21] ∧ IntV w' (.agg #[.bool q31, .slice A31 n31 c31]) (1) ∧ Blk w' (W3.heap.size) 24 #[.bool q41, .slice A41 n41 c41] ∧ IntV w' (.agg #[.bool q41, .slice A41 n41 c41]) (zA) ∧ Below w.heap.size w w')
    (fun l b w' => match l with
      | 0 => if b = true then BoxR w' (w.heap.size) 26 (.V 0) (.V 0) else Blk w' (w.heap.size) 26 #[.bool false, .slice none 0 0, .bool false, .slice none 0 0]
      | _ => True)
    [1] (fun l => match l with | 0 => w.heap.size | _ => 0) (by kernel_rfl)
    ⟨N.out, XN.out, D.out, XD.out, E.out, HB.out⟩
    (fun w1 w2 ⟨h0, h1, h2, h3, h4, h5⟩ hb => ⟨h0.below hb, h1.below hb, h2.below hb, h3.below hb, h4.below hb, bw_step h5 hb⟩)
    (fun w1 w2 g ⟨h0, h1, h2, h3, h4, h5⟩ hg hn ho => by
      have hg' : ((W4.setCell ⟨W3.heap.size, 0, none⟩ (.bool q41)).setCell ⟨W3.heap.size, 1, none⟩ (.slice A41 n41 c41)).heap.size ≤ g ∨ g = w.heap.size := by
        rcases hg with h | ⟨l, hl, h⟩
        · exact .inl h
        · rcases l with _ | l
          · exact .inr h
          · exact absurd hl (by simp)
      exact ⟨h0.only hn ho, h1.only ho (by have := R0.out.lt; have := XN.out.lt; have := XD.out.lt; omega), h2.only hn ho, h3.only ho (by have := R0.out.lt; have := XN.out.lt; have := XD.out.lt; omega), h4.only hn ho, below_only h5 ho (by have := R0.out.lt; have := XN.out.lt; have := XD.out.lt; have := HB.out.size; omega)⟩)
    (fun l hl => by
        rcases l with _ | l
        · exact R0.out
        · exact absurd hl (by simp))
    (fun l b w1 w2 hl h hb => by
        rcases l with _ | l
        · (cases b <;> exact h.below hb)
        · exact absurd hl (by simp))
    (fun l b w1 w2 g hl h hg hn ho => by
        rcases l with _ | l
        · (cases b; (exact h.only ho (Ne.symm hg)); (exact h.only (Ne.symm hg) hn ho))
        · exact absurd hl (by simp))
    (fun l hl => by
        rcases l with _ | l
        · exact R0.out.lt
        · exact absurd hl (by simp))
    (fun l k hl hk hne => by rcases l with _ | l <;> rcases k with _ | k <;> simp at hl hk hne)
    ?_ ?_
  · refine ⟨?_, ?_, ?_, trivial⟩ <;> intro L V a1 w1 hf hG hsz hφ hψ hL hdep hcl
    · exact ob_pure (ex_zeroR rfl) rfl
    · have d0 := dep_of hdep 0 (by kernel_rfl)
      have e41 := (new_slot hf 0 41 d0 (by kernel_rfl)).trans (show V 0 = .agg #[.bool false, .slice none 0 0, .bool false, .slice none 0 0] from hφ 0 d0)
      have e2 := old_slot hf 2 (by kernel_rfl)
      have hb0 := hψ 0 (by decide)
      rw [show [1].getD 0 0 = 1 from rfl, hL] at hb0
      exact ob_fillOldR rfl e2 e41 hb0 (Pair.mk (a := .V 0) (b := .V 0) (IntV.zero _) (IntV.zero _)) (fun w2 h => h) rfl
    · exact ob_pure (v := .int .i64 2) (ex_assignV rfl rfl) rfl
  · intro V W5 hG hsz5 hφ hψ hne
    have hlt5 : ((W4.setCell ⟨W3.heap.size, 0, none⟩ (.bool q41)).setCell ⟨W3.heap.size, 1, none⟩ (.slice A41 n41 c41)).heap.size ≤ W5.heap.size := hsz5
    obtain ⟨N_, XN_, D_, XD_, E_, HB_⟩ := hG
    have N := hid N_
    have XN := hid XN_
    have D := hid D_
    have XD := hid XD_
    have E := hid E_
    have HB := hid HB_
    have y0 : V 0 = .agg #[.bool false, .slice none 0 0, .bool false, .slice none 0 0] := hφ 0 (by decide)
    have y2 : V 2 = .int .i64 2 := hφ 2 (by decide)
    obtain ⟨q5501, A5501, n5501, c5501, q5502, A5502, n5502, c5502, kb550, va550, vb550⟩ := hψ 0 (by decide)
    have R0 := hid kb550
    have R01 : Hid (IntV W5 (.agg #[.bool q5501, .slice A5501 n5501 c5501]) 0) := hid va550
    have R02 : Hid (IntV W5 (.agg #[.bool q5502, .slice A5502 n5502 c5502]) 0) := hid vb550
    clear kb550 va550 vb550
    simp only [puts, Act.put, List.setIfInBounds_toArray, List.set_cons_zero, List.set_cons_succ, y0, y2]
    clear hφ hψ hne y0 y2 N_ XN_ D_ XD_ E_ HB_ hsz5
    have k0 := R0.out.cell 0
    have k1 := R0.out.cell 1
    have k2 := R0.out.cell 2
    have k3 := R0.out.cell 3
    go_wp2
    refine bodyPost_ret (v := .tuple #[.agg #[.bool q5501, .slice A5501 n5501 c5501, .bool q5502, .slice A5502 n5502 c5502], .int .i64 2]) (by simp [results, Try.results32, go_sem, k0, k1, k2, k3]) rfl ⟨⟨_, rfl, ?_⟩, HB.out⟩
    exact Pair.mk (a := .V 0) (b := .V 0) R01.out R02.out
set_option maxHeartbeats 8000000 in
theorem pR_syn2 (w : World) (s B A : ByteArray) (eB eA zB zA : Int) (hs : s.size ≤ 9223372036854775807) (hB : Hid (cutB s 47 = B)) (hA : Hid (cutA s 47 = A)) (hF : Hid (cutF s 47 = true)) (PB : Hid (PCon 63 B eB zB)) (PA : Hid (PCon 63 A eA zA)) (SB : Hid (Sm 2000 zB)) (SA : Hid (Sm 2000 zA)) (h2 : (eB == 2) = false) (h3 : (eA == 2) = true) :
    Calls Try.prog 32 #[.string s] w fun e w' => RetPE w' 2 0 0 e ∧ Below w.heap.size w w' := by
  have HB := hid (Below.refl w.heap.size w)
  obtain ⟨W, hW⟩ : ∃ W, W = (w.alloc (.cells #[.bool false, .slice none 0 0, .bool false, .slice none 0 0] 26)) := ⟨_, rfl⟩
  have hbb : Below w.heap.size w W := by rw [hW]; exact (bw_alloc (Below.refl _ _) _)
  have HB := hid (bw_step HB.out hbb)
  have R0 : Hid (Blk W (w.heap.size) 26 #[.bool false, .slice none 0 0, .bool false, .slice none 0 0]) := by
    rw [hW]
    have := Blk.new w 26 #[.bool false, .slice none 0 0, .bool false, .slice none 0 0]
    exact hid (by simpa only [World.size_alloc] using this)
  clear hbb
  go_enter Try.func32, Try.ntmps32
  go_wp2_with fail
  rw [← hW]
  clear hW
  refine (cut_any s 47 _ hs).mono ?_
  rintro e W1 ⟨he, hb1⟩
  unfold CutOk at he
  rw [hB.out, hA.out, hF.out] at he
  subst he
  have HB := hid (bw_step HB.out hb1)
  have R0 := hid (R0.out.below hb1)
  clear hb1
  go_wp2_with fail
  refine (PB.out _).mono ?_
  rintro e W2 ⟨⟨v, rfl, hv⟩, hb2⟩
  have HB := hid (bw_step HB.out hb2)
  have R0 := hid (R0.out.below hb2)
  clear hb2
  have lq2_R0 := R0.out.lt
  have lq2 := HB.out.size
  obtain ⟨q21, A21, n21, c21, rfl⟩ := hv.form
  have N := hid hv
  clear hv
  have hbb := bw_alloc (Below.refl _ W2) (.cells #[.bool q21, .slice A21 n21 c21] 24)
  have XN := Blk.new W2 24 #[.bool q21, .slice A21 n21 c21]
  have HB := hid (bw_step HB.out hbb)
  have R0 := hid (R0.out.below hbb)
  have N := hid (N.out.below hbb)
  have XN := hid XN
  clear hbb
  go_wp2_with fail
  refine (small_any _ 1 (by decide) (by decide)).mono ?_
  rintro e W3 ⟨⟨v, rfl, hv⟩, hb3⟩
  have HB := hid (bw_step HB.out hb3)
  have R0 := hid (R0.out.below hb3)
  have N := hid (N.out.below hb3)
  have XN := hid (XN.out.below hb3)
  clear hb3
  have lq3_R0 := R0.out.lt
  have lq3_XN := XN.out.lt
  have lq3 := HB.out.size
  obtain ⟨q31, A31, n31, c31, rfl⟩ := hv.form
  have D := hid hv
  clear hv
  have hbb := bw_alloc (Below.refl _ W3) (.cells #[.bool q31, .slice A31 n31 c31] 24)
  have XD := Blk.new W3 24 #[.bool q31, .slice A31 n31 c31]
  have HB := hid (bw_step HB.out hbb)
  have R0 := hid (R0.out.below hbb)
  have N := hid (N.out.below hbb)
  have XN := hid (XN.out.below hbb)
  have D := hid (D.out.below hbb)
  have XD := hid XD
  clear hbb
  go_wp2_with fail
  refine (PA.out _).mono ?_
  rintro e W4 ⟨⟨v, rfl, hv⟩, hb4⟩
  have HB := hid (bw_step HB.out hb4)
  have R0 := hid (R0.out.below hb4)
  have N := hid (N.out.below hb4)
  have XN := hid (XN.out.below hb4)
  have D := hid (D.out.below hb4)
  have XD := hid (XD.out.below hb4)
  clear hb4
  obtain ⟨q41, A41, n41, c41, rfl⟩ := hv.form
  have E := hid hv
  clear hv
  have kk0 := XD.out.cell 0
  have kk1 := XD.out.cell 1
  have ff0 := XD.out.free 0
  have ff1 := XD.out.free 1
  have hnf := XD.out.numFree (noNum_int _ _ _ _)
  have hon := only_two W4 (W3.heap.size) (.bool q41) (.slice A41 n41 c41)
  have R0 := hid (R0.out.only hon (by have := R0.out.lt; have := XN.out.lt; have := XD.out.lt; omega))
  have N := hid (N.out.only hnf hon)
  have XN := hid (XN.out.only hon (by have := R0.out.lt; have := XN.out.lt; have := XD.out.lt; omega))
  have D := hid (D.out.only hnf hon)
  have XD := hid (blk_fill (q := q41) (A := A41) (n := n41) (c := c41) XD.out)
  have E := hid (E.out.only hnf hon)
  have HB := hid (below_only HB.out hon (by have := R0.out.lt; have := XN.out.lt; have := XD.out.lt; have := HB.out.size; omega))
  clear hnf hon
  go_wp2_with (with_reducible refine halt_at 41 rfl ?_)
  unfold Halted
  refine wp_list_each (by kernel_rfl) 3 70 rfl rfl (by kernel_rfl)
    [Fact.eq (.agg #[.bool false, .slice none 0 0, .bool false, .slice none 0 0]), Fact.top _, Fact.eq (.int .i64 2)]
    [.val, .fillOld 0, .val]
    (fun w' => IntV w' (.agg #[.bool q21, .slice A21 n21 c21]) (zB) ∧ Blk w' (W2.heap.size) 24 #[.bool q21, .slice A21 n21 c21] ∧ IntV w' (.agg #[.bool q31, .slice A31 n31 c31]) (1) ∧ Blk w' (W3.heap.size) 24 #[.bool q41, .slice A41 n41 c41] ∧ IntV w' (.agg #[.bool q41, .slice A41 n41 c41]) (zA) ∧ Below w.heap.size w w')
    (fun l b w' => match l with
      | 0 => if b = true then BoxR w' (w.heap.size) 26 (.V 0) (.V 0) else Blk w' (w.heap.size) 26 #[.bool false, .slice none 0 0, .bool false, .slice none 0 0]
      | _ => True)
    [1] (fun l => match l with | 0 => w.heap.size | _ => 0) (by kernel_rfl)
    ⟨N.out, XN.out, D.out, XD.out, E.out, HB.out⟩
    (fun w1 w2 ⟨h0, h1, h2, h3, h4, h5⟩ hb => ⟨h0.below hb, h1.below hb, h2.below hb, h3.below hb, h4.below hb, bw_step h5 hb⟩)
    (fun w1 w2 g ⟨h0, h1, h2, h3, h4, h5⟩ hg hn ho => by
      have hg' : ((W4.setCell ⟨W3.heap.size, 0, none⟩ (.bool q41)).setCell ⟨W3.heap.size, 1, none⟩ (.slice A41 n41 c41)).heap.size ≤ g ∨ g = w.heap.size := by
        rcases hg with h | ⟨l, hl, h⟩
        · exact .inl h
        · rcases l with _ | l
          · exact .inr h
          · exact absurd hl (by simp)
      exact ⟨h0.only hn ho, h1.only ho (by have := R0.out.lt; have := XN.out.lt; have := XD.out.lt; omega), h2.only hn ho, h3.only ho (by have := R0.out.lt; have := XN.out.lt; have := XD.out.lt; omega), h4.only hn ho, below_only h5 ho (by have := R0.out.lt; have := XN.out.lt; have := XD.out.lt; have := HB.out.size; omega)⟩)
    (fun l hl => by
        rcases l with _ | l
        · exact R0.out
        · exact absurd hl (by simp))
    (fun l b w1 w2 hl h hb => by
        rcases l with _ | l
        · (cases b <;> exact h.below hb)
        · exact absurd hl (by simp))
    (fun l b w1 w2 g hl h hg hn ho => by
        rcases l with _ | l
        · (cases b; (exact h.only ho (Ne.symm hg)); (exact h.only (Ne.symm hg) hn ho))
        · exact absurd hl (by simp))
    (fun l hl => by
        rcases l with _ | l
        · exact R0.out.lt
        · exact absurd hl (by simp))
    (fun l k hl hk hne => by rcases l with _ | l <;> rcases k with _ | k <;> simp at hl hk hne)
    ?_ ?_
  · refine ⟨?_, ?_, ?_, trivial⟩ <;> intro L V a1 w1 hf hG hsz hφ hψ hL hdep hcl
    · exact ob_pure (ex_zeroR rfl) rfl
    · have d0 := dep_of hdep 0 (by kernel_rfl)
      have e41 := (new_slot hf 0 41 d0 (by kernel_rfl)).trans (show V 0 = .agg #[.bool false, .slice none 0 0, .bool false, .slice none 0 0] from hφ 0 d0)
      have e2 := old_slot hf 2 (by kernel_rfl)
      have hb0 := hψ 0 (by decide)
      rw [show [1].getD 0 0 = 1 from rfl, hL] at hb0
      exact ob_fillOldR rfl e2 e41 hb0 (Pair.mk (a := .V 0) (b := .V 0) (IntV.zero _) (IntV.zero _)) (fun w2 h => h) rfl
    · exact ob_pure (v := .int .i64 2) (ex_assignV rfl rfl) rfl
  · intro V W5 hG hsz5 hφ hψ hne
    have hlt5 : ((W4.setCell ⟨W3.heap.size, 0, none⟩ (.bool q41)).setCell ⟨W3.heap.size, 1, none⟩ (.slice A41 n41 c41)).heap.size ≤ W5.heap.size := hsz5
    obtain ⟨N_, XN_, D_, XD_, E_, HB_⟩ := hG
    have N := hid N_
    have XN := hid XN_
    have D := hid D_
    have XD := hid XD_
    have E := hid E_
    have HB := hid HB_
    have y0 : V 0 = .agg #[.bool false, .slice none 0 0, .bool false, .slice none 0 0] := hφ 0 (by decide)
    have y2 : V 2 = .int .i64 2 := hφ 2 (by decide)
    obtain ⟨q5501, A5501, n5501, c5501, q5502, A5502, n5502, c5502, kb550, va550, vb550⟩ := hψ 0 (by decide)
    have R0 := hid kb550
    have R01 : Hid (IntV W5 (.agg #[.bool q5501, .slice A5501 n5501 c5501]) 0) := hid va550
    have R02 : Hid (IntV W5 (.agg #[.bool q5502, .slice A5502 n5502 c5502]) 0) := hid vb550
    clear kb550 va550 vb550
    simp only [puts, Act.put, List.setIfInBounds_toArray, List.set_cons_zero, List.set_cons_succ, y0, y2]
    clear hφ hψ hne y0 y2 N_ XN_ D_ XD_ E_ HB_ hsz5
    have k0 := R0.out.cell 0
    have k1 := R0.out.cell 1
    have k2 := R0.out.cell 2
    have k3 := R0.out.cell 3
    go_wp2
    refine bodyPost_ret (v := .tuple #[.agg #[.bool q5501, .slice A5501 n5501 c5501, .bool q5502, .slice A5502 n5502 c5502], .int .i64 2]) (by simp [results, Try.results32, go_sem, k0, k1, k2, k3]) rfl ⟨⟨_, rfl, ?_⟩, HB.out⟩
    exact Pair.mk (a := .V 0) (b := .V 0) R01.out R02.out
set_option maxHeartbeats 8000000 in
theorem pR_syn3 (w : World) (s B A : ByteArray) (eB eA zB zA : Int) (hs : s.size ≤ 9223372036854775807) (hB : Hid (cutB s 47 = B)) (hA : Hid (cutA s 47 = A)) (hF : Hid (cutF s 47 = true)) (PB : Hid (PCon 63 B eB zB)) (PA : Hid (PCon 63 A eA zA)) (SB : Hid (Sm 2000 zB)) (SA : Hid (Sm 2000 zA)) (h2 : (eB == 2) = false) (h3 : (eA == 2) = false) (hng : Hid (ngB A = true)) :
    Calls Try.prog 32 #[.string s] w fun e w' => RetPE w' 2 0 0 e ∧ Below w.heap.size w w' := by
  have HB := hid (Below.refl w.heap.size w)
  obtain ⟨W, hW⟩ : ∃ W, W = (w.alloc (.cells #[.bool false, .slice none 0 0, .bool false, .slice none 0 0] 26)) := ⟨_, rfl⟩
  have hbb : Below w.heap.size w W := by rw [hW]; exact (bw_alloc (Below.refl _ _) _)
  have HB := hid (bw_step HB.out hbb)
  have R0 : Hid (Blk W (w.heap.size) 26 #[.bool false, .slice none 0 0, .bool false, .slice none 0 0]) := by
    rw [hW]
    have := Blk.new w 26 #[.bool false, .slice none 0 0, .bool false, .slice none 0 0]
    exact hid (by simpa only [World.size_alloc] using this)
  clear hbb
  go_enter Try.func32, Try.ntmps32
  go_wp2_with fail
  rw [← hW]
  clear hW
  refine (cut_any s 47 _ hs).mono ?_
  rintro e W1 ⟨he, hb1⟩
  unfold CutOk at he
  rw [hB.out, hA.out, hF.out] at he
  subst he
  have HB := hid (bw_step HB.out hb1)
  have R0 := hid (R0.out.below hb1)
  clear hb1
  go_wp2_with fail
  refine (PB.out _).mono ?_
  rintro e W2 ⟨⟨v, rfl, hv⟩, hb2⟩
  have HB := hid (bw_step HB.out hb2)
  have R0 := hid (R0.out.below hb2)
  clear hb2
  have lq2_R0 := R0.out.lt
  have lq2 := HB.out.size
  obtain ⟨q21, A21, n21, c21, rfl⟩ := hv.form
  have N := hid hv
  clear hv
  have hbb := bw_alloc (Below.refl _ W2) (.cells #[.bool q21, .slice A21 n21 c21] 24)
  have XN := Blk.new W2 24 #[.bool q21, .slice A21 n21 c21]
  have HB := hid (bw_step HB.out hbb)
  have R0 := hid (R0.out.below hbb)
  have N := hid (N.out.below hbb)
  have XN := hid XN
  clear hbb
  go_wp2_with fail
  refine (small_any _ 1 (by decide) (by decide)).mono ?_
  rintro e W3 ⟨⟨v, rfl, hv⟩, hb3⟩
  have HB := hid (bw_step HB.out hb3)
  have R0 := hid (R0.out.below hb3)
  have N := hid (N.out.below hb3)
  have XN := hid (XN.out.below hb3)
  clear hb3
  have lq3_R0 := R0.out.lt
  have lq3_XN := XN.out.lt
  have lq3 := HB.out.size
  obtain ⟨q31, A31, n31, c31, rfl⟩ := hv.form
  have D := hid hv
  clear hv
  have hbb := bw_alloc (Below.refl _ W3) (.cells #[.bool q31, .slice A31 n31 c31] 24)
  have XD := Blk.new W3 24 #[.bool q31, .slice A31 n31 c31]
  have HB := hid (bw_step HB.out hbb)
  have R0 := hid (R0.out.below hbb)
  have N := hid (N.out.below hbb)
  have XN := hid (XN.out.below hbb)
  have D := hid (D.out.below hbb)
  have XD := hid XD
  clear hbb
  go_wp2_with fail
  refine (PA.out _).mono ?_
  rintro e W4 ⟨⟨v, rfl, hv⟩, hb4⟩
  have HB := hid (bw_step HB.out hb4)
  have R0 := hid (R0.out.below hb4)
  have N := hid (N.out.below hb4)
  have XN := hid (XN.out.below hb4)
  have D := hid (D.out.below hb4)
  have XD := hid (XD.out.below hb4)
  clear hb4
  obtain ⟨q41, A41, n41, c41, rfl⟩ := hv.form
  have E := hid hv
  clear hv
  have kk0 := XD.out.cell 0
  have kk1 := XD.out.cell 1
  have ff0 := XD.out.free 0
  have ff1 := XD.out.free 1
  have hnf := XD.out.numFree (noNum_int _ _ _ _)
  have hon := only_two W4 (W3.heap.size) (.bool q41) (.slice A41 n41 c41)
  have R0 := hid (R0.out.only hon (by have := R0.out.lt; have := XN.out.lt; have := XD.out.lt; omega))
  have N := hid (N.out.only hnf hon)
  have XN := hid (XN.out.only hon (by have := R0.out.lt; have := XN.out.lt; have := XD.out.lt; omega))
  have D := hid (D.out.only hnf hon)
  have XD := hid (blk_fill (q := q41) (A := A41) (n := n41) (c := c41) XD.out)
  have E := hid (E.out.only hnf hon)
  have HB := hid (below_only HB.out hon (by have := R0.out.lt; have := XN.out.lt; have := XD.out.lt; have := HB.out.size; omega))
  clear hnf hon
  go_wp2_with fail
  refine (prefix_b _ _).mono ?_
  rintro e W5 ⟨he, hb5⟩
  rw [hng.out] at he
  subst he
  have HB := hid (bw_step HB.out hb5)
  have R0 := hid (R0.out.below hb5)
  have N := hid (N.out.below hb5)
  have XN := hid (XN.out.below hb5)
  have D := hid (D.out.below hb5)
  have XD := hid (XD.out.below hb5)
  have E := hid (E.out.below hb5)
  clear hb5
  go_wp2_with (with_reducible refine halt_at 41 rfl ?_)
  unfold Halted
  refine wp_list_each (by kernel_rfl) 3 70 rfl rfl (by kernel_rfl)
    [Fact.eq (.agg #[.bool false, .slice none 0 0, .bool false, .slice none 0 0]), Fact.top _, Fact.eq (.int .i64 2)]
    [.val, .fillOld 0, .val]
    (fun w' => IntV w' (.agg #[.bool q21, .slice A21 n21 c21]) (zB) ∧ Blk w' (W2.heap.size) 24 #[.bool q21, .slice A21 n21 c21] ∧ IntV w' (.agg #[.bool q31, .slice A31 n31 c31]) (1) ∧ Blk w' (W3.heap.size) 24 #[.bool q41, .slice A41 n41 c41] ∧ IntV w' (.agg #[.bool q41, .slice A41 n41 c41]) (zA) ∧ Below w.heap.size w w')
    (fun l b w' => match l with
      | 0 => if b = true then BoxR w' (w.heap.size) 26 (.V 0) (.V 0) else Blk w' (w.heap.size) 26 #[.bool false, .slice none 0 0, .bool false, .slice none 0 0]
      | _ => True)
    [1] (fun l => match l with | 0 => w.heap.size | _ => 0) (by kernel_rfl)
    ⟨N.out, XN.out, D.out, XD.out, E.out, HB.out⟩
    (fun w1 w2 ⟨h0, h1, h2, h3, h4, h5⟩ hb => ⟨h0.below hb, h1.below hb, h2.below hb, h3.below hb, h4.below hb, bw_step h5 hb⟩)
    (fun w1 w2 g ⟨h0, h1, h2, h3, h4, h5⟩ hg hn ho => by
      have hg' : W5.heap.size ≤ g ∨ g = w.heap.size := by
        rcases hg with h | ⟨l, hl, h⟩
        · exact .inl h
        · rcases l with _ | l
          · exact .inr h
          · exact absurd hl (by simp)
      exact ⟨h0.only hn ho, h1.only ho (by have := R0.out.lt; have := XN.out.lt; have := XD.out.lt; omega), h2.only hn ho, h3.only ho (by have := R0.out.lt; have := XN.out.lt; have := XD.out.lt; omega), h4.only hn ho, below_only h5 ho (by have := R0.out.lt; have := XN.out.lt; have := XD.out.lt; have := HB.out.size; omega)⟩)
    (fun l hl => by
        rcases l with _ | l
        · exact R0.out
        · exact absurd hl (by simp))
    (fun l b w1 w2 hl h hb => by
        rcases l with _ | l
        · (cases b <;> exact h.below hb)
        · exact absurd hl (by simp))
    (fun l b w1 w2 g hl h hg hn ho => by
        rcases l with _ | l
        · (cases b; (exact h.only ho (Ne.symm hg)); (exact h.only (Ne.symm hg) hn ho))
        · exact absurd hl (by simp))
    (fun l hl => by
        rcases l with _ | l
        · exact R0.out.lt
        · exact absurd hl (by simp))
    (fun l k hl hk hne => by rcases l with _ | l <;> rcases k with _ | k <;> simp at hl hk hne)
    ?_ ?_
  · refine ⟨?_, ?_, ?_, trivial⟩ <;> intro L V a1 w1 hf hG hsz hφ hψ hL hdep hcl
    · exact ob_pure (ex_zeroR rfl) rfl
    · have d0 := dep_of hdep 0 (by kernel_rfl)
      have e41 := (new_slot hf 0 41 d0 (by kernel_rfl)).trans (show V 0 = .agg #[.bool false, .slice none 0 0, .bool false, .slice none 0 0] from hφ 0 d0)
      have e2 := old_slot hf 2 (by kernel_rfl)
      have hb0 := hψ 0 (by decide)
      rw [show [1].getD 0 0 = 1 from rfl, hL] at hb0
      exact ob_fillOldR rfl e2 e41 hb0 (Pair.mk (a := .V 0) (b := .V 0) (IntV.zero _) (IntV.zero _)) (fun w2 h => h) rfl
    · exact ob_pure (v := .int .i64 2) (ex_assignV rfl rfl) rfl
  · intro V W6 hG hsz6 hφ hψ hne
    have hlt6 : W5.heap.size ≤ W6.heap.size := hsz6
    obtain ⟨N_, XN_, D_, XD_, E_, HB_⟩ := hG
    have N := hid N_
    have XN := hid XN_
    have D := hid D_
    have XD := hid XD_
    have E := hid E_
    have HB := hid HB_
    have y0 : V 0 = .agg #[.bool false, .slice none 0 0, .bool false, .slice none 0 0] := hφ 0 (by decide)
    have y2 : V 2 = .int .i64 2 := hφ 2 (by decide)
    obtain ⟨q6501, A6501, n6501, c6501, q6502, A6502, n6502, c6502, kb650, va650, vb650⟩ := hψ 0 (by decide)
    have R0 := hid kb650
    have R01 : Hid (IntV W6 (.agg #[.bool q6501, .slice A6501 n6501 c6501]) 0) := hid va650
    have R02 : Hid (IntV W6 (.agg #[.bool q6502, .slice A6502 n6502 c6502]) 0) := hid vb650
    clear kb650 va650 vb650
    simp only [puts, Act.put, List.setIfInBounds_toArray, List.set_cons_zero, List.set_cons_succ, y0, y2]
    clear hφ hψ hne y0 y2 N_ XN_ D_ XD_ E_ HB_ hsz6
    have k0 := R0.out.cell 0
    have k1 := R0.out.cell 1
    have k2 := R0.out.cell 2
    have k3 := R0.out.cell 3
    go_wp2
    refine bodyPost_ret (v := .tuple #[.agg #[.bool q6501, .slice A6501 n6501 c6501, .bool q6502, .slice A6502 n6502 c6502], .int .i64 2]) (by simp [results, Try.results32, go_sem, k0, k1, k2, k3]) rfl ⟨⟨_, rfl, ?_⟩, HB.out⟩
    exact Pair.mk (a := .V 0) (b := .V 0) R01.out R02.out
set_option maxHeartbeats 8000000 in
theorem pR_lar1 (w : World) (s B A : ByteArray) (eB eA zB zA : Int) (hs : s.size ≤ 9223372036854775807) (hB : Hid (cutB s 47 = B)) (hA : Hid (cutA s 47 = A)) (hF : Hid (cutF s 47 = true)) (PB : Hid (PCon 63 B eB zB)) (PA : Hid (PCon 63 A eA zA)) (SB : Hid (Sm 2000 zB)) (SA : Hid (Sm 2000 zA)) (h2 : (eB == 2) = false) (h3 : (eA == 2) = false) (hng : Hid (ngB A = false)) (h4 : (eB != 0) = true) :
    Calls Try.prog 32 #[.string s] w fun e w' => RetPE w' 7 0 0 e ∧ Below w.heap.size w w' := by
  have HB := hid (Below.refl w.heap.size w)
  obtain ⟨W, hW⟩ : ∃ W, W = (w.alloc (.cells #[.bool false, .slice none 0 0, .bool false, .slice none 0 0] 26)) := ⟨_, rfl⟩
  have hbb : Below w.heap.size w W := by rw [hW]; exact (bw_alloc (Below.refl _ _) _)
  have HB := hid (bw_step HB.out hbb)
  have R0 : Hid (Blk W (w.heap.size) 26 #[.bool false, .slice none 0 0, .bool false, .slice none 0 0]) := by
    rw [hW]
    have := Blk.new w 26 #[.bool false, .slice none 0 0, .bool false, .slice none 0 0]
    exact hid (by simpa only [World.size_alloc] using this)
  clear hbb
  go_enter Try.func32, Try.ntmps32
  go_wp2_with fail
  rw [← hW]
  clear hW
  refine (cut_any s 47 _ hs).mono ?_
  rintro e W1 ⟨he, hb1⟩
  unfold CutOk at he
  rw [hB.out, hA.out, hF.out] at he
  subst he
  have HB := hid (bw_step HB.out hb1)
  have R0 := hid (R0.out.below hb1)
  clear hb1
  go_wp2_with fail
  refine (PB.out _).mono ?_
  rintro e W2 ⟨⟨v, rfl, hv⟩, hb2⟩
  have HB := hid (bw_step HB.out hb2)
  have R0 := hid (R0.out.below hb2)
  clear hb2
  have lq2_R0 := R0.out.lt
  have lq2 := HB.out.size
  obtain ⟨q21, A21, n21, c21, rfl⟩ := hv.form
  have N := hid hv
  clear hv
  have hbb := bw_alloc (Below.refl _ W2) (.cells #[.bool q21, .slice A21 n21 c21] 24)
  have XN := Blk.new W2 24 #[.bool q21, .slice A21 n21 c21]
  have HB := hid (bw_step HB.out hbb)
  have R0 := hid (R0.out.below hbb)
  have N := hid (N.out.below hbb)
  have XN := hid XN
  clear hbb
  go_wp2_with fail
  refine (small_any _ 1 (by decide) (by decide)).mono ?_
  rintro e W3 ⟨⟨v, rfl, hv⟩, hb3⟩
  have HB := hid (bw_step HB.out hb3)
  have R0 := hid (R0.out.below hb3)
  have N := hid (N.out.below hb3)
  have XN := hid (XN.out.below hb3)
  clear hb3
  have lq3_R0 := R0.out.lt
  have lq3_XN := XN.out.lt
  have lq3 := HB.out.size
  obtain ⟨q31, A31, n31, c31, rfl⟩ := hv.form
  have D := hid hv
  clear hv
  have hbb := bw_alloc (Below.refl _ W3) (.cells #[.bool q31, .slice A31 n31 c31] 24)
  have XD := Blk.new W3 24 #[.bool q31, .slice A31 n31 c31]
  have HB := hid (bw_step HB.out hbb)
  have R0 := hid (R0.out.below hbb)
  have N := hid (N.out.below hbb)
  have XN := hid (XN.out.below hbb)
  have D := hid (D.out.below hbb)
  have XD := hid XD
  clear hbb
  go_wp2_with fail
  refine (PA.out _).mono ?_
  rintro e W4 ⟨⟨v, rfl, hv⟩, hb4⟩
  have HB := hid (bw_step HB.out hb4)
  have R0 := hid (R0.out.below hb4)
  have N := hid (N.out.below hb4)
  have XN := hid (XN.out.below hb4)
  have D := hid (D.out.below hb4)
  have XD := hid (XD.out.below hb4)
  clear hb4
  obtain ⟨q41, A41, n41, c41, rfl⟩ := hv.form
  have E := hid hv
  clear hv
  have kk0 := XD.out.cell 0
  have kk1 := XD.out.cell 1
  have ff0 := XD.out.free 0
  have ff1 := XD.out.free 1
  have hnf := XD.out.numFree (noNum_int _ _ _ _)
  have hon := only_two W4 (W3.heap.size) (.bool q41) (.slice A41 n41 c41)
  have R0 := hid (R0.out.only hon (by have := R0.out.lt; have := XN.out.lt; have := XD.out.lt; omega))
  have N := hid (N.out.only hnf hon)
  have XN := hid (XN.out.only hon (by have := R0.out.lt; have := XN.out.lt; have := XD.out.lt; omega))
  have D := hid (D.out.only hnf hon)
  have XD := hid (blk_fill (q := q41) (A := A41) (n := n41) (c := c41) XD.out)
  have E := hid (E.out.only hnf hon)
  have HB := hid (below_only HB.out hon (by have := R0.out.lt; have := XN.out.lt; have := XD.out.lt; have := HB.out.size; omega))
  clear hnf hon
  go_wp2_with fail
  refine (prefix_b _ _).mono ?_
  rintro e W5 ⟨he, hb5⟩
  rw [hng.out] at he
  subst he
  have HB := hid (bw_step HB.out hb5)
  have R0 := hid (R0.out.below hb5)
  have N := hid (N.out.below hb5)
  have XN := hid (XN.out.below hb5)
  have D := hid (D.out.below hb5)
  have XD := hid (XD.out.below hb5)
  have E := hid (E.out.below hb5)
  clear hb5
  go_wp2_with (with_reducible refine halt_at 49 rfl ?_)
  unfold Halted
  refine wp_list_each (by kernel_rfl) 3 70 rfl rfl (by kernel_rfl)
    [Fact.eq (.agg #[.bool false, .slice none 0 0, .bool false, .slice none 0 0]), Fact.top _, Fact.eq (.int .i64 7)]
    [.val, .fillOld 0, .val]
    (fun w' => IntV w' (.agg #[.bool q21, .slice A21 n21 c21]) (zB) ∧ Blk w' (W2.heap.size) 24 #[.bool q21, .slice A21 n21 c21] ∧ IntV w' (.agg #[.bool q31, .slice A31 n31 c31]) (1) ∧ Blk w' (W3.heap.size) 24 #[.bool q41, .slice A41 n41 c41] ∧ IntV w' (.agg #[.bool q41, .slice A41 n41 c41]) (zA) ∧ Below w.heap.size w w')
    (fun l b w' => match l with
      | 0 => if b = true then BoxR w' (w.heap.size) 26 (.V 0) (.V 0) else Blk w' (w.heap.size) 26 #[.bool false, .slice none 0 0, .bool false, .slice none 0 0]
      | _ => True)
    [1] (fun l => match l with | 0 => w.heap.size | _ => 0) (by kernel_rfl)
    ⟨N.out, XN.out, D.out, XD.out, E.out, HB.out⟩
    (fun w1 w2 ⟨h0, h1, h2, h3, h4, h5⟩ hb => ⟨h0.below hb, h1.below hb, h2.below hb, h3.below hb, h4.below hb, bw_step h5 hb⟩)
    (fun w1 w2 g ⟨h0, h1, h2, h3, h4, h5⟩ hg hn ho => by
      have hg' : W5.heap.size ≤ g ∨ g = w.heap.size := by
        rcases hg with h | ⟨l, hl, h⟩
        · exact .inl h
        · rcases l with _ | l
          · exact .inr h
          · exact absurd hl (by simp)
      exact ⟨h0.only hn ho, h1.only ho (by have := R0.out.lt; have := XN.out.lt; have := XD.out.lt; omega), h2.only hn ho, h3.only ho (by have := R0.out.lt; have := XN.out.lt; have := XD.out.lt; omega), h4.only hn ho, below_only h5 ho (by have := R0.out.lt; have := XN.out.lt; have := XD.out.lt; have := HB.out.size; omega)⟩)
    (fun l hl => by
        rcases l with _ | l
        · exact R0.out
        · exact absurd hl (by simp))
    (fun l b w1 w2 hl h hb => by
        rcases l with _ | l
        · (cases b <;> exact h.below hb)
        · exact absurd hl (by simp))
    (fun l b w1 w2 g hl h hg hn ho => by
        rcases l with _ | l
        · (cases b; (exact h.only ho (Ne.symm hg)); (exact h.only (Ne.symm hg) hn ho))
        · exact absurd hl (by simp))
    (fun l hl => by
        rcases l with _ | l
        · exact R0.out.lt
        · exact absurd hl (by simp))
    (fun l k hl hk hne => by rcases l with _ | l <;> rcases k with _ | k <;> simp at hl hk hne)
    ?_ ?_
  · refine ⟨?_, ?_, ?_, trivial⟩ <;> intro L V a1 w1 hf hG hsz hφ hψ hL hdep hcl
    · exact ob_pure (ex_zeroR rfl) rfl
    · have d0 := dep_of hdep 0 (by kernel_rfl)
      have e49 := (new_slot hf 0 49 d0 (by kernel_rfl)).trans (show V 0 = .agg #[.bool false, .slice none 0 0, .bool false, .slice none 0 0] from hφ 0 d0)
      have e2 := old_slot hf 2 (by kernel_rfl)
      have hb0 := hψ 0 (by decide)
      rw [show [1].getD 0 0 = 1 from rfl, hL] at hb0
      exact ob_fillOldR rfl e2 e49 hb0 (Pair.mk (a := .V 0) (b := .V 0) (IntV.zero _) (IntV.zero _)) (fun w2 h => h) rfl
    · exact ob_pure (v := .int .i64 7) (ex_assignV rfl rfl) rfl
  · intro V W6 hG hsz6 hφ hψ hne
    have hlt6 : W5.heap.size ≤ W6.heap.size := hsz6
    obtain ⟨N_, XN_, D_, XD_, E_, HB_⟩ := hG
    have N := hid N_
    have XN := hid XN_
    have D := hid D_
    have XD := hid XD_
    have E := hid E_
    have HB := hid HB_
    have y0 : V 0 = .agg #[.bool false, .slice none 0 0, .bool false, .slice none 0 0] := hφ 0 (by decide)
    have y2 : V 2 = .int .i64 7 := hφ 2 (by decide)
    obtain ⟨q6501, A6501, n6501, c6501, q6502, A6502, n6502, c6502, kb650, va650, vb650⟩ := hψ 0 (by decide)
    have R0 := hid kb650
    have R01 : Hid (IntV W6 (.agg #[.bool q6501, .slice A6501 n6501 c6501]) 0) := hid va650
    have R02 : Hid (IntV W6 (.agg #[.bool q6502, .slice A6502 n6502 c6502]) 0) := hid vb650
    clear kb650 va650 vb650
    simp only [puts, Act.put, List.setIfInBounds_toArray, List.set_cons_zero, List.set_cons_succ, y0, y2]
    clear hφ hψ hne y0 y2 N_ XN_ D_ XD_ E_ HB_ hsz6
    have k0 := R0.out.cell 0
    have k1 := R0.out.cell 1
    have k2 := R0.out.cell 2
    have k3 := R0.out.cell 3
    go_wp2
    refine bodyPost_ret (v := .tuple #[.agg #[.bool q6501, .slice A6501 n6501 c6501, .bool q6502, .slice A6502 n6502 c6502], .int .i64 7]) (by simp [results, Try.results32, go_sem, k0, k1, k2, k3]) rfl ⟨⟨_, rfl, ?_⟩, HB.out⟩
    exact Pair.mk (a := .V 0) (b := .V 0) R01.out R02.out
set_option maxHeartbeats 8000000 in
theorem pR_lar2 (w : World) (s B A : ByteArray) (eB eA zB zA : Int) (hs : s.size ≤ 9223372036854775807) (hB : Hid (cutB s 47 = B)) (hA : Hid (cutA s 47 = A)) (hF : Hid (cutF s 47 = true)) (PB : Hid (PCon 63 B eB zB)) (PA : Hid (PCon 63 A eA zA)) (SB : Hid (Sm 2000 zB)) (SA : Hid (Sm 2000 zA)) (h2 : (eB == 2) = false) (h3 : (eA == 2) = false) (hng : Hid (ngB A = false)) (h4 : (eB != 0) = false) (h5 : (eA != 0) = true) :
    Calls Try.prog 32 #[.string s] w fun e w' => RetPE w' 7 0 0 e ∧ Below w.heap.size w w' := by
  have HB := hid (Below.refl w.heap.size w)
  obtain ⟨W, hW⟩ : ∃ W, W = (w.alloc (.cells #[.bool false, .slice none 0 0, .bool false, .slice none 0 0] 26)) := ⟨_, rfl⟩
  have hbb : Below w.heap.size w W := by rw [hW]; exact (bw_alloc (Below.refl _ _) _)
  have HB := hid (bw_step HB.out hbb)
  have R0 : Hid (Blk W (w.heap.size) 26 #[.bool false, .slice none 0 0, .bool false, .slice none 0 0]) := by
    rw [hW]
    have := Blk.new w 26 #[.bool false, .slice none 0 0, .bool false, .slice none 0 0]
    exact hid (by simpa only [World.size_alloc] using this)
  clear hbb
  go_enter Try.func32, Try.ntmps32
  go_wp2_with fail
  rw [← hW]
  clear hW
  refine (cut_any s 47 _ hs).mono ?_
  rintro e W1 ⟨he, hb1⟩
  unfold CutOk at he
  rw [hB.out, hA.out, hF.out] at he
  subst he
  have HB := hid (bw_step HB.out hb1)
  have R0 := hid (R0.out.below hb1)
  clear hb1
  go_wp2_with fail
  refine (PB.out _).mono ?_
  rintro e W2 ⟨⟨v, rfl, hv⟩, hb2⟩
  have HB := hid (bw_step HB.out hb2)
  have R0 := hid (R0.out.below hb2)
  clear hb2
  have lq2_R0 := R0.out.lt
  have lq2 := HB.out.size
  obtain ⟨q21, A21, n21, c21, rfl⟩ := hv.form
  have N := hid hv
  clear hv
  have hbb := bw_alloc (Below.refl _ W2) (.cells #[.bool q21, .slice A21 n21 c21] 24)
  have XN := Blk.new W2 24 #[.bool q21, .slice A21 n21 c21]
  have HB := hid (bw_step HB.out hbb)
  have R0 := hid (R0.out.below hbb)
  have N := hid (N.out.below hbb)
  have XN := hid XN
  clear hbb
  go_wp2_with fail
  refine (small_any _ 1 (by decide) (by decide)).mono ?_
  rintro e W3 ⟨⟨v, rfl, hv⟩, hb3⟩
  have HB := hid (bw_step HB.out hb3)
  have R0 := hid (R0.out.below hb3)
  have N := hid (N.out.below hb3)
  have XN := hid (XN.out.below hb3)
  clear hb3
  have lq3_R0 := R0.out.lt
  have lq3_XN := XN.out.lt
  have lq3 := HB.out.size
  obtain ⟨q31, A31, n31, c31, rfl⟩ := hv.form
  have D := hid hv
  clear hv
  have hbb := bw_alloc (Below.refl _ W3) (.cells #[.bool q31, .slice A31 n31 c31] 24)
  have XD := Blk.new W3 24 #[.bool q31, .slice A31 n31 c31]
  have HB := hid (bw_step HB.out hbb)
  have R0 := hid (R0.out.below hbb)
  have N := hid (N.out.below hbb)
  have XN := hid (XN.out.below hbb)
  have D := hid (D.out.below hbb)
  have XD := hid XD
  clear hbb
  go_wp2_with fail
  refine (PA.out _).mono ?_
  rintro e W4 ⟨⟨v, rfl, hv⟩, hb4⟩
  have HB := hid (bw_step HB.out hb4)
  have R0 := hid (R0.out.below hb4)
  have N := hid (N.out.below hb4)
  have XN := hid (XN.out.below hb4)
  have D := hid (D.out.below hb4)
  have XD := hid (XD.out.below hb4)
  clear hb4
  obtain ⟨q41, A41, n41, c41, rfl⟩ := hv.form
  have E := hid hv
  clear hv
  have kk0 := XD.out.cell 0
  have kk1 := XD.out.cell 1
  have ff0 := XD.out.free 0
  have ff1 := XD.out.free 1
  have hnf := XD.out.numFree (noNum_int _ _ _ _)
  have hon := only_two W4 (W3.heap.size) (.bool q41) (.slice A41 n41 c41)
  have R0 := hid (R0.out.only hon (by have := R0.out.lt; have := XN.out.lt; have := XD.out.lt; omega))
  have N := hid (N.out.only hnf hon)
  have XN := hid (XN.out.only hon (by have := R0.out.lt; have := XN.out.lt; have := XD.out.lt; omega))
  have D := hid (D.out.only hnf hon)
  have XD := hid (blk_fill (q := q41) (A := A41) (n := n41) (c := c41) XD.out)
  have E := hid (E.out.only hnf hon)
  have HB := hid (below_only HB.out hon (by have := R0.out.lt; have := XN.out.lt; have := XD.out.lt; have := HB.out.size; omega))
  clear hnf hon
  go_wp2_with fail
  refine (prefix_b _ _).mono ?_
  rintro e W5 ⟨he, hb5⟩
  rw [hng.out] at he
  subst he
  have HB := hid (bw_step HB.out hb5)
  have R0 := hid (R0.out.below hb5)
  have N := hid (N.out.below hb5)
  have XN := hid (XN.out.below hb5)
  have D := hid (D.out.below hb5)
  have XD := hid (XD.out.below hb5)
  have E := hid (E.out.below hb5)
  clear hb5
  go_wp2_with (with_reducible refine halt_at 49 rfl ?_)
  unfold Halted
  refine wp_list_each (by kernel_rfl) 3 70 rfl rfl (by kernel_rfl)
    [Fact.eq (.agg #[.bool false, .slice none 0 0, .bool false, .slice none 0 0]), Fact.top _, Fact.eq (.int .i64 7)]
    [.val, .fillOld 0, .val]
    (fun w' => IntV w' (.agg #[.bool q21, .slice A21 n21 c21]) (zB) ∧ Blk w' (W2.heap.size) 24 #[.bool q21, .slice A21 n21 c21] ∧ IntV w' (.agg #[.bool q31, .slice A31 n31 c31]) (1) ∧ Blk w' (W3.heap.size) 24 #[.bool q41, .slice A41 n41 c41] ∧ IntV w' (.agg #[.bool q41, .slice A41 n41 c41]) (zA) ∧ Below w.heap.size w w')
    (fun l b w' => match l with
      | 0 => if b = true then BoxR w' (w.heap.size) 26 (.V 0) (.V 0) else Blk w' (w.heap.size) 26 #[.bool false, .slice none 0 0, .bool false, .slice none 0 0]
      | _ => True)
    [1] (fun l => match l with | 0 => w.heap.size | _ => 0) (by kernel_rfl)
    ⟨N.out, XN.out, D.out, XD.out, E.out, HB.out⟩
    (fun w1 w2 ⟨h0, h1, h2, h3, h4, h5⟩ hb => ⟨h0.below hb, h1.below hb, h2.below hb, h3.below hb, h4.below hb, bw_step h5 hb⟩)
    (fun w1 w2 g ⟨h0, h1, h2, h3, h4, h5⟩ hg hn ho => by
      have hg' : W5.heap.size ≤ g ∨ g = w.heap.size := by
        rcases hg with h | ⟨l, hl, h⟩
        · exact .inl h
        · rcases l with _ | l
          · exact .inr h
          · exact absurd hl (by simp)
      exact ⟨h0.only hn ho, h1.only ho (by have := R0.out.lt; have := XN.out.lt; have := XD.out.lt; omega), h2.only hn ho, h3.only ho (by have := R0.out.lt; have := XN.out.lt; have := XD.out.lt; omega), h4.only hn ho, below_only h5 ho (by have := R0.out.lt; have := XN.out.lt; have := XD.out.lt; have := HB.out.size; omega)⟩)
    (fun l hl => by
        rcases l with _ | l
        · exact R0.out
        · exact absurd hl (by simp))
    (fun l b w1 w2 hl h hb => by
        rcases l with _ | l
        · (cases b <;> exact h.below hb)
        · exact absurd hl (by simp))
    (fun l b w1 w2 g hl h hg hn ho => by
        rcases l with _ | l
        · (cases b; (exact h.only ho (Ne.symm hg)); (exact h.only (Ne.symm hg) hn ho))
        · exact absurd hl (by simp))
    (fun l hl => by
        rcases l with _ | l
        · exact R0.out.lt
        · exact absurd hl (by simp))
    (fun l k hl hk hne => by rcases l with _ | l <;> rcases k with _ | k <;> simp at hl hk hne)
    ?_ ?_
  · refine ⟨?_, ?_, ?_, trivial⟩ <;> intro L V a1 w1 hf hG hsz hφ hψ hL hdep hcl
    · exact ob_pure (ex_zeroR rfl) rfl
    · have d0 := dep_of hdep 0 (by kernel_rfl)
      have e49 := (new_slot hf 0 49 d0 (by kernel_rfl)).trans (show V 0 = .agg #[.bool false, .slice none 0 0, .bool false, .slice none 0 0] from hφ 0 d0)
      have e2 := old_slot hf 2 (by kernel_rfl)
      have hb0 := hψ 0 (by decide)
      rw [show [1].getD 0 0 = 1 from rfl, hL] at hb0
      exact ob_fillOldR rfl e2 e49 hb0 (Pair.mk (a := .V 0) (b := .V 0) (IntV.zero _) (IntV.zero _)) (fun w2 h => h) rfl
    · exact ob_pure (v := .int .i64 7) (ex_assignV rfl rfl) rfl
  · intro V W6 hG hsz6 hφ hψ hne
    have hlt6 : W5.heap.size ≤ W6.heap.size := hsz6
    obtain ⟨N_, XN_, D_, XD_, E_, HB_⟩ := hG
    have N := hid N_
    have XN := hid XN_
    have D := hid D_
    have XD := hid XD_
    have E := hid E_
    have HB := hid HB_
    have y0 : V 0 = .agg #[.bool false, .slice none 0 0, .bool false, .slice none 0 0] := hφ 0 (by decide)
    have y2 : V 2 = .int .i64 7 := hφ 2 (by decide)
    obtain ⟨q6501, A6501, n6501, c6501, q6502, A6502, n6502, c6502, kb650, va650, vb650⟩ := hψ 0 (by decide)
    have R0 := hid kb650
    have R01 : Hid (IntV W6 (.agg #[.bool q6501, .slice A6501 n6501 c6501]) 0) := hid va650
    have R02 : Hid (IntV W6 (.agg #[.bool q6502, .slice A6502 n6502 c6502]) 0) := hid vb650
    clear kb650 va650 vb650
    simp only [puts, Act.put, List.setIfInBounds_toArray, List.set_cons_zero, List.set_cons_succ, y0, y2]
    clear hφ hψ hne y0 y2 N_ XN_ D_ XD_ E_ HB_ hsz6
    have k0 := R0.out.cell 0
    have k1 := R0.out.cell 1
    have k2 := R0.out.cell 2
    have k3 := R0.out.cell 3
    go_wp2
    refine bodyPost_ret (v := .tuple #[.agg #[.bool q6501, .slice A6501 n6501 c6501, .bool q6502, .slice A6502 n6502 c6502], .int .i64 7]) (by simp [results, Try.results32, go_sem, k0, k1, k2, k3]) rfl ⟨⟨_, rfl, ?_⟩, HB.out⟩
    exact Pair.mk (a := .V 0) (b := .V 0) R01.out R02.out
set_option maxHeartbeats 8000000 in
theorem pR_le1 (w : World) (s B A : ByteArray) (eB eA zB zA : Int) (hs : s.size ≤ 9223372036854775807) (hB : Hid (cutB s 47 = B)) (hA : Hid (cutA s 47 = A)) (hF : Hid (cutF s 47 = true)) (PB : Hid (PCon 63 B eB zB)) (PA : Hid (PCon 63 A eA zA)) (SB : Hid (Sm 2000 zB)) (SA : Hid (Sm 2000 zA)) (h2 : (eB == 2) = false) (h3 : (eA == 2) = false) (hng : Hid (ngB A = false)) (h4 : (eB != 0) = false) (h5 : (eA != 0) = false) (hcm : Hid (cm zA 1 = -1)) :
    Calls Try.prog 32 #[.string s] w fun e w' => RetPE w' 1 0 0 e ∧ Below w.heap.size w w' := by
  have HB := hid (Below.refl w.heap.size w)
  obtain ⟨W, hW⟩ : ∃ W, W = (w.alloc (.cells #[.bool false, .slice none 0 0, .bool false, .slice none 0 0] 26)) := ⟨_, rfl⟩
  have hbb : Below w.heap.size w W := by rw [hW]; exact (bw_alloc (Below.refl _ _) _)
  have HB := hid (bw_step HB.out hbb)
  have R0 : Hid (Blk W (w.heap.size) 26 #[.bool false, .slice none 0 0, .bool false, .slice none 0 0]) := by
    rw [hW]
    have := Blk.new w 26 #[.bool false, .slice none 0 0, .bool false, .slice none 0 0]
    exact hid (by simpa only [World.size_alloc] using this)
  clear hbb
  go_enter Try.func32, Try.ntmps32
  go_wp2_with fail
  rw [← hW]
  clear hW
  refine (cut_any s 47 _ hs).mono ?_
  rintro e W1 ⟨he, hb1⟩
  unfold CutOk at he
  rw [hB.out, hA.out, hF.out] at he
  subst he
  have HB := hid (bw_step HB.out hb1)
  have R0 := hid (R0.out.below hb1)
  clear hb1
  go_wp2_with fail
  refine (PB.out _).mono ?_
  rintro e W2 ⟨⟨v, rfl, hv⟩, hb2⟩
  have HB := hid (bw_step HB.out hb2)
  have R0 := hid (R0.out.below hb2)
  clear hb2
  have lq2_R0 := R0.out.lt
  have lq2 := HB.out.size
  obtain ⟨q21, A21, n21, c21, rfl⟩ := hv.form
  have N := hid hv
  clear hv
  have hbb := bw_alloc (Below.refl _ W2) (.cells #[.bool q21, .slice A21 n21 c21] 24)
  have XN := Blk.new W2 24 #[.bool q21, .slice A21 n21 c21]
  have HB := hid (bw_step HB.out hbb)
  have R0 := hid (R0.out.below hbb)
  have N := hid (N.out.below hbb)
  have XN := hid XN
  clear hbb
  go_wp2_with fail
  refine (small_any _ 1 (by decide) (by decide)).mono ?_
  rintro e W3 ⟨⟨v, rfl, hv⟩, hb3⟩
  have HB := hid (bw_step HB.out hb3)
  have R0 := hid (R0.out.below hb3)
  have N := hid (N.out.below hb3)
  have XN := hid (XN.out.below hb3)
  clear hb3
  have lq3_R0 := R0.out.lt
  have lq3_XN := XN.out.lt
  have lq3 := HB.out.size
  obtain ⟨q31, A31, n31, c31, rfl⟩ := hv.form
  have D := hid hv
  clear hv
  have hbb := bw_alloc (Below.refl _ W3) (.cells #[.bool q31, .slice A31 n31 c31] 24)
  have XD := Blk.new W3 24 #[.bool q31, .slice A31 n31 c31]
  have HB := hid (bw_step HB.out hbb)
  have R0 := hid (R0.out.below hbb)
  have N := hid (N.out.below hbb)
  have XN := hid (XN.out.below hbb)
  have D := hid (D.out.below hbb)
  have XD := hid XD
  clear hbb
  go_wp2_with fail
  refine (PA.out _).mono ?_
  rintro e W4 ⟨⟨v, rfl, hv⟩, hb4⟩
  have HB := hid (bw_step HB.out hb4)
  have R0 := hid (R0.out.below hb4)
  have N := hid (N.out.below hb4)
  have XN := hid (XN.out.below hb4)
  have D := hid (D.out.below hb4)
  have XD := hid (XD.out.below hb4)
  clear hb4
  obtain ⟨q41, A41, n41, c41, rfl⟩ := hv.form
  have E := hid hv
  clear hv
  have kk0 := XD.out.cell 0
  have kk1 := XD.out.cell 1
  have ff0 := XD.out.free 0
  have ff1 := XD.out.free 1
  have hnf := XD.out.numFree (noNum_int _ _ _ _)
  have hon := only_two W4 (W3.heap.size) (.bool q41) (.slice A41 n41 c41)
  have R0 := hid (R0.out.only hon (by have := R0.out.lt; have := XN.out.lt; have := XD.out.lt; omega))
  have N := hid (N.out.only hnf hon)
  have XN := hid (XN.out.only hon (by have := R0.out.lt; have := XN.out.lt; have := XD.out.lt; omega))
  have D := hid (D.out.only hnf hon)
  have XD := hid (blk_fill (q := q41) (A := A41) (n := n41) (c := c41) XD.out)
  have E := hid (E.out.only hnf hon)
  have HB := hid (below_only HB.out hon (by have := R0.out.lt; have := XN.out.lt; have := XD.out.lt; have := HB.out.size; omega))
  clear hnf hon
  go_wp2_with fail
  refine (prefix_b _ _).mono ?_
  rintro e W5 ⟨he, hb5⟩
  rw [hng.out] at he
  subst he
  have HB := hid (bw_step HB.out hb5)
  have R0 := hid (R0.out.below hb5)
  have N := hid (N.out.below hb5)
  have XN := hid (XN.out.below hb5)
  have D := hid (D.out.below hb5)
  have XD := hid (XD.out.below hb5)
  have E := hid (E.out.below hb5)
  clear hb5
  go_wp2_with fail
  refine (small_any _ 1 (by decide) (by decide)).mono ?_
  rintro e W6 ⟨⟨v, rfl, hv⟩, hb6⟩
  have HB := hid (bw_step HB.out hb6)
  have R0 := hid (R0.out.below hb6)
  have N := hid (N.out.below hb6)
  have XN := hid (XN.out.below hb6)
  have D := hid (D.out.below hb6)
  have XD := hid (XD.out.below hb6)
  have E := hid (E.out.below hb6)
  clear hb6
  have lq6_R0 := R0.out.lt
  have lq6_XN := XN.out.lt
  have lq6_XD := XD.out.lt
  have lq6 := HB.out.size
  obtain ⟨q61, A61, n61, c61, rfl⟩ := hv.form
  have O := hid hv
  clear hv
  have hbb := bw_alloc (Below.refl _ W6) (.cells #[.bool q61, .slice A61 n61 c61] 24)
  have XO := Blk.new W6 24 #[.bool q61, .slice A61 n61 c61]
  have HB := hid (bw_step HB.out hbb)
  have R0 := hid (R0.out.below hbb)
  have N := hid (N.out.below hbb)
  have XN := hid (XN.out.below hbb)
  have D := hid (D.out.below hbb)
  have XD := hid (XD.out.below hbb)
  have E := hid (E.out.below hbb)
  have O := hid (O.out.below hbb)
  have XO := hid XO
  clear hbb
  go_wp2_with fail
  refine wp_region_eachG (by kernel_rfl) 15 70 rfl rfl (by kernel_rfl)
    [Fact.eq (.bool true), Fact.eq (.bool true), Fact.eq (.agg #[.bool q41, .slice A41 n41 c41]), Fact.eq (.agg #[.bool q61, .slice A61 n61 c61]), Fact.eq (.int .i64 (cm zA 1)), Fact.eq (.bool true), Fact.eq (.bool true), Fact.eq undef, Fact.eq undef, Fact.eq undef, Fact.eq undef, Fact.eq undef, Fact.eq undef, Fact.eq (.bool true), Fact.eq (.bool true)]
    [.val, .val, .val, .val, .val, .val, .val, .val, .val, .val, .val, .val, .val, .val, .val]
    (fun w' => Blk w' (w.heap.size) 26 #[.bool false, .slice none 0 0, .bool false, .slice none 0 0] ∧ IntV w' (.agg #[.bool q21, .slice A21 n21 c21]) (zB) ∧ Blk w' (W2.heap.size) 24 #[.bool q21, .slice A21 n21 c21] ∧ IntV w' (.agg #[.bool q31, .slice A31 n31 c31]) (1) ∧ Blk w' (W3.heap.size) 24 #[.bool q41, .slice A41 n41 c41] ∧ IntV w' (.agg #[.bool q41, .slice A41 n41 c41]) (zA) ∧ IntV w' (.agg #[.bool q61, .slice A61 n61 c61]) (1) ∧ Blk w' (W6.heap.size) 24 #[.bool q61, .slice A61 n61 c61] ∧ Below w.heap.size w w')
    (fun _ _ _ => True) [] (fun _ => 0) (by kernel_rfl)
    ⟨R0.out, N.out, XN.out, D.out, XD.out, E.out, O.out, XO.out, HB.out⟩
    (fun w1 w2 ⟨h0, h1, h2, h3, h4, h5, h6, h7, h8⟩ hb => ⟨h0.below hb, h1.below hb, h2.below hb, h3.below hb, h4.below hb, h5.below hb, h6.below hb, h7.below hb, bw_step h8 hb⟩)
    (fun w1 w2 g ⟨h0, h1, h2, h3, h4, h5, h6, h7, h8⟩ hg hn ho => by
      have hg' : (W6.alloc (.cells #[.bool q61, .slice A61 n61 c61] 24)).heap.size ≤ g := hg.elim id (fun ⟨_, h, _⟩ => absurd h (Nat.not_lt_zero _))
      exact ⟨h0.only ho (by have := R0.out.lt; have := XN.out.lt; have := XD.out.lt; have := XO.out.lt; omega), h1.only hn ho, h2.only ho (by have := R0.out.lt; have := XN.out.lt; have := XD.out.lt; have := XO.out.lt; omega), h3.only hn ho, h4.only ho (by have := R0.out.lt; have := XN.out.lt; have := XD.out.lt; have := XO.out.lt; omega), h5.only hn ho, h6.only hn ho, h7.only ho (by have := R0.out.lt; have := XN.out.lt; have := XD.out.lt; have := XO.out.lt; omega), below_only h8 ho (by have := R0.out.lt; have := XN.out.lt; have := XD.out.lt; have := XO.out.lt; have := HB.out.size; omega)⟩)
    (fun l h => trivial) (fun l b w1 w2 h _ _ => trivial) (fun l b w1 w2 g h _ _ _ _ => trivial) (fun l h => by cases h) (fun l k h => by cases h) ?_ ?_
  · refine ⟨?_, ?_, ?_, ?_, ?_, ?_, ?_, ?_, ?_, ?_, ?_, ?_, ?_, ?_, ?_, trivial⟩ <;> intro L V a1 w1 hf hG hsz hφ hψ hL hdep hcl
    · refine og_none rfl ?_
      have e6 := old_slot hf 6 (by kernel_rfl)
      exact ob_pure (v := .bool true) (ex_moveV rfl e6) rfl
    · refine og_none rfl ?_
      have d0 := dep_of hdep 0 (by kernel_rfl)
      have e51 := (new_slot hf 0 51 d0 (by kernel_rfl)).trans (show V 0 = .bool true from hφ 0 d0)
      exact ob_pure (v := .bool true) (ex_moveV rfl e51) rfl
    · obtain ⟨_, _, _, _, XD_, _⟩ := hG
      have dg := dep_of hdep 1 (by kernel_rfl)
      refine og_want rfl (yielded_of hf (n := 70) (by kernel_rfl) rfl 1 52 dg (by kernel_rfl) (show V 1 = .bool true from hφ 1 dg)) ?_
      have e9 := old_slot hf 9 (by kernel_rfl)
      exact ob_load_int rfl e9 XD_ rfl
    · obtain ⟨_, _, _, _, _, _, _, XO_, _⟩ := hG
      have dg := dep_of hdep 1 (by kernel_rfl)
      refine og_want rfl (yielded_of hf (n := 70) (by kernel_rfl) rfl 1 52 dg (by kernel_rfl) (show V 1 = .bool true from hφ 1 dg)) ?_
      have e11 := old_slot hf 11 (by kernel_rfl)
      exact ob_load_int rfl e11 XO_ rfl
    · obtain ⟨_, _, _, _, _, E_, O_, _⟩ := hG
      have dg := dep_of hdep 1 (by kernel_rfl)
      refine og_want rfl (yielded_of hf (n := 70) (by kernel_rfl) rfl 1 52 dg (by kernel_rfl) (show V 1 = .bool true from hφ 1 dg)) ?_
      have d2 := dep_of hdep 2 (by kernel_rfl)
      have e53 := (new_slot hf 2 53 d2 (by kernel_rfl)).trans (show V 2 = .agg #[.bool q41, .slice A41 n41 c41] from hφ 2 d2)
      have d3 := dep_of hdep 3 (by kernel_rfl)
      have e54 := (new_slot hf 3 54 d3 (by kernel_rfl)).trans (show V 3 = .agg #[.bool q61, .slice A61 n61 c61] from hφ 3 d3)
      refine ob_go rfl (vs := #[.agg #[.bool q41, .slice A41 n41 c41], .agg #[.bool q61, .slice A61 n61 c61]]) (by simp only [List.map_toArray, List.map_cons, List.map_nil, e53, e54]) (by kernel_rfl) (cmp_any _ (.agg #[.bool q41, .slice A41 n41 c41]) (.agg #[.bool q61, .slice A61 n61 c61]) zA 1 2000 1 (E_.arg (SA.out)) (O_.arg ((Sm.one (n := 1) (by decide) (by decide)))) ) ?_
      rintro e w2 ⟨he, hb⟩
      exact ⟨_, he, hb, rfl⟩
    · have dg := dep_of hdep 1 (by kernel_rfl)
      refine og_want rfl (yielded_of hf (n := 70) (by kernel_rfl) rfl 1 52 dg (by kernel_rfl) (show V 1 = .bool true from hφ 1 dg)) ?_
      have d4 := dep_of hdep 4 (by kernel_rfl)
      have e55 := (new_slot hf 4 55 d4 (by kernel_rfl)).trans (show V 4 = .int .i64 (cm zA 1) from hφ 4 d4)
      exact ob_pure (ex_leq_int rfl e55 rfl) (show Value.bool (decide ((cm zA 1) ≤ 0)) = Value.bool true from by rw [hcm.out]; rfl)
    · have dg := dep_of hdep 1 (by kernel_rfl)
      refine og_want rfl (yielded_of hf (n := 70) (by kernel_rfl) rfl 1 52 dg (by kernel_rfl) (show V 1 = .bool true from hφ 1 dg)) ?_
      have d5 := dep_of hdep 5 (by kernel_rfl)
      have e56 := (new_slot hf 5 56 d5 (by kernel_rfl)).trans (show V 5 = .bool true from hφ 5 d5)
      exact ob_pure (v := .bool true) (ex_moveV rfl e56) rfl
    · have dg := dep_of hdep 6 (by kernel_rfl)
      exact og_skip rfl (yielded_of hf (n := 70) (by kernel_rfl) rfl 6 57 dg (by kernel_rfl) (show V 6 = .bool true from hφ 6 dg)) rfl rfl
    · have dg := dep_of hdep 6 (by kernel_rfl)
      exact og_skip rfl (yielded_of hf (n := 70) (by kernel_rfl) rfl 6 57 dg (by kernel_rfl) (show V 6 = .bool true from hφ 6 dg)) rfl rfl
    · have dg := dep_of hdep 6 (by kernel_rfl)
      exact og_skip rfl (yielded_of hf (n := 70) (by kernel_rfl) rfl 6 57 dg (by kernel_rfl) (show V 6 = .bool true from hφ 6 dg)) rfl rfl
    · have dg := dep_of hdep 6 (by kernel_rfl)
      exact og_skip rfl (yielded_of hf (n := 70) (by kernel_rfl) rfl 6 57 dg (by kernel_rfl) (show V 6 = .bool true from hφ 6 dg)) rfl rfl
    · have dg := dep_of hdep 6 (by kernel_rfl)
      exact og_skip rfl (yielded_of hf (n := 70) (by kernel_rfl) rfl 6 57 dg (by kernel_rfl) (show V 6 = .bool true from hφ 6 dg)) rfl rfl
    · have dg := dep_of hdep 6 (by kernel_rfl)
      exact og_skip rfl (yielded_of hf (n := 70) (by kernel_rfl) rfl 6 57 dg (by kernel_rfl) (show V 6 = .bool true from hφ 6 dg)) rfl rfl
    · have dg := dep_of hdep 1 (by kernel_rfl)
      refine og_want rfl (yielded_of hf (n := 70) (by kernel_rfl) rfl 1 52 dg (by kernel_rfl) (show V 1 = .bool true from hφ 1 dg)) ?_
      have d6 := dep_of hdep 6 (by kernel_rfl)
      have e57 := (new_slot hf 6 57 d6 (by kernel_rfl)).trans (show V 6 = .bool true from hφ 6 d6)
      exact ob_pure (v := .bool true) (ex_pick_true rfl e57 rfl) rfl
    · refine og_none rfl ?_
      have d1 := dep_of hdep 1 (by kernel_rfl)
      have e52 := (new_slot hf 1 52 d1 (by kernel_rfl)).trans (show V 1 = .bool true from hφ 1 d1)
      have d13 := dep_of hdep 13 (by kernel_rfl)
      have e64 := (new_slot hf 13 64 d13 (by kernel_rfl)).trans (show V 13 = .bool true from hφ 13 d13)
      exact ob_pure (v := .bool true) (ex_pick_true rfl e52 e64) rfl
  · intro V W7 hG hsz7 hφ hψ hne
    have hlt7 : (W6.alloc (.cells #[.bool q61, .slice A61 n61 c61] 24)).heap.size ≤ W7.heap.size := hsz7
    obtain ⟨R0_, N_, XN_, D_, XD_, E_, O_, XO_, HB_⟩ := hG
    have R0 := hid R0_
    have N := hid N_
    have XN := hid XN_
    have D := hid D_
    have XD := hid XD_
    have E := hid E_
    have O := hid O_
    have XO := hid XO_
    have HB := hid HB_
    have y0 : V 0 = .bool true := hφ 0 (by decide)
    have y1 : V 1 = .bool true := hφ 1 (by decide)
    have y2 : V 2 = .agg #[.bool q41, .slice A41 n41 c41] := hφ 2 (by decide)
    have y3 : V 3 = .agg #[.bool q61, .slice A61 n61 c61] := hφ 3 (by decide)
    have y4 : V 4 = .int .i64 (cm zA 1) := hφ 4 (by decide)
    have y5 : V 5 = .bool true := hφ 5 (by decide)
    have y6 : V 6 = .bool true := hφ 6 (by decide)
    have y7 : V 7 = undef := hφ 7 (by decide)
    have y8 : V 8 = undef := hφ 8 (by decide)
    have y9 : V 9 = undef := hφ 9 (by decide)
    have y10 : V 10 = undef := hφ 10 (by decide)
    have y11 : V 11 = undef := hφ 11 (by decide)
    have y12 : V 12 = undef := hφ 12 (by decide)
    have y13 : V 13 = .bool true := hφ 13 (by decide)
    have y14 : V 14 = .bool true := hφ 14 (by decide)
    simp only [puts, Act.put, List.setIfInBounds_toArray, List.set_cons_zero, List.set_cons_succ, y0, y1, y2, y3, y4, y5, y6, y7, y8, y9, y10, y11, y12, y13, y14]
    clear hφ hψ hne y0 y1 y2 y3 y4 y5 y6 y7 y8 y9 y10 y11 y12 y13 y14 R0_ N_ XN_ D_ XD_ E_ O_ XO_ HB_ hsz7
    go_wp2_with (with_reducible refine halt_at 66 rfl ?_)
    unfold Halted
    refine wp_list_each (by kernel_rfl) 3 70 rfl rfl (by kernel_rfl)
      [Fact.eq (.agg #[.bool false, .slice none 0 0, .bool false, .slice none 0 0]), Fact.top _, Fact.eq (.int .i64 1)]
      [.val, .fillOld 0, .val]
      (fun w' => IntV w' (.agg #[.bool q21, .slice A21 n21 c21]) (zB) ∧ Blk w' (W2.heap.size) 24 #[.bool q21, .slice A21 n21 c21] ∧ IntV w' (.agg #[.bool q31, .slice A31 n31 c31]) (1) ∧ Blk w' (W3.heap.size) 24 #[.bool q41, .slice A41 n41 c41] ∧ IntV w' (.agg #[.bool q41, .slice A41 n41 c41]) (zA) ∧ IntV w' (.agg #[.bool q61, .slice A61 n61 c61]) (1) ∧ Blk w' (W6.heap.size) 24 #[.bool q61, .slice A61 n61 c61] ∧ Below w.heap.size w w')
      (fun l b w' => match l with
        | 0 => if b = true then BoxR w' (w.heap.size) 26 (.V 0) (.V 0) else Blk w' (w.heap.size) 26 #[.bool false, .slice none 0 0, .bool false, .slice none 0 0]
        | _ => True)
      [1] (fun l => match l with | 0 => w.heap.size | _ => 0) (by kernel_rfl)
      ⟨N.out, XN.out, D.out, XD.out, E.out, O.out, XO.out, HB.out⟩
      (fun w1 w2 ⟨h0, h1, h2, h3, h4, h5, h6, h7⟩ hb => ⟨h0.below hb, h1.below hb, h2.below hb, h3.below hb, h4.below hb, h5.below hb, h6.below hb, bw_step h7 hb⟩)
      (fun w1 w2 g ⟨h0, h1, h2, h3, h4, h5, h6, h7⟩ hg hn ho => by
        have hg' : W7.heap.size ≤ g ∨ g = w.heap.size := by
          rcases hg with h | ⟨l, hl, h⟩
          · exact .inl h
          · rcases l with _ | l
            · exact .inr h
            · exact absurd hl (by simp)
        exact ⟨h0.only hn ho, h1.only ho (by have := R0.out.lt; have := XN.out.lt; have := XD.out.lt; have := XO.out.lt; omega), h2.only hn ho, h3.only ho (by have := R0.out.lt; have := XN.out.lt; have := XD.out.lt; have := XO.out.lt; omega), h4.only hn ho, h5.only hn ho, h6.only ho (by have := R0.out.lt; have := XN.out.lt; have := XD.out.lt; have := XO.out.lt; omega), below_only h7 ho (by have := R0.out.lt; have := XN.out.lt; have := XD.out.lt; have := XO.out.lt; have := HB.out.size; omega)⟩)
      (fun l hl => by
          rcases l with _ | l
          · exact R0.out
          · exact absurd hl (by simp))
      (fun l b w1 w2 hl h hb => by
          rcases l with _ | l
          · (cases b <;> exact h.below hb)
          · exact absurd hl (by simp))
      (fun l b w1 w2 g hl h hg hn ho => by
          rcases l with _ | l
          · (cases b; (exact h.only ho (Ne.symm hg)); (exact h.only (Ne.symm hg) hn ho))
          · exact absurd hl (by simp))
      (fun l hl => by
          rcases l with _ | l
          · exact R0.out.lt
          · exact absurd hl (by simp))
      (fun l k hl hk hne => by rcases l with _ | l <;> rcases k with _ | k <;> simp at hl hk hne)
      ?_ ?_
    · refine ⟨?_, ?_, ?_, trivial⟩ <;> intro L V a1 w1 hf hG hsz hφ hψ hL hdep hcl
      · exact ob_pure (ex_zeroR rfl) rfl
      · have d0 := dep_of hdep 0 (by kernel_rfl)
        have e66 := (new_slot hf 0 66 d0 (by kernel_rfl)).trans (show V 0 = .agg #[.bool false, .slice none 0 0, .bool false, .slice none 0 0] from hφ 0 d0)
        have e2 := old_slot hf 2 (by kernel_rfl)
        have hb0 := hψ 0 (by decide)
        rw [show [1].getD 0 0 = 1 from rfl, hL] at hb0
        exact ob_fillOldR rfl e2 e66 hb0 (Pair.mk (a := .V 0) (b := .V 0) (IntV.zero _) (IntV.zero _)) (fun w2 h => h) rfl
      · exact ob_pure (v := .int .i64 1) (ex_assignV rfl rfl) rfl
    · intro V W8 hG hsz8 hφ hψ hne
      have hlt8 : W7.heap.size ≤ W8.heap.size := hsz8
      obtain ⟨N_, XN_, D_, XD_, E_, O_, XO_, HB_⟩ := hG
      have N := hid N_
      have XN := hid XN_
      have D := hid D_
      have XD := hid XD_
      have E := hid E_
      have O := hid O_
      have XO := hid XO_
      have HB := hid HB_
      have y0 : V 0 = .agg #[.bool false, .slice none 0 0, .bool false, .slice none 0 0] := hφ 0 (by decide)
      have y2 : V 2 = .int .i64 1 := hφ 2 (by decide)
      obtain ⟨q8501, A8501, n8501, c8501, q8502, A8502, n8502, c8502, kb850, va850, vb850⟩ := hψ 0 (by decide)
      have R0 := hid kb850
      have R01 : Hid (IntV W8 (.agg #[.bool q8501, .slice A8501 n8501 c8501]) 0) := hid va850
      have R02 : Hid (IntV W8 (.agg #[.bool q8502, .slice A8502 n8502 c8502]) 0) := hid vb850
      clear kb850 va850 vb850
      simp only [puts, Act.put, List.setIfInBounds_toArray, List.set_cons_zero, List.set_cons_succ, y0, y2]
      clear hφ hψ hne y0 y2 N_ XN_ D_ XD_ E_ O_ XO_ HB_ hsz8
      have k0 := R0.out.cell 0
      have k1 := R0.out.cell 1
      have k2 := R0.out.cell 2
      have k3 := R0.out.cell 3
      go_wp2
      refine bodyPost_ret (v := .tuple #[.agg #[.bool q8501, .slice A8501 n8501 c8501, .bool q8502, .slice A8502 n8502 c8502], .int .i64 1]) (by simp [results, Try.results32, go_sem, k0, k1, k2, k3]) rfl ⟨⟨_, rfl, ?_⟩, HB.out⟩
      exact Pair.mk (a := .V 0) (b := .V 0) R01.out R02.out
set_option maxHeartbeats 8000000 in
theorem pR_le2 (w : World) (s B A : ByteArray) (eB eA zB zA : Int) (hs : s.size ≤ 9223372036854775807) (hB : Hid (cutB s 47 = B)) (hA : Hid (cutA s 47 = A)) (hF : Hid (cutF s 47 = true)) (PB : Hid (PCon 63 B eB zB)) (PA : Hid (PCon 63 A eA zA)) (SB : Hid (Sm 2000 zB)) (SA : Hid (Sm 2000 zA)) (h2 : (eB == 2) = false) (h3 : (eA == 2) = false) (hng : Hid (ngB A = false)) (h4 : (eB != 0) = false) (h5 : (eA != 0) = false) (hcm : Hid (cm zA 1 = 0)) :
    Calls Try.prog 32 #[.string s] w fun e w' => RetPE w' 1 0 0 e ∧ Below w.heap.size w w' := by
  have HB := hid (Below.refl w.heap.size w)
  obtain ⟨W, hW⟩ : ∃ W, W = (w.alloc (.cells #[.bool false, .slice none 0 0, .bool false, .slice none 0 0] 26)) := ⟨_, rfl⟩
  have hbb : Below w.heap.size w W := by rw [hW]; exact (bw_alloc (Below.refl _ _) _)
  have HB := hid (bw_step HB.out hbb)
  have R0 : Hid (Blk W (w.heap.size) 26 #[.bool false, .slice none 0 0, .bool false, .slice none 0 0]) := by
    rw [hW]
    have := Blk.new w 26 #[.bool false, .slice none 0 0, .bool false, .slice none 0 0]
    exact hid (by simpa only [World.size_alloc] using this)
  clear hbb
  go_enter Try.func32, Try.ntmps32
  go_wp2_with fail
  rw [← hW]
  clear hW
  refine (cut_any s 47 _ hs).mono ?_
  rintro e W1 ⟨he, hb1⟩
  unfold CutOk at he
  rw [hB.out, hA.out, hF.out] at he
  subst he
  have HB := hid (bw_step HB.out hb1)
  have R0 := hid (R0.out.below hb1)
  clear hb1
  go_wp2_with fail
  refine (PB.out _).mono ?_
  rintro e W2 ⟨⟨v, rfl, hv⟩, hb2⟩
  have HB := hid (bw_step HB.out hb2)
  have R0 := hid (R0.out.below hb2)
  clear hb2
  have lq2_R0 := R0.out.lt
  have lq2 := HB.out.size
  obtain ⟨q21, A21, n21, c21, rfl⟩ := hv.form
  have N := hid hv
  clear hv
  have hbb := bw_alloc (Below.refl _ W2) (.cells #[.bool q21, .slice A21 n21 c21] 24)
  have XN := Blk.new W2 24 #[.bool q21, .slice A21 n21 c21]
  have HB := hid (bw_step HB.out hbb)
  have R0 := hid (R0.out.below hbb)
  have N := hid (N.out.below hbb)
  have XN := hid XN
  clear hbb
  go_wp2_with fail
  refine (small_any _ 1 (by decide) (by decide)).mono ?_
  rintro e W3 ⟨⟨v, rfl, hv⟩, hb3⟩
  have HB := hid (bw_step HB.out hb3)
  have R0 := hid (R0.out.below hb3)
  have N := hid (N.out.below hb3)
  have XN := hid (XN.out.below hb3)
  clear hb3
  have lq3_R0 := R0.out.lt
  have lq3_XN := XN.out.lt
  have lq3 := HB.out.size
  obtain ⟨q31, A31, n31, c31, rfl⟩ := hv.form
  have D := hid hv
  clear hv
  have hbb := bw_alloc (Below.refl _ W3) (.cells #[.bool q31, .slice A31 n31 c31] 24)
  have XD := Blk.new W3 24 #[.bool q31, .slice A31 n31 c31]
  have HB := hid (bw_step HB.out hbb)
  have R0 := hid (R0.out.below hbb)
  have N := hid (N.out.below hbb)
  have XN := hid (XN.out.below hbb)
  have D := hid (D.out.below hbb)
  have XD := hid XD
  clear hbb
  go_wp2_with fail
  refine (PA.out _).mono ?_
  rintro e W4 ⟨⟨v, rfl, hv⟩, hb4⟩
  have HB := hid (bw_step HB.out hb4)
  have R0 := hid (R0.out.below hb4)
  have N := hid (N.out.below hb4)
  have XN := hid (XN.out.below hb4)
  have D := hid (D.out.below hb4)
  have XD := hid (XD.out.below hb4)
  clear hb4
  obtain ⟨q41, A41, n41, c41, rfl⟩ := hv.form
  have E := hid hv
  clear hv
  have kk0 := XD.out.cell 0
  have kk1 := XD.out.cell 1
  have ff0 := XD.out.free 0
  have ff1 := XD.out.free 1
  have hnf := XD.out.numFree (noNum_int _ _ _ _)
  have hon := only_two W4 (W3.heap.size) (.bool q41) (.slice A41 n41 c41)
  have R0 := hid (R0.out.only hon (by have := R0.out.lt; have := XN.out.lt; have := XD.out.lt; omega))
  have N := hid (N.out.only hnf hon)
  have XN := hid (XN.out.only hon (by have := R0.out.lt; have := XN.out.lt; have := XD.out.lt; omega))
  have D := hid (D.out.only hnf hon)
  have XD := hid (blk_fill (q := q41) (A := A41) (n := n41) (c := c41) XD.out)
  have E := hid (E.out.only hnf hon)
  have HB := hid (below_only HB.out hon (by have := R0.out.lt; have := XN.out.lt; have := XD.out.lt; have := HB.out.size; omega))
  clear hnf hon
  go_wp2_with fail
  refine (prefix_b _ _).mono ?_
  rintro e W5 ⟨he, hb5⟩
  rw [hng.out] at he
  subst he
  have HB := hid (bw_step HB.out hb5)
  have R0 := hid (R0.out.below hb5)
  have N := hid (N.out.below hb5)
  have XN := hid (XN.out.below hb5)
  have D := hid (D.out.below hb5)
  have XD := hid (XD.out.below hb5)
  have E := hid (E.out.below hb5)
  clear hb5
  go_wp2_with fail
  refine (small_any _ 1 (by decide) (by decide)).mono ?_
  rintro e W6 ⟨⟨v, rfl, hv⟩, hb6⟩
  have HB := hid (bw_step HB.out hb6)
  have R0 := hid (R0.out.below hb6)
  have N := hid (N.out.below hb6)
  have XN := hid (XN.out.below hb6)
  have D := hid (D.out.below hb6)
  have XD := hid (XD.out.below hb6)
  have E := hid (E.out.below hb6)
  clear hb6
  have lq6_R0 := R0.out.lt
  have lq6_XN := XN.out.lt
  have lq6_XD := XD.out.lt
  have lq6 := HB.out.size
  obtain ⟨q61, A61, n61, c61, rfl⟩ := hv.form
  have O := hid hv
  clear hv
  have hbb := bw_alloc (Below.refl _ W6) (.cells #[.bool q61, .slice A61 n61 c61] 24)
  have XO := Blk.new W6 24 #[.bool q61, .slice A61 n61 c61]
  have HB := hid (bw_step HB.out hbb)
  have R0 := hid (R0.out.below hbb)
  have N := hid (N.out.below hbb)
  have XN := hid (XN.out.below hbb)
  have D := hid (D.out.below hbb)
  have XD := hid (XD.out.below hbb)
  have E := hid (E.out.below hbb)
  have O := hid (O.out.below hbb)
  have XO := hid XO
  clear hbb
  go_wp2_with fail
  refine wp_region_eachG (by kernel_rfl) 15 70 rfl rfl (by kernel_rfl)
    [Fact.eq (.bool true), Fact.eq (.bool true), Fact.eq (.agg #[.bool q41, .slice A41 n41 c41]), Fact.eq (.agg #[.bool q61, .slice A61 n61 c61]), Fact.eq (.int .i64 (cm zA 1)), Fact.eq (.bool true), Fact.eq (.bool true), Fact.eq undef, Fact.eq undef, Fact.eq undef, Fact.eq undef, Fact.eq undef, Fact.eq undef, Fact.eq (.bool true), Fact.eq (.bool true)]
    [.val, .val, .val, .val, .val, .val, .val, .val, .val, .val, .val, .val, .val, .val, .val]
    (fun w' => Blk w' (w.heap.size) 26 #[.bool false, .slice none 0 0, .bool false, .slice none 0 0] ∧ IntV w' (.agg #[.bool q21, .slice A21 n21 c21]) (zB) ∧ Blk w' (W2.heap.size) 24 #[.bool q21, .slice A21 n21 c21] ∧ IntV w' (.agg #[.bool q31, .slice A31 n31 c31]) (1) ∧ Blk w' (W3.heap.size) 24 #[.bool q41, .slice A41 n41 c41] ∧ IntV w' (.agg #[.bool q41, .slice A41 n41 c41]) (zA) ∧ IntV w' (.agg #[.bool q61, .slice A61 n61 c61]) (1) ∧ Blk w' (W6.heap.size) 24 #[.bool q61, .slice A61 n61 c61] ∧ Below w.heap.size w w')
    (fun _ _ _ => True) [] (fun _ => 0) (by kernel_rfl)
    ⟨R0.out, N.out, XN.out, D.out, XD.out, E.out, O.out, XO.out, HB.out⟩
    (fun w1 w2 ⟨h0, h1, h2, h3, h4, h5, h6, h7, h8⟩ hb => ⟨h0.below hb, h1.below hb, h2.below hb, h3.below hb, h4.below hb, h5.below hb, h6.below hb, h7.below hb, bw_step h8 hb⟩)
    (fun w1 w2 g ⟨h0, h1, h2, h3, h4, h5, h6, h7, h8⟩ hg hn ho => by
      have hg' : (W6.alloc (.cells #[.bool q61, .slice A61 n61 c61] 24)).heap.size ≤ g := hg.elim id (fun ⟨_, h, _⟩ => absurd h (Nat.not_lt_zero _))
      exact ⟨h0.only ho (by have := R0.out.lt; have := XN.out.lt; have := XD.out.lt; have := XO.out.lt; omega), h1.only hn ho, h2.only ho (by have := R0.out.lt; have := XN.out.lt; have := XD.out.lt; have := XO.out.lt; omega), h3.only hn ho, h4.only ho (by have := R0.out.lt; have := XN.out.lt; have := XD.out.lt; have := XO.out.lt; omega), h5.only hn ho, h6.only hn ho, h7.only ho (by have := R0.out.lt; have := XN.out.lt; have := XD.out.lt; have := XO.out.lt; omega), below_only h8 ho (by have := R0.out.lt; have := XN.out.lt; have := XD.out.lt; have := XO.out.lt; have := HB.out.size; omega)⟩)
    (fun l h => trivial) (fun l b w1 w2 h _ _ => trivial) (fun l b w1 w2 g h _ _ _ _ => trivial) (fun l h => by cases h) (fun l k h => by cases h) ?_ ?_
  · refine ⟨?_, ?_, ?_, ?_, ?_, ?_, ?_, ?_, ?_, ?_, ?_, ?_, ?_, ?_, ?_, trivial⟩ <;> intro L V a1 w1 hf hG hsz hφ hψ hL hdep hcl
    · refine og_none rfl ?_
      have e6 := old_slot hf 6 (by kernel_rfl)
      exact ob_pure (v := .bool true) (ex_moveV rfl e6) rfl
    · refine og_none rfl ?_
      have d0 := dep_of hdep 0 (by kernel_rfl)
      have e51 := (new_slot hf 0 51 d0 (by kernel_rfl)).trans (show V 0 = .bool true from hφ 0 d0)
      exact ob_pure (v := .bool true) (ex_moveV rfl e51) rfl
    · obtain ⟨_, _, _, _, XD_, _⟩ := hG
      have dg := dep_of hdep 1 (by kernel_rfl)
      refine og_want rfl (yielded_of hf (n := 70) (by kernel_rfl) rfl 1 52 dg (by kernel_rfl) (show V 1 = .bool true from hφ 1 dg)) ?_
      have e9 := old_slot hf 9 (by kernel_rfl)
      exact ob_load_int rfl e9 XD_ rfl
    · obtain ⟨_, _, _, _, _, _, _, XO_, _⟩ := hG
      have dg := dep_of hdep 1 (by kernel_rfl)
      refine og_want rfl (yielded_of hf (n := 70) (by kernel_rfl) rfl 1 52 dg (by kernel_rfl) (show V 1 = .bool true from hφ 1 dg)) ?_
      have e11 := old_slot hf 11 (by kernel_rfl)
      exact ob_load_int rfl e11 XO_ rfl
    · obtain ⟨_, _, _, _, _, E_, O_, _⟩ := hG
      have dg := dep_of hdep 1 (by kernel_rfl)
      refine og_want rfl (yielded_of hf (n := 70) (by kernel_rfl) rfl 1 52 dg (by kernel_rfl) (show V 1 = .bool true from hφ 1 dg)) ?_
      have d2 := dep_of hdep 2 (by kernel_rfl)
      have e53 := (new_slot hf 2 53 d2 (by kernel_rfl)).trans (show V 2 = .agg #[.bool q41, .slice A41 n41 c41] from hφ 2 d2)
      have d3 := dep_of hdep 3 (by kernel_rfl)
      have e54 := (new_slot hf 3 54 d3 (by kernel_rfl)).trans (show V 3 = .agg #[.bool q61, .slice A61 n61 c61] from hφ 3 d3)
      refine ob_go rfl (vs := #[.agg #[.bool q41, .slice A41 n41 c41], .agg #[.bool q61, .slice A61 n61 c61]]) (by simp only [List.map_toArray, List.map_cons, List.map_nil, e53, e54]) (by kernel_rfl) (cmp_any _ (.agg #[.bool q41, .slice A41 n41 c41]) (.agg #[.bool q61, .slice A61 n61 c61]) zA 1 2000 1 (E_.arg (SA.out)) (O_.arg ((Sm.one (n := 1) (by decide) (by decide)))) ) ?_
      rintro e w2 ⟨he, hb⟩
      exact ⟨_, he, hb, rfl⟩
    · have dg := dep_of hdep 1 (by kernel_rfl)
      refine og_want rfl (yielded_of hf (n := 70) (by kernel_rfl) rfl 1 52 dg (by kernel_rfl) (show V 1 = .bool true from hφ 1 dg)) ?_
      have d4 := dep_of hdep 4 (by kernel_rfl)
      have e55 := (new_slot hf 4 55 d4 (by kernel_rfl)).trans (show V 4 = .int .i64 (cm zA 1) from hφ 4 d4)
      exact ob_pure (ex_leq_int rfl e55 rfl) (show Value.bool (decide ((cm zA 1) ≤ 0)) = Value.bool true from by rw [hcm.out]; rfl)
    · have dg := dep_of hdep 1 (by kernel_rfl)
      refine og_want rfl (yielded_of hf (n := 70) (by kernel_rfl) rfl 1 52 dg (by kernel_rfl) (show V 1 = .bool true from hφ 1 dg)) ?_
      have d5 := dep_of hdep 5 (by kernel_rfl)
      have e56 := (new_slot hf 5 56 d5 (by kernel_rfl)).trans (show V 5 = .bool true from hφ 5 d5)
      exact ob_pure (v := .bool true) (ex_moveV rfl e56) rfl
    · have dg := dep_of hdep 6 (by kernel_rfl)
      exact og_skip rfl (yielded_of hf (n := 70) (by kernel_rfl) rfl 6 57 dg (by kernel_rfl) (show V 6 = .bool true from hφ 6 dg)) rfl rfl
    · have dg := dep_of hdep 6 (by kernel_rfl)
      exact og_skip rfl (yielded_of hf (n := 70) (by kernel_rfl) rfl 6 57 dg (by kernel_rfl) (show V 6 = .bool true from hφ 6 dg)) rfl rfl
    · have dg := dep_of hdep 6 (by kernel_rfl)
      exact og_skip rfl (yielded_of hf (n := 70) (by kernel_rfl) rfl 6 57 dg (by kernel_rfl) (show V 6 = .bool true from hφ 6 dg)) rfl rfl
    · have dg := dep_of hdep 6 (by kernel_rfl)
      exact og_skip rfl (yielded_of hf (n := 70) (by kernel_rfl) rfl 6 57 dg (by kernel_rfl) (show V 6 = .bool true from hφ 6 dg)) rfl rfl
    · have dg := dep_of hdep 6 (by kernel_rfl)
      exact og_skip rfl (yielded_of hf (n := 70) (by kernel_rfl) rfl 6 57 dg (by kernel_rfl) (show V 6 = .bool true from hφ 6 dg)) rfl rfl
    · have dg := dep_of hdep 6 (by kernel_rfl)
      exact og_skip rfl (yielded_of hf (n := 70) (by kernel_rfl) rfl 6 57 dg (by kernel_rfl) (show V 6 = .bool true from hφ 6 dg)) rfl rfl
    · have dg := dep_of hdep 1 (by kernel_rfl)
      refine og_want rfl (yielded_of hf (n := 70) (by kernel_rfl) rfl 1 52 dg (by kernel_rfl) (show V 1 = .bool true from hφ 1 dg)) ?_
      have d6 := dep_of hdep 6 (by kernel_rfl)
      have e57 := (new_slot hf 6 57 d6 (by kernel_rfl)).trans (show V 6 = .bool true from hφ 6 d6)
      exact ob_pure (v := .bool true) (ex_pick_true rfl e57 rfl) rfl
    · refine og_none rfl ?_
      have d1 := dep_of hdep 1 (by kernel_rfl)
      have e52 := (new_slot hf 1 52 d1 (by kernel_rfl)).trans (show V 1 = .bool true from hφ 1 d1)
      have d13 := dep_of hdep 13 (by kernel_rfl)
      have e64 := (new_slot hf 13 64 d13 (by kernel_rfl)).trans (show V 13 = .bool true from hφ 13 d13)
      exact ob_pure (v := .bool true) (ex_pick_true rfl e52 e64) rfl
  · intro V W7 hG hsz7 hφ hψ hne
    have hlt7 : (W6.alloc (.cells #[.bool q61, .slice A61 n61 c61] 24)).heap.size ≤ W7.heap.size := hsz7
    obtain ⟨R0_, N_, XN_, D_, XD_, E_, O_, XO_, HB_⟩ := hG
    have R0 := hid R0_
    have N := hid N_
    have XN := hid XN_
    have D := hid D_
    have XD := hid XD_
    have E := hid E_
    have O := hid O_
    have XO := hid XO_
    have HB := hid HB_
    have y0 : V 0 = .bool true := hφ 0 (by decide)
    have y1 : V 1 = .bool true := hφ 1 (by decide)
    have y2 : V 2 = .agg #[.bool q41, .slice A41 n41 c41] := hφ 2 (by decide)
    have y3 : V 3 = .agg #[.bool q61, .slice A61 n61 c61] := hφ 3 (by decide)
    have y4 : V 4 = .int .i64 (cm zA 1) := hφ 4 (by decide)
    have y5 : V 5 = .bool true := hφ 5 (by decide)
    have y6 : V 6 = .bool true := hφ 6 (by decide)
    have y7 : V 7 = undef := hφ 7 (by decide)
    have y8 : V 8 = undef := hφ 8 (by decide)
    have y9 : V 9 = undef := hφ 9 (by decide)
    have y10 : V 10 = undef := hφ 10 (by decide)
    have y11 : V 11 = undef := hφ 11 (by decide)
    have y12 : V 12 = undef := hφ 12 (by decide)
    have y13 : V 13 = .bool true := hφ 13 (by decide)
    have y14 : V 14 = .bool true := hφ 14 (by decide)
    simp only [puts, Act.put, List.setIfInBounds_toArray, List.set_cons_zero, List.set_cons_succ, y0, y1, y2, y3, y4, y5, y6, y7, y8, y9, y10, y11, y12, y13, y14]
    clear hφ hψ hne y0 y1 y2 y3 y4 y5 y6 y7 y8 y9 y10 y11 y12 y13 y14 R0_ N_ XN_ D_ XD_ E_ O_ XO_ HB_ hsz7
    go_wp2_with (with_reducible refine halt_at 66 rfl ?_)
    unfold Halted
    refine wp_list_each (by kernel_rfl) 3 70 rfl rfl (by kernel_rfl)
      [Fact.eq (.agg #[.bool false, .slice none 0 0, .bool false, .slice none 0 0]), Fact.top _, Fact.eq (.int .i64 1)]
      [.val, .fillOld 0, .val]
      (fun w' => IntV w' (.agg #[.bool q21, .slice A21 n21 c21]) (zB) ∧ Blk w' (W2.heap.size) 24 #[.bool q21, .slice A21 n21 c21] ∧ IntV w' (.agg #[.bool q31, .slice A31 n31 c31]) (1) ∧ Blk w' (W3.heap.size) 24 #[.bool q41, .slice A41 n41 c41] ∧ IntV w' (.agg #[.bool q41, .slice A41 n41 c41]) (zA) ∧ IntV w' (.agg #[.bool q61, .slice A61 n61 c61]) (1) ∧ Blk w' (W6.heap.size) 24 #[.bool q61, .slice A61 n61 c61] ∧ Below w.heap.size w w')
      (fun l b w' => match l with
        | 0 => if b = true then BoxR w' (w.heap.size) 26 (.V 0) (.V 0) else Blk w' (w.heap.size) 26 #[.bool false, .slice none 0 0, .bool false, .slice none 0 0]
        | _ => True)
      [1] (fun l => match l with | 0 => w.heap.size | _ => 0) (by kernel_rfl)
      ⟨N.out, XN.out, D.out, XD.out, E.out, O.out, XO.out, HB.out⟩
      (fun w1 w2 ⟨h0, h1, h2, h3, h4, h5, h6, h7⟩ hb => ⟨h0.below hb, h1.below hb, h2.below hb, h3.below hb, h4.below hb, h5.below hb, h6.below hb, bw_step h7 hb⟩)
      (fun w1 w2 g ⟨h0, h1, h2, h3, h4, h5, h6, h7⟩ hg hn ho => by
        have hg' : W7.heap.size ≤ g ∨ g = w.heap.size := by
          rcases hg with h | ⟨l, hl, h⟩
          · exact .inl h
          · rcases l with _ | l
            · exact .inr h
            · exact absurd hl (by simp)
        exact ⟨h0.only hn ho, h1.only ho (by have := R0.out.lt; have := XN.out.lt; have := XD.out.lt; have := XO.out.lt; omega), h2.only hn ho, h3.only ho (by have := R0.out.lt; have := XN.out.lt; have := XD.out.lt; have := XO.out.lt; omega), h4.only hn ho, h5.only hn ho, h6.only ho (by have := R0.out.lt; have := XN.out.lt; have := XD.out.lt; have := XO.out.lt; omega), below_only h7 ho (by have := R0.out.lt; have := XN.out.lt; have := XD.out.lt; have := XO.out.lt; have := HB.out.size; omega)⟩)
      (fun l hl => by
          rcases l with _ | l
          · exact R0.out
          · exact absurd hl (by simp))
      (fun l b w1 w2 hl h hb => by
          rcases l with _ | l
          · (cases b <;> exact h.below hb)
          · exact absurd hl (by simp))
      (fun l b w1 w2 g hl h hg hn ho => by
          rcases l with _ | l
          · (cases b; (exact h.only ho (Ne.symm hg)); (exact h.only (Ne.symm hg) hn ho))
          · exact absurd hl (by simp))
      (fun l hl => by
          rcases l with _ | l
          · exact R0.out.lt
          · exact absurd hl (by simp))
      (fun l k hl hk hne => by rcases l with _ | l <;> rcases k with _ | k <;> simp at hl hk hne)
      ?_ ?_
    · refine ⟨?_, ?_, ?_, trivial⟩ <;> intro L V a1 w1 hf hG hsz hφ hψ hL hdep hcl
      · exact ob_pure (ex_zeroR rfl) rfl
      · have d0 := dep_of hdep 0 (by kernel_rfl)
        have e66 := (new_slot hf 0 66 d0 (by kernel_rfl)).trans (show V 0 = .agg #[.bool false, .slice none 0 0, .bool false, .slice none 0 0] from hφ 0 d0)
        have e2 := old_slot hf 2 (by kernel_rfl)
        have hb0 := hψ 0 (by decide)
        rw [show [1].getD 0 0 = 1 from rfl, hL] at hb0
        exact ob_fillOldR rfl e2 e66 hb0 (Pair.mk (a := .V 0) (b := .V 0) (IntV.zero _) (IntV.zero _)) (fun w2 h => h) rfl
      · exact ob_pure (v := .int .i64 1) (ex_assignV rfl rfl) rfl
    · intro V W8 hG hsz8 hφ hψ hne
      have hlt8 : W7.heap.size ≤ W8.heap.size := hsz8
      obtain ⟨N_, XN_, D_, XD_, E_, O_, XO_, HB_⟩ := hG
      have N := hid N_
      have XN := hid XN_
      have D := hid D_
      have XD := hid XD_
      have E := hid E_
      have O := hid O_
      have XO := hid XO_
      have HB := hid HB_
      have y0 : V 0 = .agg #[.bool false, .slice none 0 0, .bool false, .slice none 0 0] := hφ 0 (by decide)
      have y2 : V 2 = .int .i64 1 := hφ 2 (by decide)
      obtain ⟨q8501, A8501, n8501, c8501, q8502, A8502, n8502, c8502, kb850, va850, vb850⟩ := hψ 0 (by decide)
      have R0 := hid kb850
      have R01 : Hid (IntV W8 (.agg #[.bool q8501, .slice A8501 n8501 c8501]) 0) := hid va850
      have R02 : Hid (IntV W8 (.agg #[.bool q8502, .slice A8502 n8502 c8502]) 0) := hid vb850
      clear kb850 va850 vb850
      simp only [puts, Act.put, List.setIfInBounds_toArray, List.set_cons_zero, List.set_cons_succ, y0, y2]
      clear hφ hψ hne y0 y2 N_ XN_ D_ XD_ E_ O_ XO_ HB_ hsz8
      have k0 := R0.out.cell 0
      have k1 := R0.out.cell 1
      have k2 := R0.out.cell 2
      have k3 := R0.out.cell 3
      go_wp2
      refine bodyPost_ret (v := .tuple #[.agg #[.bool q8501, .slice A8501 n8501 c8501, .bool q8502, .slice A8502 n8502 c8502], .int .i64 1]) (by simp [results, Try.results32, go_sem, k0, k1, k2, k3]) rfl ⟨⟨_, rfl, ?_⟩, HB.out⟩
      exact Pair.mk (a := .V 0) (b := .V 0) R01.out R02.out
set_option maxHeartbeats 8000000 in
theorem pR_gcd (w : World) (s B A : ByteArray) (eB eA zB zA : Int) (hs : s.size ≤ 9223372036854775807) (hB : Hid (cutB s 47 = B)) (hA : Hid (cutA s 47 = A)) (hF : Hid (cutF s 47 = true)) (PB : Hid (PCon 63 B eB zB)) (PA : Hid (PCon 63 A eA zA)) (SB : Hid (Sm 2000 zB)) (SA : Hid (Sm 2000 zA)) (h2 : (eB == 2) = false) (h3 : (eA == 2) = false) (hng : Hid (ngB A = false)) (h4 : (eB != 0) = false) (h5 : (eA != 0) = false) (hcm : Hid (cm zA 1 = 1)) (hcg : Hid (cm ((Int.gcd zB zA : Nat) : Int) 1 = 1)) :
    Calls Try.prog 32 #[.string s] w fun e w' => RetPE w' 1 0 0 e ∧ Below w.heap.size w w' := by
  have HB := hid (Below.refl w.heap.size w)
  obtain ⟨W, hW⟩ : ∃ W, W = (w.alloc (.cells #[.bool false, .slice none 0 0, .bool false, .slice none 0 0] 26)) := ⟨_, rfl⟩
  have hbb : Below w.heap.size w W := by rw [hW]; exact (bw_alloc (Below.refl _ _) _)
  have HB := hid (bw_step HB.out hbb)
  have R0 : Hid (Blk W (w.heap.size) 26 #[.bool false, .slice none 0 0, .bool false, .slice none 0 0]) := by
    rw [hW]
    have := Blk.new w 26 #[.bool false, .slice none 0 0, .bool false, .slice none 0 0]
    exact hid (by simpa only [World.size_alloc] using this)
  clear hbb
  go_enter Try.func32, Try.ntmps32
  go_wp2_with fail
  rw [← hW]
  clear hW
  refine (cut_any s 47 _ hs).mono ?_
  rintro e W1 ⟨he, hb1⟩
  unfold CutOk at he
  rw [hB.out, hA.out, hF.out] at he
  subst he
  have HB := hid (bw_step HB.out hb1)
  have R0 := hid (R0.out.below hb1)
  clear hb1
  go_wp2_with fail
  refine (PB.out _).mono ?_
  rintro e W2 ⟨⟨v, rfl, hv⟩, hb2⟩
  have HB := hid (bw_step HB.out hb2)
  have R0 := hid (R0.out.below hb2)
  clear hb2
  have lq2_R0 := R0.out.lt
  have lq2 := HB.out.size
  obtain ⟨q21, A21, n21, c21, rfl⟩ := hv.form
  have N := hid hv
  clear hv
  have hbb := bw_alloc (Below.refl _ W2) (.cells #[.bool q21, .slice A21 n21 c21] 24)
  have XN := Blk.new W2 24 #[.bool q21, .slice A21 n21 c21]
  have HB := hid (bw_step HB.out hbb)
  have R0 := hid (R0.out.below hbb)
  have N := hid (N.out.below hbb)
  have XN := hid XN
  clear hbb
  go_wp2_with fail
  refine (small_any _ 1 (by decide) (by decide)).mono ?_
  rintro e W3 ⟨⟨v, rfl, hv⟩, hb3⟩
  have HB := hid (bw_step HB.out hb3)
  have R0 := hid (R0.out.below hb3)
  have N := hid (N.out.below hb3)
  have XN := hid (XN.out.below hb3)
  clear hb3
  have lq3_R0 := R0.out.lt
  have lq3_XN := XN.out.lt
  have lq3 := HB.out.size
  obtain ⟨q31, A31, n31, c31, rfl⟩ := hv.form
  have D := hid hv
  clear hv
  have hbb := bw_alloc (Below.refl _ W3) (.cells #[.bool q31, .slice A31 n31 c31] 24)
  have XD := Blk.new W3 24 #[.bool q31, .slice A31 n31 c31]
  have HB := hid (bw_step HB.out hbb)
  have R0 := hid (R0.out.below hbb)
  have N := hid (N.out.below hbb)
  have XN := hid (XN.out.below hbb)
  have D := hid (D.out.below hbb)
  have XD := hid XD
  clear hbb
  go_wp2_with fail
  refine (PA.out _).mono ?_
  rintro e W4 ⟨⟨v, rfl, hv⟩, hb4⟩
  have HB := hid (bw_step HB.out hb4)
  have R0 := hid (R0.out.below hb4)
  have N := hid (N.out.below hb4)
  have XN := hid (XN.out.below hb4)
  have D := hid (D.out.below hb4)
  have XD := hid (XD.out.below hb4)
  clear hb4
  obtain ⟨q41, A41, n41, c41, rfl⟩ := hv.form
  have E := hid hv
  clear hv
  have kk0 := XD.out.cell 0
  have kk1 := XD.out.cell 1
  have ff0 := XD.out.free 0
  have ff1 := XD.out.free 1
  have hnf := XD.out.numFree (noNum_int _ _ _ _)
  have hon := only_two W4 (W3.heap.size) (.bool q41) (.slice A41 n41 c41)
  have R0 := hid (R0.out.only hon (by have := R0.out.lt; have := XN.out.lt; have := XD.out.lt; omega))
  have N := hid (N.out.only hnf hon)
  have XN := hid (XN.out.only hon (by have := R0.out.lt; have := XN.out.lt; have := XD.out.lt; omega))
  have D := hid (D.out.only hnf hon)
  have XD := hid (blk_fill (q := q41) (A := A41) (n := n41) (c := c41) XD.out)
  have E := hid (E.out.only hnf hon)
  have HB := hid (below_only HB.out hon (by have := R0.out.lt; have := XN.out.lt; have := XD.out.lt; have := HB.out.size; omega))
  clear hnf hon
  go_wp2_with fail
  refine (prefix_b _ _).mono ?_
  rintro e W5 ⟨he, hb5⟩
  rw [hng.out] at he
  subst he
  have HB := hid (bw_step HB.out hb5)
  have R0 := hid (R0.out.below hb5)
  have N := hid (N.out.below hb5)
  have XN := hid (XN.out.below hb5)
  have D := hid (D.out.below hb5)
  have XD := hid (XD.out.below hb5)
  have E := hid (E.out.below hb5)
  clear hb5
  go_wp2_with fail
  refine (small_any _ 1 (by decide) (by decide)).mono ?_
  rintro e W6 ⟨⟨v, rfl, hv⟩, hb6⟩
  have HB := hid (bw_step HB.out hb6)
  have R0 := hid (R0.out.below hb6)
  have N := hid (N.out.below hb6)
  have XN := hid (XN.out.below hb6)
  have D := hid (D.out.below hb6)
  have XD := hid (XD.out.below hb6)
  have E := hid (E.out.below hb6)
  clear hb6
  have lq6_R0 := R0.out.lt
  have lq6_XN := XN.out.lt
  have lq6_XD := XD.out.lt
  have lq6 := HB.out.size
  obtain ⟨q61, A61, n61, c61, rfl⟩ := hv.form
  have O := hid hv
  clear hv
  have hbb := bw_alloc (Below.refl _ W6) (.cells #[.bool q61, .slice A61 n61 c61] 24)
  have XO := Blk.new W6 24 #[.bool q61, .slice A61 n61 c61]
  have HB := hid (bw_step HB.out hbb)
  have R0 := hid (R0.out.below hbb)
  have N := hid (N.out.below hbb)
  have XN := hid (XN.out.below hbb)
  have D := hid (D.out.below hbb)
  have XD := hid (XD.out.below hbb)
  have E := hid (E.out.below hbb)
  have O := hid (O.out.below hbb)
  have XO := hid XO
  clear hbb
  go_wp2_with fail
  have SM7 : Hid (Sm 2000 ((Int.gcd zB zA : Nat) : Int)) := hid ((SB.out).gcd (SA.out))
  refine wp_region_eachG (by kernel_rfl) 15 70 rfl rfl (by kernel_rfl)
    [Fact.eq (.bool true), Fact.eq (.bool true), Fact.eq (.agg #[.bool q41, .slice A41 n41 c41]), Fact.eq (.agg #[.bool q61, .slice A61 n61 c61]), Fact.eq (.int .i64 (cm zA 1)), Fact.eq (.bool false), Fact.eq (.bool false), Fact.eq (.agg #[.bool q21, .slice A21 n21 c21]), Fact.eq (.agg #[.bool q41, .slice A41 n41 c41]), Fact.int ((Int.gcd zB zA : Nat) : Int), Fact.eq (.agg #[.bool q61, .slice A61 n61 c61]), Fact.eq (.int .i64 (cm ((Int.gcd zB zA : Nat) : Int) 1)), Fact.eq (.bool true), Fact.eq (.bool true), Fact.eq (.bool true)]
    [.val, .val, .val, .val, .val, .val, .val, .val, .val, .val, .val, .val, .val, .val, .val]
    (fun w' => Blk w' (w.heap.size) 26 #[.bool false, .slice none 0 0, .bool false, .slice none 0 0] ∧ IntV w' (.agg #[.bool q21, .slice A21 n21 c21]) (zB) ∧ Blk w' (W2.heap.size) 24 #[.bool q21, .slice A21 n21 c21] ∧ IntV w' (.agg #[.bool q31, .slice A31 n31 c31]) (1) ∧ Blk w' (W3.heap.size) 24 #[.bool q41, .slice A41 n41 c41] ∧ IntV w' (.agg #[.bool q41, .slice A41 n41 c41]) (zA) ∧ IntV w' (.agg #[.bool q61, .slice A61 n61 c61]) (1) ∧ Blk w' (W6.heap.size) 24 #[.bool q61, .slice A61 n61 c61] ∧ Below w.heap.size w w')
    (fun _ _ _ => True) [] (fun _ => 0) (by kernel_rfl)
    ⟨R0.out, N.out, XN.out, D.out, XD.out, E.out, O.out, XO.out, HB.out⟩
    (fun w1 w2 ⟨h0, h1, h2, h3, h4, h5, h6, h7, h8⟩ hb => ⟨h0.below hb, h1.below hb, h2.below hb, h3.below hb, h4.below hb, h5.below hb, h6.below hb, h7.below hb, bw_step h8 hb⟩)
    (fun w1 w2 g ⟨h0, h1, h2, h3, h4, h5, h6, h7, h8⟩ hg hn ho => by
      have hg' : (W6.alloc (.cells #[.bool q61, .slice A61 n61 c61] 24)).heap.size ≤ g := hg.elim id (fun ⟨_, h, _⟩ => absurd h (Nat.not_lt_zero _))
      exact ⟨h0.only ho (by have := R0.out.lt; have := XN.out.lt; have := XD.out.lt; have := XO.out.lt; omega), h1.only hn ho, h2.only ho (by have := R0.out.lt; have := XN.out.lt; have := XD.out.lt; have := XO.out.lt; omega), h3.only hn ho, h4.only ho (by have := R0.out.lt; have := XN.out.lt; have := XD.out.lt; have := XO.out.lt; omega), h5.only hn ho, h6.only hn ho, h7.only ho (by have := R0.out.lt; have := XN.out.lt; have := XD.out.lt; have := XO.out.lt; omega), below_only h8 ho (by have := R0.out.lt; have := XN.out.lt; have := XD.out.lt; have := XO.out.lt; have := HB.out.size; omega)⟩)
    (fun l h => trivial) (fun l b w1 w2 h _ _ => trivial) (fun l b w1 w2 g h _ _ _ _ => trivial) (fun l h => by cases h) (fun l k h => by cases h) ?_ ?_
  · refine ⟨?_, ?_, ?_, ?_, ?_, ?_, ?_, ?_, ?_, ?_, ?_, ?_, ?_, ?_, ?_, trivial⟩ <;> intro L V a1 w1 hf hG hsz hφ hψ hL hdep hcl
    · refine og_none rfl ?_
      have e6 := old_slot hf 6 (by kernel_rfl)
      exact ob_pure (v := .bool true) (ex_moveV rfl e6) rfl
    · refine og_none rfl ?_
      have d0 := dep_of hdep 0 (by kernel_rfl)
      have e51 := (new_slot hf 0 51 d0 (by kernel_rfl)).trans (show V 0 = .bool true from hφ 0 d0)
      exact ob_pure (v := .bool true) (ex_moveV rfl e51) rfl
    · obtain ⟨_, _, _, _, XD_, _⟩ := hG
      have dg := dep_of hdep 1 (by kernel_rfl)
      refine og_want rfl (yielded_of hf (n := 70) (by kernel_rfl) rfl 1 52 dg (by kernel_rfl) (show V 1 = .bool true from hφ 1 dg)) ?_
      have e9 := old_slot hf 9 (by kernel_rfl)
      exact ob_load_int rfl e9 XD_ rfl
    · obtain ⟨_, _, _, _, _, _, _, XO_, _⟩ := hG
      have dg := dep_of hdep 1 (by kernel_rfl)
      refine og_want rfl (yielded_of hf (n := 70) (by kernel_rfl) rfl 1 52 dg (by kernel_rfl) (show V 1 = .bool true from hφ 1 dg)) ?_
      have e11 := old_slot hf 11 (by kernel_rfl)
      exact ob_load_int rfl e11 XO_ rfl
    · obtain ⟨_, _, _, _, _, E_, O_, _⟩ := hG
      have dg := dep_of hdep 1 (by kernel_rfl)
      refine og_want rfl (yielded_of hf (n := 70) (by kernel_rfl) rfl 1 52 dg (by kernel_rfl) (show V 1 = .bool true from hφ 1 dg)) ?_
      have d2 := dep_of hdep 2 (by kernel_rfl)
      have e53 := (new_slot hf 2 53 d2 (by kernel_rfl)).trans (show V 2 = .agg #[.bool q41, .slice A41 n41 c41] from hφ 2 d2)
      have d3 := dep_of hdep 3 (by kernel_rfl)
      have e54 := (new_slot hf 3 54 d3 (by kernel_rfl)).trans (show V 3 = .agg #[.bool q61, .slice A61 n61 c61] from hφ 3 d3)
      refine ob_go rfl (vs := #[.agg #[.bool q41, .slice A41 n41 c41], .agg #[.bool q61, .slice A61 n61 c61]]) (by simp only [List.map_toArray, List.map_cons, List.map_nil, e53, e54]) (by kernel_rfl) (cmp_any _ (.agg #[.bool q41, .slice A41 n41 c41]) (.agg #[.bool q61, .slice A61 n61 c61]) zA 1 2000 1 (E_.arg (SA.out)) (O_.arg ((Sm.one (n := 1) (by decide) (by decide)))) ) ?_
      rintro e w2 ⟨he, hb⟩
      exact ⟨_, he, hb, rfl⟩
    · have dg := dep_of hdep 1 (by kernel_rfl)
      refine og_want rfl (yielded_of hf (n := 70) (by kernel_rfl) rfl 1 52 dg (by kernel_rfl) (show V 1 = .bool true from hφ 1 dg)) ?_
      have d4 := dep_of hdep 4 (by kernel_rfl)
      have e55 := (new_slot hf 4 55 d4 (by kernel_rfl)).trans (show V 4 = .int .i64 (cm zA 1) from hφ 4 d4)
      exact ob_pure (ex_leq_int rfl e55 rfl) (show Value.bool (decide ((cm zA 1) ≤ 0)) = Value.bool false from by rw [hcm.out]; rfl)
    · have dg := dep_of hdep 1 (by kernel_rfl)
      refine og_want rfl (yielded_of hf (n := 70) (by kernel_rfl) rfl 1 52 dg (by kernel_rfl) (show V 1 = .bool true from hφ 1 dg)) ?_
      have d5 := dep_of hdep 5 (by kernel_rfl)
      have e56 := (new_slot hf 5 56 d5 (by kernel_rfl)).trans (show V 5 = .bool false from hφ 5 d5)
      exact ob_pure (v := .bool false) (ex_moveV rfl e56) rfl
    · obtain ⟨_, _, XN_, _⟩ := hG
      have dg := dep_of hdep 6 (by kernel_rfl)
      refine og_want rfl (yielded_of hf (n := 70) (by kernel_rfl) rfl 6 57 dg (by kernel_rfl) (show V 6 = .bool false from hφ 6 dg)) ?_
      have e7 := old_slot hf 7 (by kernel_rfl)
      exact ob_load_int rfl e7 XN_ rfl
    · obtain ⟨_, _, _, _, XD_, _⟩ := hG
      have dg := dep_of hdep 6 (by kernel_rfl)
      refine og_want rfl (yielded_of hf (n := 70) (by kernel_rfl) rfl 6 57 dg (by kernel_rfl) (show V 6 = .bool false from hφ 6 dg)) ?_
      have e9 := old_slot hf 9 (by kernel_rfl)
      exact ob_load_int rfl e9 XD_ rfl
    · obtain ⟨_, N_, _, _, _, E_, _⟩ := hG
      have dg := dep_of hdep 6 (by kernel_rfl)
      refine og_want rfl (yielded_of hf (n := 70) (by kernel_rfl) rfl 6 57 dg (by kernel_rfl) (show V 6 = .bool false from hφ 6 dg)) ?_
      have d7 := dep_of hdep 7 (by kernel_rfl)
      have e58 := (new_slot hf 7 58 d7 (by kernel_rfl)).trans (show V 7 = .agg #[.bool q21, .slice A21 n21 c21] from hφ 7 d7)
      have d8 := dep_of hdep 8 (by kernel_rfl)
      have e59 := (new_slot hf 8 59 d8 (by kernel_rfl)).trans (show V 8 = .agg #[.bool q41, .slice A41 n41 c41] from hφ 8 d8)
      refine ob_go rfl (vs := #[.agg #[.bool q21, .slice A21 n21 c21], .agg #[.bool q41, .slice A41 n41 c41]]) (by simp only [List.map_toArray, List.map_cons, List.map_nil, e58, e59]) (by kernel_rfl) (gcd_any _ (.agg #[.bool q21, .slice A21 n21 c21]) (.agg #[.bool q41, .slice A41 n41 c41]) zB zA 2000 (by omega) (N_.arg (SB.out)) (E_.arg (SA.out))) ?_
      rintro e w2 ⟨⟨v, rfl, hv⟩, hb⟩
      exact ⟨v, rfl, hb, hv⟩
    · obtain ⟨_, _, _, _, _, _, _, XO_, _⟩ := hG
      have dg := dep_of hdep 6 (by kernel_rfl)
      refine og_want rfl (yielded_of hf (n := 70) (by kernel_rfl) rfl 6 57 dg (by kernel_rfl) (show V 6 = .bool false from hφ 6 dg)) ?_
      have e11 := old_slot hf 11 (by kernel_rfl)
      exact ob_load_int rfl e11 XO_ rfl
    · obtain ⟨_, _, _, _, _, _, O_, _⟩ := hG
      have dg := dep_of hdep 6 (by kernel_rfl)
      refine og_want rfl (yielded_of hf (n := 70) (by kernel_rfl) rfl 6 57 dg (by kernel_rfl) (show V 6 = .bool false from hφ 6 dg)) ?_
      have d9 := dep_of hdep 9 (by kernel_rfl)
      have e60 := new_slot hf 9 60 d9 (by kernel_rfl)
      have p60 : IntV w1 (V 9) ((Int.gcd zB zA : Nat) : Int) := hφ 9 d9
      have d10 := dep_of hdep 10 (by kernel_rfl)
      have e61 := (new_slot hf 10 61 d10 (by kernel_rfl)).trans (show V 10 = .agg #[.bool q61, .slice A61 n61 c61] from hφ 10 d10)
      refine ob_go rfl (vs := #[V 9, .agg #[.bool q61, .slice A61 n61 c61]]) (by simp only [List.map_toArray, List.map_cons, List.map_nil, e60, e61]) (by kernel_rfl) (cmp_any _ (V 9) (.agg #[.bool q61, .slice A61 n61 c61]) ((Int.gcd zB zA : Nat) : Int) 1 2000 1 (p60.arg (SM7.out)) (O_.arg ((Sm.one (n := 1) (by decide) (by decide)))) ) ?_
      rintro e w2 ⟨he, hb⟩
      exact ⟨_, he, hb, rfl⟩
    · have dg := dep_of hdep 6 (by kernel_rfl)
      refine og_want rfl (yielded_of hf (n := 70) (by kernel_rfl) rfl 6 57 dg (by kernel_rfl) (show V 6 = .bool false from hφ 6 dg)) ?_
      have d11 := dep_of hdep 11 (by kernel_rfl)
      have e62 := (new_slot hf 11 62 d11 (by kernel_rfl)).trans (show V 11 = .int .i64 (cm ((Int.gcd zB zA : Nat) : Int) 1) from hφ 11 d11)
      exact ob_pure (ex_gtr_int rfl e62 rfl) (show Value.bool (decide (0 < (cm ((Int.gcd zB zA : Nat) : Int) 1))) = Value.bool true from by rw [hcg.out]; rfl)
    · have dg := dep_of hdep 1 (by kernel_rfl)
      refine og_want rfl (yielded_of hf (n := 70) (by kernel_rfl) rfl 1 52 dg (by kernel_rfl) (show V 1 = .bool true from hφ 1 dg)) ?_
      have d6 := dep_of hdep 6 (by kernel_rfl)
      have e57 := (new_slot hf 6 57 d6 (by kernel_rfl)).trans (show V 6 = .bool false from hφ 6 d6)
      have d12 := dep_of hdep 12 (by kernel_rfl)
      have e63 := (new_slot hf 12 63 d12 (by kernel_rfl)).trans (show V 12 = .bool true from hφ 12 d12)
      exact ob_pure (v := .bool true) (ex_pick_false rfl e57 e63) rfl
    · refine og_none rfl ?_
      have d1 := dep_of hdep 1 (by kernel_rfl)
      have e52 := (new_slot hf 1 52 d1 (by kernel_rfl)).trans (show V 1 = .bool true from hφ 1 d1)
      have d13 := dep_of hdep 13 (by kernel_rfl)
      have e64 := (new_slot hf 13 64 d13 (by kernel_rfl)).trans (show V 13 = .bool true from hφ 13 d13)
      exact ob_pure (v := .bool true) (ex_pick_true rfl e52 e64) rfl
  · intro V W8 hG hsz8 hφ hψ hne
    have hlt8 : (W6.alloc (.cells #[.bool q61, .slice A61 n61 c61] 24)).heap.size ≤ W8.heap.size := hsz8
    obtain ⟨R0_, N_, XN_, D_, XD_, E_, O_, XO_, HB_⟩ := hG
    have R0 := hid R0_
    have N := hid N_
    have XN := hid XN_
    have D := hid D_
    have XD := hid XD_
    have E := hid E_
    have O := hid O_
    have XO := hid XO_
    have HB := hid HB_
    have y0 : V 0 = .bool true := hφ 0 (by decide)
    have y1 : V 1 = .bool true := hφ 1 (by decide)
    have y2 : V 2 = .agg #[.bool q41, .slice A41 n41 c41] := hφ 2 (by decide)
    have y3 : V 3 = .agg #[.bool q61, .slice A61 n61 c61] := hφ 3 (by decide)
    have y4 : V 4 = .int .i64 (cm zA 1) := hφ 4 (by decide)
    have y5 : V 5 = .bool false := hφ 5 (by decide)
    have y6 : V 6 = .bool false := hφ 6 (by decide)
    have y7 : V 7 = .agg #[.bool q21, .slice A21 n21 c21] := hφ 7 (by decide)
    have y8 : V 8 = .agg #[.bool q41, .slice A41 n41 c41] := hφ 8 (by decide)
    have y10 : V 10 = .agg #[.bool q61, .slice A61 n61 c61] := hφ 10 (by decide)
    have y11 : V 11 = .int .i64 (cm ((Int.gcd zB zA : Nat) : Int) 1) := hφ 11 (by decide)
    have y12 : V 12 = .bool true := hφ 12 (by decide)
    have y13 : V 13 = .bool true := hφ 13 (by decide)
    have y14 : V 14 = .bool true := hφ 14 (by decide)
    simp only [puts, Act.put, List.setIfInBounds_toArray, List.set_cons_zero, List.set_cons_succ, y0, y1, y2, y3, y4, y5, y6, y7, y8, y10, y11, y12, y13, y14]
    clear hφ hψ hne y0 y1 y2 y3 y4 y5 y6 y7 y8 y10 y11 y12 y13 y14 R0_ N_ XN_ D_ XD_ E_ O_ XO_ HB_ hsz8
    go_wp2_with (with_reducible refine halt_at 66 rfl ?_)
    unfold Halted
    refine wp_list_each (by kernel_rfl) 3 70 rfl rfl (by kernel_rfl)
      [Fact.eq (.agg #[.bool false, .slice none 0 0, .bool false, .slice none 0 0]), Fact.top _, Fact.eq (.int .i64 1)]
      [.val, .fillOld 0, .val]
      (fun w' => IntV w' (.agg #[.bool q21, .slice A21 n21 c21]) (zB) ∧ Blk w' (W2.heap.size) 24 #[.bool q21, .slice A21 n21 c21] ∧ IntV w' (.agg #[.bool q31, .slice A31 n31 c31]) (1) ∧ Blk w' (W3.heap.size) 24 #[.bool q41, .slice A41 n41 c41] ∧ IntV w' (.agg #[.bool q41, .slice A41 n41 c41]) (zA) ∧ IntV w' (.agg #[.bool q61, .slice A61 n61 c61]) (1) ∧ Blk w' (W6.heap.size) 24 #[.bool q61, .slice A61 n61 c61] ∧ Below w.heap.size w w')
      (fun l b w' => match l with
        | 0 => if b = true then BoxR w' (w.heap.size) 26 (.V 0) (.V 0) else Blk w' (w.heap.size) 26 #[.bool false, .slice none 0 0, .bool false, .slice none 0 0]
        | _ => True)
      [1] (fun l => match l with | 0 => w.heap.size | _ => 0) (by kernel_rfl)
      ⟨N.out, XN.out, D.out, XD.out, E.out, O.out, XO.out, HB.out⟩
      (fun w1 w2 ⟨h0, h1, h2, h3, h4, h5, h6, h7⟩ hb => ⟨h0.below hb, h1.below hb, h2.below hb, h3.below hb, h4.below hb, h5.below hb, h6.below hb, bw_step h7 hb⟩)
      (fun w1 w2 g ⟨h0, h1, h2, h3, h4, h5, h6, h7⟩ hg hn ho => by
        have hg' : W8.heap.size ≤ g ∨ g = w.heap.size := by
          rcases hg with h | ⟨l, hl, h⟩
          · exact .inl h
          · rcases l with _ | l
            · exact .inr h
            · exact absurd hl (by simp)
        exact ⟨h0.only hn ho, h1.only ho (by have := R0.out.lt; have := XN.out.lt; have := XD.out.lt; have := XO.out.lt; omega), h2.only hn ho, h3.only ho (by have := R0.out.lt; have := XN.out.lt; have := XD.out.lt; have := XO.out.lt; omega), h4.only hn ho, h5.only hn ho, h6.only ho (by have := R0.out.lt; have := XN.out.lt; have := XD.out.lt; have := XO.out.lt; omega), below_only h7 ho (by have := R0.out.lt; have := XN.out.lt; have := XD.out.lt; have := XO.out.lt; have := HB.out.size; omega)⟩)
      (fun l hl => by
          rcases l with _ | l
          · exact R0.out
          · exact absurd hl (by simp))
      (fun l b w1 w2 hl h hb => by
          rcases l with _ | l
          · (cases b <;> exact h.below hb)
          · exact absurd hl (by simp))
      (fun l b w1 w2 g hl h hg hn ho => by
          rcases l with _ | l
          · (cases b; (exact h.only ho (Ne.symm hg)); (exact h.only (Ne.symm hg) hn ho))
          · exact absurd hl (by simp))
      (fun l hl => by
          rcases l with _ | l
          · exact R0.out.lt
          · exact absurd hl (by simp))
      (fun l k hl hk hne => by rcases l with _ | l <;> rcases k with _ | k <;> simp at hl hk hne)
      ?_ ?_
    · refine ⟨?_, ?_, ?_, trivial⟩ <;> intro L V a1 w1 hf hG hsz hφ hψ hL hdep hcl
      · exact ob_pure (ex_zeroR rfl) rfl
      · have d0 := dep_of hdep 0 (by kernel_rfl)
        have e66 := (new_slot hf 0 66 d0 (by kernel_rfl)).trans (show V 0 = .agg #[.bool false, .slice none 0 0, .bool false, .slice none 0 0] from hφ 0 d0)
        have e2 := old_slot hf 2 (by kernel_rfl)
        have hb0 := hψ 0 (by decide)
        rw [show [1].getD 0 0 = 1 from rfl, hL] at hb0
        exact ob_fillOldR rfl e2 e66 hb0 (Pair.mk (a := .V 0) (b := .V 0) (IntV.zero _) (IntV.zero _)) (fun w2 h => h) rfl
      · exact ob_pure (v := .int .i64 1) (ex_assignV rfl rfl) rfl
    · intro V W9 hG hsz9 hφ hψ hne
      have hlt9 : W8.heap.size ≤ W9.heap.size := hsz9
      obtain ⟨N_, XN_, D_, XD_, E_, O_, XO_, HB_⟩ := hG
      have N := hid N_
      have XN := hid XN_
      have D := hid D_
      have XD := hid XD_
      have E := hid E_
      have O := hid O_
      have XO := hid XO_
      have HB := hid HB_
      have y0 : V 0 = .agg #[.bool false, .slice none 0 0, .bool false, .slice none 0 0] := hφ 0 (by decide)
      have y2 : V 2 = .int .i64 1 := hφ 2 (by decide)
      obtain ⟨q9501, A9501, n9501, c9501, q9502, A9502, n9502, c9502, kb950, va950, vb950⟩ := hψ 0 (by decide)
      have R0 := hid kb950
      have R01 : Hid (IntV W9 (.agg #[.bool q9501, .slice A9501 n9501 c9501]) 0) := hid va950
      have R02 : Hid (IntV W9 (.agg #[.bool q9502, .slice A9502 n9502 c9502]) 0) := hid vb950
      clear kb950 va950 vb950
      simp only [puts, Act.put, List.setIfInBounds_toArray, List.set_cons_zero, List.set_cons_succ, y0, y2]
      clear hφ hψ hne y0 y2 N_ XN_ D_ XD_ E_ O_ XO_ HB_ hsz9
      have k0 := R0.out.cell 0
      have k1 := R0.out.cell 1
      have k2 := R0.out.cell 2
      have k3 := R0.out.cell 3
      go_wp2
      refine bodyPost_ret (v := .tuple #[.agg #[.bool q9501, .slice A9501 n9501 c9501, .bool q9502, .slice A9502 n9502 c9502], .int .i64 1]) (by simp [results, Try.results32, go_sem, k0, k1, k2, k3]) rfl ⟨⟨_, rfl, ?_⟩, HB.out⟩
      exact Pair.mk (a := .V 0) (b := .V 0) R01.out R02.out
set_option maxHeartbeats 8000000 in
theorem pR_ok (w : World) (s B A : ByteArray) (eB eA zB zA : Int) (hs : s.size ≤ 9223372036854775807) (hB : Hid (cutB s 47 = B)) (hA : Hid (cutA s 47 = A)) (hF : Hid (cutF s 47 = true)) (PB : Hid (PCon 63 B eB zB)) (PA : Hid (PCon 63 A eA zA)) (SB : Hid (Sm 2000 zB)) (SA : Hid (Sm 2000 zA)) (h2 : (eB == 2) = false) (h3 : (eA == 2) = false) (hng : Hid (ngB A = false)) (h4 : (eB != 0) = false) (h5 : (eA != 0) = false) (hcm : Hid (cm zA 1 = 1)) (hcg : Hid (cm ((Int.gcd zB zA : Nat) : Int) 1 = 0)) :
    Calls Try.prog 32 #[.string s] w fun e w' => RetPE w' 0 zB zA e ∧ Below w.heap.size w w' := by
  have HB := hid (Below.refl w.heap.size w)
  obtain ⟨W, hW⟩ : ∃ W, W = (w.alloc (.cells #[.bool false, .slice none 0 0, .bool false, .slice none 0 0] 26)) := ⟨_, rfl⟩
  have hbb : Below w.heap.size w W := by rw [hW]; exact (bw_alloc (Below.refl _ _) _)
  have HB := hid (bw_step HB.out hbb)
  have R0 : Hid (Blk W (w.heap.size) 26 #[.bool false, .slice none 0 0, .bool false, .slice none 0 0]) := by
    rw [hW]
    have := Blk.new w 26 #[.bool false, .slice none 0 0, .bool false, .slice none 0 0]
    exact hid (by simpa only [World.size_alloc] using this)
  clear hbb
  go_enter Try.func32, Try.ntmps32
  go_wp2_with fail
  rw [← hW]
  clear hW
  refine (cut_any s 47 _ hs).mono ?_
  rintro e W1 ⟨he, hb1⟩
  unfold CutOk at he
  rw [hB.out, hA.out, hF.out] at he
  subst he
  have HB := hid (bw_step HB.out hb1)
  have R0 := hid (R0.out.below hb1)
  clear hb1
  go_wp2_with fail
  refine (PB.out _).mono ?_
  rintro e W2 ⟨⟨v, rfl, hv⟩, hb2⟩
  have HB := hid (bw_step HB.out hb2)
  have R0 := hid (R0.out.below hb2)
  clear hb2
  have lq2_R0 := R0.out.lt
  have lq2 := HB.out.size
  obtain ⟨q21, A21, n21, c21, rfl⟩ := hv.form
  have N := hid hv
  clear hv
  have hbb := bw_alloc (Below.refl _ W2) (.cells #[.bool q21, .slice A21 n21 c21] 24)
  have XN := Blk.new W2 24 #[.bool q21, .slice A21 n21 c21]
  have HB := hid (bw_step HB.out hbb)
  have R0 := hid (R0.out.below hbb)
  have N := hid (N.out.below hbb)
  have XN := hid XN
  clear hbb
  go_wp2_with fail
  refine (small_any _ 1 (by decide) (by decide)).mono ?_
  rintro e W3 ⟨⟨v, rfl, hv⟩, hb3⟩
  have HB := hid (bw_step HB.out hb3)
  have R0 := hid (R0.out.below hb3)
  have N := hid (N.out.below hb3)
  have XN := hid (XN.out.below hb3)
  clear hb3
  have lq3_R0 := R0.out.lt
  have lq3_XN := XN.out.lt
  have lq3 := HB.out.size
  obtain ⟨q31, A31, n31, c31, rfl⟩ := hv.form
  have D := hid hv
  clear hv
  have hbb := bw_alloc (Below.refl _ W3) (.cells #[.bool q31, .slice A31 n31 c31] 24)
  have XD := Blk.new W3 24 #[.bool q31, .slice A31 n31 c31]
  have HB := hid (bw_step HB.out hbb)
  have R0 := hid (R0.out.below hbb)
  have N := hid (N.out.below hbb)
  have XN := hid (XN.out.below hbb)
  have D := hid (D.out.below hbb)
  have XD := hid XD
  clear hbb
  go_wp2_with fail
  refine (PA.out _).mono ?_
  rintro e W4 ⟨⟨v, rfl, hv⟩, hb4⟩
  have HB := hid (bw_step HB.out hb4)
  have R0 := hid (R0.out.below hb4)
  have N := hid (N.out.below hb4)
  have XN := hid (XN.out.below hb4)
  have D := hid (D.out.below hb4)
  have XD := hid (XD.out.below hb4)
  clear hb4
  obtain ⟨q41, A41, n41, c41, rfl⟩ := hv.form
  have E := hid hv
  clear hv
  have kk0 := XD.out.cell 0
  have kk1 := XD.out.cell 1
  have ff0 := XD.out.free 0
  have ff1 := XD.out.free 1
  have hnf := XD.out.numFree (noNum_int _ _ _ _)
  have hon := only_two W4 (W3.heap.size) (.bool q41) (.slice A41 n41 c41)
  have R0 := hid (R0.out.only hon (by have := R0.out.lt; have := XN.out.lt; have := XD.out.lt; omega))
  have N := hid (N.out.only hnf hon)
  have XN := hid (XN.out.only hon (by have := R0.out.lt; have := XN.out.lt; have := XD.out.lt; omega))
  have D := hid (D.out.only hnf hon)
  have XD := hid (blk_fill (q := q41) (A := A41) (n := n41) (c := c41) XD.out)
  have E := hid (E.out.only hnf hon)
  have HB := hid (below_only HB.out hon (by have := R0.out.lt; have := XN.out.lt; have := XD.out.lt; have := HB.out.size; omega))
  clear hnf hon
  go_wp2_with fail
  refine (prefix_b _ _).mono ?_
  rintro e W5 ⟨he, hb5⟩
  rw [hng.out] at he
  subst he
  have HB := hid (bw_step HB.out hb5)
  have R0 := hid (R0.out.below hb5)
  have N := hid (N.out.below hb5)
  have XN := hid (XN.out.below hb5)
  have D := hid (D.out.below hb5)
  have XD := hid (XD.out.below hb5)
  have E := hid (E.out.below hb5)
  clear hb5
  go_wp2_with fail
  refine (small_any _ 1 (by decide) (by decide)).mono ?_
  rintro e W6 ⟨⟨v, rfl, hv⟩, hb6⟩
  have HB := hid (bw_step HB.out hb6)
  have R0 := hid (R0.out.below hb6)
  have N := hid (N.out.below hb6)
  have XN := hid (XN.out.below hb6)
  have D := hid (D.out.below hb6)
  have XD := hid (XD.out.below hb6)
  have E := hid (E.out.below hb6)
  clear hb6
  have lq6_R0 := R0.out.lt
  have lq6_XN := XN.out.lt
  have lq6_XD := XD.out.lt
  have lq6 := HB.out.size
  obtain ⟨q61, A61, n61, c61, rfl⟩ := hv.form
  have O := hid hv
  clear hv
  have hbb := bw_alloc (Below.refl _ W6) (.cells #[.bool q61, .slice A61 n61 c61] 24)
  have XO := Blk.new W6 24 #[.bool q61, .slice A61 n61 c61]
  have HB := hid (bw_step HB.out hbb)
  have R0 := hid (R0.out.below hbb)
  have N := hid (N.out.below hbb)
  have XN := hid (XN.out.below hbb)
  have D := hid (D.out.below hbb)
  have XD := hid (XD.out.below hbb)
  have E := hid (E.out.below hbb)
  have O := hid (O.out.below hbb)
  have XO := hid XO
  clear hbb
  go_wp2_with fail
  have SM7 : Hid (Sm 2000 ((Int.gcd zB zA : Nat) : Int)) := hid ((SB.out).gcd (SA.out))
  refine wp_region_eachG (by kernel_rfl) 15 70 rfl rfl (by kernel_rfl)
    [Fact.eq (.bool true), Fact.eq (.bool true), Fact.eq (.agg #[.bool q41, .slice A41 n41 c41]), Fact.eq (.agg #[.bool q61, .slice A61 n61 c61]), Fact.eq (.int .i64 (cm zA 1)), Fact.eq (.bool false), Fact.eq (.bool false), Fact.eq (.agg #[.bool q21, .slice A21 n21 c21]), Fact.eq (.agg #[.bool q41, .slice A41 n41 c41]), Fact.int ((Int.gcd zB zA : Nat) : Int), Fact.eq (.agg #[.bool q61, .slice A61 n61 c61]), Fact.eq (.int .i64 (cm ((Int.gcd zB zA : Nat) : Int) 1)), Fact.eq (.bool false), Fact.eq (.bool false), Fact.eq (.bool false)]
    [.val, .val, .val, .val, .val, .val, .val, .val, .val, .val, .val, .val, .val, .val, .val]
    (fun w' => Blk w' (w.heap.size) 26 #[.bool false, .slice none 0 0, .bool false, .slice none 0 0] ∧ IntV w' (.agg #[.bool q21, .slice A21 n21 c21]) (zB) ∧ Blk w' (W2.heap.size) 24 #[.bool q21, .slice A21 n21 c21] ∧ IntV w' (.agg #[.bool q31, .slice A31 n31 c31]) (1) ∧ Blk w' (W3.heap.size) 24 #[.bool q41, .slice A41 n41 c41] ∧ IntV w' (.agg #[.bool q41, .slice A41 n41 c41]) (zA) ∧ IntV w' (.agg #[.bool q61, .slice A61 n61 c61]) (1) ∧ Blk w' (W6.heap.size) 24 #[.bool q61, .slice A61 n61 c61] ∧ Below w.heap.size w w')
    (fun _ _ _ => True) [] (fun _ => 0) (by kernel_rfl)
    ⟨R0.out, N.out, XN.out, D.out, XD.out, E.out, O.out, XO.out, HB.out⟩
    (fun w1 w2 ⟨h0, h1, h2, h3, h4, h5, h6, h7, h8⟩ hb => ⟨h0.below hb, h1.below hb, h2.below hb, h3.below hb, h4.below hb, h5.below hb, h6.below hb, h7.below hb, bw_step h8 hb⟩)
    (fun w1 w2 g ⟨h0, h1, h2, h3, h4, h5, h6, h7, h8⟩ hg hn ho => by
      have hg' : (W6.alloc (.cells #[.bool q61, .slice A61 n61 c61] 24)).heap.size ≤ g := hg.elim id (fun ⟨_, h, _⟩ => absurd h (Nat.not_lt_zero _))
      exact ⟨h0.only ho (by have := R0.out.lt; have := XN.out.lt; have := XD.out.lt; have := XO.out.lt; omega), h1.only hn ho, h2.only ho (by have := R0.out.lt; have := XN.out.lt; have := XD.out.lt; have := XO.out.lt; omega), h3.only hn ho, h4.only ho (by have := R0.out.lt; have := XN.out.lt; have := XD.out.lt; have := XO.out.lt; omega), h5.only hn ho, h6.only hn ho, h7.only ho (by have := R0.out.lt; have := XN.out.lt; have := XD.out.lt; have := XO.out.lt; omega), below_only h8 ho (by have := R0.out.lt; have := XN.out.lt; have := XD.out.lt; have := XO.out.lt; have := HB.out.size; omega)⟩)
    (fun l h => trivial) (fun l b w1 w2 h _ _ => trivial) (fun l b w1 w2 g h _ _ _ _ => trivial) (fun l h => by cases h) (fun l k h => by cases h) ?_ ?_
  · refine ⟨?_, ?_, ?_, ?_, ?_, ?_, ?_, ?_, ?_, ?_, ?_, ?_, ?_, ?_, ?_, trivial⟩ <;> intro L V a1 w1 hf hG hsz hφ hψ hL hdep hcl
    · refine og_none rfl ?_
      have e6 := old_slot hf 6 (by kernel_rfl)
      exact ob_pure (v := .bool true) (ex_moveV rfl e6) rfl
    · refine og_none rfl ?_
      have d0 := dep_of hdep 0 (by kernel_rfl)
      have e51 := (new_slot hf 0 51 d0 (by kernel_rfl)).trans (show V 0 = .bool true from hφ 0 d0)
      exact ob_pure (v := .bool true) (ex_moveV rfl e51) rfl
    · obtain ⟨_, _, _, _, XD_, _⟩ := hG
      have dg := dep_of hdep 1 (by kernel_rfl)
      refine og_want rfl (yielded_of hf (n := 70) (by kernel_rfl) rfl 1 52 dg (by kernel_rfl) (show V 1 = .bool true from hφ 1 dg)) ?_
      have e9 := old_slot hf 9 (by kernel_rfl)
      exact ob_load_int rfl e9 XD_ rfl
    · obtain ⟨_, _, _, _, _, _, _, XO_, _⟩ := hG
      have dg := dep_of hdep 1 (by kernel_rfl)
      refine og_want rfl (yielded_of hf (n := 70) (by kernel_rfl) rfl 1 52 dg (by kernel_rfl) (show V 1 = .bool true from hφ 1 dg)) ?_
      have e11 := old_slot hf 11 (by kernel_rfl)
      exact ob_load_int rfl e11 XO_ rfl
    · obtain ⟨_, _, _, _, _, E_, O_, _⟩ := hG
      have dg := dep_of hdep 1 (by kernel_rfl)
      refine og_want rfl (yielded_of hf (n := 70) (by kernel_rfl) rfl 1 52 dg (by kernel_rfl) (show V 1 = .bool true from hφ 1 dg)) ?_
      have d2 := dep_of hdep 2 (by kernel_rfl)
      have e53 := (new_slot hf 2 53 d2 (by kernel_rfl)).trans (show V 2 = .agg #[.bool q41, .slice A41 n41 c41] from hφ 2 d2)
      have d3 := dep_of hdep 3 (by kernel_rfl)
      have e54 := (new_slot hf 3 54 d3 (by kernel_rfl)).trans (show V 3 = .agg #[.bool q61, .slice A61 n61 c61] from hφ 3 d3)
      refine ob_go rfl (vs := #[.agg #[.bool q41, .slice A41 n41 c41], .agg #[.bool q61, .slice A61 n61 c61]]) (by simp only [List.map_toArray, List.map_cons, List.map_nil, e53, e54]) (by kernel_rfl) (cmp_any _ (.agg #[.bool q41, .slice A41 n41 c41]) (.agg #[.bool q61, .slice A61 n61 c61]) zA 1 2000 1 (E_.arg (SA.out)) (O_.arg ((Sm.one (n := 1) (by decide) (by decide)))) ) ?_
      rintro e w2 ⟨he, hb⟩
      exact ⟨_, he, hb, rfl⟩
    · have dg := dep_of hdep 1 (by kernel_rfl)
      refine og_want rfl (yielded_of hf (n := 70) (by kernel_rfl) rfl 1 52 dg (by kernel_rfl) (show V 1 = .bool true from hφ 1 dg)) ?_
      have d4 := dep_of hdep 4 (by kernel_rfl)
      have e55 := (new_slot hf 4 55 d4 (by kernel_rfl)).trans (show V 4 = .int .i64 (cm zA 1) from hφ 4 d4)
      exact ob_pure (ex_leq_int rfl e55 rfl) (show Value.bool (decide ((cm zA 1) ≤ 0)) = Value.bool false from by rw [hcm.out]; rfl)
    · have dg := dep_of hdep 1 (by kernel_rfl)
      refine og_want rfl (yielded_of hf (n := 70) (by kernel_rfl) rfl 1 52 dg (by kernel_rfl) (show V 1 = .bool true from hφ 1 dg)) ?_
      have d5 := dep_of hdep 5 (by kernel_rfl)
      have e56 := (new_slot hf 5 56 d5 (by kernel_rfl)).trans (show V 5 = .bool false from hφ 5 d5)
      exact ob_pure (v := .bool false) (ex_moveV rfl e56) rfl
    · obtain ⟨_, _, XN_, _⟩ := hG
      have dg := dep_of hdep 6 (by kernel_rfl)
      refine og_want rfl (yielded_of hf (n := 70) (by kernel_rfl) rfl 6 57 dg (by kernel_rfl) (show V 6 = .bool false from hφ 6 dg)) ?_
      have e7 := old_slot hf 7 (by kernel_rfl)
      exact ob_load_int rfl e7 XN_ rfl
    · obtain ⟨_, _, _, _, XD_, _⟩ := hG
      have dg := dep_of hdep 6 (by kernel_rfl)
      refine og_want rfl (yielded_of hf (n := 70) (by kernel_rfl) rfl 6 57 dg (by kernel_rfl) (show V 6 = .bool false from hφ 6 dg)) ?_
      have e9 := old_slot hf 9 (by kernel_rfl)
      exact ob_load_int rfl e9 XD_ rfl
    · obtain ⟨_, N_, _, _, _, E_, _⟩ := hG
      have dg := dep_of hdep 6 (by kernel_rfl)
      refine og_want rfl (yielded_of hf (n := 70) (by kernel_rfl) rfl 6 57 dg (by kernel_rfl) (show V 6 = .bool false from hφ 6 dg)) ?_
      have d7 := dep_of hdep 7 (by kernel_rfl)
      have e58 := (new_slot hf 7 58 d7 (by kernel_rfl)).trans (show V 7 = .agg #[.bool q21, .slice A21 n21 c21] from hφ 7 d7)
      have d8 := dep_of hdep 8 (by kernel_rfl)
      have e59 := (new_slot hf 8 59 d8 (by kernel_rfl)).trans (show V 8 = .agg #[.bool q41, .slice A41 n41 c41] from hφ 8 d8)
      refine ob_go rfl (vs := #[.agg #[.bool q21, .slice A21 n21 c21], .agg #[.bool q41, .slice A41 n41 c41]]) (by simp only [List.map_toArray, List.map_cons, List.map_nil, e58, e59]) (by kernel_rfl) (gcd_any _ (.agg #[.bool q21, .slice A21 n21 c21]) (.agg #[.bool q41, .slice A41 n41 c41]) zB zA 2000 (by omega) (N_.arg (SB.out)) (E_.arg (SA.out))) ?_
      rintro e w2 ⟨⟨v, rfl, hv⟩, hb⟩
      exact ⟨v, rfl, hb, hv⟩
    · obtain ⟨_, _, _, _, _, _, _, XO_, _⟩ := hG
      have dg := dep_of hdep 6 (by kernel_rfl)
      refine og_want rfl (yielded_of hf (n := 70) (by kernel_rfl) rfl 6 57 dg (by kernel_rfl) (show V 6 = .bool false from hφ 6 dg)) ?_
      have e11 := old_slot hf 11 (by kernel_rfl)
      exact ob_load_int rfl e11 XO_ rfl
    · obtain ⟨_, _, _, _, _, _, O_, _⟩ := hG
      have dg := dep_of hdep 6 (by kernel_rfl)
      refine og_want rfl (yielded_of hf (n := 70) (by kernel_rfl) rfl 6 57 dg (by kernel_rfl) (show V 6 = .bool false from hφ 6 dg)) ?_
      have d9 := dep_of hdep 9 (by kernel_rfl)
      have e60 := new_slot hf 9 60 d9 (by kernel_rfl)
      have p60 : IntV w1 (V 9) ((Int.gcd zB zA : Nat) : Int) := hφ 9 d9
      have d10 := dep_of hdep 10 (by kernel_rfl)
      have e61 := (new_slot hf 10 61 d10 (by kernel_rfl)).trans (show V 10 = .agg #[.bool q61, .slice A61 n61 c61] from hφ 10 d10)
      refine ob_go rfl (vs := #[V 9, .agg #[.bool q61, .slice A61 n61 c61]]) (by simp only [List.map_toArray, List.map_cons, List.map_nil, e60, e61]) (by kernel_rfl) (cmp_any _ (V 9) (.agg #[.bool q61, .slice A61 n61 c61]) ((Int.gcd zB zA : Nat) : Int) 1 2000 1 (p60.arg (SM7.out)) (O_.arg ((Sm.one (n := 1) (by decide) (by decide)))) ) ?_
      rintro e w2 ⟨he, hb⟩
      exact ⟨_, he, hb, rfl⟩
    · have dg := dep_of hdep 6 (by kernel_rfl)
      refine og_want rfl (yielded_of hf (n := 70) (by kernel_rfl) rfl 6 57 dg (by kernel_rfl) (show V 6 = .bool false from hφ 6 dg)) ?_
      have d11 := dep_of hdep 11 (by kernel_rfl)
      have e62 := (new_slot hf 11 62 d11 (by kernel_rfl)).trans (show V 11 = .int .i64 (cm ((Int.gcd zB zA : Nat) : Int) 1) from hφ 11 d11)
      exact ob_pure (ex_gtr_int rfl e62 rfl) (show Value.bool (decide (0 < (cm ((Int.gcd zB zA : Nat) : Int) 1))) = Value.bool false from by rw [hcg.out]; rfl)
    · have dg := dep_of hdep 1 (by kernel_rfl)
      refine og_want rfl (yielded_of hf (n := 70) (by kernel_rfl) rfl 1 52 dg (by kernel_rfl) (show V 1 = .bool true from hφ 1 dg)) ?_
      have d6 := dep_of hdep 6 (by kernel_rfl)
      have e57 := (new_slot hf 6 57 d6 (by kernel_rfl)).trans (show V 6 = .bool false from hφ 6 d6)
      have d12 := dep_of hdep 12 (by kernel_rfl)
      have e63 := (new_slot hf 12 63 d12 (by kernel_rfl)).trans (show V 12 = .bool false from hφ 12 d12)
      exact ob_pure (v := .bool false) (ex_pick_false rfl e57 e63) rfl
    · refine og_none rfl ?_
      have d1 := dep_of hdep 1 (by kernel_rfl)
      have e52 := (new_slot hf 1 52 d1 (by kernel_rfl)).trans (show V 1 = .bool true from hφ 1 d1)
      have d13 := dep_of hdep 13 (by kernel_rfl)
      have e64 := (new_slot hf 13 64 d13 (by kernel_rfl)).trans (show V 13 = .bool false from hφ 13 d13)
      exact ob_pure (v := .bool false) (ex_pick_true rfl e52 e64) rfl
  · intro V W8 hG hsz8 hφ hψ hne
    have hlt8 : (W6.alloc (.cells #[.bool q61, .slice A61 n61 c61] 24)).heap.size ≤ W8.heap.size := hsz8
    obtain ⟨R0_, N_, XN_, D_, XD_, E_, O_, XO_, HB_⟩ := hG
    have R0 := hid R0_
    have N := hid N_
    have XN := hid XN_
    have D := hid D_
    have XD := hid XD_
    have E := hid E_
    have O := hid O_
    have XO := hid XO_
    have HB := hid HB_
    have y0 : V 0 = .bool true := hφ 0 (by decide)
    have y1 : V 1 = .bool true := hφ 1 (by decide)
    have y2 : V 2 = .agg #[.bool q41, .slice A41 n41 c41] := hφ 2 (by decide)
    have y3 : V 3 = .agg #[.bool q61, .slice A61 n61 c61] := hφ 3 (by decide)
    have y4 : V 4 = .int .i64 (cm zA 1) := hφ 4 (by decide)
    have y5 : V 5 = .bool false := hφ 5 (by decide)
    have y6 : V 6 = .bool false := hφ 6 (by decide)
    have y7 : V 7 = .agg #[.bool q21, .slice A21 n21 c21] := hφ 7 (by decide)
    have y8 : V 8 = .agg #[.bool q41, .slice A41 n41 c41] := hφ 8 (by decide)
    have y10 : V 10 = .agg #[.bool q61, .slice A61 n61 c61] := hφ 10 (by decide)
    have y11 : V 11 = .int .i64 (cm ((Int.gcd zB zA : Nat) : Int) 1) := hφ 11 (by decide)
    have y12 : V 12 = .bool false := hφ 12 (by decide)
    have y13 : V 13 = .bool false := hφ 13 (by decide)
    have y14 : V 14 = .bool false := hφ 14 (by decide)
    simp only [puts, Act.put, List.setIfInBounds_toArray, List.set_cons_zero, List.set_cons_succ, y0, y1, y2, y3, y4, y5, y6, y7, y8, y10, y11, y12, y13, y14]
    clear hφ hψ hne y0 y1 y2 y3 y4 y5 y6 y7 y8 y10 y11 y12 y13 y14 R0_ N_ XN_ D_ XD_ E_ O_ XO_ HB_ hsz8
    go_wp2_with (with_reducible refine halt_at 67 rfl ?_)
    unfold Halted
    refine wp_list_each (by kernel_rfl) 5 70 rfl rfl (by kernel_rfl)
      [Fact.eq (.agg #[.bool q21, .slice A21 n21 c21]), Fact.eq (.agg #[.bool q41, .slice A41 n41 c41]), Fact.pair (.V zB) (.V zA), Fact.top _, Fact.eq (.int .i64 0)]
      [.val, .val, .val, .fillOld 0, .val]
      (fun w' => IntV w' (.agg #[.bool q21, .slice A21 n21 c21]) (zB) ∧ Blk w' (W2.heap.size) 24 #[.bool q21, .slice A21 n21 c21] ∧ IntV w' (.agg #[.bool q31, .slice A31 n31 c31]) (1) ∧ Blk w' (W3.heap.size) 24 #[.bool q41, .slice A41 n41 c41] ∧ IntV w' (.agg #[.bool q41, .slice A41 n41 c41]) (zA) ∧ IntV w' (.agg #[.bool q61, .slice A61 n61 c61]) (1) ∧ Blk w' (W6.heap.size) 24 #[.bool q61, .slice A61 n61 c61] ∧ Below w.heap.size w w')
      (fun l b w' => match l with
        | 0 => if b = true then BoxR w' (w.heap.size) 26 (.V zB) (.V zA) else Blk w' (w.heap.size) 26 #[.bool false, .slice none 0 0, .bool false, .slice none 0 0]
        | _ => True)
      [3] (fun l => match l with | 0 => w.heap.size | _ => 0) (by kernel_rfl)
      ⟨N.out, XN.out, D.out, XD.out, E.out, O.out, XO.out, HB.out⟩
      (fun w1 w2 ⟨h0, h1, h2, h3, h4, h5, h6, h7⟩ hb => ⟨h0.below hb, h1.below hb, h2.below hb, h3.below hb, h4.below hb, h5.below hb, h6.below hb, bw_step h7 hb⟩)
      (fun w1 w2 g ⟨h0, h1, h2, h3, h4, h5, h6, h7⟩ hg hn ho => by
        have hg' : W8.heap.size ≤ g ∨ g = w.heap.size := by
          rcases hg with h | ⟨l, hl, h⟩
          · exact .inl h
          · rcases l with _ | l
            · exact .inr h
            · exact absurd hl (by simp)
        exact ⟨h0.only hn ho, h1.only ho (by have := R0.out.lt; have := XN.out.lt; have := XD.out.lt; have := XO.out.lt; omega), h2.only hn ho, h3.only ho (by have := R0.out.lt; have := XN.out.lt; have := XD.out.lt; have := XO.out.lt; omega), h4.only hn ho, h5.only hn ho, h6.only ho (by have := R0.out.lt; have := XN.out.lt; have := XD.out.lt; have := XO.out.lt; omega), below_only h7 ho (by have := R0.out.lt; have := XN.out.lt; have := XD.out.lt; have := XO.out.lt; have := HB.out.size; omega)⟩)
      (fun l hl => by
          rcases l with _ | l
          · exact R0.out
          · exact absurd hl (by simp))
      (fun l b w1 w2 hl h hb => by
          rcases l with _ | l
          · (cases b <;> exact h.below hb)
          · exact absurd hl (by simp))
      (fun l b w1 w2 g hl h hg hn ho => by
          rcases l with _ | l
          · (cases b; (exact h.only ho (Ne.symm hg)); (exact h.only (Ne.symm hg) hn ho))
          · exact absurd hl (by simp))
      (fun l hl => by
          rcases l with _ | l
          · exact R0.out.lt
          · exact absurd hl (by simp))
      (fun l k hl hk hne => by rcases l with _ | l <;> rcases k with _ | k <;> simp at hl hk hne)
      ?_ ?_
    · refine ⟨?_, ?_, ?_, ?_, ?_, trivial⟩ <;> intro L V a1 w1 hf hG hsz hφ hψ hL hdep hcl
      · obtain ⟨_, XN_, _⟩ := hG
        have e7 := old_slot hf 7 (by kernel_rfl)
        exact ob_load_int rfl e7 XN_ rfl
      · obtain ⟨_, _, _, XD_, _⟩ := hG
        have e9 := old_slot hf 9 (by kernel_rfl)
        exact ob_load_int rfl e9 XD_ rfl
      · obtain ⟨N_, _, _, _, E_, _⟩ := hG
        have d0 := dep_of hdep 0 (by kernel_rfl)
        have e67 := (new_slot hf 0 67 d0 (by kernel_rfl)).trans (show V 0 = .agg #[.bool q21, .slice A21 n21 c21] from hφ 0 d0)
        have d1 := dep_of hdep 1 (by kernel_rfl)
        have e68 := (new_slot hf 1 68 d1 (by kernel_rfl)).trans (show V 1 = .agg #[.bool q41, .slice A41 n41 c41] from hφ 1 d1)
        exact ob_buildR (A := .V zB) (B := .V zA) rfl e67 N_ e68 E_ rfl
      · have d2 := dep_of hdep 2 (by kernel_rfl)
        have e69 := new_slot hf 2 69 d2 (by kernel_rfl)
        have p69 : Pair w1 (V 2) (.V zB) (.V zA) := hφ 2 d2
        have e2 := old_slot hf 2 (by kernel_rfl)
        have hb0 := hψ 0 (by decide)
        rw [show [3].getD 0 0 = 3 from rfl, hL] at hb0
        exact ob_fillOldR rfl e2 e69 hb0 p69 (fun w2 h => h) rfl
      · exact ob_pure (v := .int .i64 0) (ex_assignV rfl rfl) rfl
    · intro V W9 hG hsz9 hφ hψ hne
      have hlt9 : W8.heap.size ≤ W9.heap.size := hsz9
      obtain ⟨N_, XN_, D_, XD_, E_, O_, XO_, HB_⟩ := hG
      have N := hid N_
      have XN := hid XN_
      have D := hid D_
      have XD := hid XD_
      have E := hid E_
      have O := hid O_
      have XO := hid XO_
      have HB := hid HB_
      have y0 : V 0 = .agg #[.bool q21, .slice A21 n21 c21] := hφ 0 (by decide)
      have y1 : V 1 = .agg #[.bool q41, .slice A41 n41 c41] := hφ 1 (by decide)
      have y4 : V 4 = .int .i64 0 := hφ 4 (by decide)
      obtain ⟨q9501, A9501, n9501, c9501, q9502, A9502, n9502, c9502, kb950, va950, vb950⟩ := hψ 0 (by decide)
      have R0 := hid kb950
      have R01 : Hid (IntV W9 (.agg #[.bool q9501, .slice A9501 n9501 c9501]) zB) := hid va950
      have R02 : Hid (IntV W9 (.agg #[.bool q9502, .slice A9502 n9502 c9502]) zA) := hid vb950
      clear kb950 va950 vb950
      simp only [puts, Act.put, List.setIfInBounds_toArray, List.set_cons_zero, List.set_cons_succ, y0, y1, y4]
      clear hφ hψ hne y0 y1 y4 N_ XN_ D_ XD_ E_ O_ XO_ HB_ hsz9
      have k0 := R0.out.cell 0
      have k1 := R0.out.cell 1
      have k2 := R0.out.cell 2
      have k3 := R0.out.cell 3
      go_wp2
      refine bodyPost_ret (v := .tuple #[.agg #[.bool q9501, .slice A9501 n9501 c9501, .bool q9502, .slice A9502 n9502 c9502], .int .i64 0]) (by simp [results, Try.results32, go_sem, k0, k1, k2, k3]) rfl ⟨⟨_, rfl, ?_⟩, HB.out⟩
      exact Pair.mk (a := .V zB) (b := .V zA) R01.out R02.out
set_option maxHeartbeats 8000000 in
theorem pF_syn (w : World) (s B A : ByteArray) (eB eA zB zA : Int) (hs : s.size ≤ 9223372036854775807) (hB : Hid (cutB s 47 = B)) (hA : Hid (cutA s 47 = A)) (hF : Hid (cutF s 47 = false)) (PB : Hid (PCon 63 B eB zB)) (PA : Hid (PCon 63 A eA zA)) (SB : Hid (Sm 2000 zB)) (SA : Hid (Sm 2000 zA)) (h2 : (eB == 2) = true) :
    Calls Try.prog 32 #[.string s] w fun e w' => RetPE w' 2 0 0 e ∧ Below w.heap.size w w' := by
  have HB := hid (Below.refl w.heap.size w)
  obtain ⟨W, hW⟩ : ∃ W, W = (w.alloc (.cells #[.bool false, .slice none 0 0, .bool false, .slice none 0 0] 26)) := ⟨_, rfl⟩
  have hbb : Below w.heap.size w W := by rw [hW]; exact (bw_alloc (Below.refl _ _) _)
  have HB := hid (bw_step HB.out hbb)
  have R0 : Hid (Blk W (w.heap.size) 26 #[.bool false, .slice none 0 0, .bool false, .slice none 0 0]) := by
    rw [hW]
    have := Blk.new w 26 #[.bool false, .slice none 0 0, .bool false, .slice none 0 0]
    exact hid (by simpa only [World.size_alloc] using this)
  clear hbb
  go_enter Try.func32, Try.ntmps32
  go_wp2_with fail
  rw [← hW]
  clear hW
  refine (cut_any s 47 _ hs).mono ?_
  rintro e W1 ⟨he, hb1⟩
  unfold CutOk at he
  rw [hB.out, hA.out, hF.out] at he
  subst he
  have HB := hid (bw_step HB.out hb1)
  have R0 := hid (R0.out.below hb1)
  clear hb1
  go_wp2_with fail
  refine (PB.out _).mono ?_
  rintro e W2 ⟨⟨v, rfl, hv⟩, hb2⟩
  have HB := hid (bw_step HB.out hb2)
  have R0 := hid (R0.out.below hb2)
  clear hb2
  have lq2_R0 := R0.out.lt
  have lq2 := HB.out.size
  obtain ⟨q21, A21, n21, c21, rfl⟩ := hv.form
  have N := hid hv
  clear hv
  have hbb := bw_alloc (Below.refl _ W2) (.cells #[.bool q21, .slice A21 n21 c21] 24)
  have XN := Blk.new W2 24 #[.bool q21, .slice A21 n21 c21]
  have HB := hid (bw_step HB.out hbb)
  have R0 := hid (R0.out.below hbb)
  have N := hid (N.out.below hbb)
  have XN := hid XN
  clear hbb
  go_wp2_with fail
  refine (small_any _ 1 (by decide) (by decide)).mono ?_
  rintro e W3 ⟨⟨v, rfl, hv⟩, hb3⟩
  have HB := hid (bw_step HB.out hb3)
  have R0 := hid (R0.out.below hb3)
  have N := hid (N.out.below hb3)
  have XN := hid (XN.out.below hb3)
  clear hb3
  have lq3_R0 := R0.out.lt
  have lq3_XN := XN.out.lt
  have lq3 := HB.out.size
  obtain ⟨q31, A31, n31, c31, rfl⟩ := hv.form
  have D := hid hv
  clear hv
  have hbb := bw_alloc (Below.refl _ W3) (.cells #[.bool q31, .slice A31 n31 c31] 24)
  have XD := Blk.new W3 24 #[.bool q31, .slice A31 n31 c31]
  have HB := hid (bw_step HB.out hbb)
  have R0 := hid (R0.out.below hbb)
  have N := hid (N.out.below hbb)
  have XN := hid (XN.out.below hbb)
  have D := hid (D.out.below hbb)
  have XD := hid XD
  clear hbb
  go_wp2_with (with_reducible refine halt_at 41 rfl ?_)
  unfold Halted
  refine wp_list_each (by kernel_rfl) 3 70 rfl rfl (by kernel_rfl)
    [Fact.eq (.agg #[.bool false, .slice none 0 0, .bool false, .slice none 0 0]), Fact.top _, Fact.eq (.int .i64 2)]
    [.val, .fillOld 0, .val]
    (fun w' => IntV w' (.agg #[.bool q21, .slice A21 n21 c21]) (zB) ∧ Blk w' (W2.heap.size) 24 #[.bool q21, .slice A21 n21 c21] ∧ IntV w' (.agg #[.bool q31, .slice A31 n31 c31]) (1) ∧ Blk w' (W3.heap.size) 24 #[.bool q31, .slice A31 n31 c31] ∧ Below w.heap.size w w')
    (fun l b w' => match l with
      | 0 => if b = true then BoxR w' (w.heap.size) 26 (.V 0) (.V 0) else Blk w' (w.heap.size) 26 #[.bool false, .slice none 0 0, .bool false, .slice none 0 0]
      | _ => True)
    [1] (fun l => match l with | 0 => w.heap.size | _ => 0) (by kernel_rfl)
    ⟨N.out, XN.out, D.out, XD.out, HB.out⟩
    (fun w1 w2 ⟨h0, h1, h2, h3, h4⟩ hb => ⟨h0.below hb, h1.below hb, h2.below hb, h3.below hb, bw_step h4 hb⟩)
    (fun w1 w2 g ⟨h0, h1, h2, h3, h4⟩ hg hn ho => by
      have hg' : (W3.alloc (.cells #[.bool q31, .slice A31 n31 c31] 24)).heap.size ≤ g ∨ g = w.heap.size := by
        rcases hg with h | ⟨l, hl, h⟩
        · exact .inl h
        · rcases l with _ | l
          · exact .inr h
          · exact absurd hl (by simp)
      exact ⟨h0.only hn ho, h1.only ho (by have := R0.out.lt; have := XN.out.lt; have := XD.out.lt; omega), h2.only hn ho, h3.only ho (by have := R0.out.lt; have := XN.out.lt; have := XD.out.lt; omega), below_only h4 ho (by have := R0.out.lt; have := XN.out.lt; have := XD.out.lt; have := HB.out.size; omega)⟩)
    (fun l hl => by
        rcases l with _ | l
        · exact R0.out
        · exact absurd hl (by simp))
    (fun l b w1 w2 hl h hb => by
        rcases l with _ | l
        · (cases b <;> exact h.below hb)
        · exact absurd hl (by simp))
    (fun l b w1 w2 g hl h hg hn ho => by
        rcases l with _ | l
        · (cases b; (exact h.only ho (Ne.symm hg)); (exact h.only (Ne.symm hg) hn ho))
        · exact absurd hl (by simp))
    (fun l hl => by
        rcases l with _ | l
        · exact R0.out.lt
        · exact absurd hl (by simp))
    (fun l k hl hk hne => by rcases l with _ | l <;> rcases k with _ | k <;> simp at hl hk hne)
    ?_ ?_
  · refine ⟨?_, ?_, ?_, trivial⟩ <;> intro L V a1 w1 hf hG hsz hφ hψ hL hdep hcl
    · exact ob_pure (ex_zeroR rfl) rfl
    · have d0 := dep_of hdep 0 (by kernel_rfl)
      have e41 := (new_slot hf 0 41 d0 (by kernel_rfl)).trans (show V 0 = .agg #[.bool false, .slice none 0 0, .bool false, .slice none 0 0] from hφ 0 d0)
      have e2 := old_slot hf 2 (by kernel_rfl)
      have hb0 := hψ 0 (by decide)
      rw [show [1].getD 0 0 = 1 from rfl, hL] at hb0
      exact ob_fillOldR rfl e2 e41 hb0 (Pair.mk (a := .V 0) (b := .V 0) (IntV.zero _) (IntV.zero _)) (fun w2 h => h) rfl
    · exact ob_pure (v := .int .i64 2) (ex_assignV rfl rfl) rfl
  · intro V W4 hG hsz4 hφ hψ hne
    have hlt4 : (W3.alloc (.cells #[.bool q31, .slice A31 n31 c31] 24)).heap.size ≤ W4.heap.size := hsz4
    obtain ⟨N_, XN_, D_, XD_, HB_⟩ := hG
    have N := hid N_
    have XN := hid XN_
    have D := hid D_
    have XD := hid XD_
    have HB := hid HB_
    have y0 : V 0 = .agg #[.bool false, .slice none 0 0, .bool false, .slice none 0 0] := hφ 0 (by decide)
    have y2 : V 2 = .int .i64 2 := hφ 2 (by decide)
    obtain ⟨q4501, A4501, n4501, c4501, q4502, A4502, n4502, c4502, kb450, va450, vb450⟩ := hψ 0 (by decide)
    have R0 := hid kb450
    have R01 : Hid (IntV W4 (.agg #[.bool q4501, .slice A4501 n4501 c4501]) 0) := hid va450
    have R02 : Hid (IntV W4 (.agg #[.bool q4502, .slice A4502 n4502 c4502]) 0) := hid vb450
    clear kb450 va450 vb450
    simp only [puts, Act.put, List.setIfInBounds_toArray, List.set_cons_zero, List.set_cons_succ, y0, y2]
    clear hφ hψ hne y0 y2 N_ XN_ D_ XD_ HB_ hsz4
    have k0 := R0.out.cell 0
    have k1 := R0.out.cell 1
    have k2 := R0.out.cell 2
    have k3 := R0.out.cell 3
    go_wp2
    refine bodyPost_ret (v := .tuple #[.agg #[.bool q4501, .slice A4501 n4501 c4501, .bool q4502, .slice A4502 n4502 c4502], .int .i64 2]) (by simp [results, Try.results32, go_sem, k0, k1, k2, k3]) rfl ⟨⟨_, rfl, ?_⟩, HB.out⟩
    exact Pair.mk (a := .V 0) (b := .V 0) R01.out R02.out
set_option maxHeartbeats 8000000 in
theorem pF_lar (w : World) (s B A : ByteArray) (eB eA zB zA : Int) (hs : s.size ≤ 9223372036854775807) (hB : Hid (cutB s 47 = B)) (hA : Hid (cutA s 47 = A)) (hF : Hid (cutF s 47 = false)) (PB : Hid (PCon 63 B eB zB)) (PA : Hid (PCon 63 A eA zA)) (SB : Hid (Sm 2000 zB)) (SA : Hid (Sm 2000 zA)) (h2 : (eB == 2) = false) (hng : Hid (ngB A = false)) (h4 : (eB != 0) = true) :
    Calls Try.prog 32 #[.string s] w fun e w' => RetPE w' 7 0 0 e ∧ Below w.heap.size w w' := by
  have HB := hid (Below.refl w.heap.size w)
  obtain ⟨W, hW⟩ : ∃ W, W = (w.alloc (.cells #[.bool false, .slice none 0 0, .bool false, .slice none 0 0] 26)) := ⟨_, rfl⟩
  have hbb : Below w.heap.size w W := by rw [hW]; exact (bw_alloc (Below.refl _ _) _)
  have HB := hid (bw_step HB.out hbb)
  have R0 : Hid (Blk W (w.heap.size) 26 #[.bool false, .slice none 0 0, .bool false, .slice none 0 0]) := by
    rw [hW]
    have := Blk.new w 26 #[.bool false, .slice none 0 0, .bool false, .slice none 0 0]
    exact hid (by simpa only [World.size_alloc] using this)
  clear hbb
  go_enter Try.func32, Try.ntmps32
  go_wp2_with fail
  rw [← hW]
  clear hW
  refine (cut_any s 47 _ hs).mono ?_
  rintro e W1 ⟨he, hb1⟩
  unfold CutOk at he
  rw [hB.out, hA.out, hF.out] at he
  subst he
  have HB := hid (bw_step HB.out hb1)
  have R0 := hid (R0.out.below hb1)
  clear hb1
  go_wp2_with fail
  refine (PB.out _).mono ?_
  rintro e W2 ⟨⟨v, rfl, hv⟩, hb2⟩
  have HB := hid (bw_step HB.out hb2)
  have R0 := hid (R0.out.below hb2)
  clear hb2
  have lq2_R0 := R0.out.lt
  have lq2 := HB.out.size
  obtain ⟨q21, A21, n21, c21, rfl⟩ := hv.form
  have N := hid hv
  clear hv
  have hbb := bw_alloc (Below.refl _ W2) (.cells #[.bool q21, .slice A21 n21 c21] 24)
  have XN := Blk.new W2 24 #[.bool q21, .slice A21 n21 c21]
  have HB := hid (bw_step HB.out hbb)
  have R0 := hid (R0.out.below hbb)
  have N := hid (N.out.below hbb)
  have XN := hid XN
  clear hbb
  go_wp2_with fail
  refine (small_any _ 1 (by decide) (by decide)).mono ?_
  rintro e W3 ⟨⟨v, rfl, hv⟩, hb3⟩
  have HB := hid (bw_step HB.out hb3)
  have R0 := hid (R0.out.below hb3)
  have N := hid (N.out.below hb3)
  have XN := hid (XN.out.below hb3)
  clear hb3
  have lq3_R0 := R0.out.lt
  have lq3_XN := XN.out.lt
  have lq3 := HB.out.size
  obtain ⟨q31, A31, n31, c31, rfl⟩ := hv.form
  have D := hid hv
  clear hv
  have hbb := bw_alloc (Below.refl _ W3) (.cells #[.bool q31, .slice A31 n31 c31] 24)
  have XD := Blk.new W3 24 #[.bool q31, .slice A31 n31 c31]
  have HB := hid (bw_step HB.out hbb)
  have R0 := hid (R0.out.below hbb)
  have N := hid (N.out.below hbb)
  have XN := hid (XN.out.below hbb)
  have D := hid (D.out.below hbb)
  have XD := hid XD
  clear hbb
  go_wp2_with fail
  refine (prefix_b _ _).mono ?_
  rintro e W4 ⟨he, hb4⟩
  rw [hng.out] at he
  subst he
  have HB := hid (bw_step HB.out hb4)
  have R0 := hid (R0.out.below hb4)
  have N := hid (N.out.below hb4)
  have XN := hid (XN.out.below hb4)
  have D := hid (D.out.below hb4)
  have XD := hid (XD.out.below hb4)
  clear hb4
  go_wp2_with (with_reducible refine halt_at 49 rfl ?_)
  unfold Halted
  refine wp_list_each (by kernel_rfl) 3 70 rfl rfl (by kernel_rfl)
    [Fact.eq (.agg #[.bool false, .slice none 0 0, .bool false, .slice none 0 0]), Fact.top _, Fact.eq (.int .i64 7)]
    [.val, .fillOld 0, .val]
    (fun w' => IntV w' (.agg #[.bool q21, .slice A21 n21 c21]) (zB) ∧ Blk w' (W2.heap.size) 24 #[.bool q21, .slice A21 n21 c21] ∧ IntV w' (.agg #[.bool q31, .slice A31 n31 c31]) (1) ∧ Blk w' (W3.heap.size) 24 #[.bool q31, .slice A31 n31 c31] ∧ Below w.heap.size w w')
    (fun l b w' => match l with
      | 0 => if b = true then BoxR w' (w.heap.size) 26 (.V 0) (.V 0) else Blk w' (w.heap.size) 26 #[.bool false, .slice none 0 0, .bool false, .slice none 0 0]
      | _ => True)
    [1] (fun l => match l with | 0 => w.heap.size | _ => 0) (by kernel_rfl)
    ⟨N.out, XN.out, D.out, XD.out, HB.out⟩
    (fun w1 w2 ⟨h0, h1, h2, h3, h4⟩ hb => ⟨h0.below hb, h1.below hb, h2.below hb, h3.below hb, bw_step h4 hb⟩)
    (fun w1 w2 g ⟨h0, h1, h2, h3, h4⟩ hg hn ho => by
      have hg' : W4.heap.size ≤ g ∨ g = w.heap.size := by
        rcases hg with h | ⟨l, hl, h⟩
        · exact .inl h
        · rcases l with _ | l
          · exact .inr h
          · exact absurd hl (by simp)
      exact ⟨h0.only hn ho, h1.only ho (by have := R0.out.lt; have := XN.out.lt; have := XD.out.lt; omega), h2.only hn ho, h3.only ho (by have := R0.out.lt; have := XN.out.lt; have := XD.out.lt; omega), below_only h4 ho (by have := R0.out.lt; have := XN.out.lt; have := XD.out.lt; have := HB.out.size; omega)⟩)
    (fun l hl => by
        rcases l with _ | l
        · exact R0.out
        · exact absurd hl (by simp))
    (fun l b w1 w2 hl h hb => by
        rcases l with _ | l
        · (cases b <;> exact h.below hb)
        · exact absurd hl (by simp))
    (fun l b w1 w2 g hl h hg hn ho => by
        rcases l with _ | l
        · (cases b; (exact h.only ho (Ne.symm hg)); (exact h.only (Ne.symm hg) hn ho))
        · exact absurd hl (by simp))
    (fun l hl => by
        rcases l with _ | l
        · exact R0.out.lt
        · exact absurd hl (by simp))
    (fun l k hl hk hne => by rcases l with _ | l <;> rcases k with _ | k <;> simp at hl hk hne)
    ?_ ?_
  · refine ⟨?_, ?_, ?_, trivial⟩ <;> intro L V a1 w1 hf hG hsz hφ hψ hL hdep hcl
    · exact ob_pure (ex_zeroR rfl) rfl
    · have d0 := dep_of hdep 0 (by kernel_rfl)
      have e49 := (new_slot hf 0 49 d0 (by kernel_rfl)).trans (show V 0 = .agg #[.bool false, .slice none 0 0, .bool false, .slice none 0 0] from hφ 0 d0)
      have e2 := old_slot hf 2 (by kernel_rfl)
      have hb0 := hψ 0 (by decide)
      rw [show [1].getD 0 0 = 1 from rfl, hL] at hb0
      exact ob_fillOldR rfl e2 e49 hb0 (Pair.mk (a := .V 0) (b := .V 0) (IntV.zero _) (IntV.zero _)) (fun w2 h => h) rfl
    · exact ob_pure (v := .int .i64 7) (ex_assignV rfl rfl) rfl
  · intro V W5 hG hsz5 hφ hψ hne
    have hlt5 : W4.heap.size ≤ W5.heap.size := hsz5
    obtain ⟨N_, XN_, D_, XD_, HB_⟩ := hG
    have N := hid N_
    have XN := hid XN_
    have D := hid D_
    have XD := hid XD_
    have HB := hid HB_
    have y0 : V 0 = .agg #[.bool false, .slice none 0 0, .bool false, .slice none 0 0] := hφ 0 (by decide)
    have y2 : V 2 = .int .i64 7 := hφ 2 (by decide)
    obtain ⟨q5501, A5501, n5501, c5501, q5502, A5502, n5502, c5502, kb550, va550, vb550⟩ := hψ 0 (by decide)
    have R0 := hid kb550
    have R01 : Hid (IntV W5 (.agg #[.bool q5501, .slice A5501 n5501 c5501]) 0) := hid va550
    have R02 : Hid (IntV W5 (.agg #[.bool q5502, .slice A5502 n5502 c5502]) 0) := hid vb550
    clear kb550 va550 vb550
    simp only [puts, Act.put, List.setIfInBounds_toArray, List.set_cons_zero, List.set_cons_succ, y0, y2]
    clear hφ hψ hne y0 y2 N_ XN_ D_ XD_ HB_ hsz5
    have k0 := R0.out.cell 0
    have k1 := R0.out.cell 1
    have k2 := R0.out.cell 2
    have k3 := R0.out.cell 3
    go_wp2
    refine bodyPost_ret (v := .tuple #[.agg #[.bool q5501, .slice A5501 n5501 c5501, .bool q5502, .slice A5502 n5502 c5502], .int .i64 7]) (by simp [results, Try.results32, go_sem, k0, k1, k2, k3]) rfl ⟨⟨_, rfl, ?_⟩, HB.out⟩
    exact Pair.mk (a := .V 0) (b := .V 0) R01.out R02.out
set_option maxHeartbeats 8000000 in
theorem pF_ok (w : World) (s B A : ByteArray) (eB eA zB zA : Int) (hs : s.size ≤ 9223372036854775807) (hB : Hid (cutB s 47 = B)) (hA : Hid (cutA s 47 = A)) (hF : Hid (cutF s 47 = false)) (PB : Hid (PCon 63 B eB zB)) (PA : Hid (PCon 63 A eA zA)) (SB : Hid (Sm 2000 zB)) (SA : Hid (Sm 2000 zA)) (h2 : (eB == 2) = false) (hng : Hid (ngB A = false)) (h4 : (eB != 0) = false) :
    Calls Try.prog 32 #[.string s] w fun e w' => RetPE w' 0 zB 1 e ∧ Below w.heap.size w w' := by
  have HB := hid (Below.refl w.heap.size w)
  obtain ⟨W, hW⟩ : ∃ W, W = (w.alloc (.cells #[.bool false, .slice none 0 0, .bool false, .slice none 0 0] 26)) := ⟨_, rfl⟩
  have hbb : Below w.heap.size w W := by rw [hW]; exact (bw_alloc (Below.refl _ _) _)
  have HB := hid (bw_step HB.out hbb)
  have R0 : Hid (Blk W (w.heap.size) 26 #[.bool false, .slice none 0 0, .bool false, .slice none 0 0]) := by
    rw [hW]
    have := Blk.new w 26 #[.bool false, .slice none 0 0, .bool false, .slice none 0 0]
    exact hid (by simpa only [World.size_alloc] using this)
  clear hbb
  go_enter Try.func32, Try.ntmps32
  go_wp2_with fail
  rw [← hW]
  clear hW
  refine (cut_any s 47 _ hs).mono ?_
  rintro e W1 ⟨he, hb1⟩
  unfold CutOk at he
  rw [hB.out, hA.out, hF.out] at he
  subst he
  have HB := hid (bw_step HB.out hb1)
  have R0 := hid (R0.out.below hb1)
  clear hb1
  go_wp2_with fail
  refine (PB.out _).mono ?_
  rintro e W2 ⟨⟨v, rfl, hv⟩, hb2⟩
  have HB := hid (bw_step HB.out hb2)
  have R0 := hid (R0.out.below hb2)
  clear hb2
  have lq2_R0 := R0.out.lt
  have lq2 := HB.out.size
  obtain ⟨q21, A21, n21, c21, rfl⟩ := hv.form
  have N := hid hv
  clear hv
  have hbb := bw_alloc (Below.refl _ W2) (.cells #[.bool q21, .slice A21 n21 c21] 24)
  have XN := Blk.new W2 24 #[.bool q21, .slice A21 n21 c21]
  have HB := hid (bw_step HB.out hbb)
  have R0 := hid (R0.out.below hbb)
  have N := hid (N.out.below hbb)
  have XN := hid XN
  clear hbb
  go_wp2_with fail
  refine (small_any _ 1 (by decide) (by decide)).mono ?_
  rintro e W3 ⟨⟨v, rfl, hv⟩, hb3⟩
  have HB := hid (bw_step HB.out hb3)
  have R0 := hid (R0.out.below hb3)
  have N := hid (N.out.below hb3)
  have XN := hid (XN.out.below hb3)
  clear hb3
  have lq3_R0 := R0.out.lt
  have lq3_XN := XN.out.lt
  have lq3 := HB.out.size
  obtain ⟨q31, A31, n31, c31, rfl⟩ := hv.form
  have D := hid hv
  clear hv
  have hbb := bw_alloc (Below.refl _ W3) (.cells #[.bool q31, .slice A31 n31 c31] 24)
  have XD := Blk.new W3 24 #[.bool q31, .slice A31 n31 c31]
  have HB := hid (bw_step HB.out hbb)
  have R0 := hid (R0.out.below hbb)
  have N := hid (N.out.below hbb)
  have XN := hid (XN.out.below hbb)
  have D := hid (D.out.below hbb)
  have XD := hid XD
  clear hbb
  go_wp2_with fail
  refine (prefix_b _ _).mono ?_
  rintro e W4 ⟨he, hb4⟩
  rw [hng.out] at he
  subst he
  have HB := hid (bw_step HB.out hb4)
  have R0 := hid (R0.out.below hb4)
  have N := hid (N.out.below hb4)
  have XN := hid (XN.out.below hb4)
  have D := hid (D.out.below hb4)
  have XD := hid (XD.out.below hb4)
  clear hb4
  go_wp2_with fail
  refine (small_any _ 1 (by decide) (by decide)).mono ?_
  rintro e W5 ⟨⟨v, rfl, hv⟩, hb5⟩
  have HB := hid (bw_step HB.out hb5)
  have R0 := hid (R0.out.below hb5)
  have N := hid (N.out.below hb5)
  have XN := hid (XN.out.below hb5)
  have D := hid (D.out.below hb5)
  have XD := hid (XD.out.below hb5)
  clear hb5
  have lq5_R0 := R0.out.lt
  have lq5_XN := XN.out.lt
  have lq5_XD := XD.out.lt
  have lq5 := HB.out.size
  obtain ⟨q51, A51, n51, c51, rfl⟩ := hv.form
  have O := hid hv
  clear hv
  have hbb := bw_alloc (Below.refl _ W5) (.cells #[.bool q51, .slice A51 n51 c51] 24)
  have XO := Blk.new W5 24 #[.bool q51, .slice A51 n51 c51]
  have HB := hid (bw_step HB.out hbb)
  have R0 := hid (R0.out.below hbb)
  have N := hid (N.out.below hbb)
  have XN := hid (XN.out.below hbb)
  have D := hid (D.out.below hbb)
  have XD := hid (XD.out.below hbb)
  have O := hid (O.out.below hbb)
  have XO := hid XO
  clear hbb
  go_wp2_with fail
  refine wp_region_eachG (by kernel_rfl) 15 70 rfl rfl (by kernel_rfl)
    [Fact.eq (.bool false), Fact.eq (.bool false), Fact.eq undef, Fact.eq undef, Fact.eq undef, Fact.eq undef, Fact.eq undef, Fact.eq undef, Fact.eq undef, Fact.eq undef, Fact.eq undef, Fact.eq undef, Fact.eq undef, Fact.eq undef, Fact.eq (.bool false)]
    [.val, .val, .val, .val, .val, .val, .val, .val, .val, .val, .val, .val, .val, .val, .val]
    (fun w' => Blk w' (w.heap.size) 26 #[.bool false, .slice none 0 0, .bool false, .slice none 0 0] ∧ IntV w' (.agg #[.bool q21, .slice A21 n21 c21]) (zB) ∧ Blk w' (W2.heap.size) 24 #[.bool q21, .slice A21 n21 c21] ∧ IntV w' (.agg #[.bool q31, .slice A31 n31 c31]) (1) ∧ Blk w' (W3.heap.size) 24 #[.bool q31, .slice A31 n31 c31] ∧ IntV w' (.agg #[.bool q51, .slice A51 n51 c51]) (1) ∧ Blk w' (W5.heap.size) 24 #[.bool q51, .slice A51 n51 c51] ∧ Below w.heap.size w w')
    (fun _ _ _ => True) [] (fun _ => 0) (by kernel_rfl)
    ⟨R0.out, N.out, XN.out, D.out, XD.out, O.out, XO.out, HB.out⟩
    (fun w1 w2 ⟨h0, h1, h2, h3, h4, h5, h6, h7⟩ hb => ⟨h0.below hb, h1.below hb, h2.below hb, h3.below hb, h4.below hb, h5.below hb, h6.below hb, bw_step h7 hb⟩)
    (fun w1 w2 g ⟨h0, h1, h2, h3, h4, h5, h6, h7⟩ hg hn ho => by
      have hg' : (W5.alloc (.cells #[.bool q51, .slice A51 n51 c51] 24)).heap.size ≤ g := hg.elim id (fun ⟨_, h, _⟩ => absurd h (Nat.not_lt_zero _))
      exact ⟨h0.only ho (by have := R0.out.lt; have := XN.out.lt; have := XD.out.lt; have := XO.out.lt; omega), h1.only hn ho, h2.only ho (by have := R0.out.lt; have := XN.out.lt; have := XD.out.lt; have := XO.out.lt; omega), h3.only hn ho, h4.only ho (by have := R0.out.lt; have := XN.out.lt; have := XD.out.lt; have := XO.out.lt; omega), h5.only hn ho, h6.only ho (by have := R0.out.lt; have := XN.out.lt; have := XD.out.lt; have := XO.out.lt; omega), below_only h7 ho (by have := R0.out.lt; have := XN.out.lt; have := XD.out.lt; have := XO.out.lt; have := HB.out.size; omega)⟩)
    (fun l h => trivial) (fun l b w1 w2 h _ _ => trivial) (fun l b w1 w2 g h _ _ _ _ => trivial) (fun l h => by cases h) (fun l k h => by cases h) ?_ ?_
  · refine ⟨?_, ?_, ?_, ?_, ?_, ?_, ?_, ?_, ?_, ?_, ?_, ?_, ?_, ?_, ?_, trivial⟩ <;> intro L V a1 w1 hf hG hsz hφ hψ hL hdep hcl
    · refine og_none rfl ?_
      have e6 := old_slot hf 6 (by kernel_rfl)
      exact ob_pure (v := .bool false) (ex_moveV rfl e6) rfl
    · refine og_none rfl ?_
      have d0 := dep_of hdep 0 (by kernel_rfl)
      have e51 := (new_slot hf 0 51 d0 (by kernel_rfl)).trans (show V 0 = .bool false from hφ 0 d0)
      exact ob_pure (v := .bool false) (ex_moveV rfl e51) rfl
    · have dg := dep_of hdep 1 (by kernel_rfl)
      exact og_skip rfl (yielded_of hf (n := 70) (by kernel_rfl) rfl 1 52 dg (by kernel_rfl) (show V 1 = .bool false from hφ 1 dg)) rfl rfl
    · have dg := dep_of hdep 1 (by kernel_rfl)
      exact og_skip rfl (yielded_of hf (n := 70) (by kernel_rfl) rfl 1 52 dg (by kernel_rfl) (show V 1 = .bool false from hφ 1 dg)) rfl rfl
    · have dg := dep_of hdep 1 (by kernel_rfl)
      exact og_skip rfl (yielded_of hf (n := 70) (by kernel_rfl) rfl 1 52 dg (by kernel_rfl) (show V 1 = .bool false from hφ 1 dg)) rfl rfl
    · have dg := dep_of hdep 1 (by kernel_rfl)
      exact og_skip rfl (yielded_of hf (n := 70) (by kernel_rfl) rfl 1 52 dg (by kernel_rfl) (show V 1 = .bool false from hφ 1 dg)) rfl rfl
    · have dg := dep_of hdep 1 (by kernel_rfl)
      exact og_skip rfl (yielded_of hf (n := 70) (by kernel_rfl) rfl 1 52 dg (by kernel_rfl) (show V 1 = .bool false from hφ 1 dg)) rfl rfl
    · have dg := dep_of hdep 6 (by kernel_rfl)
      exact og_skip2 rfl (yielded_undef hf (n := 70) (by kernel_rfl) rfl 6 57 dg (by kernel_rfl) (show V 6 = undef from hφ 6 dg)) rfl
    · have dg := dep_of hdep 6 (by kernel_rfl)
      exact og_skip2 rfl (yielded_undef hf (n := 70) (by kernel_rfl) rfl 6 57 dg (by kernel_rfl) (show V 6 = undef from hφ 6 dg)) rfl
    · have dg := dep_of hdep 6 (by kernel_rfl)
      exact og_skip2 rfl (yielded_undef hf (n := 70) (by kernel_rfl) rfl 6 57 dg (by kernel_rfl) (show V 6 = undef from hφ 6 dg)) rfl
    · have dg := dep_of hdep 6 (by kernel_rfl)
      exact og_skip2 rfl (yielded_undef hf (n := 70) (by kernel_rfl) rfl 6 57 dg (by kernel_rfl) (show V 6 = undef from hφ 6 dg)) rfl
    · have dg := dep_of hdep 6 (by kernel_rfl)
      exact og_skip2 rfl (yielded_undef hf (n := 70) (by kernel_rfl) rfl 6 57 dg (by kernel_rfl) (show V 6 = undef from hφ 6 dg)) rfl
    · have dg := dep_of hdep 6 (by kernel_rfl)
      exact og_skip2 rfl (yielded_undef hf (n := 70) (by kernel_rfl) rfl 6 57 dg (by kernel_rfl) (show V 6 = undef from hφ 6 dg)) rfl
    · have dg := dep_of hdep 1 (by kernel_rfl)
      exact og_skip rfl (yielded_of hf (n := 70) (by kernel_rfl) rfl 1 52 dg (by kernel_rfl) (show V 1 = .bool false from hφ 1 dg)) rfl rfl
    · refine og_none rfl ?_
      have d1 := dep_of hdep 1 (by kernel_rfl)
      have e52 := (new_slot hf 1 52 d1 (by kernel_rfl)).trans (show V 1 = .bool false from hφ 1 d1)
      exact ob_pure (v := .bool false) (ex_pick_false rfl e52 rfl) rfl
  · intro V W6 hG hsz6 hφ hψ hne
    have hlt6 : (W5.alloc (.cells #[.bool q51, .slice A51 n51 c51] 24)).heap.size ≤ W6.heap.size := hsz6
    obtain ⟨R0_, N_, XN_, D_, XD_, O_, XO_, HB_⟩ := hG
    have R0 := hid R0_
    have N := hid N_
    have XN := hid XN_
    have D := hid D_
    have XD := hid XD_
    have O := hid O_
    have XO := hid XO_
    have HB := hid HB_
    have y0 : V 0 = .bool false := hφ 0 (by decide)
    have y1 : V 1 = .bool false := hφ 1 (by decide)
    have y2 : V 2 = undef := hφ 2 (by decide)
    have y3 : V 3 = undef := hφ 3 (by decide)
    have y4 : V 4 = undef := hφ 4 (by decide)
    have y5 : V 5 = undef := hφ 5 (by decide)
    have y6 : V 6 = undef := hφ 6 (by decide)
    have y7 : V 7 = undef := hφ 7 (by decide)
    have y8 : V 8 = undef := hφ 8 (by decide)
    have y9 : V 9 = undef := hφ 9 (by decide)
    have y10 : V 10 = undef := hφ 10 (by decide)
    have y11 : V 11 = undef := hφ 11 (by decide)
    have y12 : V 12 = undef := hφ 12 (by decide)
    have y13 : V 13 = undef := hφ 13 (by decide)
    have y14 : V 14 = .bool false := hφ 14 (by decide)
    simp only [puts, Act.put, List.setIfInBounds_toArray, List.set_cons_zero, List.set_cons_succ, y0, y1, y2, y3, y4, y5, y6, y7, y8, y9, y10, y11, y12, y13, y14]
    clear hφ hψ hne y0 y1 y2 y3 y4 y5 y6 y7 y8 y9 y10 y11 y12 y13 y14 R0_ N_ XN_ D_ XD_ O_ XO_ HB_ hsz6
    go_wp2_with (with_reducible refine halt_at 67 rfl ?_)
    unfold Halted
    refine wp_list_each (by kernel_rfl) 5 70 rfl rfl (by kernel_rfl)
      [Fact.eq (.agg #[.bool q21, .slice A21 n21 c21]), Fact.eq (.agg #[.bool q31, .slice A31 n31 c31]), Fact.pair (.V zB) (.V 1), Fact.top _, Fact.eq (.int .i64 0)]
      [.val, .val, .val, .fillOld 0, .val]
      (fun w' => IntV w' (.agg #[.bool q21, .slice A21 n21 c21]) (zB) ∧ Blk w' (W2.heap.size) 24 #[.bool q21, .slice A21 n21 c21] ∧ IntV w' (.agg #[.bool q31, .slice A31 n31 c31]) (1) ∧ Blk w' (W3.heap.size) 24 #[.bool q31, .slice A31 n31 c31] ∧ IntV w' (.agg #[.bool q51, .slice A51 n51 c51]) (1) ∧ Blk w' (W5.heap.size) 24 #[.bool q51, .slice A51 n51 c51] ∧ Below w.heap.size w w')
      (fun l b w' => match l with
        | 0 => if b = true then BoxR w' (w.heap.size) 26 (.V zB) (.V 1) else Blk w' (w.heap.size) 26 #[.bool false, .slice none 0 0, .bool false, .slice none 0 0]
        | _ => True)
      [3] (fun l => match l with | 0 => w.heap.size | _ => 0) (by kernel_rfl)
      ⟨N.out, XN.out, D.out, XD.out, O.out, XO.out, HB.out⟩
      (fun w1 w2 ⟨h0, h1, h2, h3, h4, h5, h6⟩ hb => ⟨h0.below hb, h1.below hb, h2.below hb, h3.below hb, h4.below hb, h5.below hb, bw_step h6 hb⟩)
      (fun w1 w2 g ⟨h0, h1, h2, h3, h4, h5, h6⟩ hg hn ho => by
        have hg' : W6.heap.size ≤ g ∨ g = w.heap.size := by
          rcases hg with h | ⟨l, hl, h⟩
          · exact .inl h
          · rcases l with _ | l
            · exact .inr h
            · exact absurd hl (by simp)
        exact ⟨h0.only hn ho, h1.only ho (by have := R0.out.lt; have := XN.out.lt; have := XD.out.lt; have := XO.out.lt; omega), h2.only hn ho, h3.only ho (by have := R0.out.lt; have := XN.out.lt; have := XD.out.lt; have := XO.out.lt; omega), h4.only hn ho, h5.only ho (by have := R0.out.lt; have := XN.out.lt; have := XD.out.lt; have := XO.out.lt; omega), below_only h6 ho (by have := R0.out.lt; have := XN.out.lt; have := XD.out.lt; have := XO.out.lt; have := HB.out.size; omega)⟩)
      (fun l hl => by
          rcases l with _ | l
          · exact R0.out
          · exact absurd hl (by simp))
      (fun l b w1 w2 hl h hb => by
          rcases l with _ | l
          · (cases b <;> exact h.below hb)
          · exact absurd hl (by simp))
      (fun l b w1 w2 g hl h hg hn ho => by
          rcases l with _ | l
          · (cases b; (exact h.only ho (Ne.symm hg)); (exact h.only (Ne.symm hg) hn ho))
          · exact absurd hl (by simp))
      (fun l hl => by
          rcases l with _ | l
          · exact R0.out.lt
          · exact absurd hl (by simp))
      (fun l k hl hk hne => by rcases l with _ | l <;> rcases k with _ | k <;> simp at hl hk hne)
      ?_ ?_
    · refine ⟨?_, ?_, ?_, ?_, ?_, trivial⟩ <;> intro L V a1 w1 hf hG hsz hφ hψ hL hdep hcl
      · obtain ⟨_, XN_, _⟩ := hG
        have e7 := old_slot hf 7 (by kernel_rfl)
        exact ob_load_int rfl e7 XN_ rfl
      · obtain ⟨_, _, _, XD_, _⟩ := hG
        have e9 := old_slot hf 9 (by kernel_rfl)
        exact ob_load_int rfl e9 XD_ rfl
      · obtain ⟨N_, _, D_, _⟩ := hG
        have d0 := dep_of hdep 0 (by kernel_rfl)
        have e67 := (new_slot hf 0 67 d0 (by kernel_rfl)).trans (show V 0 = .agg #[.bool q21, .slice A21 n21 c21] from hφ 0 d0)
        have d1 := dep_of hdep 1 (by kernel_rfl)
        have e68 := (new_slot hf 1 68 d1 (by kernel_rfl)).trans (show V 1 = .agg #[.bool q31, .slice A31 n31 c31] from hφ 1 d1)
        exact ob_buildR (A := .V zB) (B := .V 1) rfl e67 N_ e68 D_ rfl
      · have d2 := dep_of hdep 2 (by kernel_rfl)
        have e69 := new_slot hf 2 69 d2 (by kernel_rfl)
        have p69 : Pair w1 (V 2) (.V zB) (.V 1) := hφ 2 d2
        have e2 := old_slot hf 2 (by kernel_rfl)
        have hb0 := hψ 0 (by decide)
        rw [show [3].getD 0 0 = 3 from rfl, hL] at hb0
        exact ob_fillOldR rfl e2 e69 hb0 p69 (fun w2 h => h) rfl
      · exact ob_pure (v := .int .i64 0) (ex_assignV rfl rfl) rfl
    · intro V W7 hG hsz7 hφ hψ hne
      have hlt7 : W6.heap.size ≤ W7.heap.size := hsz7
      obtain ⟨N_, XN_, D_, XD_, O_, XO_, HB_⟩ := hG
      have N := hid N_
      have XN := hid XN_
      have D := hid D_
      have XD := hid XD_
      have O := hid O_
      have XO := hid XO_
      have HB := hid HB_
      have y0 : V 0 = .agg #[.bool q21, .slice A21 n21 c21] := hφ 0 (by decide)
      have y1 : V 1 = .agg #[.bool q31, .slice A31 n31 c31] := hφ 1 (by decide)
      have y4 : V 4 = .int .i64 0 := hφ 4 (by decide)
      obtain ⟨q7501, A7501, n7501, c7501, q7502, A7502, n7502, c7502, kb750, va750, vb750⟩ := hψ 0 (by decide)
      have R0 := hid kb750
      have R01 : Hid (IntV W7 (.agg #[.bool q7501, .slice A7501 n7501 c7501]) zB) := hid va750
      have R02 : Hid (IntV W7 (.agg #[.bool q7502, .slice A7502 n7502 c7502]) 1) := hid vb750
      clear kb750 va750 vb750
      simp only [puts, Act.put, List.setIfInBounds_toArray, List.set_cons_zero, List.set_cons_succ, y0, y1, y4]
      clear hφ hψ hne y0 y1 y4 N_ XN_ D_ XD_ O_ XO_ HB_ hsz7
      have k0 := R0.out.cell 0
      have k1 := R0.out.cell 1
      have k2 := R0.out.cell 2
      have k3 := R0.out.cell 3
      go_wp2
      refine bodyPost_ret (v := .tuple #[.agg #[.bool q7501, .slice A7501 n7501 c7501, .bool q7502, .slice A7502 n7502 c7502], .int .i64 0]) (by simp [results, Try.results32, go_sem, k0, k1, k2, k3]) rfl ⟨⟨_, rfl, ?_⟩, HB.out⟩
      exact Pair.mk (a := .V zB) (b := .V 1) R01.out R02.out
theorem cutA_none {s : ByteArray} {c : UInt8} (h : cutF s c = false) : cutA s c = ByteArray.empty := by
  unfold cutF at h
  unfold cutA
  rw [if_neg (by simpa using h)]
theorem cm_le {x : Int} (h : x ≤ 1) : cm x 1 = -1 ∨ cm x 1 = 0 := by
  rcases Int.lt_trichotomy x 1 with h1 | h1 | h1
  · exact .inl (cm_lt h1)
  · exact .inr (cm_eq h1)
  · omega
/-- What Parse hands back, given how its two parts are read. -/
theorem parseR_gen (w : World) (s B A : ByteArray) (F : Bool) (eB eA zB zA : Int) (hs : s.size ≤ 9223372036854775807) (hB : cutB s 47 = B) (hA : cutA s 47 = A) (hF : cutF s 47 = F) (PB : PCon 63 B eB zB) (PA : PCon 63 A eA zA) (SB : Sm 2000 zB) (SA : Sm 2000 zA) :
    Calls Try.prog 32 #[.string s] w fun e w' => RetPE w' (rcf eB eA F (ngB A) zB zA) (if rcf eB eA F (ngB A) zB zA = 0 then zB else 0) (if rcf eB eA F (ngB A) zB zA = 0 then (if F = true then zA else 1) else 0) e ∧ Below w.heap.size w w' := by
  have hb : ∀ x y : Int, x ≠ y → (x == y) = false := fun x y h => by simpa using h
  have hn : ∀ x y : Int, x ≠ y → (x != y) = true := fun x y h => by simpa using h
  have hn0 : ∀ x y : Int, x = y → (x != y) = false := fun x y h => by simpa using h
  cases F with
  | false =>
    have hng : ngB A = false := by rw [← hA, cutA_none hF]; rfl
    by_cases h2 : eB = 2
    · have e : rcf eB eA false (ngB A) zB zA = 2 := by simp [rcf, h2]
      rw [e]
      exact pF_syn w s B A eB eA zB zA hs (hid hB) (hid hA) (hid hF) (hid PB) (hid PA) (hid SB) (hid SA) (by simpa using h2)
    by_cases h4 : eB = 0
    · have e : rcf eB eA false (ngB A) zB zA = 0 := by simp [rcf, h4]
      rw [e, if_pos rfl, if_pos rfl, if_neg (by decide)]
      exact pF_ok w s B A eB eA zB zA hs (hid hB) (hid hA) (hid hF) (hid PB) (hid PA) (hid SB) (hid SA) (hb _ _ h2) (hid hng) (hn0 _ _ h4)
    · have e : rcf eB eA false (ngB A) zB zA = 7 := by simp [rcf, h2, h4]
      rw [e]
      exact pF_lar w s B A eB eA zB zA hs (hid hB) (hid hA) (hid hF) (hid PB) (hid PA) (hid SB) (hid SA) (hb _ _ h2) (hid hng) (hn _ _ h4)
  | true =>
    by_cases h2 : eB = 2
    · have e : rcf eB eA true (ngB A) zB zA = 2 := by simp [rcf, h2]
      rw [e]
      exact pR_syn1 w s B A eB eA zB zA hs (hid hB) (hid hA) (hid hF) (hid PB) (hid PA) (hid SB) (hid SA) (by simpa using h2)
    by_cases h3 : eA = 2
    · have e : rcf eB eA true (ngB A) zB zA = 2 := by simp [rcf, h3]
      rw [e]
      exact pR_syn2 w s B A eB eA zB zA hs (hid hB) (hid hA) (hid hF) (hid PB) (hid PA) (hid SB) (hid SA) (hb _ _ h2) (by simpa using h3)
    cases hng : ngB A with
    | true =>
      have e : rcf eB eA true true zB zA = 2 := by simp [rcf]
      rw [e]
      exact pR_syn3 w s B A eB eA zB zA hs (hid hB) (hid hA) (hid hF) (hid PB) (hid PA) (hid SB) (hid SA) (hb _ _ h2) (hb _ _ h3) (hid hng)
    | false =>
      by_cases h4 : eB = 0
      · by_cases h5 : eA = 0
        · by_cases h6 : zA ≤ 1
          · have e : rcf eB eA true false zB zA = 1 := by simp [rcf, h4, h5, h6]
            rw [e]
            rcases cm_le h6 with h7 | h7
            · exact pR_le1 w s B A eB eA zB zA hs (hid hB) (hid hA) (hid hF) (hid PB) (hid PA) (hid SB) (hid SA) (hb _ _ h2) (hb _ _ h3) (hid hng) (hn0 _ _ h4) (hn0 _ _ h5) (hid h7)
            · exact pR_le2 w s B A eB eA zB zA hs (hid hB) (hid hA) (hid hF) (hid PB) (hid PA) (hid SB) (hid SA) (hb _ _ h2) (hb _ _ h3) (hid hng) (hn0 _ _ h4) (hn0 _ _ h5) (hid h7)
          · have hg : 0 < Int.gcd zB zA := Int.gcd_pos_of_ne_zero_right _ (by omega)
            by_cases h7 : 1 < (Int.gcd zB zA : Int)
            · have e : rcf eB eA true false zB zA = 1 := by simp [rcf, h4, h5]; omega
              rw [e]
              exact pR_gcd w s B A eB eA zB zA hs (hid hB) (hid hA) (hid hF) (hid PB) (hid PA) (hid SB) (hid SA) (hb _ _ h2) (hb _ _ h3) (hid hng) (hn0 _ _ h4) (hn0 _ _ h5) (hid (cm_gt (by omega))) (hid (cm_gt h7))
            · have e : rcf eB eA true false zB zA = 0 := by simp [rcf, h4, h5]; omega
              rw [e, if_pos rfl, if_pos rfl, if_pos rfl]
              exact pR_ok w s B A eB eA zB zA hs (hid hB) (hid hA) (hid hF) (hid PB) (hid PA) (hid SB) (hid SA) (hb _ _ h2) (hb _ _ h3) (hid hng) (hn0 _ _ h4) (hn0 _ _ h5) (hid (cm_gt (by omega))) (hid (cm_eq (by omega)))
        · have e : rcf eB eA true false zB zA = 7 := by simp [rcf, h3, h4, h5]
          rw [e]
          exact pR_lar2 w s B A eB eA zB zA hs (hid hB) (hid hA) (hid hF) (hid PB) (hid PA) (hid SB) (hid SA) (hb _ _ h2) (hb _ _ h3) (hid hng) (hn0 _ _ h4) (hn _ _ h5)
      · have e : rcf eB eA true false zB zA = 7 := by simp [rcf, h2, h3, h4]
        rw [e]
        exact pR_lar1 w s B A eB eA zB zA hs (hid hB) (hid hA) (hid hF) (hid PB) (hid PA) (hid SB) (hid SA) (hb _ _ h2) (hb _ _ h3) (hid hng) (hn _ _ h4)
/-- The error of a text, and what it is read as. -/
noncomputable def rE (s : ByteArray) : Int := rcf (pc (cutB s 47)) (pc (cutA s 47)) (cutF s 47) (ngB (cutA s 47)) (pz (cutB s 47)) (pz (cutA s 47))
noncomputable def rP (s : ByteArray) : Int := if rE s = 0 then pz (cutB s 47) else 0
noncomputable def rQ (s : ByteArray) : Int := if rE s = 0 then (if cutF s 47 = true then pz (cutA s 47) else 1) else 0
theorem parseR_any (w : World) (s : ByteArray) (hs : s.size ≤ 9223372036854775807) :
    Calls Try.prog 32 #[.string s] w fun e w' => RetPE w' (rE s) (rP s) (rQ s) e ∧ Below w.heap.size w w' :=
  parseR_gen w s _ _ _ _ _ _ _ hs rfl rfl rfl (parse_c _ (Nat.le_trans (cutB_size s 47) hs)) (parse_c _ (Nat.le_trans (cutA_size s 47) hs)) (pz_sm _) (pz_sm _)
end Go.Proofs.Ytijmjkkjopplbaa

