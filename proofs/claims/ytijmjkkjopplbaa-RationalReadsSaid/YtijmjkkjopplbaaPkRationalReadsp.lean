/- A part of the proof of the laws of rationals: RParseR, WRParses, WRReads. -/
import Derived.Test.YtijmjkkjopplbaaPae
import Derived.Test.YtijmjkkjopplbaaPam
import Derived.Test.YtijmjkkjopplbaaPkRationalReadsh
import Derived.Test.YtijmjkkjopplbaaPal
import Derived.Test.YtijmjkkjopplbaaPab
import Derived.Test.YtijmjkkjopplbaaPaf
import Derived.Test.YtijmjkkjopplbaaPad
import Derived.Test.YtijmjkkjopplbaaPkRationalReadsb
import Derived.Test.YtijmjkkjopplbaaPac
import Derived.Test.YtijmjkkjopplbaaPao
import Derived.Test.YtijmjkkjopplbaaPat
import Derived.Test.YtijmjkkjopplbaaPkRationalReadsa
import Derived.Test.YtijmjkkjopplbaaPaa
import Derived.Test.YtijmjkkjopplbaaPai
import Derived.Test.YtijmjkkjopplbaaPah
import Derived.Test.YtijmjkkjopplbaaPag
import Derived.Test.YtijmjkkjopplbaaPaj
import Derived.Test.YtijmjkkjopplbaaPax
import Derived.Test.YtijmjkkjopplbaaPas
import Derived.Test.YtijmjkkjopplbaaPkRationalReadsf
import Derived.Test.YtijmjkkjopplbaaPkRationalReadse
import Derived.Test.YtijmjkkjopplbaaPkRationalReadsg
import Derived.Test.YtijmjkkjopplbaaPkRationalReadsd
import Derived.Test.YtijmjkkjopplbaaPkRationalReadsj
import Derived.Test.YtijmjkkjopplbaaPau
import Derived.Test.YtijmjkkjopplbaaPkRationalReadsi
import Derived.Test.YtijmjkkjopplbaaPar
import Derived.Test.YtijmjkkjopplbaaPaw
import Derived.Test.YtijmjkkjopplbaaPap
import Derived.Test.YtijmjkkjopplbaaPkRationalReadsk
import Derived.Test.YtijmjkkjopplbaaPkRationalReadso
import Derived.Test.YtijmjkkjopplbaaPav
import Derived.Test.YtijmjkkjopplbaaPan
import Derived.Test.YtijmjkkjopplbaaPkRationalReadsc
import Derived.Test.YtijmjkkjopplbaaPak
import Derived.Test.YtijmjkkjopplbaaPkRationalReadsn
import Derived.Test.YtijmjkkjopplbaaPaBb
import Derived.Test.YtijmjkkjopplbaaPay
import Derived.Test.YtijmjkkjopplbaaPkRationalReadsl
import Derived.Test.YtijmjkkjopplbaaPaBa
import Derived.Test.YtijmjkkjopplbaaPaq
import Derived.Test.YtijmjkkjopplbaaPaz
namespace Go.Proofs.Ytijmjkkjopplbaa
open Go.RowKit
set_option linter.unusedVariables false
set_option maxRecDepth 100000

theorem rparse_c (s : ByteArray) (hs : s.size ≤ 9223372036854775807) : PCon 67 s (pc s) (pz s) := fun w => (rparse_any w s hs).mono fun e w' ⟨h, hb⟩ => ⟨parseOk_c h, hb⟩
/-- A question about a text has this answer. -/
def BCon (f : FuncId) (s : ByteArray) (b : Bool) : Prop := ∀ w : World, Calls Try.prog f #[.string s] w fun e w' => e = .returned (.bool b) ∧ Below w.heap.size w w'
theorem isn_c (s : ByteArray) (hs : s.size ≤ 9223372036854775807) : ∃ b, BCon 68 s b ∧ (b = true ↔ Num s) := by
  by_cases h : Num s
  · exact ⟨true, fun w => (isnumber_b w s hs).mono fun e w' ⟨hi, hb⟩ => ⟨by rcases hi with ⟨_, h2⟩ | ⟨h2, _⟩; exact h2; exact absurd h h2, hb⟩, by simp [h]⟩
  · exact ⟨false, fun w => (isnumber_b w s hs).mono fun e w' ⟨hi, hb⟩ => ⟨by rcases hi with ⟨h2, _⟩ | ⟨_, h2⟩; exact absurd h2 h; exact h2, hb⟩, by simp [h]⟩
theorem long_c (s : ByteArray) (hs : s.size ≤ 9223372036854775807) : BCon 69 s (decide (2000 < (dsB s).size)) := fun w => rlong_b w s hs

set_option maxHeartbeats 8000000 in
theorem qF_err (w : World) (s B A : ByteArray) (eB eA zB zA : Int) (nB nA lB lA : Bool) (hs : s.size ≤ 9223372036854775807) (hB : Hid (cutB s 47 = B)) (hA : Hid (cutA s 47 = A)) (hF : Hid (cutF s 47 = false)) (PB : Hid (PCon 67 B eB zB)) (PA : Hid (PCon 67 A eA zA)) (SB : Hid (Sm 2000 zB)) (SA : Hid (Sm 2000 zA)) (NB : Hid (BCon 68 B nB)) (NA : Hid (BCon 68 A nA)) (LB : Hid (BCon 69 B lB)) (LA : Hid (BCon 69 A lA)) (h4 : (eB != 0) = true) :
    Calls Try.prog 33 #[.string s] w fun e w' => RetPE w' eB 0 0 e ∧ Below w.heap.size w w' := by
  have HB := hid (Below.refl w.heap.size w)
  obtain ⟨W, hW⟩ : ∃ W, W = (w.alloc (.cells #[.bool false, .slice none 0 0, .bool false, .slice none 0 0] 26)) := ⟨_, rfl⟩
  have hbb : Below w.heap.size w W := by rw [hW]; exact (bw_alloc (Below.refl _ _) _)
  have HB := hid (bw_step HB.out hbb)
  have R0 : Hid (Blk W (w.heap.size) 26 #[.bool false, .slice none 0 0, .bool false, .slice none 0 0]) := by
    rw [hW]
    have := Blk.new w 26 #[.bool false, .slice none 0 0, .bool false, .slice none 0 0]
    exact hid (by simpa only [World.size_alloc] using this)
  clear hbb
  go_enter Try.func33, Try.ntmps33
  go_wp2_with fail
  rw [← hW]
  clear hW
  refine (cut_any s 47 _ hs).mono ?_
  rintro e W1 ⟨he, hb1⟩
  unfold CutOk at he
  rw [hB.out, hA.out, hF.out] at he
  subst he
  have HB := hid (bw_step HB.out hb1)
  have R0 := hid (R0.out.below hb1)
  clear hb1
  go_wp2_with fail
  refine (PB.out _).mono ?_
  rintro e W2 ⟨⟨v, rfl, hv⟩, hb2⟩
  have HB := hid (bw_step HB.out hb2)
  have R0 := hid (R0.out.below hb2)
  clear hb2
  have lq2_R0 := R0.out.lt
  have lq2 := HB.out.size
  obtain ⟨q21, A21, n21, c21, rfl⟩ := hv.form
  have N := hid hv
  clear hv
  have hbb := bw_alloc (Below.refl _ W2) (.cells #[.bool q21, .slice A21 n21 c21] 24)
  have XN := Blk.new W2 24 #[.bool q21, .slice A21 n21 c21]
  have HB := hid (bw_step HB.out hbb)
  have R0 := hid (R0.out.below hbb)
  have N := hid (N.out.below hbb)
  have XN := hid XN
  clear hbb
  go_wp2_with (with_reducible refine halt_at 28 rfl ?_)
  unfold Halted
  refine wp_list_each (by kernel_rfl) 4 79 rfl rfl (by kernel_rfl)
    [Fact.eq (.agg #[.bool false, .slice none 0 0, .bool false, .slice none 0 0]), Fact.eq (.int .i64 eB), Fact.top _, Fact.eq (.int .i64 eB)]
    [.val, .val, .fillOld 0, .val]
    (fun w' => IntV w' (.agg #[.bool q21, .slice A21 n21 c21]) (zB) ∧ Blk w' (W2.heap.size) 24 #[.bool q21, .slice A21 n21 c21] ∧ Below w.heap.size w w')
    (fun l b w' => match l with
      | 0 => if b = true then BoxR w' (w.heap.size) 26 (.V 0) (.V 0) else Blk w' (w.heap.size) 26 #[.bool false, .slice none 0 0, .bool false, .slice none 0 0]
      | _ => True)
    [2] (fun l => match l with | 0 => w.heap.size | _ => 0) (by kernel_rfl)
    ⟨N.out, XN.out, HB.out⟩
    (fun w1 w2 ⟨h0, h1, h2⟩ hb => ⟨h0.below hb, h1.below hb, bw_step h2 hb⟩)
    (fun w1 w2 g ⟨h0, h1, h2⟩ hg hn ho => by
      have hg' : (W2.alloc (.cells #[.bool q21, .slice A21 n21 c21] 24)).heap.size ≤ g ∨ g = w.heap.size := by
        rcases hg with h | ⟨l, hl, h⟩
        · exact .inl h
        · rcases l with _ | l
          · exact .inr h
          · exact absurd hl (by simp)
      exact ⟨h0.only hn ho, h1.only ho (by have := R0.out.lt; have := XN.out.lt; omega), below_only h2 ho (by have := R0.out.lt; have := XN.out.lt; have := HB.out.size; omega)⟩)
    (fun l hl => by
        rcases l with _ | l
        · exact R0.out
        · exact absurd hl (by simp))
    (fun l b w1 w2 hl h hb => by
        rcases l with _ | l
        · (cases b <;> exact h.below hb)
        · exact absurd hl (by simp))
    (fun l b w1 w2 g hl h hg hn ho => by
        rcases l with _ | l
        · (cases b; (exact h.only ho (Ne.symm hg)); (exact h.only (Ne.symm hg) hn ho))
        · exact absurd hl (by simp))
    (fun l hl => by
        rcases l with _ | l
        · exact R0.out.lt
        · exact absurd hl (by simp))
    (fun l k hl hk hne => by rcases l with _ | l <;> rcases k with _ | k <;> simp at hl hk hne)
    ?_ ?_
  · refine ⟨?_, ?_, ?_, ?_, trivial⟩ <;> intro L V a1 w1 hf hG hsz hφ hψ hL hdep hcl
    · obtain ⟨N_, XN_, HB_⟩ := hG
      exact ob_pure (ex_zeroR rfl) rfl
    · obtain ⟨N_, XN_, HB_⟩ := hG
      have e8 := old_slot hf 8 (by kernel_rfl)
      exact ob_pure (v := .int .i64 eB) (ex_moveV rfl e8) rfl
    · obtain ⟨N_, XN_, HB_⟩ := hG
      have d0 := dep_of hdep 0 (by kernel_rfl)
      have e28 := (new_slot hf 0 28 d0 (by kernel_rfl)).trans (show V 0 = .agg #[.bool false, .slice none 0 0, .bool false, .slice none 0 0] from hφ 0 d0)
      have e2 := old_slot hf 2 (by kernel_rfl)
      have hb0 := hψ 0 (by decide)
      rw [show [2].getD 0 0 = 2 from rfl, hL] at hb0
      exact ob_fillOldR rfl e2 e28 hb0 (Pair.mk (a := .V 0) (b := .V 0) (IntV.zero _) (IntV.zero _)) (fun w2 h => h) rfl
    · obtain ⟨N_, XN_, HB_⟩ := hG
      have d1 := dep_of hdep 1 (by kernel_rfl)
      have e29 := (new_slot hf 1 29 d1 (by kernel_rfl)).trans (show V 1 = .int .i64 eB from hφ 1 d1)
      exact ob_pure (v := .int .i64 eB) (ex_assignV rfl e29) rfl
  · intro V W3 hG hsz3 hφ hψ hne
    have hlt3 : (W2.alloc (.cells #[.bool q21, .slice A21 n21 c21] 24)).heap.size ≤ W3.heap.size := hsz3
    obtain ⟨N_, XN_, HB_⟩ := hG
    have N := hid N_
    have XN := hid XN_
    have HB := hid HB_
    have y0 : V 0 = .agg #[.bool false, .slice none 0 0, .bool false, .slice none 0 0] := hφ 0 (by decide)
    have y1 : V 1 = .int .i64 eB := hφ 1 (by decide)
    have y3 : V 3 = .int .i64 eB := hφ 3 (by decide)
    obtain ⟨q3501, A3501, n3501, c3501, q3502, A3502, n3502, c3502, kb350, va350, vb350⟩ := hψ 0 (by decide)
    have R0 := hid kb350
    have R01 : Hid (IntV W3 (.agg #[.bool q3501, .slice A3501 n3501 c3501]) 0) := hid va350
    have R02 : Hid (IntV W3 (.agg #[.bool q3502, .slice A3502 n3502 c3502]) 0) := hid vb350
    clear kb350 va350 vb350
    simp only [puts, Act.put, List.setIfInBounds_toArray, List.set_cons_zero, List.set_cons_succ, y0, y1, y3]
    clear hφ hψ hne y0 y1 y3 N_ XN_ HB_ hsz3
    have k0 := R0.out.cell 0
    have k1 := R0.out.cell 1
    have k2 := R0.out.cell 2
    have k3 := R0.out.cell 3
    go_wp2
    refine bodyPost_ret (v := .tuple #[.agg #[.bool q3501, .slice A3501 n3501 c3501, .bool q3502, .slice A3502 n3502 c3502], .int .i64 eB]) (by simp [results, Try.results33, go_sem, k0, k1, k2, k3]) rfl ⟨⟨_, rfl, ?_⟩, HB.out⟩
    exact Pair.mk (a := .V 0) (b := .V 0) R01.out R02.out
set_option maxHeartbeats 8000000 in
theorem qF_ok (w : World) (s B A : ByteArray) (eB eA zB zA : Int) (nB nA lB lA : Bool) (hs : s.size ≤ 9223372036854775807) (hB : Hid (cutB s 47 = B)) (hA : Hid (cutA s 47 = A)) (hF : Hid (cutF s 47 = false)) (PB : Hid (PCon 67 B eB zB)) (PA : Hid (PCon 67 A eA zA)) (SB : Hid (Sm 2000 zB)) (SA : Hid (Sm 2000 zA)) (NB : Hid (BCon 68 B nB)) (NA : Hid (BCon 68 A nA)) (LB : Hid (BCon 69 B lB)) (LA : Hid (BCon 69 A lA)) (h4 : (eB != 0) = false) :
    Calls Try.prog 33 #[.string s] w fun e w' => RetPE w' 0 ((zB : Int) : Rat).num (((zB : Int) : Rat).den : Int) e ∧ Below w.heap.size w w' := by
  have HB := hid (Below.refl w.heap.size w)
  obtain ⟨W, hW⟩ : ∃ W, W = (w.alloc (.cells #[.bool false, .slice none 0 0, .bool false, .slice none 0 0] 26)) := ⟨_, rfl⟩
  have hbb : Below w.heap.size w W := by rw [hW]; exact (bw_alloc (Below.refl _ _) _)
  have HB := hid (bw_step HB.out hbb)
  have R0 : Hid (Blk W (w.heap.size) 26 #[.bool false, .slice none 0 0, .bool false, .slice none 0 0]) := by
    rw [hW]
    have := Blk.new w 26 #[.bool false, .slice none 0 0, .bool false, .slice none 0 0]
    exact hid (by simpa only [World.size_alloc] using this)
  clear hbb
  go_enter Try.func33, Try.ntmps33
  go_wp2_with fail
  rw [← hW]
  clear hW
  refine (cut_any s 47 _ hs).mono ?_
  rintro e W1 ⟨he, hb1⟩
  unfold CutOk at he
  rw [hB.out, hA.out, hF.out] at he
  subst he
  have HB := hid (bw_step HB.out hb1)
  have R0 := hid (R0.out.below hb1)
  clear hb1
  go_wp2_with fail
  refine (PB.out _).mono ?_
  rintro e W2 ⟨⟨v, rfl, hv⟩, hb2⟩
  have HB := hid (bw_step HB.out hb2)
  have R0 := hid (R0.out.below hb2)
  clear hb2
  have lq2_R0 := R0.out.lt
  have lq2 := HB.out.size
  obtain ⟨q21, A21, n21, c21, rfl⟩ := hv.form
  have N := hid hv
  clear hv
  have hbb := bw_alloc (Below.refl _ W2) (.cells #[.bool q21, .slice A21 n21 c21] 24)
  have XN := Blk.new W2 24 #[.bool q21, .slice A21 n21 c21]
  have HB := hid (bw_step HB.out hbb)
  have R0 := hid (R0.out.below hbb)
  have N := hid (N.out.below hbb)
  have XN := hid XN
  clear hbb
  go_wp2_with (with_reducible refine halt_at 30 rfl ?_)
  have RS3 : Hid (RS 2000 ((zB : Int) : Rat)) := hid (RS.int (SB.out) (by omega))
  unfold Halted
  refine wp_list_each (by kernel_rfl) 4 79 rfl rfl (by kernel_rfl)
    [Fact.eq (.agg #[.bool q21, .slice A21 n21 c21]), Fact.pair (.V (((zB : Int) : Rat)).num) (.V ((((zB : Int) : Rat)).den : Int)), Fact.top _, Fact.eq (.int .i64 0)]
    [.val, .val, .fillOld 0, .val]
    (fun w' => IntV w' (.agg #[.bool q21, .slice A21 n21 c21]) (zB) ∧ Blk w' (W2.heap.size) 24 #[.bool q21, .slice A21 n21 c21] ∧ Below w.heap.size w w')
    (fun l b w' => match l with
      | 0 => if b = true then BoxR w' (w.heap.size) 26 (.V (((zB : Int) : Rat)).num) (.V ((((zB : Int) : Rat)).den : Int)) else Blk w' (w.heap.size) 26 #[.bool false, .slice none 0 0, .bool false, .slice none 0 0]
      | _ => True)
    [2] (fun l => match l with | 0 => w.heap.size | _ => 0) (by kernel_rfl)
    ⟨N.out, XN.out, HB.out⟩
    (fun w1 w2 ⟨h0, h1, h2⟩ hb => ⟨h0.below hb, h1.below hb, bw_step h2 hb⟩)
    (fun w1 w2 g ⟨h0, h1, h2⟩ hg hn ho => by
      have hg' : (W2.alloc (.cells #[.bool q21, .slice A21 n21 c21] 24)).heap.size ≤ g ∨ g = w.heap.size := by
        rcases hg with h | ⟨l, hl, h⟩
        · exact .inl h
        · rcases l with _ | l
          · exact .inr h
          · exact absurd hl (by simp)
      exact ⟨h0.only hn ho, h1.only ho (by have := R0.out.lt; have := XN.out.lt; omega), below_only h2 ho (by have := R0.out.lt; have := XN.out.lt; have := HB.out.size; omega)⟩)
    (fun l hl => by
        rcases l with _ | l
        · exact R0.out
        · exact absurd hl (by simp))
    (fun l b w1 w2 hl h hb => by
        rcases l with _ | l
        · (cases b <;> exact h.below hb)
        · exact absurd hl (by simp))
    (fun l b w1 w2 g hl h hg hn ho => by
        rcases l with _ | l
        · (cases b; (exact h.only ho (Ne.symm hg)); (exact h.only (Ne.symm hg) hn ho))
        · exact absurd hl (by simp))
    (fun l hl => by
        rcases l with _ | l
        · exact R0.out.lt
        · exact absurd hl (by simp))
    (fun l k hl hk hne => by rcases l with _ | l <;> rcases k with _ | k <;> simp at hl hk hne)
    ?_ ?_
  · refine ⟨?_, ?_, ?_, ?_, trivial⟩ <;> intro L V a1 w1 hf hG hsz hφ hψ hL hdep hcl
    · obtain ⟨N_, XN_, HB_⟩ := hG
      have e7 := old_slot hf 7 (by kernel_rfl)
      exact ob_load_int rfl e7 XN_ rfl
    · obtain ⟨N_, XN_, HB_⟩ := hG
      have d0 := dep_of hdep 0 (by kernel_rfl)
      have e30 := (new_slot hf 0 30 d0 (by kernel_rfl)).trans (show V 0 = .agg #[.bool q21, .slice A21 n21 c21] from hφ 0 d0)
      refine ob_go rfl (vs := #[.agg #[.bool q21, .slice A21 n21 c21]]) (by simp only [List.map_toArray, List.map_cons, List.map_nil, e30]) (by kernel_rfl) (rwholeR_any _ _ zB 2000 (IntV.arg N_ (Sm.to (SB.out) (by omega)))) ?_
      rintro e w2 ⟨⟨v, rfl, hv⟩, hb⟩
      exact ⟨v, rfl, hb, hv⟩
    · obtain ⟨N_, XN_, HB_⟩ := hG
      have d1 := dep_of hdep 1 (by kernel_rfl)
      have e31 := new_slot hf 1 31 d1 (by kernel_rfl)
      have p31 : Pair w1 (V 1) (.V (((zB : Int) : Rat)).num) (.V ((((zB : Int) : Rat)).den : Int)) := hφ 1 d1
      have e2 := old_slot hf 2 (by kernel_rfl)
      have hb0 := hψ 0 (by decide)
      rw [show [2].getD 0 0 = 2 from rfl, hL] at hb0
      exact ob_fillOldR rfl e2 e31 hb0 p31 (fun w2 h => h) rfl
    · obtain ⟨N_, XN_, HB_⟩ := hG
      exact ob_pure (v := .int .i64 0) (ex_assignV rfl rfl) rfl
  · intro V W4 hG hsz4 hφ hψ hne
    have hlt4 : (W2.alloc (.cells #[.bool q21, .slice A21 n21 c21] 24)).heap.size ≤ W4.heap.size := hsz4
    obtain ⟨N_, XN_, HB_⟩ := hG
    have N := hid N_
    have XN := hid XN_
    have HB := hid HB_
    have y0 : V 0 = .agg #[.bool q21, .slice A21 n21 c21] := hφ 0 (by decide)
    have y3 : V 3 = .int .i64 0 := hφ 3 (by decide)
    obtain ⟨q4501, A4501, n4501, c4501, q4502, A4502, n4502, c4502, kb450, va450, vb450⟩ := hψ 0 (by decide)
    have R0 := hid kb450
    have R01 : Hid (IntV W4 (.agg #[.bool q4501, .slice A4501 n4501 c4501]) (((zB : Int) : Rat)).num) := hid va450
    have R02 : Hid (IntV W4 (.agg #[.bool q4502, .slice A4502 n4502 c4502]) ((((zB : Int) : Rat)).den : Int)) := hid vb450
    clear kb450 va450 vb450
    simp only [puts, Act.put, List.setIfInBounds_toArray, List.set_cons_zero, List.set_cons_succ, y0, y3]
    clear hφ hψ hne y0 y3 N_ XN_ HB_ hsz4
    have k0 := R0.out.cell 0
    have k1 := R0.out.cell 1
    have k2 := R0.out.cell 2
    have k3 := R0.out.cell 3
    go_wp2
    refine bodyPost_ret (v := .tuple #[.agg #[.bool q4501, .slice A4501 n4501 c4501, .bool q4502, .slice A4502 n4502 c4502], .int .i64 0]) (by simp [results, Try.results33, go_sem, k0, k1, k2, k3]) rfl ⟨⟨_, rfl, ?_⟩, HB.out⟩
    exact Pair.mk (a := .V ((zB : Int) : Rat).num) (b := .V (((zB : Int) : Rat).den : Int)) R01.out R02.out
set_option maxHeartbeats 8000000 in
theorem qR_syn1 (w : World) (s B A : ByteArray) (eB eA zB zA : Int) (nA lB lA : Bool) (hs : s.size ≤ 9223372036854775807) (hB : Hid (cutB s 47 = B)) (hA : Hid (cutA s 47 = A)) (hF : Hid (cutF s 47 = true)) (PB : Hid (PCon 67 B eB zB)) (PA : Hid (PCon 67 A eA zA)) (SB : Hid (Sm 2000 zB)) (SA : Hid (Sm 2000 zA)) (NB : Hid (BCon 68 B false)) (NA : Hid (BCon 68 A nA)) (LB : Hid (BCon 69 B lB)) (LA : Hid (BCon 69 A lA))  :
    Calls Try.prog 33 #[.string s] w fun e w' => RetPE w' 2 0 0 e ∧ Below w.heap.size w w' := by
  have HB := hid (Below.refl w.heap.size w)
  obtain ⟨W, hW⟩ : ∃ W, W = (w.alloc (.cells #[.bool false, .slice none 0 0, .bool false, .slice none 0 0] 26)) := ⟨_, rfl⟩
  have hbb : Below w.heap.size w W := by rw [hW]; exact (bw_alloc (Below.refl _ _) _)
  have HB := hid (bw_step HB.out hbb)
  have R0 : Hid (Blk W (w.heap.size) 26 #[.bool false, .slice none 0 0, .bool false, .slice none 0 0]) := by
    rw [hW]
    have := Blk.new w 26 #[.bool false, .slice none 0 0, .bool false, .slice none 0 0]
    exact hid (by simpa only [World.size_alloc] using this)
  clear hbb
  go_enter Try.func33, Try.ntmps33
  go_wp2_with fail
  rw [← hW]
  clear hW
  refine (cut_any s 47 _ hs).mono ?_
  rintro e W1 ⟨he, hb1⟩
  unfold CutOk at he
  rw [hB.out, hA.out, hF.out] at he
  subst he
  have HB := hid (bw_step HB.out hb1)
  have R0 := hid (R0.out.below hb1)
  clear hb1
  go_wp2_with fail
  refine (NB.out _).mono ?_
  rintro e W2 ⟨rfl, hb2⟩
  have HB := hid (bw_step HB.out hb2)
  have R0 := hid (R0.out.below hb2)
  clear hb2
  go_wp2_with (with_reducible refine halt_at 45 rfl ?_)
  unfold Halted
  refine wp_list_each (by kernel_rfl) 3 79 rfl rfl (by kernel_rfl)
    [Fact.eq (.agg #[.bool false, .slice none 0 0, .bool false, .slice none 0 0]), Fact.top _, Fact.eq (.int .i64 2)]
    [.val, .fillOld 0, .val]
    (fun w' => Below w.heap.size w w')
    (fun l b w' => match l with
      | 0 => if b = true then BoxR w' (w.heap.size) 26 (.V 0) (.V 0) else Blk w' (w.heap.size) 26 #[.bool false, .slice none 0 0, .bool false, .slice none 0 0]
      | _ => True)
    [1] (fun l => match l with | 0 => w.heap.size | _ => 0) (by kernel_rfl)
    HB.out
    (fun w1 w2 h0 hb => bw_step h0 hb)
    (fun w1 w2 g h0 hg hn ho => by
      have hg' : W2.heap.size ≤ g ∨ g = w.heap.size := by
        rcases hg with h | ⟨l, hl, h⟩
        · exact .inl h
        · rcases l with _ | l
          · exact .inr h
          · exact absurd hl (by simp)
      exact below_only h0 ho (by have := R0.out.lt; have := HB.out.size; omega))
    (fun l hl => by
        rcases l with _ | l
        · exact R0.out
        · exact absurd hl (by simp))
    (fun l b w1 w2 hl h hb => by
        rcases l with _ | l
        · (cases b <;> exact h.below hb)
        · exact absurd hl (by simp))
    (fun l b w1 w2 g hl h hg hn ho => by
        rcases l with _ | l
        · (cases b; (exact h.only ho (Ne.symm hg)); (exact h.only (Ne.symm hg) hn ho))
        · exact absurd hl (by simp))
    (fun l hl => by
        rcases l with _ | l
        · exact R0.out.lt
        · exact absurd hl (by simp))
    (fun l k hl hk hne => by rcases l with _ | l <;> rcases k with _ | k <;> simp at hl hk hne)
    ?_ ?_
  · refine ⟨?_, ?_, ?_, trivial⟩ <;> intro L V a1 w1 hf hG hsz hφ hψ hL hdep hcl
    · skip
      exact ob_pure (ex_zeroR rfl) rfl
    · skip
      have d0 := dep_of hdep 0 (by kernel_rfl)
      have e45 := (new_slot hf 0 45 d0 (by kernel_rfl)).trans (show V 0 = .agg #[.bool false, .slice none 0 0, .bool false, .slice none 0 0] from hφ 0 d0)
      have e2 := old_slot hf 2 (by kernel_rfl)
      have hb0 := hψ 0 (by decide)
      rw [show [1].getD 0 0 = 1 from rfl, hL] at hb0
      exact ob_fillOldR rfl e2 e45 hb0 (Pair.mk (a := .V 0) (b := .V 0) (IntV.zero _) (IntV.zero _)) (fun w2 h => h) rfl
    · skip
      exact ob_pure (v := .int .i64 2) (ex_assignV rfl rfl) rfl
  · intro V W3 hG hsz3 hφ hψ hne
    have hlt3 : W2.heap.size ≤ W3.heap.size := hsz3
    have HB_ := hG
    have HB := hid HB_
    have y0 : V 0 = .agg #[.bool false, .slice none 0 0, .bool false, .slice none 0 0] := hφ 0 (by decide)
    have y2 : V 2 = .int .i64 2 := hφ 2 (by decide)
    obtain ⟨q3501, A3501, n3501, c3501, q3502, A3502, n3502, c3502, kb350, va350, vb350⟩ := hψ 0 (by decide)
    have R0 := hid kb350
    have R01 : Hid (IntV W3 (.agg #[.bool q3501, .slice A3501 n3501 c3501]) 0) := hid va350
    have R02 : Hid (IntV W3 (.agg #[.bool q3502, .slice A3502 n3502 c3502]) 0) := hid vb350
    clear kb350 va350 vb350
    simp only [puts, Act.put, List.setIfInBounds_toArray, List.set_cons_zero, List.set_cons_succ, y0, y2]
    clear hφ hψ hne y0 y2 HB_ hsz3
    have k0 := R0.out.cell 0
    have k1 := R0.out.cell 1
    have k2 := R0.out.cell 2
    have k3 := R0.out.cell 3
    go_wp2
    refine bodyPost_ret (v := .tuple #[.agg #[.bool q3501, .slice A3501 n3501 c3501, .bool q3502, .slice A3502 n3502 c3502], .int .i64 2]) (by simp [results, Try.results33, go_sem, k0, k1, k2, k3]) rfl ⟨⟨_, rfl, ?_⟩, HB.out⟩
    exact Pair.mk (a := .V 0) (b := .V 0) R01.out R02.out
set_option maxHeartbeats 8000000 in
theorem qR_syn2 (w : World) (s B A : ByteArray) (eB eA zB zA : Int) (lB lA : Bool) (hs : s.size ≤ 9223372036854775807) (hB : Hid (cutB s 47 = B)) (hA : Hid (cutA s 47 = A)) (hF : Hid (cutF s 47 = true)) (PB : Hid (PCon 67 B eB zB)) (PA : Hid (PCon 67 A eA zA)) (SB : Hid (Sm 2000 zB)) (SA : Hid (Sm 2000 zA)) (NB : Hid (BCon 68 B true)) (NA : Hid (BCon 68 A false)) (LB : Hid (BCon 69 B lB)) (LA : Hid (BCon 69 A lA))  :
    Calls Try.prog 33 #[.string s] w fun e w' => RetPE w' 2 0 0 e ∧ Below w.heap.size w w' := by
  have HB := hid (Below.refl w.heap.size w)
  obtain ⟨W, hW⟩ : ∃ W, W = (w.alloc (.cells #[.bool false, .slice none 0 0, .bool false, .slice none 0 0] 26)) := ⟨_, rfl⟩
  have hbb : Below w.heap.size w W := by rw [hW]; exact (bw_alloc (Below.refl _ _) _)
  have HB := hid (bw_step HB.out hbb)
  have R0 : Hid (Blk W (w.heap.size) 26 #[.bool false, .slice none 0 0, .bool false, .slice none 0 0]) := by
    rw [hW]
    have := Blk.new w 26 #[.bool false, .slice none 0 0, .bool false, .slice none 0 0]
    exact hid (by simpa only [World.size_alloc] using this)
  clear hbb
  go_enter Try.func33, Try.ntmps33
  go_wp2_with fail
  rw [← hW]
  clear hW
  refine (cut_any s 47 _ hs).mono ?_
  rintro e W1 ⟨he, hb1⟩
  unfold CutOk at he
  rw [hB.out, hA.out, hF.out] at he
  subst he
  have HB := hid (bw_step HB.out hb1)
  have R0 := hid (R0.out.below hb1)
  clear hb1
  go_wp2_with fail
  refine (NB.out _).mono ?_
  rintro e W2 ⟨rfl, hb2⟩
  have HB := hid (bw_step HB.out hb2)
  have R0 := hid (R0.out.below hb2)
  clear hb2
  go_wp2_with fail
  refine (NA.out _).mono ?_
  rintro e W3 ⟨rfl, hb3⟩
  have HB := hid (bw_step HB.out hb3)
  have R0 := hid (R0.out.below hb3)
  clear hb3
  go_wp2_with (with_reducible refine halt_at 45 rfl ?_)
  unfold Halted
  refine wp_list_each (by kernel_rfl) 3 79 rfl rfl (by kernel_rfl)
    [Fact.eq (.agg #[.bool false, .slice none 0 0, .bool false, .slice none 0 0]), Fact.top _, Fact.eq (.int .i64 2)]
    [.val, .fillOld 0, .val]
    (fun w' => Below w.heap.size w w')
    (fun l b w' => match l with
      | 0 => if b = true then BoxR w' (w.heap.size) 26 (.V 0) (.V 0) else Blk w' (w.heap.size) 26 #[.bool false, .slice none 0 0, .bool false, .slice none 0 0]
      | _ => True)
    [1] (fun l => match l with | 0 => w.heap.size | _ => 0) (by kernel_rfl)
    HB.out
    (fun w1 w2 h0 hb => bw_step h0 hb)
    (fun w1 w2 g h0 hg hn ho => by
      have hg' : W3.heap.size ≤ g ∨ g = w.heap.size := by
        rcases hg with h | ⟨l, hl, h⟩
        · exact .inl h
        · rcases l with _ | l
          · exact .inr h
          · exact absurd hl (by simp)
      exact below_only h0 ho (by have := R0.out.lt; have := HB.out.size; omega))
    (fun l hl => by
        rcases l with _ | l
        · exact R0.out
        · exact absurd hl (by simp))
    (fun l b w1 w2 hl h hb => by
        rcases l with _ | l
        · (cases b <;> exact h.below hb)
        · exact absurd hl (by simp))
    (fun l b w1 w2 g hl h hg hn ho => by
        rcases l with _ | l
        · (cases b; (exact h.only ho (Ne.symm hg)); (exact h.only (Ne.symm hg) hn ho))
        · exact absurd hl (by simp))
    (fun l hl => by
        rcases l with _ | l
        · exact R0.out.lt
        · exact absurd hl (by simp))
    (fun l k hl hk hne => by rcases l with _ | l <;> rcases k with _ | k <;> simp at hl hk hne)
    ?_ ?_
  · refine ⟨?_, ?_, ?_, trivial⟩ <;> intro L V a1 w1 hf hG hsz hφ hψ hL hdep hcl
    · skip
      exact ob_pure (ex_zeroR rfl) rfl
    · skip
      have d0 := dep_of hdep 0 (by kernel_rfl)
      have e45 := (new_slot hf 0 45 d0 (by kernel_rfl)).trans (show V 0 = .agg #[.bool false, .slice none 0 0, .bool false, .slice none 0 0] from hφ 0 d0)
      have e2 := old_slot hf 2 (by kernel_rfl)
      have hb0 := hψ 0 (by decide)
      rw [show [1].getD 0 0 = 1 from rfl, hL] at hb0
      exact ob_fillOldR rfl e2 e45 hb0 (Pair.mk (a := .V 0) (b := .V 0) (IntV.zero _) (IntV.zero _)) (fun w2 h => h) rfl
    · skip
      exact ob_pure (v := .int .i64 2) (ex_assignV rfl rfl) rfl
  · intro V W4 hG hsz4 hφ hψ hne
    have hlt4 : W3.heap.size ≤ W4.heap.size := hsz4
    have HB_ := hG
    have HB := hid HB_
    have y0 : V 0 = .agg #[.bool false, .slice none 0 0, .bool false, .slice none 0 0] := hφ 0 (by decide)
    have y2 : V 2 = .int .i64 2 := hφ 2 (by decide)
    obtain ⟨q4501, A4501, n4501, c4501, q4502, A4502, n4502, c4502, kb450, va450, vb450⟩ := hψ 0 (by decide)
    have R0 := hid kb450
    have R01 : Hid (IntV W4 (.agg #[.bool q4501, .slice A4501 n4501 c4501]) 0) := hid va450
    have R02 : Hid (IntV W4 (.agg #[.bool q4502, .slice A4502 n4502 c4502]) 0) := hid vb450
    clear kb450 va450 vb450
    simp only [puts, Act.put, List.setIfInBounds_toArray, List.set_cons_zero, List.set_cons_succ, y0, y2]
    clear hφ hψ hne y0 y2 HB_ hsz4
    have k0 := R0.out.cell 0
    have k1 := R0.out.cell 1
    have k2 := R0.out.cell 2
    have k3 := R0.out.cell 3
    go_wp2
    refine bodyPost_ret (v := .tuple #[.agg #[.bool q4501, .slice A4501 n4501 c4501, .bool q4502, .slice A4502 n4502 c4502], .int .i64 2]) (by simp [results, Try.results33, go_sem, k0, k1, k2, k3]) rfl ⟨⟨_, rfl, ?_⟩, HB.out⟩
    exact Pair.mk (a := .V 0) (b := .V 0) R01.out R02.out
set_option maxHeartbeats 8000000 in
theorem qR_syn3 (w : World) (s B A : ByteArray) (eB eA zB zA : Int) (lB lA : Bool) (hs : s.size ≤ 9223372036854775807) (hB : Hid (cutB s 47 = B)) (hA : Hid (cutA s 47 = A)) (hF : Hid (cutF s 47 = true)) (PB : Hid (PCon 67 B eB zB)) (PA : Hid (PCon 67 A eA zA)) (SB : Hid (Sm 2000 zB)) (SA : Hid (Sm 2000 zA)) (NB : Hid (BCon 68 B true)) (NA : Hid (BCon 68 A true)) (LB : Hid (BCon 69 B lB)) (LA : Hid (BCon 69 A lA)) (h0 : 0 < A.size) (hd : ((((A[0]'h0).toNat : Nat) : Int) == 45) = true) :
    Calls Try.prog 33 #[.string s] w fun e w' => RetPE w' 2 0 0 e ∧ Below w.heap.size w w' := by
  have HB := hid (Below.refl w.heap.size w)
  obtain ⟨W, hW⟩ : ∃ W, W = (w.alloc (.cells #[.bool false, .slice none 0 0, .bool false, .slice none 0 0] 26)) := ⟨_, rfl⟩
  have hbb : Below w.heap.size w W := by rw [hW]; exact (bw_alloc (Below.refl _ _) _)
  have HB := hid (bw_step HB.out hbb)
  have R0 : Hid (Blk W (w.heap.size) 26 #[.bool false, .slice none 0 0, .bool false, .slice none 0 0]) := by
    rw [hW]
    have := Blk.new w 26 #[.bool false, .slice none 0 0, .bool false, .slice none 0 0]
    exact hid (by simpa only [World.size_alloc] using this)
  clear hbb
  go_enter Try.func33, Try.ntmps33
  go_wp2_with fail
  rw [← hW]
  clear hW
  refine (cut_any s 47 _ hs).mono ?_
  rintro e W1 ⟨he, hb1⟩
  unfold CutOk at he
  rw [hB.out, hA.out, hF.out] at he
  subst he
  have HB := hid (bw_step HB.out hb1)
  have R0 := hid (R0.out.below hb1)
  clear hb1
  go_wp2_with fail
  refine (NB.out _).mono ?_
  rintro e W2 ⟨rfl, hb2⟩
  have HB := hid (bw_step HB.out hb2)
  have R0 := hid (R0.out.below hb2)
  clear hb2
  go_wp2_with fail
  refine (NA.out _).mono ?_
  rintro e W3 ⟨rfl, hb3⟩
  have HB := hid (bw_step HB.out hb3)
  have R0 := hid (R0.out.below hb3)
  clear hb3
  go_wp2_with (with_reducible refine halt_at 45 rfl ?_)
  unfold Halted
  refine wp_list_each (by kernel_rfl) 3 79 rfl rfl (by kernel_rfl)
    [Fact.eq (.agg #[.bool false, .slice none 0 0, .bool false, .slice none 0 0]), Fact.top _, Fact.eq (.int .i64 2)]
    [.val, .fillOld 0, .val]
    (fun w' => Below w.heap.size w w')
    (fun l b w' => match l with
      | 0 => if b = true then BoxR w' (w.heap.size) 26 (.V 0) (.V 0) else Blk w' (w.heap.size) 26 #[.bool false, .slice none 0 0, .bool false, .slice none 0 0]
      | _ => True)
    [1] (fun l => match l with | 0 => w.heap.size | _ => 0) (by kernel_rfl)
    HB.out
    (fun w1 w2 h0 hb => bw_step h0 hb)
    (fun w1 w2 g h0 hg hn ho => by
      have hg' : W3.heap.size ≤ g ∨ g = w.heap.size := by
        rcases hg with h | ⟨l, hl, h⟩
        · exact .inl h
        · rcases l with _ | l
          · exact .inr h
          · exact absurd hl (by simp)
      exact below_only h0 ho (by have := R0.out.lt; have := HB.out.size; omega))
    (fun l hl => by
        rcases l with _ | l
        · exact R0.out
        · exact absurd hl (by simp))
    (fun l b w1 w2 hl h hb => by
        rcases l with _ | l
        · (cases b <;> exact h.below hb)
        · exact absurd hl (by simp))
    (fun l b w1 w2 g hl h hg hn ho => by
        rcases l with _ | l
        · (cases b; (exact h.only ho (Ne.symm hg)); (exact h.only (Ne.symm hg) hn ho))
        · exact absurd hl (by simp))
    (fun l hl => by
        rcases l with _ | l
        · exact R0.out.lt
        · exact absurd hl (by simp))
    (fun l k hl hk hne => by rcases l with _ | l <;> rcases k with _ | k <;> simp at hl hk hne)
    ?_ ?_
  · refine ⟨?_, ?_, ?_, trivial⟩ <;> intro L V a1 w1 hf hG hsz hφ hψ hL hdep hcl
    · skip
      exact ob_pure (ex_zeroR rfl) rfl
    · skip
      have d0 := dep_of hdep 0 (by kernel_rfl)
      have e45 := (new_slot hf 0 45 d0 (by kernel_rfl)).trans (show V 0 = .agg #[.bool false, .slice none 0 0, .bool false, .slice none 0 0] from hφ 0 d0)
      have e2 := old_slot hf 2 (by kernel_rfl)
      have hb0 := hψ 0 (by decide)
      rw [show [1].getD 0 0 = 1 from rfl, hL] at hb0
      exact ob_fillOldR rfl e2 e45 hb0 (Pair.mk (a := .V 0) (b := .V 0) (IntV.zero _) (IntV.zero _)) (fun w2 h => h) rfl
    · skip
      exact ob_pure (v := .int .i64 2) (ex_assignV rfl rfl) rfl
  · intro V W4 hG hsz4 hφ hψ hne
    have hlt4 : W3.heap.size ≤ W4.heap.size := hsz4
    have HB_ := hG
    have HB := hid HB_
    have y0 : V 0 = .agg #[.bool false, .slice none 0 0, .bool false, .slice none 0 0] := hφ 0 (by decide)
    have y2 : V 2 = .int .i64 2 := hφ 2 (by decide)
    obtain ⟨q4501, A4501, n4501, c4501, q4502, A4502, n4502, c4502, kb450, va450, vb450⟩ := hψ 0 (by decide)
    have R0 := hid kb450
    have R01 : Hid (IntV W4 (.agg #[.bool q4501, .slice A4501 n4501 c4501]) 0) := hid va450
    have R02 : Hid (IntV W4 (.agg #[.bool q4502, .slice A4502 n4502 c4502]) 0) := hid vb450
    clear kb450 va450 vb450
    simp only [puts, Act.put, List.setIfInBounds_toArray, List.set_cons_zero, List.set_cons_succ, y0, y2]
    clear hφ hψ hne y0 y2 HB_ hsz4
    have k0 := R0.out.cell 0
    have k1 := R0.out.cell 1
    have k2 := R0.out.cell 2
    have k3 := R0.out.cell 3
    go_wp2
    refine bodyPost_ret (v := .tuple #[.agg #[.bool q4501, .slice A4501 n4501 c4501, .bool q4502, .slice A4502 n4502 c4502], .int .i64 2]) (by simp [results, Try.results33, go_sem, k0, k1, k2, k3]) rfl ⟨⟨_, rfl, ?_⟩, HB.out⟩
    exact Pair.mk (a := .V 0) (b := .V 0) R01.out R02.out
set_option maxHeartbeats 8000000 in
theorem qR_lar1 (w : World) (s B A : ByteArray) (eB eA zB zA : Int) (lA : Bool) (hs : s.size ≤ 9223372036854775807) (hB : Hid (cutB s 47 = B)) (hA : Hid (cutA s 47 = A)) (hF : Hid (cutF s 47 = true)) (PB : Hid (PCon 67 B eB zB)) (PA : Hid (PCon 67 A eA zA)) (SB : Hid (Sm 2000 zB)) (SA : Hid (Sm 2000 zA)) (NB : Hid (BCon 68 B true)) (NA : Hid (BCon 68 A true)) (LB : Hid (BCon 69 B true)) (LA : Hid (BCon 69 A lA)) (h0 : 0 < A.size) (hd : ((((A[0]'h0).toNat : Nat) : Int) == 45) = false)  :
    Calls Try.prog 33 #[.string s] w fun e w' => RetPE w' 7 0 0 e ∧ Below w.heap.size w w' := by
  have HB := hid (Below.refl w.heap.size w)
  obtain ⟨W, hW⟩ : ∃ W, W = (w.alloc (.cells #[.bool false, .slice none 0 0, .bool false, .slice none 0 0] 26)) := ⟨_, rfl⟩
  have hbb : Below w.heap.size w W := by rw [hW]; exact (bw_alloc (Below.refl _ _) _)
  have HB := hid (bw_step HB.out hbb)
  have R0 : Hid (Blk W (w.heap.size) 26 #[.bool false, .slice none 0 0, .bool false, .slice none 0 0]) := by
    rw [hW]
    have := Blk.new w 26 #[.bool false, .slice none 0 0, .bool false, .slice none 0 0]
    exact hid (by simpa only [World.size_alloc] using this)
  clear hbb
  go_enter Try.func33, Try.ntmps33
  go_wp2_with fail
  rw [← hW]
  clear hW
  refine (cut_any s 47 _ hs).mono ?_
  rintro e W1 ⟨he, hb1⟩
  unfold CutOk at he
  rw [hB.out, hA.out, hF.out] at he
  subst he
  have HB := hid (bw_step HB.out hb1)
  have R0 := hid (R0.out.below hb1)
  clear hb1
  go_wp2_with fail
  refine (NB.out _).mono ?_
  rintro e W2 ⟨rfl, hb2⟩
  have HB := hid (bw_step HB.out hb2)
  have R0 := hid (R0.out.below hb2)
  clear hb2
  go_wp2_with fail
  refine (NA.out _).mono ?_
  rintro e W3 ⟨rfl, hb3⟩
  have HB := hid (bw_step HB.out hb3)
  have R0 := hid (R0.out.below hb3)
  clear hb3
  go_wp2_with fail
  refine (LB.out _).mono ?_
  rintro e W4 ⟨rfl, hb4⟩
  have HB := hid (bw_step HB.out hb4)
  have R0 := hid (R0.out.below hb4)
  clear hb4
  go_wp2_with (with_reducible refine halt_at 52 rfl ?_)
  unfold Halted
  refine wp_list_each (by kernel_rfl) 3 79 rfl rfl (by kernel_rfl)
    [Fact.eq (.agg #[.bool false, .slice none 0 0, .bool false, .slice none 0 0]), Fact.top _, Fact.eq (.int .i64 7)]
    [.val, .fillOld 0, .val]
    (fun w' => Below w.heap.size w w')
    (fun l b w' => match l with
      | 0 => if b = true then BoxR w' (w.heap.size) 26 (.V 0) (.V 0) else Blk w' (w.heap.size) 26 #[.bool false, .slice none 0 0, .bool false, .slice none 0 0]
      | _ => True)
    [1] (fun l => match l with | 0 => w.heap.size | _ => 0) (by kernel_rfl)
    HB.out
    (fun w1 w2 h0 hb => bw_step h0 hb)
    (fun w1 w2 g h0 hg hn ho => by
      have hg' : W4.heap.size ≤ g ∨ g = w.heap.size := by
        rcases hg with h | ⟨l, hl, h⟩
        · exact .inl h
        · rcases l with _ | l
          · exact .inr h
          · exact absurd hl (by simp)
      exact below_only h0 ho (by have := R0.out.lt; have := HB.out.size; omega))
    (fun l hl => by
        rcases l with _ | l
        · exact R0.out
        · exact absurd hl (by simp))
    (fun l b w1 w2 hl h hb => by
        rcases l with _ | l
        · (cases b <;> exact h.below hb)
        · exact absurd hl (by simp))
    (fun l b w1 w2 g hl h hg hn ho => by
        rcases l with _ | l
        · (cases b; (exact h.only ho (Ne.symm hg)); (exact h.only (Ne.symm hg) hn ho))
        · exact absurd hl (by simp))
    (fun l hl => by
        rcases l with _ | l
        · exact R0.out.lt
        · exact absurd hl (by simp))
    (fun l k hl hk hne => by rcases l with _ | l <;> rcases k with _ | k <;> simp at hl hk hne)
    ?_ ?_
  · refine ⟨?_, ?_, ?_, trivial⟩ <;> intro L V a1 w1 hf hG hsz hφ hψ hL hdep hcl
    · skip
      exact ob_pure (ex_zeroR rfl) rfl
    · skip
      have d0 := dep_of hdep 0 (by kernel_rfl)
      have e52 := (new_slot hf 0 52 d0 (by kernel_rfl)).trans (show V 0 = .agg #[.bool false, .slice none 0 0, .bool false, .slice none 0 0] from hφ 0 d0)
      have e2 := old_slot hf 2 (by kernel_rfl)
      have hb0 := hψ 0 (by decide)
      rw [show [1].getD 0 0 = 1 from rfl, hL] at hb0
      exact ob_fillOldR rfl e2 e52 hb0 (Pair.mk (a := .V 0) (b := .V 0) (IntV.zero _) (IntV.zero _)) (fun w2 h => h) rfl
    · skip
      exact ob_pure (v := .int .i64 7) (ex_assignV rfl rfl) rfl
  · intro V W5 hG hsz5 hφ hψ hne
    have hlt5 : W4.heap.size ≤ W5.heap.size := hsz5
    have HB_ := hG
    have HB := hid HB_
    have y0 : V 0 = .agg #[.bool false, .slice none 0 0, .bool false, .slice none 0 0] := hφ 0 (by decide)
    have y2 : V 2 = .int .i64 7 := hφ 2 (by decide)
    obtain ⟨q5501, A5501, n5501, c5501, q5502, A5502, n5502, c5502, kb550, va550, vb550⟩ := hψ 0 (by decide)
    have R0 := hid kb550
    have R01 : Hid (IntV W5 (.agg #[.bool q5501, .slice A5501 n5501 c5501]) 0) := hid va550
    have R02 : Hid (IntV W5 (.agg #[.bool q5502, .slice A5502 n5502 c5502]) 0) := hid vb550
    clear kb550 va550 vb550
    simp only [puts, Act.put, List.setIfInBounds_toArray, List.set_cons_zero, List.set_cons_succ, y0, y2]
    clear hφ hψ hne y0 y2 HB_ hsz5
    have k0 := R0.out.cell 0
    have k1 := R0.out.cell 1
    have k2 := R0.out.cell 2
    have k3 := R0.out.cell 3
    go_wp2
    refine bodyPost_ret (v := .tuple #[.agg #[.bool q5501, .slice A5501 n5501 c5501, .bool q5502, .slice A5502 n5502 c5502], .int .i64 7]) (by simp [results, Try.results33, go_sem, k0, k1, k2, k3]) rfl ⟨⟨_, rfl, ?_⟩, HB.out⟩
    exact Pair.mk (a := .V 0) (b := .V 0) R01.out R02.out
set_option maxHeartbeats 8000000 in
theorem qR_lar2 (w : World) (s B A : ByteArray) (eB eA zB zA : Int) (hs : s.size ≤ 9223372036854775807) (hB : Hid (cutB s 47 = B)) (hA : Hid (cutA s 47 = A)) (hF : Hid (cutF s 47 = true)) (PB : Hid (PCon 67 B eB zB)) (PA : Hid (PCon 67 A eA zA)) (SB : Hid (Sm 2000 zB)) (SA : Hid (Sm 2000 zA)) (NB : Hid (BCon 68 B true)) (NA : Hid (BCon 68 A true)) (LB : Hid (BCon 69 B false)) (LA : Hid (BCon 69 A true)) (h0 : 0 < A.size) (hd : ((((A[0]'h0).toNat : Nat) : Int) == 45) = false)  :
    Calls Try.prog 33 #[.string s] w fun e w' => RetPE w' 7 0 0 e ∧ Below w.heap.size w w' := by
  have HB := hid (Below.refl w.heap.size w)
  obtain ⟨W, hW⟩ : ∃ W, W = (w.alloc (.cells #[.bool false, .slice none 0 0, .bool false, .slice none 0 0] 26)) := ⟨_, rfl⟩
  have hbb : Below w.heap.size w W := by rw [hW]; exact (bw_alloc (Below.refl _ _) _)
  have HB := hid (bw_step HB.out hbb)
  have R0 : Hid (Blk W (w.heap.size) 26 #[.bool false, .slice none 0 0, .bool false, .slice none 0 0]) := by
    rw [hW]
    have := Blk.new w 26 #[.bool false, .slice none 0 0, .bool false, .slice none 0 0]
    exact hid (by simpa only [World.size_alloc] using this)
  clear hbb
  go_enter Try.func33, Try.ntmps33
  go_wp2_with fail
  rw [← hW]
  clear hW
  refine (cut_any s 47 _ hs).mono ?_
  rintro e W1 ⟨he, hb1⟩
  unfold CutOk at he
  rw [hB.out, hA.out, hF.out] at he
  subst he
  have HB := hid (bw_step HB.out hb1)
  have R0 := hid (R0.out.below hb1)
  clear hb1
  go_wp2_with fail
  refine (NB.out _).mono ?_
  rintro e W2 ⟨rfl, hb2⟩
  have HB := hid (bw_step HB.out hb2)
  have R0 := hid (R0.out.below hb2)
  clear hb2
  go_wp2_with fail
  refine (NA.out _).mono ?_
  rintro e W3 ⟨rfl, hb3⟩
  have HB := hid (bw_step HB.out hb3)
  have R0 := hid (R0.out.below hb3)
  clear hb3
  go_wp2_with fail
  refine (LB.out _).mono ?_
  rintro e W4 ⟨rfl, hb4⟩
  have HB := hid (bw_step HB.out hb4)
  have R0 := hid (R0.out.below hb4)
  clear hb4
  go_wp2_with fail
  refine (LA.out _).mono ?_
  rintro e W5 ⟨rfl, hb5⟩
  have HB := hid (bw_step HB.out hb5)
  have R0 := hid (R0.out.below hb5)
  clear hb5
  go_wp2_with (with_reducible refine halt_at 52 rfl ?_)
  unfold Halted
  refine wp_list_each (by kernel_rfl) 3 79 rfl rfl (by kernel_rfl)
    [Fact.eq (.agg #[.bool false, .slice none 0 0, .bool false, .slice none 0 0]), Fact.top _, Fact.eq (.int .i64 7)]
    [.val, .fillOld 0, .val]
    (fun w' => Below w.heap.size w w')
    (fun l b w' => match l with
      | 0 => if b = true then BoxR w' (w.heap.size) 26 (.V 0) (.V 0) else Blk w' (w.heap.size) 26 #[.bool false, .slice none 0 0, .bool false, .slice none 0 0]
      | _ => True)
    [1] (fun l => match l with | 0 => w.heap.size | _ => 0) (by kernel_rfl)
    HB.out
    (fun w1 w2 h0 hb => bw_step h0 hb)
    (fun w1 w2 g h0 hg hn ho => by
      have hg' : W5.heap.size ≤ g ∨ g = w.heap.size := by
        rcases hg with h | ⟨l, hl, h⟩
        · exact .inl h
        · rcases l with _ | l
          · exact .inr h
          · exact absurd hl (by simp)
      exact below_only h0 ho (by have := R0.out.lt; have := HB.out.size; omega))
    (fun l hl => by
        rcases l with _ | l
        · exact R0.out
        · exact absurd hl (by simp))
    (fun l b w1 w2 hl h hb => by
        rcases l with _ | l
        · (cases b <;> exact h.below hb)
        · exact absurd hl (by simp))
    (fun l b w1 w2 g hl h hg hn ho => by
        rcases l with _ | l
        · (cases b; (exact h.only ho (Ne.symm hg)); (exact h.only (Ne.symm hg) hn ho))
        · exact absurd hl (by simp))
    (fun l hl => by
        rcases l with _ | l
        · exact R0.out.lt
        · exact absurd hl (by simp))
    (fun l k hl hk hne => by rcases l with _ | l <;> rcases k with _ | k <;> simp at hl hk hne)
    ?_ ?_
  · refine ⟨?_, ?_, ?_, trivial⟩ <;> intro L V a1 w1 hf hG hsz hφ hψ hL hdep hcl
    · skip
      exact ob_pure (ex_zeroR rfl) rfl
    · skip
      have d0 := dep_of hdep 0 (by kernel_rfl)
      have e52 := (new_slot hf 0 52 d0 (by kernel_rfl)).trans (show V 0 = .agg #[.bool false, .slice none 0 0, .bool false, .slice none 0 0] from hφ 0 d0)
      have e2 := old_slot hf 2 (by kernel_rfl)
      have hb0 := hψ 0 (by decide)
      rw [show [1].getD 0 0 = 1 from rfl, hL] at hb0
      exact ob_fillOldR rfl e2 e52 hb0 (Pair.mk (a := .V 0) (b := .V 0) (IntV.zero _) (IntV.zero _)) (fun w2 h => h) rfl
    · skip
      exact ob_pure (v := .int .i64 7) (ex_assignV rfl rfl) rfl
  · intro V W6 hG hsz6 hφ hψ hne
    have hlt6 : W5.heap.size ≤ W6.heap.size := hsz6
    have HB_ := hG
    have HB := hid HB_
    have y0 : V 0 = .agg #[.bool false, .slice none 0 0, .bool false, .slice none 0 0] := hφ 0 (by decide)
    have y2 : V 2 = .int .i64 7 := hφ 2 (by decide)
    obtain ⟨q6501, A6501, n6501, c6501, q6502, A6502, n6502, c6502, kb650, va650, vb650⟩ := hψ 0 (by decide)
    have R0 := hid kb650
    have R01 : Hid (IntV W6 (.agg #[.bool q6501, .slice A6501 n6501 c6501]) 0) := hid va650
    have R02 : Hid (IntV W6 (.agg #[.bool q6502, .slice A6502 n6502 c6502]) 0) := hid vb650
    clear kb650 va650 vb650
    simp only [puts, Act.put, List.setIfInBounds_toArray, List.set_cons_zero, List.set_cons_succ, y0, y2]
    clear hφ hψ hne y0 y2 HB_ hsz6
    have k0 := R0.out.cell 0
    have k1 := R0.out.cell 1
    have k2 := R0.out.cell 2
    have k3 := R0.out.cell 3
    go_wp2
    refine bodyPost_ret (v := .tuple #[.agg #[.bool q6501, .slice A6501 n6501 c6501, .bool q6502, .slice A6502 n6502 c6502], .int .i64 7]) (by simp [results, Try.results33, go_sem, k0, k1, k2, k3]) rfl ⟨⟨_, rfl, ?_⟩, HB.out⟩
    exact Pair.mk (a := .V 0) (b := .V 0) R01.out R02.out
set_option maxHeartbeats 8000000 in
theorem qR_le1 (w : World) (s B A : ByteArray) (eB eA zB zA : Int) (hs : s.size ≤ 9223372036854775807) (hB : Hid (cutB s 47 = B)) (hA : Hid (cutA s 47 = A)) (hF : Hid (cutF s 47 = true)) (PB : Hid (PCon 67 B eB zB)) (PA : Hid (PCon 67 A eA zA)) (SB : Hid (Sm 2000 zB)) (SA : Hid (Sm 2000 zA)) (NB : Hid (BCon 68 B true)) (NA : Hid (BCon 68 A true)) (LB : Hid (BCon 69 B false)) (LA : Hid (BCon 69 A false)) (h0 : 0 < A.size) (hd : ((((A[0]'h0).toNat : Nat) : Int) == 45) = false) (hcm : Hid (cm zA 1 = -1)) :
    Calls Try.prog 33 #[.string s] w fun e w' => RetPE w' 1 0 0 e ∧ Below w.heap.size w w' := by
  have HB := hid (Below.refl w.heap.size w)
  obtain ⟨W, hW⟩ : ∃ W, W = (w.alloc (.cells #[.bool false, .slice none 0 0, .bool false, .slice none 0 0] 26)) := ⟨_, rfl⟩
  have hbb : Below w.heap.size w W := by rw [hW]; exact (bw_alloc (Below.refl _ _) _)
  have HB := hid (bw_step HB.out hbb)
  have R0 : Hid (Blk W (w.heap.size) 26 #[.bool false, .slice none 0 0, .bool false, .slice none 0 0]) := by
    rw [hW]
    have := Blk.new w 26 #[.bool false, .slice none 0 0, .bool false, .slice none 0 0]
    exact hid (by simpa only [World.size_alloc] using this)
  clear hbb
  go_enter Try.func33, Try.ntmps33
  go_wp2_with fail
  rw [← hW]
  clear hW
  refine (cut_any s 47 _ hs).mono ?_
  rintro e W1 ⟨he, hb1⟩
  unfold CutOk at he
  rw [hB.out, hA.out, hF.out] at he
  subst he
  have HB := hid (bw_step HB.out hb1)
  have R0 := hid (R0.out.below hb1)
  clear hb1
  go_wp2_with fail
  refine (NB.out _).mono ?_
  rintro e W2 ⟨rfl, hb2⟩
  have HB := hid (bw_step HB.out hb2)
  have R0 := hid (R0.out.below hb2)
  clear hb2
  go_wp2_with fail
  refine (NA.out _).mono ?_
  rintro e W3 ⟨rfl, hb3⟩
  have HB := hid (bw_step HB.out hb3)
  have R0 := hid (R0.out.below hb3)
  clear hb3
  go_wp2_with fail
  refine (LB.out _).mono ?_
  rintro e W4 ⟨rfl, hb4⟩
  have HB := hid (bw_step HB.out hb4)
  have R0 := hid (R0.out.below hb4)
  clear hb4
  go_wp2_with fail
  refine (LA.out _).mono ?_
  rintro e W5 ⟨rfl, hb5⟩
  have HB := hid (bw_step HB.out hb5)
  have R0 := hid (R0.out.below hb5)
  clear hb5
  go_wp2_with fail
  refine (PB.out _).mono ?_
  rintro e W6 ⟨⟨v, rfl, hv⟩, hb6⟩
  have HB := hid (bw_step HB.out hb6)
  have R0 := hid (R0.out.below hb6)
  clear hb6
  have lq6_R0 := R0.out.lt
  have lq6 := HB.out.size
  obtain ⟨q61, A61, n61, c61, rfl⟩ := hv.form
  have N := hid hv
  clear hv
  have hbb := bw_alloc (Below.refl _ W6) (.cells #[.bool q61, .slice A61 n61 c61] 24)
  have XN := Blk.new W6 24 #[.bool q61, .slice A61 n61 c61]
  have HB := hid (bw_step HB.out hbb)
  have R0 := hid (R0.out.below hbb)
  have N := hid (N.out.below hbb)
  have XN := hid XN
  clear hbb
  go_wp2_with fail
  refine (PA.out _).mono ?_
  rintro e W7 ⟨⟨v, rfl, hv⟩, hb7⟩
  have HB := hid (bw_step HB.out hb7)
  have R0 := hid (R0.out.below hb7)
  have N := hid (N.out.below hb7)
  have XN := hid (XN.out.below hb7)
  clear hb7
  have lq7_R0 := R0.out.lt
  have lq7_XN := XN.out.lt
  have lq7 := HB.out.size
  obtain ⟨q71, A71, n71, c71, rfl⟩ := hv.form
  have D := hid hv
  clear hv
  have hbb := bw_alloc (Below.refl _ W7) (.cells #[.bool q71, .slice A71 n71 c71] 24)
  have XD := Blk.new W7 24 #[.bool q71, .slice A71 n71 c71]
  have HB := hid (bw_step HB.out hbb)
  have R0 := hid (R0.out.below hbb)
  have N := hid (N.out.below hbb)
  have XN := hid (XN.out.below hbb)
  have D := hid (D.out.below hbb)
  have XD := hid XD
  clear hbb
  go_wp2_with fail
  refine wp_region_eachG (by kernel_rfl) 12 79 rfl rfl (by kernel_rfl)
    [Fact.eq (.agg #[.bool q71, .slice A71 n71 c71]), Fact.int 1, Fact.eq (.int .i64 (cm zA 1)), Fact.eq (.bool true), Fact.eq (.bool true), Fact.eq undef, Fact.eq undef, Fact.eq undef, Fact.eq undef, Fact.eq undef, Fact.eq undef, Fact.eq (.bool true)]
    [.val, .val, .val, .val, .val, .val, .val, .val, .val, .val, .val, .val]
    (fun w' => Blk w' (w.heap.size) 26 #[.bool false, .slice none 0 0, .bool false, .slice none 0 0] ∧ IntV w' (.agg #[.bool q61, .slice A61 n61 c61]) (zB) ∧ Blk w' (W6.heap.size) 24 #[.bool q61, .slice A61 n61 c61] ∧ IntV w' (.agg #[.bool q71, .slice A71 n71 c71]) (zA) ∧ Blk w' (W7.heap.size) 24 #[.bool q71, .slice A71 n71 c71] ∧ Below w.heap.size w w')
    (fun _ _ _ => True) [] (fun _ => 0) (by kernel_rfl)
    ⟨R0.out, N.out, XN.out, D.out, XD.out, HB.out⟩
    (fun w1 w2 ⟨h0, h1, h2, h3, h4, h5⟩ hb => ⟨h0.below hb, h1.below hb, h2.below hb, h3.below hb, h4.below hb, bw_step h5 hb⟩)
    (fun w1 w2 g ⟨h0, h1, h2, h3, h4, h5⟩ hg hn ho => by
      have hg' : (W7.alloc (.cells #[.bool q71, .slice A71 n71 c71] 24)).heap.size ≤ g := hg.elim id (fun ⟨_, h, _⟩ => absurd h (Nat.not_lt_zero _))
      exact ⟨h0.only ho (by have := R0.out.lt; have := XN.out.lt; have := XD.out.lt; omega), h1.only hn ho, h2.only ho (by have := R0.out.lt; have := XN.out.lt; have := XD.out.lt; omega), h3.only hn ho, h4.only ho (by have := R0.out.lt; have := XN.out.lt; have := XD.out.lt; omega), below_only h5 ho (by have := R0.out.lt; have := XN.out.lt; have := XD.out.lt; have := HB.out.size; omega)⟩)
    (fun l h => trivial) (fun l b w1 w2 h _ _ => trivial) (fun l b w1 w2 g h _ _ _ _ => trivial) (fun l h => by cases h) (fun l k h => by cases h) ?_ ?_
  · refine ⟨?_, ?_, ?_, ?_, ?_, ?_, ?_, ?_, ?_, ?_, ?_, ?_, trivial⟩ <;> intro L V a1 w1 hf hG hsz hφ hψ hL hdep hcl
    · obtain ⟨R0_, N_, XN_, D_, XD_, HB_⟩ := hG
      refine og_none rfl ?_
      have e11 := old_slot hf 11 (by kernel_rfl)
      exact ob_load_int rfl e11 XD_ rfl
    · obtain ⟨R0_, N_, XN_, D_, XD_, HB_⟩ := hG
      refine og_none rfl ?_
      refine ob_go rfl (vs := #[.int .i64 1]) (by simp only [List.map_toArray, List.map_cons, List.map_nil, ev_const]) (by kernel_rfl) (rsmall_any _ 1 (by decide) (by decide)) ?_
      rintro e w2 ⟨⟨v, rfl, hv⟩, hb⟩
      exact ⟨v, rfl, hb, hv⟩
    · obtain ⟨R0_, N_, XN_, D_, XD_, HB_⟩ := hG
      refine og_none rfl ?_
      have d0 := dep_of hdep 0 (by kernel_rfl)
      have e63 := (new_slot hf 0 63 d0 (by kernel_rfl)).trans (show V 0 = .agg #[.bool q71, .slice A71 n71 c71] from hφ 0 d0)
      have d1 := dep_of hdep 1 (by kernel_rfl)
      have e64 := new_slot hf 1 64 d1 (by kernel_rfl)
      have p64 : IntV w1 (V 1) 1 := hφ 1 d1
      refine ob_go rfl (vs := #[.agg #[.bool q71, .slice A71 n71 c71], V 1]) (by simp only [List.map_toArray, List.map_cons, List.map_nil, e63, e64]) (by kernel_rfl) (rcmpI_any _ (.agg #[.bool q71, .slice A71 n71 c71]) (V 1) zA 1 2000 1 (D_.arg (SA.out)) (p64.arg ((Sm.one (n := 1) (by decide) (by decide)))) ) ?_
      rintro e w2 ⟨he, hb⟩
      exact ⟨_, he, hb, rfl⟩
    · obtain ⟨R0_, N_, XN_, D_, XD_, HB_⟩ := hG
      refine og_none rfl ?_
      have d2 := dep_of hdep 2 (by kernel_rfl)
      have e65 := (new_slot hf 2 65 d2 (by kernel_rfl)).trans (show V 2 = .int .i64 (cm zA 1) from hφ 2 d2)
      exact ob_pure (ex_leq_int rfl e65 rfl) (show Value.bool (decide ((cm zA 1) ≤ 0)) = Value.bool true from by rw [hcm.out]; rfl)
    · obtain ⟨R0_, N_, XN_, D_, XD_, HB_⟩ := hG
      refine og_none rfl ?_
      have d3 := dep_of hdep 3 (by kernel_rfl)
      have e66 := (new_slot hf 3 66 d3 (by kernel_rfl)).trans (show V 3 = .bool true from hφ 3 d3)
      exact ob_pure (v := .bool true) (ex_moveV rfl e66) rfl
    · obtain ⟨R0_, N_, XN_, D_, XD_, HB_⟩ := hG
      have dg := dep_of hdep 4 (by kernel_rfl)
      exact og_skip rfl (yielded_of hf (n := 79) (by kernel_rfl) rfl 4 67 dg (by kernel_rfl) (show V 4 = .bool true from hφ 4 dg)) rfl rfl
    · obtain ⟨R0_, N_, XN_, D_, XD_, HB_⟩ := hG
      have dg := dep_of hdep 4 (by kernel_rfl)
      exact og_skip rfl (yielded_of hf (n := 79) (by kernel_rfl) rfl 4 67 dg (by kernel_rfl) (show V 4 = .bool true from hφ 4 dg)) rfl rfl
    · obtain ⟨R0_, N_, XN_, D_, XD_, HB_⟩ := hG
      have dg := dep_of hdep 4 (by kernel_rfl)
      exact og_skip rfl (yielded_of hf (n := 79) (by kernel_rfl) rfl 4 67 dg (by kernel_rfl) (show V 4 = .bool true from hφ 4 dg)) rfl rfl
    · obtain ⟨R0_, N_, XN_, D_, XD_, HB_⟩ := hG
      have dg := dep_of hdep 4 (by kernel_rfl)
      exact og_skip rfl (yielded_of hf (n := 79) (by kernel_rfl) rfl 4 67 dg (by kernel_rfl) (show V 4 = .bool true from hφ 4 dg)) rfl rfl
    · obtain ⟨R0_, N_, XN_, D_, XD_, HB_⟩ := hG
      have dg := dep_of hdep 4 (by kernel_rfl)
      exact og_skip rfl (yielded_of hf (n := 79) (by kernel_rfl) rfl 4 67 dg (by kernel_rfl) (show V 4 = .bool true from hφ 4 dg)) rfl rfl
    · obtain ⟨R0_, N_, XN_, D_, XD_, HB_⟩ := hG
      have dg := dep_of hdep 4 (by kernel_rfl)
      exact og_skip rfl (yielded_of hf (n := 79) (by kernel_rfl) rfl 4 67 dg (by kernel_rfl) (show V 4 = .bool true from hφ 4 dg)) rfl rfl
    · obtain ⟨R0_, N_, XN_, D_, XD_, HB_⟩ := hG
      refine og_none rfl ?_
      have d4 := dep_of hdep 4 (by kernel_rfl)
      have e67 := (new_slot hf 4 67 d4 (by kernel_rfl)).trans (show V 4 = .bool true from hφ 4 d4)
      exact ob_pure (v := .bool true) (ex_pick_true rfl e67 rfl) rfl
  · intro V W8 hG hsz8 hφ hψ hne
    have hlt8 : (W7.alloc (.cells #[.bool q71, .slice A71 n71 c71] 24)).heap.size ≤ W8.heap.size := hsz8
    obtain ⟨R0_, N_, XN_, D_, XD_, HB_⟩ := hG
    have R0 := hid R0_
    have N := hid N_
    have XN := hid XN_
    have D := hid D_
    have XD := hid XD_
    have HB := hid HB_
    have y0 : V 0 = .agg #[.bool q71, .slice A71 n71 c71] := hφ 0 (by decide)
    have y2 : V 2 = .int .i64 (cm zA 1) := hφ 2 (by decide)
    have y3 : V 3 = .bool true := hφ 3 (by decide)
    have y4 : V 4 = .bool true := hφ 4 (by decide)
    have y5 : V 5 = undef := hφ 5 (by decide)
    have y6 : V 6 = undef := hφ 6 (by decide)
    have y7 : V 7 = undef := hφ 7 (by decide)
    have y8 : V 8 = undef := hφ 8 (by decide)
    have y9 : V 9 = undef := hφ 9 (by decide)
    have y10 : V 10 = undef := hφ 10 (by decide)
    have y11 : V 11 = .bool true := hφ 11 (by decide)
    simp only [puts, Act.put, List.setIfInBounds_toArray, List.set_cons_zero, List.set_cons_succ, y0, y2, y3, y4, y5, y6, y7, y8, y9, y10, y11]
    clear hφ hψ hne y0 y2 y3 y4 y5 y6 y7 y8 y9 y10 y11 R0_ N_ XN_ D_ XD_ HB_ hsz8
    go_wp2_with (with_reducible refine halt_at 75 rfl ?_)
    unfold Halted
    refine wp_list_each (by kernel_rfl) 3 79 rfl rfl (by kernel_rfl)
      [Fact.eq (.agg #[.bool false, .slice none 0 0, .bool false, .slice none 0 0]), Fact.top _, Fact.eq (.int .i64 1)]
      [.val, .fillOld 0, .val]
      (fun w' => IntV w' (.agg #[.bool q61, .slice A61 n61 c61]) (zB) ∧ Blk w' (W6.heap.size) 24 #[.bool q61, .slice A61 n61 c61] ∧ IntV w' (.agg #[.bool q71, .slice A71 n71 c71]) (zA) ∧ Blk w' (W7.heap.size) 24 #[.bool q71, .slice A71 n71 c71] ∧ Below w.heap.size w w')
      (fun l b w' => match l with
        | 0 => if b = true then BoxR w' (w.heap.size) 26 (.V 0) (.V 0) else Blk w' (w.heap.size) 26 #[.bool false, .slice none 0 0, .bool false, .slice none 0 0]
        | _ => True)
      [1] (fun l => match l with | 0 => w.heap.size | _ => 0) (by kernel_rfl)
      ⟨N.out, XN.out, D.out, XD.out, HB.out⟩
      (fun w1 w2 ⟨h0, h1, h2, h3, h4⟩ hb => ⟨h0.below hb, h1.below hb, h2.below hb, h3.below hb, bw_step h4 hb⟩)
      (fun w1 w2 g ⟨h0, h1, h2, h3, h4⟩ hg hn ho => by
        have hg' : W8.heap.size ≤ g ∨ g = w.heap.size := by
          rcases hg with h | ⟨l, hl, h⟩
          · exact .inl h
          · rcases l with _ | l
            · exact .inr h
            · exact absurd hl (by simp)
        exact ⟨h0.only hn ho, h1.only ho (by have := R0.out.lt; have := XN.out.lt; have := XD.out.lt; omega), h2.only hn ho, h3.only ho (by have := R0.out.lt; have := XN.out.lt; have := XD.out.lt; omega), below_only h4 ho (by have := R0.out.lt; have := XN.out.lt; have := XD.out.lt; have := HB.out.size; omega)⟩)
      (fun l hl => by
          rcases l with _ | l
          · exact R0.out
          · exact absurd hl (by simp))
      (fun l b w1 w2 hl h hb => by
          rcases l with _ | l
          · (cases b <;> exact h.below hb)
          · exact absurd hl (by simp))
      (fun l b w1 w2 g hl h hg hn ho => by
          rcases l with _ | l
          · (cases b; (exact h.only ho (Ne.symm hg)); (exact h.only (Ne.symm hg) hn ho))
          · exact absurd hl (by simp))
      (fun l hl => by
          rcases l with _ | l
          · exact R0.out.lt
          · exact absurd hl (by simp))
      (fun l k hl hk hne => by rcases l with _ | l <;> rcases k with _ | k <;> simp at hl hk hne)
      ?_ ?_
    · refine ⟨?_, ?_, ?_, trivial⟩ <;> intro L V a1 w1 hf hG hsz hφ hψ hL hdep hcl
      · obtain ⟨N_, XN_, D_, XD_, HB_⟩ := hG
        exact ob_pure (ex_zeroR rfl) rfl
      · obtain ⟨N_, XN_, D_, XD_, HB_⟩ := hG
        have d0 := dep_of hdep 0 (by kernel_rfl)
        have e75 := (new_slot hf 0 75 d0 (by kernel_rfl)).trans (show V 0 = .agg #[.bool false, .slice none 0 0, .bool false, .slice none 0 0] from hφ 0 d0)
        have e2 := old_slot hf 2 (by kernel_rfl)
        have hb0 := hψ 0 (by decide)
        rw [show [1].getD 0 0 = 1 from rfl, hL] at hb0
        exact ob_fillOldR rfl e2 e75 hb0 (Pair.mk (a := .V 0) (b := .V 0) (IntV.zero _) (IntV.zero _)) (fun w2 h => h) rfl
      · obtain ⟨N_, XN_, D_, XD_, HB_⟩ := hG
        exact ob_pure (v := .int .i64 1) (ex_assignV rfl rfl) rfl
    · intro V W9 hG hsz9 hφ hψ hne
      have hlt9 : W8.heap.size ≤ W9.heap.size := hsz9
      obtain ⟨N_, XN_, D_, XD_, HB_⟩ := hG
      have N := hid N_
      have XN := hid XN_
      have D := hid D_
      have XD := hid XD_
      have HB := hid HB_
      have y0 : V 0 = .agg #[.bool false, .slice none 0 0, .bool false, .slice none 0 0] := hφ 0 (by decide)
      have y2 : V 2 = .int .i64 1 := hφ 2 (by decide)
      obtain ⟨q9501, A9501, n9501, c9501, q9502, A9502, n9502, c9502, kb950, va950, vb950⟩ := hψ 0 (by decide)
      have R0 := hid kb950
      have R01 : Hid (IntV W9 (.agg #[.bool q9501, .slice A9501 n9501 c9501]) 0) := hid va950
      have R02 : Hid (IntV W9 (.agg #[.bool q9502, .slice A9502 n9502 c9502]) 0) := hid vb950
      clear kb950 va950 vb950
      simp only [puts, Act.put, List.setIfInBounds_toArray, List.set_cons_zero, List.set_cons_succ, y0, y2]
      clear hφ hψ hne y0 y2 N_ XN_ D_ XD_ HB_ hsz9
      have k0 := R0.out.cell 0
      have k1 := R0.out.cell 1
      have k2 := R0.out.cell 2
      have k3 := R0.out.cell 3
      go_wp2
      refine bodyPost_ret (v := .tuple #[.agg #[.bool q9501, .slice A9501 n9501 c9501, .bool q9502, .slice A9502 n9502 c9502], .int .i64 1]) (by simp [results, Try.results33, go_sem, k0, k1, k2, k3]) rfl ⟨⟨_, rfl, ?_⟩, HB.out⟩
      exact Pair.mk (a := .V 0) (b := .V 0) R01.out R02.out
set_option maxHeartbeats 8000000 in
theorem qR_le2 (w : World) (s B A : ByteArray) (eB eA zB zA : Int) (hs : s.size ≤ 9223372036854775807) (hB : Hid (cutB s 47 = B)) (hA : Hid (cutA s 47 = A)) (hF : Hid (cutF s 47 = true)) (PB : Hid (PCon 67 B eB zB)) (PA : Hid (PCon 67 A eA zA)) (SB : Hid (Sm 2000 zB)) (SA : Hid (Sm 2000 zA)) (NB : Hid (BCon 68 B true)) (NA : Hid (BCon 68 A true)) (LB : Hid (BCon 69 B false)) (LA : Hid (BCon 69 A false)) (h0 : 0 < A.size) (hd : ((((A[0]'h0).toNat : Nat) : Int) == 45) = false) (hcm : Hid (cm zA 1 = 0)) :
    Calls Try.prog 33 #[.string s] w fun e w' => RetPE w' 1 0 0 e ∧ Below w.heap.size w w' := by
  have HB := hid (Below.refl w.heap.size w)
  obtain ⟨W, hW⟩ : ∃ W, W = (w.alloc (.cells #[.bool false, .slice none 0 0, .bool false, .slice none 0 0] 26)) := ⟨_, rfl⟩
  have hbb : Below w.heap.size w W := by rw [hW]; exact (bw_alloc (Below.refl _ _) _)
  have HB := hid (bw_step HB.out hbb)
  have R0 : Hid (Blk W (w.heap.size) 26 #[.bool false, .slice none 0 0, .bool false, .slice none 0 0]) := by
    rw [hW]
    have := Blk.new w 26 #[.bool false, .slice none 0 0, .bool false, .slice none 0 0]
    exact hid (by simpa only [World.size_alloc] using this)
  clear hbb
  go_enter Try.func33, Try.ntmps33
  go_wp2_with fail
  rw [← hW]
  clear hW
  refine (cut_any s 47 _ hs).mono ?_
  rintro e W1 ⟨he, hb1⟩
  unfold CutOk at he
  rw [hB.out, hA.out, hF.out] at he
  subst he
  have HB := hid (bw_step HB.out hb1)
  have R0 := hid (R0.out.below hb1)
  clear hb1
  go_wp2_with fail
  refine (NB.out _).mono ?_
  rintro e W2 ⟨rfl, hb2⟩
  have HB := hid (bw_step HB.out hb2)
  have R0 := hid (R0.out.below hb2)
  clear hb2
  go_wp2_with fail
  refine (NA.out _).mono ?_
  rintro e W3 ⟨rfl, hb3⟩
  have HB := hid (bw_step HB.out hb3)
  have R0 := hid (R0.out.below hb3)
  clear hb3
  go_wp2_with fail
  refine (LB.out _).mono ?_
  rintro e W4 ⟨rfl, hb4⟩
  have HB := hid (bw_step HB.out hb4)
  have R0 := hid (R0.out.below hb4)
  clear hb4
  go_wp2_with fail
  refine (LA.out _).mono ?_
  rintro e W5 ⟨rfl, hb5⟩
  have HB := hid (bw_step HB.out hb5)
  have R0 := hid (R0.out.below hb5)
  clear hb5
  go_wp2_with fail
  refine (PB.out _).mono ?_
  rintro e W6 ⟨⟨v, rfl, hv⟩, hb6⟩
  have HB := hid (bw_step HB.out hb6)
  have R0 := hid (R0.out.below hb6)
  clear hb6
  have lq6_R0 := R0.out.lt
  have lq6 := HB.out.size
  obtain ⟨q61, A61, n61, c61, rfl⟩ := hv.form
  have N := hid hv
  clear hv
  have hbb := bw_alloc (Below.refl _ W6) (.cells #[.bool q61, .slice A61 n61 c61] 24)
  have XN := Blk.new W6 24 #[.bool q61, .slice A61 n61 c61]
  have HB := hid (bw_step HB.out hbb)
  have R0 := hid (R0.out.below hbb)
  have N := hid (N.out.below hbb)
  have XN := hid XN
  clear hbb
  go_wp2_with fail
  refine (PA.out _).mono ?_
  rintro e W7 ⟨⟨v, rfl, hv⟩, hb7⟩
  have HB := hid (bw_step HB.out hb7)
  have R0 := hid (R0.out.below hb7)
  have N := hid (N.out.below hb7)
  have XN := hid (XN.out.below hb7)
  clear hb7
  have lq7_R0 := R0.out.lt
  have lq7_XN := XN.out.lt
  have lq7 := HB.out.size
  obtain ⟨q71, A71, n71, c71, rfl⟩ := hv.form
  have D := hid hv
  clear hv
  have hbb := bw_alloc (Below.refl _ W7) (.cells #[.bool q71, .slice A71 n71 c71] 24)
  have XD := Blk.new W7 24 #[.bool q71, .slice A71 n71 c71]
  have HB := hid (bw_step HB.out hbb)
  have R0 := hid (R0.out.below hbb)
  have N := hid (N.out.below hbb)
  have XN := hid (XN.out.below hbb)
  have D := hid (D.out.below hbb)
  have XD := hid XD
  clear hbb
  go_wp2_with fail
  refine wp_region_eachG (by kernel_rfl) 12 79 rfl rfl (by kernel_rfl)
    [Fact.eq (.agg #[.bool q71, .slice A71 n71 c71]), Fact.int 1, Fact.eq (.int .i64 (cm zA 1)), Fact.eq (.bool true), Fact.eq (.bool true), Fact.eq undef, Fact.eq undef, Fact.eq undef, Fact.eq undef, Fact.eq undef, Fact.eq undef, Fact.eq (.bool true)]
    [.val, .val, .val, .val, .val, .val, .val, .val, .val, .val, .val, .val]
    (fun w' => Blk w' (w.heap.size) 26 #[.bool false, .slice none 0 0, .bool false, .slice none 0 0] ∧ IntV w' (.agg #[.bool q61, .slice A61 n61 c61]) (zB) ∧ Blk w' (W6.heap.size) 24 #[.bool q61, .slice A61 n61 c61] ∧ IntV w' (.agg #[.bool q71, .slice A71 n71 c71]) (zA) ∧ Blk w' (W7.heap.size) 24 #[.bool q71, .slice A71 n71 c71] ∧ Below w.heap.size w w')
    (fun _ _ _ => True) [] (fun _ => 0) (by kernel_rfl)
    ⟨R0.out, N.out, XN.out, D.out, XD.out, HB.out⟩
    (fun w1 w2 ⟨h0, h1, h2, h3, h4, h5⟩ hb => ⟨h0.below hb, h1.below hb, h2.below hb, h3.below hb, h4.below hb, bw_step h5 hb⟩)
    (fun w1 w2 g ⟨h0, h1, h2, h3, h4, h5⟩ hg hn ho => by
      have hg' : (W7.alloc (.cells #[.bool q71, .slice A71 n71 c71] 24)).heap.size ≤ g := hg.elim id (fun ⟨_, h, _⟩ => absurd h (Nat.not_lt_zero _))
      exact ⟨h0.only ho (by have := R0.out.lt; have := XN.out.lt; have := XD.out.lt; omega), h1.only hn ho, h2.only ho (by have := R0.out.lt; have := XN.out.lt; have := XD.out.lt; omega), h3.only hn ho, h4.only ho (by have := R0.out.lt; have := XN.out.lt; have := XD.out.lt; omega), below_only h5 ho (by have := R0.out.lt; have := XN.out.lt; have := XD.out.lt; have := HB.out.size; omega)⟩)
    (fun l h => trivial) (fun l b w1 w2 h _ _ => trivial) (fun l b w1 w2 g h _ _ _ _ => trivial) (fun l h => by cases h) (fun l k h => by cases h) ?_ ?_
  · refine ⟨?_, ?_, ?_, ?_, ?_, ?_, ?_, ?_, ?_, ?_, ?_, ?_, trivial⟩ <;> intro L V a1 w1 hf hG hsz hφ hψ hL hdep hcl
    · obtain ⟨R0_, N_, XN_, D_, XD_, HB_⟩ := hG
      refine og_none rfl ?_
      have e11 := old_slot hf 11 (by kernel_rfl)
      exact ob_load_int rfl e11 XD_ rfl
    · obtain ⟨R0_, N_, XN_, D_, XD_, HB_⟩ := hG
      refine og_none rfl ?_
      refine ob_go rfl (vs := #[.int .i64 1]) (by simp only [List.map_toArray, List.map_cons, List.map_nil, ev_const]) (by kernel_rfl) (rsmall_any _ 1 (by decide) (by decide)) ?_
      rintro e w2 ⟨⟨v, rfl, hv⟩, hb⟩
      exact ⟨v, rfl, hb, hv⟩
    · obtain ⟨R0_, N_, XN_, D_, XD_, HB_⟩ := hG
      refine og_none rfl ?_
      have d0 := dep_of hdep 0 (by kernel_rfl)
      have e63 := (new_slot hf 0 63 d0 (by kernel_rfl)).trans (show V 0 = .agg #[.bool q71, .slice A71 n71 c71] from hφ 0 d0)
      have d1 := dep_of hdep 1 (by kernel_rfl)
      have e64 := new_slot hf 1 64 d1 (by kernel_rfl)
      have p64 : IntV w1 (V 1) 1 := hφ 1 d1
      refine ob_go rfl (vs := #[.agg #[.bool q71, .slice A71 n71 c71], V 1]) (by simp only [List.map_toArray, List.map_cons, List.map_nil, e63, e64]) (by kernel_rfl) (rcmpI_any _ (.agg #[.bool q71, .slice A71 n71 c71]) (V 1) zA 1 2000 1 (D_.arg (SA.out)) (p64.arg ((Sm.one (n := 1) (by decide) (by decide)))) ) ?_
      rintro e w2 ⟨he, hb⟩
      exact ⟨_, he, hb, rfl⟩
    · obtain ⟨R0_, N_, XN_, D_, XD_, HB_⟩ := hG
      refine og_none rfl ?_
      have d2 := dep_of hdep 2 (by kernel_rfl)
      have e65 := (new_slot hf 2 65 d2 (by kernel_rfl)).trans (show V 2 = .int .i64 (cm zA 1) from hφ 2 d2)
      exact ob_pure (ex_leq_int rfl e65 rfl) (show Value.bool (decide ((cm zA 1) ≤ 0)) = Value.bool true from by rw [hcm.out]; rfl)
    · obtain ⟨R0_, N_, XN_, D_, XD_, HB_⟩ := hG
      refine og_none rfl ?_
      have d3 := dep_of hdep 3 (by kernel_rfl)
      have e66 := (new_slot hf 3 66 d3 (by kernel_rfl)).trans (show V 3 = .bool true from hφ 3 d3)
      exact ob_pure (v := .bool true) (ex_moveV rfl e66) rfl
    · obtain ⟨R0_, N_, XN_, D_, XD_, HB_⟩ := hG
      have dg := dep_of hdep 4 (by kernel_rfl)
      exact og_skip rfl (yielded_of hf (n := 79) (by kernel_rfl) rfl 4 67 dg (by kernel_rfl) (show V 4 = .bool true from hφ 4 dg)) rfl rfl
    · obtain ⟨R0_, N_, XN_, D_, XD_, HB_⟩ := hG
      have dg := dep_of hdep 4 (by kernel_rfl)
      exact og_skip rfl (yielded_of hf (n := 79) (by kernel_rfl) rfl 4 67 dg (by kernel_rfl) (show V 4 = .bool true from hφ 4 dg)) rfl rfl
    · obtain ⟨R0_, N_, XN_, D_, XD_, HB_⟩ := hG
      have dg := dep_of hdep 4 (by kernel_rfl)
      exact og_skip rfl (yielded_of hf (n := 79) (by kernel_rfl) rfl 4 67 dg (by kernel_rfl) (show V 4 = .bool true from hφ 4 dg)) rfl rfl
    · obtain ⟨R0_, N_, XN_, D_, XD_, HB_⟩ := hG
      have dg := dep_of hdep 4 (by kernel_rfl)
      exact og_skip rfl (yielded_of hf (n := 79) (by kernel_rfl) rfl 4 67 dg (by kernel_rfl) (show V 4 = .bool true from hφ 4 dg)) rfl rfl
    · obtain ⟨R0_, N_, XN_, D_, XD_, HB_⟩ := hG
      have dg := dep_of hdep 4 (by kernel_rfl)
      exact og_skip rfl (yielded_of hf (n := 79) (by kernel_rfl) rfl 4 67 dg (by kernel_rfl) (show V 4 = .bool true from hφ 4 dg)) rfl rfl
    · obtain ⟨R0_, N_, XN_, D_, XD_, HB_⟩ := hG
      have dg := dep_of hdep 4 (by kernel_rfl)
      exact og_skip rfl (yielded_of hf (n := 79) (by kernel_rfl) rfl 4 67 dg (by kernel_rfl) (show V 4 = .bool true from hφ 4 dg)) rfl rfl
    · obtain ⟨R0_, N_, XN_, D_, XD_, HB_⟩ := hG
      refine og_none rfl ?_
      have d4 := dep_of hdep 4 (by kernel_rfl)
      have e67 := (new_slot hf 4 67 d4 (by kernel_rfl)).trans (show V 4 = .bool true from hφ 4 d4)
      exact ob_pure (v := .bool true) (ex_pick_true rfl e67 rfl) rfl
  · intro V W8 hG hsz8 hφ hψ hne
    have hlt8 : (W7.alloc (.cells #[.bool q71, .slice A71 n71 c71] 24)).heap.size ≤ W8.heap.size := hsz8
    obtain ⟨R0_, N_, XN_, D_, XD_, HB_⟩ := hG
    have R0 := hid R0_
    have N := hid N_
    have XN := hid XN_
    have D := hid D_
    have XD := hid XD_
    have HB := hid HB_
    have y0 : V 0 = .agg #[.bool q71, .slice A71 n71 c71] := hφ 0 (by decide)
    have y2 : V 2 = .int .i64 (cm zA 1) := hφ 2 (by decide)
    have y3 : V 3 = .bool true := hφ 3 (by decide)
    have y4 : V 4 = .bool true := hφ 4 (by decide)
    have y5 : V 5 = undef := hφ 5 (by decide)
    have y6 : V 6 = undef := hφ 6 (by decide)
    have y7 : V 7 = undef := hφ 7 (by decide)
    have y8 : V 8 = undef := hφ 8 (by decide)
    have y9 : V 9 = undef := hφ 9 (by decide)
    have y10 : V 10 = undef := hφ 10 (by decide)
    have y11 : V 11 = .bool true := hφ 11 (by decide)
    simp only [puts, Act.put, List.setIfInBounds_toArray, List.set_cons_zero, List.set_cons_succ, y0, y2, y3, y4, y5, y6, y7, y8, y9, y10, y11]
    clear hφ hψ hne y0 y2 y3 y4 y5 y6 y7 y8 y9 y10 y11 R0_ N_ XN_ D_ XD_ HB_ hsz8
    go_wp2_with (with_reducible refine halt_at 75 rfl ?_)
    unfold Halted
    refine wp_list_each (by kernel_rfl) 3 79 rfl rfl (by kernel_rfl)
      [Fact.eq (.agg #[.bool false, .slice none 0 0, .bool false, .slice none 0 0]), Fact.top _, Fact.eq (.int .i64 1)]
      [.val, .fillOld 0, .val]
      (fun w' => IntV w' (.agg #[.bool q61, .slice A61 n61 c61]) (zB) ∧ Blk w' (W6.heap.size) 24 #[.bool q61, .slice A61 n61 c61] ∧ IntV w' (.agg #[.bool q71, .slice A71 n71 c71]) (zA) ∧ Blk w' (W7.heap.size) 24 #[.bool q71, .slice A71 n71 c71] ∧ Below w.heap.size w w')
      (fun l b w' => match l with
        | 0 => if b = true then BoxR w' (w.heap.size) 26 (.V 0) (.V 0) else Blk w' (w.heap.size) 26 #[.bool false, .slice none 0 0, .bool false, .slice none 0 0]
        | _ => True)
      [1] (fun l => match l with | 0 => w.heap.size | _ => 0) (by kernel_rfl)
      ⟨N.out, XN.out, D.out, XD.out, HB.out⟩
      (fun w1 w2 ⟨h0, h1, h2, h3, h4⟩ hb => ⟨h0.below hb, h1.below hb, h2.below hb, h3.below hb, bw_step h4 hb⟩)
      (fun w1 w2 g ⟨h0, h1, h2, h3, h4⟩ hg hn ho => by
        have hg' : W8.heap.size ≤ g ∨ g = w.heap.size := by
          rcases hg with h | ⟨l, hl, h⟩
          · exact .inl h
          · rcases l with _ | l
            · exact .inr h
            · exact absurd hl (by simp)
        exact ⟨h0.only hn ho, h1.only ho (by have := R0.out.lt; have := XN.out.lt; have := XD.out.lt; omega), h2.only hn ho, h3.only ho (by have := R0.out.lt; have := XN.out.lt; have := XD.out.lt; omega), below_only h4 ho (by have := R0.out.lt; have := XN.out.lt; have := XD.out.lt; have := HB.out.size; omega)⟩)
      (fun l hl => by
          rcases l with _ | l
          · exact R0.out
          · exact absurd hl (by simp))
      (fun l b w1 w2 hl h hb => by
          rcases l with _ | l
          · (cases b <;> exact h.below hb)
          · exact absurd hl (by simp))
      (fun l b w1 w2 g hl h hg hn ho => by
          rcases l with _ | l
          · (cases b; (exact h.only ho (Ne.symm hg)); (exact h.only (Ne.symm hg) hn ho))
          · exact absurd hl (by simp))
      (fun l hl => by
          rcases l with _ | l
          · exact R0.out.lt
          · exact absurd hl (by simp))
      (fun l k hl hk hne => by rcases l with _ | l <;> rcases k with _ | k <;> simp at hl hk hne)
      ?_ ?_
    · refine ⟨?_, ?_, ?_, trivial⟩ <;> intro L V a1 w1 hf hG hsz hφ hψ hL hdep hcl
      · obtain ⟨N_, XN_, D_, XD_, HB_⟩ := hG
        exact ob_pure (ex_zeroR rfl) rfl
      · obtain ⟨N_, XN_, D_, XD_, HB_⟩ := hG
        have d0 := dep_of hdep 0 (by kernel_rfl)
        have e75 := (new_slot hf 0 75 d0 (by kernel_rfl)).trans (show V 0 = .agg #[.bool false, .slice none 0 0, .bool false, .slice none 0 0] from hφ 0 d0)
        have e2 := old_slot hf 2 (by kernel_rfl)
        have hb0 := hψ 0 (by decide)
        rw [show [1].getD 0 0 = 1 from rfl, hL] at hb0
        exact ob_fillOldR rfl e2 e75 hb0 (Pair.mk (a := .V 0) (b := .V 0) (IntV.zero _) (IntV.zero _)) (fun w2 h => h) rfl
      · obtain ⟨N_, XN_, D_, XD_, HB_⟩ := hG
        exact ob_pure (v := .int .i64 1) (ex_assignV rfl rfl) rfl
    · intro V W9 hG hsz9 hφ hψ hne
      have hlt9 : W8.heap.size ≤ W9.heap.size := hsz9
      obtain ⟨N_, XN_, D_, XD_, HB_⟩ := hG
      have N := hid N_
      have XN := hid XN_
      have D := hid D_
      have XD := hid XD_
      have HB := hid HB_
      have y0 : V 0 = .agg #[.bool false, .slice none 0 0, .bool false, .slice none 0 0] := hφ 0 (by decide)
      have y2 : V 2 = .int .i64 1 := hφ 2 (by decide)
      obtain ⟨q9501, A9501, n9501, c9501, q9502, A9502, n9502, c9502, kb950, va950, vb950⟩ := hψ 0 (by decide)
      have R0 := hid kb950
      have R01 : Hid (IntV W9 (.agg #[.bool q9501, .slice A9501 n9501 c9501]) 0) := hid va950
      have R02 : Hid (IntV W9 (.agg #[.bool q9502, .slice A9502 n9502 c9502]) 0) := hid vb950
      clear kb950 va950 vb950
      simp only [puts, Act.put, List.setIfInBounds_toArray, List.set_cons_zero, List.set_cons_succ, y0, y2]
      clear hφ hψ hne y0 y2 N_ XN_ D_ XD_ HB_ hsz9
      have k0 := R0.out.cell 0
      have k1 := R0.out.cell 1
      have k2 := R0.out.cell 2
      have k3 := R0.out.cell 3
      go_wp2
      refine bodyPost_ret (v := .tuple #[.agg #[.bool q9501, .slice A9501 n9501 c9501, .bool q9502, .slice A9502 n9502 c9502], .int .i64 1]) (by simp [results, Try.results33, go_sem, k0, k1, k2, k3]) rfl ⟨⟨_, rfl, ?_⟩, HB.out⟩
      exact Pair.mk (a := .V 0) (b := .V 0) R01.out R02.out
set_option maxHeartbeats 8000000 in
theorem qR_gcd (w : World) (s B A : ByteArray) (eB eA zB zA : Int) (hs : s.size ≤ 9223372036854775807) (hB : Hid (cutB s 47 = B)) (hA : Hid (cutA s 47 = A)) (hF : Hid (cutF s 47 = true)) (PB : Hid (PCon 67 B eB zB)) (PA : Hid (PCon 67 A eA zA)) (SB : Hid (Sm 2000 zB)) (SA : Hid (Sm 2000 zA)) (NB : Hid (BCon 68 B true)) (NA : Hid (BCon 68 A true)) (LB : Hid (BCon 69 B false)) (LA : Hid (BCon 69 A false)) (h0 : 0 < A.size) (hd : ((((A[0]'h0).toNat : Nat) : Int) == 45) = false) (hcm : Hid (cm zA 1 = 1)) (hcg : Hid (cm ((Int.gcd zB zA : Nat) : Int) 1 = 1)) :
    Calls Try.prog 33 #[.string s] w fun e w' => RetPE w' 1 0 0 e ∧ Below w.heap.size w w' := by
  have HB := hid (Below.refl w.heap.size w)
  obtain ⟨W, hW⟩ : ∃ W, W = (w.alloc (.cells #[.bool false, .slice none 0 0, .bool false, .slice none 0 0] 26)) := ⟨_, rfl⟩
  have hbb : Below w.heap.size w W := by rw [hW]; exact (bw_alloc (Below.refl _ _) _)
  have HB := hid (bw_step HB.out hbb)
  have R0 : Hid (Blk W (w.heap.size) 26 #[.bool false, .slice none 0 0, .bool false, .slice none 0 0]) := by
    rw [hW]
    have := Blk.new w 26 #[.bool false, .slice none 0 0, .bool false, .slice none 0 0]
    exact hid (by simpa only [World.size_alloc] using this)
  clear hbb
  go_enter Try.func33, Try.ntmps33
  go_wp2_with fail
  rw [← hW]
  clear hW
  refine (cut_any s 47 _ hs).mono ?_
  rintro e W1 ⟨he, hb1⟩
  unfold CutOk at he
  rw [hB.out, hA.out, hF.out] at he
  subst he
  have HB := hid (bw_step HB.out hb1)
  have R0 := hid (R0.out.below hb1)
  clear hb1
  go_wp2_with fail
  refine (NB.out _).mono ?_
  rintro e W2 ⟨rfl, hb2⟩
  have HB := hid (bw_step HB.out hb2)
  have R0 := hid (R0.out.below hb2)
  clear hb2
  go_wp2_with fail
  refine (NA.out _).mono ?_
  rintro e W3 ⟨rfl, hb3⟩
  have HB := hid (bw_step HB.out hb3)
  have R0 := hid (R0.out.below hb3)
  clear hb3
  go_wp2_with fail
  refine (LB.out _).mono ?_
  rintro e W4 ⟨rfl, hb4⟩
  have HB := hid (bw_step HB.out hb4)
  have R0 := hid (R0.out.below hb4)
  clear hb4
  go_wp2_with fail
  refine (LA.out _).mono ?_
  rintro e W5 ⟨rfl, hb5⟩
  have HB := hid (bw_step HB.out hb5)
  have R0 := hid (R0.out.below hb5)
  clear hb5
  go_wp2_with fail
  refine (PB.out _).mono ?_
  rintro e W6 ⟨⟨v, rfl, hv⟩, hb6⟩
  have HB := hid (bw_step HB.out hb6)
  have R0 := hid (R0.out.below hb6)
  clear hb6
  have lq6_R0 := R0.out.lt
  have lq6 := HB.out.size
  obtain ⟨q61, A61, n61, c61, rfl⟩ := hv.form
  have N := hid hv
  clear hv
  have hbb := bw_alloc (Below.refl _ W6) (.cells #[.bool q61, .slice A61 n61 c61] 24)
  have XN := Blk.new W6 24 #[.bool q61, .slice A61 n61 c61]
  have HB := hid (bw_step HB.out hbb)
  have R0 := hid (R0.out.below hbb)
  have N := hid (N.out.below hbb)
  have XN := hid XN
  clear hbb
  go_wp2_with fail
  refine (PA.out _).mono ?_
  rintro e W7 ⟨⟨v, rfl, hv⟩, hb7⟩
  have HB := hid (bw_step HB.out hb7)
  have R0 := hid (R0.out.below hb7)
  have N := hid (N.out.below hb7)
  have XN := hid (XN.out.below hb7)
  clear hb7
  have lq7_R0 := R0.out.lt
  have lq7_XN := XN.out.lt
  have lq7 := HB.out.size
  obtain ⟨q71, A71, n71, c71, rfl⟩ := hv.form
  have D := hid hv
  clear hv
  have hbb := bw_alloc (Below.refl _ W7) (.cells #[.bool q71, .slice A71 n71 c71] 24)
  have XD := Blk.new W7 24 #[.bool q71, .slice A71 n71 c71]
  have HB := hid (bw_step HB.out hbb)
  have R0 := hid (R0.out.below hbb)
  have N := hid (N.out.below hbb)
  have XN := hid (XN.out.below hbb)
  have D := hid (D.out.below hbb)
  have XD := hid XD
  clear hbb
  go_wp2_with fail
  have SM8 : Hid (Sm 2000 ((Int.gcd zB zA : Nat) : Int)) := hid ((SB.out).gcd (SA.out))
  refine wp_region_eachG (by kernel_rfl) 12 79 rfl rfl (by kernel_rfl)
    [Fact.eq (.agg #[.bool q71, .slice A71 n71 c71]), Fact.int 1, Fact.eq (.int .i64 (cm zA 1)), Fact.eq (.bool false), Fact.eq (.bool false), Fact.eq (.agg #[.bool q61, .slice A61 n61 c61]), Fact.eq (.agg #[.bool q71, .slice A71 n71 c71]), Fact.int ((Int.gcd zB zA : Nat) : Int), Fact.int 1, Fact.eq (.int .i64 (cm ((Int.gcd zB zA : Nat) : Int) 1)), Fact.eq (.bool true), Fact.eq (.bool true)]
    [.val, .val, .val, .val, .val, .val, .val, .val, .val, .val, .val, .val]
    (fun w' => Blk w' (w.heap.size) 26 #[.bool false, .slice none 0 0, .bool false, .slice none 0 0] ∧ IntV w' (.agg #[.bool q61, .slice A61 n61 c61]) (zB) ∧ Blk w' (W6.heap.size) 24 #[.bool q61, .slice A61 n61 c61] ∧ IntV w' (.agg #[.bool q71, .slice A71 n71 c71]) (zA) ∧ Blk w' (W7.heap.size) 24 #[.bool q71, .slice A71 n71 c71] ∧ Below w.heap.size w w')
    (fun _ _ _ => True) [] (fun _ => 0) (by kernel_rfl)
    ⟨R0.out, N.out, XN.out, D.out, XD.out, HB.out⟩
    (fun w1 w2 ⟨h0, h1, h2, h3, h4, h5⟩ hb => ⟨h0.below hb, h1.below hb, h2.below hb, h3.below hb, h4.below hb, bw_step h5 hb⟩)
    (fun w1 w2 g ⟨h0, h1, h2, h3, h4, h5⟩ hg hn ho => by
      have hg' : (W7.alloc (.cells #[.bool q71, .slice A71 n71 c71] 24)).heap.size ≤ g := hg.elim id (fun ⟨_, h, _⟩ => absurd h (Nat.not_lt_zero _))
      exact ⟨h0.only ho (by have := R0.out.lt; have := XN.out.lt; have := XD.out.lt; omega), h1.only hn ho, h2.only ho (by have := R0.out.lt; have := XN.out.lt; have := XD.out.lt; omega), h3.only hn ho, h4.only ho (by have := R0.out.lt; have := XN.out.lt; have := XD.out.lt; omega), below_only h5 ho (by have := R0.out.lt; have := XN.out.lt; have := XD.out.lt; have := HB.out.size; omega)⟩)
    (fun l h => trivial) (fun l b w1 w2 h _ _ => trivial) (fun l b w1 w2 g h _ _ _ _ => trivial) (fun l h => by cases h) (fun l k h => by cases h) ?_ ?_
  · refine ⟨?_, ?_, ?_, ?_, ?_, ?_, ?_, ?_, ?_, ?_, ?_, ?_, trivial⟩ <;> intro L V a1 w1 hf hG hsz hφ hψ hL hdep hcl
    · obtain ⟨R0_, N_, XN_, D_, XD_, HB_⟩ := hG
      refine og_none rfl ?_
      have e11 := old_slot hf 11 (by kernel_rfl)
      exact ob_load_int rfl e11 XD_ rfl
    · obtain ⟨R0_, N_, XN_, D_, XD_, HB_⟩ := hG
      refine og_none rfl ?_
      refine ob_go rfl (vs := #[.int .i64 1]) (by simp only [List.map_toArray, List.map_cons, List.map_nil, ev_const]) (by kernel_rfl) (rsmall_any _ 1 (by decide) (by decide)) ?_
      rintro e w2 ⟨⟨v, rfl, hv⟩, hb⟩
      exact ⟨v, rfl, hb, hv⟩
    · obtain ⟨R0_, N_, XN_, D_, XD_, HB_⟩ := hG
      refine og_none rfl ?_
      have d0 := dep_of hdep 0 (by kernel_rfl)
      have e63 := (new_slot hf 0 63 d0 (by kernel_rfl)).trans (show V 0 = .agg #[.bool q71, .slice A71 n71 c71] from hφ 0 d0)
      have d1 := dep_of hdep 1 (by kernel_rfl)
      have e64 := new_slot hf 1 64 d1 (by kernel_rfl)
      have p64 : IntV w1 (V 1) 1 := hφ 1 d1
      refine ob_go rfl (vs := #[.agg #[.bool q71, .slice A71 n71 c71], V 1]) (by simp only [List.map_toArray, List.map_cons, List.map_nil, e63, e64]) (by kernel_rfl) (rcmpI_any _ (.agg #[.bool q71, .slice A71 n71 c71]) (V 1) zA 1 2000 1 (D_.arg (SA.out)) (p64.arg ((Sm.one (n := 1) (by decide) (by decide)))) ) ?_
      rintro e w2 ⟨he, hb⟩
      exact ⟨_, he, hb, rfl⟩
    · obtain ⟨R0_, N_, XN_, D_, XD_, HB_⟩ := hG
      refine og_none rfl ?_
      have d2 := dep_of hdep 2 (by kernel_rfl)
      have e65 := (new_slot hf 2 65 d2 (by kernel_rfl)).trans (show V 2 = .int .i64 (cm zA 1) from hφ 2 d2)
      exact ob_pure (ex_leq_int rfl e65 rfl) (show Value.bool (decide ((cm zA 1) ≤ 0)) = Value.bool false from by rw [hcm.out]; rfl)
    · obtain ⟨R0_, N_, XN_, D_, XD_, HB_⟩ := hG
      refine og_none rfl ?_
      have d3 := dep_of hdep 3 (by kernel_rfl)
      have e66 := (new_slot hf 3 66 d3 (by kernel_rfl)).trans (show V 3 = .bool false from hφ 3 d3)
      exact ob_pure (v := .bool false) (ex_moveV rfl e66) rfl
    · obtain ⟨R0_, N_, XN_, D_, XD_, HB_⟩ := hG
      have dg := dep_of hdep 4 (by kernel_rfl)
      refine og_want rfl (yielded_of hf (n := 79) (by kernel_rfl) rfl 4 67 dg (by kernel_rfl) (show V 4 = .bool false from hφ 4 dg)) ?_
      have e9 := old_slot hf 9 (by kernel_rfl)
      exact ob_load_int rfl e9 XN_ rfl
    · obtain ⟨R0_, N_, XN_, D_, XD_, HB_⟩ := hG
      have dg := dep_of hdep 4 (by kernel_rfl)
      refine og_want rfl (yielded_of hf (n := 79) (by kernel_rfl) rfl 4 67 dg (by kernel_rfl) (show V 4 = .bool false from hφ 4 dg)) ?_
      have e11 := old_slot hf 11 (by kernel_rfl)
      exact ob_load_int rfl e11 XD_ rfl
    · obtain ⟨R0_, N_, XN_, D_, XD_, HB_⟩ := hG
      have dg := dep_of hdep 4 (by kernel_rfl)
      refine og_want rfl (yielded_of hf (n := 79) (by kernel_rfl) rfl 4 67 dg (by kernel_rfl) (show V 4 = .bool false from hφ 4 dg)) ?_
      have d5 := dep_of hdep 5 (by kernel_rfl)
      have e68 := (new_slot hf 5 68 d5 (by kernel_rfl)).trans (show V 5 = .agg #[.bool q61, .slice A61 n61 c61] from hφ 5 d5)
      have d6 := dep_of hdep 6 (by kernel_rfl)
      have e69 := (new_slot hf 6 69 d6 (by kernel_rfl)).trans (show V 6 = .agg #[.bool q71, .slice A71 n71 c71] from hφ 6 d6)
      refine ob_go rfl (vs := #[.agg #[.bool q61, .slice A61 n61 c61], .agg #[.bool q71, .slice A71 n71 c71]]) (by simp only [List.map_toArray, List.map_cons, List.map_nil, e68, e69]) (by kernel_rfl) (rgcd_any _ (.agg #[.bool q61, .slice A61 n61 c61]) (.agg #[.bool q71, .slice A71 n71 c71]) zB zA 2000 (by omega) (N_.arg (SB.out)) (D_.arg (SA.out))) ?_
      rintro e w2 ⟨⟨v, rfl, hv⟩, hb⟩
      exact ⟨v, rfl, hb, hv⟩
    · obtain ⟨R0_, N_, XN_, D_, XD_, HB_⟩ := hG
      have dg := dep_of hdep 4 (by kernel_rfl)
      refine og_want rfl (yielded_of hf (n := 79) (by kernel_rfl) rfl 4 67 dg (by kernel_rfl) (show V 4 = .bool false from hφ 4 dg)) ?_
      refine ob_go rfl (vs := #[.int .i64 1]) (by simp only [List.map_toArray, List.map_cons, List.map_nil, ev_const]) (by kernel_rfl) (rsmall_any _ 1 (by decide) (by decide)) ?_
      rintro e w2 ⟨⟨v, rfl, hv⟩, hb⟩
      exact ⟨v, rfl, hb, hv⟩
    · obtain ⟨R0_, N_, XN_, D_, XD_, HB_⟩ := hG
      have dg := dep_of hdep 4 (by kernel_rfl)
      refine og_want rfl (yielded_of hf (n := 79) (by kernel_rfl) rfl 4 67 dg (by kernel_rfl) (show V 4 = .bool false from hφ 4 dg)) ?_
      have d7 := dep_of hdep 7 (by kernel_rfl)
      have e70 := new_slot hf 7 70 d7 (by kernel_rfl)
      have p70 : IntV w1 (V 7) ((Int.gcd zB zA : Nat) : Int) := hφ 7 d7
      have d8 := dep_of hdep 8 (by kernel_rfl)
      have e71 := new_slot hf 8 71 d8 (by kernel_rfl)
      have p71 : IntV w1 (V 8) 1 := hφ 8 d8
      refine ob_go rfl (vs := #[V 7, V 8]) (by simp only [List.map_toArray, List.map_cons, List.map_nil, e70, e71]) (by kernel_rfl) (rcmpI_any _ (V 7) (V 8) ((Int.gcd zB zA : Nat) : Int) 1 2000 1 (p70.arg (SM8.out)) (p71.arg ((Sm.one (n := 1) (by decide) (by decide)))) ) ?_
      rintro e w2 ⟨he, hb⟩
      exact ⟨_, he, hb, rfl⟩
    · obtain ⟨R0_, N_, XN_, D_, XD_, HB_⟩ := hG
      have dg := dep_of hdep 4 (by kernel_rfl)
      refine og_want rfl (yielded_of hf (n := 79) (by kernel_rfl) rfl 4 67 dg (by kernel_rfl) (show V 4 = .bool false from hφ 4 dg)) ?_
      have d9 := dep_of hdep 9 (by kernel_rfl)
      have e72 := (new_slot hf 9 72 d9 (by kernel_rfl)).trans (show V 9 = .int .i64 (cm ((Int.gcd zB zA : Nat) : Int) 1) from hφ 9 d9)
      exact ob_pure (ex_neq_int rfl e72 rfl) (show Value.bool ((cm ((Int.gcd zB zA : Nat) : Int) 1) != 0) = Value.bool true from by rw [hcg.out]; rfl)
    · obtain ⟨R0_, N_, XN_, D_, XD_, HB_⟩ := hG
      refine og_none rfl ?_
      have d4 := dep_of hdep 4 (by kernel_rfl)
      have e67 := (new_slot hf 4 67 d4 (by kernel_rfl)).trans (show V 4 = .bool false from hφ 4 d4)
      have d10 := dep_of hdep 10 (by kernel_rfl)
      have e73 := (new_slot hf 10 73 d10 (by kernel_rfl)).trans (show V 10 = .bool true from hφ 10 d10)
      exact ob_pure (v := .bool true) (ex_pick_false rfl e67 e73) rfl
  · intro V W9 hG hsz9 hφ hψ hne
    have hlt9 : (W7.alloc (.cells #[.bool q71, .slice A71 n71 c71] 24)).heap.size ≤ W9.heap.size := hsz9
    obtain ⟨R0_, N_, XN_, D_, XD_, HB_⟩ := hG
    have R0 := hid R0_
    have N := hid N_
    have XN := hid XN_
    have D := hid D_
    have XD := hid XD_
    have HB := hid HB_
    have y0 : V 0 = .agg #[.bool q71, .slice A71 n71 c71] := hφ 0 (by decide)
    have y2 : V 2 = .int .i64 (cm zA 1) := hφ 2 (by decide)
    have y3 : V 3 = .bool false := hφ 3 (by decide)
    have y4 : V 4 = .bool false := hφ 4 (by decide)
    have y5 : V 5 = .agg #[.bool q61, .slice A61 n61 c61] := hφ 5 (by decide)
    have y6 : V 6 = .agg #[.bool q71, .slice A71 n71 c71] := hφ 6 (by decide)
    have y9 : V 9 = .int .i64 (cm ((Int.gcd zB zA : Nat) : Int) 1) := hφ 9 (by decide)
    have y10 : V 10 = .bool true := hφ 10 (by decide)
    have y11 : V 11 = .bool true := hφ 11 (by decide)
    simp only [puts, Act.put, List.setIfInBounds_toArray, List.set_cons_zero, List.set_cons_succ, y0, y2, y3, y4, y5, y6, y9, y10, y11]
    clear hφ hψ hne y0 y2 y3 y4 y5 y6 y9 y10 y11 R0_ N_ XN_ D_ XD_ HB_ hsz9
    go_wp2_with (with_reducible refine halt_at 75 rfl ?_)
    unfold Halted
    refine wp_list_each (by kernel_rfl) 3 79 rfl rfl (by kernel_rfl)
      [Fact.eq (.agg #[.bool false, .slice none 0 0, .bool false, .slice none 0 0]), Fact.top _, Fact.eq (.int .i64 1)]
      [.val, .fillOld 0, .val]
      (fun w' => IntV w' (.agg #[.bool q61, .slice A61 n61 c61]) (zB) ∧ Blk w' (W6.heap.size) 24 #[.bool q61, .slice A61 n61 c61] ∧ IntV w' (.agg #[.bool q71, .slice A71 n71 c71]) (zA) ∧ Blk w' (W7.heap.size) 24 #[.bool q71, .slice A71 n71 c71] ∧ Below w.heap.size w w')
      (fun l b w' => match l with
        | 0 => if b = true then BoxR w' (w.heap.size) 26 (.V 0) (.V 0) else Blk w' (w.heap.size) 26 #[.bool false, .slice none 0 0, .bool false, .slice none 0 0]
        | _ => True)
      [1] (fun l => match l with | 0 => w.heap.size | _ => 0) (by kernel_rfl)
      ⟨N.out, XN.out, D.out, XD.out, HB.out⟩
      (fun w1 w2 ⟨h0, h1, h2, h3, h4⟩ hb => ⟨h0.below hb, h1.below hb, h2.below hb, h3.below hb, bw_step h4 hb⟩)
      (fun w1 w2 g ⟨h0, h1, h2, h3, h4⟩ hg hn ho => by
        have hg' : W9.heap.size ≤ g ∨ g = w.heap.size := by
          rcases hg with h | ⟨l, hl, h⟩
          · exact .inl h
          · rcases l with _ | l
            · exact .inr h
            · exact absurd hl (by simp)
        exact ⟨h0.only hn ho, h1.only ho (by have := R0.out.lt; have := XN.out.lt; have := XD.out.lt; omega), h2.only hn ho, h3.only ho (by have := R0.out.lt; have := XN.out.lt; have := XD.out.lt; omega), below_only h4 ho (by have := R0.out.lt; have := XN.out.lt; have := XD.out.lt; have := HB.out.size; omega)⟩)
      (fun l hl => by
          rcases l with _ | l
          · exact R0.out
          · exact absurd hl (by simp))
      (fun l b w1 w2 hl h hb => by
          rcases l with _ | l
          · (cases b <;> exact h.below hb)
          · exact absurd hl (by simp))
      (fun l b w1 w2 g hl h hg hn ho => by
          rcases l with _ | l
          · (cases b; (exact h.only ho (Ne.symm hg)); (exact h.only (Ne.symm hg) hn ho))
          · exact absurd hl (by simp))
      (fun l hl => by
          rcases l with _ | l
          · exact R0.out.lt
          · exact absurd hl (by simp))
      (fun l k hl hk hne => by rcases l with _ | l <;> rcases k with _ | k <;> simp at hl hk hne)
      ?_ ?_
    · refine ⟨?_, ?_, ?_, trivial⟩ <;> intro L V a1 w1 hf hG hsz hφ hψ hL hdep hcl
      · obtain ⟨N_, XN_, D_, XD_, HB_⟩ := hG
        exact ob_pure (ex_zeroR rfl) rfl
      · obtain ⟨N_, XN_, D_, XD_, HB_⟩ := hG
        have d0 := dep_of hdep 0 (by kernel_rfl)
        have e75 := (new_slot hf 0 75 d0 (by kernel_rfl)).trans (show V 0 = .agg #[.bool false, .slice none 0 0, .bool false, .slice none 0 0] from hφ 0 d0)
        have e2 := old_slot hf 2 (by kernel_rfl)
        have hb0 := hψ 0 (by decide)
        rw [show [1].getD 0 0 = 1 from rfl, hL] at hb0
        exact ob_fillOldR rfl e2 e75 hb0 (Pair.mk (a := .V 0) (b := .V 0) (IntV.zero _) (IntV.zero _)) (fun w2 h => h) rfl
      · obtain ⟨N_, XN_, D_, XD_, HB_⟩ := hG
        exact ob_pure (v := .int .i64 1) (ex_assignV rfl rfl) rfl
    · intro V W10 hG hsz10 hφ hψ hne
      have hlt10 : W9.heap.size ≤ W10.heap.size := hsz10
      obtain ⟨N_, XN_, D_, XD_, HB_⟩ := hG
      have N := hid N_
      have XN := hid XN_
      have D := hid D_
      have XD := hid XD_
      have HB := hid HB_
      have y0 : V 0 = .agg #[.bool false, .slice none 0 0, .bool false, .slice none 0 0] := hφ 0 (by decide)
      have y2 : V 2 = .int .i64 1 := hφ 2 (by decide)
      obtain ⟨q10501, A10501, n10501, c10501, q10502, A10502, n10502, c10502, kb1050, va1050, vb1050⟩ := hψ 0 (by decide)
      have R0 := hid kb1050
      have R01 : Hid (IntV W10 (.agg #[.bool q10501, .slice A10501 n10501 c10501]) 0) := hid va1050
      have R02 : Hid (IntV W10 (.agg #[.bool q10502, .slice A10502 n10502 c10502]) 0) := hid vb1050
      clear kb1050 va1050 vb1050
      simp only [puts, Act.put, List.setIfInBounds_toArray, List.set_cons_zero, List.set_cons_succ, y0, y2]
      clear hφ hψ hne y0 y2 N_ XN_ D_ XD_ HB_ hsz10
      have k0 := R0.out.cell 0
      have k1 := R0.out.cell 1
      have k2 := R0.out.cell 2
      have k3 := R0.out.cell 3
      go_wp2
      refine bodyPost_ret (v := .tuple #[.agg #[.bool q10501, .slice A10501 n10501 c10501, .bool q10502, .slice A10502 n10502 c10502], .int .i64 1]) (by simp [results, Try.results33, go_sem, k0, k1, k2, k3]) rfl ⟨⟨_, rfl, ?_⟩, HB.out⟩
      exact Pair.mk (a := .V 0) (b := .V 0) R01.out R02.out
set_option maxHeartbeats 8000000 in
theorem qR_ok (w : World) (s B A : ByteArray) (eB eA zB zA : Int) (hs : s.size ≤ 9223372036854775807) (hB : Hid (cutB s 47 = B)) (hA : Hid (cutA s 47 = A)) (hF : Hid (cutF s 47 = true)) (PB : Hid (PCon 67 B eB zB)) (PA : Hid (PCon 67 A eA zA)) (SB : Hid (Sm 2000 zB)) (SA : Hid (Sm 2000 zA)) (NB : Hid (BCon 68 B true)) (NA : Hid (BCon 68 A true)) (LB : Hid (BCon 69 B false)) (LA : Hid (BCon 69 A false)) (h0 : 0 < A.size) (hd : ((((A[0]'h0).toNat : Nat) : Int) == 45) = false) (hcm : Hid (cm zA 1 = 1)) (hcg : Hid (cm ((Int.gcd zB zA : Nat) : Int) 1 = 0)) :
    Calls Try.prog 33 #[.string s] w fun e w' => RetPE w' 0 zB zA e ∧ Below w.heap.size w w' := by
  have HB := hid (Below.refl w.heap.size w)
  obtain ⟨W, hW⟩ : ∃ W, W = (w.alloc (.cells #[.bool false, .slice none 0 0, .bool false, .slice none 0 0] 26)) := ⟨_, rfl⟩
  have hbb : Below w.heap.size w W := by rw [hW]; exact (bw_alloc (Below.refl _ _) _)
  have HB := hid (bw_step HB.out hbb)
  have R0 : Hid (Blk W (w.heap.size) 26 #[.bool false, .slice none 0 0, .bool false, .slice none 0 0]) := by
    rw [hW]
    have := Blk.new w 26 #[.bool false, .slice none 0 0, .bool false, .slice none 0 0]
    exact hid (by simpa only [World.size_alloc] using this)
  clear hbb
  go_enter Try.func33, Try.ntmps33
  go_wp2_with fail
  rw [← hW]
  clear hW
  refine (cut_any s 47 _ hs).mono ?_
  rintro e W1 ⟨he, hb1⟩
  unfold CutOk at he
  rw [hB.out, hA.out, hF.out] at he
  subst he
  have HB := hid (bw_step HB.out hb1)
  have R0 := hid (R0.out.below hb1)
  clear hb1
  go_wp2_with fail
  refine (NB.out _).mono ?_
  rintro e W2 ⟨rfl, hb2⟩
  have HB := hid (bw_step HB.out hb2)
  have R0 := hid (R0.out.below hb2)
  clear hb2
  go_wp2_with fail
  refine (NA.out _).mono ?_
  rintro e W3 ⟨rfl, hb3⟩
  have HB := hid (bw_step HB.out hb3)
  have R0 := hid (R0.out.below hb3)
  clear hb3
  go_wp2_with fail
  refine (LB.out _).mono ?_
  rintro e W4 ⟨rfl, hb4⟩
  have HB := hid (bw_step HB.out hb4)
  have R0 := hid (R0.out.below hb4)
  clear hb4
  go_wp2_with fail
  refine (LA.out _).mono ?_
  rintro e W5 ⟨rfl, hb5⟩
  have HB := hid (bw_step HB.out hb5)
  have R0 := hid (R0.out.below hb5)
  clear hb5
  go_wp2_with fail
  refine (PB.out _).mono ?_
  rintro e W6 ⟨⟨v, rfl, hv⟩, hb6⟩
  have HB := hid (bw_step HB.out hb6)
  have R0 := hid (R0.out.below hb6)
  clear hb6
  have lq6_R0 := R0.out.lt
  have lq6 := HB.out.size
  obtain ⟨q61, A61, n61, c61, rfl⟩ := hv.form
  have N := hid hv
  clear hv
  have hbb := bw_alloc (Below.refl _ W6) (.cells #[.bool q61, .slice A61 n61 c61] 24)
  have XN := Blk.new W6 24 #[.bool q61, .slice A61 n61 c61]
  have HB := hid (bw_step HB.out hbb)
  have R0 := hid (R0.out.below hbb)
  have N := hid (N.out.below hbb)
  have XN := hid XN
  clear hbb
  go_wp2_with fail
  refine (PA.out _).mono ?_
  rintro e W7 ⟨⟨v, rfl, hv⟩, hb7⟩
  have HB := hid (bw_step HB.out hb7)
  have R0 := hid (R0.out.below hb7)
  have N := hid (N.out.below hb7)
  have XN := hid (XN.out.below hb7)
  clear hb7
  have lq7_R0 := R0.out.lt
  have lq7_XN := XN.out.lt
  have lq7 := HB.out.size
  obtain ⟨q71, A71, n71, c71, rfl⟩ := hv.form
  have D := hid hv
  clear hv
  have hbb := bw_alloc (Below.refl _ W7) (.cells #[.bool q71, .slice A71 n71 c71] 24)
  have XD := Blk.new W7 24 #[.bool q71, .slice A71 n71 c71]
  have HB := hid (bw_step HB.out hbb)
  have R0 := hid (R0.out.below hbb)
  have N := hid (N.out.below hbb)
  have XN := hid (XN.out.below hbb)
  have D := hid (D.out.below hbb)
  have XD := hid XD
  clear hbb
  go_wp2_with fail
  have SM8 : Hid (Sm 2000 ((Int.gcd zB zA : Nat) : Int)) := hid ((SB.out).gcd (SA.out))
  refine wp_region_eachG (by kernel_rfl) 12 79 rfl rfl (by kernel_rfl)
    [Fact.eq (.agg #[.bool q71, .slice A71 n71 c71]), Fact.int 1, Fact.eq (.int .i64 (cm zA 1)), Fact.eq (.bool false), Fact.eq (.bool false), Fact.eq (.agg #[.bool q61, .slice A61 n61 c61]), Fact.eq (.agg #[.bool q71, .slice A71 n71 c71]), Fact.int ((Int.gcd zB zA : Nat) : Int), Fact.int 1, Fact.eq (.int .i64 (cm ((Int.gcd zB zA : Nat) : Int) 1)), Fact.eq (.bool false), Fact.eq (.bool false)]
    [.val, .val, .val, .val, .val, .val, .val, .val, .val, .val, .val, .val]
    (fun w' => Blk w' (w.heap.size) 26 #[.bool false, .slice none 0 0, .bool false, .slice none 0 0] ∧ IntV w' (.agg #[.bool q61, .slice A61 n61 c61]) (zB) ∧ Blk w' (W6.heap.size) 24 #[.bool q61, .slice A61 n61 c61] ∧ IntV w' (.agg #[.bool q71, .slice A71 n71 c71]) (zA) ∧ Blk w' (W7.heap.size) 24 #[.bool q71, .slice A71 n71 c71] ∧ Below w.heap.size w w')
    (fun _ _ _ => True) [] (fun _ => 0) (by kernel_rfl)
    ⟨R0.out, N.out, XN.out, D.out, XD.out, HB.out⟩
    (fun w1 w2 ⟨h0, h1, h2, h3, h4, h5⟩ hb => ⟨h0.below hb, h1.below hb, h2.below hb, h3.below hb, h4.below hb, bw_step h5 hb⟩)
    (fun w1 w2 g ⟨h0, h1, h2, h3, h4, h5⟩ hg hn ho => by
      have hg' : (W7.alloc (.cells #[.bool q71, .slice A71 n71 c71] 24)).heap.size ≤ g := hg.elim id (fun ⟨_, h, _⟩ => absurd h (Nat.not_lt_zero _))
      exact ⟨h0.only ho (by have := R0.out.lt; have := XN.out.lt; have := XD.out.lt; omega), h1.only hn ho, h2.only ho (by have := R0.out.lt; have := XN.out.lt; have := XD.out.lt; omega), h3.only hn ho, h4.only ho (by have := R0.out.lt; have := XN.out.lt; have := XD.out.lt; omega), below_only h5 ho (by have := R0.out.lt; have := XN.out.lt; have := XD.out.lt; have := HB.out.size; omega)⟩)
    (fun l h => trivial) (fun l b w1 w2 h _ _ => trivial) (fun l b w1 w2 g h _ _ _ _ => trivial) (fun l h => by cases h) (fun l k h => by cases h) ?_ ?_
  · refine ⟨?_, ?_, ?_, ?_, ?_, ?_, ?_, ?_, ?_, ?_, ?_, ?_, trivial⟩ <;> intro L V a1 w1 hf hG hsz hφ hψ hL hdep hcl
    · obtain ⟨R0_, N_, XN_, D_, XD_, HB_⟩ := hG
      refine og_none rfl ?_
      have e11 := old_slot hf 11 (by kernel_rfl)
      exact ob_load_int rfl e11 XD_ rfl
    · obtain ⟨R0_, N_, XN_, D_, XD_, HB_⟩ := hG
      refine og_none rfl ?_
      refine ob_go rfl (vs := #[.int .i64 1]) (by simp only [List.map_toArray, List.map_cons, List.map_nil, ev_const]) (by kernel_rfl) (rsmall_any _ 1 (by decide) (by decide)) ?_
      rintro e w2 ⟨⟨v, rfl, hv⟩, hb⟩
      exact ⟨v, rfl, hb, hv⟩
    · obtain ⟨R0_, N_, XN_, D_, XD_, HB_⟩ := hG
      refine og_none rfl ?_
      have d0 := dep_of hdep 0 (by kernel_rfl)
      have e63 := (new_slot hf 0 63 d0 (by kernel_rfl)).trans (show V 0 = .agg #[.bool q71, .slice A71 n71 c71] from hφ 0 d0)
      have d1 := dep_of hdep 1 (by kernel_rfl)
      have e64 := new_slot hf 1 64 d1 (by kernel_rfl)
      have p64 : IntV w1 (V 1) 1 := hφ 1 d1
      refine ob_go rfl (vs := #[.agg #[.bool q71, .slice A71 n71 c71], V 1]) (by simp only [List.map_toArray, List.map_cons, List.map_nil, e63, e64]) (by kernel_rfl) (rcmpI_any _ (.agg #[.bool q71, .slice A71 n71 c71]) (V 1) zA 1 2000 1 (D_.arg (SA.out)) (p64.arg ((Sm.one (n := 1) (by decide) (by decide)))) ) ?_
      rintro e w2 ⟨he, hb⟩
      exact ⟨_, he, hb, rfl⟩
    · obtain ⟨R0_, N_, XN_, D_, XD_, HB_⟩ := hG
      refine og_none rfl ?_
      have d2 := dep_of hdep 2 (by kernel_rfl)
      have e65 := (new_slot hf 2 65 d2 (by kernel_rfl)).trans (show V 2 = .int .i64 (cm zA 1) from hφ 2 d2)
      exact ob_pure (ex_leq_int rfl e65 rfl) (show Value.bool (decide ((cm zA 1) ≤ 0)) = Value.bool false from by rw [hcm.out]; rfl)
    · obtain ⟨R0_, N_, XN_, D_, XD_, HB_⟩ := hG
      refine og_none rfl ?_
      have d3 := dep_of hdep 3 (by kernel_rfl)
      have e66 := (new_slot hf 3 66 d3 (by kernel_rfl)).trans (show V 3 = .bool false from hφ 3 d3)
      exact ob_pure (v := .bool false) (ex_moveV rfl e66) rfl
    · obtain ⟨R0_, N_, XN_, D_, XD_, HB_⟩ := hG
      have dg := dep_of hdep 4 (by kernel_rfl)
      refine og_want rfl (yielded_of hf (n := 79) (by kernel_rfl) rfl 4 67 dg (by kernel_rfl) (show V 4 = .bool false from hφ 4 dg)) ?_
      have e9 := old_slot hf 9 (by kernel_rfl)
      exact ob_load_int rfl e9 XN_ rfl
    · obtain ⟨R0_, N_, XN_, D_, XD_, HB_⟩ := hG
      have dg := dep_of hdep 4 (by kernel_rfl)
      refine og_want rfl (yielded_of hf (n := 79) (by kernel_rfl) rfl 4 67 dg (by kernel_rfl) (show V 4 = .bool false from hφ 4 dg)) ?_
      have e11 := old_slot hf 11 (by kernel_rfl)
      exact ob_load_int rfl e11 XD_ rfl
    · obtain ⟨R0_, N_, XN_, D_, XD_, HB_⟩ := hG
      have dg := dep_of hdep 4 (by kernel_rfl)
      refine og_want rfl (yielded_of hf (n := 79) (by kernel_rfl) rfl 4 67 dg (by kernel_rfl) (show V 4 = .bool false from hφ 4 dg)) ?_
      have d5 := dep_of hdep 5 (by kernel_rfl)
      have e68 := (new_slot hf 5 68 d5 (by kernel_rfl)).trans (show V 5 = .agg #[.bool q61, .slice A61 n61 c61] from hφ 5 d5)
      have d6 := dep_of hdep 6 (by kernel_rfl)
      have e69 := (new_slot hf 6 69 d6 (by kernel_rfl)).trans (show V 6 = .agg #[.bool q71, .slice A71 n71 c71] from hφ 6 d6)
      refine ob_go rfl (vs := #[.agg #[.bool q61, .slice A61 n61 c61], .agg #[.bool q71, .slice A71 n71 c71]]) (by simp only [List.map_toArray, List.map_cons, List.map_nil, e68, e69]) (by kernel_rfl) (rgcd_any _ (.agg #[.bool q61, .slice A61 n61 c61]) (.agg #[.bool q71, .slice A71 n71 c71]) zB zA 2000 (by omega) (N_.arg (SB.out)) (D_.arg (SA.out))) ?_
      rintro e w2 ⟨⟨v, rfl, hv⟩, hb⟩
      exact ⟨v, rfl, hb, hv⟩
    · obtain ⟨R0_, N_, XN_, D_, XD_, HB_⟩ := hG
      have dg := dep_of hdep 4 (by kernel_rfl)
      refine og_want rfl (yielded_of hf (n := 79) (by kernel_rfl) rfl 4 67 dg (by kernel_rfl) (show V 4 = .bool false from hφ 4 dg)) ?_
      refine ob_go rfl (vs := #[.int .i64 1]) (by simp only [List.map_toArray, List.map_cons, List.map_nil, ev_const]) (by kernel_rfl) (rsmall_any _ 1 (by decide) (by decide)) ?_
      rintro e w2 ⟨⟨v, rfl, hv⟩, hb⟩
      exact ⟨v, rfl, hb, hv⟩
    · obtain ⟨R0_, N_, XN_, D_, XD_, HB_⟩ := hG
      have dg := dep_of hdep 4 (by kernel_rfl)
      refine og_want rfl (yielded_of hf (n := 79) (by kernel_rfl) rfl 4 67 dg (by kernel_rfl) (show V 4 = .bool false from hφ 4 dg)) ?_
      have d7 := dep_of hdep 7 (by kernel_rfl)
      have e70 := new_slot hf 7 70 d7 (by kernel_rfl)
      have p70 : IntV w1 (V 7) ((Int.gcd zB zA : Nat) : Int) := hφ 7 d7
      have d8 := dep_of hdep 8 (by kernel_rfl)
      have e71 := new_slot hf 8 71 d8 (by kernel_rfl)
      have p71 : IntV w1 (V 8) 1 := hφ 8 d8
      refine ob_go rfl (vs := #[V 7, V 8]) (by simp only [List.map_toArray, List.map_cons, List.map_nil, e70, e71]) (by kernel_rfl) (rcmpI_any _ (V 7) (V 8) ((Int.gcd zB zA : Nat) : Int) 1 2000 1 (p70.arg (SM8.out)) (p71.arg ((Sm.one (n := 1) (by decide) (by decide)))) ) ?_
      rintro e w2 ⟨he, hb⟩
      exact ⟨_, he, hb, rfl⟩
    · obtain ⟨R0_, N_, XN_, D_, XD_, HB_⟩ := hG
      have dg := dep_of hdep 4 (by kernel_rfl)
      refine og_want rfl (yielded_of hf (n := 79) (by kernel_rfl) rfl 4 67 dg (by kernel_rfl) (show V 4 = .bool false from hφ 4 dg)) ?_
      have d9 := dep_of hdep 9 (by kernel_rfl)
      have e72 := (new_slot hf 9 72 d9 (by kernel_rfl)).trans (show V 9 = .int .i64 (cm ((Int.gcd zB zA : Nat) : Int) 1) from hφ 9 d9)
      exact ob_pure (ex_neq_int rfl e72 rfl) (show Value.bool ((cm ((Int.gcd zB zA : Nat) : Int) 1) != 0) = Value.bool false from by rw [hcg.out]; rfl)
    · obtain ⟨R0_, N_, XN_, D_, XD_, HB_⟩ := hG
      refine og_none rfl ?_
      have d4 := dep_of hdep 4 (by kernel_rfl)
      have e67 := (new_slot hf 4 67 d4 (by kernel_rfl)).trans (show V 4 = .bool false from hφ 4 d4)
      have d10 := dep_of hdep 10 (by kernel_rfl)
      have e73 := (new_slot hf 10 73 d10 (by kernel_rfl)).trans (show V 10 = .bool false from hφ 10 d10)
      exact ob_pure (v := .bool false) (ex_pick_false rfl e67 e73) rfl
  · intro V W9 hG hsz9 hφ hψ hne
    have hlt9 : (W7.alloc (.cells #[.bool q71, .slice A71 n71 c71] 24)).heap.size ≤ W9.heap.size := hsz9
    obtain ⟨R0_, N_, XN_, D_, XD_, HB_⟩ := hG
    have R0 := hid R0_
    have N := hid N_
    have XN := hid XN_
    have D := hid D_
    have XD := hid XD_
    have HB := hid HB_
    have y0 : V 0 = .agg #[.bool q71, .slice A71 n71 c71] := hφ 0 (by decide)
    have y2 : V 2 = .int .i64 (cm zA 1) := hφ 2 (by decide)
    have y3 : V 3 = .bool false := hφ 3 (by decide)
    have y4 : V 4 = .bool false := hφ 4 (by decide)
    have y5 : V 5 = .agg #[.bool q61, .slice A61 n61 c61] := hφ 5 (by decide)
    have y6 : V 6 = .agg #[.bool q71, .slice A71 n71 c71] := hφ 6 (by decide)
    have y9 : V 9 = .int .i64 (cm ((Int.gcd zB zA : Nat) : Int) 1) := hφ 9 (by decide)
    have y10 : V 10 = .bool false := hφ 10 (by decide)
    have y11 : V 11 = .bool false := hφ 11 (by decide)
    simp only [puts, Act.put, List.setIfInBounds_toArray, List.set_cons_zero, List.set_cons_succ, y0, y2, y3, y4, y5, y6, y9, y10, y11]
    clear hφ hψ hne y0 y2 y3 y4 y5 y6 y9 y10 y11 R0_ N_ XN_ D_ XD_ HB_ hsz9
    go_wp2_with (with_reducible refine halt_at 76 rfl ?_)
    unfold Halted
    refine wp_list_each (by kernel_rfl) 5 79 rfl rfl (by kernel_rfl)
      [Fact.eq (.agg #[.bool q61, .slice A61 n61 c61]), Fact.eq (.agg #[.bool q71, .slice A71 n71 c71]), Fact.pair (.V zB) (.V zA), Fact.top _, Fact.eq (.int .i64 0)]
      [.val, .val, .val, .fillOld 0, .val]
      (fun w' => IntV w' (.agg #[.bool q61, .slice A61 n61 c61]) (zB) ∧ Blk w' (W6.heap.size) 24 #[.bool q61, .slice A61 n61 c61] ∧ IntV w' (.agg #[.bool q71, .slice A71 n71 c71]) (zA) ∧ Blk w' (W7.heap.size) 24 #[.bool q71, .slice A71 n71 c71] ∧ Below w.heap.size w w')
      (fun l b w' => match l with
        | 0 => if b = true then BoxR w' (w.heap.size) 26 (.V zB) (.V zA) else Blk w' (w.heap.size) 26 #[.bool false, .slice none 0 0, .bool false, .slice none 0 0]
        | _ => True)
      [3] (fun l => match l with | 0 => w.heap.size | _ => 0) (by kernel_rfl)
      ⟨N.out, XN.out, D.out, XD.out, HB.out⟩
      (fun w1 w2 ⟨h0, h1, h2, h3, h4⟩ hb => ⟨h0.below hb, h1.below hb, h2.below hb, h3.below hb, bw_step h4 hb⟩)
      (fun w1 w2 g ⟨h0, h1, h2, h3, h4⟩ hg hn ho => by
        have hg' : W9.heap.size ≤ g ∨ g = w.heap.size := by
          rcases hg with h | ⟨l, hl, h⟩
          · exact .inl h
          · rcases l with _ | l
            · exact .inr h
            · exact absurd hl (by simp)
        exact ⟨h0.only hn ho, h1.only ho (by have := R0.out.lt; have := XN.out.lt; have := XD.out.lt; omega), h2.only hn ho, h3.only ho (by have := R0.out.lt; have := XN.out.lt; have := XD.out.lt; omega), below_only h4 ho (by have := R0.out.lt; have := XN.out.lt; have := XD.out.lt; have := HB.out.size; omega)⟩)
      (fun l hl => by
          rcases l with _ | l
          · exact R0.out
          · exact absurd hl (by simp))
      (fun l b w1 w2 hl h hb => by
          rcases l with _ | l
          · (cases b <;> exact h.below hb)
          · exact absurd hl (by simp))
      (fun l b w1 w2 g hl h hg hn ho => by
          rcases l with _ | l
          · (cases b; (exact h.only ho (Ne.symm hg)); (exact h.only (Ne.symm hg) hn ho))
          · exact absurd hl (by simp))
      (fun l hl => by
          rcases l with _ | l
          · exact R0.out.lt
          · exact absurd hl (by simp))
      (fun l k hl hk hne => by rcases l with _ | l <;> rcases k with _ | k <;> simp at hl hk hne)
      ?_ ?_
    · refine ⟨?_, ?_, ?_, ?_, ?_, trivial⟩ <;> intro L V a1 w1 hf hG hsz hφ hψ hL hdep hcl
      · obtain ⟨N_, XN_, D_, XD_, HB_⟩ := hG
        have e9 := old_slot hf 9 (by kernel_rfl)
        exact ob_load_int rfl e9 XN_ rfl
      · obtain ⟨N_, XN_, D_, XD_, HB_⟩ := hG
        have e11 := old_slot hf 11 (by kernel_rfl)
        exact ob_load_int rfl e11 XD_ rfl
      · obtain ⟨N_, XN_, D_, XD_, HB_⟩ := hG
        have d0 := dep_of hdep 0 (by kernel_rfl)
        have e76 := (new_slot hf 0 76 d0 (by kernel_rfl)).trans (show V 0 = .agg #[.bool q61, .slice A61 n61 c61] from hφ 0 d0)
        have d1 := dep_of hdep 1 (by kernel_rfl)
        have e77 := (new_slot hf 1 77 d1 (by kernel_rfl)).trans (show V 1 = .agg #[.bool q71, .slice A71 n71 c71] from hφ 1 d1)
        exact ob_buildR (A := .V zB) (B := .V zA) rfl e76 N_ e77 D_ rfl
      · obtain ⟨N_, XN_, D_, XD_, HB_⟩ := hG
        have d2 := dep_of hdep 2 (by kernel_rfl)
        have e78 := new_slot hf 2 78 d2 (by kernel_rfl)
        have p78 : Pair w1 (V 2) (.V zB) (.V zA) := hφ 2 d2
        have e2 := old_slot hf 2 (by kernel_rfl)
        have hb0 := hψ 0 (by decide)
        rw [show [3].getD 0 0 = 3 from rfl, hL] at hb0
        exact ob_fillOldR rfl e2 e78 hb0 p78 (fun w2 h => h) rfl
      · obtain ⟨N_, XN_, D_, XD_, HB_⟩ := hG
        exact ob_pure (v := .int .i64 0) (ex_assignV rfl rfl) rfl
    · intro V W10 hG hsz10 hφ hψ hne
      have hlt10 : W9.heap.size ≤ W10.heap.size := hsz10
      obtain ⟨N_, XN_, D_, XD_, HB_⟩ := hG
      have N := hid N_
      have XN := hid XN_
      have D := hid D_
      have XD := hid XD_
      have HB := hid HB_
      have y0 : V 0 = .agg #[.bool q61, .slice A61 n61 c61] := hφ 0 (by decide)
      have y1 : V 1 = .agg #[.bool q71, .slice A71 n71 c71] := hφ 1 (by decide)
      have y4 : V 4 = .int .i64 0 := hφ 4 (by decide)
      obtain ⟨q10501, A10501, n10501, c10501, q10502, A10502, n10502, c10502, kb1050, va1050, vb1050⟩ := hψ 0 (by decide)
      have R0 := hid kb1050
      have R01 : Hid (IntV W10 (.agg #[.bool q10501, .slice A10501 n10501 c10501]) zB) := hid va1050
      have R02 : Hid (IntV W10 (.agg #[.bool q10502, .slice A10502 n10502 c10502]) zA) := hid vb1050
      clear kb1050 va1050 vb1050
      simp only [puts, Act.put, List.setIfInBounds_toArray, List.set_cons_zero, List.set_cons_succ, y0, y1, y4]
      clear hφ hψ hne y0 y1 y4 N_ XN_ D_ XD_ HB_ hsz10
      have k0 := R0.out.cell 0
      have k1 := R0.out.cell 1
      have k2 := R0.out.cell 2
      have k3 := R0.out.cell 3
      go_wp2
      refine bodyPost_ret (v := .tuple #[.agg #[.bool q10501, .slice A10501 n10501 c10501, .bool q10502, .slice A10502 n10502 c10502], .int .i64 0]) (by simp [results, Try.results33, go_sem, k0, k1, k2, k3]) rfl ⟨⟨_, rfl, ?_⟩, HB.out⟩
      exact Pair.mk (a := .V zB) (b := .V zA) R01.out R02.out
theorem num_size {s : ByteArray} (h : Num s) : 0 < s.size := by
  rcases Nat.eq_zero_or_pos s.size with h0 | h0
  · have h1 := h.1
    unfold dsB at h1
    split at h1
    · simp at h1; omega
    · omega
  · exact h0
theorem rE_val {s : ByteArray} {c : Int} (h : rE s = c) (hc : c ≠ 0) : rP s = 0 ∧ rQ s = 0 := by
  unfold rP rQ
  rw [h, if_neg hc, if_neg hc]
  exact ⟨rfl, rfl⟩
theorem ret_val {w : World} {s : ByteArray} {c : Int} {e : Ending} (h : rE s = c) (hc : c ≠ 0) (hr : RetPE w c 0 0 e) : RetPE w (rE s) (rP s) (rQ s) e := by
  obtain ⟨h1, h2⟩ := rE_val h hc
  rw [h1, h2, h]; exact hr
theorem rparseR_any (w : World) (s : ByteArray) (hs : s.size ≤ 9223372036854775807) :
    Calls Try.prog 33 #[.string s] w fun e w' => RetPE w' (rE s) (rP s) (rQ s) e ∧ Below w.heap.size w w' := by
  have hBs := Nat.le_trans (cutB_size s 47) hs
  have hAs := Nat.le_trans (cutA_size s 47) hs
  have hb : ∀ x y : Int, x ≠ y → (x == y) = false := fun x y h => by simpa using h
  have hn : ∀ x y : Int, x ≠ y → (x != y) = true := fun x y h => by simpa using h
  have hn0 : ∀ x y : Int, x = y → (x != y) = false := fun x y h => by simpa using h
  have PB := hid (rparse_c _ hBs)
  have PA := hid (rparse_c _ hAs)
  have SB := hid (pz_sm (cutB s 47))
  have SA := hid (pz_sm (cutA s 47))
  obtain ⟨nB, NB, iB⟩ := isn_c _ hBs
  obtain ⟨nA, NA, iA⟩ := isn_c _ hAs
  have LB := long_c _ hBs
  have LA := long_c _ hAs
  have up : ∀ {c : Int} {e : Ending} {w' : World}, rE s = c → c ≠ 0 → RetPE w' c 0 0 e ∧ Below w.heap.size w w' → RetPE w' (rE s) (rP s) (rQ s) e ∧ Below w.heap.size w w' := fun h hc hr => ⟨ret_val h hc hr.1, hr.2⟩
  have pB := pc_form (cutB s 47)
  have pA := pc_form (cutA s 47)
  cases hF : cutF s 47 with
  | false =>
    by_cases h4 : pc (cutB s 47) = 0
    · have e : rE s = 0 := by unfold rE; rw [hF, h4]; simp [rcf]
      have e1 : rP s = pz (cutB s 47) := by unfold rP; rw [if_pos e]
      have e2 : rQ s = 1 := by unfold rQ; rw [if_pos e, hF]; rfl
      rw [e, e1, e2]
      refine (qF_ok w s _ _ _ _ _ _ _ _ _ _ hs (hid rfl) (hid rfl) (hid hF) PB PA SB SA (hid NB) (hid NA) (hid LB) (hid LA) (hn0 _ _ h4)).mono ?_
      rintro e' w' ⟨h, hb'⟩
      rw [Rat.num_intCast, Rat.den_intCast] at h
      exact ⟨h, hb'⟩
    · have e : rE s = pc (cutB s 47) := by
        unfold rE; rw [hF]
        rcases pB with ⟨_, h⟩ | ⟨_, _, h⟩ | ⟨_, _, h⟩
        · rw [h]; simp [rcf]
        · rw [h]; simp [rcf]
        · exact absurd h h4
      exact (qF_err w s _ _ _ _ _ _ _ _ _ _ hs (hid rfl) (hid rfl) (hid hF) PB PA SB SA (hid NB) (hid NA) (hid LB) (hid LA) (hn _ _ h4)).mono fun e' w' h => up e h4 h
  | true =>
    cases nB with
    | false =>
      have h2 : pc (cutB s 47) = 2 := by
        rcases pB with ⟨_, h⟩ | ⟨h, _⟩ | ⟨h, _⟩
        · exact h
        · exact absurd (iB.2 h) (by decide)
        · exact absurd (iB.2 h) (by decide)
      have e : rE s = 2 := by unfold rE; rw [hF, h2]; simp [rcf]
      exact (qR_syn1 w s _ _ _ _ _ _ _ _ _ hs (hid rfl) (hid rfl) (hid hF) PB PA SB SA (hid NB) (hid NA) (hid LB) (hid LA)).mono fun e' w' h => up e (by decide) h
    | true =>
      have hnB : Num (cutB s 47) := iB.1 rfl
      have h2 : pc (cutB s 47) ≠ 2 := by
        rcases pB with ⟨h, _⟩ | ⟨_, _, h⟩ | ⟨_, _, h⟩
        · exact absurd hnB h
        · rw [h]; decide
        · rw [h]; decide
      cases nA with
      | false =>
        have h3 : pc (cutA s 47) = 2 := by
          rcases pA with ⟨_, h⟩ | ⟨h, _⟩ | ⟨h, _⟩
          · exact h
          · exact absurd (iA.2 h) (by decide)
          · exact absurd (iA.2 h) (by decide)
        have e : rE s = 2 := by unfold rE; rw [hF, h3]; simp [rcf]
        exact (qR_syn2 w s _ _ _ _ _ _ _ _ hs (hid rfl) (hid rfl) (hid hF) PB PA SB SA (hid NB) (hid NA) (hid LB) (hid LA)).mono fun e' w' h => up e (by decide) h
      | true =>
        have hnA : Num (cutA s 47) := iA.1 rfl
        have h3 : pc (cutA s 47) ≠ 2 := by
          rcases pA with ⟨h, _⟩ | ⟨_, _, h⟩ | ⟨_, _, h⟩
          · exact absurd hnA h
          · rw [h]; decide
          · rw [h]; decide
        have h0 := num_size hnA
        have hda : ((((cutA s 47)[0]'h0).toNat : Int) == 45) = ngB (cutA s 47) := by
          unfold ngB
          rw [bt_get h0, Bool.eq_iff_iff]
          simp only [beq_iff_eq]
          omega
        cases hng : ngB (cutA s 47) with
        | true =>
          rw [hng] at hda
          have e : rE s = 2 := by unfold rE; rw [hF, hng]; simp [rcf]
          exact (qR_syn3 w s _ _ _ _ _ _ _ _ hs (hid rfl) (hid rfl) (hid hF) PB PA SB SA (hid NB) (hid NA) (hid LB) (hid LA) h0 hda).mono fun e' w' h => up e (by decide) h
        | false =>
          rw [hng] at hda
          by_cases l1 : 2000 < (dsB (cutB s 47)).size
          · rw [decide_eq_true l1] at LB
            have h4 : pc (cutB s 47) = 7 := by
              rcases pB with ⟨h, _⟩ | ⟨_, _, h⟩ | ⟨_, h, _⟩
              · exact absurd hnB h
              · exact h
              · omega
            have e : rE s = 7 := by unfold rE; rw [hF, hng, h4]; simp [rcf, h3]
            exact (qR_lar1 w s _ _ _ _ _ _ _ hs (hid rfl) (hid rfl) (hid hF) PB PA SB SA (hid NB) (hid NA) (hid LB) (hid LA) h0 hda).mono fun e' w' h => up e (by decide) h
          · rw [decide_eq_false l1] at LB
            have h4 : pc (cutB s 47) = 0 := by
              rcases pB with ⟨h, _⟩ | ⟨_, h, _⟩ | ⟨_, _, h⟩
              · exact absurd hnB h
              · exact absurd h l1
              · exact h
            by_cases l2 : 2000 < (dsB (cutA s 47)).size
            · rw [decide_eq_true l2] at LA
              have h5 : pc (cutA s 47) = 7 := by
                rcases pA with ⟨h, _⟩ | ⟨_, _, h⟩ | ⟨_, h, _⟩
                · exact absurd hnA h
                · exact h
                · omega
              have e : rE s = 7 := by unfold rE; rw [hF, hng, h4, h5]; simp [rcf]
              exact (qR_lar2 w s _ _ _ _ _ _ hs (hid rfl) (hid rfl) (hid hF) PB PA SB SA (hid NB) (hid NA) (hid LB) (hid LA) h0 hda).mono fun e' w' h => up e (by decide) h
            · rw [decide_eq_false l2] at LA
              have h5 : pc (cutA s 47) = 0 := by
                rcases pA with ⟨h, _⟩ | ⟨_, h, _⟩ | ⟨_, _, h⟩
                · exact absurd hnA h
                · exact absurd h l2
                · exact h
              have e0 : rE s = rcf 0 0 true false (pz (cutB s 47)) (pz (cutA s 47)) := by unfold rE; rw [hF, hng, h4, h5]
              by_cases h6 : pz (cutA s 47) ≤ 1
              · have e : rE s = 1 := by rw [e0]; simp [rcf, h6]
                rcases cm_le h6 with h7 | h7
                · exact (qR_le1 w s _ _ _ _ _ _ hs (hid rfl) (hid rfl) (hid hF) PB PA SB SA (hid NB) (hid NA) (hid LB) (hid LA) h0 hda (hid h7)).mono fun e' w' h => up e (by decide) h
                · exact (qR_le2 w s _ _ _ _ _ _ hs (hid rfl) (hid rfl) (hid hF) PB PA SB SA (hid NB) (hid NA) (hid LB) (hid LA) h0 hda (hid h7)).mono fun e' w' h => up e (by decide) h
              · have hg : 0 < Int.gcd (pz (cutB s 47)) (pz (cutA s 47)) := Int.gcd_pos_of_ne_zero_right _ (by omega)
                by_cases h7 : 1 < (Int.gcd (pz (cutB s 47)) (pz (cutA s 47)) : Int)
                · have e : rE s = 1 := by rw [e0]; simp [rcf]; omega
                  exact (qR_gcd w s _ _ _ _ _ _ hs (hid rfl) (hid rfl) (hid hF) PB PA SB SA (hid NB) (hid NA) (hid LB) (hid LA) h0 hda (hid (cm_gt (by omega))) (hid (cm_gt h7))).mono fun e' w' h => up e (by decide) h
                · have e : rE s = 0 := by rw [e0]; simp [rcf]; omega
                  have e1 : rP s = pz (cutB s 47) := by unfold rP; rw [if_pos e]
                  have e2 : rQ s = pz (cutA s 47) := by unfold rQ; rw [if_pos e, hF, if_pos rfl]
                  rw [e, e1, e2]
                  exact qR_ok w s _ _ _ _ _ _ hs (hid rfl) (hid rfl) (hid hF) PB PA SB SA (hid NB) (hid NA) (hid LB) (hid LA) h0 hda (hid (cm_gt (by omega))) (hid (cm_eq (by omega)))
end Go.Proofs.Ytijmjkkjopplbaa

namespace Go.Proofs.Ytijmjkkjopplbaa
open Go.RowKit
set_option linter.unusedVariables false
set_option maxRecDepth 100000

theorem rP_sm (s : ByteArray) : Sm 2000 (rP s) := by
  unfold rP
  split
  · exact pz_sm _
  · exact (Sm.one (n := 0) (by decide) (by decide)).to (by decide)
theorem rQ_sm (s : ByteArray) : Sm 2000 (rQ s) := by
  unfold rQ
  split
  · split
    · exact pz_sm _
    · exact (Sm.one (n := 1) (by decide) (by decide)).to (by decide)
  · exact (Sm.one (n := 0) (by decide) (by decide)).to (by decide)

end Go.Proofs.Ytijmjkkjopplbaa

namespace Go.Proofs.Ytijmjkkjopplbaa
open Go.RowKit
set_option linter.unusedVariables false
set_option maxRecDepth 100000

theorem text_sz {z : Int} (h0 : -9223372036854775808 ≤ z) (h1 : z < 9223372036854775808) : ByteArray.size ⟨(text z).toArray⟩ ≤ 21 := text_size (Sm.i64 h0 h1)

set_option maxHeartbeats 8000000 in
theorem rationalReads_far (w : World) (a b : Int) (h : -9223372036854775808 ≤ a ∧ a < 9223372036854775808 ∧ -9223372036854775808 ≤ b ∧ b < 9223372036854775808) :
    Calls Try.prog 7 #[.int .i64 a, .int .i64 b, .bool false] w fun e w' => e = .returned (.bool true) ∧ Below w.heap.size w w' := by
  have hm := hid h
  have TA := hid (text_sz h.1 h.2.1)
  have TB := hid (text_sz h.2.2.1 h.2.2.2)
  clear h
  obtain ⟨Ta, hTa⟩ : ∃ t, t = ByteArray.mk (text a).toArray := ⟨_, rfl⟩
  obtain ⟨Tb, hTb⟩ : ∃ t, t = ByteArray.mk (text b).toArray := ⟨_, rfl⟩
  rw [← hTa] at TA
  rw [← hTb] at TB
  have hta := TA.out
  have htb := TB.out
  have e47 : (ByteArray.mk #[47]).size = 1 := rfl
  have s1 : Ta.size + (ByteArray.mk #[47]).size ≤ 9223372036854775807 := by rw [e47]; omega
  have s2 : (Ta ++ ByteArray.mk #[47]).size + Tb.size ≤ 9223372036854775807 := by rw [ByteArray.size_append, e47]; omega
  have HTa := hid hTa
  have HTb := hid hTb
  clear hTa hTb e47 TA TB
  obtain ⟨s, hs⟩ : ∃ s, s = Ta ++ ByteArray.mk #[47] ++ Tb := ⟨_, rfl⟩
  have HS := hid hs
  have hz := hid (show s.size ≤ 9223372036854775807 by rw [hs, ByteArray.size_append]; exact s2)
  clear hs
  have SP := hid (rP_sm s)
  have SQ := hid (rQ_sm s)
  clear hta htb
  have HB := hid (Below.refl w.heap.size w)
  go_enter Try.func7, Try.ntmps7
  go_wp2_with fail
  refine (rsmall_any _ a hm.out.1 hm.out.2.1).mono ?_
  rintro e W1 ⟨⟨v, rfl, hv⟩, hb1⟩
  have Va := hid hv
  clear hv
  have HB := hid (bw_step HB.out hb1)
  clear hb1
  go_wp2_with fail
  refine (rformat_any _ _ a 2 (by decide) (Va.out.arg (Sm.i64 hm.out.1 hm.out.2.1))).mono ?_
  rintro e W2 ⟨he, hb2⟩
  rw [← HTa.out] at he
  subst he
  have HB := hid (bw_step HB.out hb2)
  have Va := hid (Va.out.below hb2)
  clear hb2
  clear Va
  go_wp2_with fail
  refine (rsmall_any _ b hm.out.2.2.1 hm.out.2.2.2).mono ?_
  rintro e W3 ⟨⟨v, rfl, hv⟩, hb3⟩
  have Vb := hid hv
  clear hv
  have HB := hid (bw_step HB.out hb3)
  clear hb3
  go_wp2_with fail
  refine (rformat_any _ _ b 2 (by decide) (Vb.out.arg (Sm.i64 hm.out.2.2.1 hm.out.2.2.2))).mono ?_
  rintro e W4 ⟨he, hb4⟩
  rw [← HTb.out] at he
  subst he
  have HB := hid (bw_step HB.out hb4)
  have Vb := hid (Vb.out.below hb4)
  clear hb4
  clear Vb
  go_wp2_with fail
  rw [← HS.out]
  refine (parseR_any _ s hz.out).mono ?_
  rintro e W5 ⟨⟨v, rfl, hv⟩, hb5⟩
  have HB := hid (bw_step HB.out hb5)
  clear hb5
  obtain ⟨q51, A51, n51, c51, q52, A52, n52, c52, rfl, h1, h2⟩ := hv.form
  have x1 : Hid (IntV W5 (.agg #[.bool q51, .slice A51 n51 c51]) (rP s)) := hid h1
  have x2 : Hid (IntV W5 (.agg #[.bool q52, .slice A52 n52 c52]) (rQ s)) := hid h2
  clear h1 h2 hv
  have hbb := bw_alloc (Below.refl _ W5) (.cells #[.bool q51, .slice A51 n51 c51, .bool q52, .slice A52 n52 c52] 26)
  have Xx := Blk.new W5 26 #[.bool q51, .slice A51 n51 c51, .bool q52, .slice A52 n52 c52]
  have HB := hid (bw_step HB.out hbb)
  have x1 := hid (x1.out.below hbb)
  have x2 := hid (x2.out.below hbb)
  have Xx := hid Xx
  clear hbb
  go_wp2_with fail
  refine (rparseR_any _ s hz.out).mono ?_
  rintro e W6 ⟨⟨v, rfl, hv⟩, hb6⟩
  have HB := hid (bw_step HB.out hb6)
  have x1 := hid (x1.out.below hb6)
  have x2 := hid (x2.out.below hb6)
  have Xx := hid (Xx.out.below hb6)
  clear hb6
  obtain ⟨q61, A61, n61, c61, q62, A62, n62, c62, rfl, h1, h2⟩ := hv.form
  have y1 : Hid (IntV W6 (.agg #[.bool q61, .slice A61 n61 c61]) (rP s)) := hid h1
  have y2 : Hid (IntV W6 (.agg #[.bool q62, .slice A62 n62 c62]) (rQ s)) := hid h2
  clear h1 h2 hv
  have hbb := bw_alloc (Below.refl _ W6) (.cells #[.bool q61, .slice A61 n61 c61, .bool q62, .slice A62 n62 c62] 26)
  have Xy := Blk.new W6 26 #[.bool q61, .slice A61 n61 c61, .bool q62, .slice A62 n62 c62]
  have HB := hid (bw_step HB.out hbb)
  have x1 := hid (x1.out.below hbb)
  have x2 := hid (x2.out.below hbb)
  have Xx := hid (Xx.out.below hbb)
  have y1 := hid (y1.out.below hbb)
  have y2 := hid (y2.out.below hbb)
  have Xy := hid Xy
  clear hbb
  go_wp2_with (with_reducible refine halt_at 35 rfl ?_)
  unfold Halted
  refine wp_list_eachG (by kernel_rfl) 12 46 rfl rfl (by kernel_rfl)
    [Fact.eq (.agg #[.bool q51, .slice A51 n51 c51, .bool q52, .slice A52 n52 c52]), Fact.eq (.agg #[.bool q61, .slice A61 n61 c61, .bool q62, .slice A62 n62 c62]), Fact.eq (.bool true), Fact.eq (.bool true), Fact.eq (.int .i64 (rE s)), Fact.eq (.int .i64 (rE s)), Fact.eq (.bool true), Fact.eq (.bool true), Fact.eq (.bool true), Fact.eq (.bool true), Fact.eq (.bool true), Fact.eq (.bool true)]
    [.val, .val, .val, .val, .val, .val, .val, .val, .val, .val, .val, .val]
    (fun w' => IntV w' (.agg #[.bool q51, .slice A51 n51 c51]) (rP s) ∧ IntV w' (.agg #[.bool q52, .slice A52 n52 c52]) (rQ s) ∧ Blk w' (W5.heap.size) 26 #[.bool q51, .slice A51 n51 c51, .bool q52, .slice A52 n52 c52] ∧ IntV w' (.agg #[.bool q61, .slice A61 n61 c61]) (rP s) ∧ IntV w' (.agg #[.bool q62, .slice A62 n62 c62]) (rQ s) ∧ Blk w' (W6.heap.size) 26 #[.bool q61, .slice A61 n61 c61, .bool q62, .slice A62 n62 c62] ∧ Below w.heap.size w w')
    (fun _ _ _ => True) [] (fun _ => 0) (by kernel_rfl)
    ⟨x1.out, x2.out, Xx.out, y1.out, y2.out, Xy.out, HB.out⟩
    (fun w1 w2 ⟨h0, h1, h2, h3, h4, h5, h6⟩ hb => ⟨h0.below hb, h1.below hb, h2.below hb, h3.below hb, h4.below hb, h5.below hb, bw_step h6 hb⟩)
    (fun w1 w2 g ⟨h0, h1, h2, h3, h4, h5, h6⟩ hg hn ho => by
      have hg' : (W6.alloc (.cells #[.bool q61, .slice A61 n61 c61, .bool q62, .slice A62 n62 c62] 26)).heap.size ≤ g := hg.elim id (fun ⟨_, h, _⟩ => absurd h (Nat.not_lt_zero _))
      exact ⟨h0.only hn ho, h1.only hn ho, h2.only ho (by have := Xx.out.lt; have := Xy.out.lt; omega), h3.only hn ho, h4.only hn ho, h5.only ho (by have := Xx.out.lt; have := Xy.out.lt; omega), below_only h6 ho (by have := Xx.out.lt; have := Xy.out.lt; have := HB.out.size; omega)⟩)
    (fun l h => trivial) (fun l b w1 w2 h _ _ => trivial) (fun l b w1 w2 g h _ _ _ _ => trivial) (fun l h => by cases h) (fun l k h => by cases h) ?_ ?_
  · refine ⟨?_, ?_, ?_, ?_, ?_, ?_, ?_, ?_, ?_, ?_, ?_, ?_, trivial⟩ <;> intro L V a1 w1 hf hG hsz hφ hψ hL hdep hcl
    · obtain ⟨x1_, x2_, Xx_, y1_, y2_, Xy_, HB_⟩ := hG
      refine og_none rfl ?_
      have e8 := old_slot hf 8 (by kernel_rfl)
      exact ob_pure (ex_loadR rfl e8 Xx_) rfl
    · obtain ⟨x1_, x2_, Xx_, y1_, y2_, Xy_, HB_⟩ := hG
      refine og_none rfl ?_
      have e10 := old_slot hf 10 (by kernel_rfl)
      exact ob_pure (ex_loadR rfl e10 Xy_) rfl
    · obtain ⟨x1_, x2_, Xx_, y1_, y2_, Xy_, HB_⟩ := hG
      refine og_none rfl ?_
      have d0 := dep_of hdep 0 (by kernel_rfl)
      have e35 := (new_slot hf 0 35 d0 (by kernel_rfl)).trans (show V 0 = .agg #[.bool q51, .slice A51 n51 c51, .bool q52, .slice A52 n52 c52] from hφ 0 d0)
      have d1 := dep_of hdep 1 (by kernel_rfl)
      have e36 := (new_slot hf 1 36 d1 (by kernel_rfl)).trans (show V 1 = .agg #[.bool q61, .slice A61 n61 c61, .bool q62, .slice A62 n62 c62] from hφ 1 d1)
      refine ob_go rfl (vs := #[.agg #[.bool q51, .slice A51 n51 c51, .bool q52, .slice A52 n52 c52], .agg #[.bool q61, .slice A61 n61 c61, .bool q62, .slice A62 n62 c62]]) (by simp only [List.map_toArray, List.map_cons, List.map_nil, e35, e36]) (by kernel_rfl) (rsameP_any _ _ _ (rP s) (rQ s) (Pair.mk (a := .V (rP s)) (b := .V (rQ s)) x1_ x2_) (Pair.mk (a := .V (rP s)) (b := .V (rQ s)) y1_ y2_)) ?_
      rintro e w2 ⟨he, hb⟩
      exact ⟨_, he, hb, rfl⟩
    · obtain ⟨x1_, x2_, Xx_, y1_, y2_, Xy_, HB_⟩ := hG
      refine og_none rfl ?_
      have d2 := dep_of hdep 2 (by kernel_rfl)
      have e37 := (new_slot hf 2 37 d2 (by kernel_rfl)).trans (show V 2 = .bool true from hφ 2 d2)
      exact ob_pure (v := .bool true) (ex_moveV rfl e37) rfl
    · obtain ⟨x1_, x2_, Xx_, y1_, y2_, Xy_, HB_⟩ := hG
      have dg := dep_of hdep 3 (by kernel_rfl)
      refine og_want rfl (yielded_of hf (n := 46) (by kernel_rfl) rfl 3 38 dg (by kernel_rfl) (show V 3 = .bool true from hφ 3 dg)) ?_
      have e9 := old_slot hf 9 (by kernel_rfl)
      exact ob_pure (v := .int .i64 (rE s)) (ex_moveV rfl e9) rfl
    · obtain ⟨x1_, x2_, Xx_, y1_, y2_, Xy_, HB_⟩ := hG
      have dg := dep_of hdep 3 (by kernel_rfl)
      refine og_want rfl (yielded_of hf (n := 46) (by kernel_rfl) rfl 3 38 dg (by kernel_rfl) (show V 3 = .bool true from hφ 3 dg)) ?_
      have e11 := old_slot hf 11 (by kernel_rfl)
      exact ob_pure (v := .int .i64 (rE s)) (ex_moveV rfl e11) rfl
    · obtain ⟨x1_, x2_, Xx_, y1_, y2_, Xy_, HB_⟩ := hG
      have dg := dep_of hdep 3 (by kernel_rfl)
      refine og_want rfl (yielded_of hf (n := 46) (by kernel_rfl) rfl 3 38 dg (by kernel_rfl) (show V 3 = .bool true from hφ 3 dg)) ?_
      have d4 := dep_of hdep 4 (by kernel_rfl)
      have e39 := (new_slot hf 4 39 d4 (by kernel_rfl)).trans (show V 4 = .int .i64 (rE s) from hφ 4 d4)
      have d5 := dep_of hdep 5 (by kernel_rfl)
      have e40 := (new_slot hf 5 40 d5 (by kernel_rfl)).trans (show V 5 = .int .i64 (rE s) from hφ 5 d5)
      exact ob_pure (ex_eql_err rfl e39 e40) (show Value.bool ((rE s) == (rE s)) = Value.bool true from by simp)
    · obtain ⟨x1_, x2_, Xx_, y1_, y2_, Xy_, HB_⟩ := hG
      refine og_none rfl ?_
      have d3 := dep_of hdep 3 (by kernel_rfl)
      have e38 := (new_slot hf 3 38 d3 (by kernel_rfl)).trans (show V 3 = .bool true from hφ 3 d3)
      have d6 := dep_of hdep 6 (by kernel_rfl)
      have e41 := (new_slot hf 6 41 d6 (by kernel_rfl)).trans (show V 6 = .bool true from hφ 6 d6)
      exact ob_pure (v := .bool true) (ex_pick_true rfl e38 e41) rfl
    · obtain ⟨x1_, x2_, Xx_, y1_, y2_, Xy_, HB_⟩ := hG
      refine og_none rfl ?_
      have d7 := dep_of hdep 7 (by kernel_rfl)
      have e42 := (new_slot hf 7 42 d7 (by kernel_rfl)).trans (show V 7 = .bool true from hφ 7 d7)
      exact ob_pure (v := .bool true) (ex_moveV rfl e42) rfl
    · obtain ⟨x1_, x2_, Xx_, y1_, y2_, Xy_, HB_⟩ := hG
      have dg := dep_of hdep 8 (by kernel_rfl)
      refine og_want rfl (yielded_of hf (n := 46) (by kernel_rfl) rfl 8 43 dg (by kernel_rfl) (show V 8 = .bool true from hφ 8 dg)) ?_
      refine ob_go rfl (vs := #[]) (by simp only [List.map_toArray, List.map_nil]) (by kernel_rfl) (awakeR_any _) ?_
      rintro e w2 ⟨he, hb⟩
      exact ⟨_, he, hb, rfl⟩
    · obtain ⟨x1_, x2_, Xx_, y1_, y2_, Xy_, HB_⟩ := hG
      refine og_none rfl ?_
      have d8 := dep_of hdep 8 (by kernel_rfl)
      have e43 := (new_slot hf 8 43 d8 (by kernel_rfl)).trans (show V 8 = .bool true from hφ 8 d8)
      have d9 := dep_of hdep 9 (by kernel_rfl)
      have e44 := (new_slot hf 9 44 d9 (by kernel_rfl)).trans (show V 9 = .bool true from hφ 9 d9)
      exact ob_pure (v := .bool true) (ex_pick_true rfl e43 e44) rfl
    · obtain ⟨x1_, x2_, Xx_, y1_, y2_, Xy_, HB_⟩ := hG
      refine og_none rfl ?_
      have d10 := dep_of hdep 10 (by kernel_rfl)
      have e45 := (new_slot hf 10 45 d10 (by kernel_rfl)).trans (show V 10 = .bool true from hφ 10 d10)
      exact ob_pure (v := .bool true) (ex_assignV rfl e45) rfl
  · intro V W7 hG hsz7 hφ hψ hne
    have hlt7 : (W6.alloc (.cells #[.bool q61, .slice A61 n61 c61, .bool q62, .slice A62 n62 c62] 26)).heap.size ≤ W7.heap.size := hsz7
    obtain ⟨x1_, x2_, Xx_, y1_, y2_, Xy_, HB_⟩ := hG
    have x1 := hid x1_
    have x2 := hid x2_
    have Xx := hid Xx_
    have y1 := hid y1_
    have y2 := hid y2_
    have Xy := hid Xy_
    have HB := hid HB_
    have y0 : V 0 = .agg #[.bool q51, .slice A51 n51 c51, .bool q52, .slice A52 n52 c52] := hφ 0 (by decide)
    have y1 : V 1 = .agg #[.bool q61, .slice A61 n61 c61, .bool q62, .slice A62 n62 c62] := hφ 1 (by decide)
    have y2 : V 2 = .bool true := hφ 2 (by decide)
    have y3 : V 3 = .bool true := hφ 3 (by decide)
    have y4 : V 4 = .int .i64 (rE s) := hφ 4 (by decide)
    have y5 : V 5 = .int .i64 (rE s) := hφ 5 (by decide)
    have y6 : V 6 = .bool true := hφ 6 (by decide)
    have y7 : V 7 = .bool true := hφ 7 (by decide)
    have y8 : V 8 = .bool true := hφ 8 (by decide)
    have y9 : V 9 = .bool true := hφ 9 (by decide)
    have y10 : V 10 = .bool true := hφ 10 (by decide)
    have y11 : V 11 = .bool true := hφ 11 (by decide)
    simp only [puts, Act.put, List.setIfInBounds_toArray, List.set_cons_zero, List.set_cons_succ, y0, y1, y2, y3, y4, y5, y6, y7, y8, y9, y10, y11]
    clear hφ hψ hne y0 y1 y2 y3 y4 y5 y6 y7 y8 y9 y10 y11 x1_ x2_ Xx_ y1_ y2_ Xy_ HB_ hsz7
    go_wp2
    go_ret
    exact ⟨rfl, HB.out⟩
set_option maxHeartbeats 8000000 in
theorem rationalReads_near (w : World) (x y a b : Int) (ha : x.tmod 40 = a) (hb : y.tmod 20 = b) (h : -9223372036854775808 ≤ a ∧ a < 9223372036854775808 ∧ -9223372036854775808 ≤ b ∧ b < 9223372036854775808) :
    Calls Try.prog 7 #[.int .i64 x, .int .i64 y, .bool true] w fun e w' => e = .returned (.bool true) ∧ Below w.heap.size w w' := by
  have hm := hid h
  have TA := hid (text_sz h.1 h.2.1)
  have TB := hid (text_sz h.2.2.1 h.2.2.2)
  clear h
  obtain ⟨Ta, hTa⟩ : ∃ t, t = ByteArray.mk (text a).toArray := ⟨_, rfl⟩
  obtain ⟨Tb, hTb⟩ : ∃ t, t = ByteArray.mk (text b).toArray := ⟨_, rfl⟩
  rw [← hTa] at TA
  rw [← hTb] at TB
  have hta := TA.out
  have htb := TB.out
  have e47 : (ByteArray.mk #[47]).size = 1 := rfl
  have s1 : Ta.size + (ByteArray.mk #[47]).size ≤ 9223372036854775807 := by rw [e47]; omega
  have s2 : (Ta ++ ByteArray.mk #[47]).size + Tb.size ≤ 9223372036854775807 := by rw [ByteArray.size_append, e47]; omega
  have HTa := hid hTa
  have HTb := hid hTb
  clear hTa hTb e47 TA TB
  obtain ⟨s, hs⟩ : ∃ s, s = Ta ++ ByteArray.mk #[47] ++ Tb := ⟨_, rfl⟩
  have HS := hid hs
  have hz := hid (show s.size ≤ 9223372036854775807 by rw [hs, ByteArray.size_append]; exact s2)
  clear hs
  have SP := hid (rP_sm s)
  have SQ := hid (rQ_sm s)
  clear hta htb
  have HB := hid (Below.refl w.heap.size w)
  go_enter Try.func7, Try.ntmps7
  go_wp2_with fail
  refine (rsmall_any _ a hm.out.1 hm.out.2.1).mono ?_
  rintro e W1 ⟨⟨v, rfl, hv⟩, hb1⟩
  have Va := hid hv
  clear hv
  have HB := hid (bw_step HB.out hb1)
  clear hb1
  go_wp2_with fail
  refine (rformat_any _ _ a 2 (by decide) (Va.out.arg (Sm.i64 hm.out.1 hm.out.2.1))).mono ?_
  rintro e W2 ⟨he, hb2⟩
  rw [← HTa.out] at he
  subst he
  have HB := hid (bw_step HB.out hb2)
  have Va := hid (Va.out.below hb2)
  clear hb2
  clear Va
  go_wp2_with fail
  refine (rsmall_any _ b hm.out.2.2.1 hm.out.2.2.2).mono ?_
  rintro e W3 ⟨⟨v, rfl, hv⟩, hb3⟩
  have Vb := hid hv
  clear hv
  have HB := hid (bw_step HB.out hb3)
  clear hb3
  go_wp2_with fail
  refine (rformat_any _ _ b 2 (by decide) (Vb.out.arg (Sm.i64 hm.out.2.2.1 hm.out.2.2.2))).mono ?_
  rintro e W4 ⟨he, hb4⟩
  rw [← HTb.out] at he
  subst he
  have HB := hid (bw_step HB.out hb4)
  have Vb := hid (Vb.out.below hb4)
  clear hb4
  clear Vb
  go_wp2_with fail
  rw [← HS.out]
  refine (parseR_any _ s hz.out).mono ?_
  rintro e W5 ⟨⟨v, rfl, hv⟩, hb5⟩
  have HB := hid (bw_step HB.out hb5)
  clear hb5
  obtain ⟨q51, A51, n51, c51, q52, A52, n52, c52, rfl, h1, h2⟩ := hv.form
  have x1 : Hid (IntV W5 (.agg #[.bool q51, .slice A51 n51 c51]) (rP s)) := hid h1
  have x2 : Hid (IntV W5 (.agg #[.bool q52, .slice A52 n52 c52]) (rQ s)) := hid h2
  clear h1 h2 hv
  have hbb := bw_alloc (Below.refl _ W5) (.cells #[.bool q51, .slice A51 n51 c51, .bool q52, .slice A52 n52 c52] 26)
  have Xx := Blk.new W5 26 #[.bool q51, .slice A51 n51 c51, .bool q52, .slice A52 n52 c52]
  have HB := hid (bw_step HB.out hbb)
  have x1 := hid (x1.out.below hbb)
  have x2 := hid (x2.out.below hbb)
  have Xx := hid Xx
  clear hbb
  go_wp2_with fail
  refine (rparseR_any _ s hz.out).mono ?_
  rintro e W6 ⟨⟨v, rfl, hv⟩, hb6⟩
  have HB := hid (bw_step HB.out hb6)
  have x1 := hid (x1.out.below hb6)
  have x2 := hid (x2.out.below hb6)
  have Xx := hid (Xx.out.below hb6)
  clear hb6
  obtain ⟨q61, A61, n61, c61, q62, A62, n62, c62, rfl, h1, h2⟩ := hv.form
  have y1 : Hid (IntV W6 (.agg #[.bool q61, .slice A61 n61 c61]) (rP s)) := hid h1
  have y2 : Hid (IntV W6 (.agg #[.bool q62, .slice A62 n62 c62]) (rQ s)) := hid h2
  clear h1 h2 hv
  have hbb := bw_alloc (Below.refl _ W6) (.cells #[.bool q61, .slice A61 n61 c61, .bool q62, .slice A62 n62 c62] 26)
  have Xy := Blk.new W6 26 #[.bool q61, .slice A61 n61 c61, .bool q62, .slice A62 n62 c62]
  have HB := hid (bw_step HB.out hbb)
  have x1 := hid (x1.out.below hbb)
  have x2 := hid (x2.out.below hbb)
  have Xx := hid (Xx.out.below hbb)
  have y1 := hid (y1.out.below hbb)
  have y2 := hid (y2.out.below hbb)
  have Xy := hid Xy
  clear hbb
  go_wp2_with (with_reducible refine halt_at 35 rfl ?_)
  unfold Halted
  refine wp_list_eachG (by kernel_rfl) 12 46 rfl rfl (by kernel_rfl)
    [Fact.eq (.agg #[.bool q51, .slice A51 n51 c51, .bool q52, .slice A52 n52 c52]), Fact.eq (.agg #[.bool q61, .slice A61 n61 c61, .bool q62, .slice A62 n62 c62]), Fact.eq (.bool true), Fact.eq (.bool true), Fact.eq (.int .i64 (rE s)), Fact.eq (.int .i64 (rE s)), Fact.eq (.bool true), Fact.eq (.bool true), Fact.eq (.bool true), Fact.eq (.bool true), Fact.eq (.bool true), Fact.eq (.bool true)]
    [.val, .val, .val, .val, .val, .val, .val, .val, .val, .val, .val, .val]
    (fun w' => IntV w' (.agg #[.bool q51, .slice A51 n51 c51]) (rP s) ∧ IntV w' (.agg #[.bool q52, .slice A52 n52 c52]) (rQ s) ∧ Blk w' (W5.heap.size) 26 #[.bool q51, .slice A51 n51 c51, .bool q52, .slice A52 n52 c52] ∧ IntV w' (.agg #[.bool q61, .slice A61 n61 c61]) (rP s) ∧ IntV w' (.agg #[.bool q62, .slice A62 n62 c62]) (rQ s) ∧ Blk w' (W6.heap.size) 26 #[.bool q61, .slice A61 n61 c61, .bool q62, .slice A62 n62 c62] ∧ Below w.heap.size w w')
    (fun _ _ _ => True) [] (fun _ => 0) (by kernel_rfl)
    ⟨x1.out, x2.out, Xx.out, y1.out, y2.out, Xy.out, HB.out⟩
    (fun w1 w2 ⟨h0, h1, h2, h3, h4, h5, h6⟩ hb => ⟨h0.below hb, h1.below hb, h2.below hb, h3.below hb, h4.below hb, h5.below hb, bw_step h6 hb⟩)
    (fun w1 w2 g ⟨h0, h1, h2, h3, h4, h5, h6⟩ hg hn ho => by
      have hg' : (W6.alloc (.cells #[.bool q61, .slice A61 n61 c61, .bool q62, .slice A62 n62 c62] 26)).heap.size ≤ g := hg.elim id (fun ⟨_, h, _⟩ => absurd h (Nat.not_lt_zero _))
      exact ⟨h0.only hn ho, h1.only hn ho, h2.only ho (by have := Xx.out.lt; have := Xy.out.lt; omega), h3.only hn ho, h4.only hn ho, h5.only ho (by have := Xx.out.lt; have := Xy.out.lt; omega), below_only h6 ho (by have := Xx.out.lt; have := Xy.out.lt; have := HB.out.size; omega)⟩)
    (fun l h => trivial) (fun l b w1 w2 h _ _ => trivial) (fun l b w1 w2 g h _ _ _ _ => trivial) (fun l h => by cases h) (fun l k h => by cases h) ?_ ?_
  · refine ⟨?_, ?_, ?_, ?_, ?_, ?_, ?_, ?_, ?_, ?_, ?_, ?_, trivial⟩ <;> intro L V a1 w1 hf hG hsz hφ hψ hL hdep hcl
    · obtain ⟨x1_, x2_, Xx_, y1_, y2_, Xy_, HB_⟩ := hG
      refine og_none rfl ?_
      have e8 := old_slot hf 8 (by kernel_rfl)
      exact ob_pure (ex_loadR rfl e8 Xx_) rfl
    · obtain ⟨x1_, x2_, Xx_, y1_, y2_, Xy_, HB_⟩ := hG
      refine og_none rfl ?_
      have e10 := old_slot hf 10 (by kernel_rfl)
      exact ob_pure (ex_loadR rfl e10 Xy_) rfl
    · obtain ⟨x1_, x2_, Xx_, y1_, y2_, Xy_, HB_⟩ := hG
      refine og_none rfl ?_
      have d0 := dep_of hdep 0 (by kernel_rfl)
      have e35 := (new_slot hf 0 35 d0 (by kernel_rfl)).trans (show V 0 = .agg #[.bool q51, .slice A51 n51 c51, .bool q52, .slice A52 n52 c52] from hφ 0 d0)
      have d1 := dep_of hdep 1 (by kernel_rfl)
      have e36 := (new_slot hf 1 36 d1 (by kernel_rfl)).trans (show V 1 = .agg #[.bool q61, .slice A61 n61 c61, .bool q62, .slice A62 n62 c62] from hφ 1 d1)
      refine ob_go rfl (vs := #[.agg #[.bool q51, .slice A51 n51 c51, .bool q52, .slice A52 n52 c52], .agg #[.bool q61, .slice A61 n61 c61, .bool q62, .slice A62 n62 c62]]) (by simp only [List.map_toArray, List.map_cons, List.map_nil, e35, e36]) (by kernel_rfl) (rsameP_any _ _ _ (rP s) (rQ s) (Pair.mk (a := .V (rP s)) (b := .V (rQ s)) x1_ x2_) (Pair.mk (a := .V (rP s)) (b := .V (rQ s)) y1_ y2_)) ?_
      rintro e w2 ⟨he, hb⟩
      exact ⟨_, he, hb, rfl⟩
    · obtain ⟨x1_, x2_, Xx_, y1_, y2_, Xy_, HB_⟩ := hG
      refine og_none rfl ?_
      have d2 := dep_of hdep 2 (by kernel_rfl)
      have e37 := (new_slot hf 2 37 d2 (by kernel_rfl)).trans (show V 2 = .bool true from hφ 2 d2)
      exact ob_pure (v := .bool true) (ex_moveV rfl e37) rfl
    · obtain ⟨x1_, x2_, Xx_, y1_, y2_, Xy_, HB_⟩ := hG
      have dg := dep_of hdep 3 (by kernel_rfl)
      refine og_want rfl (yielded_of hf (n := 46) (by kernel_rfl) rfl 3 38 dg (by kernel_rfl) (show V 3 = .bool true from hφ 3 dg)) ?_
      have e9 := old_slot hf 9 (by kernel_rfl)
      exact ob_pure (v := .int .i64 (rE s)) (ex_moveV rfl e9) rfl
    · obtain ⟨x1_, x2_, Xx_, y1_, y2_, Xy_, HB_⟩ := hG
      have dg := dep_of hdep 3 (by kernel_rfl)
      refine og_want rfl (yielded_of hf (n := 46) (by kernel_rfl) rfl 3 38 dg (by kernel_rfl) (show V 3 = .bool true from hφ 3 dg)) ?_
      have e11 := old_slot hf 11 (by kernel_rfl)
      exact ob_pure (v := .int .i64 (rE s)) (ex_moveV rfl e11) rfl
    · obtain ⟨x1_, x2_, Xx_, y1_, y2_, Xy_, HB_⟩ := hG
      have dg := dep_of hdep 3 (by kernel_rfl)
      refine og_want rfl (yielded_of hf (n := 46) (by kernel_rfl) rfl 3 38 dg (by kernel_rfl) (show V 3 = .bool true from hφ 3 dg)) ?_
      have d4 := dep_of hdep 4 (by kernel_rfl)
      have e39 := (new_slot hf 4 39 d4 (by kernel_rfl)).trans (show V 4 = .int .i64 (rE s) from hφ 4 d4)
      have d5 := dep_of hdep 5 (by kernel_rfl)
      have e40 := (new_slot hf 5 40 d5 (by kernel_rfl)).trans (show V 5 = .int .i64 (rE s) from hφ 5 d5)
      exact ob_pure (ex_eql_err rfl e39 e40) (show Value.bool ((rE s) == (rE s)) = Value.bool true from by simp)
    · obtain ⟨x1_, x2_, Xx_, y1_, y2_, Xy_, HB_⟩ := hG
      refine og_none rfl ?_
      have d3 := dep_of hdep 3 (by kernel_rfl)
      have e38 := (new_slot hf 3 38 d3 (by kernel_rfl)).trans (show V 3 = .bool true from hφ 3 d3)
      have d6 := dep_of hdep 6 (by kernel_rfl)
      have e41 := (new_slot hf 6 41 d6 (by kernel_rfl)).trans (show V 6 = .bool true from hφ 6 d6)
      exact ob_pure (v := .bool true) (ex_pick_true rfl e38 e41) rfl
    · obtain ⟨x1_, x2_, Xx_, y1_, y2_, Xy_, HB_⟩ := hG
      refine og_none rfl ?_
      have d7 := dep_of hdep 7 (by kernel_rfl)
      have e42 := (new_slot hf 7 42 d7 (by kernel_rfl)).trans (show V 7 = .bool true from hφ 7 d7)
      exact ob_pure (v := .bool true) (ex_moveV rfl e42) rfl
    · obtain ⟨x1_, x2_, Xx_, y1_, y2_, Xy_, HB_⟩ := hG
      have dg := dep_of hdep 8 (by kernel_rfl)
      refine og_want rfl (yielded_of hf (n := 46) (by kernel_rfl) rfl 8 43 dg (by kernel_rfl) (show V 8 = .bool true from hφ 8 dg)) ?_
      refine ob_go rfl (vs := #[]) (by simp only [List.map_toArray, List.map_nil]) (by kernel_rfl) (awakeR_any _) ?_
      rintro e w2 ⟨he, hb⟩
      exact ⟨_, he, hb, rfl⟩
    · obtain ⟨x1_, x2_, Xx_, y1_, y2_, Xy_, HB_⟩ := hG
      refine og_none rfl ?_
      have d8 := dep_of hdep 8 (by kernel_rfl)
      have e43 := (new_slot hf 8 43 d8 (by kernel_rfl)).trans (show V 8 = .bool true from hφ 8 d8)
      have d9 := dep_of hdep 9 (by kernel_rfl)
      have e44 := (new_slot hf 9 44 d9 (by kernel_rfl)).trans (show V 9 = .bool true from hφ 9 d9)
      exact ob_pure (v := .bool true) (ex_pick_true rfl e43 e44) rfl
    · obtain ⟨x1_, x2_, Xx_, y1_, y2_, Xy_, HB_⟩ := hG
      refine og_none rfl ?_
      have d10 := dep_of hdep 10 (by kernel_rfl)
      have e45 := (new_slot hf 10 45 d10 (by kernel_rfl)).trans (show V 10 = .bool true from hφ 10 d10)
      exact ob_pure (v := .bool true) (ex_assignV rfl e45) rfl
  · intro V W7 hG hsz7 hφ hψ hne
    have hlt7 : (W6.alloc (.cells #[.bool q61, .slice A61 n61 c61, .bool q62, .slice A62 n62 c62] 26)).heap.size ≤ W7.heap.size := hsz7
    obtain ⟨x1_, x2_, Xx_, y1_, y2_, Xy_, HB_⟩ := hG
    have x1 := hid x1_
    have x2 := hid x2_
    have Xx := hid Xx_
    have y1 := hid y1_
    have y2 := hid y2_
    have Xy := hid Xy_
    have HB := hid HB_
    have y0 : V 0 = .agg #[.bool q51, .slice A51 n51 c51, .bool q52, .slice A52 n52 c52] := hφ 0 (by decide)
    have y1 : V 1 = .agg #[.bool q61, .slice A61 n61 c61, .bool q62, .slice A62 n62 c62] := hφ 1 (by decide)
    have y2 : V 2 = .bool true := hφ 2 (by decide)
    have y3 : V 3 = .bool true := hφ 3 (by decide)
    have y4 : V 4 = .int .i64 (rE s) := hφ 4 (by decide)
    have y5 : V 5 = .int .i64 (rE s) := hφ 5 (by decide)
    have y6 : V 6 = .bool true := hφ 6 (by decide)
    have y7 : V 7 = .bool true := hφ 7 (by decide)
    have y8 : V 8 = .bool true := hφ 8 (by decide)
    have y9 : V 9 = .bool true := hφ 9 (by decide)
    have y10 : V 10 = .bool true := hφ 10 (by decide)
    have y11 : V 11 = .bool true := hφ 11 (by decide)
    simp only [puts, Act.put, List.setIfInBounds_toArray, List.set_cons_zero, List.set_cons_succ, y0, y1, y2, y3, y4, y5, y6, y7, y8, y9, y10, y11]
    clear hφ hψ hne y0 y1 y2 y3 y4 y5 y6 y7 y8 y9 y10 y11 x1_ x2_ Xx_ y1_ y2_ Xy_ HB_ hsz7
    go_wp2
    go_ret
    exact ⟨rfl, HB.out⟩
theorem rationalReads_walk (w : World) (x : Int) (hx : -9223372036854775808 ≤ x ∧ x ≤ 9223372036854775807) (y : Int) (hy : -9223372036854775808 ≤ y ∧ y ≤ 9223372036854775807) (t : Bool) :
    Calls Try.prog 7 #[.int .i64 x, .int .i64 y, .bool t] w fun e w' => e = .returned (.bool true) ∧ Below w.heap.size w w' := by
  cases t with
  | false => exact rationalReads_far w x y (by omega)
  | true =>
    have h1 := Int.tmod_lt_of_pos x (show (0 : Int) < 40 by decide)
    have h2 : -40 < x.tmod 40 := by have := Int.tmod_lt_of_pos (-x) (show (0 : Int) < 40 by decide); rw [Int.neg_tmod] at this; omega
    have h3 := Int.tmod_lt_of_pos y (show (0 : Int) < 20 by decide)
    have h4 : -20 < y.tmod 20 := by have := Int.tmod_lt_of_pos (-y) (show (0 : Int) < 20 by decide); rw [Int.neg_tmod] at this; omega
    exact rationalReads_near w x y _ _ rfl rfl (by omega)
end Go.Proofs.Ytijmjkkjopplbaa

