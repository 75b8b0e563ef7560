/- A part of the proof of the laws of rationals: RParse. -/
import Derived.Test.YtijmjkkjopplbaaPam
import Derived.Test.YtijmjkkjopplbaaPal
import Derived.Test.YtijmjkkjopplbaaPae
import Derived.Test.YtijmjkkjopplbaaPab
import Derived.Test.YtijmjkkjopplbaaPkRationalReadsb
import Derived.Test.YtijmjkkjopplbaaPac
import Derived.Test.YtijmjkkjopplbaaPkRationalReadsa
import Derived.Test.YtijmjkkjopplbaaPai
import Derived.Test.YtijmjkkjopplbaaPah
import Derived.Test.YtijmjkkjopplbaaPag
import Derived.Test.YtijmjkkjopplbaaPaj
import Derived.Test.YtijmjkkjopplbaaPaa
import Derived.Test.YtijmjkkjopplbaaPas
import Derived.Test.YtijmjkkjopplbaaPkRationalReadsf
import Derived.Test.YtijmjkkjopplbaaPkRationalReadsg
import Derived.Test.YtijmjkkjopplbaaPkRationalReadsd
import Derived.Test.YtijmjkkjopplbaaPar
import Derived.Test.YtijmjkkjopplbaaPkRationalReadse
import Derived.Test.YtijmjkkjopplbaaPkRationalReadsk
import Derived.Test.YtijmjkkjopplbaaPak
import Derived.Test.YtijmjkkjopplbaaPad
import Derived.Test.YtijmjkkjopplbaaPkRationalReadsn
namespace Go.Proofs.Ytijmjkkjopplbaa
open Go.RowKit
set_option linter.unusedVariables false
set_option maxRecDepth 100000

def ofB (s : ByteArray) : Nat := if ngB s = true then 1 else 0
theorem ofB_le (s : ByteArray) : ofB s ≤ 1 := by unfold ofB; split <;> omega
theorem dsB_size (s : ByteArray) : (dsB s).size + ofB s = s.size := by
  unfold dsB ofB
  by_cases h : ngB s = true
  · rw [if_pos h, if_pos h]
    have : 0 < s.size := by
      rcases Nat.eq_zero_or_pos s.size with h0 | h0
      · unfold ngB at h; rw [bt_out (by omega)] at h; exact absurd h (by decide)
      · exact h0
    simp; omega
  · rw [if_neg h, if_neg h]; omega
theorem bt_off (s : ByteArray) (i : Nat) : bt (dsB s) i = bt s (i + ofB s) := by
  have hs := dsB_size s
  unfold dsB ofB at *
  by_cases h : ngB s = true
  · rw [if_pos h, if_pos h] at *
    rw [bt_extract _ _ _ (by omega), Nat.add_comm]
  · rw [if_neg h, if_neg h]; rfl
theorem not_dash {s : ByteArray} (hn : Num s) {i : Nat} (hi : i < s.size) (ho : ¬ i < ofB s) : 48 ≤ bt s i ∧ bt s i ≤ 57 := by
  have h1 := hn.2.1 (i - ofB s) (by have := dsB_size s; omega)
  rw [bt_off, Nat.sub_add_cancel (by omega)] at h1
  exact h1
theorem is_dash {s : ByteArray} {i : Nat} (ho : i < ofB s) : i = 0 ∧ ofB s = 1 ∧ bt s 0 = 45 := by
  unfold ofB at *
  by_cases h : ngB s = true
  · rw [if_pos h] at *
    refine ⟨by omega, rfl, ?_⟩
    unfold ngB at h
    rwa [beq_iff_eq] at h
  · rw [if_neg h] at ho; exact absurd ho (Nat.not_lt_zero _)
theorem dv_step {s : ByteArray} {i : Nat} (ho : ¬ i < ofB s) : dv (dsB s) (i + 1 - ofB s) = dv (dsB s) (i - ofB s) * 10 + ((bt s i : Int) - 48) := by
  rw [show i + 1 - ofB s = (i - ofB s) + 1 by omega, dv, bt_off, Nat.sub_add_cancel (by omega)]
  omega
theorem nv_of_sg {neg : Bool} {xs : List Int} (hl : Lb xs) {X : Int} (h : X = sg neg (nv xs)) (h0 : 0 ≤ X) : nv xs = X := by
  have := nv_nonneg hl
  cases neg with
  | false => rw [sg_false] at h; exact h.symm
  | true => rw [sg_true] at h; omega

set_option maxHeartbeats 8000000 in
theorem rparse_not (w : World) (s : ByteArray) (hs : s.size ≤ 9223372036854775807) (hn : ¬ Num s) :
    Calls Try.prog 67 #[.string s] w fun e w' => ParseOk s e w' ∧ Below w.heap.size w w' := by
  have HN := hid hn
  clear hn
  have HB := hid (Below.refl w.heap.size w)
  obtain ⟨W, hW⟩ : ∃ W, W = (w.alloc (.cells #[.bool false, .slice none 0 0] 24)) := ⟨_, rfl⟩
  have hbb : Below w.heap.size w W := by rw [hW]; exact (bw_alloc (Below.refl _ _) _)
  have HB := hid (bw_step HB.out hbb)
  have R0 : Hid (Blk W (w.heap.size) 24 #[.bool false, .slice none 0 0]) := by
    rw [hW]
    have := Blk.new w 24 #[.bool false, .slice none 0 0]
    exact hid (by simpa only [World.size_alloc] using this)
  clear hbb
  go_enter Try.func67, Try.ntmps67
  go_wp2_with fail
  rw [← hW]
  clear hW
  refine (isnumber_b _ s hs).mono ?_
  rintro e W1 ⟨hp, hb1⟩
  obtain ⟨_, rfl⟩ := hp.resolve_left (fun h => HN.out h.1)
  have HB := hid (bw_step HB.out hb1)
  have R0 := hid (R0.out.below hb1)
  clear hb1
  obtain ⟨k2, l2, f2, g2⟩ := id R0.out.bx
  go_wp2
  refine bodyPost_ret (v := .tuple #[.agg #[.bool false, .slice none 0 0], .int .i64 2]) (by simp [results, Try.results67, go_sem, k2, l2]) rfl ⟨.inl ⟨HN.out, rfl⟩, (HB.out.setCell (Nat.le_refl _) _).setCell (Nat.le_refl _) _⟩
set_option maxHeartbeats 8000000 in
theorem rparse_long (w : World) (s : ByteArray) (hs : s.size ≤ 9223372036854775807) (hn : Num s) (hl : 2000 < (dsB s).size) :
    Calls Try.prog 67 #[.string s] w fun e w' => ParseOk s e w' ∧ Below w.heap.size w w' := by
  have HN := hid hn
  clear hn
  have HB := hid (Below.refl w.heap.size w)
  obtain ⟨W, hW⟩ : ∃ W, W = (w.alloc (.cells #[.bool false, .slice none 0 0] 24)) := ⟨_, rfl⟩
  have hbb : Below w.heap.size w W := by rw [hW]; exact (bw_alloc (Below.refl _ _) _)
  have HB := hid (bw_step HB.out hbb)
  have R0 : Hid (Blk W (w.heap.size) 24 #[.bool false, .slice none 0 0]) := by
    rw [hW]
    have := Blk.new w 24 #[.bool false, .slice none 0 0]
    exact hid (by simpa only [World.size_alloc] using this)
  clear hbb
  go_enter Try.func67, Try.ntmps67
  go_wp2_with fail
  rw [← hW]
  clear hW
  refine (isnumber_b _ s hs).mono ?_
  rintro e W1 ⟨hp, hb1⟩
  obtain ⟨_, rfl⟩ := hp.resolve_right (fun h => h.1 HN.out)
  have HB := hid (bw_step HB.out hb1)
  have R0 := hid (R0.out.below hb1)
  clear hb1
  go_wp2_with fail
  refine (rlong_b _ s hs).mono ?_
  rintro e W2 ⟨rfl, hb2⟩
  rw [decide_eq_true hl]
  have HB := hid (bw_step HB.out hb2)
  have R0 := hid (R0.out.below hb2)
  clear hb2
  have HL := hid hl
  clear hl
  obtain ⟨k3, l3, f3, g3⟩ := id R0.out.bx
  go_wp2
  refine bodyPost_ret (v := .tuple #[.agg #[.bool false, .slice none 0 0], .int .i64 7]) (by simp [results, Try.results67, go_sem, k3, l3]) rfl ⟨.inr (.inl ⟨HN.out, HL.out, rfl⟩), (HB.out.setCell (Nat.le_refl _) _).setCell (Nat.le_refl _) _⟩
set_option maxHeartbeats 8000000 in
theorem rparse_short (w : World) (s : ByteArray) (hs : s.size ≤ 9223372036854775807) (hn : Num s) (hl : ¬ 2000 < (dsB s).size) :
    Calls Try.prog 67 #[.string s] w fun e w' => ParseOk s e w' ∧ Below w.heap.size w w' := by
  have HN := hid hn
  clear hn
  have hsz : s.size ≤ 2001 := by have := dsB_size s; have := ofB_le s; omega
  have s0 : 0 < s.size := by have h1 := dsB_size s; have h2 := HN.out.1; omega
  have HB := hid (Below.refl w.heap.size w)
  obtain ⟨W, hW⟩ : ∃ W, W = (w.alloc (.cells #[.bool false, .slice none 0 0] 24)) := ⟨_, rfl⟩
  have hbb : Below w.heap.size w W := by rw [hW]; exact (bw_alloc (Below.refl _ _) _)
  have HB := hid (bw_step HB.out hbb)
  have R0 : Hid (Blk W (w.heap.size) 24 #[.bool false, .slice none 0 0]) := by
    rw [hW]
    have := Blk.new w 24 #[.bool false, .slice none 0 0]
    exact hid (by simpa only [World.size_alloc] using this)
  clear hbb
  go_enter Try.func67, Try.ntmps67
  go_wp2_with fail
  rw [← hW]
  clear hW
  refine (isnumber_b _ s hs).mono ?_
  rintro e W1 ⟨hp, hb1⟩
  obtain ⟨_, rfl⟩ := hp.resolve_right (fun h => h.1 HN.out)
  clear hp
  have HB := hid (bw_step HB.out hb1)
  have R0 := hid (R0.out.below hb1)
  clear hb1
  go_wp2_with fail
  refine (rlong_b _ s hs).mono ?_
  rintro e W2 ⟨rfl, hb2⟩
  rw [decide_eq_false hl]
  have HB := hid (bw_step HB.out hb2)
  have R0 := hid (R0.out.below hb2)
  clear hb2
  have HL := hid hl
  clear hl
  go_wp2_with fail
  have ltR := R0.out.lt
  have hbb := bw_alloc (Below.refl _ W2) (.cells #[.bool false, .slice none 0 0] 24)
  have X := hid (Blk.new W2 24 #[.bool false, .slice none 0 0])
  have HB := hid (bw_step HB.out hbb)
  have R0 := hid (R0.out.below hbb)
  clear hbb
  go_loopw [5] (fun v wr => ∃ i : Nat, v = .int .i64 (i : Int) ∧ i ≤ s.size ∧ Hid (BoxI wr W2.heap.size (dv (dsB s) (i - ofB s))) ∧ Hid (Blk wr w.heap.size 24 #[.bool false, .slice none 0 0]) ∧ Hid (Below w.heap.size w wr)) (fun v _ => s.size - (intOf v).toNat)
  case atStart => exact ⟨0, rfl, by omega, hid ⟨_, _, _, _, X.out, by rw [Nat.zero_sub]; exact IntV.zero _⟩, R0, HB⟩
  case round =>
    clear R0 HB X
    obtain ⟨i, rfl, hi, BX, R0, HB⟩ := hrel
    obtain ⟨qx, Ax, nx, cx, kx, vx⟩ := BX.out
    have X := hid kx
    have VX := hid vx
    clear BX kx vx
    obtain ⟨x, hx⟩ : ∃ x, dv (dsB s) (i - ofB s) = x := ⟨_, rfl⟩
    have B := dv_bound (dsB s) HN.out.2.1 (i - ofB s) (by have := dsB_size s; omega)
    rw [hx] at B VX
    have HX := hid hx
    clear hx
    obtain ⟨N, hN, SX⟩ : ∃ N, N ≤ 2001 ∧ Hid (Sm N x) := ⟨i - ofB s, by omega, hid ⟨by have := bp_pos (i - ofB s); omega, B.2⟩⟩
    have X0 := hid B.1
    clear B
    by_cases hlt : i < s.size
    · have hb := bt_get hlt
      obtain ⟨d, hd⟩ : ∃ d : Nat, (s[i]'hlt).toNat = d := ⟨_, rfl⟩
      by_cases ho : i < ofB s
      · obtain ⟨i0, o1, b45⟩ := is_dash ho
        have e1 : ((s[i].toNat : Int) != 45) = false := by rw [← hb, i0, b45]; rfl
        have HX2 := hid (show dv (dsB s) (i + 1 - ofB s) = x by rw [← HX.out, show i + 1 - ofB s = i - ofB s by omega])
        clear hb hd i0 b45
        go_wp2
        go_roundw
        case measure => simp [intOf]; omega
        case rel => exact ⟨i + 1, by first | rfl | go_num, by omega, hid ⟨_, _, _, _, X.out, by rw [HX2.out]; exact VX.out⟩, R0, HB⟩
      · have hdg := not_dash HN.out hlt ho
        rw [hb, hd] at hdg
        have e1 : ((s[i].toNat : Int) != 45) = true := by rw [bne_iff_ne, hd]; omega
        have HX2 := hid (show dv (dsB s) (i + 1 - ofB s) = x * 10 + ((d : Int) - 48) by rw [dv_step ho, HX.out, hb, hd])
        have HDG := hid hdg
        have HD := hid hd
        clear hb hd hdg
        go_wp2_with fail
        obtain ⟨d1, d2⟩ := HDG.out
        have d1 : (48 : Int) ≤ (d : Int) := by omega
        have d2 : (d : Int) ≤ 57 := by omega
        have SD := hid (Sm.one (n := (d : Int) - 48) (by omega) (by omega))
        have SM3 : Hid (Sm (N + 1) (x * 10)) := hid ((SX.out).times ((Sm.one (n := 10) (by decide) (by decide))) (by omega))
        have SM4 : Hid (Sm (N + 2) ((x * 10) + ((d : Int) - 48))) := hid ((SM3.out).plus (SD.out) (by omega) (by omega))
        refine wp_region_each (by kernel_rfl) 11 40 rfl rfl (by kernel_rfl)
          [Fact.eq (.agg #[.bool qx, .slice Ax nx cx]), Fact.int 10, Fact.int (x * 10), Fact.eq (.string s), Fact.eq (.int .i64 (i : Int)), Fact.eq (.int .u8 (d : Int)), Fact.eq (.int .u8 ((d : Int) - 48)), Fact.eq (.int .i64 ((d : Int) - 48)), Fact.int ((d : Int) - 48), Fact.int ((x * 10) + ((d : Int) - 48)), Fact.top _]
          [.val, .val, .val, .val, .val, .val, .val, .val, .val, .val, .fillOld 0]
          (fun w' => Blk w' (w.heap.size) 24 #[.bool false, .slice none 0 0] ∧ IntV w' (.agg #[.bool qx, .slice Ax nx cx]) (x) ∧ Below w.heap.size w w')
          (fun l b w' => match l with
            | 0 => if b = true then BoxI w' (W2.heap.size) ((x * 10) + ((d : Int) - 48)) else Blk w' (W2.heap.size) 24 #[.bool qx, .slice Ax nx cx]
            | _ => True)
          [10] (fun l => match l with | 0 => W2.heap.size | _ => 0) (by kernel_rfl)
          ⟨R0.out, VX.out, HB.out⟩
          (fun w1 w2 ⟨h0, h1, h2⟩ hb => ⟨h0.below hb, h1.below hb, bw_step h2 hb⟩)
          (fun w1 w2 g ⟨h0, h1, h2⟩ hg hn ho => by
            have hg' : wr.heap.size ≤ g ∨ g = W2.heap.size := by
              rcases hg with h | ⟨l, hl, h⟩
              · exact .inl h
              · rcases l with _ | l
                · exact .inr h
                · exact absurd hl (by simp)
            exact ⟨h0.only ho (by have := R0.out.lt; have := X.out.lt; omega), h1.only hn ho, below_only h2 ho (by have := R0.out.lt; have := X.out.lt; have := HB.out.size; omega)⟩)
          (fun l hl => by
              rcases l with _ | l
              · exact X.out
              · exact absurd hl (by simp))
          (fun l b w1 w2 hl h hb => by
              rcases l with _ | l
              · (cases b <;> exact h.below hb)
              · exact absurd hl (by simp))
          (fun l b w1 w2 g hl h hg hn ho => by
              rcases l with _ | l
              · (cases b; (exact h.only ho (Ne.symm hg)); (exact h.only (Ne.symm hg) hn ho))
              · exact absurd hl (by simp))
          (fun l hl => by
              rcases l with _ | l
              · exact X.out.lt
              · exact absurd hl (by simp))
          (fun l k hl hk hne => by rcases l with _ | l <;> rcases k with _ | k <;> simp at hl hk hne)
          ?_ ?_
        · refine ⟨?_, ?_, ?_, ?_, ?_, ?_, ?_, ?_, ?_, ?_, ?_, trivial⟩ <;> intro L V a1 w1 hf hG hsz hφ hψ hL hdep hcl
          · obtain ⟨R0_, VX_, HB_⟩ := hG
            have e4 := old_slot hf 4 (by kernel_rfl)
            have hb0 := hψ 0 (by decide)
            rw [show [10].getD 0 0 = 10 from rfl, not_yet hcl 10 0 hL (by kernel_rfl)] at hb0
            exact ob_load_int rfl e4 hb0 rfl
          · obtain ⟨R0_, VX_, HB_⟩ := hG
            refine ob_go rfl (vs := #[.int .i64 10]) (by simp only [List.map_toArray, List.map_cons, List.map_nil, ev_const]) (by kernel_rfl) (rsmall_any _ 10 (by decide) (by decide)) ?_
            rintro e w2 ⟨⟨v, rfl, hv⟩, hb⟩
            exact ⟨v, rfl, hb, hv⟩
          · obtain ⟨R0_, VX_, HB_⟩ := hG
            have d0 := dep_of hdep 0 (by kernel_rfl)
            have e24 := (new_slot hf 0 24 d0 (by kernel_rfl)).trans (show V 0 = .agg #[.bool qx, .slice Ax nx cx] from hφ 0 d0)
            have d1 := dep_of hdep 1 (by kernel_rfl)
            have e25 := new_slot hf 1 25 d1 (by kernel_rfl)
            have p25 : IntV w1 (V 1) 10 := hφ 1 d1
            refine ob_go rfl (vs := #[.agg #[.bool qx, .slice Ax nx cx], V 1]) (by simp only [List.map_toArray, List.map_cons, List.map_nil, e24, e25]) (by kernel_rfl) (rmul_any _ (.agg #[.bool qx, .slice Ax nx cx]) (V 1) x 10 N 1 (VX_.arg SX.out) (p25.arg (Sm.one (n := 10) (by decide) (by decide))) (by omega) (by omega)) ?_
            rintro e w2 ⟨⟨v, rfl, hv⟩, hb⟩
            exact ⟨v, rfl, hb, hv⟩
          · obtain ⟨R0_, VX_, HB_⟩ := hG
            have e0 := old_slot hf 0 (by kernel_rfl)
            exact ob_pure (v := .string s) (ex_moveV rfl e0) rfl
          · obtain ⟨R0_, VX_, HB_⟩ := hG
            have e5 := old_slot hf 5 (by kernel_rfl)
            exact ob_pure (v := .int .i64 (i : Int)) (ex_moveV rfl e5) rfl
          · obtain ⟨R0_, VX_, HB_⟩ := hG
            have d3 := dep_of hdep 3 (by kernel_rfl)
            have e27 := (new_slot hf 3 27 d3 (by kernel_rfl)).trans (show V 3 = .string s from hφ 3 d3)
            have d4 := dep_of hdep 4 (by kernel_rfl)
            have e28 := (new_slot hf 4 28 d4 (by kernel_rfl)).trans (show V 4 = .int .i64 (i : Int) from hφ 4 d4)
            exact ob_pure (ex_index_str rfl e27 e28 hlt HD.out) rfl
          · obtain ⟨R0_, VX_, HB_⟩ := hG
            have d5 := dep_of hdep 5 (by kernel_rfl)
            have e29 := (new_slot hf 5 29 d5 (by kernel_rfl)).trans (show V 5 = .int .u8 (d : Int) from hφ 5 d5)
            exact ob_pure (ex_sub_u8 rfl e29 d1 d2) rfl
          · obtain ⟨R0_, VX_, HB_⟩ := hG
            have d6 := dep_of hdep 6 (by kernel_rfl)
            have e30 := (new_slot hf 6 30 d6 (by kernel_rfl)).trans (show V 6 = .int .u8 ((d : Int) - 48) from hφ 6 d6)
            exact ob_pure (ex_conv_u8 rfl e30 (by omega) (by omega)) rfl
          · obtain ⟨R0_, VX_, HB_⟩ := hG
            have d7 := dep_of hdep 7 (by kernel_rfl)
            have e31 := (new_slot hf 7 31 d7 (by kernel_rfl)).trans (show V 7 = .int .i64 ((d : Int) - 48) from hφ 7 d7)
            refine ob_go rfl (vs := #[.int .i64 ((d : Int) - 48)]) (by simp only [List.map_toArray, List.map_cons, List.map_nil, e31]) (by kernel_rfl) (rsmall_any _ ((d : Int) - 48) (by omega) (by omega)) ?_
            rintro e w2 ⟨⟨v, rfl, hv⟩, hb⟩
            exact ⟨v, rfl, hb, hv⟩
          · obtain ⟨R0_, VX_, HB_⟩ := hG
            have d2 := dep_of hdep 2 (by kernel_rfl)
            have e26 := new_slot hf 2 26 d2 (by kernel_rfl)
            have p26 : IntV w1 (V 2) (x * 10) := hφ 2 d2
            have d8 := dep_of hdep 8 (by kernel_rfl)
            have e32 := new_slot hf 8 32 d8 (by kernel_rfl)
            have p32 : IntV w1 (V 8) ((d : Int) - 48) := hφ 8 d8
            refine ob_go rfl (vs := #[V 2, V 8]) (by simp only [List.map_toArray, List.map_cons, List.map_nil, e26, e32]) (by kernel_rfl) (radd_any _ (V 2) (V 8) (x * 10) ((d : Int) - 48) (N + 1) 1 (p26.arg SM3.out) (p32.arg SD.out) (by omega) (by omega)) ?_
            rintro e w2 ⟨⟨v, rfl, hv⟩, hb⟩
            exact ⟨v, rfl, hb, hv⟩
          · obtain ⟨R0_, VX_, HB_⟩ := hG
            have d9 := dep_of hdep 9 (by kernel_rfl)
            have e33 := new_slot hf 9 33 d9 (by kernel_rfl)
            have p33 : IntV w1 (V 9) ((x * 10) + ((d : Int) - 48)) := hφ 9 d9
            have e4 := old_slot hf 4 (by kernel_rfl)
            have hb0 := hψ 0 (by decide)
            rw [show [10].getD 0 0 = 10 from rfl, hL] at hb0
            exact ob_fillOld_int rfl e4 e33 hb0 p33 (fun w2 h => h) rfl
        · intro V W5 hG hsz5 hφ hψ hne
          have hlt5 : wr.heap.size ≤ W5.heap.size := hsz5
          obtain ⟨R0_, VX_, HB_⟩ := hG
          have R0 := hid R0_
          have VX := hid VX_
          have HB := hid HB_
          have y0 : V 0 = .agg #[.bool qx, .slice Ax nx cx] := hφ 0 (by decide)
          have y3 : V 3 = .string s := hφ 3 (by decide)
          have y4 : V 4 = .int .i64 (i : Int) := hφ 4 (by decide)
          have y5 : V 5 = .int .u8 (d : Int) := hφ 5 (by decide)
          have y6 : V 6 = .int .u8 ((d : Int) - 48) := hφ 6 (by decide)
          have y7 : V 7 = .int .i64 ((d : Int) - 48) := hφ 7 (by decide)
          obtain ⟨q550, A550, n550, c550, kb550, vb550⟩ := hψ 0 (by decide)
          have X := hid kb550
          have VX := hid vb550
          clear kb550 vb550
          simp only [puts, Act.put, List.setIfInBounds_toArray, List.set_cons_zero, List.set_cons_succ, y0, y3, y4, y5, y6, y7]
          clear hφ hψ hne y0 y3 y4 y5 y6 y7 R0_ VX_ HB_ hsz5
          go_wp2
          go_roundw
          case measure => simp [intOf]; omega
          case rel =>
            first
              | exact ⟨i + 1, by first | rfl | go_num, by omega, hid ⟨_, _, _, _, X.out, by rw [HX2.out]; exact VX.out⟩, R0, HB⟩
              | ((repeat apply Exists.intro); refine ⟨?_, rfl⟩; exact ⟨i + 1, by first | rfl | go_num, by omega, hid ⟨_, _, _, _, X.out, by rw [HX2.out]; exact VX.out⟩, R0, HB⟩)
    · obtain ⟨neg, sl, xs, hag, hsl, hlb, -, -, hsg⟩ := id VX.out
      have hnx := hid (nv_of_sg hlb hsg X0.out)
      obtain ⟨h1, h2⟩ : Value.bool qx = .bool neg ∧ Value.slice Ax nx cx = sl := by
        injection hag with hag
        have h1 := congrArg (fun a : Array Value => a[0]?) hag
        have h2 := congrArg (fun a : Array Value => a[1]?) hag
        exact ⟨Option.some.inj h1, Option.some.inj h2⟩
      subst h2
      have FM := hid hsl
      have LBX := hid hlb
      clear hag hsl hlb hsg h1
      have HI := hid (show i - ofB s = (dsB s).size by have := dsB_size s; omega)
      go_wp2_with fail
      refine wp_region_each (by kernel_rfl) 8 40 rfl rfl (by kernel_rfl)
        [Fact.eq (.string s), Fact.eq (.int .u8 ((s[0]'s0).toNat : Int)), Fact.eq (.bool (ngB s)), Fact.eq (.pointer (some ⟨W2.heap.size, 1, none⟩)), Fact.eq (.slice Ax nx cx), Fact.int (sg (ngB s) (nv xs)), Fact.top _, Fact.eq (.int .i64 0)]
        [.val, .val, .val, .val, .val, .val, .fillOld 0, .val]
        (fun w' => Blk w' (W2.heap.size) 24 #[.bool qx, .slice Ax nx cx] ∧ IntV w' (.agg #[.bool qx, .slice Ax nx cx]) (x) ∧ SlV w' (.slice Ax nx cx) xs ∧ Below w.heap.size w w')
        (fun l b w' => match l with
          | 0 => if b = true then BoxI w' (w.heap.size) (sg (ngB s) (nv xs)) else Blk w' (w.heap.size) 24 #[.bool false, .slice none 0 0]
          | _ => True)
        [6] (fun l => match l with | 0 => w.heap.size | _ => 0) (by kernel_rfl)
        ⟨X.out, VX.out, FM.out, HB.out⟩
        (fun w1 w2 ⟨h0, h1, h2, h3⟩ hb => ⟨h0.below hb, h1.below hb, h2.below hb, bw_step h3 hb⟩)
        (fun w1 w2 g ⟨h0, h1, h2, h3⟩ hg hn ho => by
          have hg' : wr.heap.size ≤ g ∨ g = w.heap.size := by
            rcases hg with h | ⟨l, hl, h⟩
            · exact .inl h
            · rcases l with _ | l
              · exact .inr h
              · exact absurd hl (by simp)
          exact ⟨h0.only ho (by have := R0.out.lt; have := X.out.lt; omega), h1.only hn ho, h2.only hn ho, below_only h3 ho (by have := R0.out.lt; have := X.out.lt; have := HB.out.size; omega)⟩)
        (fun l hl => by
            rcases l with _ | l
            · exact R0.out
            · exact absurd hl (by simp))
        (fun l b w1 w2 hl h hb => by
            rcases l with _ | l
            · (cases b <;> exact h.below hb)
            · exact absurd hl (by simp))
        (fun l b w1 w2 g hl h hg hn ho => by
            rcases l with _ | l
            · (cases b; (exact h.only ho (Ne.symm hg)); (exact h.only (Ne.symm hg) hn ho))
            · exact absurd hl (by simp))
        (fun l hl => by
            rcases l with _ | l
            · exact R0.out.lt
            · exact absurd hl (by simp))
        (fun l k hl hk hne => by rcases l with _ | l <;> rcases k with _ | k <;> simp at hl hk hne)
        ?_ ?_
      · refine ⟨?_, ?_, ?_, ?_, ?_, ?_, ?_, ?_, trivial⟩ <;> intro L V a1 w1 hf hG hsz hφ hψ hL hdep hcl
        · obtain ⟨X_, VX_, FM_, HB_⟩ := hG
          have e0 := old_slot hf 0 (by kernel_rfl)
          exact ob_pure (v := .string s) (ex_moveV rfl e0) rfl
        · obtain ⟨X_, VX_, FM_, HB_⟩ := hG
          have d0 := dep_of hdep 0 (by kernel_rfl)
          have e34 := (new_slot hf 0 34 d0 (by kernel_rfl)).trans (show V 0 = .string s from hφ 0 d0)
          exact ob_pure (ex_index_str0 rfl e34 rfl s0) rfl
        · obtain ⟨X_, VX_, FM_, HB_⟩ := hG
          have d1 := dep_of hdep 1 (by kernel_rfl)
          have e35 := (new_slot hf 1 35 d1 (by kernel_rfl)).trans (show V 1 = (.int .u8 ((s[0]'s0).toNat : Int)) from hφ 1 d1)
          exact ob_pure (ex_dash rfl e35 rfl) rfl
        · obtain ⟨X_, VX_, FM_, HB_⟩ := hG
          have e4 := old_slot hf 4 (by kernel_rfl)
          exact ob_pure (ex_fieldAddr 1 (by decide) rfl e4) rfl
        · obtain ⟨X_, VX_, FM_, HB_⟩ := hG
          have d3 := dep_of hdep 3 (by kernel_rfl)
          have e37 := (new_slot hf 3 37 d3 (by kernel_rfl)).trans (show V 3 = .pointer (some ⟨W2.heap.size, 1, none⟩) from hφ 3 d3)
          exact ob_pure (ex_load_mag rfl e37 X_) rfl
        · obtain ⟨X_, VX_, FM_, HB_⟩ := hG
          have d2 := dep_of hdep 2 (by kernel_rfl)
          have e36 := (new_slot hf 2 36 d2 (by kernel_rfl)).trans (show V 2 = .bool (ngB s) from hφ 2 d2)
          have d4 := dep_of hdep 4 (by kernel_rfl)
          have e38 := (new_slot hf 4 38 d4 (by kernel_rfl)).trans (show V 4 = .slice Ax nx cx from hφ 4 d4)
          refine ob_go rfl (vs := #[.bool (ngB s), .slice Ax nx cx]) (by simp only [List.map_toArray, List.map_cons, List.map_nil, e36, e38]) (by kernel_rfl) (rmake_any _ (ngB s) (.slice Ax nx cx) xs FM_ LBX.out) ?_
          rintro e w2 ⟨⟨v, rfl, hv⟩, hb⟩
          exact ⟨v, rfl, hb, hv⟩
        · obtain ⟨X_, VX_, FM_, HB_⟩ := hG
          have d5 := dep_of hdep 5 (by kernel_rfl)
          have e39 := new_slot hf 5 39 d5 (by kernel_rfl)
          have p39 : IntV w1 (V 5) (sg (ngB s) (nv xs)) := hφ 5 d5
          have e2 := old_slot hf 2 (by kernel_rfl)
          have hb0 := hψ 0 (by decide)
          rw [show [6].getD 0 0 = 6 from rfl, hL] at hb0
          exact ob_fillOld_int rfl e2 e39 hb0 p39 (fun w2 h => h) rfl
        · obtain ⟨X_, VX_, FM_, HB_⟩ := hG
          exact ob_pure (v := .int .i64 0) (ex_assignV rfl rfl) rfl
      · intro V W53 hG hsz53 hφ hψ hne
        have hlt53 : wr.heap.size ≤ W53.heap.size := hsz53
        obtain ⟨X_, VX_, FM_, HB_⟩ := hG
        have X := hid X_
        have VX := hid VX_
        have FM := hid FM_
        have HB := hid HB_
        have y0 : V 0 = .string s := hφ 0 (by decide)
        have y1 : V 1 = (.int .u8 ((s[0]'s0).toNat : Int)) := hφ 1 (by decide)
        have y2 : V 2 = .bool (ngB s) := hφ 2 (by decide)
        have y3 : V 3 = .pointer (some ⟨W2.heap.size, 1, none⟩) := hφ 3 (by decide)
        have y4 : V 4 = .slice Ax nx cx := hφ 4 (by decide)
        have y7 : V 7 = .int .i64 0 := hφ 7 (by decide)
        obtain ⟨q5350, A5350, n5350, c5350, kb5350, vb5350⟩ := hψ 0 (by decide)
        have R0 := hid kb5350
        have VR0 := hid vb5350
        clear kb5350 vb5350
        simp only [puts, Act.put, List.setIfInBounds_toArray, List.set_cons_zero, List.set_cons_succ, y0, y1, y2, y3, y4, y7]
        clear hφ hψ hne y0 y1 y2 y3 y4 y7 X_ VX_ FM_ HB_ hsz53
        obtain ⟨k54, l54, f54, g54⟩ := id R0.out.bx
        go_wp2
        refine bodyPost_ret (v := .tuple #[.agg #[.bool q5350, .slice A5350 n5350 c5350], .int .i64 0]) (by simp [results, Try.results67, go_sem, k54, l54]) rfl ⟨.inr (.inr ⟨HN.out, by have := HL.out; omega, _, rfl, ?_⟩), HB.out⟩
        rw [← HI.out, HX.out, ← hnx.out]
        exact VR0.out
theorem rparse_any (w : World) (s : ByteArray) (hs : s.size ≤ 9223372036854775807) :
    Calls Try.prog 67 #[.string s] w fun e w' => ParseOk s e w' ∧ Below w.heap.size w w' := by
  by_cases hn : Num s
  · by_cases hl : 2000 < (dsB s).size
    · exact rparse_long w s hs hn hl
    · exact rparse_short w s hs hn hl
  · exact rparse_not w s hs hn
end Go.Proofs.Ytijmjkkjopplbaa

