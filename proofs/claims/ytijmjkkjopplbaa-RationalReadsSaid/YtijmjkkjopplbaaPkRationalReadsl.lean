/- A part of the proof of the laws of rationals: RFormat. -/
import Derived.Test.YtijmjkkjopplbaaPam
import Derived.Test.YtijmjkkjopplbaaPkRationalReadsh
import Derived.Test.YtijmjkkjopplbaaPal
import Derived.Test.YtijmjkkjopplbaaPae
import Derived.Test.YtijmjkkjopplbaaPab
import Derived.Test.YtijmjkkjopplbaaPkRationalReadsk
import Derived.Test.YtijmjkkjopplbaaPad
import Derived.Test.YtijmjkkjopplbaaPkRationalReadsb
import Derived.Test.YtijmjkkjopplbaaPac
import Derived.Test.YtijmjkkjopplbaaPat
import Derived.Test.YtijmjkkjopplbaaPkRationalReadsa
import Derived.Test.YtijmjkkjopplbaaPaa
import Derived.Test.YtijmjkkjopplbaaPai
import Derived.Test.YtijmjkkjopplbaaPag
import Derived.Test.YtijmjkkjopplbaaPas
import Derived.Test.YtijmjkkjopplbaaPkRationalReadsf
import Derived.Test.YtijmjkkjopplbaaPkRationalReadse
import Derived.Test.YtijmjkkjopplbaaPkRationalReadsg
import Derived.Test.YtijmjkkjopplbaaPkRationalReadsd
import Derived.Test.YtijmjkkjopplbaaPkRationalReadsj
import Derived.Test.YtijmjkkjopplbaaPau
import Derived.Test.YtijmjkkjopplbaaPkRationalReadsi
import Derived.Test.YtijmjkkjopplbaaPar
import Derived.Test.YtijmjkkjopplbaaPav
import Derived.Test.YtijmjkkjopplbaaPak
import Derived.Test.YtijmjkkjopplbaaPan
namespace Go.Proofs.Ytijmjkkjopplbaa
open Go.RowKit
set_option linter.unusedVariables false
set_option maxRecDepth 100000

theorem rformat_zero (w : World) (v : Value) (N : Nat) (ha : IntA w v 0 N) :
    Calls Try.prog 34 #[v] w fun e w' => e = .returned (.string ⟨(text 0).toArray⟩) ∧ Below w.heap.size w w' := by
  have HA := hid ha
  obtain ⟨na, As, n, c, rfl⟩ := ha.form
  clear ha
  have FA := HA
  clear HA
  have hc0 : ((cm 0 0 : Int) == 0) = true := by decide
  have HB := hid (Below.refl w.heap.size w)
  obtain ⟨W, hW⟩ : ∃ W, W = (w.alloc (.cells #[.bool na, .slice As n c] 24)) := ⟨_, rfl⟩
  have hbb : Below w.heap.size w W := by rw [hW]; exact (bw_alloc (Below.refl _ _) _)
  have HB := hid (bw_step HB.out hbb)
  have FA := hid (FA.out.below hbb)
  have P0 : Hid (Blk W (w.heap.size) 24 #[.bool na, .slice As n c]) := by
    rw [hW]
    have := Blk.new w 24 #[.bool na, .slice As n c]
    exact hid (by simpa only [World.size_alloc] using this)
  clear hbb
  obtain ⟨k1, l1, f1, g1⟩ := id P0.out.bx
  go_enter Try.func34, Try.ntmps34
  go_wp2_with fail
  rw [← hW]
  clear hW
  refine (rsign_any _ _ 0 N FA.out).mono ?_
  rintro e W2 ⟨rfl, hb2⟩
  clear k1 l1 f1 g1
  have HB := hid (bw_step HB.out hb2)
  have FA := hid (FA.out.below hb2)
  have P0 := hid (P0.out.below hb2)
  clear hb2
  go_wp2
  go_ret
  exact ⟨rfl, HB.out⟩
theorem flag_of {w : World} {q : Bool} {s : Value} {a : Int} {N : Nat} (h : IntA w (.agg #[.bool q, s]) a N) (h0 : a ≠ 0) : q = decide (a < 0) := by
  obtain ⟨q', s', xs, he, -, hl, -, hz⟩ := h
  have hn := nv_nonneg hl
  have hq : q = q' := by
    injection he with he
    have h1 := congrArg (fun a : Array Value => a[0]?) he
    have h2 := Option.some.inj h1
    injection h2
  rw [hq]
  cases q' with
  | false => rw [sg_false] at hz; rw [decide_eq_false (by omega)]
  | true => rw [sg_true] at hz; rw [decide_eq_true (by omega)]
theorem low_of {w : World} {q : Bool} {s : Value} {z : Int} (h : IntV w (.agg #[.bool q, s]) z) (h0 : 0 ≤ z) (h1 : z < 4294967296) : ∃ xs, SlV w s xs ∧ Lb xs ∧ nv (xs.take 2) = z := by
  obtain ⟨xs, h2, h3, h4, h5⟩ := h.mag
  have h6 := Cn.length_le h3 h4 (n := 1) (by rw [h5, bp_one]; omega)
  refine ⟨xs, h2, h3, ?_⟩
  rw [List.take_of_length_le (by omega), h5]; omega
theorem head_list {l : List UInt8} {t : ByteArray} (ht : t = ⟨l.toArray⟩) {h : 0 < t.size} : ∃ y l', l = y :: l' ∧ (t[0]'h).toNat = y.toNat ∧ t.extract 1 t.size = ⟨l'.toArray⟩ := by
  subst ht
  cases l with
  | nil => exact absurd h (by decide)
  | cons y l' =>
    refine ⟨y, l', rfl, ?_, ?_⟩
    · rw [← bt_get h, bt_list]; rfl
    · rw [size_list, List.length_cons]; exact extract_list _ _
theorem own8_new (w : World) (y : UInt8) : Own8 (w.alloc (.cells #[.int .u8 (y.toNat : Int)] 5)) w.heap.size [y] := by
  unfold Own8 World.alloc
  simp
  rfl
def szF : Value → Nat
  | .string d => d.size
  | _ => 0
theorem abs_ten {N : Nat} {a : Int} (h : Sm N a) : (a.natAbs : Int) < 10 ^ (10 * N) := by
  have h1 := bp_ten N
  obtain ⟨h2, h3⟩ := h
  omega
theorem rlow_b (w : World) (v : Value) (xs : List Int) (hv : SlV w v xs) (hl : Lb xs) :
    Calls Try.prog 75 #[v] w fun e w' => e = .returned (.int .u64 (nv (xs.take 2))) ∧ Below w.heap.size w w' :=
  (rlow_any w v xs hv hl).mono fun e w' ⟨h, h2⟩ => ⟨h, h2 ▸ Below.refl _ _⟩

set_option maxHeartbeats 8000000 in
theorem rformat_pos (w : World) (v : Value) (a : Int) (N : Nat) (hN : N ≤ 1000000) (ha : IntA w v a N) (ha0 : a ≠ 0) :
    Calls Try.prog 34 #[v] w fun e w' => e = .returned (.string ⟨(text a).toArray⟩) ∧ Below w.heap.size w w' := by
  obtain ⟨na, As, n, c, rfl⟩ := ha.form
  have HNA := hid (flag_of ha ha0)
  have FA := hid ha
  have SA := hid ha.sm
  clear ha
  have A0 := hid ha0
  have hc0 : ((cm a 0 : Int) == 0) = false := by rw [beq_eq_false_iff_ne]; rcases cm_form a 0 with ⟨h1, e1⟩ | ⟨h1, e1⟩ | ⟨h1, e1⟩ <;> omega
  clear ha0
  have HB := hid (Below.refl w.heap.size w)
  obtain ⟨W, hW⟩ : ∃ W, W = (w.alloc (.cells #[.bool na, .slice As n c] 24)) := ⟨_, rfl⟩
  have hbb : Below w.heap.size w W := by rw [hW]; exact (bw_alloc (Below.refl _ _) _)
  have HB := hid (bw_step HB.out hbb)
  have FA := hid (FA.out.below hbb)
  have P0 : Hid (Blk W (w.heap.size) 24 #[.bool na, .slice As n c]) := by
    rw [hW]
    have := Blk.new w 24 #[.bool na, .slice As n c]
    exact hid (by simpa only [World.size_alloc] using this)
  clear hbb
  obtain ⟨k1, l1, f1, g1⟩ := id P0.out.bx
  go_enter Try.func34, Try.ntmps34
  go_wp2_with fail
  rw [← hW]
  clear hW
  refine (rsign_any _ _ a N FA.out).mono ?_
  rintro e W2 ⟨rfl, hb2⟩
  clear k1 l1 f1 g1
  have HB := hid (bw_step HB.out hb2)
  have FA := hid (FA.out.below hb2)
  have P0 := hid (P0.out.below hb2)
  clear hb2
  obtain ⟨k3, l3, f3, g3⟩ := id P0.out.bx
  go_wp2_with fail
  refine (rabs_any _ _ a N FA.out).mono ?_
  rintro e W4 ⟨⟨v, rfl, hv⟩, hb4⟩
  clear k3 l3 f3 g3
  have HB := hid (bw_step HB.out hb4)
  have FA := hid (FA.out.below hb4)
  have P0 := hid (P0.out.below hb4)
  clear hb4
  clear hc0
  obtain ⟨q41, A41, n41, c41, rfl⟩ := hv.form
  have x := hid hv
  clear hv
  have ltP := P0.out.lt
  have hbb := bw_alloc (Below.refl _ W4) (.cells #[.bool q41, .slice A41 n41 c41] 24)
  have Xx := Blk.new W4 24 #[.bool q41, .slice A41 n41 c41]
  have HB := hid (bw_step HB.out hbb)
  have FA := hid (FA.out.below hbb)
  have P0 := hid (P0.out.below hbb)
  have x := hid (x.out.below hbb)
  have Xx := hid Xx
  clear hbb
  go_wp2_with fail
  go_loopg [3, 4] (a.natAbs) (fun gk sv v wr => ∃ (l : List UInt8) (t : ByteArray) (g : Nat) (z : Int), sv = .string t ∧ v = .pointer (some ⟨g, 0, none⟩) ∧ w.heap.size < g ∧ Hid (0 ≤ z) ∧ Hid (gk = z.toNat) ∧ Hid (t = ⟨l.toArray⟩) ∧ Hid (BoxI wr g z) ∧ Hid (Sm N z) ∧ Hid (∀ x ∈ l, 48 ≤ x.toNat ∧ x.toNat ≤ 57) ∧ Hid (z * 10 ^ l.length + lv l = (a.natAbs : Int)) ∧ Hid (l.length ≤ 10 * N + 9) ∧ Hid (Blk wr w.heap.size 24 #[.bool na, .slice As n c]) ∧ Hid (Below w.heap.size w wr))
  case atStart => exact ⟨[], ⟨#[]⟩, _, (a.natAbs : Int), rfl, rfl, ltP, hid (by omega), hid (by omega), hid rfl, hid ⟨_, _, _, _, Xx.out, x.out⟩, hid SA.out.absv, hid (by simp), hid (by rw [lv_nil, List.length_nil, Int.pow_zero]; omega), hid (by simp), P0, HB⟩
  case round =>
    clear P0 HB Xx x FA ltP
    obtain ⟨l, t, g, z, rfl, rfl, hg, Z0, HG, HT, BX, SZ, DL, HV, LL, P0, HB⟩ := hrel
    obtain ⟨qx, Ax, nx, cx, kx, vx⟩ := BX.out
    have Xx := hid kx
    have x := hid vx
    clear BX kx vx
    by_cases hz : z = 0
    · have hc1 : decide (0 < cm z 0) = false := by rw [decide_eq_false_iff_not]; rcases cm_form z 0 with ⟨h1, e1⟩ | ⟨h1, e1⟩ | ⟨h1, e1⟩ <;> omega
      have hc2 : ¬ (0 < cm z 0) := by simpa using hc1
      have HZ := hid hz
      clear hz
      obtain ⟨k5, l5, f5, g5⟩ := id Xx.out.bx
      go_wp2_with fail
      refine (rsign_any _ _ z N (x.out.arg SZ.out)).mono ?_
      rintro e W6 ⟨rfl, hb6⟩
      clear k5 l5 f5 g5
      have HB := hid (bw_step HB.out hb6)
      have P0 := hid (P0.out.below hb6)
      have x := hid (x.out.below hb6)
      have Xx := hid (Xx.out.below hb6)
      clear hb6
      have LV := hid (show lv l = (a.natAbs : Int) by have h := HV.out; rw [HZ.out] at h; omega)
      have TS : 0 < t.size := by rw [HT.out, size_list]; refine List.length_pos_iff.2 (fun e => ?_); have h := LV.out; rw [e, lv_nil] at h; have := A0.out; omega
      go_wp2_with fail
      clear hc1 hc2
      go_loopw [3] (fun sv wx => ∃ (l : List UInt8) (t : ByteArray), sv = .string t ∧ 0 < t.size ∧ Hid (t = ⟨l.toArray⟩) ∧ Hid (∀ x ∈ l, 48 ≤ x.toNat ∧ x.toNat ≤ 57) ∧ Hid (lv l = (a.natAbs : Int)) ∧ Hid (l.length ≤ 10 * N + 9) ∧ wx = W6) (fun sv _ => szF sv)
      case atStart => exact ⟨l, t, rfl, TS, HT, DL, LV, LL, by first | rfl | trivial⟩
      case round =>
        clear TS HT DL LV LL
        obtain ⟨l, t, rfl, TS, HT, DL, LV, LL, rfl⟩ := hrel
        obtain ⟨y, l', hl, hy, hx⟩ := head_list (h := TS) HT.out
        by_cases h48 : t[0].toNat = 48
        · have e1 : ((t[0].toNat : Int) == 48) = true := by rw [h48]; rfl
          have LV2 := hid (show lv l' = (a.natAbs : Int) by rw [← LV.out, hl, lv_zero (by rw [← hy]; exact h48)])
          have HX := hid hx
          have HL := hid hl
          clear h48 hy hl hx
          go_wp2
          go_roundw
          case measure => simp [szF]; omega
          case rel => exact ⟨l', t.extract 1 t.size, rfl, by
              rw [HX.out, size_list]; refine List.length_pos_iff.2 (fun e => ?_); have h := LV2.out; rw [e, lv_nil] at h; have := A0.out; omega, HX, hid (fun x hx => DL.out x (by rw [HL.out]; exact List.mem_cons_of_mem _ hx)), LV2, hid (by have h := LL.out; rw [HL.out, List.length_cons] at h; omega), by first | rfl | trivial⟩
        · have e1 : ((t[0].toNat : Int) == 48) = false := by rw [beq_eq_false_iff_ne]; omega
          have HH := hid (show ((l[0]?).getD 0).toNat ≠ 48 by rw [hl]; simp; rw [← hy]; exact h48)
          have TX := hid (text_end DL.out (by rw [hl]; simp) HH.out LV.out na HNA.out)
          have tsz : t.size ≤ 10 * N + 9 := by rw [HT.out, size_list]; exact LL.out
          clear h48 hy hl hx
          obtain ⟨k5, l5, f5, g5⟩ := id P0.out.bx
          cases na with
          | false =>
            have TE := hid (show (⟨(text a).toArray⟩ : ByteArray) = t by rw [TX.out, HT.out]; rfl)
            go_wp2
            go_ret
            exact ⟨by rw [TE.out]; rfl, HB.out⟩
          | true =>
            have TE := hid (show (⟨(text a).toArray⟩ : ByteArray) = (⟨#[45]⟩ : ByteArray) ++ t by rw [TX.out, HT.out, dash_cat]; rfl)
            have ssz1 : ¬ (9223372036854775807 < ByteArray.size ⟨#[45]⟩ + t.size) := by show ¬ (9223372036854775807 < 1 + t.size); omega
            have ssz2 : ¬ (9223372036854775807 < 1 + t.size) := by omega
            go_wp2
            go_ret
            exact ⟨by rw [TE.out]; rfl, HB.out⟩
    · have hc1 : decide (0 < cm z 0) = true := by rw [decide_eq_true_eq]; have := Z0.out; rcases cm_form z 0 with ⟨h1, e1⟩ | ⟨h1, e1⟩ | ⟨h1, e1⟩ <;> omega
      have hc2 : 0 < cm z 0 := by simpa using hc1
      have Z1 := hid (show 1 ≤ z by have := Z0.out; omega)
      have N1 : 1 ≤ N := by
        rcases Nat.eq_zero_or_pos N with h | h
        · subst h; have h1 := SZ.out.2; rw [bp_zero] at h1; have := Z1.out; omega
        · exact h
      have S9 := hid ((Sm.one (n := 1000000000) (by decide) (by decide)).to N1)
      clear hz
      obtain ⟨k35, l35, f35, g35⟩ := id Xx.out.bx
      go_wp2_with fail
      refine (rsign_any _ _ z N (x.out.arg SZ.out)).mono ?_
      rintro e W36 ⟨rfl, hb36⟩
      clear k35 l35 f35 g35
      have HB := hid (bw_step HB.out hb36)
      have P0 := hid (P0.out.below hb36)
      have x := hid (x.out.below hb36)
      have Xx := hid (Xx.out.below hb36)
      clear hb36
      go_wp2_with fail
      clear hc1 hc2
      have SQ : Hid (Sm N (z / 1000000000)) := hid SZ.out.quo
      have SR : Hid (Sm N (z % 1000000000)) := hid (S9.out.rem (by decide))
      have lt36_P0 := P0.out.lt
      have lt36_Xx := Xx.out.lt
      refine wp_region_each (by kernel_rfl) 12 54 rfl rfl (by kernel_rfl)
        [Fact.eq (.agg #[.bool qx, .slice Ax nx cx]), Fact.int 1000000000, Fact.tup3 (z / 1000000000) (z % 1000000000) true, Fact.tup3 (z / 1000000000) (z % 1000000000) true, Fact.int (z / 1000000000), Fact.int (z % 1000000000), Fact.eq (.bool true), Fact.box (z / 1000000000), Fact.box (z % 1000000000), Fact.top _, Fact.top _, Fact.eq (.bool true)]
        [.val, .val, .val, .val, .val, .val, .val, .alloc 9, .alloc 10, .fill 7, .fill 8, .val]
        (fun w' => Blk w' (w.heap.size) 24 #[.bool na, .slice As n c] ∧ IntV w' (.agg #[.bool qx, .slice Ax nx cx]) (z) ∧ Blk w' (g) 24 #[.bool qx, .slice Ax nx cx] ∧ Below w.heap.size w w')
        (fun _ _ _ => True) [] (fun _ => 0) (by kernel_rfl)
        ⟨P0.out, x.out, Xx.out, HB.out⟩
        (fun w1 w2 ⟨h0, h1, h2, h3⟩ hb => ⟨h0.below hb, h1.below hb, h2.below hb, bw_step h3 hb⟩)
        (fun w1 w2 g ⟨h0, h1, h2, h3⟩ hg hn ho => by
          have hg' : W36.heap.size ≤ g := hg.elim id (fun ⟨_, h, _⟩ => absurd h (Nat.not_lt_zero _))
          exact ⟨h0.only ho (by have := P0.out.lt; have := Xx.out.lt; omega), h1.only hn ho, h2.only ho (by have := P0.out.lt; have := Xx.out.lt; omega), below_only h3 ho (by have := P0.out.lt; have := Xx.out.lt; have := HB.out.size; omega)⟩)
        (fun l h => trivial) (fun l b w1 w2 h _ _ => trivial) (fun l b w1 w2 g h _ _ _ _ => trivial) (fun l h => by cases h) (fun l k h => by cases h) ?_ ?_
      · refine ⟨?_, ?_, ?_, ?_, ?_, ?_, ?_, ?_, ?_, ?_, ?_, ?_, trivial⟩ <;> intro L V a1 w1 hf hG hsz hφ hψ hL hdep hcl
        · obtain ⟨P0_, x_, Xx_, HB_⟩ := hG
          have e4 := old_slot hf 4 (by kernel_rfl)
          exact ob_load_int rfl e4 Xx_ rfl
        · obtain ⟨P0_, x_, Xx_, HB_⟩ := hG
          refine ob_go rfl (vs := #[.int .i64 1000000000]) (by simp only [List.map_toArray, List.map_cons, List.map_nil, ev_const]) (by kernel_rfl) (rsmall_any _ 1000000000 (by decide) (by decide)) ?_
          rintro e w2 ⟨⟨v, rfl, hv⟩, hb⟩
          exact ⟨v, rfl, hb, hv⟩
        · obtain ⟨P0_, x_, Xx_, HB_⟩ := hG
          have d0 := dep_of hdep 0 (by kernel_rfl)
          have e19 := (new_slot hf 0 19 d0 (by kernel_rfl)).trans (show V 0 = .agg #[.bool qx, .slice Ax nx cx] from hφ 0 d0)
          have d1 := dep_of hdep 1 (by kernel_rfl)
          have e20 := new_slot hf 1 20 d1 (by kernel_rfl)
          have p20 : IntV w1 (V 1) 1000000000 := hφ 1 d1
          refine ob_go rfl (vs := #[.agg #[.bool qx, .slice Ax nx cx], V 1]) (by simp only [List.map_toArray, List.map_cons, List.map_nil, e19, e20]) (by kernel_rfl) (rdivMod_any _ _ _ z 1000000000 N hN (x_.arg SZ.out) (p20.arg S9.out) (by decide)) ?_
          rintro e w2 ⟨⟨v1, v2, rfl, h1, h2⟩, hb⟩
          exact ⟨_, rfl, hb, v1, v2, rfl, h1, h2⟩
        · obtain ⟨P0_, x_, Xx_, HB_⟩ := hG
          have d2 := dep_of hdep 2 (by kernel_rfl)
          have e21 := new_slot hf 2 21 d2 (by kernel_rfl)
          have p21 : Tup3 w1 (V 2) (z / 1000000000) (z % 1000000000) true := hφ 2 d2
          exact ob_pure (ex_moveV rfl e21) (by exact p21)
        · obtain ⟨P0_, x_, Xx_, HB_⟩ := hG
          have d3 := dep_of hdep 3 (by kernel_rfl)
          have e18 := new_slot hf 3 18 d3 (by kernel_rfl)
          have p18 : Tup3 w1 (V 3) (z / 1000000000) (z % 1000000000) true := hφ 3 d3
          exact ob_extract0 rfl e18 p18 rfl
        · obtain ⟨P0_, x_, Xx_, HB_⟩ := hG
          have d3 := dep_of hdep 3 (by kernel_rfl)
          have e18 := new_slot hf 3 18 d3 (by kernel_rfl)
          have p18 : Tup3 w1 (V 3) (z / 1000000000) (z % 1000000000) true := hφ 3 d3
          exact ob_extract1 rfl e18 p18 rfl
        · obtain ⟨P0_, x_, Xx_, HB_⟩ := hG
          have d3 := dep_of hdep 3 (by kernel_rfl)
          have e18 := new_slot hf 3 18 d3 (by kernel_rfl)
          have p18 : Tup3 w1 (V 3) (z / 1000000000) (z % 1000000000) true := hφ 3 d3
          exact ob_extract2 rfl e18 p18 rfl
        · obtain ⟨P0_, x_, Xx_, HB_⟩ := hG
          exact ob_alloc_int rfl hsz rfl
        · obtain ⟨P0_, x_, Xx_, HB_⟩ := hG
          exact ob_alloc_int rfl hsz rfl
        · obtain ⟨P0_, x_, Xx_, HB_⟩ := hG
          have d4 := dep_of hdep 4 (by kernel_rfl)
          have e22 := new_slot hf 4 22 d4 (by kernel_rfl)
          have p22 : IntV w1 (V 4) (z / 1000000000) := hφ 4 d4
          have d7 := dep_of hdep 7 (by kernel_rfl)
          obtain ⟨g, h1, h2, h3⟩ := hφ 7 d7
          exact ob_fill_int rfl ((new_slot hf 7 5 d7 (by kernel_rfl)).trans h1) e22 h1 h2 h3 p22 rfl rfl
        · obtain ⟨P0_, x_, Xx_, HB_⟩ := hG
          have d5 := dep_of hdep 5 (by kernel_rfl)
          have e23 := new_slot hf 5 23 d5 (by kernel_rfl)
          have p23 : IntV w1 (V 5) (z % 1000000000) := hφ 5 d5
          have d8 := dep_of hdep 8 (by kernel_rfl)
          obtain ⟨g, h1, h2, h3⟩ := hφ 8 d8
          exact ob_fill_int rfl ((new_slot hf 8 6 d8 (by kernel_rfl)).trans h1) e23 h1 h2 h3 p23 rfl rfl
        · obtain ⟨P0_, x_, Xx_, HB_⟩ := hG
          have d6 := dep_of hdep 6 (by kernel_rfl)
          have e24 := (new_slot hf 6 24 d6 (by kernel_rfl)).trans (show V 6 = .bool true from hφ 6 d6)
          exact ob_pure (v := .bool true) (ex_assignV rfl e24) rfl
      · intro V W37 hG hsz37 hφ hψ hne
        have hlt37 : W36.heap.size ≤ W37.heap.size := hsz37
        obtain ⟨P0_, x_, Xx_, HB_⟩ := hG
        have P0 := hid P0_
        have x := hid x_
        have Xx := hid Xx_
        have HB := hid HB_
        have y0 : V 0 = .agg #[.bool qx, .slice Ax nx cx] := hφ 0 (by decide)
        have y6 : V 6 = .bool true := hφ 6 (by decide)
        obtain ⟨G37_7, y7, gb3707, q3707, A3707, n3707, c3707, kb3707, vb3707⟩ := hφ 7 (by decide)
        have Xq := hid kb3707
        have q := hid vb3707
        clear kb3707 vb3707
        obtain ⟨G37_8, y8, gb3708, q3708, A3708, n3708, c3708, kb3708, vb3708⟩ := hφ 8 (by decide)
        have Xr := hid kb3708
        have r := hid vb3708
        clear kb3708 vb3708
        have y11 : V 11 = .bool true := hφ 11 (by decide)
        have ne37_7_8 : G37_7 ≠ G37_8 := fun e => hne 7 8 (by decide) rfl rfl (by rw [y7, y8, e])
        simp only [puts, Act.put, List.setIfInBounds_toArray, List.set_cons_zero, List.set_cons_succ, y0, y6, y7, y8, y11, ptr]
        clear hφ hψ hne y0 y6 y7 y8 y11 P0_ x_ Xx_ HB_ hsz37
        obtain ⟨ZQ, hZQ⟩ : ∃ ZQ, z / 1000000000 = ZQ := ⟨_, rfl⟩
        obtain ⟨ZR, hZR⟩ : ∃ ZR, z % 1000000000 = ZR := ⟨_, rfl⟩
        have hd := Int.emod_add_mul_ediv z 1000000000
        have hr0 := Int.emod_nonneg z (show (1000000000 : Int) ≠ 0 by decide)
        have hr1 := Int.emod_lt_of_pos z (show (0 : Int) < 1000000000 by decide)
        rw [hZQ, hZR] at hd
        rw [hZR] at hr0 hr1 r
        rw [hZQ] at q SQ
        clear hZQ hZR
        have Q0 := hid (show 0 ≤ ZQ by have := Z0.out; omega)
        have QM := hid (show ZQ.toNat < z.toNat by have := Z1.out; have := Z0.out; omega)
        have LK := hid (fmt_len Z1.out HV.out DL.out (abs_ten SA.out))
        have HV9 := hid (show (ZQ * 10 ^ (9 - 0) + ZR) * 10 ^ l.length + lv l = (a.natAbs : Int) by rw [← HV.out, ← hd, show (10 : Int) ^ (9 - 0) = 1000000000 from rfl, show ZQ * 1000000000 + ZR = ZR + 1000000000 * ZQ by omega])
        obtain ⟨rs, hrs, hrl, hrn⟩ := low_of r.out hr0 (by omega)
        have RS := hid hrs
        have RL := hid hrl
        have RN := hid hrn
        have R9 := hid (show ZR < 10 ^ (9 - 0) from hr1)
        clear hrs hrl hrn hd
        obtain ⟨k38, l38, f38, g38⟩ := id Xr.out.bx
        go_wp2_with fail
        refine (rlow_b _ _ rs RS.out RL.out).mono ?_
        rintro e W39 ⟨rfl, hb39⟩
        clear k38 l38 f38 g38
        have HB := hid (bw_step HB.out hb39)
        have P0 := hid (P0.out.below hb39)
        have x := hid (x.out.below hb39)
        have Xx := hid (Xx.out.below hb39)
        have Xq := hid (Xq.out.below hb39)
        have q := hid (q.out.below hb39)
        have Xr := hid (Xr.out.below hb39)
        have r := hid (r.out.below hb39)
        have RS := hid (RS.out.below hb39)
        clear hb39
        rw [RN.out]
        go_wp2_with fail
        go_loopw [3, 8, 9] (fun sv nv i wx => ∃ (l : List UInt8) (t : ByteArray) (n : Int) (k : Nat), sv = .string t ∧ nv = .int .u64 n ∧ i = .int .i64 (k : Int) ∧ k ≤ 9 ∧ 0 ≤ n ∧ n < 1000000000 ∧ t.size ≤ 10 * N + k ∧ Hid (n < 10 ^ (9 - k)) ∧ Hid (t = ⟨l.toArray⟩) ∧ Hid (∀ x ∈ l, 48 ≤ x.toNat ∧ x.toNat ≤ 57) ∧ Hid ((ZQ * 10 ^ (9 - k) + n) * 10 ^ l.length + lv l = (a.natAbs : Int)) ∧ Hid (Below W39.heap.size W39 wx)) (fun _ _ i _ => 9 - (intOf i).toNat)
        case atStart => exact ⟨l, t, ZR, 0, rfl, rfl, rfl, by omega, hr0, hr1, by rw [HT.out, size_list]; have := LK.out; omega, R9, HT, DL, HV9, hid (Below.refl _ _)⟩
        case round =>
          clear HT DL HV9 HV R9 LL LK hr0 hr1
          obtain ⟨l, t, m, k, rfl, rfl, rfl, hk, hm0, hm1, hts, M9, HT, DL, HV, HW⟩ := hrel
          by_cases hk9 : k < 9
          · obtain ⟨y, hy0⟩ : ∃ y : UInt8, (y.toNat : Int) = 48 + m % 10 := ⟨UInt8.ofNat (48 + (m % 10).toNat), by rw [UInt8.toNat_ofNat']; omega⟩
            have ST := hid (fmt_step hk9 HV.out hm0 M9.out hy0)
            have hy : 48 + m % 10 = (y.toNat : Int) := hy0.symm
            have hy7 : (y.toNat : Int) ≤ 57 := by omega
            have hy8 : (48 : Int) ≤ (y.toNat : Int) := by omega
            clear hy0
            have hcv : (convert 47 9 (.slice (some ⟨wr.heap.size, 0, none⟩) 1 1)).run Try.prog (wr.alloc (.cells #[.int .u8 (y.toNat : Int)] 5)) = .ok (.string ⟨#[y]⟩) (wr.alloc (.cells #[.int .u8 (y.toNat : Int)] 5)) := string_own _ _ 1 1 [y] (own8_new wr y) rfl
            have ssz1 : ¬ (9223372036854775807 < ByteArray.size ⟨#[y]⟩ + t.size) := by show ¬ (9223372036854775807 < 1 + t.size); omega
            have ssz2 : ¬ (9223372036854775807 < 1 + t.size) := by omega
            go_wp2
            go_roundw
            case measure => first | omega | (simp [intOf]; omega)
            case rel =>
              refine ⟨y :: l, ⟨#[y]⟩ ++ t, m / 10, k + 1, rfl, rfl, by go_num, by omega, by omega, by omega, ?_, hid ST.out.2, hid (by rw [HT.out, byte_cat]), hid ?_, hid ST.out.1, hid (bw_alloc HW.out _)⟩
              · rw [HT.out, byte_cat, size_list, List.length_cons]; rw [HT.out, size_list] at hts; omega
              · intro x hx
                rcases List.mem_cons.1 hx with h | h
                · subst h; omega
                · exact DL.out x h
          · have hk : k = 9 := by omega
            have HK := hid hk
            have d9 : decide ((k : Int) < 9) = false := by rw [decide_eq_false_iff_not]; omega
            have m0 := hid (show m = 0 by have h := M9.out; rw [HK.out] at h; have h1 : (10 : Int) ^ (9 - 9) = 1 := rfl; omega)
            have HV := hid (show ZQ * 10 ^ l.length + lv l = (a.natAbs : Int) by have h := HV.out; rw [HK.out, m0.out, show (10 : Int) ^ (9 - 9) = 1 from rfl, Int.mul_one, Int.add_zero] at h; exact h)
            clear hk
            have HB := hid (bw_step HB.out HW.out)
            have P0 := hid (P0.out.below HW.out)
            have x := hid (x.out.below HW.out)
            have Xx := hid (Xx.out.below HW.out)
            have Xq := hid (Xq.out.below HW.out)
            have q := hid (q.out.below HW.out)
            have Xr := hid (Xr.out.below HW.out)
            have r := hid (r.out.below HW.out)
            clear HW
            obtain ⟨k40, l40, f40, g40⟩ := id Xq.out.bx
            obtain ⟨k41, l41, f41, g41⟩ := id Xx.out.bx
            obtain ⟨k42, l42, f42, g42⟩ := id P0.out.bx
            have hne : g ≠ G37_7 := by omega
            have x := q
            have hnf := Xx.out.numFree (noNum_int _ _ _ _)
            have hon := only_two wr (g) (.bool q3707) (.slice A3707 n3707 c3707)
            have P0 := hid (P0.out.only hon (by have := P0.out.lt; have := Xx.out.lt; have := Xq.out.lt; have := Xr.out.lt; omega))
            have x := hid (x.out.only hnf hon)
            have Xx := hid (blk_fill (q := q3707) (A := A3707) (n := n3707) (c := c3707) Xx.out)
            have Xq := hid (Xq.out.only hon (by have := P0.out.lt; have := Xx.out.lt; have := Xq.out.lt; have := Xr.out.lt; omega))
            have Xr := hid (Xr.out.only hon (by have := P0.out.lt; have := Xx.out.lt; have := Xq.out.lt; have := Xr.out.lt; omega))
            have HB := hid (below_only HB.out hon (by have := P0.out.lt; have := Xx.out.lt; have := Xq.out.lt; have := Xr.out.lt; have := HB.out.size; omega))
            clear hnf hon
            go_wp2
            have hs5 : ((wr.setCell ⟨g, 0, none⟩ (.bool q3707)).setCell ⟨g, 1, none⟩ (.slice A3707 n3707 c3707)).heap.size = wr.heap.size := by simp [World.setCell]
            have BN := Blk.new ((wr.setCell ⟨g, 0, none⟩ (.bool q3707)).setCell ⟨g, 1, none⟩ (.slice A3707 n3707 c3707)) 24 #[.bool q3707, .slice A3707 n3707 c3707]
            have hP := P0.out.lt
            rw [hs5] at BN hP
            clear hs5
            go_roundg ZQ.toNat
            case measure => have := QM.out; have := HG.out; omega
            case rel => exact ⟨l, t, wr.heap.size, ZQ, rfl, by first | rfl | go_num, by first | exact hP | omega, Q0, hid rfl, HT, hid ⟨_, _, _, _, BN, x.out.below (bw_alloc (Below.refl _ _) _)⟩, SQ, DL, HV, hid (by have h := hts; rw [HT.out, size_list] at h; omega), hid (P0.out.below (bw_alloc (Below.refl _ _) _)), hid (bw_alloc HB.out _)⟩
theorem rformat_any (w : World) (v : Value) (a : Int) (N : Nat) (hN : N ≤ 1000000) (ha : IntA w v a N) :
    Calls Try.prog 34 #[v] w fun e w' => e = .returned (.string ⟨(text a).toArray⟩) ∧ Below w.heap.size w w' := by
  by_cases h : a = 0
  · subst h; exact rformat_zero w v N ha
  · exact rformat_pos w v a N hN ha h
end Go.Proofs.Ytijmjkkjopplbaa

