/- A part of the proof of the laws of rationals: Parse, ParseText. -/
import Derived.Test.YtijmjkkjopplbaaPab
import Derived.Test.YtijmjkkjopplbaaPac
import Derived.Test.YtijmjkkjopplbaaPai
import Derived.Test.YtijmjkkjopplbaaPah
import Derived.Test.YtijmjkkjopplbaaPag
import Derived.Test.YtijmjkkjopplbaaPaa
namespace Go.Proofs.Ytijmjkkjopplbaa
open Go.RowKit
set_option linter.unusedVariables false
set_option maxRecDepth 100000

theorem dv_bound (t : ByteArray) (ha : AllD t) : ∀ k, k ≤ t.size → 0 ≤ dv t k ∧ dv t k < bp k
  | 0, _ => by simp [dv, bp_zero]
  | k + 1, h => by
    have h1 := dv_bound t ha k (by omega)
    have h2 := ha k (by omega)
    rw [dv, bp_succ]
    omega

/-- What Parse hands back. -/
def ParseOk (s : ByteArray) (e : Ending) (w' : World) : Prop :=
  (¬ Num s ∧ e = .returned (.tuple #[.agg #[.bool false, .slice none 0 0], .int .i64 2])) ∨
  (Num s ∧ 2000 < (dsB s).size ∧ e = .returned (.tuple #[.agg #[.bool false, .slice none 0 0], .int .i64 7])) ∨
  (Num s ∧ (dsB s).size ≤ 2000 ∧ ∃ v, e = .returned (.tuple #[v, .int .i64 0]) ∧ IntV w' v (sg (ngB s) (dv (dsB s) (dsB s).size)))

theorem ten_le {n : Nat} (h : n ≤ 8) : (10 : Int) ^ n ≤ 100000000 := by
  rcases (show n = 0 ∨ n = 1 ∨ n = 2 ∨ n = 3 ∨ n = 4 ∨ n = 5 ∨ n = 6 ∨ n = 7 ∨ n = 8 by omega) with h | h | h | h | h | h | h | h | h <;> (subst h; decide)
def szV : Value → Nat
  | .string d => d.size
  | _ => 0
set_option maxHeartbeats 4000000 in
theorem parse_any (w : World) (s : ByteArray) (hs : s.size ≤ 9223372036854775807) :
    Calls Try.prog 63 #[.string s] w fun e w' => ParseOk s e w' ∧ Below w.heap.size w w' := by
  obtain ⟨W, hW⟩ : ∃ W, W = w.alloc (.cells #[.bool false, .slice none 0 0] 24) := ⟨_, rfl⟩
  have x0 := Bx.new w (.bool false) (.slice none 0 0) 24
  rw [← hW] at x0
  have HB : Below w.heap.size w W := by rw [hW]; exact bw_alloc (Below.refl _ _) _
  by_cases hn : Num s
  · have HN := hid hn
    clear hn
    obtain ⟨t, ht⟩ : ∃ t, dsB s = t := ⟨_, rfl⟩
    obtain ⟨ng, hng⟩ : ∃ ng, ngB s = ng := ⟨_, rfl⟩
    have HT := hid ht
    have NG := hid hng
    have hts : t.size ≤ s.size := by
      rw [← ht]; unfold dsB; split
      · simp
      · exact Nat.le_refl _
    have HA := hid (show AllD t by rw [← ht]; exact HN.out.2.1)
    clear ht hng
    go_enter Try.func63, Try.ntmps63
    go_wp2_with fail
    rw [← hW]
    clear hW
    refine (scan_any _ s hs).mono ?_
    rintro e w2 ⟨hp, hb⟩
    obtain ⟨_, rfl⟩ := hp.resolve_right (fun h => absurd HN.out h.1)
    rw [HT.out, NG.out]
    have HB := hid (bw_step HB hb)
    have x0 := x0.below hb
    clear hb
    by_cases hl : 2000 < t.size
    · obtain ⟨k0, k1, f0, f1⟩ := id x0
      go_wp2
      refine bodyPost_ret (v := .tuple #[.agg #[.bool false, .slice none 0 0], .int .i64 7]) (by simp [results, Try.results63, go_sem, k0, k1]) rfl ⟨.inr (.inl ⟨HN.out, by rw [HT.out]; exact hl, rfl⟩), (HB.out.setCell (Nat.le_refl _) _).setCell (Nat.le_refl _) _⟩
    · have hd0 : decide ((2000 : Int) < (t.size : Int)) = false := by rw [decide_eq_false_iff_not]; omega
      have X0 := hid x0
      clear x0
      have TL := hid (show t.size ≤ 2000 by omega)
      go_wp2_with fail
      go_loopw [5, 7] (fun d v wr => ∃ (db : ByteArray) (xs : List Int) (pos : Nat), d = .string db ∧ pos + db.size = t.size ∧ Hid (SlV wr v xs) ∧ Hid (Lb xs) ∧ Hid (Cn xs) ∧ Hid (∀ i, bt db i = bt t (pos + i)) ∧ Hid (nv xs = dv t pos) ∧
          Hid (Bx wr w.heap.size (.bool false) (.slice none 0 0)) ∧ Hid (Below w.heap.size w wr)) (fun d _ _ => szV d)
      case atStart => exact ⟨t, [], 0, rfl, by omega, hid (SlV.mk (Sl.nil _ _) rfl (Nat.le_refl _)), hid Lb.nil, hid Cn.nil, hid (fun i => by rw [Nat.zero_add]), hid rfl, X0, HB⟩
      case round =>
        obtain ⟨db, xs, pos, rfl, hpos, SV, LB, CN, BT, NV, X0, HB⟩ := hrel
        by_cases hz : 0 < db.size
        · obtain ⟨k, hk, hk1, hk9, hkd⟩ : ∃ k : Nat, (if (db.size : Int) < 9 then (db.size : Int) else 9) = (k : Int) ∧ 0 < k ∧ k ≤ 9 ∧ k ≤ db.size := by
            split
            · exact ⟨db.size, rfl, hz, by omega, Nat.le_refl _⟩
            · exact ⟨9, rfl, by omega, by omega, by omega⟩
          go_wp2_with fail
          go_loopw [9, 10, 32] (fun c m i wx => ∃ (cv sv : Int) (n : Nat), c = .int .u32 cv ∧ m = .int .u32 sv ∧ i = .int .i64 n ∧ n ≤ k ∧ 0 ≤ cv ∧ cv < sv ∧ sv ≤ 1000000000 ∧ Hid (sv = 10 ^ n) ∧ Hid (dv t (pos + n) = dv t pos * sv + cv) ∧ Hid (Dr wr wx)) (fun _ _ i _ => k - (intOf i).toNat)
          case atStart => exact ⟨0, 1, 0, rfl, rfl, rfl, Nat.zero_le _, by decide, by decide, by decide, hid rfl, hid (by rw [Nat.add_zero]; omega), hid (Dr.refl _)⟩
          case round =>
            obtain ⟨cv, sv, n, rfl, rfl, rfl, hn, hc0, hcs, hs9, SVN, DV, DR⟩ := hrel
            by_cases hnk : n < k
            · have hnd : n < db.size := by omega
              have h8 : sv ≤ 100000000 := by rw [SVN.out]; exact ten_le (by omega)
              have hdg := HA.out (pos + n) (by omega)
              have hbt := BT.out n
              rw [bt_get hnd] at hbt
              rw [← hbt] at hdg
              obtain ⟨hd0, hd1⟩ := hdg
              have BTN := hid hbt
              clear hbt
              have e1 : (48 : Int) ≤ (db[n].toNat : Int) := by omega
              have e2 : (db[n].toNat : Int) ≤ 57 := by omega
              go_wp2
              go_roundw
              case rel =>
                exact ⟨_, _, n + 1, rfl, rfl, rfl, by omega, by omega, by omega, by omega, hid (by rw [SVN.out, Int.pow_succ]; omega), hid (by
                  rw [← Nat.add_assoc, dv, DV.out, ← BTN.out, Int.mul_add, Int.mul_left_comm]; omega), DR⟩
              case measure => first | omega | (simp [intOf]; omega)
            · obtain rfl : n = k := by omega
              have hwx := DR.out.below
              have SV2 := hid (SV.out.below hwx)
              have HB := hid (bw_step HB.out hwx)
              have X0 := hid (X0.out.below hwx)
              have HL := Cn.length_le LB.out CN.out (n := pos) (by rw [NV.out]; exact (dv_bound t HA.out pos (by omega)).2)
              have TL := TL.out
              clear hwx DR
              go_wp2_with fail
              refine (shortMultiply_any _ _ xs sv cv SV2.out LB.out ⟨by omega, by omega⟩ ⟨by omega, by omega⟩ (by omega)).mono ?_
              rintro e w3 ⟨⟨ys, ⟨v3, rfl, hv3⟩, hl3, hc3, hn3⟩, hb3⟩
              obtain ⟨A3, cap3, rfl, hcl3, hsl3⟩ := id hv3
              have SV3 := hid hv3
              have HB := hid (bw_step HB.out hb3)
              have X0 := hid (X0.out.below hb3)
              have HL3 := hid hl3
              have HC3 := hid hc3
              have HN3 := hid hn3
              clear hv3 hl3 hc3 hn3 hb3 hsl3 SV2
              go_wp2
              go_roundw
              case rel =>
                exact ⟨db.extract n db.size, ys, pos + n, rfl, by simp; omega, SV3, HL3, HC3, hid (fun i => by rw [bt_extract _ _ _ hkd, BT.out, Nat.add_assoc]), hid (by rw [HN3.out, NV.out, DV.out]), X0, HB⟩
              case measure => simp [szV]; omega
        · obtain rfl : pos = t.size := by omega
          have hz' : db.size = 0 := by omega
          go_wp2_with fail
          refine (signed_any _ _ ng xs SV.out LB.out).mono ?_
          rintro e w3 ⟨⟨v3, rfl, hv3⟩, hb3⟩
          obtain ⟨n3, s3, zs3, rfl, ⟨A3, c3, rfl, -⟩, -⟩ := id hv3
          have HV3 := hid hv3
          have HB := hid (bw_step HB.out hb3)
          obtain ⟨k0, k1, f0, f1⟩ := X0.out.below hb3
          clear hv3 hb3
          go_wp2
          obtain ⟨hv, hb⟩ := fin_any HB.out (Nat.le_refl _) k0 k1 HV3.out (.bool n3) (.slice A3 zs3.length c3)
          refine bodyPost_ret (v := .tuple #[.agg #[.bool n3, .slice A3 zs3.length c3], .int .i64 0]) (by simp [results, Try.results63, go_sem, k0, k1]) rfl ⟨.inr (.inr ⟨HN.out, by rw [HT.out]; exact TL.out, _, rfl, ?_⟩), hb⟩
          rw [HT.out, NG.out, ← NV.out]
          exact hv
  · have HN := hid hn
    clear hn
    go_enter Try.func63, Try.ntmps63
    go_wp2_with fail
    rw [← hW]
    clear hW
    refine (scan_any _ s hs).mono ?_
    rintro e w2 ⟨hp, hb⟩
    rcases hp with ⟨h, _⟩ | ⟨_, rfl⟩
    · exact absurd h HN.out
    have HB := hid (bw_step HB hb)
    obtain ⟨k0, k1, f0, f1⟩ := x0.below hb
    clear x0 hb
    go_wp2
    refine bodyPost_ret (v := .tuple #[.agg #[.bool false, .slice none 0 0], .int .i64 2]) (by simp [results, Try.results63, go_sem, k0, k1]) rfl ⟨.inl ⟨HN.out, rfl⟩, (HB.out.setCell (Nat.le_refl _) _).setCell (Nat.le_refl _) _⟩
end Go.Proofs.Ytijmjkkjopplbaa

namespace Go.Proofs.Ytijmjkkjopplbaa
open Go.RowKit
set_option linter.unusedVariables false
set_option maxRecDepth 100000

theorem text_len (z : Int) : (text z).length ≤ (digs z.natAbs).length + 1 := by
  unfold text
  split
  · simp
  · rw [List.length_append, List.length_reverse]
    split <;> simp
    omega
theorem digs_sm {z : Int} {n : Nat} (h : Sm n z) : (digs z.natAbs).length ≤ 10 * n := by
  have h1 := digs_len_bp (z := (z.natAbs : Int)) (n := n) (by omega) (by have := h.1; have := h.2; omega)
  rwa [Int.toNat_natCast] at h1
end Go.Proofs.Ytijmjkkjopplbaa

