/- A part of the proof of the laws of rationals: Num. -/
import Derived.Laws.RangeAny
import Derived.Test.YtijmjkkjopplbaaPac
import Derived.Test.YtijmjkkjopplbaaPab
import Derived.Test.YtijmjkkjopplbaaPag
import Derived.Test.YtijmjkkjopplbaaPaa
namespace Go.Proofs.Ytijmjkkjopplbaa
open Go.RowKit
set_option linter.unusedVariables false
set_option maxRecDepth 100000

/-- What scan hands back. -/
def ScanOk (s : ByteArray) (e : Ending) : Prop := (Num s ∧ e = .returned (.tuple #[.bool (ngB s), .string (dsB s), .bool true])) ∨ (¬ Num s ∧ e = .returned (.tuple #[.bool false, .string ByteArray.empty, .bool false]))

set_option maxHeartbeats 4000000 in
theorem scan_any (w : World) (s : ByteArray) (hs : s.size ≤ 9223372036854775807) :
    Calls Try.prog 94 #[.string s] w fun e w' => ScanOk s e ∧ Below w.heap.size w w' := by
  obtain ⟨t, ht⟩ : ∃ t, dsB s = t := ⟨_, rfl⟩
  have HT := hid ht
  have hts : t.size ≤ s.size := by
    rw [← ht]; unfold dsB; split
    · simp
    · exact Nat.le_refl _
  by_cases h0 : 0 < s.size
  · by_cases h45 : s[0].toNat = 45
    · have hng : ngB s = true := by unfold ngB; rw [bt_get h0, h45]; rfl
      have e1 : ((s[0].toNat : Int) == 45) = true := by rw [h45]; rfl
      have ht2 : s.extract 1 s.size = t := by rw [← ht]; unfold dsB; rw [if_pos hng]
      have NG := hid hng
      clear h45 ht hng
      go_enter Try.func94, Try.ntmps94
      go_wp2
      clear ht2 e1
      go_loopw [2, 3, 4, 6] (fun v2 v3 v4 r wr => ∃ pos : Nat, v2 = .bool true ∧ v3 = .string t ∧ v4 = .bool false ∧ wr = w.iter t pos ∧ pos ≤ t.size ∧ Hid (∀ i, i < pos → 48 ≤ bt t i ∧ bt t i ≤ 57)) (fun _ _ _ _ wr => t.size - wr.iterPos w.heap.size)
      case atStart => exact ⟨0, rfl, rfl, rfl, rfl, Nat.zero_le _, hid (fun i hi => by omega)⟩
      case round =>
        obtain ⟨pos, rfl, rfl, rfl, rfl, hp, HD⟩ := hrel
        by_cases hlt : pos < t.size
        · have hx := bt_get hlt
          have HX := hid hx
          by_cases hd : 48 ≤ t[pos].toNat ∧ t[pos].toNat ≤ 57
          · have hnx : ∀ ty, (Instr.next (.pointer (some ⟨w.heap.size, 0, none⟩)) true ty).run Try.prog (w.iter t pos) = _ := fun ty => run_next_ascii w t pos ty hlt (by omega)
            obtain ⟨hd1, hd2⟩ := hd
            clear hx
            have d1 : ((48 : Int) ≤ (t[pos].toNat : Int)) := by omega
            have d2 : ((t[pos].toNat : Int) ≤ 57) := by omega
            go_wp2
            go_roundw
            case rel =>
              exact ⟨pos + 1, rfl, rfl, rfl, rfl, hlt, hid (fun i hi => by
                by_cases e : i = pos
                · subst e; rw [HX.out]; exact ⟨hd1, hd2⟩
                · exact HD.out i (by omega))⟩
            case measure => simp; omega
          · have HN := hid (num_not_digit HT.out hlt (by rw [hx]; exact hd))
            clear hx
            by_cases ha : t[pos].toNat < 128
            · have hnx : ∀ ty, (Instr.next (.pointer (some ⟨w.heap.size, 0, none⟩)) true ty).run Try.prog (w.iter t pos) = _ := fun ty => run_next_ascii w t pos ty hlt ha
              rcases (show t[pos].toNat < 48 ∨ 57 < t[pos].toNat by omega) with hb | hb
              · have d1 : ((t[pos].toNat : Int) < 48) := by omega
                go_wp2
                go_ret3
                exact ⟨.inr ⟨HN.out, rfl⟩, bw_alloc (Below.refl _ _) _⟩
              · have d1 : ¬ ((t[pos].toNat : Int) < 48) := by omega
                have d2 : ((57 : Int) < (t[pos].toNat : Int)) := by omega
                go_wp2
                go_ret3
                exact ⟨.inr ⟨HN.out, rfl⟩, bw_alloc (Below.refl _ _) _⟩
            · have hnx : ∀ ty, (Instr.next (.pointer (some ⟨w.heap.size, 0, none⟩)) true ty).run Try.prog (w.iter t pos) = _ := fun ty => run_next_any w t pos ty hlt
              have hh := (decode_high t pos hlt (by omega)).1
              generalize (Utf8.decode t pos).1 = r at *
              have d1 : ¬ ((r : Int) < 48) := by omega
              have d2 : ((57 : Int) < (r : Int)) := by omega
              go_wp2
              go_ret3
              exact ⟨.inr ⟨HN.out, rfl⟩, bw_alloc (Below.refl _ _) _⟩
        · have hnx : ∀ ty, (Instr.next (.pointer (some ⟨w.heap.size, 0, none⟩)) true ty).run Try.prog (w.iter t pos) = _ := fun ty => run_next_end w t pos ty hlt
          have HA := hid (show AllD t from fun i hi => HD.out i (by omega))
          by_cases hz : t.size = 0
          · have he : t.toList.isEmpty = true := by rw [empty_iff, hz]; rfl
            have HN := hid (show ¬ Num s from fun h => by have := h.1; rw [HT.out] at this; omega)
            clear hz
            go_wp2
            go_ret3
            exact ⟨.inr ⟨HN.out, rfl⟩, bw_alloc (Below.refl _ _) _⟩
          · have he : t.toList.isEmpty = false := by rw [empty_iff, decide_eq_false hz]
            have hz0 : 0 < t.size := by omega
            have hb := bt_get hz0
            by_cases h48 : t[0].toNat = 48
            · have e48 : ((t[0].toNat : Int) == 48) = true := by rw [h48]; rfl
              rw [h48] at hb
              have HN := hid (show ¬ Num s from fun h => h.2.2 ⟨by rw [HT.out]; exact hb, .inl NG.out⟩)
              clear h48 hb
              go_wp2
              go_ret3
              exact ⟨.inr ⟨HN.out, rfl⟩, bw_alloc (Below.refl _ _) _⟩
            · have e48 : ((t[0].toNat : Int) == 48) = false := by rw [beq_eq_false_iff_ne]; omega
              have HN := hid (show Num s from ⟨by rw [HT.out]; exact hz0, by rw [HT.out]; exact HA.out, fun h => by rw [HT.out, hb] at h; exact h48 h.1⟩)
              clear h48 hb
              go_wp2
              go_ret3
              exact ⟨.inl ⟨HN.out, by rw [NG.out, HT.out]; rfl⟩, bw_alloc (Below.refl _ _) _⟩
    · have hng : ngB s = false := by unfold ngB; rw [bt_get h0, beq_eq_false_iff_ne]; exact h45
      have e1 : ((s[0].toNat : Int) == 45) = false := by rw [beq_eq_false_iff_ne]; omega
      have ht2 : t = s := by rw [← ht]; unfold dsB; rw [if_neg (by rw [hng]; decide)]
      have NG := hid hng
      subst ht2
      clear h45 ht hng
      go_enter Try.func94, Try.ntmps94
      go_wp2
      clear e1
      go_loopw [2, 3, 4, 6] (fun v2 v3 v4 r wr => ∃ pos : Nat, v2 = .bool false ∧ v3 = .string t ∧ v4 = .bool false ∧ wr = w.iter t pos ∧ pos ≤ t.size ∧ Hid (∀ i, i < pos → 48 ≤ bt t i ∧ bt t i ≤ 57)) (fun _ _ _ _ wr => t.size - wr.iterPos w.heap.size)
      case atStart => exact ⟨0, rfl, rfl, rfl, rfl, Nat.zero_le _, hid (fun i hi => by omega)⟩
      case round =>
        obtain ⟨pos, rfl, rfl, rfl, rfl, hp, HD⟩ := hrel
        by_cases hlt : pos < t.size
        · have hx := bt_get hlt
          have HX := hid hx
          by_cases hd : 48 ≤ t[pos].toNat ∧ t[pos].toNat ≤ 57
          · have hnx : ∀ ty, (Instr.next (.pointer (some ⟨w.heap.size, 0, none⟩)) true ty).run Try.prog (w.iter t pos) = _ := fun ty => run_next_ascii w t pos ty hlt (by omega)
            obtain ⟨hd1, hd2⟩ := hd
            clear hx
            have d1 : ((48 : Int) ≤ (t[pos].toNat : Int)) := by omega
            have d2 : ((t[pos].toNat : Int) ≤ 57) := by omega
            go_wp2
            go_roundw
            case rel =>
              exact ⟨pos + 1, rfl, rfl, rfl, rfl, hlt, hid (fun i hi => by
                by_cases e : i = pos
                · subst e; rw [HX.out]; exact ⟨hd1, hd2⟩
                · exact HD.out i (by omega))⟩
            case measure => simp; omega
          · have HN := hid (num_not_digit HT.out hlt (by rw [hx]; exact hd))
            clear hx
            by_cases ha : t[pos].toNat < 128
            · have hnx : ∀ ty, (Instr.next (.pointer (some ⟨w.heap.size, 0, none⟩)) true ty).run Try.prog (w.iter t pos) = _ := fun ty => run_next_ascii w t pos ty hlt ha
              rcases (show t[pos].toNat < 48 ∨ 57 < t[pos].toNat by omega) with hb | hb
              · have d1 : ((t[pos].toNat : Int) < 48) := by omega
                go_wp2
                go_ret3
                exact ⟨.inr ⟨HN.out, rfl⟩, bw_alloc (Below.refl _ _) _⟩
              · have d1 : ¬ ((t[pos].toNat : Int) < 48) := by omega
                have d2 : ((57 : Int) < (t[pos].toNat : Int)) := by omega
                go_wp2
                go_ret3
                exact ⟨.inr ⟨HN.out, rfl⟩, bw_alloc (Below.refl _ _) _⟩
            · have hnx : ∀ ty, (Instr.next (.pointer (some ⟨w.heap.size, 0, none⟩)) true ty).run Try.prog (w.iter t pos) = _ := fun ty => run_next_any w t pos ty hlt
              have hh := (decode_high t pos hlt (by omega)).1
              generalize (Utf8.decode t pos).1 = r at *
              have d1 : ¬ ((r : Int) < 48) := by omega
              have d2 : ((57 : Int) < (r : Int)) := by omega
              go_wp2
              go_ret3
              exact ⟨.inr ⟨HN.out, rfl⟩, bw_alloc (Below.refl _ _) _⟩
        · have hnx : ∀ ty, (Instr.next (.pointer (some ⟨w.heap.size, 0, none⟩)) true ty).run Try.prog (w.iter t pos) = _ := fun ty => run_next_end w t pos ty hlt
          have HA := hid (show AllD t from fun i hi => HD.out i (by omega))
          by_cases hz : t.size = 0
          · have he : t.toList.isEmpty = true := by rw [empty_iff, hz]; rfl
            have HN := hid (show ¬ Num t from fun h => by have := h.1; rw [HT.out] at this; omega)
            clear hz
            go_wp2
            go_ret3
            exact ⟨.inr ⟨HN.out, rfl⟩, bw_alloc (Below.refl _ _) _⟩
          · have he : t.toList.isEmpty = false := by rw [empty_iff, decide_eq_false hz]
            have hz0 : 0 < t.size := by omega
            have hb := bt_get hz0
            by_cases h48 : t[0].toNat = 48
            · have e48 : ((t[0].toNat : Int) == 48) = true := by rw [h48]; rfl
              rw [h48] at hb
              by_cases h1 : 1 < t.size
              · have HN := hid (show ¬ Num t from fun h => h.2.2 ⟨by rw [HT.out]; exact hb, .inr (by rw [HT.out]; exact h1)⟩)
                have d5 : decide ((1 : Int) < (t.size : Int)) = true := by rw [decide_eq_true_eq]; omega
                clear h48 hb
                go_wp2
                go_ret3
                exact ⟨.inr ⟨HN.out, rfl⟩, bw_alloc (Below.refl _ _) _⟩
              · have HN := hid (show Num t from ⟨by rw [HT.out]; exact hz0, by rw [HT.out]; exact HA.out, fun h => by rw [HT.out] at h; rcases h.2 with h | h; (rw [NG.out] at h; cases h); exact h1 h⟩)
                have d5 : decide ((1 : Int) < (t.size : Int)) = false := by rw [decide_eq_false_iff_not]; omega
                clear h48 hb
                go_wp2
                go_ret3
                exact ⟨.inl ⟨HN.out, by rw [NG.out, HT.out]; rfl⟩, bw_alloc (Below.refl _ _) _⟩
            · have e48 : ((t[0].toNat : Int) == 48) = false := by rw [beq_eq_false_iff_ne]; omega
              have HN := hid (show Num t from ⟨by rw [HT.out]; exact hz0, by rw [HT.out]; exact HA.out, fun h => by rw [HT.out, hb] at h; exact h48 h.1⟩)
              clear h48 hb
              go_wp2
              go_ret3
              exact ⟨.inl ⟨HN.out, by rw [NG.out, HT.out]; rfl⟩, bw_alloc (Below.refl _ _) _⟩
  · have hng : ngB s = false := by unfold ngB; rw [bt_out h0]; rfl
    have ht2 : t = s := by rw [← ht]; unfold dsB; rw [if_neg (by rw [hng]; decide)]
    have NG := hid hng
    subst ht2
    clear ht hng
    have hd0 : ¬ ((0 : Int) < (t.size : Int)) := by omega
    go_enter Try.func94, Try.ntmps94
    go_wp2
    have hz : t.size = 0 := by omega
    go_loopw [2, 3, 4, 6] (fun v2 v3 v4 r wr => v2 = .bool false ∧ v3 = .string t ∧ v4 = .bool false ∧ wr = w.iter t 0) (fun _ _ _ _ wr => t.size - wr.iterPos w.heap.size)
    case atStart => exact ⟨rfl, rfl, rfl, rfl⟩
    case round =>
      obtain ⟨rfl, rfl, rfl, rfl⟩ := hrel
      have hlt : ¬ 0 < t.size := by omega
      have hnx : ∀ ty, (Instr.next (.pointer (some ⟨w.heap.size, 0, none⟩)) true ty).run Try.prog (w.iter t 0) = _ := fun ty => run_next_end w t 0 ty hlt
      have he : t.toList.isEmpty = true := by rw [empty_iff, hz]; rfl
      have HN := hid (show ¬ Num t from fun h => by have := h.1; rw [HT.out] at this; omega)
      clear hz
      go_wp2
      go_ret3
      exact ⟨.inr ⟨HN.out, rfl⟩, bw_alloc (Below.refl _ _) _⟩
end Go.Proofs.Ytijmjkkjopplbaa

