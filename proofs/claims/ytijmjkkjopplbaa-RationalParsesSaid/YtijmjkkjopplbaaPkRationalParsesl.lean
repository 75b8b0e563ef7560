/- A part of the proof of the laws of rationals: RNum. -/
import Derived.Test.YtijmjkkjopplbaaPac
import Derived.Test.YtijmjkkjopplbaaPkRationalParsesa
import Derived.Test.YtijmjkkjopplbaaPab
import Derived.Test.YtijmjkkjopplbaaPag
import Derived.Test.YtijmjkkjopplbaaPaa
namespace Go.Proofs.Ytijmjkkjopplbaa
open Go.RowKit
set_option linter.unusedVariables false
set_option maxRecDepth 100000

set_option maxHeartbeats 4000000 in
theorem rlong_any (w : World) (s : ByteArray) (hs : s.size ≤ 9223372036854775807) :
    Calls Try.prog 69 #[.string s] w fun e w' => e = .returned (.bool (decide (2000 < (dsB s).size))) ∧ w' = w := by
  by_cases h0 : 2000 < s.size
  · have hz : 0 < s.size := by omega
    have hb := bt_get hz
    by_cases h45 : s[0].toNat = 45
    · have e1 : ((s[0].toNat : Int) != 45) = false := by rw [h45]; rfl
      have hds : (dsB s).size = s.size - 1 := by unfold dsB; rw [if_pos (show ngB s = true by unfold ngB; rw [hb, h45]; rfl)]; simp
      have e2 : decide (2000 < (dsB s).size) = decide ((2001 : Int) < (s.size : Int)) := by rw [hds]; exact decide_eq_decide.2 (by omega)
      rw [e2]
      clear e2 hds hb h45
      go_enter Try.func69, Try.ntmps69
      go_wp2
      go_ret
      exact ⟨rfl, rfl⟩
    · have e1 : ((s[0].toNat : Int) != 45) = true := by rw [bne_iff_ne]; omega
      have hds : dsB s = s := by unfold dsB; rw [if_neg (show ¬ ngB s = true by unfold ngB; rw [hb, beq_iff_eq]; omega)]
      rw [hds, decide_eq_true h0]
      clear hds hb h45
      go_enter Try.func69, Try.ntmps69
      go_wp2
      go_ret
      exact ⟨rfl, rfl⟩
  · have hl : (dsB s).size ≤ s.size := by
      unfold dsB; split
      · simp
      · exact Nat.le_refl _
    rw [decide_eq_false (by omega)]
    have hd0 : decide ((2000 : Int) < (s.size : Int)) = false := by rw [decide_eq_false_iff_not]; omega
    clear hl
    go_enter Try.func69, Try.ntmps69
    go_wp2
    go_ret
    exact ⟨rfl, rfl⟩
/-- What IsNumber answers. -/
def IsN (s : ByteArray) (e : Ending) : Prop := (Num s ∧ e = .returned (.bool true)) ∨ (¬ Num s ∧ e = .returned (.bool false))
theorem str_ne {s : ByteArray} {h : 0 < s.size} (hb : bt s 0 = (s[0]'h).toNat) (hn : (s[0]'h).toNat ≠ 48) : (s.toList == [48]) = false := by
  rw [beq_eq_false_iff_ne]
  intro e
  have h1 : s = ⟨[48].toArray⟩ := by
    apply ByteArray.ext; apply Array.ext'; rw [← Lib.toList_data, e]
  subst h1
  exact hn rfl
theorem str_long {s : ByteArray} (h : 1 < s.size) : (s.toList == [48]) = false := by
  rw [beq_eq_false_iff_ne]
  intro e
  rw [Lib.size_eq, ← Lib.toList_data, e] at h
  exact absurd h (by decide)
theorem str_one {s : ByteArray} (hb : bt s 0 = 48) (h : s.size = 1) : (s.toList == [48]) = true := by
  rw [beq_iff_eq, Lib.toList_data]
  obtain ⟨⟨l⟩⟩ := s
  have h' : l.length = 1 := h
  match l, h' with
  | [x], _ =>
    have : x.toNat = 48 := by rw [← hb]; rfl
    have : x = 48 := UInt8.toNat_inj.1 this
    rw [this]
set_option maxHeartbeats 4000000 in
theorem isnumber_any (w : World) (s : ByteArray) (hs : s.size ≤ 9223372036854775807) :
    Calls Try.prog 68 #[.string s] w fun e w' => IsN s e ∧ w' = w := by
  obtain ⟨t, ht⟩ : ∃ t, dsB s = t := ⟨_, rfl⟩
  have HT := hid ht
  have hts : t.size ≤ s.size := by
    rw [← ht]; unfold dsB; split
    · simp
    · exact Nat.le_refl _
  by_cases h0 : 0 < s.size
  · by_cases h45 : s[0].toNat = 45
    · have hng : ngB s = true := by unfold ngB; rw [bt_get h0, h45]; rfl
      have e1 : ((s[0].toNat : Int) == 45) = true := by rw [h45]; rfl
      have ht2 : s.extract 1 s.size = t := by rw [← ht]; unfold dsB; rw [if_pos hng]
      have NG := hid hng
      clear ht hng
      by_cases hz : t.size = 0
      · have hzz : ((t.size : Int) == 0) = true := by rw [hz]; rfl
        have HN := hid (show ¬ Num s from fun h => by have := h.1; rw [HT.out] at this; omega)
        clear hz
        go_enter Try.func68, Try.ntmps68
        go_wp2
        go_ret
        exact ⟨.inr ⟨HN.out, rfl⟩, rfl⟩
      · have hz0 : 0 < t.size := by omega
        have hzz : ((t.size : Int) == 0) = false := by rw [beq_eq_false_iff_ne]; omega
        have hb := bt_get hz0
        by_cases h48 : t[0].toNat = 48
        · have e48 : ((t[0].toNat : Int) == 48) = true := by rw [h48]; rfl
          rw [h48] at hb
          have HN := hid (show ¬ Num s from fun h => h.2.2 ⟨by rw [HT.out]; exact hb, .inl NG.out⟩)
          have hs0 : (s.toList == [48]) = false := str_ne (bt_get h0) (by omega)
          clear h48 hb hz
          go_enter Try.func68, Try.ntmps68
          go_wp2
          go_ret
          exact ⟨.inr ⟨HN.out, rfl⟩, rfl⟩
        · have e48 : ((t[0].toNat : Int) == 48) = false := by rw [beq_eq_false_iff_ne]; omega
          have Z := hid (show ¬ (bt t 0 = 48 ∧ (ngB s = true ∨ 1 < t.size)) from fun h => h48 (by rw [← hb]; exact h.1))
          clear h48 hb hz
          go_enter Try.func68, Try.ntmps68
          go_wp2
          go_loopw [2, 4] (fun b i wr => ∃ k : Nat, b = .bool false ∧ i = .int .i64 k ∧ k ≤ t.size ∧ Hid (∀ i, i < k → 48 ≤ bt t i ∧ bt t i ≤ 57) ∧ wr = w) (fun _ i _ => t.size - (intOf i).toNat)
          case atStart => exact ⟨0, rfl, rfl, Nat.zero_le _, hid (fun i hi => by omega), by first | rfl | trivial⟩
          case round =>
            obtain ⟨k, rfl, rfl, hk, HD, rfl⟩ := hrel
            by_cases hlt : k < t.size
            · have hx := bt_get hlt
              have HX := hid hx
              by_cases hd : 48 ≤ t[k].toNat ∧ t[k].toNat ≤ 57
              · obtain ⟨hd1, hd2⟩ := hd
                clear hx
                have d1 : ¬ ((t[k].toNat : Int) < 48) := by omega
                have d2 : ¬ ((57 : Int) < (t[k].toNat : Int)) := by omega
                go_wp2
                go_roundw
                case rel =>
                  exact ⟨k + 1, rfl, rfl, hlt, hid (fun i hi => by
                    by_cases e : i = k
                    · subst e; rw [HX.out]; exact ⟨hd1, hd2⟩
                    · exact HD.out i (by omega)), by first | rfl | trivial⟩
                case measure => first | omega | (simp [intOf]; omega)
              · have HN := hid (num_not_digit HT.out hlt (by rw [hx]; exact hd))
                clear hx
                rcases (show t[k].toNat < 48 ∨ 57 < t[k].toNat by omega) with hb | hb
                · have d1 : ((t[k].toNat : Int) < 48) := by omega
                  go_wp2
                  go_ret
                  exact ⟨.inr ⟨HN.out, rfl⟩, rfl⟩
                · have d1 : ¬ ((t[k].toNat : Int) < 48) := by omega
                  have d2 : ((57 : Int) < (t[k].toNat : Int)) := by omega
                  go_wp2
                  go_ret
                  exact ⟨.inr ⟨HN.out, rfl⟩, rfl⟩
            · have HA := hid (show AllD t from fun i hi => HD.out i (by omega))
              go_wp2
              go_ret
              exact ⟨.inl ⟨⟨by rw [HT.out]; exact hz0, by rw [HT.out]; exact HA.out, by rw [HT.out]; exact Z.out⟩, rfl⟩, rfl⟩
    · have hng : ngB s = false := by unfold ngB; rw [bt_get h0, beq_eq_false_iff_ne]; exact h45
      have e1 : ((s[0].toNat : Int) == 45) = false := by rw [beq_eq_false_iff_ne]; omega
      have ht2 : t = s := by rw [← ht]; unfold dsB; rw [if_neg (by rw [hng]; decide)]
      have NG := hid hng
      subst ht2
      clear h45 ht hng
      by_cases hz : t.size = 0
      · have hzz : ((t.size : Int) == 0) = true := by rw [hz]; rfl
        have HN := hid (show ¬ Num t from fun h => by have := h.1; rw [HT.out] at this; omega)
        clear hz
        go_enter Try.func68, Try.ntmps68
        go_wp2
        go_ret
        exact ⟨.inr ⟨HN.out, rfl⟩, rfl⟩
      · have hz0 : 0 < t.size := by omega
        have hzz : ((t.size : Int) == 0) = false := by rw [beq_eq_false_iff_ne]; omega
        have hb := bt_get hz0
        by_cases h48 : t[0].toNat = 48
        · have e48 : ((t[0].toNat : Int) == 48) = true := by rw [h48]; rfl
          rw [h48] at hb
          by_cases h1 : 1 < t.size
          · have HN := hid (show ¬ Num t from fun h => h.2.2 ⟨by rw [HT.out]; exact hb, .inr (by rw [HT.out]; exact h1)⟩)
            have hs0 : (t.toList == [48]) = false := str_long h1
            clear h48 hb hz
            go_enter Try.func68, Try.ntmps68
            go_wp2
            go_ret
            exact ⟨.inr ⟨HN.out, rfl⟩, rfl⟩
          · have hs0 : (t.toList == [48]) = true := str_one hb (by omega)
            have Z := hid (show ¬ (bt t 0 = 48 ∧ (ngB t = true ∨ 1 < t.size)) from fun h => by rcases h.2 with h | h; (rw [NG.out] at h; cases h); exact h1 h)
            clear h48 hb hz
            go_enter Try.func68, Try.ntmps68
            go_wp2
            go_loopw [2, 4] (fun b i wr => ∃ k : Nat, b = .bool false ∧ i = .int .i64 k ∧ k ≤ t.size ∧ Hid (∀ i, i < k → 48 ≤ bt t i ∧ bt t i ≤ 57) ∧ wr = w) (fun _ i _ => t.size - (intOf i).toNat)
            case atStart => exact ⟨0, rfl, rfl, Nat.zero_le _, hid (fun i hi => by omega), by first | rfl | trivial⟩
            case round =>
              obtain ⟨k, rfl, rfl, hk, HD, rfl⟩ := hrel
              by_cases hlt : k < t.size
              · have hx := bt_get hlt
                have HX := hid hx
                by_cases hd : 48 ≤ t[k].toNat ∧ t[k].toNat ≤ 57
                · obtain ⟨hd1, hd2⟩ := hd
                  clear hx
                  have d1 : ¬ ((t[k].toNat : Int) < 48) := by omega
                  have d2 : ¬ ((57 : Int) < (t[k].toNat : Int)) := by omega
                  go_wp2
                  go_roundw
                  case rel =>
                    exact ⟨k + 1, rfl, rfl, hlt, hid (fun i hi => by
                      by_cases e : i = k
                      · subst e; rw [HX.out]; exact ⟨hd1, hd2⟩
                      · exact HD.out i (by omega)), by first | rfl | trivial⟩
                  case measure => first | omega | (simp [intOf]; omega)
                · have HN := hid (num_not_digit HT.out hlt (by rw [hx]; exact hd))
                  clear hx
                  rcases (show t[k].toNat < 48 ∨ 57 < t[k].toNat by omega) with hb | hb
                  · have d1 : ((t[k].toNat : Int) < 48) := by omega
                    go_wp2
                    go_ret
                    exact ⟨.inr ⟨HN.out, rfl⟩, rfl⟩
                  · have d1 : ¬ ((t[k].toNat : Int) < 48) := by omega
                    have d2 : ((57 : Int) < (t[k].toNat : Int)) := by omega
                    go_wp2
                    go_ret
                    exact ⟨.inr ⟨HN.out, rfl⟩, rfl⟩
              · have HA := hid (show AllD t from fun i hi => HD.out i (by omega))
                go_wp2
                go_ret
                exact ⟨.inl ⟨⟨by rw [HT.out]; exact hz0, by rw [HT.out]; exact HA.out, by rw [HT.out]; exact Z.out⟩, rfl⟩, rfl⟩
        · have e48 : ((t[0].toNat : Int) == 48) = false := by rw [beq_eq_false_iff_ne]; omega
          have Z := hid (show ¬ (bt t 0 = 48 ∧ (ngB t = true ∨ 1 < t.size)) from fun h => h48 (by rw [← hb]; exact h.1))
          clear h48 hb hz
          go_enter Try.func68, Try.ntmps68
          go_wp2
          go_loopw [2, 4] (fun b i wr => ∃ k : Nat, b = .bool false ∧ i = .int .i64 k ∧ k ≤ t.size ∧ Hid (∀ i, i < k → 48 ≤ bt t i ∧ bt t i ≤ 57) ∧ wr = w) (fun _ i _ => t.size - (intOf i).toNat)
          case atStart => exact ⟨0, rfl, rfl, Nat.zero_le _, hid (fun i hi => by omega), by first | rfl | trivial⟩
          case round =>
            obtain ⟨k, rfl, rfl, hk, HD, rfl⟩ := hrel
            by_cases hlt : k < t.size
            · have hx := bt_get hlt
              have HX := hid hx
              by_cases hd : 48 ≤ t[k].toNat ∧ t[k].toNat ≤ 57
              · obtain ⟨hd1, hd2⟩ := hd
                clear hx
                have d1 : ¬ ((t[k].toNat : Int) < 48) := by omega
                have d2 : ¬ ((57 : Int) < (t[k].toNat : Int)) := by omega
                go_wp2
                go_roundw
                case rel =>
                  exact ⟨k + 1, rfl, rfl, hlt, hid (fun i hi => by
                    by_cases e : i = k
                    · subst e; rw [HX.out]; exact ⟨hd1, hd2⟩
                    · exact HD.out i (by omega)), by first | rfl | trivial⟩
                case measure => first | omega | (simp [intOf]; omega)
              · have HN := hid (num_not_digit HT.out hlt (by rw [hx]; exact hd))
                clear hx
                rcases (show t[k].toNat < 48 ∨ 57 < t[k].toNat by omega) with hb | hb
                · have d1 : ((t[k].toNat : Int) < 48) := by omega
                  go_wp2
                  go_ret
                  exact ⟨.inr ⟨HN.out, rfl⟩, rfl⟩
                · have d1 : ¬ ((t[k].toNat : Int) < 48) := by omega
                  have d2 : ((57 : Int) < (t[k].toNat : Int)) := by omega
                  go_wp2
                  go_ret
                  exact ⟨.inr ⟨HN.out, rfl⟩, rfl⟩
            · have HA := hid (show AllD t from fun i hi => HD.out i (by omega))
              go_wp2
              go_ret
              exact ⟨.inl ⟨⟨by rw [HT.out]; exact hz0, by rw [HT.out]; exact HA.out, by rw [HT.out]; exact Z.out⟩, rfl⟩, rfl⟩
  · have hng : ngB s = false := by unfold ngB; rw [bt_out h0]; rfl
    have ht2 : t = s := by rw [← ht]; unfold dsB; rw [if_neg (by rw [hng]; decide)]
    have NG := hid hng
    subst ht2
    clear ht hng
    have hz : t.size = 0 := by omega
    have hzz : ((t.size : Int) == 0) = true := by rw [hz]; rfl
    have HN := hid (show ¬ Num t from fun h => by have := h.1; rw [HT.out] at this; omega)
    have hd0 : ¬ ((0 : Int) < (t.size : Int)) := by omega
    clear hz
    go_enter Try.func68, Try.ntmps68
    go_wp2
    go_ret
    exact ⟨.inr ⟨HN.out, rfl⟩, rfl⟩
theorem isnumber_b (w : World) (s : ByteArray) (hs : s.size ≤ 9223372036854775807) :
    Calls Try.prog 68 #[.string s] w fun e w' => IsN s e ∧ Below w.heap.size w w' :=
  (isnumber_any w s hs).mono fun e w' ⟨h, h2⟩ => ⟨h, h2 ▸ Below.refl _ _⟩
theorem rlong_b (w : World) (s : ByteArray) (hs : s.size ≤ 9223372036854775807) :
    Calls Try.prog 69 #[.string s] w fun e w' => e = .returned (.bool (decide (2000 < (dsB s).size))) ∧ Below w.heap.size w w' :=
  (rlong_any w s hs).mono fun e w' ⟨h, h2⟩ => ⟨h, h2 ▸ Below.refl _ _⟩
end Go.Proofs.Ytijmjkkjopplbaa

