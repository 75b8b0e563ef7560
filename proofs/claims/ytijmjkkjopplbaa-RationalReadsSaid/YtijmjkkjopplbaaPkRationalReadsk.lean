/- A part of the proof of the laws of rationals: DigText, RFmtPure, RNum. -/
import Derived.Test.YtijmjkkjopplbaaPac
import Derived.Test.YtijmjkkjopplbaaPkRationalReadsa
import Derived.Test.YtijmjkkjopplbaaPab
import Derived.Test.YtijmjkkjopplbaaPag
import Derived.Test.YtijmjkkjopplbaaPaa
namespace Go.Proofs.Ytijmjkkjopplbaa
set_option linter.unusedVariables false
set_option maxRecDepth 100000

theorem digs_of_rev : ∀ r : List UInt8, (∀ x ∈ r, 48 ≤ x.toNat ∧ x.toNat ≤ 57) → r ≠ [] → ((r.reverse[0]?).getD 0).toNat ≠ 48 →
    digs (dv ⟨r.reverse.toArray⟩ r.length).toNat = r ∧ 0 < dv ⟨r.reverse.toArray⟩ r.length
  | [], _, h, _ => absurd rfl h
  | [x], ha, _, hh => by
    have hx := ha x (by simp)
    have h1 : (x.toNat : Int) - 48 = dv ⟨[x].reverse.toArray⟩ [x].length := by
      rw [List.length_singleton, dv, dv, bt_list]; simp
    have h2 : x.toNat ≠ 48 := by simpa using hh
    rw [← h1]
    refine ⟨?_, by omega⟩
    rw [show ((x.toNat : Int) - 48).toNat = x.toNat - 48 by omega, digs_pos (by omega), show (x.toNat - 48) / 10 = 0 by omega, digs_zero, show (x.toNat - 48) % 10 = x.toNat - 48 by omega]
    refine congrArg (fun y => [y]) (UInt8.toNat_inj.1 ?_)
    rw [dg_toNat (by omega)]; omega
  | x :: y :: r, ha, _, hh => by
    have hx := ha x (by simp)
    have hl : 0 < (y :: r).reverse.length := by simp
    rw [List.reverse_cons, List.getElem?_append_left hl] at hh
    obtain ⟨h1, h2⟩ := digs_of_rev (y :: r) (fun z hz => ha z (List.mem_cons_of_mem _ hz)) (by simp) hh
    have h3 := dv_snoc (y :: r).reverse x
    rw [List.length_reverse] at h3
    rw [List.reverse_cons, List.length_cons, h3]
    generalize dv ⟨(y :: r).reverse.toArray⟩ (y :: r).length = D at *
    refine ⟨?_, by omega⟩
    rw [show (10 * D + ((x.toNat : Int) - 48)).toNat = 10 * D.toNat + (x.toNat - 48) by omega, digs_pos (by omega), show (10 * D.toNat + (x.toNat - 48)) / 10 = D.toNat by omega, h1, show (10 * D.toNat + (x.toNat - 48)) % 10 = x.toNat - 48 by omega]
    refine congrArg (fun z => z :: y :: r) (UInt8.toNat_inj.1 ?_)
    rw [dg_toNat (by omega)]; omega
theorem digs_of {l : List UInt8} (ha : ∀ x ∈ l, 48 ≤ x.toNat ∧ x.toNat ≤ 57) (hn : l ≠ []) (hh : ((l[0]?).getD 0).toNat ≠ 48) :
    (digs (dv ⟨l.toArray⟩ l.length).toNat).reverse = l ∧ 0 < dv ⟨l.toArray⟩ l.length := by
  have h := digs_of_rev l.reverse (fun x hx => ha x (List.mem_reverse.1 hx)) (by simpa using hn) (by rw [List.reverse_reverse]; exact hh)
  rw [List.reverse_reverse, List.length_reverse] at h
  exact ⟨by rw [h.1, List.reverse_reverse], h.2⟩
/-- A number's text, read and written again. -/
theorem text_of {l : List UInt8} (ha : ∀ x ∈ l, 48 ≤ x.toNat ∧ x.toNat ≤ 57) (hn : l ≠ []) (hh : ((l[0]?).getD 0).toNat ≠ 48) (neg : Bool) :
    text (sg neg (dv ⟨l.toArray⟩ l.length)) = (if neg then [45] else []) ++ l := by
  obtain ⟨h1, h2⟩ := digs_of ha hn hh
  generalize dv ⟨l.toArray⟩ l.length = D at *
  cases neg with
  | false =>
    rw [sg_false]
    unfold text
    rw [if_neg (by omega), if_neg (by omega), show D.natAbs = D.toNat by omega, h1]; rfl
  | true =>
    rw [sg_true]
    unfold text
    rw [if_neg (by omega), if_pos (by omega), show (-D).natAbs = D.toNat by omega, h1]; rfl
end Go.Proofs.Ytijmjkkjopplbaa

namespace Go.Proofs.Ytijmjkkjopplbaa
set_option linter.unusedVariables false
set_option maxRecDepth 100000
/-- The number that a list of digits denotes. -/
def lv (l : List UInt8) : Int := dv ⟨l.toArray⟩ l.length
theorem lv_nil : lv [] = 0 := rfl
theorem lv_snoc (l : List UInt8) (x : UInt8) : lv (l ++ [x]) = 10 * lv l + ((x.toNat : Int) - 48) := by
  have h := dv_snoc l x
  unfold lv
  rw [List.length_append, List.length_singleton, h]
theorem lv_append (l : List UInt8) : ∀ p : List UInt8, lv (p ++ l) = lv p * 10 ^ l.length + lv l := by
  induction l with
  | nil => intro p; rw [List.append_nil, lv_nil, List.length_nil, Int.pow_zero]; omega
  | cons y l ih =>
    intro p
    have h1 := ih (p ++ [y])
    have h2 := ih [y]
    have h3 := lv_snoc [] y
    rw [List.nil_append, lv_nil] at h3
    rw [List.append_assoc, List.singleton_append] at h1
    rw [List.singleton_append] at h2
    rw [h1, h2, lv_snoc, h3, List.length_cons, Int.pow_succ]
    generalize (10 : Int) ^ l.length = P
    grind
theorem lv_cons (x : UInt8) (l : List UInt8) : lv (x :: l) = ((x.toNat : Int) - 48) * 10 ^ l.length + lv l := by
  have h := lv_append l [x]
  have h3 := lv_snoc [] x
  rw [List.nil_append, lv_nil] at h3
  rw [List.singleton_append] at h
  rw [h, h3]; grind
theorem lv_zero {x : UInt8} (h : x.toNat = 48) (l : List UInt8) : lv (x :: l) = lv l := by
  rw [lv_cons, h]; grind
/-- One digit more. -/
theorem fmt_step {q n N0 : Int} {i : Nat} {l : List UInt8} (hi : i < 9) (h : (q * 10 ^ (9 - i) + n) * 10 ^ l.length + lv l = N0) (h0 : 0 ≤ n) (h1 : n < 10 ^ (9 - i)) {y : UInt8} (hy : (y.toNat : Int) = 48 + n % 10) :
    (q * 10 ^ (9 - (i + 1)) + n / 10) * 10 ^ (y :: l).length + lv (y :: l) = N0 ∧ n / 10 < 10 ^ (9 - (i + 1)) := by
  rw [lv_cons, List.length_cons, ← h]
  obtain ⟨P, hP⟩ : ∃ P, (10 : Int) ^ (9 - (i + 1)) = P := ⟨_, rfl⟩
  have hP2 : (10 : Int) ^ (9 - i) = P * 10 := by rw [show 9 - i = (9 - (i + 1)) + 1 by omega, Int.pow_succ, hP]
  rw [hP, hP2, Int.pow_succ]
  rw [hP2] at h1
  have h2 := Int.emod_add_mul_ediv n 10
  have h3 := Int.emod_nonneg n (show (10 : Int) ≠ 0 by decide)
  refine ⟨?_, by omega⟩
  rw [hy, show 48 + n % 10 - 48 = n % 10 by omega]
  clear h h0 h1 h3 hy hi hP hP2
  generalize n / 10 = d at *
  generalize n % 10 = r at *
  generalize lv l = V
  generalize (10 : Int) ^ l.length = R
  subst h2
  simp only [Int.add_mul, Int.mul_assoc, Int.add_assoc, Int.mul_comm R 10, Int.mul_left_comm d 10]
  omega
theorem lv_nonneg {l : List UInt8} (h : ∀ x ∈ l, 48 ≤ x.toNat ∧ x.toNat ≤ 57) : 0 ≤ lv l := by
  induction l with
  | nil => exact Int.le_refl _
  | cons x l ih =>
    rw [lv_cons]
    have h1 := ih (fun y hy => h y (List.mem_cons_of_mem _ hy))
    have h2 := h x (by simp)
    have h3 : 0 ≤ ((x.toNat : Int) - 48) * 10 ^ l.length := Int.mul_nonneg (by omega) (Int.le_of_lt (Int.pow_pos (by decide)))
    omega
/-- How long the text is. -/
theorem fmt_len {x N0 : Int} {l : List UInt8} {K : Nat} (hx : 1 ≤ x) (h : x * 10 ^ l.length + lv l = N0) (hl : ∀ x ∈ l, 48 ≤ x.toNat ∧ x.toNat ≤ 57) (hN : N0 < 10 ^ K) : l.length < K := by
  rcases Nat.lt_or_ge l.length K with h1 | h1
  · exact h1
  · exfalso
    have h2 : (10 : Int) ^ K ≤ 10 ^ l.length := by
      obtain ⟨d, hd⟩ := Nat.le.dest h1
      rw [← hd, Int.pow_add]
      have := Int.mul_le_mul_of_nonneg_left (show (1 : Int) ≤ 10 ^ d from Int.pow_pos (by decide)) (Int.le_of_lt (Int.pow_pos (n := 10) (m := K) (by decide)))
      omega
    have h3 := lv_nonneg hl
    have h4 := Int.mul_le_mul_of_nonneg_right hx (Int.le_of_lt (Int.pow_pos (n := 10) (m := l.length) (by decide)))
    omega
theorem text_end {l : List UInt8} {z : Int} (hl : ∀ x ∈ l, 48 ≤ x.toNat ∧ x.toNat ≤ 57) (hn : l ≠ []) (hh : ((l[0]?).getD 0).toNat ≠ 48) (h : lv l = (z.natAbs : Int)) (neg : Bool) (hz : neg = decide (z < 0)) :
    text z = (if neg then [45] else []) ++ l := by
  have h1 := text_of hl hn hh neg
  unfold lv at h
  rw [h] at h1
  rw [← h1]
  subst hz
  congr 1
  by_cases hz : z < 0
  · rw [decide_eq_true hz, sg_true]; omega
  · rw [decide_eq_false hz, sg_false]; omega
theorem dash_cat (l : List UInt8) : (⟨#[45]⟩ : ByteArray) ++ ⟨l.toArray⟩ = ⟨(45 :: l).toArray⟩ := by
  apply ByteArray.ext
  apply Array.ext'
  simp
theorem byte_cat (y : UInt8) (l : List UInt8) : (⟨#[y]⟩ : ByteArray) ++ ⟨l.toArray⟩ = ⟨(y :: l).toArray⟩ := by
  apply ByteArray.ext
  apply Array.ext'
  simp
end Go.Proofs.Ytijmjkkjopplbaa

namespace Go.Proofs.Ytijmjkkjopplbaa
open Go.RowKit
set_option linter.unusedVariables false
set_option maxRecDepth 100000

set_option maxHeartbeats 4000000 in
theorem rlong_any (w : World) (s : ByteArray) (hs : s.size ≤ 9223372036854775807) :
    Calls Try.prog 69 #[.string s] w fun e w' => e = .returned (.bool (decide (2000 < (dsB s).size))) ∧ w' = w := by
  by_cases h0 : 2000 < s.size
  · have hz : 0 < s.size := by omega
    have hb := bt_get hz
    by_cases h45 : s[0].toNat = 45
    · have e1 : ((s[0].toNat : Int) != 45) = false := by rw [h45]; rfl
      have hds : (dsB s).size = s.size - 1 := by unfold dsB; rw [if_pos (show ngB s = true by unfold ngB; rw [hb, h45]; rfl)]; simp
      have e2 : decide (2000 < (dsB s).size) = decide ((2001 : Int) < (s.size : Int)) := by rw [hds]; exact decide_eq_decide.2 (by omega)
      rw [e2]
      clear e2 hds hb h45
      go_enter Try.func69, Try.ntmps69
      go_wp2
      go_ret
      exact ⟨rfl, rfl⟩
    · have e1 : ((s[0].toNat : Int) != 45) = true := by rw [bne_iff_ne]; omega
      have hds : dsB s = s := by unfold dsB; rw [if_neg (show ¬ ngB s = true by unfold ngB; rw [hb, beq_iff_eq]; omega)]
      rw [hds, decide_eq_true h0]
      clear hds hb h45
      go_enter Try.func69, Try.ntmps69
      go_wp2
      go_ret
      exact ⟨rfl, rfl⟩
  · have hl : (dsB s).size ≤ s.size := by
      unfold dsB; split
      · simp
      · exact Nat.le_refl _
    rw [decide_eq_false (by omega)]
    have hd0 : decide ((2000 : Int) < (s.size : Int)) = false := by rw [decide_eq_false_iff_not]; omega
    clear hl
    go_enter Try.func69, Try.ntmps69
    go_wp2
    go_ret
    exact ⟨rfl, rfl⟩
/-- What IsNumber answers. -/
def IsN (s : ByteArray) (e : Ending) : Prop := (Num s ∧ e = .returned (.bool true)) ∨ (¬ Num s ∧ e = .returned (.bool false))
theorem str_ne {s : ByteArray} {h : 0 < s.size} (hb : bt s 0 = (s[0]'h).toNat) (hn : (s[0]'h).toNat ≠ 48) : (s.toList == [48]) = false := by
  rw [beq_eq_false_iff_ne]
  intro e
  have h1 : s = ⟨[48].toArray⟩ := by
    apply ByteArray.ext; apply Array.ext'; rw [← Lib.toList_data, e]
  subst h1
  exact hn rfl
theorem str_long {s : ByteArray} (h : 1 < s.size) : (s.toList == [48]) = false := by
  rw [beq_eq_false_iff_ne]
  intro e
  rw [Lib.size_eq, ← Lib.toList_data, e] at h
  exact absurd h (by decide)
theorem str_one {s : ByteArray} (hb : bt s 0 = 48) (h : s.size = 1) : (s.toList == [48]) = true := by
  rw [beq_iff_eq, Lib.toList_data]
  obtain ⟨⟨l⟩⟩ := s
  have h' : l.length = 1 := h
  match l, h' with
  | [x], _ =>
    have : x.toNat = 48 := by rw [← hb]; rfl
    have : x = 48 := UInt8.toNat_inj.1 this
    rw [this]
set_option maxHeartbeats 4000000 in
theorem isnumber_any (w : World) (s : ByteArray) (hs : s.size ≤ 9223372036854775807) :
    Calls Try.prog 68 #[.string s] w fun e w' => IsN s e ∧ w' = w := by
  obtain ⟨t, ht⟩ : ∃ t, dsB s = t := ⟨_, rfl⟩
  have HT := hid ht
  have hts : t.size ≤ s.size := by
    rw [← ht]; unfold dsB; split
    · simp
    · exact Nat.le_refl _
  by_cases h0 : 0 < s.size
  · by_cases h45 : s[0].toNat = 45
    · have hng : ngB s = true := by unfold ngB; rw [bt_get h0, h45]; rfl
      have e1 : ((s[0].toNat : Int) == 45) = true := by rw [h45]; rfl
      have ht2 : s.extract 1 s.size = t := by rw [← ht]; unfold dsB; rw [if_pos hng]
      have NG := hid hng
      clear ht hng
      by_cases hz : t.size = 0
      · have hzz : ((t.size : Int) == 0) = true := by rw [hz]; rfl
        have HN := hid (show ¬ Num s from fun h => by have := h.1; rw [HT.out] at this; omega)
        clear hz
        go_enter Try.func68, Try.ntmps68
        go_wp2
        go_ret
        exact ⟨.inr ⟨HN.out, rfl⟩, rfl⟩
      · have hz0 : 0 < t.size := by omega
        have hzz : ((t.size : Int) == 0) = false := by rw [beq_eq_false_iff_ne]; omega
        have hb := bt_get hz0
        by_cases h48 : t[0].toNat = 48
        · have e48 : ((t[0].toNat : Int) == 48) = true := by rw [h48]; rfl
          rw [h48] at hb
          have HN := hid (show ¬ Num s from fun h => h.2.2 ⟨by rw [HT.out]; exact hb, .inl NG.out⟩)
          have hs0 : (s.toList == [48]) = false := str_ne (bt_get h0) (by omega)
          clear h48 hb hz
          go_enter Try.func68, Try.ntmps68
          go_wp2
          go_ret
          exact ⟨.inr ⟨HN.out, rfl⟩, rfl⟩
        · have e48 : ((t[0].toNat : Int) == 48) = false := by rw [beq_eq_false_iff_ne]; omega
          have Z := hid (show ¬ (bt t 0 = 48 ∧ (ngB s = true ∨ 1 < t.size)) from fun h => h48 (by rw [← hb]; exact h.1))
          clear h48 hb hz
          go_enter Try.func68, Try.ntmps68
          go_wp2
          go_loopw [2, 4] (fun b i wr => ∃ k : Nat, b = .bool false ∧ i = .int .i64 k ∧ k ≤ t.size ∧ Hid (∀ i, i < k → 48 ≤ bt t i ∧ bt t i ≤ 57) ∧ wr = w) (fun _ i _ => t.size - (intOf i).toNat)
          case atStart => exact ⟨0, rfl, rfl, Nat.zero_le _, hid (fun i hi => by omega), by first | rfl | trivial⟩
          case round =>
            obtain ⟨k, rfl, rfl, hk, HD, rfl⟩ := hrel
            by_cases hlt : k < t.size
            · have hx := bt_get hlt
              have HX := hid hx
              by_cases hd : 48 ≤ t[k].toNat ∧ t[k].toNat ≤ 57
              · obtain ⟨hd1, hd2⟩ := hd
                clear hx
                have d1 : ¬ ((t[k].toNat : Int) < 48) := by omega
                have d2 : ¬ ((57 : Int) < (t[k].toNat : Int)) := by omega
                go_wp2
                go_roundw
                case rel =>
                  exact ⟨k + 1, rfl, rfl, hlt, hid (fun i hi => by
                    by_cases e : i = k
                    · subst e; rw [HX.out]; exact ⟨hd1, hd2⟩
                    · exact HD.out i (by omega)), by first | rfl | trivial⟩
                case measure => first | omega | (simp [intOf]; omega)
              · have HN := hid (num_not_digit HT.out hlt (by rw [hx]; exact hd))
                clear hx
                rcases (show t[k].toNat < 48 ∨ 57 < t[k].toNat by omega) with hb | hb
                · have d1 : ((t[k].toNat : Int) < 48) := by omega
                  go_wp2
                  go_ret
                  exact ⟨.inr ⟨HN.out, rfl⟩, rfl⟩
                · have d1 : ¬ ((t[k].toNat : Int) < 48) := by omega
                  have d2 : ((57 : Int) < (t[k].toNat : Int)) := by omega
                  go_wp2
                  go_ret
                  exact ⟨.inr ⟨HN.out, rfl⟩, rfl⟩
            · have HA := hid (show AllD t from fun i hi => HD.out i (by omega))
              go_wp2
              go_ret
              exact ⟨.inl ⟨⟨by rw [HT.out]; exact hz0, by rw [HT.out]; exact HA.out, by rw [HT.out]; exact Z.out⟩, rfl⟩, rfl⟩
    · have hng : ngB s = false := by unfold ngB; rw [bt_get h0, beq_eq_false_iff_ne]; exact h45
      have e1 : ((s[0].toNat : Int) == 45) = false := by rw [beq_eq_false_iff_ne]; omega
      have ht2 : t = s := by rw [← ht]; unfold dsB; rw [if_neg (by rw [hng]; decide)]
      have NG := hid hng
      subst ht2
      clear h45 ht hng
      by_cases hz : t.size = 0
      · have hzz : ((t.size : Int) == 0) = true := by rw [hz]; rfl
        have HN := hid (show ¬ Num t from fun h => by have := h.1; rw [HT.out] at this; omega)
        clear hz
        go_enter Try.func68, Try.ntmps68
        go_wp2
        go_ret
        exact ⟨.inr ⟨HN.out, rfl⟩, rfl⟩
      · have hz0 : 0 < t.size := by omega
        have hzz : ((t.size : Int) == 0) = false := by rw [beq_eq_false_iff_ne]; omega
        have hb := bt_get hz0
        by_cases h48 : t[0].toNat = 48
        · have e48 : ((t[0].toNat : Int) == 48) = true := by rw [h48]; rfl
          rw [h48] at hb
          by_cases h1 : 1 < t.size
          · have HN := hid (show ¬ Num t from fun h => h.2.2 ⟨by rw [HT.out]; exact hb, .inr (by rw [HT.out]; exact h1)⟩)
            have hs0 : (t.toList == [48]) = false := str_long h1
            clear h48 hb hz
            go_enter Try.func68, Try.ntmps68
            go_wp2
            go_ret
            exact ⟨.inr ⟨HN.out, rfl⟩, rfl⟩
          · have hs0 : (t.toList == [48]) = true := str_one hb (by omega)
            have Z := hid (show ¬ (bt t 0 = 48 ∧ (ngB t = true ∨ 1 < t.size)) from fun h => by rcases h.2 with h | h; (rw [NG.out] at h; cases h); exact h1 h)
            clear h48 hb hz
            go_enter Try.func68, Try.ntmps68
            go_wp2
            go_loopw [2, 4] (fun b i wr => ∃ k : Nat, b = .bool false ∧ i = .int .i64 k ∧ k ≤ t.size ∧ Hid (∀ i, i < k → 48 ≤ bt t i ∧ bt t i ≤ 57) ∧ wr = w) (fun _ i _ => t.size - (intOf i).toNat)
            case atStart => exact ⟨0, rfl, rfl, Nat.zero_le _, hid (fun i hi => by omega), by first | rfl | trivial⟩
            case round =>
              obtain ⟨k, rfl, rfl, hk, HD, rfl⟩ := hrel
              by_cases hlt : k < t.size
              · have hx := bt_get hlt
                have HX := hid hx
                by_cases hd : 48 ≤ t[k].toNat ∧ t[k].toNat ≤ 57
                · obtain ⟨hd1, hd2⟩ := hd
                  clear hx
                  have d1 : ¬ ((t[k].toNat : Int) < 48) := by omega
                  have d2 : ¬ ((57 : Int) < (t[k].toNat : Int)) := by omega
                  go_wp2
                  go_roundw
                  case rel =>
                    exact ⟨k + 1, rfl, rfl, hlt, hid (fun i hi => by
                      by_cases e : i = k
                      · subst e; rw [HX.out]; exact ⟨hd1, hd2⟩
                      · exact HD.out i (by omega)), by first | rfl | trivial⟩
                  case measure => first | omega | (simp [intOf]; omega)
                · have HN := hid (num_not_digit HT.out hlt (by rw [hx]; exact hd))
                  clear hx
                  rcases (show t[k].toNat < 48 ∨ 57 < t[k].toNat by omega) with hb | hb
                  · have d1 : ((t[k].toNat : Int) < 48) := by omega
                    go_wp2
                    go_ret
                    exact ⟨.inr ⟨HN.out, rfl⟩, rfl⟩
                  · have d1 : ¬ ((t[k].toNat : Int) < 48) := by omega
                    have d2 : ((57 : Int) < (t[k].toNat : Int)) := by omega
                    go_wp2
                    go_ret
                    exact ⟨.inr ⟨HN.out, rfl⟩, rfl⟩
              · have HA := hid (show AllD t from fun i hi => HD.out i (by omega))
                go_wp2
                go_ret
                exact ⟨.inl ⟨⟨by rw [HT.out]; exact hz0, by rw [HT.out]; exact HA.out, by rw [HT.out]; exact Z.out⟩, rfl⟩, rfl⟩
        · have e48 : ((t[0].toNat : Int) == 48) = false := by rw [beq_eq_false_iff_ne]; omega
          have Z := hid (show ¬ (bt t 0 = 48 ∧ (ngB t = true ∨ 1 < t.size)) from fun h => h48 (by rw [← hb]; exact h.1))
          clear h48 hb hz
          go_enter Try.func68, Try.ntmps68
          go_wp2
          go_loopw [2, 4] (fun b i wr => ∃ k : Nat, b = .bool false ∧ i = .int .i64 k ∧ k ≤ t.size ∧ Hid (∀ i, i < k → 48 ≤ bt t i ∧ bt t i ≤ 57) ∧ wr = w) (fun _ i _ => t.size - (intOf i).toNat)
          case atStart => exact ⟨0, rfl, rfl, Nat.zero_le _, hid (fun i hi => by omega), by first | rfl | trivial⟩
          case round =>
            obtain ⟨k, rfl, rfl, hk, HD, rfl⟩ := hrel
            by_cases hlt : k < t.size
            · have hx := bt_get hlt
              have HX := hid hx
              by_cases hd : 48 ≤ t[k].toNat ∧ t[k].toNat ≤ 57
              · obtain ⟨hd1, hd2⟩ := hd
                clear hx
                have d1 : ¬ ((t[k].toNat : Int) < 48) := by omega
                have d2 : ¬ ((57 : Int) < (t[k].toNat : Int)) := by omega
                go_wp2
                go_roundw
                case rel =>
                  exact ⟨k + 1, rfl, rfl, hlt, hid (fun i hi => by
                    by_cases e : i = k
                    · subst e; rw [HX.out]; exact ⟨hd1, hd2⟩
                    · exact HD.out i (by omega)), by first | rfl | trivial⟩
                case measure => first | omega | (simp [intOf]; omega)
              · have HN := hid (num_not_digit HT.out hlt (by rw [hx]; exact hd))
                clear hx
                rcases (show t[k].toNat < 48 ∨ 57 < t[k].toNat by omega) with hb | hb
                · have d1 : ((t[k].toNat : Int) < 48) := by omega
                  go_wp2
                  go_ret
                  exact ⟨.inr ⟨HN.out, rfl⟩, rfl⟩
                · have d1 : ¬ ((t[k].toNat : Int) < 48) := by omega
                  have d2 : ((57 : Int) < (t[k].toNat : Int)) := by omega
                  go_wp2
                  go_ret
                  exact ⟨.inr ⟨HN.out, rfl⟩, rfl⟩
            · have HA := hid (show AllD t from fun i hi => HD.out i (by omega))
              go_wp2
              go_ret
              exact ⟨.inl ⟨⟨by rw [HT.out]; exact hz0, by rw [HT.out]; exact HA.out, by rw [HT.out]; exact Z.out⟩, rfl⟩, rfl⟩
  · have hng : ngB s = false := by unfold ngB; rw [bt_out h0]; rfl
    have ht2 : t = s := by rw [← ht]; unfold dsB; rw [if_neg (by rw [hng]; decide)]
    have NG := hid hng
    subst ht2
    clear ht hng
    have hz : t.size = 0 := by omega
    have hzz : ((t.size : Int) == 0) = true := by rw [hz]; rfl
    have HN := hid (show ¬ Num t from fun h => by have := h.1; rw [HT.out] at this; omega)
    have hd0 : ¬ ((0 : Int) < (t.size : Int)) := by omega
    clear hz
    go_enter Try.func68, Try.ntmps68
    go_wp2
    go_ret
    exact ⟨.inr ⟨HN.out, rfl⟩, rfl⟩
theorem isnumber_b (w : World) (s : ByteArray) (hs : s.size ≤ 9223372036854775807) :
    Calls Try.prog 68 #[.string s] w fun e w' => IsN s e ∧ Below w.heap.size w w' :=
  (isnumber_any w s hs).mono fun e w' ⟨h, h2⟩ => ⟨h, h2 ▸ Below.refl _ _⟩
theorem rlong_b (w : World) (s : ByteArray) (hs : s.size ≤ 9223372036854775807) :
    Calls Try.prog 69 #[.string s] w fun e w' => e = .returned (.bool (decide (2000 < (dsB s).size))) ∧ Below w.heap.size w w' :=
  (rlong_any w s hs).mono fun e w' ⟨h, h2⟩ => ⟨h, h2 ▸ Below.refl _ _⟩
end Go.Proofs.Ytijmjkkjopplbaa

