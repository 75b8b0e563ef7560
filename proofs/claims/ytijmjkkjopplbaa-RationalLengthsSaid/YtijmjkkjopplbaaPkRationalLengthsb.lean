/- A part of the proof of the laws of rationals: LenPure, WRLengths. -/
import Derived.Test.YtijmjkkjopplbaaPae
import Derived.Test.YtijmjkkjopplbaaPam
import Derived.Test.YtijmjkkjopplbaaPal
import Derived.Test.YtijmjkkjopplbaaPab
import Derived.Test.YtijmjkkjopplbaaPaf
import Derived.Test.YtijmjkkjopplbaaPad
import Derived.Test.YtijmjkkjopplbaaPac
import Derived.Test.YtijmjkkjopplbaaPav
import Derived.Test.YtijmjkkjopplbaaPay
import Derived.Test.YtijmjkkjopplbaaPao
import Derived.Test.YtijmjkkjopplbaaPat
import Derived.Test.YtijmjkkjopplbaaPaa
import Derived.Test.YtijmjkkjopplbaaPai
import Derived.Test.YtijmjkkjopplbaaPah
import Derived.Test.YtijmjkkjopplbaaPag
import Derived.Test.YtijmjkkjopplbaaPaj
import Derived.Test.YtijmjkkjopplbaaPax
import Derived.Test.YtijmjkkjopplbaaPap
import Derived.Test.YtijmjkkjopplbaaPas
import Derived.Test.YtijmjkkjopplbaaPau
import Derived.Test.YtijmjkkjopplbaaPar
import Derived.Test.YtijmjkkjopplbaaPaw
import Derived.Test.YtijmjkkjopplbaaPan
import Derived.Test.YtijmjkkjopplbaaPaq
import Derived.Test.YtijmjkkjopplbaaPak
import Derived.Test.YtijmjkkjopplbaaPaz
import Derived.Test.YtijmjkkjopplbaaPaBb
import Derived.Test.YtijmjkkjopplbaaPaBa
namespace Go.Proofs.Ytijmjkkjopplbaa
open Go.RowKit
set_option linter.unusedVariables false
set_option maxRecDepth 100000

def rep (k : Nat) : List UInt8 := List.replicate k 52
theorem rep_len (k : Nat) : (rep k).length = k := by unfold rep; simp
theorem rep_mem {k : Nat} {x : UInt8} (h : x ∈ rep k) : x = 52 := (List.mem_replicate.1 h).2
theorem rep_set (n d : Nat) : (rep (n + d + 1)).set n 47 = rep n ++ 47 :: rep d := by
  unfold rep
  rw [show n + d + 1 = n + (d + 1) by omega, ← List.replicate_append_replicate, List.set_append_right _ _ (by simp)]
  simp [List.replicate_succ]
theorem rep_set2 (n d : Nat) (hd : 0 < d) : (rep n ++ 47 :: rep d).set (n + d) 45 = rep n ++ 47 :: (rep (d - 1) ++ [45]) := by
  obtain ⟨e, rfl⟩ : ∃ e, d = e + 1 := ⟨d - 1, by omega⟩
  unfold rep
  rw [List.set_append_right _ _ (by simp)]
  have h1 : n + (e + 1) - (List.replicate n (52 : UInt8)).length = e + 1 := by simp
  rw [h1, List.set_cons_succ, show List.replicate (e + 1) (52 : UInt8) = List.replicate e 52 ++ List.replicate 1 52 from (List.replicate_append_replicate).symm, List.set_append_right _ _ (by simp)]
  simp
theorem rep_no47 (k : Nat) : ∀ x ∈ rep k, x ≠ 47 := fun x hx => by rw [rep_mem hx]; decide
theorem rep_ng {k : Nat} {l : List UInt8} (hk : 0 < k) : ngB ⟨(rep k ++ l).toArray⟩ = false := by
  obtain ⟨e, rfl⟩ : ∃ e, k = e + 1 := ⟨k - 1, by omega⟩
  unfold ngB
  rw [bt_list]
  unfold rep
  rw [List.replicate_succ]
  rfl
theorem rep_num {k : Nat} (hk : 0 < k) : Num ⟨(rep k).toArray⟩ ∧ ngB ⟨(rep k).toArray⟩ = false ∧ dsB ⟨(rep k).toArray⟩ = ⟨(rep k).toArray⟩ ∧ ByteArray.size ⟨(rep k).toArray⟩ = k := by
  have h1 : ngB ⟨(rep k).toArray⟩ = false := by have := rep_ng (l := []) hk; rwa [List.append_nil] at this
  have h2 : dsB ⟨(rep k).toArray⟩ = ⟨(rep k).toArray⟩ := by unfold dsB; rw [if_neg (by rw [h1]; decide)]
  have h3 : ByteArray.size ⟨(rep k).toArray⟩ = k := by rw [size_list, rep_len]
  refine ⟨⟨by rw [h2, h3]; exact hk, ?_, ?_⟩, h1, h2, h3⟩
  · rw [h2]; exact alld_list (fun x hx => by rw [rep_mem hx]; decide)
  · rw [h2, bt_list]
    obtain ⟨e, rfl⟩ : ∃ e, k = e + 1 := ⟨k - 1, by omega⟩
    unfold rep
    rw [List.replicate_succ]
    intro h
    exact absurd (show (52 : UInt8).toNat = 48 from h.1) (by decide)
theorem rep_pc {k : Nat} (hk : 0 < k) : pc ⟨(rep k).toArray⟩ = if 2000 < k then 7 else 0 := by
  obtain ⟨h1, h2, h3, h4⟩ := rep_num hk
  unfold pc
  rw [if_pos h1, h3, h4]
theorem rep_dv4 : ∀ k m : Nat, k ≤ m → ∃ z : Int, dv ⟨(rep m).toArray⟩ k = 4 * z := by
  intro k
  induction k with
  | zero => intro m _; exact ⟨0, rfl⟩
  | succ k ih =>
    intro m hm
    obtain ⟨z, hz⟩ := ih m (by omega)
    have hb : bt ⟨(rep m).toArray⟩ k = 52 := by
      rw [bt_list]
      unfold rep
      rw [List.getElem?_replicate, if_pos (by omega)]
      rfl
    refine ⟨10 * z + 1, ?_⟩
    rw [dv, hz, hb]
    omega
theorem rep_pz {k : Nat} (hk : 0 < k) (h2 : k ≤ 2000) : ∃ z : Int, pz ⟨(rep k).toArray⟩ = 4 * z := by
  have hp := rep_pc hk
  rw [if_neg (by omega)] at hp
  obtain ⟨n1, n2, n3, n4⟩ := rep_num hk
  unfold pz
  rw [if_pos hp, n2, n3, n4, sg_false]
  exact rep_dv4 k k (Nat.le_refl _)
theorem len_wrong {n d : Nat} (hn : 0 < n) (hd : 1 < d) : rE ⟨(rep n ++ 47 :: (rep (d - 1) ++ [45])).toArray⟩ = 2 := by
  obtain ⟨c1, c2, c3⟩ := cut_app (rep n) (rep (d - 1) ++ [45]) (rep_no47 n)
  have hng : ngB ⟨(rep (d - 1) ++ [45]).toArray⟩ = false := rep_ng (by omega)
  have hds : dsB ⟨(rep (d - 1) ++ [45]).toArray⟩ = ⟨(rep (d - 1) ++ [45]).toArray⟩ := by unfold dsB; rw [if_neg (by rw [hng]; decide)]
  have h2 : pc ⟨(rep (d - 1) ++ [45]).toArray⟩ = 2 := by
    rcases pc_form ⟨(rep (d - 1) ++ [45]).toArray⟩ with ⟨_, h⟩ | ⟨h, _⟩ | ⟨h, _⟩
    · exact h
    all_goals
      have ha := h.2.1 (d - 1) (by rw [hds, size_list]; simp [rep_len])
      rw [hds, bt_list, List.getElem?_append_right (by rw [rep_len]; omega), rep_len, Nat.sub_self] at ha
      exact absurd ha.1 (by decide)
  unfold rE
  rw [c1, c3, h2]
  simp [rcf]
theorem len_rE {n d : Nat} (hn : 0 < n) (hd : 0 < d) : rE ⟨(rep n ++ 47 :: rep d).toArray⟩ = if 2000 < n ∨ 2000 < d then 7 else 1 := by
  obtain ⟨c1, c2, c3⟩ := cut_app (rep n) (rep d) (rep_no47 n)
  have hng := (rep_num hd).2.1
  have p1 := rep_pc hn
  have p2 := rep_pc hd
  unfold rE
  rw [c1, c2, c3, hng, p1, p2]
  by_cases h1 : 2000 < n
  · rw [if_pos h1, if_pos (Or.inl h1)]
    by_cases h2 : 2000 < d
    · rw [if_pos h2]; simp [rcf]
    · rw [if_neg h2]; simp [rcf]
  · rw [if_neg h1]
    by_cases h2 : 2000 < d
    · rw [if_pos h2, if_pos (Or.inr h2)]; simp [rcf]
    · rw [if_neg h2, if_neg (by omega)]
      obtain ⟨x, hx⟩ := rep_pz hn (by omega)
      obtain ⟨y, hy⟩ := rep_pz hd (by omega)
      rw [hx, hy]
      unfold rcf
      rw [if_neg (by simp), if_neg (by simp)]
      by_cases h3 : 4 * y ≤ 1
      · rw [if_pos ⟨rfl, .inl h3⟩]
      · have hg : 0 < Int.gcd (4 * x) (4 * y) := Int.gcd_pos_of_ne_zero_right _ (by omega)
        have hdv : (4 : Int) ∣ (Int.gcd (4 * x) (4 * y) : Int) := Int.dvd_coe_gcd (Int.dvd_mul_right 4 x) (Int.dvd_mul_right 4 y)
        rw [if_pos ⟨rfl, .inr (by omega)⟩]
end Go.Proofs.Ytijmjkkjopplbaa

namespace Go.Proofs.Ytijmjkkjopplbaa
open Go.RowKit
set_option linter.unusedVariables false
set_option maxRecDepth 100000

theorem rep_take {os : List UInt8} {k t : Nat} (h : os.take k = rep k) (hl : os.length = t) (hk : k < t) : (os.set k 52).take (k + 1) = rep (k + 1) := by
  rw [List.take_add_one, List.take_set_of_le (Nat.le_refl _), List.getElem?_set_self (by omega), h]
  unfold rep
  rw [List.replicate_succ']
  rfl
set_option maxHeartbeats 8000000 in
theorem rationalLengths_walk (w : World) (p : Int) (hp : 0 ≤ p ∧ p ≤ 255) (q : Int) (hq : 0 ≤ q ∧ q ≤ 255) (wrong : Bool) :
    Calls Try.prog 8 #[.int .u8 p, .int .u8 q, .bool wrong] w fun e w' => e = .returned (.bool true) ∧ Below w.heap.size w w' := by
  obtain ⟨hp0, hp1⟩ := hp
  obtain ⟨hq0, hq1⟩ := hq
  obtain ⟨n, hn, hn0, hn1⟩ : ∃ n : Nat, 1999 + p % 3 = (n : Int) ∧ 1999 ≤ n ∧ n ≤ 2001 := ⟨(1999 + p % 3).toNat, by omega, by omega, by omega⟩
  obtain ⟨d, hd, hd0, hd1⟩ : ∃ d : Nat, 1999 + q % 3 = (d : Int) ∧ 1999 ≤ d ∧ d ≤ 2001 := ⟨(1999 + q % 3).toNat, by omega, by omega, by omega⟩
  obtain ⟨t, ht, ht2⟩ : ∃ t : Nat, (n : Int) + (d : Int) + 1 = (t : Int) ∧ t = n + d + 1 := ⟨n + d + 1, by omega, rfl⟩
  have HT := hid ht2
  clear ht2
  have hmk := make_u8 t (by omega)
  go_enter Try.func8, Try.ntmps8
  go_wp2
  have hown := Own8.made w t
  clear hmk hn hd
  go_loopw [28] (fun i wx => ∃ (k : Nat) (os : List UInt8), i = .int .i64 (k : Int) ∧ k ≤ t ∧ Hid (os.length = t) ∧ Hid (Own8 wx w.heap.size os) ∧ Hid (os.take k = rep k) ∧ Hid (Below w.heap.size w wx)) (fun i _ => t - (intOf i).toNat)
  case atStart => exact ⟨0, List.replicate t 0, rfl, by omega, hid (by simp), hid hown, hid (by simp [rep]), hid ((Below.refl _ _).alloc (Nat.le_refl _) _)⟩
  case round =>
    clear hown
    obtain ⟨k, os, rfl, hk, OL, OO, OT, OB⟩ := hrel
    by_cases hkl : k < t
    · have c7 := OO.out.cell (j := k) (by rw [OL.out]; exact hkl)
      unfold bv at c7
      have c8 := OO.out.free k
      have hki : (k : Int) < (t : Int) := by omega
      have OS : Hid (Own8 (wr.setCell ⟨w.heap.size, k, none⟩ (.int .u8 52)) w.heap.size (os.set k 52)) := hid (OO.out.set k 52)
      have OX := hid (rep_take OT.out OL.out hkl)
      go_wp2
      go_roundw
      case measure => simp [intOf]; omega
      case rel => exact ⟨k + 1, os.set k 52, by go_num, by omega, hid (by rw [List.length_set]; exact OL.out), OS, OX, hid (OB.out.setCell (Nat.le_refl _) _)⟩
    · have OA := hid (show os = rep t by
        have h := OT.out
        have hkt : k = t := by omega
        rw [hkt] at h
        rwa [List.take_of_length_le (by rw [OL.out]; omega)] at h)
      have d9 : decide ((k : Int) < (t : Int)) = false := by rw [decide_eq_false_iff_not]; omega
      have hkn : ¬ ((k : Int) < (t : Int)) := by omega
      clear OT
      have hnl : n < os.length := by have := HT.out; rw [OL.out]; omega
      have c7 := OO.out.cell (j := n) hnl
      unfold bv at c7
      have c8 := OO.out.free n
      have hnt : (n : Int) < (t : Int) := by have := HT.out; omega
      have OS : Hid (Own8 (wr.setCell ⟨w.heap.size, n, none⟩ (.int .u8 47)) w.heap.size (os.set n 47)) := hid (OO.out.set n 47)
      have OB := hid (OB.out.setCell (p := ⟨w.heap.size, n, none⟩) (Nat.le_refl _) (.int .u8 47))
      have OE := hid (show os.set n 47 = rep n ++ 47 :: rep d by rw [OA.out, HT.out, rep_set])
      have OL2 := hid (show (os.set n 47).length = t by rw [List.length_set]; exact OL.out)
      have hnl2 : n + d < (os.set n 47).length := by have := HT.out; rw [OL2.out]; omega
      have htn : ((n : Int) + (d : Int)).toNat = n + d := by omega
      have hj0 : (0 : Int) ≤ (n : Int) + (d : Int) := by omega
      have hj1 : (n : Int) + (d : Int) < (t : Int) := by have := HT.out; omega
      cases wrong with
      | true =>
        have c9 := OS.out.cell (j := n + d) hnl2
        unfold bv at c9
        have c10 := OS.out.free (n + d)
        have OS : Hid (Own8 ((wr.setCell ⟨w.heap.size, n, none⟩ (.int .u8 47)).setCell ⟨w.heap.size, n + d, none⟩ (.int .u8 45)) w.heap.size ((os.set n 47).set (n + d) 45)) := hid (OS.out.set (n + d) 45)
        have OB := hid (OB.out.setCell (p := ⟨w.heap.size, n + d, none⟩) (Nat.le_refl _) (.int .u8 45))
        have hcv := string_own _ _ t t ((os.set n 47).set (n + d) 45) OS.out (by rw [List.length_set]; exact OL2.out)
        obtain ⟨T, hT⟩ : ∃ T : ByteArray, T = ⟨((os.set n 47).set (n + d) 45).toArray⟩ := ⟨_, rfl⟩
        rw [← hT] at hcv
        have tsz : T.size ≤ 9223372036854775807 := by have := HT.out; rw [hT, size_list, List.length_set, OL2.out]; omega
        have RE := hid (show rE T = 2 by rw [hT, OE.out, rep_set2 n d (by omega), len_wrong (by omega) (by omega)])
        clear hT
        go_wp2_with fail
        refine (parseR_any _ T tsz).mono ?_
        rintro e w5 ⟨⟨v, rfl, hv⟩, hb5⟩
        rw [RE.out]
        obtain ⟨q1, A1, n1, c1, q2, A2, n2, c2, rfl, h1, h2⟩ := hv.form
        have HB := hid (bw_step OB.out hb5)
        clear hb5 h1 h2 hv
        go_wp2_with fail
        refine (awakeR_any _).mono ?_
        rintro e w6 ⟨rfl, hb6⟩
        have HB := hid (bw_step (bw_step HB.out (bw_alloc (Below.refl _ _) _)) hb6)
        clear hb6
        go_wp2
        go_ret
        exact ⟨rfl, HB.out⟩
      | false =>
        have hcv := string_own _ _ t t (os.set n 47) OS.out OL2.out
        by_cases l1 : 2000 < n
        · have e1 : decide ((2000 : Int) < (n : Int)) = true := by rw [decide_eq_true_eq]; omega
          have l1i : (2000 : Int) < (n : Int) := by omega
          obtain ⟨T, hT⟩ : ∃ T : ByteArray, T = ⟨(os.set n 47).toArray⟩ := ⟨_, rfl⟩
          rw [← hT] at hcv
          have tsz : T.size ≤ 9223372036854775807 := by have := HT.out; rw [hT, size_list, OL2.out]; omega
          have RE := hid (show rE T = 7 by rw [hT, OE.out, len_rE (by omega) (by omega), if_pos (by omega)])
          clear hT
          go_wp2_with fail
          refine (parseR_any _ T tsz).mono ?_
          rintro e w5 ⟨⟨v, rfl, hv⟩, hb5⟩
          rw [RE.out]
          obtain ⟨q1, A1, n1, c1, q2, A2, n2, c2, rfl, h1, h2⟩ := hv.form
          have HB := hid (bw_step OB.out hb5)
          clear hb5 h1 h2 hv
          go_wp2_with fail
          refine (awakeR_any _).mono ?_
          rintro e w6 ⟨rfl, hb6⟩
          have HB := hid (bw_step (bw_step HB.out (bw_alloc (Below.refl _ _) _)) hb6)
          clear hb6
          go_wp2
          go_ret
          exact ⟨rfl, HB.out⟩
        · have e1 : decide ((2000 : Int) < (n : Int)) = false := by rw [decide_eq_false_iff_not]; omega
          have l1i : ¬ (2000 : Int) < (n : Int) := by omega
          by_cases l2 : 2000 < d
          · have e2 : decide ((2000 : Int) < (d : Int)) = true := by rw [decide_eq_true_eq]; omega
            have l2i : (2000 : Int) < (d : Int) := by omega
            obtain ⟨T, hT⟩ : ∃ T : ByteArray, T = ⟨(os.set n 47).toArray⟩ := ⟨_, rfl⟩
            rw [← hT] at hcv
            have tsz : T.size ≤ 9223372036854775807 := by have := HT.out; rw [hT, size_list, OL2.out]; omega
            have RE := hid (show rE T = 7 by rw [hT, OE.out, len_rE (by omega) (by omega), if_pos (by omega)])
            clear hT
            go_wp2_with fail
            refine (parseR_any _ T tsz).mono ?_
            rintro e w5 ⟨⟨v, rfl, hv⟩, hb5⟩
            rw [RE.out]
            obtain ⟨q1, A1, n1, c1, q2, A2, n2, c2, rfl, h1, h2⟩ := hv.form
            have HB := hid (bw_step OB.out hb5)
            clear hb5 h1 h2 hv
            go_wp2_with fail
            refine (awakeR_any _).mono ?_
            rintro e w6 ⟨rfl, hb6⟩
            have HB := hid (bw_step (bw_step HB.out (bw_alloc (Below.refl _ _) _)) hb6)
            clear hb6
            go_wp2
            go_ret
            exact ⟨rfl, HB.out⟩
          · have e2 : decide ((2000 : Int) < (d : Int)) = false := by rw [decide_eq_false_iff_not]; omega
            have l2i : ¬ (2000 : Int) < (d : Int) := by omega
            obtain ⟨T, hT⟩ : ∃ T : ByteArray, T = ⟨(os.set n 47).toArray⟩ := ⟨_, rfl⟩
            rw [← hT] at hcv
            have tsz : T.size ≤ 9223372036854775807 := by have := HT.out; rw [hT, size_list, OL2.out]; omega
            have RE := hid (show rE T = 1 by rw [hT, OE.out, len_rE (by omega) (by omega), if_neg (by omega)])
            clear hT
            go_wp2_with fail
            refine (parseR_any _ T tsz).mono ?_
            rintro e w5 ⟨⟨v, rfl, hv⟩, hb5⟩
            rw [RE.out]
            obtain ⟨q1, A1, n1, c1, q2, A2, n2, c2, rfl, h1, h2⟩ := hv.form
            have HB := hid (bw_step OB.out hb5)
            clear hb5 h1 h2 hv
            go_wp2_with fail
            refine (awakeR_any _).mono ?_
            rintro e w6 ⟨rfl, hb6⟩
            have HB := hid (bw_step (bw_step HB.out (bw_alloc (Below.refl _ _) _)) hb6)
            clear hb6
            go_wp2
            go_ret
            exact ⟨rfl, HB.out⟩
end Go.Proofs.Ytijmjkkjopplbaa

