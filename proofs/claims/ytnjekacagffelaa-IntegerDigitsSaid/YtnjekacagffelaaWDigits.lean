/- The law IntegerDigits: its walk. -/
import Derived.Test.YtnjekacagffelaaAwake
import Derived.Test.YtnjekacagffelaaParse
import Derived.Test.YtnjekacagffelaaFormat
import Derived.Test.YtnjekacagffelaaDigText
import Derived.Test.YtnjekacagffelaaPush
namespace Go.Proofs.Ytnjekacagffelaa
open Go.RowKit
set_option linter.unusedVariables false
set_option linter.unusedSimpArgs false

theorem intv_flag {w : World} {q neg : Bool} {s : Value} {D : Int} (h : IntV w (.agg #[.bool q, s]) (sg neg D)) (hD : 0 < D) : q = neg := by
  obtain ⟨q', s', xs, he, -, hl, -, -, hz⟩ := h
  have hn := nv_nonneg hl
  have hq : q = q' := by
    injection he with he
    have h1 := congrArg (fun a : Array Value => a[0]?) he
    have h2 := Option.some.inj h1
    injection h2
  rw [hq]
  cases q' <;> cases neg
  · rfl
  · rw [sg_false, sg_true] at hz; omega
  · rw [sg_false, sg_true] at hz; omega
  · rfl
theorem mem_set_last {os : List UInt8} {n : Nat} (h : os.length = n) (hn : 0 < n) (x : UInt8) : x ∈ os.set (n - 1) x :=
  List.mem_set (by omega) x
theorem head_set {os : List UInt8} {n : Nat} (hn : 1 < n) (x : UInt8) : ((os.set (n - 1) x)[0]?) = os[0]? := by
  rw [List.getElem?_set_ne (by omega)]
theorem head_all {os : List UInt8} (h : ∀ x ∈ os, 49 ≤ x.toNat ∧ x.toNat ≤ 57) (hn : 0 < os.length) : 49 ≤ ((os[0]?).getD 0).toNat := by
  rw [List.getElem?_eq_getElem hn]
  exact (h _ (List.getElem_mem hn)).1
theorem dash_cat (l : List UInt8) : (⟨#[45]⟩ : ByteArray) ++ ⟨l.toArray⟩ = ⟨(45 :: l).toArray⟩ := by
  apply ByteArray.ext
  apply Array.ext'
  simp
set_option maxHeartbeats 8000000 in
theorem integerDigits_walk (w : World) (m : Int) (hm : 0 ≤ m ∧ m ≤ 255) (neg wrong : Bool) :
    Calls Try.prog 9 #[.int .u8 m, .bool neg, .bool wrong] w fun e w' => e = .returned (.bool true) ∧ Below w.heap.size w w' := by
  obtain ⟨hm0, hm1⟩ := hm
  obtain ⟨n, hn, hn0, hn1⟩ : ∃ n : Nat, 1998 + m % 5 = (n : Int) ∧ 1998 ≤ n ∧ n ≤ 2002 := ⟨(1998 + m % 5).toNat, by omega, by omega, by omega⟩
  have hmk := make_u8 n (by omega)
  go_enter Try.func9, Try.ntmps9
  go_wp2
  have hown := Own8.made w n
  clear hmk hn
  go_loopw [21] (fun i wx => ∃ (k : Nat) (os : List UInt8), i = .int .i64 (k : Int) ∧ k ≤ n ∧ Hid (os.length = n) ∧ Hid (Own8 wx w.heap.size os) ∧ Hid (∀ x ∈ os.take k, 49 ≤ x.toNat ∧ x.toNat ≤ 57) ∧ Hid (Below w.heap.size w wx)) (fun i _ => n - (intOf i).toNat)
  case atStart => exact ⟨0, List.replicate n 0, rfl, by omega, hid (by simp), hid hown, hid (by simp), hid ((Below.refl _ _).alloc (Nat.le_refl _) _)⟩
  case round =>
    clear hown
    obtain ⟨k, os, rfl, hk, OL, OO, OT, OB⟩ := hrel
    by_cases hkl : k < n
    · obtain ⟨y, hy0⟩ : ∃ y : UInt8, y.toNat = 49 + k % 9 := ⟨UInt8.ofNat (49 + k % 9), by rw [UInt8.toNat_ofNat']; omega⟩
      have hy : 49 + (k : Int) % 9 = (y.toNat : Int) := by omega
      have c7 := OO.out.cell (j := k) (by rw [OL.out]; exact hkl)
      unfold bv at c7
      have c8 := OO.out.free k
      have OS := hid (OO.out.set k y)
      have OX := hid (show ∀ x ∈ (os.set k y).take (k + 1), 49 ≤ x.toNat ∧ x.toNat ≤ 57 by
        intro x hx
        rw [List.take_add_one, List.take_set_of_le (Nat.le_refl _), List.getElem?_set_self (by rw [OL.out]; exact hkl)] at hx
        rcases List.mem_append.1 hx with h | h
        · exact OT.out x h
        · have : x = y := by simpa using h
          subst this; omega)
      have hyb : (y.toNat : Int) ≤ 57 := by omega
      clear hy0
      go_wp2
      go_roundw
      case measure => simp [intOf]; omega
      case rel => exact ⟨k + 1, os.set k y, by go_num, by omega, hid (by rw [List.length_set]; exact OL.out), OS, OX, hid (OB.out.setCell (Nat.le_refl _) _)⟩
    · have OA := hid (show ∀ x ∈ os, 49 ≤ x.toNat ∧ x.toNat ≤ 57 by
        have h := OT.out
        rwa [List.take_of_length_le (by rw [OL.out]; omega)] at h)
      have d9 : decide ((k : Int) < (n : Int)) = false := by rw [decide_eq_false_iff_not]; omega
      have hkn : ¬ ((k : Int) < (n : Int)) := by omega
      clear OT
      cases wrong with
      | true =>
        have hnl : n - 1 < os.length := by rw [OL.out]; omega
        have c7 := OO.out.cell (j := n - 1) hnl
        unfold bv at c7
        have c8 := OO.out.free (n - 1)
        have htn : ((n : Int) - 1).toNat = n - 1 := by omega
        have hj0 : (0 : Int) ≤ (n : Int) - 1 := by omega
        have hj1 : (n : Int) - 1 < (n : Int) := by omega
        have OS : Hid (Own8 (wr.setCell ⟨w.heap.size, n - 1, none⟩ (.int .u8 120)) w.heap.size (os.set (n - 1) 120)) := hid (OO.out.set (n - 1) 120)
        have HD45 := hid (show (((os.set (n - 1) 120)[0]?).getD 0).toNat ≠ 45 by rw [head_set (by omega)]; have := head_all OA.out (by rw [OL.out]; omega); omega)
        have OB := hid (OB.out.setCell (p := ⟨w.heap.size, n - 1, none⟩) (Nat.le_refl _) (.int .u8 120))
        have hcv := string_own _ _ n n (os.set (n - 1) 120) OS.out (by rw [List.length_set]; exact OL.out)
        have XX := hid (mem_set_last OL.out (by omega) (120 : UInt8))
        cases neg with
        | true =>
          obtain ⟨S, hS⟩ : ∃ S : ByteArray, S = ⟨(os.set (n - 1) 120).toArray⟩ := ⟨_, rfl⟩
          rw [← hS] at hcv
          have ssz : S.size ≤ 2002 := by rw [hS, size_list]; have := OL.out; rw [List.length_set]; omega
          have ssz1 : ¬ (9223372036854775807 < ByteArray.size ⟨#[45]⟩ + S.size) := by show ¬ (9223372036854775807 < 1 + S.size); omega
          have ssz2 : ¬ (9223372036854775807 < 1 + S.size) := by omega
          obtain ⟨T, hT⟩ : ∃ T : ByteArray, (⟨#[45]⟩ : ByteArray) ++ S = T := ⟨_, rfl⟩
          have hd := dsB_cons (os.set (n - 1) 120)
          rw [← dash_cat, ← hS, hT] at hd
          have TT := hid (show T = ⟨([45] ++ (os.set (n - 1) 120)).toArray⟩ by rw [← hT, hS, dash_cat]; rfl)
          have DT := hid hd
          have HS := hid hS
          clear hd hS
          have tsz : T.size ≤ 9223372036854775807 := by rw [TT.out, size_list, List.length_append]; have := OL.out; simp; omega
          have NN := hid (not_num_of (DT.out.2.trans HS.out) XX.out (by decide))
          go_wp2_with fail
          refine (parse_any _ T tsz).mono ?_
          rintro e w5 ⟨hp, hb5⟩
          obtain ⟨_, rfl⟩ := hp.resolve_right (fun h => by rcases h with h | h <;> exact NN.out h.1)
          have HB := hid (bw_step OB.out hb5)
          clear hp hb5
          go_wp2_with fail
          refine (awake_any _).mono ?_
          rintro e w6 ⟨rfl, hb6⟩
          have HB := hid (bw_step (bw_step HB.out (bw_alloc (Below.refl _ _) _)) hb6)
          clear hb6
          go_wp2
          go_ret
          exact ⟨rfl, HB.out⟩
        | false =>
          obtain ⟨S, hS⟩ : ∃ S : ByteArray, S = ⟨(os.set (n - 1) 120).toArray⟩ := ⟨_, rfl⟩
          rw [← hS] at hcv
          obtain ⟨T, hT⟩ : ∃ T : ByteArray, T = S := ⟨_, rfl⟩
          have hd := dsB_plain (l := os.set (n - 1) 120) HD45.out
          rw [← hS, ← hT] at hd
          have TT := hid (show T = ⟨(([] : List UInt8) ++ (os.set (n - 1) 120)).toArray⟩ by rw [hT, hS]; rfl)
          subst hT
          have DT := hid hd
          have HS := hid hS
          clear hd hS
          have tsz : T.size ≤ 9223372036854775807 := by rw [TT.out, size_list, List.length_append]; have := OL.out; simp; omega
          have NN := hid (not_num_of (DT.out.2.trans HS.out) XX.out (by decide))
          go_wp2_with fail
          refine (parse_any _ T tsz).mono ?_
          rintro e w5 ⟨hp, hb5⟩
          obtain ⟨_, rfl⟩ := hp.resolve_right (fun h => by rcases h with h | h <;> exact NN.out h.1)
          have HB := hid (bw_step OB.out hb5)
          clear hp hb5
          go_wp2_with fail
          refine (awake_any _).mono ?_
          rintro e w6 ⟨rfl, hb6⟩
          have HB := hid (bw_step (bw_step HB.out (bw_alloc (Below.refl _ _) _)) hb6)
          clear hb6
          go_wp2
          go_ret
          exact ⟨rfl, HB.out⟩
      | false =>
        have HD48 := hid (show ((os[0]?).getD 0).toNat ≠ 48 by have := head_all OA.out (by rw [OL.out]; omega); omega)
        have HD45 := hid (show ((os[0]?).getD 0).toNat ≠ 45 by have := head_all OA.out (by rw [OL.out]; omega); omega)
        obtain ⟨T5, hT5⟩ : ∃ T5 : ByteArray, T5 = ⟨os.toArray⟩ := ⟨_, rfl⟩
        have T5E := hid hT5
        have AD5 := hid (show AllD T5 by rw [hT5]; exact alld_list (fun x hx => ⟨by have := (OA.out x hx).1; omega, (OA.out x hx).2⟩))
        clear hT5
        have hcv := string_own _ _ n n os OO.out OL.out
        by_cases hbig : 2000 < n
        · have hd2 : decide ((2000 : Int) < (n : Int)) = true := by rw [decide_eq_true_eq]; omega
          cases neg with
          | true =>
            obtain ⟨S, hS⟩ : ∃ S : ByteArray, S = ⟨(os).toArray⟩ := ⟨_, rfl⟩
            rw [← hS] at hcv
            have ssz : S.size ≤ 2002 := by rw [hS, size_list]; have := OL.out; omega
            have ssz1 : ¬ (9223372036854775807 < ByteArray.size ⟨#[45]⟩ + S.size) := by show ¬ (9223372036854775807 < 1 + S.size); omega
            have ssz2 : ¬ (9223372036854775807 < 1 + S.size) := by omega
            obtain ⟨T, hT⟩ : ∃ T : ByteArray, (⟨#[45]⟩ : ByteArray) ++ S = T := ⟨_, rfl⟩
            have hd := dsB_cons (os)
            rw [← dash_cat, ← hS, hT] at hd
            have TT := hid (show T = ⟨([45] ++ (os)).toArray⟩ by rw [← hT, hS, dash_cat]; rfl)
            have DT := hid hd
            have HS := hid hS
            clear hd hS
            have tsz : T.size ≤ 9223372036854775807 := by rw [TT.out, size_list, List.length_append]; have := OL.out; simp; omega
            have NU := hid (num_of (DT.out.2.trans HS.out) (fun x hx => ⟨by have := (OA.out x hx).1; omega, (OA.out x hx).2⟩) (List.length_pos_iff.1 (by rw [OL.out]; omega)) HD48.out)
            go_wp2_with fail
            refine (parse_any _ T tsz).mono ?_
            rintro e w5 ⟨hp, hb5⟩
            obtain ⟨_, _, rfl⟩ := (hp.resolve_left (fun h => h.1 NU.out)).resolve_right (fun h => by have h := h.2.1; rw [DT.out.2, HS.out, size_list, OL.out] at h; omega)
            have HB := hid (bw_step OB.out hb5)
            clear hp hb5
            go_wp2_with fail
            refine (awake_any _).mono ?_
            rintro e w6 ⟨rfl, hb6⟩
            have HB := hid (bw_step (bw_step HB.out (bw_alloc (Below.refl _ _) _)) hb6)
            clear hb6
            go_wp2
            go_ret
            exact ⟨rfl, HB.out⟩
          | false =>
            obtain ⟨S, hS⟩ : ∃ S : ByteArray, S = ⟨(os).toArray⟩ := ⟨_, rfl⟩
            rw [← hS] at hcv
            obtain ⟨T, hT⟩ : ∃ T : ByteArray, T = S := ⟨_, rfl⟩
            have hd := dsB_plain (l := os) HD45.out
            rw [← hS, ← hT] at hd
            have TT := hid (show T = ⟨(([] : List UInt8) ++ (os)).toArray⟩ by rw [hT, hS]; rfl)
            subst hT
            have DT := hid hd
            have HS := hid hS
            clear hd hS
            have tsz : T.size ≤ 9223372036854775807 := by rw [TT.out, size_list, List.length_append]; have := OL.out; simp; omega
            have NU := hid (num_of (DT.out.2.trans HS.out) (fun x hx => ⟨by have := (OA.out x hx).1; omega, (OA.out x hx).2⟩) (List.length_pos_iff.1 (by rw [OL.out]; omega)) HD48.out)
            go_wp2_with fail
            refine (parse_any _ T tsz).mono ?_
            rintro e w5 ⟨hp, hb5⟩
            obtain ⟨_, _, rfl⟩ := (hp.resolve_left (fun h => h.1 NU.out)).resolve_right (fun h => by have h := h.2.1; rw [DT.out.2, HS.out, size_list, OL.out] at h; omega)
            have HB := hid (bw_step OB.out hb5)
            clear hp hb5
            go_wp2_with fail
            refine (awake_any _).mono ?_
            rintro e w6 ⟨rfl, hb6⟩
            have HB := hid (bw_step (bw_step HB.out (bw_alloc (Below.refl _ _) _)) hb6)
            clear hb6
            go_wp2
            go_ret
            exact ⟨rfl, HB.out⟩
        · have hd2 : decide ((2000 : Int) < (n : Int)) = false := by rw [decide_eq_false_iff_not]; omega
          cases neg with
          | true =>
            obtain ⟨S, hS⟩ : ∃ S : ByteArray, S = ⟨(os).toArray⟩ := ⟨_, rfl⟩
            rw [← hS] at hcv
            have ssz : S.size ≤ 2002 := by rw [hS, size_list]; have := OL.out; omega
            have ssz1 : ¬ (9223372036854775807 < ByteArray.size ⟨#[45]⟩ + S.size) := by show ¬ (9223372036854775807 < 1 + S.size); omega
            have ssz2 : ¬ (9223372036854775807 < 1 + S.size) := by omega
            obtain ⟨T, hT⟩ : ∃ T : ByteArray, (⟨#[45]⟩ : ByteArray) ++ S = T := ⟨_, rfl⟩
            have hd := dsB_cons (os)
            rw [← dash_cat, ← hS, hT] at hd
            have TT := hid (show T = ⟨([45] ++ (os)).toArray⟩ by rw [← hT, hS, dash_cat]; rfl)
            have DT := hid hd
            have HS := hid hS
            clear hd hS
            have tsz : T.size ≤ 9223372036854775807 := by rw [TT.out, size_list, List.length_append]; have := OL.out; simp; omega
            have NU := hid (num_of (DT.out.2.trans HS.out) (fun x hx => ⟨by have := (OA.out x hx).1; omega, (OA.out x hx).2⟩) (List.length_pos_iff.1 (by rw [OL.out]; omega)) HD48.out)
            go_wp2_with fail
            refine (parse_any _ T tsz).mono ?_
            rintro e w5 ⟨hp, hb5⟩
            rcases hp with ⟨h, _⟩ | ⟨_, h, _⟩ | ⟨_, _, v, rfl, hv⟩
            · exact absurd NU.out h
            · exact absurd h (by rw [DT.out.2, HS.out, size_list, OL.out]; omega)
            rw [DT.out.1, DT.out.2, HS.out, size_list] at hv
            obtain ⟨q, A, n5, c5, rfl⟩ := hv.form
            have htx := text_of (fun x hx => ⟨by have := (OA.out x hx).1; omega, (OA.out x hx).2⟩) (List.length_pos_iff.1 (by rw [OL.out]; omega)) HD48.out true
            have hpos := (digs_of (l := os) (fun x hx => ⟨by have := (OA.out x hx).1; omega, (OA.out x hx).2⟩) (List.length_pos_iff.1 (by rw [OL.out]; omega)) HD48.out).2
            have hq := intv_flag hv hpos
            subst hq
            have hbz := dv_bound T5 AD5.out os.length (by rw [T5E.out, size_list]; exact Nat.le_refl _)
            rw [T5E.out] at hbz
            generalize dv ⟨os.toArray⟩ os.length = D at *
            have HV := hid hv
            have HTX := hid htx
            have SM := hid (show Sm os.length (sg true D) by have := bp_pos os.length; first | (rw [sg_true]; exact ⟨by omega, by omega⟩) | (rw [sg_false]; exact ⟨by omega, by omega⟩))
            have HB := hid (bw_step OB.out hb5)
            clear hv htx hpos hbz hb5
            go_wp2_with fail
            have HV := hid (HV.out.below (bw_alloc (Below.refl _ w5) (.cells #[.bool true, .slice A n5 c5] 24)))
            refine (format_any _ _ _ os.length (HV.out.arg SM.out) (by rw [OL.out]; omega)).mono ?_
            rintro e w6 ⟨rfl, hb6⟩
            rw [HTX.out]
            have TE := TT.out
            simp only [if_true, Bool.false_eq_true, if_false] at *
            rw [← TE]
            have HB := hid (bw_step (bw_step HB.out (bw_alloc (Below.refl _ _) _)) hb6)
            clear hb6 TE
            go_wp2_with fail
            refine (awake_any _).mono ?_
            rintro e w7 ⟨rfl, hb7⟩
            have HB := hid (bw_step HB.out hb7)
            clear hb7
            go_wp2
            go_ret
            exact ⟨rfl, HB.out⟩
          | false =>
            obtain ⟨S, hS⟩ : ∃ S : ByteArray, S = ⟨(os).toArray⟩ := ⟨_, rfl⟩
            rw [← hS] at hcv
            obtain ⟨T, hT⟩ : ∃ T : ByteArray, T = S := ⟨_, rfl⟩
            have hd := dsB_plain (l := os) HD45.out
            rw [← hS, ← hT] at hd
            have TT := hid (show T = ⟨(([] : List UInt8) ++ (os)).toArray⟩ by rw [hT, hS]; rfl)
            subst hT
            have DT := hid hd
            have HS := hid hS
            clear hd hS
            have tsz : T.size ≤ 9223372036854775807 := by rw [TT.out, size_list, List.length_append]; have := OL.out; simp; omega
            have NU := hid (num_of (DT.out.2.trans HS.out) (fun x hx => ⟨by have := (OA.out x hx).1; omega, (OA.out x hx).2⟩) (List.length_pos_iff.1 (by rw [OL.out]; omega)) HD48.out)
            go_wp2_with fail
            refine (parse_any _ T tsz).mono ?_
            rintro e w5 ⟨hp, hb5⟩
            rcases hp with ⟨h, _⟩ | ⟨_, h, _⟩ | ⟨_, _, v, rfl, hv⟩
            · exact absurd NU.out h
            · exact absurd h (by rw [DT.out.2, HS.out, size_list, OL.out]; omega)
            rw [DT.out.1, DT.out.2, HS.out, size_list] at hv
            obtain ⟨q, A, n5, c5, rfl⟩ := hv.form
            have htx := text_of (fun x hx => ⟨by have := (OA.out x hx).1; omega, (OA.out x hx).2⟩) (List.length_pos_iff.1 (by rw [OL.out]; omega)) HD48.out false
            have hpos := (digs_of (l := os) (fun x hx => ⟨by have := (OA.out x hx).1; omega, (OA.out x hx).2⟩) (List.length_pos_iff.1 (by rw [OL.out]; omega)) HD48.out).2
            have hq := intv_flag hv hpos
            subst hq
            have hbz := dv_bound T5 AD5.out os.length (by rw [T5E.out, size_list]; exact Nat.le_refl _)
            rw [T5E.out] at hbz
            generalize dv ⟨os.toArray⟩ os.length = D at *
            have HV := hid hv
            have HTX := hid htx
            have SM := hid (show Sm os.length (sg false D) by have := bp_pos os.length; first | (rw [sg_true]; exact ⟨by omega, by omega⟩) | (rw [sg_false]; exact ⟨by omega, by omega⟩))
            have HB := hid (bw_step OB.out hb5)
            clear hv htx hpos hbz hb5
            go_wp2_with fail
            have HV := hid (HV.out.below (bw_alloc (Below.refl _ w5) (.cells #[.bool false, .slice A n5 c5] 24)))
            refine (format_any _ _ _ os.length (HV.out.arg SM.out) (by rw [OL.out]; omega)).mono ?_
            rintro e w6 ⟨rfl, hb6⟩
            rw [HTX.out]
            have TE := TT.out
            simp only [if_true, Bool.false_eq_true, if_false] at *
            rw [← TE]
            have HB := hid (bw_step (bw_step HB.out (bw_alloc (Below.refl _ _) _)) hb6)
            clear hb6 TE
            go_wp2_with fail
            refine (awake_any _).mono ?_
            rintro e w7 ⟨rfl, hb7⟩
            have HB := hid (bw_step HB.out hb7)
            clear hb7
            go_wp2
            go_ret
            exact ⟨rfl, HB.out⟩
end Go.Proofs.Ytnjekacagffelaa
