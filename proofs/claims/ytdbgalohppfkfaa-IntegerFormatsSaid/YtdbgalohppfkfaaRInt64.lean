/- The reference: low, Int64. -/
import Derived.Test.YtdbgalohppfkfaaRMake
import Derived.Test.YtdbgalohppfkfaaInt64
namespace Go.Proofs.Ytdbgalohppfkfaa
open Go.RowKit
set_option linter.unusedVariables false

theorem rlow_any (w : World) (v : Value) (xs : List Int) (hv : SlV w v xs) (hl : Lb xs) :
    Calls Try.prog 53 #[v] w fun e w' => e = .returned (.int .u64 (nv (xs.take 2))) ∧ w = w' := by
  obtain ⟨A, c, rfl, hcap, hsl⟩ := hv
  have HS := hid hsl
  have HL := hid hl
  have lx := hsl.1
  clear hsl hl
  go_enter Try.func53, Try.ntmps53
  go_wp2
  go_loop [3, 4] (fun u i => ∃ k : Nat, i = .int .i64 k ∧ k ≤ xs.length ∧ k ≤ 2 ∧ u = .int .u64 (nv (xs.take k))) (fun _ i => xs.length - (intOf i).toNat)
  case atStart => exact ⟨0, rfl, Nat.zero_le _, by omega, rfl⟩
  case round =>
    obtain ⟨k, rfl, hk, hk2, rfl⟩ := hrel
    by_cases hlt : k < xs.length ∧ k < 2
    · obtain ⟨hlt, hlt2⟩ := hlt
      obtain ⟨b, o, rfl, hcl⟩ := HS.out.at (by omega)
      have c1 := hcl k hlt
      have hk2 : k = 0 ∨ k = 1 := by omega
      clear hcl
      rcases hk2 with rfl | rfl
      · have hl0 := HL.out.lm 0
        have e : nv (xs.take 0) = 0 := rfl
        have e1 := u64_or_zero hl0.1 (by omega)
        rw [Nat.add_zero] at c1
        rw [e]
        go_wp2
        go_round
        case rel => exact ⟨1, rfl, by omega, by omega, by rw [nv_take_succ]; simp [nv_nil, bp_zero]⟩
        case measure => simp [intOf]; omega
      · have hl0 := HL.out.lm 0
        have hl1 := HL.out.lm 1
        have e : nv (xs.take 1) = lm xs 0 := by rw [nv_take_succ]; simp [nv_nil, bp_zero]
        have e1 := u64_or32 hl0.1 hl0.2 hl1.1 hl1.2
        rw [e]
        go_wp2
        go_round
        case rel => exact ⟨2, rfl, by omega, by omega, by rw [nv_take_succ, nv_take_succ]; simp [nv_nil, bp_zero, bp_one, Int.mul_comm]⟩
        case measure => simp [intOf]; omega
    · have E := hid (show nv (xs.take k) = nv (xs.take 2) by
        rcases (show k = 2 ∨ k = xs.length by omega) with h | h
        · rw [h]
        · rw [h, List.take_of_length_le (Nat.le_refl _), List.take_of_length_le (by omega)])
      by_cases h1 : k < xs.length
      · have h2 : ¬ k < 2 := by omega
        clear hlt
        go_wp2
        go_ret
        exact ⟨by rw [← E.out]; rfl, rfl⟩
      · clear hlt
        go_wp2
        go_ret
        exact ⟨by rw [← E.out]; rfl, rfl⟩

theorem rint64_any (w : World) (v : Value) (z : Int) (n : Nat) (h : IntA w v z n) :
    Calls Try.prog 26 #[v] w fun e w' => e = .returned (.tuple #[.int .i64 (low64 z), .bool (fits z)]) ∧ Below w.heap.size w w' := by
  obtain ⟨neg, s, xs, rfl, hs, hl, hn, rfl⟩ := h
  have x0 := Bx.new w (.bool neg) s 24
  have hb0 := bw_alloc (Below.refl _ w) (.cells #[.bool neg, s] 24)
  have S0 := hid (hs.below hb0)
  have HL := hid hl
  have hxl := hs.len
  clear hs hl
  obtain ⟨k0, k1, f0, f1⟩ := id x0
  go_enter Try.func26, Try.ntmps26
  go_wp2_with fail
  refine (rtrim_any _ _ xs S0.out).mono ?_
  rintro e w1 ⟨⟨s1, rfl, hr⟩, hb1⟩
  have HB := hid (bw_step hb0 hb1)
  have V := hid (hr.slv (by rw [tr_length]; have := tl_le xs; omega))
  obtain ⟨A1, c1, rfl⟩ := hr.len
  clear k0 k1 f0 f1
  obtain ⟨k0, k1, f0, f1⟩ := x0.below hb1
  have hnv := hid (nv_tr xs)
  have HLT := hid HL.out.tr
  clear hb0 hb1 hr S0 x0
  go_wp2_with fail
  refine (rlow_any _ _ (tr xs) V.out HLT.out).mono ?_
  rintro e w2 ⟨rfl, rfl⟩
  have HCN := hid (Cn.tr xs)
  clear V
  generalize hms : tr xs = ms at *
  clear hms
  by_cases h2 : 2 < ms.length
  · have hcn : Cn ms := HCN.out
    have hx0 := hcn.le HLT.out (by omega)
    have hx1 := bp_mono (show 2 ≤ ms.length - 1 by omega)
    rw [show bp 2 = 18446744073709551616 from by decide] at hx1
    have hF : fits (sg neg (nv xs)) = false := by
      unfold fits; rw [← hnv.out]
      cases neg
      · rw [sg_false]; simp; omega
      · rw [sg_true]; simp; omega
    have HZ := hid (show low64 (sg neg (nv xs)) = 0 by unfold low64; rw [hF]; rfl)
    have HF := hid hF
    clear hF hx0 hx1 hcn
    go_wp2
    go_ret2
    exact ⟨by rw [HZ.out, HF.out]; rfl, HB.out⟩
  · have hx0 := nv_nonneg HLT.out
    have hx1 := nv_lt HLT.out
    have hx2 := bp_mono (show ms.length ≤ 2 by omega)
    rw [show bp 2 = 18446744073709551616 from by decide] at hx2
    rw [nv_take_all (show ms.length ≤ 2 by omega)]
    generalize hx : nv ms = x at *
    have HX := hid hx
    clear hx
    have hx3 : x < 18446744073709551616 := by omega
    clear hx1 hx2
    cases neg with
    | true =>
      by_cases hf : x ≤ 9223372036854775808
      · have hF : fits (sg true (nv xs)) = true := by unfold fits; rw [sg_true, ← hnv.out]; simp; omega
        have HZ := hid (show low64 (sg true (nv xs)) = -x by unfold low64; rw [hF, sg_true, ← hnv.out]; rfl)
        have HF := hid hF
        clear hF
        have hw : IntKind.i64.wrap (IntKind.u64.wrap (-x)) = -x := by rw [IntKind.wrap_u64, IntKind.wrap_i64]; omega
        go_wp2
        go_ret2
        exact ⟨by rw [HZ.out, HF.out]; rfl, HB.out⟩
      · have hF : fits (sg true (nv xs)) = false := by unfold fits; rw [sg_true, ← hnv.out]; simp; omega
        have HZ := hid (show low64 (sg true (nv xs)) = 0 by unfold low64; rw [hF]; rfl)
        have HF := hid hF
        clear hF
        go_wp2
        go_ret2
        exact ⟨by rw [HZ.out, HF.out]; rfl, HB.out⟩
    | false =>
      by_cases hf : x ≤ 9223372036854775807
      · have hF : fits (sg false (nv xs)) = true := by unfold fits; rw [sg_false, ← hnv.out]; simp; omega
        have HZ := hid (show low64 (sg false (nv xs)) = x by unfold low64; rw [hF, sg_false, ← hnv.out]; rfl)
        have HF := hid hF
        clear hF
        go_wp2
        go_ret2
        exact ⟨by rw [HZ.out, HF.out]; rfl, HB.out⟩
      · have hF : fits (sg false (nv xs)) = false := by unfold fits; rw [sg_false, ← hnv.out]; simp; omega
        have HZ := hid (show low64 (sg false (nv xs)) = 0 by unfold low64; rw [hF]; rfl)
        have HF := hid hF
        clear hF
        go_wp2
        go_ret2
        exact ⟨by rw [HZ.out, HF.out]; rfl, HB.out⟩
end Go.Proofs.Ytdbgalohppfkfaa
