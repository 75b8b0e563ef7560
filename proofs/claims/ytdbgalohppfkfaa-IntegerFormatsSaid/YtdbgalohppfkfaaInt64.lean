/- Walk: Int64. -/
import Derived.Test.YtdbgalohppfkfaaSmall
namespace Go.Proofs.Ytdbgalohppfkfaa
open Go.RowKit

/-- What Int64 answers. -/
def fits (z : Int) : Bool := decide (-9223372036854775808 ≤ z ∧ z < 9223372036854775808)
def low64 (z : Int) : Int := if fits z then z else 0

theorem int64_any (w : World) (v : Value) (z : Int) (n : Nat) (h : IntA w v z n) :
    Calls Try.prog 16 #[v] w fun e w' => e = .returned (.tuple #[.int .i64 (low64 z), .bool (fits z)]) ∧ Below w.heap.size w w' := by
  obtain ⟨neg, s, xs, rfl, hs, hl, hn, rfl⟩ := h
  go_enter Try.func16, Try.ntmps16
  go_wp2_with fail
  refine (magnitude_any _ _ s neg xs rfl (hs.below ((Below.refl _ _).alloc (Nat.le_refl _) _))).mono ?_
  rintro e w1 ⟨⟨s', rfl, hc⟩, hb⟩
  have hs1 := hc _ (hs.below (((Below.refl _ _).alloc (Nat.le_refl _) _).trans (hb.mono (by simp))))
  obtain ⟨A, c, rfl, hcap, hsl⟩ := hs1
  have HL := hid hl
  obtain ⟨k0, k1, f0, f1⟩ := box_cells (a := .bool neg) (b := s) (T := 24) (w := w) (w1 := w1) (by simpa using hb)
  have HB := hid (((Below.refl _ w).alloc (Nat.le_refl _) _).trans (hb.mono (by simp)))
  clear hb hc hs hl
  have hnv := hid (nv_tr xs)
  generalize hms : tr xs = ms at *
  have HM := hid hms
  clear hms
  by_cases h2 : 2 < ms.length
  · have hcn : Cn ms := HM.out ▸ Cn.tr xs
    have hx0 := hcn.le (HM.out ▸ HL.out.tr : Lb ms) (by omega)
    have hx1 := bp_mono (show 2 ≤ ms.length - 1 by omega)
    rw [show bp 2 = 18446744073709551616 from by decide] at hx1
    have hF : fits (sg neg (nv xs)) = false := by
      unfold fits; rw [← hnv.out]
      cases neg
      · rw [sg_false]; simp; omega
      · rw [sg_true]; simp; omega
    have HZ := hid (show low64 (sg neg (nv xs)) = 0 by unfold low64; rw [hF]; rfl)
    have HF := hid hF
    clear hF hx0 hx1 hcn
    go_wp2
    go_ret2
    exact ⟨by rw [HZ.out, HF.out]; rfl, HB.out⟩
  · go_wp2
    go_loop [5, 14] (fun u i => ∃ k : Nat, i = .int .i64 k ∧ k ≤ ms.length ∧ u = .int .u64 (nv (ms.take k))) (fun _ i => ms.length - (intOf i).toNat)
    case atStart => exact ⟨0, rfl, Nat.zero_le _, rfl⟩
    case round =>
      obtain ⟨k, rfl, hk, rfl⟩ := hrel
      by_cases hlt : k < ms.length
      · obtain ⟨b, o, rfl, hcl⟩ := hsl.at (by omega)
        have c1 := hcl k hlt
        have hk2 : k = 0 ∨ k = 1 := by omega
        have HK := hid hcl
        clear hcl
        rcases hk2 with rfl | rfl
        · have hl0 := ((HM.out ▸ HL.out.tr : Lb ms).lm 0)
          have e : nv (ms.take 0) = 0 := rfl
          have e1 := u64_or_zero hl0.1 (by omega)
          rw [Nat.add_zero] at c1
          rw [e]
          go_wp2
          go_round
          case rel => exact ⟨1, rfl, by omega, by rw [nv_take_succ]; simp [nv_nil, bp_zero]⟩
          case measure => simp [intOf]; omega
        · have hl0 := ((HM.out ▸ HL.out.tr : Lb ms).lm 0)
          have hl1 := ((HM.out ▸ HL.out.tr : Lb ms).lm 1)
          have e : nv (ms.take 1) = lm ms 0 := by rw [nv_take_succ]; simp [nv_nil, bp_zero]
          have e1 := u64_or32 hl0.1 hl0.2 hl1.1 hl1.2
          rw [e]
          go_wp2
          go_round
          case rel => exact ⟨2, rfl, by omega, by rw [nv_take_succ, nv_take_succ]; simp [nv_nil, bp_zero, bp_one, Int.mul_comm]⟩
          case measure => simp [intOf]; omega
      · obtain rfl : k = ms.length := by omega
        have hx0 := nv_nonneg (HM.out ▸ HL.out.tr : Lb ms)
        have hx1 := nv_lt (HM.out ▸ HL.out.tr : Lb ms)
        have hx2 := bp_mono (show ms.length ≤ 2 by omega)
        rw [show bp 2 = 18446744073709551616 from by decide] at hx2
        rw [nv_take_all (Nat.le_refl _)]
        generalize hx : nv ms = x at *
        have HX := hid hx
        clear hx
        have hx3 : x < 18446744073709551616 := by omega
        clear hx1 hx2
        cases neg with
        | true =>
          by_cases hf : x ≤ 9223372036854775808
          · have hF : fits (sg true (nv xs)) = true := by unfold fits; rw [sg_true, ← hnv.out]; simp; omega
            have HZ := hid (show low64 (sg true (nv xs)) = -x by unfold low64; rw [hF, sg_true, ← hnv.out]; rfl)
            have HF := hid hF
            clear hF
            have hw : IntKind.i64.wrap (IntKind.u64.wrap (-x)) = -x := by rw [IntKind.wrap_u64, IntKind.wrap_i64]; omega
            go_wp2
            go_ret2
            exact ⟨by rw [HZ.out, HF.out]; rfl, HB.out⟩
          · have hF : fits (sg true (nv xs)) = false := by unfold fits; rw [sg_true, ← hnv.out]; simp; omega
            have HZ := hid (show low64 (sg true (nv xs)) = 0 by unfold low64; rw [hF]; rfl)
            have HF := hid hF
            clear hF
            go_wp2
            go_ret2
            exact ⟨by rw [HZ.out, HF.out]; rfl, HB.out⟩
        | false =>
          by_cases hf : x ≤ 9223372036854775807
          · have hF : fits (sg false (nv xs)) = true := by unfold fits; rw [sg_false, ← hnv.out]; simp; omega
            have HZ := hid (show low64 (sg false (nv xs)) = x by unfold low64; rw [hF, sg_false, ← hnv.out]; rfl)
            have HF := hid hF
            clear hF
            go_wp2
            go_ret2
            exact ⟨by rw [HZ.out, HF.out]; rfl, HB.out⟩
          · have hF : fits (sg false (nv xs)) = false := by unfold fits; rw [sg_false, ← hnv.out]; simp; omega
            have HZ := hid (show low64 (sg false (nv xs)) = 0 by unfold low64; rw [hF]; rfl)
            have HF := hid hF
            clear hF
            go_wp2
            go_ret2
            exact ⟨by rw [HZ.out, HF.out]; rfl, HB.out⟩
end Go.Proofs.Ytdbgalohppfkfaa
