/- The reference: Same. -/
import Derived.Test.YtnjekacagffelaaRCmp
import Derived.Test.YtnjekacagffelaaIntV
namespace Go.Proofs.Ytnjekacagffelaa
open Go.RowKit
set_option linter.unusedVariables false

theorem cm_form' (a b : Int) : (a = b ∧ cm a b = 0) ∨ (a ≠ b ∧ (cm a b == 0) = false) := by
  unfold cm
  by_cases h : a < b
  · exact .inr ⟨by omega, by rw [if_pos h]; rfl⟩
  · by_cases h2 : a = b
    · exact .inl ⟨h2, by rw [if_neg h, if_pos h2]⟩
    · exact .inr ⟨h2, by rw [if_neg h, if_neg h2]; rfl⟩
theorem rsame_raw (w : World) (na nb : Bool) (s r : Value) (xs ys : List Int) (hs : SlV w s xs) (hr : SlV w r ys) (hl : Lb xs) (hk : Lb ys) :
    Calls Try.prog 13 #[.agg #[.bool na, s], .agg #[.bool nb, r]] w fun e w' => e = .returned (.bool (decide (na = nb ∧ xs = ys))) ∧ Below w.heap.size w w' := by
  generalize hR : decide (na = nb ∧ xs = ys) = R
  obtain ⟨W, hW⟩ : ∃ W, W = (w.alloc (.cells #[.bool na, s] 24)).alloc (.cells #[.bool nb, r] 24) := ⟨_, rfl⟩
  have X := Bx.two w (.bool na) s (.bool nb) r 24
  rw [← hW] at X
  obtain ⟨x0, x1⟩ := X
  have HB : Below w.heap.size w W := by rw [hW]; exact bw_alloc (bw_alloc (Below.refl _ _) _) _
  have S0 := hid (hs.below HB)
  have R0 := hid (hr.below HB)
  have HL := hid hl
  have HK := hid hk
  have HB := hid HB
  obtain ⟨A1, c1, rfl, _, hs1⟩ := hs
  obtain ⟨A2, c2, rfl, _, hr1⟩ := hr
  have l1 := hs1.1
  have l2 := hr1.1
  clear hl hk hs1 hr1
  by_cases hn : na = nb
  · subst hn
    by_cases hlen : xs.length = ys.length
    · have E := hid (show (cm (nv xs) (nv ys) == 0) = R by
        rw [← hR]
        rcases cm_form' (nv xs) (nv ys) with ⟨h, e⟩ | ⟨h, e⟩
        · rw [e, show xs = ys from nv_inj HL.out HK.out hlen h]; simp
        · have : xs ≠ ys := fun e => h (by rw [e])
          rw [e]; simp [this])
      have HLEN := hid hlen
      have d0 : (na == na) = true := by simp
      have d1 : ((xs.length : Int) == (ys.length : Int)) = true := by rw [beq_iff_eq]; omega
      clear hlen hR
      go_enter Try.func13, Try.ntmps13
      go_wp2_with fail
      rw [← hW]
      clear hW
      refine (rcmp_len _ _ _ xs ys S0.out R0.out HL.out HK.out HLEN.out).mono ?_
      rintro e w1 ⟨rfl, ⟨nq, rfl⟩⟩
      have HBn := hid (below_drewN HB.out nq)
      go_wp2
      go_ret
      exact ⟨by rw [← E.out]; first | rfl | simp, HBn.out⟩
    · have E := hid (show R = false by
        rw [← hR, decide_eq_false_iff_not]; intro h; exact hlen (by rw [h.2]))
      have d0 : (na == na) = true := by simp
      have d1 : ((xs.length : Int) == (ys.length : Int)) = false := by rw [beq_eq_false_iff_ne]; omega
      clear hlen hR
      go_enter Try.func13, Try.ntmps13
      go_wp2
      go_ret
      exact ⟨by rw [E.out]; rfl, by rw [← hW]; exact HB.out⟩
  · have E := hid (show R = false by
      rw [← hR, decide_eq_false_iff_not]; intro h; exact hn h.1)
    have d0 : (na == nb) = false := by simp [hn]
    clear hn hR
    go_enter Try.func13, Try.ntmps13
    go_wp2
    go_ret
    exact ⟨by rw [E.out]; rfl, by rw [← hW]; exact HB.out⟩
theorem rsame_any (w : World) (v u : Value) (a b : Int) (hv : IntV w v a) (hu : IntV w u b) :
    Calls Try.prog 13 #[v, u] w fun e w' => e = .returned (.bool (decide (a = b))) ∧ Below w.heap.size w w' := by
  obtain ⟨na, s, xs, rfl, hs, hl, hc, hn, ha⟩ := hv
  obtain ⟨nb, r, ys, rfl, hr, hk, hd, hm, hb⟩ := hu
  have e : decide (a = b) = decide (na = nb ∧ xs = ys) := by
    rw [decide_eq_decide]
    constructor
    · intro h
      rw [ha, hb] at h
      have h1 := nv_nonneg hl
      have h2 := nv_nonneg hk
      cases na with
      | false =>
        cases nb with
        | false => exact ⟨rfl, hc.inj hl hk hd (by simpa [sg] using h)⟩
        | true =>
          exfalso
          rw [sg_false, sg_true] at h
          exact hm rfl (hd.zero hk (by omega))
      | true =>
        cases nb with
        | true => exact ⟨rfl, hc.inj hl hk hd (by rw [sg_true, sg_true] at h; omega)⟩
        | false =>
          exfalso
          rw [sg_false, sg_true] at h
          exact hn rfl (hc.zero hl (by omega))
    · rintro ⟨rfl, rfl⟩
      rw [ha, hb]
  rw [e]
  exact rsame_raw w na nb s r xs ys hs hr hl hk
end Go.Proofs.Ytnjekacagffelaa
