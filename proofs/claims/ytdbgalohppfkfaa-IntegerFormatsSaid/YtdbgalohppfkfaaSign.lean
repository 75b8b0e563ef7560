/- Walks: Sign, Cmp. -/
import Derived.Test.YtdbgalohppfkfaaSmall
namespace Go.Proofs.Ytdbgalohppfkfaa
open Go.RowKit
set_option linter.unusedVariables false

theorem tr_zero {xs : List Int} (h : Lb xs) : (tr xs).length = 0 ↔ nv xs = 0 := by
  constructor
  · intro e
    rw [← nv_tr, List.eq_nil_of_length_eq_zero e]; rfl
  · intro e
    rw [(Cn.tr xs).zero h.tr (by rw [nv_tr]; exact e)]; rfl

theorem sign_any (w : World) (v : Value) (a : Int) (n : Nat) (ha : IntA w v a n) :
    Calls Try.prog 30 #[v] w fun e w' => e = .returned (.int .i64 (cm a 0)) ∧ Below w.heap.size w w' := by
  obtain ⟨na, s, xs, rfl, hs, hl, hxn, rfl⟩ := ha
  have hz := tr_zero hl
  have hn := nv_nonneg hl
  have hs' := hs.below (bw_alloc (Below.refl _ w) (.cells #[.bool na, s] 24))
  have x0 := Bx.new w (.bool na) s 24
  have HB0 := hid (bw_alloc (Below.refl _ w) (.cells #[.bool na, s] 24))
  go_enter Try.func30, Try.ntmps30
  go_wp2_with fail
  refine (magnitude_any _ _ s na xs rfl hs').mono ?_
  rintro e w1 ⟨⟨s1, rfl, hc1⟩, hb1⟩
  obtain ⟨A1, c1, rfl, _, _⟩ := hc1 _ (hs'.below hb1)
  obtain ⟨k0, k1, f0, f1⟩ := x0.below hb1
  have HB := hid (bw_step HB0.out hb1)
  clear HB0 hb1 hs' hs hc1 x0
  by_cases h0 : (tr xs).length = 0
  · have e0 : cm (sg na (nv xs)) 0 = 0 := by rw [hz.1 h0]; cases na <;> rfl
    have E := hid e0
    clear e0 hz
    go_wp2
    go_ret
    exact ⟨by rw [E.out]; rfl, HB.out⟩
  · have hp : 0 < nv xs := by
      rcases (show nv xs = 0 ∨ 0 < nv xs by omega) with h | h
      · exact absurd (hz.2 h) h0
      · exact h
    have h2 : (((tr xs).length : Int) == 0) = false := by rw [beq_eq_false_iff_ne]; omega
    cases na with
    | false =>
      have E := hid (show cm (sg false (nv xs)) 0 = 1 from cm_gt (by rw [sg_false]; exact hp))
      clear hz hp
      go_wp2
      go_ret
      exact ⟨by rw [E.out]; rfl, HB.out⟩
    | true =>
      have E := hid (show cm (sg true (nv xs)) 0 = -1 from cm_lt (by rw [sg_true]; omega))
      clear hz hp
      go_wp2
      go_ret
      exact ⟨by rw [E.out]; rfl, HB.out⟩
end Go.Proofs.Ytdbgalohppfkfaa
