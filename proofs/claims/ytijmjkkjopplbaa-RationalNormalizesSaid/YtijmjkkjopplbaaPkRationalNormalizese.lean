/- A part of the proof of the laws of rationals: RMake, RLow, RSign, RAbs. -/
import Derived.Test.YtijmjkkjopplbaaPam
import Derived.Test.YtijmjkkjopplbaaPab
import Derived.Test.YtijmjkkjopplbaaPac
import Derived.Test.YtijmjkkjopplbaaPkRationalNormalizesa
import Derived.Test.YtijmjkkjopplbaaPai
import Derived.Test.YtijmjkkjopplbaaPaa
import Derived.Test.YtijmjkkjopplbaaPkRationalNormalizesd
import Derived.Test.YtijmjkkjopplbaaPar
import Derived.Test.YtijmjkkjopplbaaPae
namespace Go.Proofs.Ytijmjkkjopplbaa
open Go.RowKit
set_option linter.unusedVariables false
set_option maxRecDepth 100000

theorem rnormalize_any (w : World) (v : Value) (a : Int) (n : Nat) (ha : IntA w v a n) :
    Calls Try.prog 58 #[v] w fun e w' => RetI w' (a) e ∧ Below w.heap.size w w' := by
  obtain ⟨na, s, xs, rfl, hs, hl, hxn, rfl⟩ := ha
  obtain ⟨W, hW⟩ : ∃ W, W = (w.alloc (.cells #[.bool na, s] 24)).alloc (.cells #[.bool false, .slice none 0 0] 24) := ⟨_, rfl⟩
  have X := Bx.two w (.bool na) s (.bool false) (.slice none 0 0) 24
  rw [← hW] at X
  obtain ⟨x0, x1⟩ := X
  have HB : Below w.heap.size w W := by rw [hW]; exact bw_alloc (bw_alloc (Below.refl _ _) _) _
  have S0 := hid (hs.below HB)
  have HL := hid hl
  clear hl hs
  obtain ⟨k0, k1, f0, f1⟩ := id x0
  go_enter Try.func58, Try.ntmps58
  go_wp2_with fail
  rw [← hW]
  clear hW
  refine (rmake_any _ na s xs S0.out HL.out).mono ?_
  rintro e w1 ⟨⟨v1, rfl, hv1⟩, hb1⟩
  have HB := hid (bw_step HB hb1)
  obtain ⟨k2, k3, f2, f3⟩ := x1.below hb1
  obtain ⟨q, A, m, c, rfl⟩ := hv1.form
  have F := hid (fin_any HB.out (g := w.heap.size + 1) (Nat.le_succ _) k2 k3 hv1 (.bool q) (.slice A m c))
  clear hb1 hv1 x0 x1 k0 k1 f0 f1
  go_wp2
  exact bodyPost_ret (v := .agg #[.bool q, .slice A m c]) (by simp [results, Try.results58, go_sem, k2, k3]) rfl ⟨⟨_, rfl, F.out.1⟩, F.out.2⟩

theorem rneg_any (w : World) (v : Value) (a : Int) (n : Nat) (ha : IntA w v a n) :
    Calls Try.prog 61 #[v] w fun e w' => RetI w' (-a) e ∧ Below w.heap.size w w' := by
  obtain ⟨na, s, xs, rfl, hs, hl, hxn, rfl⟩ := ha
  obtain ⟨W, hW⟩ : ∃ W, W = (w.alloc (.cells #[.bool na, s] 24)).alloc (.cells #[.bool false, .slice none 0 0] 24) := ⟨_, rfl⟩
  have X := Bx.two w (.bool na) s (.bool false) (.slice none 0 0) 24
  rw [← hW] at X
  obtain ⟨x0, x1⟩ := X
  have HB : Below w.heap.size w W := by rw [hW]; exact bw_alloc (bw_alloc (Below.refl _ _) _) _
  have S0 := hid (hs.below HB)
  have HL := hid hl
  have E := hid (show sg (!na) (nv xs) = -sg na (nv xs) from by (cases na <;> simp [sg]))
  clear hl hs
  obtain ⟨k0, k1, f0, f1⟩ := id x0
  go_enter Try.func61, Try.ntmps61
  go_wp2_with fail
  rw [← hW]
  clear hW
  refine (rmake_any _ (!na) s xs S0.out HL.out).mono ?_
  rintro e w1 ⟨⟨v1, rfl, hv1⟩, hb1⟩
  have HB := hid (bw_step HB hb1)
  obtain ⟨k2, k3, f2, f3⟩ := x1.below hb1
  obtain ⟨q, A, m, c, rfl⟩ := hv1.form
  rw [E.out] at hv1
  have F := hid (fin_any HB.out (g := w.heap.size + 1) (Nat.le_succ _) k2 k3 hv1 (.bool q) (.slice A m c))
  clear hb1 hv1 x0 x1 k0 k1 f0 f1
  go_wp2
  exact bodyPost_ret (v := .agg #[.bool q, .slice A m c]) (by simp [results, Try.results61, go_sem, k2, k3]) rfl ⟨⟨_, rfl, F.out.1⟩, F.out.2⟩

end Go.Proofs.Ytijmjkkjopplbaa

namespace Go.Proofs.Ytijmjkkjopplbaa
open Go.RowKit
set_option linter.unusedVariables false
set_option maxRecDepth 100000

theorem rlow_any (w : World) (v : Value) (xs : List Int) (hv : SlV w v xs) (hl : Lb xs) :
    Calls Try.prog 75 #[v] w fun e w' => e = .returned (.int .u64 (nv (xs.take 2))) ∧ w = w' := by
  obtain ⟨A, c, rfl, hcap, hsl⟩ := hv
  have HS := hid hsl
  have HL := hid hl
  have lx := hsl.1
  clear hsl hl
  go_enter Try.func75, Try.ntmps75
  go_wp2
  go_loop [3, 4] (fun u i => ∃ k : Nat, i = .int .i64 k ∧ k ≤ xs.length ∧ k ≤ 2 ∧ u = .int .u64 (nv (xs.take k))) (fun _ i => xs.length - (intOf i).toNat)
  case atStart => exact ⟨0, rfl, Nat.zero_le _, by omega, rfl⟩
  case round =>
    obtain ⟨k, rfl, hk, hk2, rfl⟩ := hrel
    by_cases hlt : k < xs.length ∧ k < 2
    · obtain ⟨hlt, hlt2⟩ := hlt
      obtain ⟨b, o, rfl, hcl⟩ := HS.out.at (by omega)
      have c1 := hcl k hlt
      have hk2 : k = 0 ∨ k = 1 := by omega
      clear hcl
      rcases hk2 with rfl | rfl
      · have hl0 := HL.out.lm 0
        have e : nv (xs.take 0) = 0 := rfl
        have e1 := u64_or_zero hl0.1 (by omega)
        rw [Nat.add_zero] at c1
        rw [e]
        go_wp2
        go_round
        case rel => exact ⟨1, rfl, by omega, by omega, by rw [nv_take_succ]; simp [nv_nil, bp_zero]⟩
        case measure => simp [intOf]; omega
      · have hl0 := HL.out.lm 0
        have hl1 := HL.out.lm 1
        have e : nv (xs.take 1) = lm xs 0 := by rw [nv_take_succ]; simp [nv_nil, bp_zero]
        have e1 := u64_or32 hl0.1 hl0.2 hl1.1 hl1.2
        rw [e]
        go_wp2
        go_round
        case rel => exact ⟨2, rfl, by omega, by omega, by rw [nv_take_succ, nv_take_succ]; simp [nv_nil, bp_zero, bp_one, Int.mul_comm]⟩
        case measure => simp [intOf]; omega
    · have E := hid (show nv (xs.take k) = nv (xs.take 2) by
        rcases (show k = 2 ∨ k = xs.length by omega) with h | h
        · rw [h]
        · rw [h, List.take_of_length_le (Nat.le_refl _), List.take_of_length_le (by omega)])
      by_cases h1 : k < xs.length
      · have h2 : ¬ k < 2 := by omega
        clear hlt
        go_wp2
        go_ret
        exact ⟨by rw [← E.out]; rfl, rfl⟩
      · clear hlt
        go_wp2
        go_ret
        exact ⟨by rw [← E.out]; rfl, rfl⟩
end Go.Proofs.Ytijmjkkjopplbaa

namespace Go.Proofs.Ytijmjkkjopplbaa
open Go.RowKit
set_option linter.unusedVariables false
set_option maxRecDepth 100000

theorem rsign_any (w : World) (v : Value) (a : Int) (n : Nat) (ha : IntA w v a n) :
    Calls Try.prog 72 #[v] w fun e w' => e = .returned (.int .i64 (cm a 0)) ∧ Below w.heap.size w w' := by
  obtain ⟨na, s, xs, rfl, hs, hl, hxn, rfl⟩ := ha
  have hz := tr_zero hl
  have hn := nv_nonneg hl
  have hs' := hs.below (bw_alloc (Below.refl _ w) (.cells #[.bool na, s] 24))
  have x0 := Bx.new w (.bool na) s 24
  have HB0 := hid (bw_alloc (Below.refl _ w) (.cells #[.bool na, s] 24))
  obtain ⟨k0, k1, f0, f1⟩ := id x0
  go_enter Try.func72, Try.ntmps72
  go_wp2_with fail
  refine (rtrim_any _ _ xs hs').mono ?_
  rintro e w1 ⟨⟨s1, rfl, hr⟩, hb1⟩
  obtain ⟨A1, c1, rfl⟩ := hr.len
  clear k0 k1 f0 f1
  obtain ⟨k0, k1, f0, f1⟩ := x0.below hb1
  have HB := hid (bw_step HB0.out hb1)
  clear HB0 hb1 hs' hs hr x0
  by_cases h0 : (tr xs).length = 0
  · have e0 : cm (sg na (nv xs)) 0 = 0 := by rw [hz.1 h0]; cases na <;> rfl
    have E := hid e0
    clear e0 hz
    go_wp2
    go_ret
    exact ⟨by rw [E.out]; rfl, HB.out⟩
  · have hp : 0 < nv xs := by
      rcases (show nv xs = 0 ∨ 0 < nv xs by omega) with h | h
      · exact absurd (hz.2 h) h0
      · exact h
    have h2 : (((tr xs).length : Int) == 0) = false := by rw [beq_eq_false_iff_ne]; omega
    cases na with
    | false =>
      have E := hid (show cm (sg false (nv xs)) 0 = 1 from cm_gt (by rw [sg_false]; exact hp))
      clear hz hp
      go_wp2
      go_ret
      exact ⟨by rw [E.out]; rfl, HB.out⟩
    | true =>
      have E := hid (show cm (sg true (nv xs)) 0 = -1 from cm_lt (by rw [sg_true]; omega))
      clear hz hp
      go_wp2
      go_ret
      exact ⟨by rw [E.out]; rfl, HB.out⟩

end Go.Proofs.Ytijmjkkjopplbaa

namespace Go.Proofs.Ytijmjkkjopplbaa
open Go.RowKit
set_option linter.unusedVariables false
set_option maxRecDepth 100000

theorem rabs_any (w : World) (v : Value) (a : Int) (n : Nat) (ha : IntA w v a n) :
    Calls Try.prog 73 #[v] w fun e w' => RetI w' ((a.natAbs : Int)) e ∧ Below w.heap.size w w' := by
  obtain ⟨na, s, xs, rfl, hs, hl, hxn, rfl⟩ := ha
  obtain ⟨W, hW⟩ : ∃ W, W = (w.alloc (.cells #[.bool na, s] 24)).alloc (.cells #[.bool false, .slice none 0 0] 24) := ⟨_, rfl⟩
  have X := Bx.two w (.bool na) s (.bool false) (.slice none 0 0) 24
  rw [← hW] at X
  obtain ⟨x0, x1⟩ := X
  have HB : Below w.heap.size w W := by rw [hW]; exact bw_alloc (bw_alloc (Below.refl _ _) _) _
  have S0 := hid (hs.below HB)
  have HL := hid hl
  have E := hid (show sg false (nv xs) = ((sg na (nv xs)).natAbs : Int) from by (have h := nv_nonneg hl; cases na <;> simp [sg] <;> omega))
  clear hl hs
  obtain ⟨k0, k1, f0, f1⟩ := id x0
  go_enter Try.func73, Try.ntmps73
  go_wp2_with fail
  rw [← hW]
  clear hW
  refine (rmake_any _ false s xs S0.out HL.out).mono ?_
  rintro e w1 ⟨⟨v1, rfl, hv1⟩, hb1⟩
  have HB := hid (bw_step HB hb1)
  obtain ⟨k2, k3, f2, f3⟩ := x1.below hb1
  obtain ⟨q, A, m, c, rfl⟩ := hv1.form
  rw [E.out] at hv1
  have F := hid (fin_any HB.out (g := w.heap.size + 1) (Nat.le_succ _) k2 k3 hv1 (.bool q) (.slice A m c))
  clear hb1 hv1 x0 x1 k0 k1 f0 f1
  go_wp2
  exact bodyPost_ret (v := .agg #[.bool q, .slice A m c]) (by simp [results, Try.results73, go_sem, k2, k3]) rfl ⟨⟨_, rfl, F.out.1⟩, F.out.2⟩
end Go.Proofs.Ytijmjkkjopplbaa

