/- A part of the proof of the laws of rationals: RMake, RLow, RSign, RAbs, RMul. -/
import Derived.Test.YtijmjkkjopplbaaPam
import Derived.Test.YtijmjkkjopplbaaPab
import Derived.Test.YtijmjkkjopplbaaPac
import Derived.Test.YtijmjkkjopplbaaPkRationalReadsa
import Derived.Test.YtijmjkkjopplbaaPai
import Derived.Test.YtijmjkkjopplbaaPaa
import Derived.Test.YtijmjkkjopplbaaPkRationalReadsd
import Derived.Test.YtijmjkkjopplbaaPar
import Derived.Test.YtijmjkkjopplbaaPae
namespace Go.Proofs.Ytijmjkkjopplbaa
open Go.RowKit
set_option linter.unusedVariables false
set_option maxRecDepth 100000

theorem rnormalize_any (w : World) (v : Value) (a : Int) (n : Nat) (ha : IntA w v a n) :
    Calls Try.prog 58 #[v] w fun e w' => RetI w' (a) e ∧ Below w.heap.size w w' := by
  obtain ⟨na, s, xs, rfl, hs, hl, hxn, rfl⟩ := ha
  obtain ⟨W, hW⟩ : ∃ W, W = (w.alloc (.cells #[.bool na, s] 24)).alloc (.cells #[.bool false, .slice none 0 0] 24) := ⟨_, rfl⟩
  have X := Bx.two w (.bool na) s (.bool false) (.slice none 0 0) 24
  rw [← hW] at X
  obtain ⟨x0, x1⟩ := X
  have HB : Below w.heap.size w W := by rw [hW]; exact bw_alloc (bw_alloc (Below.refl _ _) _) _
  have S0 := hid (hs.below HB)
  have HL := hid hl
  clear hl hs
  obtain ⟨k0, k1, f0, f1⟩ := id x0
  go_enter Try.func58, Try.ntmps58
  go_wp2_with fail
  rw [← hW]
  clear hW
  refine (rmake_any _ na s xs S0.out HL.out).mono ?_
  rintro e w1 ⟨⟨v1, rfl, hv1⟩, hb1⟩
  have HB := hid (bw_step HB hb1)
  obtain ⟨k2, k3, f2, f3⟩ := x1.below hb1
  obtain ⟨q, A, m, c, rfl⟩ := hv1.form
  have F := hid (fin_any HB.out (g := w.heap.size + 1) (Nat.le_succ _) k2 k3 hv1 (.bool q) (.slice A m c))
  clear hb1 hv1 x0 x1 k0 k1 f0 f1
  go_wp2
  exact bodyPost_ret (v := .agg #[.bool q, .slice A m c]) (by simp [results, Try.results58, go_sem, k2, k3]) rfl ⟨⟨_, rfl, F.out.1⟩, F.out.2⟩

theorem rneg_any (w : World) (v : Value) (a : Int) (n : Nat) (ha : IntA w v a n) :
    Calls Try.prog 61 #[v] w fun e w' => RetI w' (-a) e ∧ Below w.heap.size w w' := by
  obtain ⟨na, s, xs, rfl, hs, hl, hxn, rfl⟩ := ha
  obtain ⟨W, hW⟩ : ∃ W, W = (w.alloc (.cells #[.bool na, s] 24)).alloc (.cells #[.bool false, .slice none 0 0] 24) := ⟨_, rfl⟩
  have X := Bx.two w (.bool na) s (.bool false) (.slice none 0 0) 24
  rw [← hW] at X
  obtain ⟨x0, x1⟩ := X
  have HB : Below w.heap.size w W := by rw [hW]; exact bw_alloc (bw_alloc (Below.refl _ _) _) _
  have S0 := hid (hs.below HB)
  have HL := hid hl
  have E := hid (show sg (!na) (nv xs) = -sg na (nv xs) from by (cases na <;> simp [sg]))
  clear hl hs
  obtain ⟨k0, k1, f0, f1⟩ := id x0
  go_enter Try.func61, Try.ntmps61
  go_wp2_with fail
  rw [← hW]
  clear hW
  refine (rmake_any _ (!na) s xs S0.out HL.out).mono ?_
  rintro e w1 ⟨⟨v1, rfl, hv1⟩, hb1⟩
  have HB := hid (bw_step HB hb1)
  obtain ⟨k2, k3, f2, f3⟩ := x1.below hb1
  obtain ⟨q, A, m, c, rfl⟩ := hv1.form
  rw [E.out] at hv1
  have F := hid (fin_any HB.out (g := w.heap.size + 1) (Nat.le_succ _) k2 k3 hv1 (.bool q) (.slice A m c))
  clear hb1 hv1 x0 x1 k0 k1 f0 f1
  go_wp2
  exact bodyPost_ret (v := .agg #[.bool q, .slice A m c]) (by simp [results, Try.results61, go_sem, k2, k3]) rfl ⟨⟨_, rfl, F.out.1⟩, F.out.2⟩

end Go.Proofs.Ytijmjkkjopplbaa

namespace Go.Proofs.Ytijmjkkjopplbaa
open Go.RowKit
set_option linter.unusedVariables false
set_option maxRecDepth 100000

theorem rlow_any (w : World) (v : Value) (xs : List Int) (hv : SlV w v xs) (hl : Lb xs) :
    Calls Try.prog 75 #[v] w fun e w' => e = .returned (.int .u64 (nv (xs.take 2))) ∧ w = w' := by
  obtain ⟨A, c, rfl, hcap, hsl⟩ := hv
  have HS := hid hsl
  have HL := hid hl
  have lx := hsl.1
  clear hsl hl
  go_enter Try.func75, Try.ntmps75
  go_wp2
  go_loop [3, 4] (fun u i => ∃ k : Nat, i = .int .i64 k ∧ k ≤ xs.length ∧ k ≤ 2 ∧ u = .int .u64 (nv (xs.take k))) (fun _ i => xs.length - (intOf i).toNat)
  case atStart => exact ⟨0, rfl, Nat.zero_le _, by omega, rfl⟩
  case round =>
    obtain ⟨k, rfl, hk, hk2, rfl⟩ := hrel
    by_cases hlt : k < xs.length ∧ k < 2
    · obtain ⟨hlt, hlt2⟩ := hlt
      obtain ⟨b, o, rfl, hcl⟩ := HS.out.at (by omega)
      have c1 := hcl k hlt
      have hk2 : k = 0 ∨ k = 1 := by omega
      clear hcl
      rcases hk2 with rfl | rfl
      · have hl0 := HL.out.lm 0
        have e : nv (xs.take 0) = 0 := rfl
        have e1 := u64_or_zero hl0.1 (by omega)
        rw [Nat.add_zero] at c1
        rw [e]
        go_wp2
        go_round
        case rel => exact ⟨1, rfl, by omega, by omega, by rw [nv_take_succ]; simp [nv_nil, bp_zero]⟩
        case measure => simp [intOf]; omega
      · have hl0 := HL.out.lm 0
        have hl1 := HL.out.lm 1
        have e : nv (xs.take 1) = lm xs 0 := by rw [nv_take_succ]; simp [nv_nil, bp_zero]
        have e1 := u64_or32 hl0.1 hl0.2 hl1.1 hl1.2
        rw [e]
        go_wp2
        go_round
        case rel => exact ⟨2, rfl, by omega, by omega, by rw [nv_take_succ, nv_take_succ]; simp [nv_nil, bp_zero, bp_one, Int.mul_comm]⟩
        case measure => simp [intOf]; omega
    · have E := hid (show nv (xs.take k) = nv (xs.take 2) by
        rcases (show k = 2 ∨ k = xs.length by omega) with h | h
        · rw [h]
        · rw [h, List.take_of_length_le (Nat.le_refl _), List.take_of_length_le (by omega)])
      by_cases h1 : k < xs.length
      · have h2 : ¬ k < 2 := by omega
        clear hlt
        go_wp2
        go_ret
        exact ⟨by rw [← E.out]; rfl, rfl⟩
      · clear hlt
        go_wp2
        go_ret
        exact ⟨by rw [← E.out]; rfl, rfl⟩
end Go.Proofs.Ytijmjkkjopplbaa

namespace Go.Proofs.Ytijmjkkjopplbaa
open Go.RowKit
set_option linter.unusedVariables false
set_option maxRecDepth 100000

theorem rsign_any (w : World) (v : Value) (a : Int) (n : Nat) (ha : IntA w v a n) :
    Calls Try.prog 72 #[v] w fun e w' => e = .returned (.int .i64 (cm a 0)) ∧ Below w.heap.size w w' := by
  obtain ⟨na, s, xs, rfl, hs, hl, hxn, rfl⟩ := ha
  have hz := tr_zero hl
  have hn := nv_nonneg hl
  have hs' := hs.below (bw_alloc (Below.refl _ w) (.cells #[.bool na, s] 24))
  have x0 := Bx.new w (.bool na) s 24
  have HB0 := hid (bw_alloc (Below.refl _ w) (.cells #[.bool na, s] 24))
  obtain ⟨k0, k1, f0, f1⟩ := id x0
  go_enter Try.func72, Try.ntmps72
  go_wp2_with fail
  refine (rtrim_any _ _ xs hs').mono ?_
  rintro e w1 ⟨⟨s1, rfl, hr⟩, hb1⟩
  obtain ⟨A1, c1, rfl⟩ := hr.len
  clear k0 k1 f0 f1
  obtain ⟨k0, k1, f0, f1⟩ := x0.below hb1
  have HB := hid (bw_step HB0.out hb1)
  clear HB0 hb1 hs' hs hr x0
  by_cases h0 : (tr xs).length = 0
  · have e0 : cm (sg na (nv xs)) 0 = 0 := by rw [hz.1 h0]; cases na <;> rfl
    have E := hid e0
    clear e0 hz
    go_wp2
    go_ret
    exact ⟨by rw [E.out]; rfl, HB.out⟩
  · have hp : 0 < nv xs := by
      rcases (show nv xs = 0 ∨ 0 < nv xs by omega) with h | h
      · exact absurd (hz.2 h) h0
      · exact h
    have h2 : (((tr xs).length : Int) == 0) = false := by rw [beq_eq_false_iff_ne]; omega
    cases na with
    | false =>
      have E := hid (show cm (sg false (nv xs)) 0 = 1 from cm_gt (by rw [sg_false]; exact hp))
      clear hz hp
      go_wp2
      go_ret
      exact ⟨by rw [E.out]; rfl, HB.out⟩
    | true =>
      have E := hid (show cm (sg true (nv xs)) 0 = -1 from cm_lt (by rw [sg_true]; omega))
      clear hz hp
      go_wp2
      go_ret
      exact ⟨by rw [E.out]; rfl, HB.out⟩

theorem rcmpI_any (w : World) (v u : Value) (a b : Int) (n m : Nat) (ha : IntA w v a n) (hb : IntA w u b m) :
    Calls Try.prog 70 #[v, u] w fun e w' => e = .returned (.int .i64 (cm a b)) ∧ Below w.heap.size w w' := by
  have HA := hid ha
  have HBB := hid hb
  obtain ⟨na, s, xs, rfl, hs, hl, hxn, ea⟩ := ha
  obtain ⟨nb, r, ys, rfl, hr, hk, hyn, eb⟩ := hb
  obtain ⟨W, hW⟩ : ∃ W, W = (w.alloc (.cells #[.bool na, s] 24)).alloc (.cells #[.bool nb, r] 24) := ⟨_, rfl⟩
  have X := Bx.two w (.bool na) s (.bool nb) r 24
  rw [← hW] at X
  obtain ⟨x0, x1⟩ := X
  have HB : Below w.heap.size w W := by rw [hW]; exact bw_alloc (bw_alloc (Below.refl _ _) _) _
  have HA1 := hid (HA.out.below HB)
  have HBB1 := hid (HBB.out.below HB)
  have EA := hid ea
  have EB := hid eb
  have HL := hid hl
  have HK := hid hk
  have hsl := hs.len
  have hrl := hr.len
  have S0 := hid (hs.below HB)
  have R0 := hid (hr.below HB)
  have HB0 := hid HB
  clear HA HBB ea eb hl hk hs hr HB
  obtain ⟨k0, k1, f0, f1⟩ := id x0
  obtain ⟨k2, k3, f2, f3⟩ := id x1
  go_enter Try.func70, Try.ntmps70
  go_wp2_with fail
  rw [← hW]
  clear hW
  go_region_held3 (fun w' => w'.cell? ⟨w.heap.size, 0, none⟩ = some (.bool na) ∧ w'.cell? ⟨w.heap.size, 1, none⟩ = some s ∧ w'.cell? ⟨w.heap.size + 1, 0, none⟩ = some (.bool nb) ∧ w'.cell? ⟨w.heap.size + 1, 1, none⟩ = some r ∧ Hid (Below W.heap.size W w'))
    (first
      | exact ⟨k0, k1, k2, k3, bw_drew W⟩
      | (go_split_ands; have hh := bw_keep (by assumption) (by assumption); exact ⟨cell_below hh k0, cell_below hh k1, cell_below hh k2, cell_below hh k3, hh⟩))
    (first
      | (go_at_call 72; (with_reducible refine (rsign_any _ (.agg #[.bool na, s]) a n ?g1).mono ?_); (case g1 => (go_split_ands; exact HA1.out.below (Hid.out (by assumption)))); rintro e w1 ⟨rfl, hb1⟩)
      | (go_at_call 72; (with_reducible refine (rsign_any _ (.agg #[.bool nb, r]) b m ?g2).mono ?_); (case g2 => (go_split_ands; exact HBB1.out.below (Hid.out (by assumption)))); rintro e w2 ⟨rfl, hb2⟩))
  rename_i hH
  have HBW := hH.2.2.2.2
  have HB2 := hid (bw_step HB0.out HBW.out)
  have S2 := hid (S0.out.below HBW.out)
  have R2 := hid (R0.out.below HBW.out)
  have x0 := x0.below HBW.out
  have x1 := x1.below HBW.out
  clear hH HBW S0 R0 k0 k1 f0 f1 k2 k3 f2 f3 HB0
  obtain ⟨k0, k1, f0, f1⟩ := id x0
  obtain ⟨k2, k3, f2, f3⟩ := id x1
  rcases Int.lt_trichotomy (cm a 0) (cm b 0) with h | h | h
  · have h1 : (cm a 0 != cm b 0) = true := by rw [bne_iff_ne]; omega
    have h2 : decide (cm a 0 < cm b 0) = true := decide_eq_true h
    have E := hid (cm_signs h)
    clear h
    go_wp2
    go_ret
    exact ⟨by rw [E.out]; rfl, HB2.out⟩
  · have h1 : (cm a 0 != cm b 0) = false := by rw [h]; simp
    have hw := cm_wrap a 0 (nv (tr xs)) (nv (tr ys))
    have E := hid (show cm a 0 * cm (nv (tr xs)) (nv (tr ys)) = cm a b by
      rw [nv_tr, nv_tr]
      rw [EA.out, EB.out] at h ⊢
      exact cm_same (nv_nonneg HL.out) (nv_nonneg HK.out) h)
    clear h
    go_wp2_with fail
    go_region_held3 (fun w' => w'.cell? ⟨w.heap.size, 0, none⟩ = some (.bool na) ∧ w'.cell? ⟨w.heap.size, 1, none⟩ = some s ∧ w'.cell? ⟨w.heap.size + 1, 0, none⟩ = some (.bool nb) ∧ w'.cell? ⟨w.heap.size + 1, 1, none⟩ = some r ∧ Hid (Below w2.heap.size w2 w'))
      (first
        | exact ⟨k0, k1, k2, k3, bw_drew w2⟩
        | (go_split_ands; have hh := bw_keep (by assumption) (by assumption); exact ⟨cell_below hh k0, cell_below hh k1, cell_below hh k2, cell_below hh k3, hh⟩)
        | (go_split_ands; exact ⟨by assumption, by assumption, by assumption, by assumption, below_drewN (Hid.out (by assumption)) _⟩))
      (first
        | (go_at_call 90; (with_reducible refine (rtrim_any _ s xs ?hz).mono ?_); (case hz => (go_split_ands; exact S2.out.below (Hid.out (by assumption)))); rintro e w4 ⟨⟨s1, rfl, hr1⟩, hb1⟩; have hc1 := hr1.slv (by rw [tr_length]; have := tl_le xs; omega))
        | (go_at_call 90; (with_reducible refine (rtrim_any _ r ys ?hz).mono ?_); (case hz => (go_split_ands; exact R2.out.below (Hid.out (by assumption)))); rintro e w4 ⟨⟨s2, rfl, hr2⟩, hb2⟩; have hc2 := hr2.slv (by rw [tr_length]; have := tl_le ys; omega))
        | (go_at_call 52; (with_reducible refine (rcmp_any _ _ _ (tr xs) (tr ys) ?g1 ?g2 HL.out.tr HK.out.tr (Cn.tr _) (Cn.tr _)).mono ?_); (case g1 => (first | exact hc1 | exact hc1.below hb2)); (case g2 => (first | exact hc2 | exact hc2.below hb1)); rintro e w' ⟨rfl, ⟨nq, rfl⟩⟩))
    rename_i hH
    have HB3 := hid (bw_step HB2.out hH.2.2.2.2.out)
    clear hH
    go_wp2
    go_ret
    exact ⟨by rw [E.out]; rfl, HB3.out⟩
  · have h1 : (cm a 0 != cm b 0) = true := by rw [bne_iff_ne]; omega
    have h2 : decide (cm a 0 < cm b 0) = false := by rw [decide_eq_false_iff_not]; omega
    have E := hid (cm_signs' h)
    clear h
    go_wp2
    go_ret
    exact ⟨by rw [E.out]; rfl, HB2.out⟩
end Go.Proofs.Ytijmjkkjopplbaa

namespace Go.Proofs.Ytijmjkkjopplbaa
open Go.RowKit
set_option linter.unusedVariables false
set_option maxRecDepth 100000

theorem rabs_any (w : World) (v : Value) (a : Int) (n : Nat) (ha : IntA w v a n) :
    Calls Try.prog 73 #[v] w fun e w' => RetI w' ((a.natAbs : Int)) e ∧ Below w.heap.size w w' := by
  obtain ⟨na, s, xs, rfl, hs, hl, hxn, rfl⟩ := ha
  obtain ⟨W, hW⟩ : ∃ W, W = (w.alloc (.cells #[.bool na, s] 24)).alloc (.cells #[.bool false, .slice none 0 0] 24) := ⟨_, rfl⟩
  have X := Bx.two w (.bool na) s (.bool false) (.slice none 0 0) 24
  rw [← hW] at X
  obtain ⟨x0, x1⟩ := X
  have HB : Below w.heap.size w W := by rw [hW]; exact bw_alloc (bw_alloc (Below.refl _ _) _) _
  have S0 := hid (hs.below HB)
  have HL := hid hl
  have E := hid (show sg false (nv xs) = ((sg na (nv xs)).natAbs : Int) from by (have h := nv_nonneg hl; cases na <;> simp [sg] <;> omega))
  clear hl hs
  obtain ⟨k0, k1, f0, f1⟩ := id x0
  go_enter Try.func73, Try.ntmps73
  go_wp2_with fail
  rw [← hW]
  clear hW
  refine (rmake_any _ false s xs S0.out HL.out).mono ?_
  rintro e w1 ⟨⟨v1, rfl, hv1⟩, hb1⟩
  have HB := hid (bw_step HB hb1)
  obtain ⟨k2, k3, f2, f3⟩ := x1.below hb1
  obtain ⟨q, A, m, c, rfl⟩ := hv1.form
  rw [E.out] at hv1
  have F := hid (fin_any HB.out (g := w.heap.size + 1) (Nat.le_succ _) k2 k3 hv1 (.bool q) (.slice A m c))
  clear hb1 hv1 x0 x1 k0 k1 f0 f1
  go_wp2
  exact bodyPost_ret (v := .agg #[.bool q, .slice A m c]) (by simp [results, Try.results73, go_sem, k2, k3]) rfl ⟨⟨_, rfl, F.out.1⟩, F.out.2⟩
end Go.Proofs.Ytijmjkkjopplbaa

namespace Go.Proofs.Ytijmjkkjopplbaa
open Go.RowKit
set_option linter.unusedVariables false
set_option maxRecDepth 100000

set_option maxHeartbeats 2000000 in
theorem rmul_any (w : World) (v u : Value) (a b : Int) (n m : Nat) (ha : IntA w v a n) (hb : IntA w u b m) (hn : n < 549755813888) (hm : m < 549755813888) :
    Calls Try.prog 60 #[v, u] w fun e w' => RetI w' (a * b) e ∧ Below w.heap.size w w' := by
  obtain ⟨na, s, xs, rfl, hs, hl, hxn, rfl⟩ := ha
  obtain ⟨nb, r, ys, rfl, hr, hk, hyn, rfl⟩ := hb
  obtain ⟨W, hW⟩ : ∃ W, W = ((w.alloc (.cells #[.bool na, s] 24)).alloc (.cells #[.bool nb, r] 24)).alloc (.cells #[.bool false, .slice none 0 0] 24) := ⟨_, rfl⟩
  have X := Bx.three w (.bool na) s (.bool nb) r (.bool false) (.slice none 0 0) 24
  rw [← hW] at X
  obtain ⟨x0, x1, x2⟩ := X
  have HB : Below w.heap.size w W := by rw [hW]; exact bw_alloc (bw_alloc (bw_alloc (Below.refl _ _) _) _) _
  obtain ⟨A, c, rfl, hcl, hx⟩ := hs.below HB
  obtain ⟨B, d, rfl, hdl, hy⟩ := hr.below HB
  have HX := hid hx
  have HY := hid hy
  have HBX := hid hl
  have HBY := hid hk
  have HB := hid HB
  have hg : W.heap.size = w.heap.size + 1 + 1 + 1 := by rw [hW]; simp
  have HG := hid hg
  have X0 := hid x0
  have X1 := hid x1
  have X2 := hid x2
  clear hs hr hl hk hx hy
  have hsum := i64_add xs.length ys.length (by omega)
  have hmk := make_u32_add xs.length ys.length (by omega)
  obtain ⟨k0, k1, f0, f1⟩ := id x0
  obtain ⟨k2, k3, f2, f3⟩ := id x1
  go_enter Try.func60, Try.ntmps60
  go_wp2
  rw [← hW]
  have hown := Own.made W (xs.length + ys.length)
  have hbl := bw_alloc (Below.refl _ W) (.cells (zs (xs.length + ys.length)) 31)
  rw [hg] at hown
  clear hmk hsum hW hg k0 k1 f0 f1 k2 k3 f2 f3 x0 x1 x2
  go_loopw [22] (fun i wr => ∃ (k : Nat) (os : List Int), i = .int .i64 k ∧ k ≤ xs.length ∧ Hid (os.length = xs.length + ys.length) ∧ Hid (Own wr (w.heap.size + 1 + 1 + 1) os) ∧ Hid (Lb os) ∧
      Hid (nv os = nv (xs.take k) * nv ys) ∧ Hid (∀ j, k + ys.length ≤ j → lm os j = 0) ∧ Below W.heap.size W wr) (fun i _ => xs.length - (intOf i).toNat)
  case atStart => exact ⟨0, List.replicate (xs.length + ys.length) 0, rfl, by omega, hid (by simp), hid hown, hid (Lb.replicate _), hid (by rw [nv_replicate]; simp [nv_nil]), hid (fun j _ => lm_replicate _ _), hbl⟩
  case round =>
    clear hown hbl
    obtain ⟨k, os, rfl, hk, hlen, hown, hlb, hval, hz, hbel⟩ := hrel
    obtain ⟨k0, k1, f0, f1⟩ := X0.out.below hbel
    obtain ⟨k2, k3, f2, f3⟩ := X1.out.below hbel
    by_cases hlt : k < xs.length
    · obtain ⟨ab, ao, rfl, hcc⟩ := HX.out.at (by omega)
      have c0 := cell_below hbel (hcc k hlt)
      clear hcc
      have hbx := HBX.out.lm k
      go_wp2
      clear k0 k1 f0 f1 k2 k3 f2 f3 c0
      go_loopw [8, 30] (fun v i wr => ∃ (cy : Int) (j : Nat) (os : List Int), v = .int .u64 cy ∧ i = .int .i64 j ∧ 0 ≤ cy ∧ cy < 4294967296 ∧ j ≤ ys.length ∧ Hid (os.length = xs.length + ys.length) ∧ Hid (Own wr (w.heap.size + 1 + 1 + 1) os) ∧ Hid (Lb os) ∧
          Hid (nv os + bp (k + j) * cy = nv (xs.take k) * nv ys + bp k * (lm xs k * nv (ys.take j))) ∧ Hid (∀ j, k + ys.length ≤ j → lm os j = 0) ∧ Below W.heap.size W wr) (fun _ i _ => ys.length - (intOf i).toNat)
      case atStart => exact ⟨0, 0, os, rfl, rfl, by omega, by omega, by omega, hlen, hown, hlb, hid (by rw [hval.out]; simp [nv_nil]), hz, hbel⟩
      case round =>
        clear hlen hown hlb hval hz hbel
        obtain ⟨cy, j, os, rfl, rfl, hy0, hy1, hj, hlen, hown, hlb, hval, hz, hbel⟩ := hrel
        by_cases hjt : j < ys.length
        · obtain ⟨bb, bo, rfl, hcc⟩ := HY.out.at (by omega)
          have c2 := cell_below hbel (hcc j hjt)
          clear hcc
          have hcell := hown.out.cell (j := k + j) (by have := hlen.out; omega)
          have hfree := hown.out.free (k + j)
          have hby := HBY.out.lm j
          have hbo := hlb.out.lm (k + j)
          obtain ⟨m0, m1⟩ := limb_mul hbx hby
          have hsum := i64_add k j (by omega)
          have hix : (k : Int) + (j : Int) < (xs.length : Int) + (ys.length : Int) := by omega
          have hi0 : 0 ≤ (k : Int) + (j : Int) := by omega
          have htn : ((k : Int) + (j : Int)).toNat = k + j := by omega
          have e1 := u64_in m0 (by omega)
          have e2 := u64_in (x := lm xs k * lm ys j + lm os (k + j)) (by omega) (by omega)
          have e3 := u64_in (x := cy + (lm xs k * lm ys j + lm os (k + j))) (by omega) (by omega)
          go_wp2
          go_roundw
          case measure => simp [intOf]; omega
          case rel =>
            have hl := hlen.out
            obtain ⟨s, hs⟩ : ∃ s, cy + (lm xs k * lm ys j + lm os (k + j)) = s := ⟨_, rfl⟩
            rw [hs]
            have h2 := Int.emod_nonneg s (show (4294967296 : Int) ≠ 0 by decide)
            have h3 := Int.emod_lt_of_pos s (show (0 : Int) < 4294967296 by decide)
            refine ⟨_, j + 1, os.set (k + j) (s % 4294967296), rfl, by go_num, by omega, by omega, by omega, hid (by rw [List.length_set]; exact hl), hid (hown.out.set _ _), hid (hlb.out.set _ h2 h3), hid ?_,
              hid (fun t ht => by rw [lm_set_other _ (by omega)]; exact hz.out t ht), hbel.setCell (by rw [HG.out]; exact Nat.le_refl _) _⟩
            rw [nv_set _ _ _ (by omega), ← Nat.add_assoc, bp_succ, mul_step hval.out hs, nv_take_succ, bp_add]
            grind
        · have HJ := hid (show j = ys.length by omega)
          obtain ⟨k0, k1, f0, f1⟩ := X0.out.below hbel
          obtain ⟨k2, k3, f2, f3⟩ := X1.out.below hbel
          have hcell := hown.out.cell (j := k + j) (by have := hlen.out; omega)
          have hfree := hown.out.free (k + j)
          have hje : (j : Int) = (ys.length : Int) := by omega
          rw [show k + j = k + ys.length from by omega] at hcell hfree
          have hsum := i64_add k ys.length (by omega)
          have hix : (k : Int) + (ys.length : Int) < (xs.length : Int) + (ys.length : Int) := by omega
          have hi0 : 0 ≤ (k : Int) + (ys.length : Int) := by omega
          have htn : ((k : Int) + (ys.length : Int)).toNat = k + ys.length := by omega
          clear hje
          go_wp2
          go_roundw
          case measure => simp [intOf]; omega
          case rel =>
            have hl := hlen.out
            refine ⟨k + 1, os.set (k + ys.length) cy, by go_num, by omega, hid (by rw [List.length_set]; exact hl), hid (hown.out.set _ _), hid (hlb.out.set _ hy0 hy1), hid ?_,
              hid (fun t ht => by rw [lm_set_other _ (by omega)]; exact hz.out t (by omega)), hbel.setCell (by rw [HG.out]; exact Nat.le_refl _) _⟩
            have e := hval.out
            rw [HJ.out, nv_take_all (xs := ys) (Nat.le_refl _)] at e
            rw [nv_set _ _ _ (by omega), hz.out (k + ys.length) (Nat.le_refl _), nv_take_succ, Int.sub_zero, e]
            grind
    · have HK := hid (show k = xs.length by omega)
      obtain ⟨nn, hnn⟩ : ∃ nn, (!(na == nb)) = nn := ⟨_, rfl⟩
      have HV := hid (show sg nn (nv os) = sg na (nv xs) * sg nb (nv ys) by
        rw [hval.out, HK.out, nv_take_all (xs := xs) (Nat.le_refl _), ← hnn]
        cases na <;> cases nb <;> simp [sg, Int.neg_mul, Int.mul_neg])
      have hos := hid (hown.out.slv (n := xs.length + ys.length) (c := xs.length + ys.length) hlen.out (by omega) (Nat.le_refl _))
      go_wp2_with fail
      clear hnn
      refine (rmake_any _ nn _ os hos.out hlb.out).mono ?_
      rintro e w6 ⟨⟨v6, rfl, hv6⟩, hb6⟩
      rw [HV.out] at hv6
      have hb6 := bw_step hbel hb6
      clear k0 k1 f0 f1 k2 k3 f2 f3
      obtain ⟨k4, k5, f4, f5⟩ := X2.out.below hb6
      obtain ⟨q4, A4, n4, c4, rfl⟩ := hv6.form
      have HF := fin_agg (bw_step HB.out hb6) (by omega) k4 k5 hv6
      clear hb6 hv6 hbel
      go_wp2
      exact bodyPost_ret (v := .agg #[.bool q4, .slice A4 n4 c4]) (by simp [results, Try.results60, go_sem, k4, k5]) rfl HF.out
end Go.Proofs.Ytijmjkkjopplbaa

