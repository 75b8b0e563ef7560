/- The law IntegerDivision: its walk. -/
import Derived.Test.YtdbgalohppfkfaaAwake
import Derived.Test.YtdbgalohppfkfaaRMul
import Derived.Test.YtdbgalohppfkfaaRAdd
import Derived.Test.YtdbgalohppfkfaaRAbs
import Derived.Test.YtdbgalohppfkfaaRSign
import Derived.Test.YtdbgalohppfkfaaRSame
import Derived.Test.YtdbgalohppfkfaaArg
namespace Go.Proofs.Ytdbgalohppfkfaa
open Go.RowKit
set_option linter.unusedVariables false

theorem Sm.mul {m n : Nat} {a b : Int} (h : Sm m a) (k : Sm n b) : Sm (m + n) (a * b) := by
  have h1 : (a.natAbs : Int) < bp m := by obtain ⟨x, y⟩ := h; omega
  have h2 : (b.natAbs : Int) < bp n := by obtain ⟨x, y⟩ := k; omega
  have h3 : ((a * b).natAbs : Int) < bp (m + n) := by
    rw [Int.natAbs_mul, bp_add, Int.natCast_mul]
    have h4 := Int.mul_le_mul_of_nonneg_right (show (a.natAbs : Int) ≤ bp m by omega) (show (0 : Int) ≤ b.natAbs by omega)
    have h5 := Int.mul_lt_mul_of_pos_left h2 (bp_pos m)
    omega
  exact ⟨by omega, by omega⟩
theorem Sm.abs {n : Nat} {z : Int} (h : Sm n z) : Sm n (z.natAbs : Int) := by obtain ⟨x, y⟩ := h; exact ⟨by omega, by omega⟩
theorem Sm.div {m : Nat} {a b : Int} (h : Sm m a) : Sm m (a / b) := by
  have := Int.natAbs_ediv_le_natAbs a b
  obtain ⟨x, y⟩ := h
  exact ⟨by omega, by omega⟩
theorem Sm.mod {m : Nat} {a b : Int} (h : Sm m b) (hb : b ≠ 0) : Sm m (a % b) := by
  have h0 := Int.emod_nonneg a hb
  have h1 := Int.emod_lt a hb
  obtain ⟨x, y⟩ := h
  exact ⟨by omega, by omega⟩

set_option maxRecDepth 10000 in
set_option maxHeartbeats 8000000 in
theorem integerDivision_walk (w : World) (v : Value) (ha : ArgI w v) (u : Value) (hb : ArgI w u) :
    Calls Try.prog 8 #[v, u] w fun e w' => e = .returned (.bool true) ∧ Below w.heap.size w w' := by
  rcases ha.parts 40 (by decide) with ⟨na, A, n, c, rfl, hn⟩ | ⟨na, A, c, xs, rfl, hn, hs, hl⟩
  · obtain ⟨nb, B, m, d, rfl, _⟩ := hb
    have hb0 := bw_two w (.cells #[.bool na, .slice A n c] 24) (.cells #[.bool nb, .slice B m d] 24)
    have hd : decide ((40 : Int) < (n : Int)) = true := by rw [decide_eq_true_eq]; omega
    go_enter Try.func8, Try.ntmps8
    go_wp2_with fail
    refine (long_any _ na A n c).mono ?_
    rintro e w1 ⟨he, hb1⟩
    rw [hd] at he
    subst he
    have HB := hid (bw_step hb0 hb1)
    clear hb0 hb1 hd
    go_wp2_with fail
    refine (awake_any _).mono ?_
    rintro e w2 ⟨rfl, hb2⟩
    have HB := hid (bw_step HB.out hb2)
    clear hb2
    go_wp2
    go_ret
    exact ⟨rfl, HB.out⟩
  · have hd : decide ((40 : Int) < (xs.length : Int)) = false := by rw [decide_eq_false_iff_not]; omega
    rcases hb.parts 40 (by decide) with ⟨nb, B, m, d, rfl, hm⟩ | ⟨nb, B, d, ys, rfl, hm, hr, hk⟩
    · have hd2 : decide ((40 : Int) < (m : Int)) = true := by rw [decide_eq_true_eq]; omega
      have hb0 := bw_two w (.cells #[.bool na, .slice A xs.length c] 24) (.cells #[.bool nb, .slice B m d] 24)
      have X := Bx.two w (.bool na) (.slice A xs.length c) (.bool nb) (.slice B m d) 24
      go_enter Try.func8, Try.ntmps8
      go_wp2_with fail
      refine (long_any _ na A xs.length c).mono ?_
      rintro e w1 ⟨he, hb1⟩
      rw [hd] at he
      subst he
      have HB := hid (bw_step hb0 hb1)
      obtain ⟨k2, k3, f2, f3⟩ := X.2.below hb1
      clear hb0 hb1 hd X hs hl
      go_wp2_with fail
      refine (long_any _ nb B m d).mono ?_
      rintro e w1 ⟨he, hb1⟩
      rw [hd2] at he
      subst he
      have HB := hid (bw_step HB.out hb1)
      clear hb1 k2 k3 f2 f3 hd2
      go_wp2_with fail
      refine (awake_any _).mono ?_
      rintro e w2 ⟨rfl, hb2⟩
      have HB := hid (bw_step HB.out hb2)
      clear hb2
      go_wp2
      go_ret
      exact ⟨rfl, HB.out⟩
    · have hd2 : decide ((40 : Int) < (ys.length : Int)) = false := by rw [decide_eq_false_iff_not]; omega
      have hb0 := bw_two w (.cells #[.bool na, .slice A xs.length c] 24) (.cells #[.bool nb, .slice B ys.length d] 24)
      have X := Bx.two w (.bool na) (.slice A xs.length c) (.bool nb) (.slice B ys.length d) 24
      obtain ⟨a, hva⟩ : ∃ a, a = sg na (nv xs) := ⟨_, rfl⟩
      obtain ⟨b, hvb⟩ : ∃ b, b = sg nb (nv ys) := ⟨_, rfl⟩
      have VA := hid (show IntA w (.agg #[.bool na, .slice A xs.length c]) a 40 from ⟨na, _, xs, rfl, hs, hl, hn, hva⟩)
      have VB := hid (show IntA w (.agg #[.bool nb, .slice B ys.length d]) b 40 from ⟨nb, _, ys, rfl, hr, hk, hm, hvb⟩)
      have HVA := hid hva
      have S := hid hs
      have HL := hid hl
      clear hva hvb hs hl hr hk
      go_enter Try.func8, Try.ntmps8
      go_wp2_with fail
      refine (long_any _ na A xs.length c).mono ?_
      rintro e w1 ⟨he, hb1⟩
      rw [hd] at he
      subst he
      have HB := hid (bw_step hb0 hb1)
      have x0 := X.1.below hb1
      have x1 := X.2.below hb1
      obtain ⟨k2, k3, f2, f3⟩ := id x1
      clear hb0 hb1 hd X
      go_wp2_with fail
      refine (long_any _ nb B ys.length d).mono ?_
      rintro e w2 ⟨he, hb1⟩
      rw [hd2] at he
      subst he
      have HB := hid (bw_step HB.out hb1)
      have x0 := x0.below hb1
      have x1 := x1.below hb1
      clear hb1 k2 k3 f2 f3 hd2
      obtain ⟨k0, k1, f0, f1⟩ := id x0
      obtain ⟨k2, k3, f2, f3⟩ := id x1
      have VA := hid (VA.out.below HB.out)
      have VB := hid (VB.out.below HB.out)
      by_cases hb0 : b = 0
      · have hcb : (cm b 0 == 0) = true := by rw [hb0]; rfl
        go_wp2_with fail
        refine (rsign_any _ _ b 40 VB.out).mono ?_
        rintro e w3 ⟨rfl, hb3⟩
        have HB := hid (bw_step HB.out hb3)
        clear hb3 k0 k1 k2 k3 f0 f1 f2 f3
        go_wp2_with fail
        refine (awake_any _).mono ?_
        rintro e w4 ⟨rfl, hb4⟩
        have HB := hid (bw_step HB.out hb4)
        clear hb4
        go_wp2
        go_ret
        exact ⟨rfl, HB.out⟩
      · have hcb : (cm b 0 == 0) = false := by
          rw [beq_eq_false_iff_ne]
          rcases cm_form b 0 with ⟨h, e⟩ | ⟨h, e⟩ | ⟨h, e⟩ <;> omega
        have B0 := hid hb0
        clear hb0
        go_wp2_with fail
        refine (rsign_any _ _ b 40 VB.out).mono ?_
        rintro e w3 ⟨rfl, hb3⟩
        have HB := hid (bw_step HB.out hb3)
        have VA := hid (VA.out.below hb3)
        have VB := hid (VB.out.below hb3)
        have x0 := x0.below hb3
        have x1 := x1.below hb3
        clear hb3 k0 k1 k2 k3 f0 f1 f2 f3
        obtain ⟨k0, k1, f0, f1⟩ := id x0
        obtain ⟨k2, k3, f2, f3⟩ := id x1
        go_wp2_with fail
        refine (divMod_any _ _ _ a b 40 40 VA.out VB.out (by decide) B0.out).mono ?_
        rintro e w4 ⟨⟨u1, u2, rfl, hu1, hu2⟩, hb4⟩
        obtain ⟨q1, A1, n1, c1, rfl⟩ := hu1.form
        obtain ⟨q2, A2, n2, c2, rfl⟩ := hu2.form
        have hbb := bw_two w4 (.cells #[.bool q1, .slice A1 n1 c1] 24) (.cells #[.bool q2, .slice A2 n2 c2] 24)
        obtain ⟨x5, x6⟩ := Bx.two w4 (.bool q1) (.slice A1 n1 c1) (.bool q2) (.slice A2 n2 c2) 24
        have E := hid (Int.emod_add_mul_ediv a b)
        have R0 := hid (Int.emod_nonneg a B0.out)
        have R1 := hid (Int.emod_lt a B0.out)
        have SQ := hid (VA.out.sm.div (b := b))
        have SR := hid (VB.out.sm.mod (a := a) B0.out)
        have SB := hid VB.out.sm
        generalize a / b = q at *
        generalize a % b = r at *
        have hd1 : decide (0 ≤ cm r 0) = true := by
          rw [decide_eq_true_eq]
          have := R0.out
          rcases cm_form r 0 with ⟨h, e⟩ | ⟨h, e⟩ | ⟨h, e⟩ <;> omega
        have hd2 : decide (cm r (b.natAbs : Int) < 0) = true := by
          rw [decide_eq_true_eq]
          have := R1.out
          rcases cm_form r (b.natAbs : Int) with ⟨h, e⟩ | ⟨h, e⟩ | ⟨h, e⟩ <;> omega
        have U1 := hid (hu1.below hbb)
        have U2 := hid (hu2.below hbb)
        have VA := hid ((VA.out.below hb4).below hbb)
        have VB := hid ((VB.out.below hb4).below hbb)
        have HB := hid (bw_step HB.out (bw_step hb4 hbb))
        have x0 := (x0.below hb4).below hbb
        have x1 := (x1.below hb4).below hbb
        clear hb4 hbb hu1 hu2 k0 k1 k2 k3 f0 f1 f2 f3
        obtain ⟨k0, k1, f0, f1⟩ := id x0
        obtain ⟨k2, k3, f2, f3⟩ := id x1
        obtain ⟨k4, k5, f4, f5⟩ := id x5
        obtain ⟨k6, k7, f6, f7⟩ := id x6
        go_wp2_with fail
        go_region_held3 (fun w' => w'.cell? ⟨w.heap.size, 0, none⟩ = some (.bool na) ∧ w'.cell? ⟨w.heap.size, 1, none⟩ = some (.slice A xs.length c) ∧ w'.cell? ⟨w.heap.size + 1, 0, none⟩ = some (.bool nb) ∧ w'.cell? ⟨w.heap.size + 1, 1, none⟩ = some (.slice B ys.length d) ∧
            w'.cell? ⟨w4.heap.size, 0, none⟩ = some (.bool q1) ∧ w'.cell? ⟨w4.heap.size, 1, none⟩ = some (.slice A1 n1 c1) ∧ w'.cell? ⟨w4.heap.size + 1, 0, none⟩ = some (.bool q2) ∧ w'.cell? ⟨w4.heap.size + 1, 1, none⟩ = some (.slice A2 n2 c2) ∧
            Hid (Below ((w4.alloc (.cells #[.bool q1, .slice A1 n1 c1] 24)).alloc (.cells #[.bool q2, .slice A2 n2 c2] 24)).heap.size ((w4.alloc (.cells #[.bool q1, .slice A1 n1 c1] 24)).alloc (.cells #[.bool q2, .slice A2 n2 c2] 24)) w'))
          (first
            | exact ⟨k0, k1, k2, k3, k4, k5, k6, k7, bw_drew _⟩
            | (go_split_ands; have hh := bw_keep (by assumption) (by assumption); exact ⟨cell_below hh k0, cell_below hh k1, cell_below hh k2, cell_below hh k3, cell_below hh k4, cell_below hh k5, cell_below hh k6, cell_below hh k7, hh⟩))
          (first
            | (go_at_call 30; (with_reducible refine (sign_any _ (.agg #[.bool q2, .slice A2 n2 c2]) r 40 ?g1).mono ?_); (case g1 => (go_split_ands; exact (U2.out.arg SR.out).below (Hid.out (by assumption)))); rintro e w5 ⟨rfl, hb5⟩)
            | (go_at_call 32; (with_reducible refine (rabs_any _ (.agg #[.bool nb, .slice B ys.length d]) b 40 ?g2).mono ?_); (case g2 => (go_split_ands; exact VB.out.below (Hid.out (by assumption)))); rintro e w6 ⟨⟨v6, rfl, hv6⟩, hb6⟩)
            | (go_at_call 31; (with_reducible refine (rcmpI_any _ (.agg #[.bool q2, .slice A2 n2 c2]) v6 r (b.natAbs : Int) 40 40 ?g3 ?g4).mono ?_); (case g3 => (go_split_ands; exact (U2.out.arg SR.out).below (Hid.out (by assumption)))); (case g4 => exact hv6.arg (Sm.abs SB.out)); rintro e w7 ⟨rfl, hb7⟩)
            | (go_at_call 34; (with_reducible refine (rmul_any _ (.agg #[.bool q1, .slice A1 n1 c1]) (.agg #[.bool nb, .slice B ys.length d]) q b 40 40 ?g5 ?g6 (by decide) (by decide)).mono ?_); (case g5 => (go_split_ands; exact (U1.out.arg SQ.out).below (Hid.out (by assumption)))); (case g6 => (go_split_ands; exact VB.out.below (Hid.out (by assumption)))); rintro e w8 ⟨⟨v8, rfl, hv8⟩, hb8⟩)
            | (go_at_call 33; (with_reducible refine (radd_any _ v8 (.agg #[.bool q2, .slice A2 n2 c2]) (q * b) r 80 40 ?g7 ?g8 (by decide) (by decide)).mono ?_); (case g7 => first | exact hv8.arg (SQ.out.mul SB.out) | exact (hv8.below hb10).arg (SQ.out.mul SB.out)); (case g8 => (go_split_ands; exact (U2.out.arg SR.out).below (Hid.out (by assumption)))); rintro e w9 ⟨⟨v9, rfl, hv9⟩, hb9⟩; rw [show q * b + r = a by rw [Int.mul_comm, Int.add_comm]; exact E.out] at hv9)
            | (go_at_call 24; (with_reducible refine (rnormalize_any _ (.agg #[.bool na, .slice A xs.length c]) a 40 ?g9).mono ?_); (case g9 => (go_split_ands; exact VA.out.below (Hid.out (by assumption)))); rintro e w10 ⟨⟨v10, rfl, hv10⟩, hb10⟩)
            | (go_at_call 23; (with_reducible refine (rsame_any _ v9 v10 a a ?g10 ?g11).mono ?_); (case g10 => first | exact hv9 | exact hv9.below hb10); (case g11 => first | exact hv10 | exact hv10.below hb9 | exact (hv10.below hb8).below hb9); rintro e w11 ⟨he, hb11⟩; rw [decide_eq_true rfl] at he; subst he)
            | (go_at_call 20; (with_reducible refine (awake_any _).mono ?_); rintro e w12 ⟨rfl, hb12⟩))
        rename_i hH
        have HB := hid (bw_step HB.out hH.2.2.2.2.2.2.2.2.out)
        clear hH
        go_wp2
        go_ret
        exact ⟨rfl, HB.out⟩
end Go.Proofs.Ytdbgalohppfkfaa
