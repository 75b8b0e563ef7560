/- The law IntegerNormalizes: its walk. -/
import Derived.Test.YtdbgalohppfkfaaAwake
import Derived.Test.YtdbgalohppfkfaaRMake
import Derived.Test.YtdbgalohppfkfaaRSame
import Derived.Test.YtdbgalohppfkfaaArg
namespace Go.Proofs.Ytdbgalohppfkfaa
open Go.RowKit
set_option linter.unusedVariables false

theorem Bx.setFar {w : World} {g k o : Nat} {a b v : Value} (h : Bx w g a b) (hk : k ≠ g) : Bx (w.setCell ⟨k, o, none⟩ v) g a b := by
  obtain ⟨h1, h2, h3, h4⟩ := h
  refine ⟨?_, ?_, by rw [frozen_set]; exact h3, by rw [frozen_set]; exact h4⟩
  · rw [World.cell?_setCell_other (h := fun e => hk (by injection e))]; exact h1
  · rw [World.cell?_setCell_other (h := fun e => hk (by injection e))]; exact h2

set_option maxHeartbeats 1000000 in
theorem integerNormalizes_walk (w : World) (v : Value) (ha : ArgI w v) :
    Calls Try.prog 4 #[v] w fun e w' => e = .returned (.bool true) ∧ Below w.heap.size w w' := by
  rcases ha.parts 40 (by decide) with ⟨neg, A, n, c, rfl, hn⟩ | ⟨neg, A, c, xs, rfl, hn, hs, hl⟩
  · have hb := bw_alloc (Below.refl _ w) (.cells #[.bool neg, .slice A n c] 24)
    have hd : decide ((40 : Int) < (n : Int)) = true := by rw [decide_eq_true_eq]; omega
    go_enter Try.func4, Try.ntmps4
    go_wp2_with fail
    refine (long_any _ neg A n c).mono ?_
    rintro e w1 ⟨he, hb1⟩
    rw [hd] at he
    subst he
    have HB := hid (bw_step hb hb1)
    clear hb hb1 hd
    go_wp2_with fail
    refine (awake_any _).mono ?_
    rintro e w2 ⟨rfl, hb2⟩
    have HB := hid (bw_step HB.out hb2)
    clear hb2
    go_wp2
    go_ret
    exact ⟨rfl, HB.out⟩
  · have hb := bw_alloc (Below.refl _ w) (.cells #[.bool neg, .slice A xs.length c] 24)
    have x0 := Bx.new w (.bool neg) (.slice A xs.length c) 24
    have S0 := hid (hs.below hb)
    have HL := hid hl
    have hd : decide ((40 : Int) < (xs.length : Int)) = false := by rw [decide_eq_false_iff_not]; omega
    go_enter Try.func4, Try.ntmps4
    go_wp2_with fail
    refine (long_any _ neg A xs.length c).mono ?_
    rintro e w1 ⟨he, hb1⟩
    rw [hd] at he
    subst he
    have HB := hid (bw_step hb hb1)
    have S0 := hid (S0.out.below hb1)
    have x0 := x0.below hb1
    obtain ⟨k0, k1, f0, f1⟩ := id x0
    clear hb hb1 hd hs hl
    go_wp2_with fail
    refine (copied_any _ neg _ xs S0.out).mono ?_
    rintro e w2 ⟨⟨s2, rfl, hr2⟩, hb2⟩
    have HB := hid (bw_step HB.out hb2)
    have S0 := hid (S0.out.below hb2)
    have x0 := x0.below hb2
    have V2 := hid (hr2.slv (by omega))
    obtain ⟨A2, c2, rfl⟩ := hr2.len
    obtain ⟨W, hW⟩ : ∃ W, W = w2.alloc (.cells #[.bool neg, .slice A2 xs.length c2] 24) := ⟨_, rfl⟩
    have hb3 := bw_alloc (Below.refl _ w2) (.cells #[.bool neg, .slice A2 xs.length c2] 24)
    have x3 := Bx.new w2 (.bool neg) (.slice A2 xs.length c2) 24
    rw [← hW] at hb3 x3
    have HB := hid (bw_step HB.out hb3)
    have S0 := hid (S0.out.below hb3)
    have V2 := hid (V2.out.below hb3)
    have x0 := x0.below hb3
    clear hb2 hb3 hr2 k0 k1 f0 f1
    go_wp2_with fail
    rw [← hW]
    clear hW
    refine (normalize_any _ _ (sg neg (nv xs)) 40 ⟨neg, _, xs, rfl, V2.out, HL.out, by omega, rfl⟩).mono ?_
    rintro e w3 ⟨⟨u3, rfl, hv3, hf3⟩, hb3⟩
    obtain ⟨q, A3, n3, c3, rfl⟩ := hv3.form
    have hb4 := bw_alloc (Below.refl _ w3) (.cells #[.bool q, .slice A3 n3 c3] 24)
    have x4 := Bx.new w3 (.bool q) (.slice A3 n3 c3) 24
    have V3 := hid (hv3.below hb4)
    have HB2 := hid (bw_step hb3 hb4)
    have G := hid (show W.heap.size ≤ w3.heap.size from hb3.size)
    have F4 := hid (show 0 < n3 → ∃ g o ys, A3 = some ⟨g, o, none⟩ ∧ W.heap.size ≤ g ∧ g ≠ w3.heap.size ∧ Own (w3.alloc (.cells #[.bool q, .slice A3 n3 c3] 24)) g ys by
      obtain ⟨_, _, _, _, e, hA⟩ := hf3
      injection e with e
      injection e with e
      simp only [List.cons.injEq, and_true] at e
      obtain ⟨_, e⟩ := e
      injection e with e1 e2 e3
      subst e1 e2 e3
      intro h0
      obtain ⟨g, o, ys, e1, h1, h2⟩ := hA h0
      have := h2.lt
      exact ⟨g, o, ys, e1, h1, by omega, h2.below hb4 h2.lt⟩)
    clear hb3 hb4 hv3 hf3
    have S4 := hid (S0.out.below HB2.out)
    have x04 := x0.below HB2.out
    obtain ⟨k0, k1, f0, f1⟩ := id x04
    obtain ⟨k4, k5, f4, f5⟩ := id x4
    go_wp2_with fail
    go_region_held3 (fun w' => w'.cell? ⟨w.heap.size, 0, none⟩ = some (.bool neg) ∧ w'.cell? ⟨w.heap.size, 1, none⟩ = some (.slice A xs.length c) ∧ w'.cell? ⟨w3.heap.size, 0, none⟩ = some (.bool q) ∧ w'.cell? ⟨w3.heap.size, 1, none⟩ = some (.slice A3 n3 c3) ∧
        Hid (Below (w3.alloc (.cells #[.bool q, .slice A3 n3 c3] 24)).heap.size (w3.alloc (.cells #[.bool q, .slice A3 n3 c3] 24)) w'))
      (first
        | exact ⟨k0, k1, k4, k5, bw_drew _⟩
        | (go_split_ands; have hh := bw_keep (by assumption) (by assumption); exact ⟨cell_below hh k0, cell_below hh k1, cell_below hh k4, cell_below hh k5, hh⟩))
      (first
        | (go_at_call 24; (with_reducible refine (rnormalize_any _ _ (sg neg (nv xs)) 40 ?g0).mono ?_); (case g0 => (go_split_ands; exact ⟨neg, _, xs, rfl, S4.out.below (Hid.out (by assumption)), HL.out, hn, rfl⟩)); rintro e w5 ⟨⟨v5, rfl, hv5⟩, hb5⟩)
        | (go_at_call 23; (with_reducible refine (rsame_any _ _ _ (sg neg (nv xs)) (sg neg (nv xs)) ?g1 ?g2).mono ?_); (case g1 => (go_split_ands; exact V3.out.below (Hid.out (by assumption)))); (case g2 => exact hv5); rintro e w6 ⟨he, hb6⟩; rw [decide_eq_true rfl] at he; subst he))
    rename_i hH
    have H5 := hH.2.2.2.2
    have V3 := hid (V3.out.below H5.out)
    have HB2 := hid (bw_step HB2.out H5.out)
    have x4 := x4.below H5.out
    have F4 := hid (show 0 < n3 → ∃ g o ys, A3 = some ⟨g, o, none⟩ ∧ W.heap.size ≤ g ∧ g ≠ w3.heap.size ∧ Own w6 g ys from fun h0 => by
      obtain ⟨g, o, ys, e1, h1, h2, h3⟩ := F4.out h0
      exact ⟨g, o, ys, e1, h1, h2, h3.below H5.out h3.lt⟩)
    clear hH H5 k0 k1 k4 k5 f0 f1 f4 f5 x04 S4
    obtain ⟨k4, k5, f4, f5⟩ := id x4
    go_wp2
    clear k4 k5 f4 f5
    have F6 := hid (show 0 < n3 → ∃ g o ys, A3 = some ⟨g, o, none⟩ ∧ W.heap.size ≤ g ∧ g ≠ w3.heap.size ∧ Own w6 g ys ∧ o + n3 ≤ ys.length from fun h0 => by
      obtain ⟨g, o, ys, rfl, h1, h2, h3⟩ := F4.out h0
      refine ⟨g, o, ys, rfl, h1, h2, h3, ?_⟩
      obtain ⟨_, _, zs, e, ⟨_, _, e4, _, hsl⟩, _⟩ := V3.out
      injection e with e
      injection e with e
      simp only [List.cons.injEq, and_true] at e
      obtain ⟨_, e⟩ := e
      rw [e4] at e
      injection e with e1 e2 e3
      subst e1 e2 e3
      obtain ⟨b', o', e5, hcl⟩ := hsl.at h0
      injection e5 with e5
      injection e5 with e6 e7
      subst e6 e7
      have := hcl (zs.length - 1) (by omega)
      rcases Nat.lt_or_ge (o + (zs.length - 1)) ys.length with hlt | hge
      · omega
      · exfalso
        unfold World.cell? at this
        unfold Own at h3
        rw [h3] at this
        simp [List.getElem?_eq_none hge] at this)
    have hn3 : n3 ≤ 1099511627776 := by
      obtain ⟨_, _, zs, e, hsl, _⟩ := V3.out
      injection e with e
      injection e with e
      simp only [List.cons.injEq, and_true] at e
      have := hsl.len
      obtain ⟨_, _, e4, _, _⟩ := hsl
      obtain ⟨_, e⟩ := e
      rw [e4] at e
      injection e with e1 e2 e3
      omega
    have X0 := hid x0
    have X3 := hid x3
    clear F4 V3 x0 x3
    go_loopw [21] (fun i wr => ∃ k : Nat, i = .int .i64 k ∧ k ≤ n3 ∧ Hid (Below W.heap.size W wr) ∧ Bx wr w3.heap.size (.bool q) (.slice A3 n3 c3) ∧ Hid (0 < n3 → ∃ g o ys, A3 = some ⟨g, o, none⟩ ∧ W.heap.size ≤ g ∧ g ≠ w3.heap.size ∧ Own wr g ys ∧ o + n3 ≤ ys.length)) (fun i _ => n3 - (intOf i).toNat)
    case atStart => exact ⟨0, rfl, by omega, HB2, x4, F6⟩
    case round =>
      clear HB2 x4 F6
      obtain ⟨k, rfl, hk, HBR, x4, F6⟩ := hrel
      by_cases hkl : k < n3
      · obtain ⟨g, o, ys, rfl, h1, h2, h3, h4⟩ := F6.out (by omega)
        have c1 := h3.cell (j := o + k) (by omega)
        have c2 := h3.free (o + k)
        have H3 := hid (h3.set (o + k) 7)
        have H2 := hid h2
        have X4 := hid (x4.setFar (k := g) (o := o + k) (v := .int .u32 7) h2)
        obtain ⟨k4, k5, f4, f5⟩ := id x4
        have HBn := hid (HBR.out.setCell (p := ⟨g, o + k, none⟩) h1 (.int .u32 7))
        clear h2 h3 x4
        go_wp2
        go_roundw
        case measure => simp [intOf]; omega
        case rel => exact ⟨k + 1, by go_num, by omega, HBn, X4.out, hid (fun _ => ⟨g, o, ys.set (o + k) 7, rfl, h1, H2.out, H3.out, by rw [List.length_set]; exact h4⟩)⟩
      · have x0 := X0.out.lower HBR.out (lt_of_cell X0.out.1)
        have x3 := X3.out.lower HBR.out (lt_of_cell X3.out.1)
        have S0 := hid (S0.out.below HBR.out)
        have V2 := hid (V2.out.below HBR.out)
        obtain ⟨k0, k1, f0, f1⟩ := id x0
        obtain ⟨k4, k5, f4, f5⟩ := id x3
        clear F6
        go_wp2_with fail
        refine (rsame_raw _ neg neg _ _ xs xs V2.out S0.out HL.out HL.out).mono ?_
        rintro e w7 ⟨he, hb7⟩
        rw [decide_eq_true ⟨rfl, rfl⟩] at he
        subst he
        have HB := hid (bw_step HB.out (bw_step HBR.out hb7))
        clear hb7 HBR
        go_wp2_with fail
        refine (awake_any _).mono ?_
        rintro e w8 ⟨rfl, hb8⟩
        have HB := hid (bw_step HB.out hb8)
        clear hb8
        go_wp2
        go_ret
        exact ⟨rfl, HB.out⟩
end Go.Proofs.Ytdbgalohppfkfaa
