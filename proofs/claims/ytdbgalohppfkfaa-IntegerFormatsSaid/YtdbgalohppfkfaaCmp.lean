/- Walk: Cmp. -/
import Derived.Test.YtdbgalohppfkfaaSign
namespace Go.Proofs.Ytdbgalohppfkfaa
open Go.RowKit
set_option linter.unusedVariables false

theorem cm_form (a b : Int) : (a < b ∧ cm a b = -1) ∨ (a = b ∧ cm a b = 0) ∨ (b < a ∧ cm a b = 1) := by
  rcases Int.lt_trichotomy a b with h | h | h
  · exact .inl ⟨h, cm_lt h⟩
  · exact .inr (.inl ⟨h, by subst h; unfold cm; simp⟩)
  · exact .inr (.inr ⟨h, cm_gt h⟩)
theorem cm_signs {a b : Int} (h : cm a 0 < cm b 0) : cm a b = -1 := by
  rcases cm_form a 0 with ⟨h1, e1⟩ | ⟨h1, e1⟩ | ⟨h1, e1⟩ <;> rcases cm_form b 0 with ⟨h2, e2⟩ | ⟨h2, e2⟩ | ⟨h2, e2⟩ <;> first | exact cm_lt (by omega) | (rw [e1, e2] at h; omega)
theorem cm_signs' {a b : Int} (h : cm b 0 < cm a 0) : cm a b = 1 := by
  rcases cm_form a 0 with ⟨h1, e1⟩ | ⟨h1, e1⟩ | ⟨h1, e1⟩ <;> rcases cm_form b 0 with ⟨h2, e2⟩ | ⟨h2, e2⟩ | ⟨h2, e2⟩ <;> first | exact cm_gt (by omega) | (rw [e1, e2] at h; omega)
theorem cm_same {x y : Int} {na nb : Bool} (hx : 0 ≤ x) (hy : 0 ≤ y) (h : cm (sg na x) 0 = cm (sg nb y) 0) : cm (sg na x) 0 * cm x y = cm (sg na x) (sg nb y) := by
  rcases cm_form (sg na x) 0 with ⟨h1, e1⟩ | ⟨h1, e1⟩ | ⟨h1, e1⟩ <;> rcases cm_form (sg nb y) 0 with ⟨h2, e2⟩ | ⟨h2, e2⟩ | ⟨h2, e2⟩ <;>
    rcases cm_form x y with ⟨h3, e3⟩ | ⟨h3, e3⟩ | ⟨h3, e3⟩ <;> rcases cm_form (sg na x) (sg nb y) with ⟨h4, e4⟩ | ⟨h4, e4⟩ | ⟨h4, e4⟩ <;>
    cases na <;> cases nb <;> simp only [sg_false, sg_true] at * <;> first | (exfalso; omega) | (rw [e1, e3]; omega) | (rw [e1, e3, e4]; rfl) | (rw [e1, e4]; omega)
theorem cm_wrap (a b c d : Int) : IntKind.i64.wrap (cm a b * cm c d) = cm a b * cm c d := by
  rcases cm_form a b with ⟨_, e1⟩ | ⟨_, e1⟩ | ⟨_, e1⟩ <;> rcases cm_form c d with ⟨_, e2⟩ | ⟨_, e2⟩ | ⟨_, e2⟩ <;> rw [e1, e2] <;> rfl

theorem cmp_any (w : World) (v u : Value) (a b : Int) (n m : Nat) (ha : IntA w v a n) (hb : IntA w u b m) :
    Calls Try.prog 43 #[v, u] w fun e w' => e = .returned (.int .i64 (cm a b)) ∧ Below w.heap.size w w' := by
  have HA := hid ha
  have HBB := hid hb
  obtain ⟨na, s, xs, rfl, hs, hl, hxn, ea⟩ := ha
  obtain ⟨nb, r, ys, rfl, hr, hk, hyn, eb⟩ := hb
  obtain ⟨W, hW⟩ : ∃ W, W = (w.alloc (.cells #[.bool na, s] 24)).alloc (.cells #[.bool nb, r] 24) := ⟨_, rfl⟩
  have X := Bx.two w (.bool na) s (.bool nb) r 24
  rw [← hW] at X
  obtain ⟨x0, x1⟩ := X
  have HB : Below w.heap.size w W := by rw [hW]; exact bw_alloc (bw_alloc (Below.refl _ _) _) _
  have HA1 := hid (HA.out.below HB)
  have HBB1 := hid (HBB.out.below HB)
  have EA := hid ea
  have EB := hid eb
  have HL := hid hl
  have HK := hid hk
  have S0 := hid (hs.below HB)
  have R0 := hid (hr.below HB)
  have HB0 := hid HB
  clear HA HBB ea eb hl hk hs hr HB
  obtain ⟨k0, k1, f0, f1⟩ := id x0
  obtain ⟨k2, k3, f2, f3⟩ := id x1
  go_enter Try.func43, Try.ntmps43
  go_wp2_with fail
  rw [← hW]
  clear hW
  refine (sign_any _ _ a n HA1.out).mono ?_
  rintro e w1 ⟨rfl, hb1⟩
  have HBB1 := hid (HBB1.out.below hb1)
  have HB1 := hid (bw_step HB0.out hb1)
  have S1 := hid (S0.out.below hb1)
  have R1 := hid (R0.out.below hb1)
  have y0 := x0.below hb1
  have y1 := x1.below hb1
  clear HB0 hb1 S0 R0 k0 k1 f0 f1 k2 k3 f2 f3 x0 x1
  obtain ⟨k0, k1, f0, f1⟩ := id y0
  obtain ⟨k2, k3, f2, f3⟩ := id y1
  go_wp2_with fail
  refine (sign_any _ _ b m HBB1.out).mono ?_
  rintro e w2 ⟨rfl, hb2⟩
  have HB2 := hid (bw_step HB1.out hb2)
  have S2 := hid (S1.out.below hb2)
  have R2 := hid (R1.out.below hb2)
  have x0 := y0.below hb2
  have x1 := y1.below hb2
  clear HB1 hb2 S1 R1 k0 k1 f0 f1 k2 k3 f2 f3 y0 y1
  obtain ⟨k0, k1, f0, f1⟩ := id x0
  obtain ⟨k2, k3, f2, f3⟩ := id x1
  rcases Int.lt_trichotomy (cm a 0) (cm b 0) with h | h | h
  · have h1 : (cm a 0 != cm b 0) = true := by rw [bne_iff_ne]; omega
    have h2 : decide (cm a 0 < cm b 0) = true := decide_eq_true h
    have E := hid (cm_signs h)
    clear h
    go_wp2
    go_ret
    exact ⟨by rw [E.out]; rfl, HB2.out⟩
  · have h1 : (cm a 0 != cm b 0) = false := by rw [h]; simp
    have hw := cm_wrap a 0 (nv (tr xs)) (nv (tr ys))
    have E := hid (show cm a 0 * cm (nv (tr xs)) (nv (tr ys)) = cm a b by
      rw [nv_tr, nv_tr]
      rw [EA.out, EB.out] at h ⊢
      exact cm_same (nv_nonneg HL.out) (nv_nonneg HK.out) h)
    clear h
    go_wp2_with fail
    go_region_held3 (fun w' => w'.cell? ⟨w.heap.size, 0, none⟩ = some (.bool na) ∧ w'.cell? ⟨w.heap.size, 1, none⟩ = some s ∧ w'.cell? ⟨w.heap.size + 1, 0, none⟩ = some (.bool nb) ∧ w'.cell? ⟨w.heap.size + 1, 1, none⟩ = some r ∧ Hid (Below w2.heap.size w2 w'))
      (first
        | exact ⟨k0, k1, k2, k3, bw_drew w2⟩
        | (go_split_ands; have hh := bw_keep (by assumption) (by assumption); exact ⟨cell_below hh k0, cell_below hh k1, cell_below hh k2, cell_below hh k3, hh⟩)
        | (go_split_ands; exact ⟨by assumption, by assumption, by assumption, by assumption, below_drewN (Hid.out (by assumption)) _⟩))
      (first
        | (go_at_call 45; (with_reducible refine (magnitude_any _ _ s na xs rfl ?hz).mono ?_); (case hz => (go_split_ands; exact S2.out.below (Hid.out (by assumption)))); rintro e w1 ⟨⟨s1, rfl, hc1⟩, hb1⟩)
        | (go_at_call 45; (with_reducible refine (magnitude_any _ _ r nb ys rfl ?hz).mono ?_); (case hz => (go_split_ands; exact R2.out.below (Hid.out (by assumption)))); rintro e w1 ⟨⟨s2, rfl, hc2⟩, hb2⟩)
        | (go_at_call 47; (with_reducible refine (compare_any _ _ _ (tr xs) (tr ys) ?g1 ?g2 HL.out.tr HK.out.tr (Cn.tr _) (Cn.tr _)).mono ?_); (case g1 => (go_split_ands; exact hc1 _ (S2.out.below (Hid.out (by assumption))))); (case g2 => (go_split_ands; exact hc2 _ (R2.out.below (Hid.out (by assumption))))); rintro e w' ⟨rfl, ⟨nq, rfl⟩⟩))
    rename_i hH
    have HB3 := hid (bw_step HB2.out hH.2.2.2.2.out)
    clear hH
    go_wp2
    go_ret
    exact ⟨by rw [E.out]; rfl, HB3.out⟩
  · have h1 : (cm a 0 != cm b 0) = true := by rw [bne_iff_ne]; omega
    have h2 : decide (cm a 0 < cm b 0) = false := by rw [decide_eq_false_iff_not]; omega
    have E := hid (cm_signs' h)
    clear h
    go_wp2
    go_ret
    exact ⟨by rw [E.out]; rfl, HB2.out⟩
end Go.Proofs.Ytdbgalohppfkfaa
