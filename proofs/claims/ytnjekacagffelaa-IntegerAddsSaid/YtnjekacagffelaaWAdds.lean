/- The law IntegerAdds: its walk. -/
import Derived.Test.YtnjekacagffelaaAwake
import Derived.Test.YtnjekacagffelaaMul
import Derived.Test.YtnjekacagffelaaRSub
import Derived.Test.YtnjekacagffelaaRSame
import Derived.Test.YtnjekacagffelaaSub
import Derived.Test.YtnjekacagffelaaArg
namespace Go.Proofs.Ytnjekacagffelaa
open Go.RowKit
set_option linter.unusedVariables false

set_option maxHeartbeats 8000000 in
theorem integerAdds_walk (w : World) (v : Value) (ha : ArgI w v) (u : Value) (hb : ArgI w u) :
    Calls Try.prog 3 #[v, u] w fun e w' => e = .returned (.bool true) ∧ Below w.heap.size w w' := by
  rcases ha.parts 40 (by decide) with ⟨na, A, n, c, rfl, hn⟩ | ⟨na, A, c, xs, rfl, hn, hs, hl⟩
  · obtain ⟨nb, B, m, d, rfl, _⟩ := hb
    have hb0 := bw_two w (.cells #[.bool na, .slice A n c] 24) (.cells #[.bool nb, .slice B m d] 24)
    have hd : decide ((40 : Int) < (n : Int)) = true := by rw [decide_eq_true_eq]; omega
    go_enter Try.func3, Try.ntmps3
    go_wp2_with fail
    refine (long_any _ na A n c).mono ?_
    rintro e w1 ⟨he, hb1⟩
    rw [hd] at he
    subst he
    have HB := hid (bw_step hb0 hb1)
    clear hb0 hb1 hd
    go_wp2_with fail
    refine (awake_any _).mono ?_
    rintro e w2 ⟨rfl, hb2⟩
    have HB := hid (bw_step HB.out hb2)
    clear hb2
    go_wp2
    go_ret
    exact ⟨rfl, HB.out⟩
  · have hd : decide ((40 : Int) < (xs.length : Int)) = false := by rw [decide_eq_false_iff_not]; omega
    rcases hb.parts 40 (by decide) with ⟨nb, B, m, d, rfl, hm⟩ | ⟨nb, B, d, ys, rfl, hm, hr, hk⟩
    · have hd2 : decide ((40 : Int) < (m : Int)) = true := by rw [decide_eq_true_eq]; omega
      have hb0 := bw_two w (.cells #[.bool na, .slice A xs.length c] 24) (.cells #[.bool nb, .slice B m d] 24)
      have X := Bx.two w (.bool na) (.slice A xs.length c) (.bool nb) (.slice B m d) 24
      go_enter Try.func3, Try.ntmps3
      go_wp2_with fail
      refine (long_any _ na A xs.length c).mono ?_
      rintro e w1 ⟨he, hb1⟩
      rw [hd] at he
      subst he
      have HB := hid (bw_step hb0 hb1)
      obtain ⟨k2, k3, f2, f3⟩ := X.2.below hb1
      clear hb0 hb1 hd X hs hl
      go_wp2_with fail
      refine (long_any _ nb B m d).mono ?_
      rintro e w1 ⟨he, hb1⟩
      rw [hd2] at he
      subst he
      have HB := hid (bw_step HB.out hb1)
      clear hb1 k2 k3 f2 f3 hd2
      go_wp2_with fail
      refine (awake_any _).mono ?_
      rintro e w2 ⟨rfl, hb2⟩
      have HB := hid (bw_step HB.out hb2)
      clear hb2
      go_wp2
      go_ret
      exact ⟨rfl, HB.out⟩
    · have hd2 : decide ((40 : Int) < (ys.length : Int)) = false := by rw [decide_eq_false_iff_not]; omega
      have hb0 := bw_two w (.cells #[.bool na, .slice A xs.length c] 24) (.cells #[.bool nb, .slice B ys.length d] 24)
      have X := Bx.two w (.bool na) (.slice A xs.length c) (.bool nb) (.slice B ys.length d) 24
      obtain ⟨a, hva⟩ : ∃ a, a = sg na (nv xs) := ⟨_, rfl⟩
      obtain ⟨b, hvb⟩ : ∃ b, b = sg nb (nv ys) := ⟨_, rfl⟩
      have VA := hid (show IntA w (.agg #[.bool na, .slice A xs.length c]) a 40 from ⟨na, _, xs, rfl, hs, hl, hn, hva⟩)
      have VB := hid (show IntA w (.agg #[.bool nb, .slice B ys.length d]) b 40 from ⟨nb, _, ys, rfl, hr, hk, hm, hvb⟩)
      have HVA := hid hva
      have S := hid hs
      have HL := hid hl
      clear hva hvb hs hl hr hk
      go_enter Try.func3, Try.ntmps3
      go_wp2_with fail
      refine (long_any _ na A xs.length c).mono ?_
      rintro e w1 ⟨he, hb1⟩
      rw [hd] at he
      subst he
      have HB := hid (bw_step hb0 hb1)
      have x0 := X.1.below hb1
      have x1 := X.2.below hb1
      obtain ⟨k2, k3, f2, f3⟩ := id x1
      clear hb0 hb1 hd X
      go_wp2_with fail
      refine (long_any _ nb B ys.length d).mono ?_
      rintro e w2 ⟨he, hb1⟩
      rw [hd2] at he
      subst he
      have HB := hid (bw_step HB.out hb1)
      have x0 := x0.below hb1
      have x1 := x1.below hb1
      clear hb1 k2 k3 f2 f3 hd2
      obtain ⟨k0, k1, f0, f1⟩ := id x0
      obtain ⟨k2, k3, f2, f3⟩ := id x1
      have VA := hid (VA.out.below HB.out)
      have VB := hid (VB.out.below HB.out)
      have S := hid (S.out.below HB.out)
      go_wp2_with fail
      go_region_held3 (fun w' => w'.cell? ⟨w.heap.size, 0, none⟩ = some (.bool na) ∧ w'.cell? ⟨w.heap.size, 1, none⟩ = some (.slice A xs.length c) ∧ w'.cell? ⟨w.heap.size + 1, 0, none⟩ = some (.bool nb) ∧ w'.cell? ⟨w.heap.size + 1, 1, none⟩ = some (.slice B ys.length d) ∧ Hid (Below w2.heap.size w2 w'))
        (first
          | exact ⟨k0, k1, k2, k3, bw_drew w2⟩
          | (go_split_ands; have hh := bw_keep (by assumption) (by assumption); exact ⟨cell_below hh k0, cell_below hh k1, cell_below hh k2, cell_below hh k3, hh⟩)
          | (go_split_ands; exact ⟨by assumption, by assumption, by assumption, by assumption, below_drewN (Hid.out (by assumption)) _⟩))
        (first
          | (go_at_call 14; (with_reducible refine (add_any _ (.agg #[.bool na, .slice A xs.length c]) (.agg #[.bool nb, .slice B ys.length d]) a b 40 40 ?g2 ?g3 (by decide) (by decide)).mono ?_); (case g2 => (go_split_ands; exact VA.out.below (Hid.out (by assumption)))); (case g3 => (go_split_ands; exact VB.out.below (Hid.out (by assumption)))); rintro e w3 ⟨⟨v3, rfl, hv3⟩, hb3⟩)
          | (go_at_call 15; (with_reducible refine (radd_any _ (.agg #[.bool na, .slice A xs.length c]) (.agg #[.bool nb, .slice B ys.length d]) a b 40 40 ?g4 ?g5 (by decide) (by decide)).mono ?_); (case g4 => (go_split_ands; exact VA.out.below (Hid.out (by assumption)))); (case g5 => (go_split_ands; exact VB.out.below (Hid.out (by assumption)))); rintro e w4 ⟨⟨v4, rfl, hv4⟩, hb4⟩)
          | (go_at_call 16; (with_reducible refine (sub_any _ (.agg #[.bool na, .slice A xs.length c]) (.agg #[.bool nb, .slice B ys.length d]) a b 40 40 ?g6 ?g7 (by decide) (by decide)).mono ?_); (case g6 => (go_split_ands; exact VA.out.below (Hid.out (by assumption)))); (case g7 => (go_split_ands; exact VB.out.below (Hid.out (by assumption)))); rintro e w5 ⟨⟨v5, rfl, hv5⟩, hb5⟩)
          | (go_at_call 17; (with_reducible refine (rsub_any _ (.agg #[.bool na, .slice A xs.length c]) (.agg #[.bool nb, .slice B ys.length d]) a b 40 40 ?g8 ?g9 (by decide) (by decide)).mono ?_); (case g8 => (go_split_ands; exact VA.out.below (Hid.out (by assumption)))); (case g9 => (go_split_ands; exact VB.out.below (Hid.out (by assumption)))); rintro e w6 ⟨⟨v6, rfl, hv6⟩, hb6⟩)
          | (go_at_call 18; (with_reducible refine (neg_any _ (.agg #[.bool na, .slice A xs.length c]) a 40 ?g10).mono ?_); (case g10 => (go_split_ands; exact VA.out.below (Hid.out (by assumption)))); rintro e w7 ⟨⟨v7, rfl, hv7⟩, hb7⟩)
          | (go_at_call 19; (with_reducible refine (rneg_any _ (.agg #[.bool na, .slice A xs.length c]) a 40 ?g12).mono ?_); (case g12 => (go_split_ands; exact VA.out.below (Hid.out (by assumption)))); rintro e w8 ⟨⟨v8, rfl, hv8⟩, hb8⟩)
          | (go_at_call 13; (with_reducible refine (rsame_any _ v3 v4 (a + b) (a + b) ?g14 ?g15).mono ?_); (case g14 => first | exact hv3 | exact hv3.below hb4); (case g15 => first | exact hv4 | exact hv4.below hb3); rintro e w ⟨he, hb⟩; rw [decide_eq_true rfl] at he; subst he)
          | (go_at_call 13; (with_reducible refine (rsame_any _ v5 v6 (a - b) (a - b) ?g16 ?g17).mono ?_); (case g16 => first | exact hv5 | exact hv5.below hb6); (case g17 => first | exact hv6 | exact hv6.below hb5); rintro e w ⟨he, hb⟩; rw [decide_eq_true rfl] at he; subst he)
          | (go_at_call 13; (with_reducible refine (rsame_any _ v7 v8 (-a) (-a) ?g18 ?g19).mono ?_); (case g18 => first | exact hv7 | exact hv7.below hb8); (case g19 => first | exact hv8 | exact hv8.below hb7); rintro e w ⟨he, hb⟩; rw [decide_eq_true rfl] at he; subst he)
          | (go_at_call 12; (with_reducible refine (awake_any _).mono ?_); rintro e w ⟨rfl, hb⟩))
      rename_i hH
      have HB := hid (bw_step HB.out hH.2.2.2.2.out)
      clear hH
      go_wp2
      go_ret
      exact ⟨rfl, HB.out⟩
end Go.Proofs.Ytnjekacagffelaa
