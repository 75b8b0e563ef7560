/- A part of the proof of the laws of rationals: RSub, Format. -/
import Derived.Test.YtijmjkkjopplbaaPam
import Derived.Test.YtijmjkkjopplbaaPae
import Derived.Test.YtijmjkkjopplbaaPab
import Derived.Test.YtijmjkkjopplbaaPac
import Derived.Test.YtijmjkkjopplbaaPai
import Derived.Test.YtijmjkkjopplbaaPaa
import Derived.Test.YtijmjkkjopplbaaPas
import Derived.Test.YtijmjkkjopplbaaPar
import Derived.Test.YtijmjkkjopplbaaPad
namespace Go.Proofs.Ytijmjkkjopplbaa
open Go.RowKit
set_option linter.unusedVariables false
set_option maxRecDepth 100000

theorem Sm.neg {n : Nat} {z : Int} (h : Sm n z) : Sm n (-z) := ⟨by have := h.2; omega, by have := h.1; omega⟩

end Go.Proofs.Ytijmjkkjopplbaa

namespace Go.Proofs.Ytijmjkkjopplbaa
open Go.RowKit
set_option linter.unusedVariables false
set_option maxRecDepth 100000

theorem format_zero (w : World) (v : Value) (n : Nat) (ha : IntA w v 0 n) :
    Calls Try.prog 77 #[v] w fun e w' => e = .returned (.string ⟨(text 0).toArray⟩) ∧ Below w.heap.size w w' := by
  have HA := hid ha
  obtain ⟨neg, A, m, c, rfl⟩ := ha.form
  clear ha
  have hb := bw_alloc (Below.refl _ w) (.cells #[.bool neg, .slice A m c] 24)
  have HA := hid (HA.out.below hb)
  go_enter Try.func77, Try.ntmps77
  go_wp2_with fail
  refine (normalize_any _ _ 0 n HA.out).mono ?_
  rintro e w1 ⟨⟨u, rfl, hu, _⟩, hb1⟩
  have HB := hid (bw_step hb hb1)
  obtain ⟨q, s, xs, rfl, hs, hl, hc, hn, hz⟩ := hu
  have hz2 : nv xs = 0 := by cases q <;> simp [sg] at hz <;> omega
  obtain rfl := hc.zero hl hz2
  obtain ⟨A1, c1, rfl, hcc, hsl⟩ := hs
  clear hb1 hl hc hn hz hz2 hsl
  have hfm := field_mag q (.slice A1 0 c1)
  simp only [List.length_nil] at *
  go_wp2
  go_ret
  exact ⟨by unfold text; rfl, HB.out⟩

set_option maxHeartbeats 1000000 in
theorem format_any (w : World) (v : Value) (a : Int) (n : Nat) (ha : IntA w v a n) (hn : n ≤ 68719476736) :
    Calls Try.prog 77 #[v] w fun e w' => e = .returned (.string ⟨(text a).toArray⟩) ∧ Below w.heap.size w w' := by
  by_cases ha0 : a = 0
  · subst ha0; exact format_zero w v n ha
  have HA := hid ha
  obtain ⟨neg, s0, ys, rfl, hs0, hl0, hn0, hsg⟩ := ha
  have hlt := nv_lt hl0
  have hbm := bp_mono hn0
  have hnn := nv_nonneg hl0
  obtain ⟨N, hN⟩ : ∃ N, N = a.natAbs := ⟨_, rfl⟩
  have hN1 : N = (nv ys).toNat := by rw [hN, hsg]; cases neg <;> simp [sg] <;> omega
  have hN2 : (digs N).length ≤ 10 * n := by rw [hN1]; exact digs_len_bp hnn (by omega)
  have hT : text a = (if neg = true then [45] else []) ++ (digs N).reverse := by
    unfold text
    rw [if_neg ha0, ← hN]
    congr 1
    cases neg
    · rw [sg_false] at hsg; simp; omega
    · rw [sg_true] at hsg; simp; omega
  have x0 := Bx.new w (.bool neg) s0 24
  have hb := bw_alloc (Below.refl _ w) (.cells #[.bool neg, s0] 24)
  have HA := hid (HA.out.below hb)
  have HT := hid hT
  have HN := hid hN2
  have HN1 := hid hN
  have A0 := hid ha0
  clear hT hN1 hN2 hlt hbm hnn hsg hs0 hl0 hn0 hN ha0
  go_enter Try.func77, Try.ntmps77
  go_wp2_with fail
  refine (normalize_any _ _ a n HA.out).mono ?_
  rintro e w1 ⟨⟨u, rfl, hu, hfr⟩, hb1⟩
  have HB := hid (bw_step hb hb1)
  have x0 := x0.below hb1
  obtain ⟨q, s, xs, rfl, hs, hl, hc, hnn, hz⟩ := hu
  have hx0 := nv_nonneg hl
  have hne : xs.length ≠ 0 := fun e => by
    rw [List.eq_nil_of_length_eq_zero e, nv_nil] at hz
    exact A0.out (by rw [hz]; cases q <;> rfl)
  have hNx : N = (nv xs).toNat := by rw [HN1.out, hz]; cases q <;> simp [sg] <;> omega
  have hlen2 : ((xs.length : Int) == 0) = false := by rw [beq_eq_false_iff_ne]; omega
  have TG := hid (show Tg w1 s by
    obtain ⟨_, A, n, c, e, hA⟩ := hfr
    injection e with e
    injection e with e
    simp only [List.cons.injEq, and_true] at e
    exact ⟨A, n, c, e.2, fun h0 => let ⟨g, o, ys, e1, _, h2⟩ := hA h0; ⟨g, o, ys, e1, h2⟩⟩)
  have XS := hid hs
  have XL := hid hl
  have XC := hid hc
  have NX := hid hNx
  obtain ⟨A1, c1, rfl, hcc, hsl⟩ := id hs
  clear hb hb1 hs hl hc hz hNx hnn hsl hx0 hfr
  have hfm := field_mag q (.slice A1 xs.length c1)
  go_wp2
  clear hfm
  go_loopg [3, 4] N (fun gk v b wr => ∃ A c ms bs, v = .slice A ms.length c ∧ Hid (SlV wr v ms) ∧ Hid (Tg wr v) ∧ Hid (Lb ms) ∧ Hid (Cn ms) ∧ Hid (gk = (nv ms).toNat) ∧ Hid (Row8 wr (w.heap.size + 1) b bs) ∧ Hid (digs N = bs ++ digs (nv ms).toNat) ∧ Hid (Below w.heap.size w wr) ∧ Hid (w.heap.size + 1 ≤ wr.heap.size) ∧ Bx wr w.heap.size (.bool neg) s0)
  case atStart => exact ⟨A1, c1, xs, [], rfl, XS.out, TG.out, XL.out, XC.out, NX.out, Row8.nil _ _, show _ = _ by rw [← NX.out]; rfl, HB.out, lt_of_cell x0.1, x0⟩
  case round =>
    clear HB x0 XS XL XC NX hcc hne hlen2 TG
    obtain ⟨A, c, ms, bs, rfl, MS, MT, ML, MC, MG, BS, DN, HB, HB2, x0⟩ := hrel
    by_cases h0 : ms.length = 0
    · have hp : decide ((0 : Int) < (ms.length : Int)) = false := by rw [decide_eq_false_iff_not]; omega
      have DE := hid (show digs N = bs by
        rw [DN.out, List.eq_nil_of_length_eq_zero h0, nv_nil, show (0 : Int).toNat = 0 from rfl, digs_zero, List.append_nil])
      have HLEN := hid (show bs.length < 1099511627776 by
        have h1 := HN.out
        rw [DE.out] at h1
        omega)
      obtain ⟨k0, k1, f0, f1⟩ := id x0
      have d4 : ¬ 0 < ms.length := by omega
      clear MS MT ML MC MG DN h0
      cases neg with
      | false =>
        obtain ⟨rs, hrs⟩ : ∃ rs, rs = bs := ⟨_, rfl⟩
        have RT := hid (show text a = rs.reverse by rw [HT.out, DE.out, hrs]; rfl)
        rw [← hrs] at BS HLEN
        clear hrs
        have hid5 := HB
        obtain ⟨A5, c5, rfl, hc5, hcl5⟩ := BS.out.len
        have hlr := HLEN.out
        have hmk := make_u8 rs.length (by omega)
        clear HB
        go_wp2
        have hown := Own8.made wr rs.length
        have HCC := hid hcl5
        clear hmk hcl5
        go_loopw [57] (fun i wx => ∃ (k : Nat) (os : List UInt8), i = .int .i64 k ∧ k ≤ rs.length ∧ Hid (os.length = rs.length) ∧ Hid (Own8 wx wr.heap.size os) ∧ Hid (os.take k = rs.reverse.take k) ∧ Hid (Below wr.heap.size wr wx)) (fun i _ => rs.length - (intOf i).toNat)
        case atStart => exact ⟨0, List.replicate rs.length 0, rfl, by omega, hid (by simp), hid hown, hid (by simp), hid ((Below.refl _ _).alloc (Nat.le_refl _) _)⟩
        case round =>
          clear hown
          obtain ⟨k, os, rfl, hk, OL, OO, OT, OB⟩ := hrel
          by_cases hkl : k < rs.length
          · have hkl2 : rs.length - 1 - k < rs.length := by omega
            obtain ⟨g5, rfl, hcl⟩ := HCC.out (by omega)
            have c5 := hcl (rs.length - 1 - k) hkl2
            have c6 : wr.cell? ⟨g5, rs.length - 1 - k, none⟩ = some (.int .u8 (rs[rs.length - 1 - k].toNat : Int)) := cell_below OB.out c5
            have c7 := OO.out.cell (j := k) (by rw [OL.out]; exact hkl)
            unfold bv at c7
            have c8 := OO.out.free k
            have htn : ((rs.length : Int) - 1 - (k : Int)).toNat = rs.length - 1 - k := by omega
            have hj0 : (0 : Int) ≤ (rs.length : Int) - 1 - (k : Int) := by omega
            have hj1 : (rs.length : Int) - 1 - (k : Int) < (rs.length : Int) := by omega
            have OS := hid (OO.out.set k rs[rs.length - 1 - k])
            have OX := hid (show (os.set k rs[rs.length - 1 - k]).take (k + 1) = rs.reverse.take (k + 1) by
              rw [List.take_add_one, List.take_add_one, List.take_set_of_le (Nat.le_refl _), OT.out, List.getElem?_set_self (by rw [OL.out]; exact hkl), List.getElem?_reverse (by exact hkl), List.getElem?_eq_getElem (by omega)])
            clear hcl c5
            generalize rs[rs.length - 1 - k] = y at *
            go_wp2
            go_roundw
            case measure => simp [intOf]; omega
            case rel => exact ⟨k + 1, os.set k y, by go_num, by omega, hid (by rw [List.length_set]; exact OL.out), OS, OX, hid (OB.out.setCell (Nat.le_refl _) _)⟩
          · have e : os = rs.reverse := by
              have h1 := OT.out
              rw [List.take_of_length_le (by rw [OL.out]; omega), List.take_of_length_le (by rw [List.length_reverse]; omega)] at h1
              exact h1
            have hcv := string_own wr _ rs.length rs.length os OO.out OL.out
            have HE := hid e
            have d9 : decide ((k : Int) < (rs.length : Int)) = false := by rw [decide_eq_false_iff_not]; omega
            clear e
            go_wp2
            go_ret
            exact ⟨by rw [HE.out, RT.out]; rfl, hid5.out.trans (OB.out.mono hid5.out.size)⟩
      | true =>
        go_wp2_with (at_builtin; refine wp_push_u8 rfl _ _ rfl _ 45 (by decide) _ (w.heap.size + 1) bs BS.out HB2.out HLEN.out rfl rfl ?_; intro v5 w5 hr5 hb5 hk5; obtain ⟨rs, hrs⟩ : ∃ rs, rs = bs ++ [45] := ⟨_, rfl⟩; (have RT := hid (show text a = rs.reverse by rw [HT.out, DE.out, hrs, List.reverse_append]; rfl)); (have hlr : rs.length < 1099511627777 := by rw [hrs, List.length_append]; have := HLEN.out; simp; omega); rw [← hrs] at hr5; have hid5 := hid (HB.out.trans (hb5.mono (Nat.le_succ _))); obtain ⟨A5, c5, rfl, hc5, hcl5⟩ := hr5.len; have hmk := make_u8 rs.length (by omega); clear hrs hr5 hb5 hk5 HB BS HLEN x0 k0 k1 f0 f1)
        have hown := Own8.made w5 rs.length
        have HCC := hid hcl5
        clear hmk hcl5
        go_loopw [57] (fun i wx => ∃ (k : Nat) (os : List UInt8), i = .int .i64 k ∧ k ≤ rs.length ∧ Hid (os.length = rs.length) ∧ Hid (Own8 wx w5.heap.size os) ∧ Hid (os.take k = rs.reverse.take k) ∧ Hid (Below w5.heap.size w5 wx)) (fun i _ => rs.length - (intOf i).toNat)
        case atStart => exact ⟨0, List.replicate rs.length 0, rfl, by omega, hid (by simp), hid hown, hid (by simp), hid ((Below.refl _ _).alloc (Nat.le_refl _) _)⟩
        case round =>
          clear hown
          obtain ⟨k, os, rfl, hk, OL, OO, OT, OB⟩ := hrel
          by_cases hkl : k < rs.length
          · have hkl2 : rs.length - 1 - k < rs.length := by omega
            obtain ⟨g5, rfl, hcl⟩ := HCC.out (by omega)
            have c5 := hcl (rs.length - 1 - k) hkl2
            have c6 : wr.cell? ⟨g5, rs.length - 1 - k, none⟩ = some (.int .u8 (rs[rs.length - 1 - k].toNat : Int)) := cell_below OB.out c5
            have c7 := OO.out.cell (j := k) (by rw [OL.out]; exact hkl)
            unfold bv at c7
            have c8 := OO.out.free k
            have htn : ((rs.length : Int) - 1 - (k : Int)).toNat = rs.length - 1 - k := by omega
            have hj0 : (0 : Int) ≤ (rs.length : Int) - 1 - (k : Int) := by omega
            have hj1 : (rs.length : Int) - 1 - (k : Int) < (rs.length : Int) := by omega
            have OS := hid (OO.out.set k rs[rs.length - 1 - k])
            have OX := hid (show (os.set k rs[rs.length - 1 - k]).take (k + 1) = rs.reverse.take (k + 1) by
              rw [List.take_add_one, List.take_add_one, List.take_set_of_le (Nat.le_refl _), OT.out, List.getElem?_set_self (by rw [OL.out]; exact hkl), List.getElem?_reverse (by exact hkl), List.getElem?_eq_getElem (by omega)])
            clear hcl c5
            generalize rs[rs.length - 1 - k] = y at *
            go_wp2
            go_roundw
            case measure => simp [intOf]; omega
            case rel => exact ⟨k + 1, os.set k y, by go_num, by omega, hid (by rw [List.length_set]; exact OL.out), OS, OX, hid (OB.out.setCell (Nat.le_refl _) _)⟩
          · have e : os = rs.reverse := by
              have h1 := OT.out
              rw [List.take_of_length_le (by rw [OL.out]; omega), List.take_of_length_le (by rw [List.length_reverse]; omega)] at h1
              exact h1
            have hcv := string_own wr _ rs.length rs.length os OO.out OL.out
            have HE := hid e
            have d9 : decide ((k : Int) < (rs.length : Int)) = false := by rw [decide_eq_false_iff_not]; omega
            clear e
            go_wp2
            go_ret
            exact ⟨by rw [HE.out, RT.out]; rfl, hid5.out.trans (OB.out.mono hid5.out.size)⟩
    · have hp : decide ((0 : Int) < (ms.length : Int)) = true := by rw [decide_eq_true_eq]; omega
      have MP := hid (MC.out.pos ML.out (by omega))
      go_wp2_with fail
      refine (shortDivide_tg _ _ ms 1000000000 MS.out ML.out ⟨by decide, by decide⟩).mono ?_
      rintro e w4 ⟨⟨q1, qs, he, hq1, hq2, hq3, hq4, hq5⟩, hb4⟩
      have hm0 := Int.emod_nonneg (nv ms) (show (1000000000 : Int) ≠ 0 by decide)
      have hm1 := Int.emod_lt_of_pos (nv ms) (show (0 : Int) < 1000000000 by decide)
      have hm2 := Int.emod_add_mul_ediv (nv ms) 1000000000
      obtain ⟨ρ0, hρ⟩ := Int.eq_ofNat_of_zero_le hm0
      rw [hρ] at he hm1 hm2
      subst he
      rw [← hq4] at hm2
      have hqn := nv_nonneg hq2
      have hQ : (nv ms).toNat = (nv qs).toNat * 10 ^ (9 - 0) + ρ0 := by
        show _ = _ * 1000000000 + _
        omega
      obtain ⟨A4, c4, rfl, hc4, hsl4⟩ := id hq1
      have QS := hid (And.intro hq1 hq5)
      have QL := hid hq2
      have QC := hid hq3
      have QD := hid (show (nv qs).toNat < (nv ms).toNat by have := MP.out; omega)
      have QP := hid (show 0 < qs.length → 0 < (nv qs).toNat from fun h => by have := hq3.pos hq2 h; omega)
      have QZ := hid (show qs.length = 0 → (nv qs).toNat = 0 from fun h => by rw [List.eq_nil_of_length_eq_zero h]; rfl)
      have BS := hid (BS.out.below hb4)
      have HB := hid (bw_step HB.out hb4)
      have HB2 := hid (Nat.le_trans HB2.out hb4.size)
      have x0 := x0.below hb4
      have DN := hid (show digs N = bs ++ digs ((nv qs).toNat * 10 ^ (9 - 0) + ρ0) by rw [DN.out, hQ])
      have R0 := hid (show ρ0 < 10 ^ (9 - 0) by show _ < 1000000000; omega)
      have hr0 : ρ0 < 1000000000 := by omega
      clear hq1 hq2 hq3 hq4 hq5 hb4 hm0 hm1 hm2 hρ hsl4 hQ hqn MS MT ML MC
      go_wp2
      go_loopw [4, 6, 7] (fun b r i wr => ∃ (bs : List UInt8) (ρ k : Nat), r = .int .u32 ρ ∧ i = .int .i64 k ∧ k ≤ 9 ∧ ρ < 1000000000 ∧ Hid (ρ < 10 ^ (9 - k)) ∧ Hid (Row8 wr (w.heap.size + 1) b bs) ∧ Hid (digs N = bs ++ digs ((nv qs).toNat * 10 ^ (9 - k) + ρ)) ∧ Hid (Below w.heap.size w wr) ∧ Hid (w.heap.size + 1 ≤ wr.heap.size) ∧
          Hid (SlV wr (.slice A4 qs.length c4) qs ∧ Tg wr (.slice A4 qs.length c4)) ∧ Bx wr w.heap.size (.bool neg) s0) (fun _ _ i _ => 9 - (intOf i).toNat)
      case atStart => exact ⟨bs, ρ0, 0, rfl, rfl, by omega, hr0, R0, BS, DN, HB, HB2, QS, x0⟩
      case round =>
        clear BS HB HB2 QS x0 DN R0 hr0
        obtain ⟨bs, ρ, k, rfl, rfl, hk, hr9, R9, BS, DN, HB, HB2, QS, x0⟩ := hrel
        by_cases hgo : k < 9 ∧ (0 < qs.length ∨ 0 < ρ)
        · obtain ⟨hk9, hor⟩ := hgo
          have hpw := Nat.pow_pos (n := 9 - k) (show 0 < 10 by decide)
          have hpe : 10 ^ (9 - k) = 10 * 10 ^ (8 - k) := by rw [show 9 - k = (8 - k) + 1 by omega, Nat.pow_succ, Nat.mul_comm]
          have hst := digs_step (Q := (nv qs).toNat) (r := ρ) (P := 10 ^ (8 - k)) (by
            rw [← hpe]
            rcases hor with h | h
            · have := Nat.mul_pos (QP.out h) hpw; omega
            · omega) (by rw [← hpe]; exact R9.out)
          have ST := hid hst
          have PE := hid hpe
          have w1 : IntKind.u32.wrap (48 + (ρ : Int) % 10) = 48 + (ρ : Int) % 10 := by rw [wrap_u32m]; omega
          have w2 : IntKind.u8.wrap (48 + (ρ : Int) % 10) = 48 + (ρ : Int) % 10 := by simp [IntKind.wrap, IntKind.bits, IntKind.signed]; omega
          have HLEN := hid (show bs.length < 1099511627776 by
            have h1 := HN.out
            rw [DN.out, List.length_append] at h1
            omega)
          have ED := hid (show 48 + (ρ : Int) % 10 = ((dg (ρ % 10)).toNat : Int) by rw [dg_toNat (by omega)]; omega)
          clear hst hpw hpe
          have d0 : decide ((k : Int) < 9) = true := by rw [decide_eq_true_eq]; omega
          by_cases hq : 0 < qs.length
          · have d1 : decide ((0 : Int) < (qs.length : Int)) = true := by rw [decide_eq_true_eq]; omega
            clear hor
            go_wp2_with (at_builtin; refine wp_push_u8 rfl _ _ rfl _ (dg (ρ % 10)) ED.out _ (w.heap.size + 1) bs BS.out HB2.out HLEN.out rfl rfl ?_; intro v5 w5 hr5 hb5 hk5; have BSn := hid hr5; have x0n := x0.lower hb5 (Nat.lt_succ_self _); have HBn := hid (HB.out.trans (hb5.mono (Nat.le_succ _))); have QSn := hid (hk5.slv QS.out.1 QS.out.2); have HSn := hid (Nat.le_trans HB2.out hb5.size); clear hr5 hb5 hk5 x0 HB QS BS HB2)
            go_roundw
            case measure => simp [intOf]; omega
            case rel => exact ⟨bs ++ [dg (ρ % 10)], ρ / 10, k + 1, by go_num, by go_num, by omega, by omega, hid (by rw [show 9 - (k + 1) = 8 - k by omega]; exact ST.out.2), BSn, hid (by rw [DN.out, List.append_assoc, show 9 - (k + 1) = 8 - k by omega, PE.out, ST.out.1]; rfl), HBn, HSn, QSn, x0n⟩
          · have d1 : decide ((0 : Int) < (qs.length : Int)) = false := by rw [decide_eq_false_iff_not]; omega
            have d2 : decide (0 < ρ) = true := by rw [decide_eq_true_eq]; omega
            have d3 : 0 < ρ := by omega
            clear hor
            go_wp2_with (at_builtin; refine wp_push_u8 rfl _ _ rfl _ (dg (ρ % 10)) ED.out _ (w.heap.size + 1) bs BS.out HB2.out HLEN.out rfl rfl ?_; intro v5 w5 hr5 hb5 hk5; have BSn := hid hr5; have x0n := x0.lower hb5 (Nat.lt_succ_self _); have HBn := hid (HB.out.trans (hb5.mono (Nat.le_succ _))); have QSn := hid (hk5.slv QS.out.1 QS.out.2); have HSn := hid (Nat.le_trans HB2.out hb5.size); clear hr5 hb5 hk5 x0 HB QS BS HB2)
            go_roundw
            case measure => simp [intOf]; omega
            case rel => exact ⟨bs ++ [dg (ρ % 10)], ρ / 10, k + 1, by go_num, by go_num, by omega, by omega, hid (by rw [show 9 - (k + 1) = 8 - k by omega]; exact ST.out.2), BSn, hid (by rw [DN.out, List.append_assoc, show 9 - (k + 1) = 8 - k by omega, PE.out, ST.out.1]; rfl), HBn, HSn, QSn, x0n⟩
        · have EX := hid (show digs ((nv qs).toNat * 10 ^ (9 - k) + ρ) = digs (nv qs).toNat by
            have h9 := R9.out
            by_cases hk9 : k < 9
            · rw [QZ.out (by omega), show ρ = 0 by omega]; simp
            · obtain rfl : k = 9 := by omega
              have : ρ = 0 := by simpa using h9
              rw [this]; simp)
          by_cases hk9 : k < 9
          · have d0 : decide ((k : Int) < 9) = true := by rw [decide_eq_true_eq]; omega
            have d1 : decide ((0 : Int) < (qs.length : Int)) = false := by rw [decide_eq_false_iff_not]; omega
            have d2 : decide (0 < ρ) = false := by rw [decide_eq_false_iff_not]; omega
            have d3 : ¬ 0 < ρ := by omega
            have d4 : ¬ 0 < qs.length := by omega
            clear hgo
            go_wp2
            go_roundg (nv qs).toNat
            case measure =>
              rw [MG.out]
              have h1 := QD.out
              have h2 := MP.out
              omega
            case rel => exact ⟨A4, c4, qs, bs, rfl, QS.out.1, QS.out.2, QL, QC, hid rfl, BS, hid (by rw [DN.out, EX.out]), HB, HB2, x0⟩
          · have d0 : decide ((k : Int) < 9) = false := by rw [decide_eq_false_iff_not]; omega
            clear hgo
            go_wp2
            go_roundg (nv qs).toNat
            case measure =>
              rw [MG.out]
              have h1 := QD.out
              have h2 := MP.out
              omega
            case rel => exact ⟨A4, c4, qs, bs, rfl, QS.out.1, QS.out.2, QL, QC, hid rfl, BS, hid (by rw [DN.out, EX.out]), HB, HB2, x0⟩
end Go.Proofs.Ytijmjkkjopplbaa

