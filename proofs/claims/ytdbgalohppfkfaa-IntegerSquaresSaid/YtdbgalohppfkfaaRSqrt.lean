/- The reference: Sqrt. -/
import Derived.Test.YtdbgalohppfkfaaRSign
import Derived.Test.YtdbgalohppfkfaaRMul
import Derived.Test.YtdbgalohppfkfaaRDivide
import Derived.Test.YtdbgalohppfkfaaSqrt
import Derived.Test.YtdbgalohppfkfaaExec
import Derived.Test.YtdbgalohppfkfaaSm
import Derived.Test.YtdbgalohppfkfaaBits
namespace Go.Proofs.Ytdbgalohppfkfaa
open Go.RowKit
set_option linter.unusedVariables false
set_option maxRecDepth 100000

theorem u32_clear_bit {x : Int} {s : Nat} (hx0 : 0 ≤ x) (hs : s < 32) (h : x % 2 ^ (s + 1) = 0) (hb : x + 2 ^ s < 4294967296) : bits .andNot .u32 (x + 2 ^ s) (2 ^ s) = x := by
  obtain ⟨a, rfl⟩ := Int.eq_ofNat_of_zero_le hx0
  have hpn : ((2 : Int) ^ s) = ((2 ^ s : Nat) : Int) := by rw [Int.natCast_pow]; rfl
  have hpn2 : ((2 : Int) ^ (s + 1)) = ((2 ^ (s + 1) : Nat) : Int) := by rw [Int.natCast_pow]; rfl
  rw [hpn] at hb ⊢
  rw [hpn2] at h
  have ha : a % 2 ^ (s + 1) = 0 := by omega
  have hp : 2 ^ s < 2 ^ 32 := Nat.pow_lt_pow_right (by decide) hs
  obtain ⟨u, hu⟩ : ∃ u, a = 2 ^ (s + 1) * u := ⟨a / 2 ^ (s + 1), by have := Nat.mod_add_div a (2 ^ (s + 1)); omega⟩
  have hlt : (2 : Nat) ^ s < 2 ^ (s + 1) := Nat.pow_lt_pow_right (by decide) (by omega)
  have e : a + 2 ^ s = a ||| 2 ^ s := by rw [hu]; exact Nat.two_pow_add_eq_or_of_lt hlt u
  have e2 : ((a : Int) + ((2 ^ s : Nat) : Int)) = ((a + 2 ^ s : Nat) : Int) := by omega
  rw [e2, u32_andNot_nat _ _ (by omega) (by omega), e]
  congr 1
  refine Nat.eq_of_testBit_eq fun i => ?_
  rw [Nat.testBit_and, Nat.testBit_or, Nat.testBit_two_pow, show 4294967295 - 2 ^ s = 2 ^ 32 - (2 ^ s + 1) by omega, Nat.testBit_two_pow_sub_succ hp, Nat.testBit_two_pow]
  by_cases h1 : s = i
  · subst h1
    have : a.testBit s = false := by rw [hu, Nat.testBit_two_pow_mul]; simp; omega
    simp [this]
  · by_cases h2 : i < 32
    · simp [h1, h2]
    · have : a.testBit i = false := Nat.testBit_lt_two_pow (Nat.lt_of_lt_of_le (show a < 2 ^ 32 by omega) (Nat.pow_le_pow_right (by decide) (by omega)))
      simp [h1, this]
/-- What the bits above k of a root are. -/
def RootInv (A : Int) (k : Nat) (R : Int) : Prop := 0 ≤ R ∧ R % 2 ^ k = 0 ∧ R * R ≤ A ∧ A < (R + 2 ^ k) * (R + 2 ^ k)
theorem RootInv.less {A R : Int} {j : Nat} (h : RootInv A (j + 1) R) (hl : A < (R + 2 ^ j) * (R + 2 ^ j)) : RootInv A j R := by
  obtain ⟨h1, h2, h3, h4⟩ := h
  refine ⟨h1, ?_, h3, hl⟩
  have e := Int.emod_add_mul_ediv R (2 ^ (j + 1))
  rw [h2, Int.zero_add, Int.pow_succ, Int.mul_assoc] at e
  rw [← e]; exact Int.mul_emod_right _ _
theorem RootInv.more {A R : Int} {j : Nat} (h : RootInv A (j + 1) R) (hl : (R + 2 ^ j) * (R + 2 ^ j) ≤ A) : RootInv A j (R + 2 ^ j) := by
  have hp := pow_pos2 j
  obtain ⟨h1, h2, h3, h4⟩ := h
  refine ⟨by omega, ?_, hl, ?_⟩
  · have e := Int.emod_add_mul_ediv R (2 ^ (j + 1))
    rw [h2, Int.zero_add, Int.pow_succ, Int.mul_assoc] at e
    rw [Int.add_emod_right, ← e]; exact Int.mul_emod_right _ _
  · rw [show R + 2 ^ j + 2 ^ j = R + 2 ^ (j + 1) by rw [Int.pow_succ]; omega]; exact h4
theorem RootInv.done {A R : Int} (h : RootInv A 0 R) : isRoot A R := ⟨h.1, h.2.2.1, by have := h.2.2.2; rwa [Int.pow_zero] at this⟩
theorem RootInv.start {A : Int} {k : Nat} (h0 : 0 ≤ A) (h : A < 2 ^ k * 2 ^ k) : RootInv A k 0 := ⟨by omega, by simp, by simpa using h0, by simpa using h⟩

theorem rsqrt_neg (w : World) (v : Value) (a : Int) (n : Nat) (ha : IntA w v a n) (h0 : a < 0) :
    Calls Try.prog 36 #[v] w fun e w' => e = .returned (.tuple #[.agg #[.bool false, .slice none 0 0], .bool false]) ∧ Below w.heap.size w w' := by
  have hd : decide (cm a 0 < 0) = true := by rw [cm_lt h0]; rfl
  obtain ⟨na, As, sn, cs, rfl⟩ := ha.form
  have FA := hid ha
  clear ha h0
  have HB := hid (Below.refl w.heap.size w)
  obtain ⟨W, hW⟩ : ∃ W, W = ((w.alloc (.cells #[.bool na, .slice As sn cs] 24)).alloc (.cells #[.bool false, .slice none 0 0] 24)) := ⟨_, rfl⟩
  have hbb : Below w.heap.size w W := by rw [hW]; exact (bw_alloc (bw_alloc (Below.refl _ _) _) _)
  have HB := hid (bw_step HB.out hbb)
  have FA := hid (FA.out.below hbb)
  have P0 : Hid (Blk W (w.heap.size) 24 #[.bool na, .slice As sn cs]) := by
    rw [hW]
    have := (Blk.new w 24 #[.bool na, .slice As sn cs]).below (bw_alloc (Below.refl _ _) (.cells #[.bool false, .slice none 0 0] 24))
    exact hid (by simpa only [World.size_alloc] using this)
  have R0 : Hid (Blk W (w.heap.size + 1) 24 #[.bool false, .slice none 0 0]) := by
    rw [hW]
    have := Blk.new (w.alloc (.cells #[.bool na, .slice As sn cs] 24)) 24 #[.bool false, .slice none 0 0]
    exact hid (by simpa only [World.size_alloc] using this)
  clear hbb
  obtain ⟨k1, l1, f1, g1⟩ := id P0.out.bx
  go_enter Try.func36, Try.ntmps36
  go_wp2_with fail
  rw [← hW]
  clear hW
  refine (rsign_any _ _ a n FA.out).mono ?_
  rintro e W2 ⟨rfl, hb2⟩
  clear k1 l1 f1 g1
  have HB := hid (bw_step HB.out hb2)
  have FA := hid (FA.out.below hb2)
  have P0 := hid (P0.out.below hb2)
  have R0 := hid (R0.out.below hb2)
  clear hb2
  obtain ⟨k3, l3, f3, g3⟩ := id R0.out.bx
  go_wp2
  exact bodyPost_ret (v := .tuple #[.agg #[.bool false, .slice none 0 0], .bool false]) (by simp [results, Try.results36, go_sem, k3, l3]) rfl ⟨rfl, (HB.out.setCell (Nat.le_succ _) _).setCell (Nat.le_succ _) _⟩
set_option maxHeartbeats 8000000 in
theorem rsqrt_any (w : World) (v : Value) (a : Int) (N : Nat) (hN : N ≤ 1000000) (ha : IntA w v a N) (h0 : 0 ≤ a) :
    Calls Try.prog 36 #[v] w fun e w' => (∃ u r, e = .returned (.tuple #[u, .bool true]) ∧ IntV w' u r ∧ isRoot a r) ∧ Below w.heap.size w w' := by
  have hd : decide (cm a 0 < 0) = false := by
    rw [decide_eq_false_iff_not]; rcases cm_form a 0 with ⟨h, e⟩ | ⟨h, e⟩ | ⟨h, e⟩ <;> omega
  have FA0 := hid ha
  have FA := hid ha
  obtain ⟨na, s, xs, rfl, hs, hl, hxn, ea⟩ := ha
  obtain ⟨As, cs, rfl, hcs, _⟩ := id hs
  have ea2 : a = nv xs := by
    have := nv_nonneg hl
    cases na with
    | false => exact ea
    | true => rw [sg_true] at ea; omega
  have EA := hid ea2
  have HL := hid hl
  have A0 := hid h0
  have SX := hid hs
  have hxl : (tr xs).length ≤ N := by rw [tr_length]; have := tl_le xs; omega
  have HXL := hid hxl
  clear hs hl ea ea2 h0
  have HB := hid (Below.refl w.heap.size w)
  obtain ⟨W, hW⟩ : ∃ W, W = ((w.alloc (.cells #[.bool na, .slice As xs.length cs] 24)).alloc (.cells #[.bool false, .slice none 0 0] 24)) := ⟨_, rfl⟩
  have hbb : Below w.heap.size w W := by rw [hW]; exact (bw_alloc (bw_alloc (Below.refl _ _) _) _)
  have HB := hid (bw_step HB.out hbb)
  have FA := hid (FA.out.below hbb)
  have SX := hid (SX.out.below hbb)
  have P0 : Hid (Blk W (w.heap.size) 24 #[.bool na, .slice As xs.length cs]) := by
    rw [hW]
    have := (Blk.new w 24 #[.bool na, .slice As xs.length cs]).below (bw_alloc (Below.refl _ _) (.cells #[.bool false, .slice none 0 0] 24))
    exact hid (by simpa only [World.size_alloc] using this)
  have R0 : Hid (Blk W (w.heap.size + 1) 24 #[.bool false, .slice none 0 0]) := by
    rw [hW]
    have := Blk.new (w.alloc (.cells #[.bool na, .slice As xs.length cs] 24)) 24 #[.bool false, .slice none 0 0]
    exact hid (by simpa only [World.size_alloc] using this)
  clear hbb
  obtain ⟨k1, l1, f1, g1⟩ := id P0.out.bx
  go_enter Try.func36, Try.ntmps36
  go_wp2_with fail
  rw [← hW]
  clear hW
  refine (rsign_any _ _ a N FA.out).mono ?_
  rintro e W2 ⟨rfl, hb2⟩
  clear k1 l1 f1 g1
  have HB := hid (bw_step HB.out hb2)
  have FA := hid (FA.out.below hb2)
  have SX := hid (SX.out.below hb2)
  have P0 := hid (P0.out.below hb2)
  have R0 := hid (R0.out.below hb2)
  clear hb2
  obtain ⟨k3, l3, f3, g3⟩ := id P0.out.bx
  go_wp2_with fail
  refine (rtrim_any _ _ xs SX.out).mono ?_
  rintro e W4 ⟨⟨s1, rfl, hr1⟩, hb4⟩
  have TX := hid (hr1.slv (by have := HXL.out; omega))
  obtain ⟨A1, c1, rfl⟩ := hr1.len
  clear hr1
  clear k3 l3 f3 g3
  have HB := hid (bw_step HB.out hb4)
  have FA := hid (FA.out.below hb4)
  have SX := hid (SX.out.below hb4)
  have P0 := hid (P0.out.below hb4)
  have R0 := hid (R0.out.below hb4)
  clear hb4
  clear SX
  obtain ⟨t, ht⟩ : ∃ t, t = ((tr xs).length + 1) / 2 := ⟨_, rfl⟩
  have htd : (((tr xs).length : Int) + 1) / 2 = (t : Int) := by omega
  have htN : t ≤ N := by omega
  have ht2 : (tr xs).length ≤ 2 * t := by omega
  have hmk := make_u32 t (by omega)
  have hown := Own.made W4 t
  have HI := hid (show RootInv a (32 * t) 0 from RootInv.start A0.out (by
    rw [← bp_two, ← bp_add, EA.out, ← nv_tr xs]
    have h1 := nv_lt HL.out.tr
    have h2 := bp_mono (show (tr xs).length ≤ t + t by omega)
    omega))
  have HT := hid ht
  clear ht TX ht2
  have ltP := P0.out.lt
  have ltR := R0.out.lt
  go_wp2
  have hbl := bw_alloc (Below.refl _ W4) (.cells (zs t) 33)
  clear hmk htd
  have HB := hid (bw_step HB.out hbl)
  have FA := hid (FA.out.below hbl)
  have P0 := hid (P0.out.below hbl)
  have R0 := hid (R0.out.below hbl)
  clear hbl
  have hltW := HB.out.size
  go_loopw [6] (fun i wr => ∃ (k : Int) (os : List Int), i = .int .i64 k ∧ -1 ≤ k ∧ k < 32 * t ∧ Hid (os.length = t) ∧ Hid (Own wr W4.heap.size os) ∧ Hid (Lb os) ∧ Hid (RootInv a (k + 1).toNat (nv os)) ∧ Hid (Blk wr w.heap.size 24 #[.bool na, .slice As xs.length cs]) ∧ Hid (Blk wr (w.heap.size + 1) 24 #[.bool false, .slice none 0 0]) ∧ Hid (Below w.heap.size w wr)) (fun i _ => (intOf i + 1).toNat)
  case atStart => exact ⟨32 * (t : Int) - 1, List.replicate t 0, rfl, by omega, by omega, hid (by simp), hown, Lb.replicate _, hid (by rw [nv_replicate, show (32 * (t : Int) - 1 + 1).toNat = 32 * t by omega]; exact HI.out), P0.out, R0.out, HB.out⟩
  case round =>
    clear hown HI FA P0 R0 HB
    obtain ⟨k, os, rfl, hk0, hk1, hlen, hown, hlb, hinv, P0, R0, HB⟩ := hrel
    by_cases hk : 0 ≤ k
    · obtain ⟨j, rfl⟩ := Int.eq_ofNat_of_zero_le hk
      obtain ⟨q, hq⟩ : ∃ q, q = j / 32 := ⟨_, rfl⟩
      obtain ⟨r, hr⟩ : ∃ r, r = j % 32 := ⟨_, rfl⟩
      have e1 : (j : Int) / 32 = (q : Int) := by omega
      have e2 : (j : Int) % 32 = (r : Int) := by omega
      have hqt : q < t := by omega
      have hqi : (q : Int) < (t : Int) := by omega
      have hr32 : r < 32 := by omega
      have HJ := hid (show j = 32 * q + r by omega)
      have hmul := lm_multiple hlb.out j (by have := hinv.out.2.1; rwa [show ((j : Int) + 1).toNat = j + 1 by omega] at this)
      have IV : Hid (RootInv a (j + 1) (nv os)) := hid (by have := hinv.out; rwa [show ((j : Int) + 1).toNat = j + 1 by omega] at this)
      rw [← hq, ← hr] at hmul
      clear hq hr hinv
      have hbo := hlb.out.lm q
      obtain ⟨hor, hlt⟩ := u32_set_bit hbo.1 hbo.2 hr32 hmul
      have hcb := u32_clear_bit hbo.1 hr32 hmul hlt
      have hp32 := pow_lt32 hr32
      have hp0 := pow_pos2 r
      have HM := hid hmul
      have hcell := hown.out.cell (j := q) (by rw [hlen.out]; exact hqt)
      have hfree := hown.out.free q
      clear hmul
      go_wp2_with fail
      go_region
      go_wp2_with fail
      obtain ⟨ps, hps⟩ : ∃ ps, ps = os.set q (lm os q + 2 ^ r) := ⟨_, rfl⟩
      have hpl : ps.length = t := by rw [hps, List.length_set]; exact hlen.out
      have O8 : Hid (Own ((wr.setCell ⟨W4.heap.size, q, none⟩ (.int .u32 (lm os q + 2 ^ r))).drew) W4.heap.size ps) := hid (by rw [hps]; exact hown.out.set _ _)
      have L8 := hid (show Lb ps by rw [hps]; exact hlb.out.set _ (by omega) hlt)
      have N8 := hid (show nv ps = nv os + 2 ^ j by
        rw [hps, nv_set _ _ _ (by rw [hlen.out]; exact hqt), show lm os q + 2 ^ r - lm os q = 2 ^ r by omega, bp_two, ← Int.pow_add, ← HJ.out])
      have PL := hid hpl
      have E8 := hid (show lm ps q = lm os q + 2 ^ r by rw [hps]; exact lm_set_same _ (by rw [hlen.out]; exact hqt))
      have B8 := hid (show ps.set q (lm os q) = os by
        rw [hps, List.set_set, lm_getElem (by rw [hlen.out]; exact hqt)]; exact List.set_getElem_self _)
      have P0 := hid (show Blk ((wr.setCell ⟨W4.heap.size, q, none⟩ (.int .u32 (lm os q + 2 ^ r))).drew) _ _ _ from P0.out.only (only_set_drew wr _ _ _) (by omega))
      have R0 := hid (show Blk ((wr.setCell ⟨W4.heap.size, q, none⟩ (.int .u32 (lm os q + 2 ^ r))).drew) _ _ _ from R0.out.only (only_set_drew wr _ _ _) (by omega))
      have HB := hid (show Below w.heap.size w ((wr.setCell ⟨W4.heap.size, q, none⟩ (.int .u32 (lm os q + 2 ^ r))).drew) from (HB.out.setCell (show w.heap.size ≤ W4.heap.size by omega) _).drew)
      have FA := hid (FA0.out.below HB.out)
      clear hown hps hcell hfree hor hpl
      have O8 : Hid (OwnB ((wr.setCell ⟨W4.heap.size, q, none⟩ (.int .u32 (lm os q + 2 ^ r))).drew) W4.heap.size ps) := O8
      have S8 := hid (O8.out.own.slv (n := t) (c := t) PL.out (by omega) (Nat.le_refl _))
      refine (rmake_any _ false _ ps S8.out L8.out).mono ?_
      rintro e W5 ⟨⟨v, rfl, hv⟩, hb5⟩
      have HB := hid (bw_step HB.out hb5)
      have P0 := hid (P0.out.below hb5)
      have R0 := hid (R0.out.below hb5)
      have FA := hid (FA.out.below hb5)
      have O8 := hid (O8.out.below hb5)
      clear hb5
      rw [sg_false] at hv
      obtain ⟨q51, A51, n51, c51, rfl⟩ := hv.form
      have rv := hid hv
      clear hv
      have SR := hid (show Sm N (nv ps) from by have := sm_sg (neg := false) L8.out (n := N) (by have := PL.out; omega); rwa [sg_false] at this)
      have ltO := O8.out.own.lt
      have hbb := bw_alloc (Below.refl _ W5) (.cells #[.bool q51, .slice A51 n51 c51] 24)
      have Xr := Blk.new W5 24 #[.bool q51, .slice A51 n51 c51]
      have HB := hid (bw_step HB.out hbb)
      have P0 := hid (P0.out.below hbb)
      have R0 := hid (R0.out.below hbb)
      have FA := hid (FA.out.below hbb)
      have O8 := hid (O8.out.below hbb)
      have rv := hid (rv.out.below hbb)
      have Xr := hid Xr
      clear hbb
      by_cases hle : nv ps * nv ps ≤ a
      · have hcm : decide (0 < cm (nv ps * nv ps) a) = false := by
          rw [decide_eq_false_iff_not]; rcases cm_form (nv ps * nv ps) a with ⟨h, e⟩ | ⟨h, e⟩ | ⟨h, e⟩ <;> omega
        have HLE := hid hle
        clear hle
        have SM6 : Hid (Sm (N + N) ((nv ps) * (nv ps))) := hid ((SR.out).times (SR.out) (by omega))
        obtain ⟨k8, l8, f8, g8⟩ := id Xr.out.bx
        obtain ⟨k9, l9, f9, g9⟩ := id P0.out.bx
        go_wp2_with fail
        go_region_held3 (fun w' => w'.cell? ⟨W5.heap.size, 0, none⟩ = some (.bool q51) ∧ w'.cell? ⟨W5.heap.size, 1, none⟩ = some (.slice A51 n51 c51) ∧ w'.cell? ⟨w.heap.size, 0, none⟩ = some (.bool na) ∧ w'.cell? ⟨w.heap.size, 1, none⟩ = some (.slice As xs.length cs) ∧ Hid (Below (W5.alloc (.cells #[.bool q51, .slice A51 n51 c51] 24)).heap.size (W5.alloc (.cells #[.bool q51, .slice A51 n51 c51] 24)) w'))
          (first
            | exact ⟨k8, l8, k9, l9, bw_drew _⟩
            | (go_split_ands; have hh := bw_keep (by assumption) (by assumption); exact ⟨cell_below hh k8, cell_below hh l8, cell_below hh k9, cell_below hh l9, hh⟩)
            | (go_split_ands; exact ⟨by assumption, by assumption, by assumption, by assumption, below_drewN (Hid.out (by assumption)) _⟩))
          (first
            | (go_at_call 34; (with_reducible refine (rmul_any _ (.agg #[.bool q51, .slice A51 n51 c51]) (.agg #[.bool q51, .slice A51 n51 c51]) ((nv ps)) ((nv ps)) N N ?g6_0 ?g6_1 (by omega) (by omega)).mono ?_); (case g6_0 => (go_split_ands; exact (rv.out.below (Hid.out (by assumption))).arg SR.out)); (case g6_1 => (go_split_ands; exact (rv.out.below (Hid.out (by assumption))).arg SR.out)); rintro e w6 ⟨⟨v6, rfl, hv6⟩, hb6⟩)
            | (go_at_call 31; (with_reducible refine (rcmpI_any _ (v6) (.agg #[.bool na, .slice As xs.length cs]) (((nv ps) * (nv ps))) (a) (N + N) N ?g7_0 ?g7_1 ).mono ?_); (case g7_0 => (exact hv6.arg SM6.out)); (case g7_1 => (go_split_ands; exact FA.out.below (Hid.out (by assumption)))); rintro e w7 ⟨rfl, hb7⟩))
        rename_i hH
        have HW := hid hH.2.2.2.2.out
        clear hH
        clear k8 l8 f8 g8 k9 l9 f9 g9
        have HB := hid (bw_step HB.out HW.out)
        have P0 := hid (P0.out.below HW.out)
        have R0 := hid (R0.out.below HW.out)
        have FA := hid (FA.out.below HW.out)
        have O8 := hid (O8.out.below HW.out)
        have rv := hid (rv.out.below HW.out)
        have Xr := hid (Xr.out.below HW.out)
        clear HW
        go_wp2
        go_roundw
        case measure => simp [intOf]
        case rel =>
          refine ⟨(j : Int) - 1, ps, rfl, by omega, by omega, PL, O8, L8, hid ?_, P0, R0, HB⟩
          have h1 := HLE.out
          rw [N8.out] at h1 ⊢
          rw [show ((j : Int) - 1 + 1).toNat = j by omega]
          exact IV.out.more h1
      · have hcm : decide (0 < cm (nv ps * nv ps) a) = true := by
          rw [decide_eq_true_eq]; rcases cm_form (nv ps * nv ps) a with ⟨h, e⟩ | ⟨h, e⟩ | ⟨h, e⟩ <;> omega
        have HLE := hid hle
        clear hle
        have SM10 : Hid (Sm (N + N) ((nv ps) * (nv ps))) := hid ((SR.out).times (SR.out) (by omega))
        obtain ⟨k12, l12, f12, g12⟩ := id Xr.out.bx
        obtain ⟨k13, l13, f13, g13⟩ := id P0.out.bx
        go_wp2_with fail
        go_region_held3 (fun w' => w'.cell? ⟨W5.heap.size, 0, none⟩ = some (.bool q51) ∧ w'.cell? ⟨W5.heap.size, 1, none⟩ = some (.slice A51 n51 c51) ∧ w'.cell? ⟨w.heap.size, 0, none⟩ = some (.bool na) ∧ w'.cell? ⟨w.heap.size, 1, none⟩ = some (.slice As xs.length cs) ∧ Hid (Below (W5.alloc (.cells #[.bool q51, .slice A51 n51 c51] 24)).heap.size (W5.alloc (.cells #[.bool q51, .slice A51 n51 c51] 24)) w'))
          (first
            | exact ⟨k12, l12, k13, l13, bw_drew _⟩
            | (go_split_ands; have hh := bw_keep (by assumption) (by assumption); exact ⟨cell_below hh k12, cell_below hh l12, cell_below hh k13, cell_below hh l13, hh⟩)
            | (go_split_ands; exact ⟨by assumption, by assumption, by assumption, by assumption, below_drewN (Hid.out (by assumption)) _⟩))
          (first
            | (go_at_call 34; (with_reducible refine (rmul_any _ (.agg #[.bool q51, .slice A51 n51 c51]) (.agg #[.bool q51, .slice A51 n51 c51]) ((nv ps)) ((nv ps)) N N ?g10_0 ?g10_1 (by omega) (by omega)).mono ?_); (case g10_0 => (go_split_ands; exact (rv.out.below (Hid.out (by assumption))).arg SR.out)); (case g10_1 => (go_split_ands; exact (rv.out.below (Hid.out (by assumption))).arg SR.out)); rintro e w10 ⟨⟨v10, rfl, hv10⟩, hb10⟩)
            | (go_at_call 31; (with_reducible refine (rcmpI_any _ (v10) (.agg #[.bool na, .slice As xs.length cs]) (((nv ps) * (nv ps))) (a) (N + N) N ?g11_0 ?g11_1 ).mono ?_); (case g11_0 => (exact hv10.arg SM10.out)); (case g11_1 => (go_split_ands; exact FA.out.below (Hid.out (by assumption)))); rintro e w11 ⟨rfl, hb11⟩))
        rename_i hH
        have HW := hid hH.2.2.2.2.out
        clear hH
        clear k12 l12 f12 g12 k13 l13 f13 g13
        have HB := hid (bw_step HB.out HW.out)
        have P0 := hid (P0.out.below HW.out)
        have R0 := hid (R0.out.below HW.out)
        have FA := hid (FA.out.below HW.out)
        have O8 := hid (O8.out.below HW.out)
        have rv := hid (rv.out.below HW.out)
        have Xr := hid (Xr.out.below HW.out)
        clear HW
        have hcell := O8.out.own.cell (j := q) (by rw [PL.out]; exact hqt)
        have hfree := O8.out.own.free q
        rw [E8.out] at hcell
        go_wp2
        go_region
        all_goals
          go_wp2
          go_roundw
          case measure => simp [intOf]
          case rel =>
            refine ⟨(j : Int) - 1, os, rfl, by omega, by omega, hlen, hid ?_, hlb, hid ?_, hid (P0.out.only (only_set_drew _ _ _ _) (by omega)), hid (R0.out.only (only_set_drew _ _ _ _) (by omega)), hid ((HB.out.setCell (show w.heap.size ≤ W4.heap.size by omega) _).drew)⟩
            · have h1 := O8.out.own.set q (lm os q)
              rw [B8.out] at h1
              exact h1
            · have h1 := HLE.out
              rw [N8.out] at h1
              rw [show ((j : Int) - 1 + 1).toNat = j by omega]
              exact IV.out.less (by omega)
    · have hkk : k = -1 := by omega
      subst hkk
      have IV : Hid (RootInv a 0 (nv os)) := hid (by have := hinv.out; rwa [show ((-1 : Int) + 1).toNat = 0 by decide] at this)
      have S0 := hid (hown.out.slv (n := t) (c := t) hlen.out (by omega) (Nat.le_refl _))
      clear hinv
      go_wp2_with fail
      refine (rmake_any _ false _ os S0.out hlb.out).mono ?_
      rintro e W14 ⟨⟨v, rfl, hv⟩, hb14⟩
      have HB := hid (bw_step HB.out hb14)
      have P0 := hid (P0.out.below hb14)
      have R0 := hid (R0.out.below hb14)
      clear hb14
      rw [sg_false] at hv
      obtain ⟨q8, A8, n8, c8, rfl⟩ := hv.form
      obtain ⟨k15, l15, f15, g15⟩ := id R0.out.bx
      have F := hid (fin_any HB.out (g := w.heap.size + 1) (by omega) k15 l15 hv (.bool q8) (.slice A8 n8 c8))
      clear hv
      go_wp2
      exact bodyPost_ret (v := .tuple #[.agg #[.bool q8, .slice A8 n8 c8], .bool true]) (by simp [results, Try.results36, go_sem, k15, l15]) rfl ⟨⟨_, _, rfl, F.out.1, IV.out.done⟩, F.out.2⟩
end Go.Proofs.Ytdbgalohppfkfaa
