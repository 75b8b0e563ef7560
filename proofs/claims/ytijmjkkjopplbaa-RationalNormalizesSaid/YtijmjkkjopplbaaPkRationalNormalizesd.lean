/- A part of the proof of the laws of rationals: RCmp, FreshDiv. -/
import Derived.Test.YtijmjkkjopplbaaPam
import Derived.Test.YtijmjkkjopplbaaPac
import Derived.Test.YtijmjkkjopplbaaPab
import Derived.Test.YtijmjkkjopplbaaPaa
import Derived.Test.YtijmjkkjopplbaaPkRationalNormalizesa
import Derived.Test.YtijmjkkjopplbaaPad
namespace Go.Proofs.Ytijmjkkjopplbaa
open Go.RowKit
set_option linter.unusedVariables false
set_option maxRecDepth 100000

theorem rcmp_any (w : World) (v u : Value) (xs ys : List Int) (hx : SlV w v xs) (hy : SlV w u ys) (bx : Lb xs) (by_ : Lb ys) (cx : Cn xs) (cy : Cn ys) :
    Calls Try.prog 52 #[v, u] w fun e w' => e = .returned (.int .i64 (cm (nv xs) (nv ys))) ∧ Dr w w' := by
  obtain ⟨A, c, rfl, hcl, hx⟩ := hx
  obtain ⟨B, d, rfl, hdl, hy⟩ := hy
  have lx := hx.len
  have ly := hy.len
  rcases Nat.lt_trichotomy xs.length ys.length with hl | hl | hl
  · have He := hid (cm_lt (cy.lt_of_length bx by_ hl))
    clear bx by_ cx cy hx hy
    have h1 : ((xs.length : Int) == (ys.length : Int)) = false := by rw [beq_eq_false_iff_ne]; omega
    have h2 : ((xs.length : Int) != (ys.length : Int)) = true := by rw [bne_iff_ne]; omega
    go_enter Try.func52, Try.ntmps52
    go_wp2
    go_ret
    exact ⟨by rw [He.out]; rfl, Dr.refl _⟩
  · have HX := hid hx
    have HY := hid hy
    have HE := hid (show ∀ j, xs.length ≤ j → lm xs j = lm ys j from fun j hj => by rw [lm_out hj, lm_out (by omega)])
    have HL := hid hl
    have HBX := hid bx
    have HBY := hid by_
    have h1 : ((xs.length : Int) == (ys.length : Int)) = true := by rw [beq_iff_eq]; omega
    have h2 : ((xs.length : Int) != (ys.length : Int)) = false := by rw [bne_eq_false_iff_eq]; omega
    clear hx hy hl bx by_ cx cy
    go_enter Try.func52, Try.ntmps52
    go_wp2
    go_loopg [5] xs.length (fun gk v w' => ∃ i : Int, v = .int .i64 i ∧ -1 ≤ i ∧ i < xs.length ∧ Hid (∀ j : Nat, i < j → lm xs j = lm ys j) ∧ gk = (i + 1).toNat ∧ Dr w w')
    case atStart => exact ⟨(xs.length : Int) - 1, rfl, by omega, by omega, hid (fun j hj => HE.out j (by omega)), by omega, Dr.refl _⟩
    case round =>
      obtain ⟨i, rfl, hi0, hi1, hj, hg, ⟨n, rfl⟩⟩ := hrel
      have HG := hid hg
      clear hg
      by_cases h0 : 0 ≤ i
      · obtain ⟨k, rfl⟩ := Int.eq_ofNat_of_zero_le h0
        have hk : k < xs.length := by omega
        have hk2 : k < ys.length := by have := HL.out; omega
        obtain ⟨b, o, rfl, hc⟩ := HX.out.at (by omega)
        obtain ⟨b2, o2, rfl, hc2⟩ := HY.out.at (by omega)
        have c1 := hc k hk
        have c2 := hc2 k hk2
        clear hc hc2
        have hk3 : (k : Int) < (ys.length : Int) := by omega
        rcases Int.lt_trichotomy (lm xs k) (lm ys k) with he | he | he
        · have e1 : (lm xs k != lm ys k) = true := by rw [bne_iff_ne]; omega
          have HC := hid (cm_lt (nv_lt_of_limb HBX.out HBY.out HL.out hk (fun j hj' => hj.out j (by omega)) he))
          go_wp2
          go_quiet (fail)
          go_wp2
          go_quiet (fail)
          go_wp2
          go_ret
          exact ⟨by rw [HC.out]; rfl, by repeat (first | exact Dr.refl _ | apply Dr.step)⟩
        · have e1 : (lm xs k != lm ys k) = false := by rw [bne_eq_false_iff_eq]; exact he
          have HC := hid he
          clear he
          go_wp2
          go_quiet (fail)
          go_wp2
          go_roundg k
          case measure => have := HG.out; omega
          case rel => exact ⟨(k : Int) - 1, rfl, by omega, by omega, hid (fun j hj' => by
              by_cases e : j = k
              · subst e; exact HC.out
              · exact hj.out j (by omega)), by omega, by repeat (first | exact Dr.refl _ | apply Dr.step)⟩
        · have e1 : (lm xs k != lm ys k) = true := by rw [bne_iff_ne]; omega
          have HC := hid (cm_gt (nv_lt_of_limb HBY.out HBX.out HL.out.symm hk2 (fun j hj' => (hj.out j (by omega)).symm) he))
          go_wp2
          go_quiet (fail)
          go_wp2
          go_quiet (fail)
          go_wp2
          go_ret
          exact ⟨by rw [HC.out]; rfl, by repeat (first | exact Dr.refl _ | apply Dr.step)⟩
      · have HC := hid (cm_eq (nv_eq_of_limbs HL.out fun j hj' => hj.out j (by omega)))
        have h3 : decide (0 ≤ i) = false := by simp; omega
        go_wp2
        go_ret
        exact ⟨by rw [HC.out]; rfl, by repeat (first | exact Dr.refl _ | apply Dr.step)⟩
  · have He := hid (cm_gt (cx.lt_of_length by_ bx hl))
    clear bx by_ cx cy hx hy
    have h1 : ((xs.length : Int) == (ys.length : Int)) = false := by rw [beq_eq_false_iff_ne]; omega
    have h2 : ((xs.length : Int) != (ys.length : Int)) = true := by rw [bne_iff_ne]; omega
    go_enter Try.func52, Try.ntmps52
    go_wp2
    go_ret
    exact ⟨by rw [He.out]; rfl, Dr.refl _⟩

end Go.Proofs.Ytijmjkkjopplbaa

namespace Go.Proofs.Ytijmjkkjopplbaa
open Go.RowKit
set_option linter.unusedVariables false
set_option maxRecDepth 100000
def RetDF (w : World) (B : Nat) (a b : Int) (e : Ending) : Prop := ∃ v1 v2 qs rs, e = .returned (.tuple #[v1, v2]) ∧ SlV w v1 qs ∧ Lb qs ∧ Cn qs ∧ nv qs = a / b ∧ SlV w v2 rs ∧ Lb rs ∧ Cn rs ∧ nv rs = a % b ∧ FrS w B v1
theorem divide_less_fr (w : World) (v u : Value) (xs ys : List Int) (hx : SlV w v xs) (hy : SlV w u ys) (bx : Lb xs) (by_ : Lb ys) (cx : Cn xs) (cy : Cn ys) (hlt : nv xs < nv ys) :
    Calls Try.prog 83 #[v, u] w fun e w' => RetDF w' w.heap.size (nv xs) (nv ys) e ∧ Below w.heap.size w w' := by
  have hcm := cm_lt hlt
  have HX := hid hx
  have HB := hid bx
  have HC := hid cx
  have HL := hid hlt
  have hl := hx.len
  go_enter Try.func83, Try.ntmps83
  go_wp2_with (first
    | (go_at_call 97; (with_reducible refine (compare_any _ _ _ xs ys hx hy bx by_ cx cy).mono ?_); rintro e w' ⟨rfl, ⟨nq, rfl⟩⟩; clear hx hy bx by_ cx cy hlt)
    | (at_builtin; refine wp_copy_u32 rfl _ rfl v xs rfl (HX.out.drew _) ?_; intro v1 w1 hr hb))
  go_ret2
  have e1 : nv xs / nv ys = 0 := Int.ediv_eq_zero_of_lt (nv_nonneg HB.out) HL.out
  have e2 : nv xs % nv ys = nv xs := Int.emod_eq_of_lt (nv_nonneg HB.out) HL.out
  refine ⟨⟨_, _, [], xs, rfl, ⟨none, 0, rfl, Nat.le_refl _, Sl.nil _ _⟩, Lb.nil, Cn.nil, by rw [e1]; rfl, hr.slv hl, HB.out, HC.out, e2.symm, FrS.nil _ _ _ _⟩, bw_step (below_drewN (Below.refl _ _) _) hb⟩


theorem divide_short_fr (w : World) (v u : Value) (xs ys : List Int) (hx : SlV w v xs) (hy : SlV w u ys) (bx : Lb xs) (by_ : Lb ys) (cx : Cn xs) (cy : Cn ys) (hle : nv ys ≤ nv xs) (h1 : ys.length = 1) :
    Calls Try.prog 83 #[v, u] w fun e w' => RetDF w' w.heap.size (nv xs) (nv ys) e ∧ Below w.heap.size w w' := by
  obtain ⟨B, d, rfl, hdl, hyl⟩ := id hy
  obtain ⟨b, o, rfl, hcl⟩ := hyl.at (by omega)
  have c1 := hcl 0 (by omega)
  rw [Nat.add_zero] at c1
  have hy0 := cy (by omega)
  rw [h1] at hy0
  have hyb := by_.lm 0
  have hyv : nv ys = lm ys 0 := by
    have := nv_take_succ ys 0
    rw [List.take_of_length_le (by omega)] at this
    rw [this]; simp [nv_nil, bp_zero]
  have hyp : 0 < lm ys 0 := by
    have : lm ys 0 ≠ 0 := hy0
    omega
  have hcm : decide (cm (nv xs) (nv ys) < 0) = false := by unfold cm; simp; split <;> (try split) <;> omega
  have HX := hid hx
  have HB := hid bx
  have HV := hid hyv
  rw [h1] at hy
  have HY := hid hy
  have HC := hid (And.intro by_ (And.intro cx cy))
  clear hx hcl hyl bx by_ cx cy hle hyv hy0 hy
  go_enter Try.func83, Try.ntmps83
  go_wp2_with (first
    | (go_at_call 97; (with_reducible refine (compare_any _ _ _ xs ys HX.out HY.out HB.out HC.out.1 HC.out.2.1 HC.out.2.2).mono ?_); rintro e w' ⟨rfl, ⟨nq, rfl⟩⟩)
    | (go_at_call 101; (with_reducible refine (shortDivide_fr _ _ xs (lm ys 0) (HX.out.drew _) HB.out ⟨hyp, hyb.2⟩).mono ?_); rintro e w1 ⟨⟨v1, qs, rfl, hq⟩, hb⟩))
  obtain ⟨q1, q2, q3, q4, q5⟩ := hq
  have Q5 := hid q5
  clear q5
  have m0 := Int.emod_nonneg (nv xs) (show lm ys 0 ≠ 0 by omega)
  have m1 := Int.emod_lt_of_pos (nv xs) hyp
  have hr : Lb [nv xs % lm ys 0] := Lb.cons m0 (by omega) Lb.nil
  have hs := (Own.new w1 [nv xs % lm ys 0]).slv (n := 1) (c := 1) rfl (by decide) (by decide)
  refine (trim_any _ _ [nv xs % lm ys 0] hs).mono ?_
  rintro e w' ⟨⟨vt, rfl, ht⟩, rfl⟩
  have ht' := hid (ht _ hs)
  have hq' := hid q1
  clear ht hs q1
  go_wp2
  go_ret2
  refine ⟨⟨v1, vt, qs, tr [nv xs % lm ys 0], rfl, hq'.out.below (bw_alloc (Below.refl _ _) _), q2, q3, by rw [HV.out]; exact q4, ht'.out, hr.tr, Cn.tr _, by rw [nv_tr, HV.out]; simp [nv_cons, nv_nil], Q5.out.below (bw_alloc (Below.refl _ _) _)⟩, bw_alloc (bw_step (below_drewN (Below.refl _ _) _) hb) _⟩


set_option maxHeartbeats 1000000 in
theorem divide_long_fr (w : World) (v u : Value) (xs ys : List Int) (hx : SlV w v xs) (hy : SlV w u ys) (bx : Lb xs) (by_ : Lb ys) (cx : Cn xs) (cy : Cn ys) (hle : nv ys ≤ nv xs) (h2 : 2 ≤ ys.length) (hlen : xs.length ≤ 274877906944) :
    Calls Try.prog 83 #[v, u] w fun e w' => RetDF w' w.heap.size (nv xs) (nv ys) e ∧ Below w.heap.size w w' := by
  have hll : ys.length ≤ xs.length := by
    rcases Nat.lt_or_ge xs.length ys.length with h | h
    · have := cy.lt_of_length bx by_ h; omega
    · exact h
  obtain ⟨m, hm⟩ : ∃ m, ys.length = m + 2 := ⟨ys.length - 2, by omega⟩
  obtain ⟨t, ht⟩ : ∃ t, xs.length = t + (m + 2) := ⟨xs.length - (m + 2), by omega⟩
  rw [hm] at h2
  clear h2 hll
  rw [ht] at hlen
  obtain ⟨A, c, rfl, hcl, hxl⟩ := id hx
  obtain ⟨B, d, rfl, hdl, hyl⟩ := id hy
  obtain ⟨b, o, rfl, hcc⟩ := hyl.at (by omega)
  have c1 := hcc (m + 1) (by omega)
  have htop := cy (by omega)
  rw [hm, show m + 2 - 1 = m + 1 from by omega] at htop
  have hyb := by_.lm (m + 1)
  have hyp : 0 < lm ys (m + 1) := by omega
  have hcm : decide (cm (nv xs) (nv ys) < 0) = false := by unfold cm; simp; split <;> (try split) <;> omega
  rw [hm] at hy
  rw [ht] at hx
  have HX := hid hx
  have HY := hid hy
  have HBX := hid bx
  have HBY := hid by_
  have HC := hid (And.intro cx cy)
  have HLE := hid hle
  clear hx hy bx by_ cx cy hle hcc hxl hyl htop
  go_enter Try.func83, Try.ntmps83
  go_wp2_with (first
    | (go_at_call 97; (with_reducible refine (compare_any _ _ _ xs ys HX.out HY.out HBX.out HBY.out HC.out.1 HC.out.2).mono ?_); rintro e w' ⟨rfl, ⟨nq, rfl⟩⟩)
    | (go_at_call 103; (with_reducible refine (leadingZeros_any _ _ hyp hyb.2).mono ?_); rintro e w' ⟨⟨s, rfl, s0, s1, s2⟩, rfl⟩))
  have hz1 : (0 : Int) ≤ (m : Int) + 2 := by omega
  have hz3 : ((m : Int) + 2).toNat = m + 2 := by omega
  have hz2 : (m : Int) + 2 ≤ (m : Int) + 2 + 1 := by omega
  go_region_held3 (fun w' => Hid (Below w.heap.size w w'))
    (first
      | exact hid (below_drewN (Below.refl _ _) _).drew
      | (go_split_ands; assumption)
      | (go_split_ands; exact bw_keep (by assumption) (by assumption)))
    (first
      | (go_at_call 104; (with_reducible refine (shift_any _ _ xs _ ?g1 HBX.out ?g2 ?g3 ?g4).mono ?_); (case g1 => (go_split_ands; exact HX.out.below (Hid.out (by assumption)))); (case g2 => omega); (case g3 => omega); (case g4 => omega); rintro e wa ⟨⟨us, ⟨ga, rfl, hoa, hga⟩, hla, hba, hna⟩, hbea⟩; rw [ht] at hla; rw [hla])
      | (go_at_call 104; (with_reducible refine (shift_any _ _ ys _ ?k1 HBY.out ?k2 ?k3 ?k4).mono ?_); (case k1 => (go_split_ands; exact HY.out.below (Hid.out (by assumption)))); (case k2 => omega); (case k3 => omega); (case k4 => omega); rintro e wb ⟨⟨vs, ⟨gb, rfl, hob, hgb⟩, hlb, hbb, hnb⟩, hbeb⟩; rw [hm] at hlb; rw [hlb]))
  rename_i hH
  have HBel := hH
  clear hH
  rw [Int.toNat_natCast] at hna hnb
  have HGA : w.heap.size ≤ ga := hga
  have hP := pow_pos2 s
  obtain ⟨nd1, nd2, nd3, nd4⟩ := norm_divisor HBY.out hm hbb hlb hnb s1 s2 s0
  have nd5 := norm_dividend HBX.out ht hba hla hna hP nd3
  have hmk := make_u32_succ t (by omega)
  have hoa' := hid (hoa.below hbeb hoa.lt)
  have hob' := hid hob
  have hbp := bp_pos (m + 1)
  have hVp : 0 < nv vs := by have := Int.mul_pos hbp hP; omega
  have ND := hid (And.intro nd1 (And.intro nd2 (And.intro nd4 hVp)))
  have ND5 := hid nd5
  have HNA := hid (And.intro hna hnb)
  have HLA := hid hla
  have HLB := hid hlb
  have HBA := hid hba
  have HBB := hid hbb
  have l1 := hoa.lt
  have l2 := hob.lt
  have HP := hid hP
  clear hP nd1 nd2 nd3 nd4 nd5 hbp hVp hna hnb hla hlb hba hbb hoa hob hbea hbeb s1 s2 hga c1 hyb hyp
  go_wp2
  clear hmk
  have HOA := hid (hoa'.out.alloc (.cells (zs (t + 1)) 31))
  have HOB := hid (hob'.out.alloc (.cells (zs (t + 1)) 31))
  have HOQ := hid (Own.made wb (t + 1))
  have HBel := hid (bw_alloc HBel.out (.cells (zs (t + 1)) 31))
  clear hoa' hob'
  go_loopw [12] (fun vi wr => ∃ (k : Nat) (os qs : List Int), vi = .int .i64 ((k : Int) - 1) ∧ k ≤ t + 1 ∧ Hid (os.length = t + (m + 2) + 1) ∧ Hid (Own wr ga os) ∧ Hid (Lb os) ∧ Hid (qs.length = t + 1) ∧ Hid (Own wr wb.heap.size qs) ∧ Hid (Lb qs) ∧ Hid (Own wr gb vs) ∧
      Hid (nv os + nv vs * (bp k * nv (qs.drop k)) = nv us) ∧ Hid (nv (os.drop k) < nv vs) ∧ Hid (Below w.heap.size w wr)) (fun vi _ => (intOf vi + 1).toNat)
  case atStart => exact ⟨t + 1, us, List.replicate (t + 1) 0, by go_num, by omega, HLA, HOA, HBA, hid (by simp), HOQ, hid (Lb.replicate _), HOB, hid (by simp [nv_nil]), ND5, HBel⟩
  case round =>
    obtain ⟨k, os, qs, rfl, hk, hlo, hoo, hbo, hlq, hoq, hbq, hov, hval, hhead, hbel⟩ := hrel
    cases k with
    | succ i =>
      have et : ((i + 1 : Nat) : Int) - 1 = (i : Int) := by omega
      rw [et]
      clear et
      have hqc := hoq.out.cell (j := i) (by have := hlq.out; omega)
      have hqf := hoq.out.free i
      obtain ⟨lb1, lb2⟩ := long_before hbo.out (by have := hlo.out; omega) (Int.le_of_lt ND.out.2.2.1) hhead.out
      have LB := hid (And.intro lb1 lb2)
      clear lb1 lb2
      obtain ⟨q, hq⟩ : ∃ q, q = nv (win os i (m + 3)) / nv vs := ⟨_, rfl⟩
      have q0 : 0 ≤ q := by rw [hq]; exact Int.ediv_nonneg (nv_nonneg (hbo.out.win _ _)) (Int.le_of_lt ND.out.2.2.2)
      have q1 : q < 4294967296 := by rw [hq]; exact Int.ediv_lt_of_lt_mul ND.out.2.2.2 (by rw [Int.mul_comm]; exact LB.out.1)
      have HQ := hid hq
      clear hq hqc hqf
      go_wp2_with fail
      rw [show i + (m + 2) + 1 - i = m + 3 from by omega]
      refine (digit_any _ ga gb i m _ _ os vs hoo.out hov.out (by omega) (by have := hlo.out; omega) (by have := HLB.out; omega) (by have := hlo.out; omega) hbo.out HBB.out ND.out.2.1 (by rw [ND.out.1]; exact LB.out.1)).mono ?_
      rintro e w' ⟨os', he, ho', hl', hb', hs', hw', hg'⟩
      rw [ND.out.1, ← HQ.out] at he
      rw [ND.out.1] at hw'
      subst he
      have hoq' := hoq.out.kept hg' (by omega)
      have hov' := hov.out.kept hg' (by omega)
      have hbel' := hid (hbel.out.grown hg' hbel.out.size (fun k hk => by injection hk with hk; omega))
      have hqc := hoq'.cell (j := i) (by have := hlq.out; omega)
      have hqf := hoq'.free i
      have GO := hid (And.intro ho' (And.intro hl' (And.intro hb' (And.intro hs' hw'))))
      have GQ := hid (And.intro hoq' hov')
      clear ho' hl' hb' hs' hw' hg' hoq' hov'
      go_wp2
      go_roundw
      case measure => simp [intOf]
      case rel =>
        obtain ⟨ho', hl', hb', hs', hw'⟩ := GO.out
        obtain ⟨r1, r2⟩ := long_after ND.out.2.2.2 (by have := hlo.out; omega) hl' LB.out.2 hs' hw' (by have := hlq.out; omega) hval.out
        rw [← HQ.out] at r1
        exact ⟨i, os', qs.set i q, rfl, by omega, hid (hl'.trans hlo.out), hid (ho'.far (by omega) _ _), hid hb', hid (by rw [List.length_set]; exact hlq.out), hid (GQ.out.1.set _ _), hid (hbq.out.set _ q0 q1), hid (GQ.out.2.far (by omega) _ _), hid r1, hid r2,
          hid (hbel'.out.setCell (by show w.heap.size ≤ wb.heap.size; omega) _)⟩
    | zero =>
      have hv := hval.out
      rw [bp_zero, Int.one_mul, List.drop_zero, HNA.out.1, HNA.out.2] at hv
      have hh := hhead.out
      rw [List.drop_zero] at hh
      have htk := hid (nv_take_of_lt hbo.out (show nv os < bp (m + 2) by have := ND.out.2.2.1; omega))
      rw [HNA.out.2] at hh
      obtain ⟨d1, d2⟩ := div_scaled HP.out (nv_nonneg hbo.out) hh hv
      have hsl := hid (show SlV wr (.slice (some ⟨ga, 0, none⟩) (m + 2) (t + (m + 2) + 1)) (os.take (m + 2)) from
        .mk ((hoo.out.sl (by have := hlo.out; omega)).take _) (by rw [List.length_take]; have := hlo.out; omega) (by omega))
      have hsq := hid (hoq.out.slv (n := t + 1) (c := t + 1) hlq.out (by omega) (Nat.le_refl _))
      have hmod : nv (tr (os.take (m + 2))) % 2 ^ s = 0 := by rw [nv_tr, htk.out, d2, Int.mul_emod_left]
      have HD := hid (And.intro d1 (And.intro d2 hmod))
      clear d1 d2 hmod hv hh
      have hz4 : (m : Int) + 2 ≤ (t : Int) + ((m : Int) + 2) + 1 := by omega
      go_wp2_with fail
      go_region_held3 (fun w' => Hid (Below wr.heap.size wr w'))
        (first
          | exact bw_drew _
          | (go_split_ands; assumption)
          | (go_split_ands; exact bw_keep (by assumption) (by assumption)))
        (first
          | (go_at_call 102; (with_reducible refine (trim_any _ (.slice (some ⟨wb.heap.size, 0, none⟩) (t + 1) (t + 1)) qs ?g1).mono ?_); (case g1 => (go_split_ands; exact hsq.out.below (Hid.out (by assumption)))); rintro e w' ⟨⟨sa, rfl, hca⟩, rfl⟩)
          | (go_at_call 102; (with_reducible refine (trim_any _ (.slice (some ⟨ga, 0, none⟩) (m + 2) (t + (m + 2) + 1)) (os.take (m + 2)) ?g2).mono ?_); (case g2 => (go_split_ands; exact hsl.out.below (Hid.out (by assumption)))); rintro e w' ⟨⟨sb, rfl, hcb⟩, rfl⟩)
          | (go_at_call 106; (with_reducible refine (unshift_any _ _ (tr (os.take (m + 2))) _ ?k1 (hbo.out.take _).tr ?k2 ?k3 ?k4 ?k5).mono ?_); (case k1 => (go_split_ands; exact hcb _ (hsl.out.below (Hid.out (by assumption))))); (case k2 => omega); (case k3 => omega); (case k4 => (rw [tr_length]; have := tl_le (os.take (m + 2)); rw [List.length_take] at this; omega)); (case k5 => (rw [Int.toNat_natCast]; exact HD.out.2.2)); rintro e w' ⟨⟨rs, ⟨sc, rfl, hrs⟩, hr1, hr2, hr3⟩, hbe⟩))
      rename_i hH
      have HF := hH
      clear hH
      go_wp2
      go_ret2
      have hl := tl_le (os.take (m + 2))
      refine ⟨⟨sa, sc, tr qs, rs, rfl, (hca _ hsq.out).below HF.out, hbq.out.tr, Cn.tr _, by rw [nv_tr]; exact HD.out.1, hrs, hr1, hr2, ?_, (hca.fr hsq.out (FrS.own (show w.heap.size ≤ wb.heap.size by omega) hoq.out hlq.out)).below HF.out⟩, bw_step hbel.out HF.out⟩
      rw [hr3, Int.toNat_natCast, nv_tr, htk.out, HD.out.2.1, Int.mul_ediv_cancel _ (Int.ne_of_gt HP.out)]


theorem divide_fr (w : World) (v u : Value) (xs ys : List Int) (hx : SlV w v xs) (hy : SlV w u ys) (bx : Lb xs) (by_ : Lb ys) (cx : Cn xs) (cy : Cn ys) (hy0 : 0 < nv ys) (hlen : xs.length ≤ 274877906944) :
    Calls Try.prog 83 #[v, u] w fun e w' => RetDF w' w.heap.size (nv xs) (nv ys) e ∧ Below w.heap.size w w' := by
  rcases (show nv xs < nv ys ∨ nv ys ≤ nv xs by omega) with h | h
  · exact divide_less_fr w v u xs ys hx hy bx by_ cx cy h
  · have h0 : ys.length ≠ 0 := fun e => by rw [List.eq_nil_of_length_eq_zero e, nv_nil] at hy0; omega
    rcases (show ys.length = 1 ∨ 2 ≤ ys.length by omega) with h1 | h1
    · exact divide_short_fr w v u xs ys hx hy bx by_ cx cy h h1
    · exact divide_long_fr w v u xs ys hx hy bx by_ cx cy h h1 hlen

/-- DivMod, with a quotient in a new block. -/
def RetQIF (w : World) (B : Nat) (a b : Int) (e : Ending) : Prop := ∃ v1 v2, e = .returned (.tuple #[v1, v2, .bool true]) ∧ IntV w v1 (a / b) ∧ IntV w v2 (a % b) ∧ FrI w B v1
set_option maxHeartbeats 4000000 in
theorem divMod_fr (w : World) (v u : Value) (a b : Int) (n m : Nat) (ha : IntA w v a n) (hb : IntA w u b m) (hn : n ≤ 274877906944) (hb0 : b ≠ 0) :
    Calls Try.prog 53 #[v, u] w fun e w' => RetQIF w' w.heap.size a b e ∧ Below w.heap.size w w' := by
  obtain ⟨na, s, xs, rfl, hs, hl, hxn, rfl⟩ := ha
  obtain ⟨nb, r, ys, rfl, hr, hk, hyn, rfl⟩ := hb
  have hy0 : 0 < nv ys := by
    have := nv_nonneg hk
    rcases (show nv ys = 0 ∨ 0 < nv ys by omega) with h | h
    · exact absurd (show sg nb (nv ys) = 0 by rw [h]; cases nb <;> rfl) hb0
    · exact h
  obtain ⟨W, hW⟩ : ∃ W, W = (((w.alloc (.cells #[.bool na, s] 24)).alloc (.cells #[.bool nb, r] 24)).alloc (.cells #[.bool false, .slice none 0 0] 24)).alloc (.cells #[.bool false, .slice none 0 0] 24) := ⟨_, rfl⟩
  have X := Bx.four w (.bool na) s (.bool nb) r (.bool false) (.slice none 0 0) (.bool false) (.slice none 0 0) 24
  rw [← hW] at X
  obtain ⟨x0, x1, x2, x3⟩ := X
  have HB : Below w.heap.size w W := by rw [hW]; exact bw_alloc (bw_alloc (bw_alloc (bw_alloc (Below.refl _ _) _) _) _) _
  have hs' := hs.below HB
  have hr' := hr.below HB
  have HL := hid hl
  have HK := hid hk
  clear hl hk
  go_enter Try.func53, Try.ntmps53
  go_wp2_with fail
  rw [← hW]
  clear hW hs hr
  refine (magnitude_any _ _ r nb ys rfl hr').mono ?_
  rintro e w1 ⟨⟨s1, rfl, hc1⟩, hb1⟩
  have y1 := hc1 _ (hr'.below hb1)
  have hs1 := hs'.below hb1
  have x0 := x0.below hb1
  have x1 := x1.below hb1
  have x2 := x2.below hb1
  have x3 := x3.below hb1
  have HB := hid (bw_step HB hb1)
  clear hb1 hs' hr' hc1
  obtain ⟨A1, c1, rfl, hcc1, hsl1⟩ := id y1
  have hly : (tr ys).length ≠ 0 := fun e => by
    have := nv_tr ys
    rw [List.eq_nil_of_length_eq_zero e, nv_nil] at this
    omega
  have hly2 : (((tr ys).length : Int) == 0) = false := by rw [beq_eq_false_iff_ne]; omega
  have Y1 := hid y1
  have S1 := hid hs1
  clear y1 hs1 hsl1
  obtain ⟨k0, k1, f0, f1⟩ := id x0
  --CONT
  go_wp2_with fail
  refine (magnitude_any _ _ s na xs rfl S1.out).mono ?_
  rintro e w2 ⟨⟨s2, rfl, hc2⟩, hb2⟩
  have X1 := hid (hc2 _ (S1.out.below hb2))
  have HB := hid (bw_step HB.out hb2)
  have x0 := x0.below hb2
  have x1 := x1.below hb2
  have x2 := x2.below hb2
  have x3 := x3.below hb2
  have Y1 := hid (Y1.out.below hb2)
  clear hb2 hc2 S1 k0 k1 f0 f1
  go_wp2_with fail
  refine (divide_fr _ _ _ (tr xs) (tr ys) X1.out Y1.out HL.out.tr HK.out.tr (Cn.tr _) (Cn.tr _) (by rw [nv_tr]; exact hy0) (by rw [tr_length]; have := tl_le xs; omega)).mono ?_
  rintro e w3 ⟨⟨q1, r1, qs, rs, rfl, hq1, hq2, hq3, hq4, hr1, hr2, hr3, hr4, hfr⟩, hb3⟩
  have FQ := hid (hfr.mono HB.out.size)
  clear hfr
  rw [nv_tr, nv_tr] at hq4 hr4
  obtain ⟨A3, c3, rfl, hcc3, _⟩ := id hr1
  have HB := hid (bw_step HB.out hb3)
  have x0 := x0.below hb3
  have x1 := x1.below hb3
  have x2 := x2.below hb3
  have x3 := x3.below hb3
  have Y1 := hid (Y1.out.below hb3)
  have Q1 := hid hq1
  have R1 := hid hr1
  have QF := hid (And.intro hq2 (And.intro hq3 hq4))
  have RF := hid (And.intro hr2 (And.intro hr3 hr4))
  have hm0 := Int.emod_nonneg (nv xs) (show nv ys ≠ 0 by omega)
  have hm1 := Int.emod_lt_of_pos (nv xs) hy0
  have hx0 := nv_nonneg HL.out
  have hrl : rs.length ≤ (tr ys).length := by
    rcases Nat.lt_or_ge (tr ys).length rs.length with h | h
    · have := hr3.lt_of_length HK.out.tr hr2 h; rw [nv_tr] at this; omega
    · exact h
  have hql : qs.length ≤ 274877906944 := by
    have h1 := nv_lt HL.out.tr
    have h2 : qs.length ≤ (tr xs).length := hq3.length_le hq2 (by
      rw [hq4, ← nv_tr xs]
      have := Int.ediv_le_self (nv ys) (show 0 ≤ nv (tr xs) by rw [nv_tr]; exact hx0)
      omega)
    rw [tr_length] at h2
    have := tl_le xs
    omega
  obtain ⟨DS1, DS2⟩ := divmod_sign hx0 hy0 na nb
  have DS := hid (And.intro DS1 DS2)
  have HRL := hid hrl
  have HQL := hid hql
  clear hb3 X1 hq1 hq2 hq3 hq4 hr1 hr2 hr3 hr4 DS1 DS2 hcc3 hcc1 hrl hql
  cases na with
  | false =>
    have hbne : (false != nb) = nb := by cases nb <;> rfl
    have HBNE := hid hbne
    clear hbne
    obtain ⟨k0, k1, f0, f1⟩ := id x0
    obtain ⟨k2, k3, f2, f3⟩ := id x1
    go_wp2_with fail
    refine (signed_fr _ q1 nb qs Q1.out QF.out.1 _ FQ.out).mono ?_
    rintro e v5 ⟨⟨z1, rfl, hz1, hfz⟩, hb5⟩
    have FI := hid hfz
    clear hfz
    have R9 := hid (R1.out.below hb5)
    have HB := hid (bw_step HB.out hb5)
    have x0 := x0.below hb5
    have x1 := x1.below hb5
    have x2 := x2.below hb5
    have x3 := x3.below hb5
    clear k0 k1 f0 f1 k2 k3 f2 f3
    go_wp2_with fail
    refine (signed_any _ _ false rs R9.out RF.out.1).mono ?_
    rintro e v6 ⟨⟨z2, rfl, hz2⟩, hb6⟩
    have Z1 := hz1.below hb6; have FI := hid (FI.out.below hb6)
    have HB := hid (bw_step HB.out hb6)
    have x0 := x0.below hb6
    have x1 := x1.below hb6
    have x2 := x2.below hb6
    have x3 := x3.below hb6
    obtain ⟨k4, k5, f4, f5⟩ := x2
    obtain ⟨k6, k7, f6, f7⟩ := x3
    obtain ⟨n1, B1, m1, d1, rfl⟩ := Z1.form
    obtain ⟨n2, B2, m2, d2, rfl⟩ := hz2.form
    have F1 := hid (Z1.boxed k4 k5 (.bool n1) (.slice B1 m1 d1))
    have F2 := hid (hz2.boxed k4 k5 (.bool n1) (.slice B1 m1 d1)); have FI := hid (FI.out.boxed k4 k5 (.bool n1) (.slice B1 m1 d1))
    have k6' := st_far (x := .bool n1) (y := .slice B1 m1 d1) k6 (show (⟨w.heap.size + 1 + 1, 0, none⟩ : Addr) ≠ ⟨w.heap.size + 1 + 1 + 1, 0, none⟩ by simp) (show (⟨w.heap.size + 1 + 1, 1, none⟩ : Addr) ≠ ⟨w.heap.size + 1 + 1 + 1, 0, none⟩ by simp)
    have k7' := st_far (x := .bool n1) (y := .slice B1 m1 d1) k7 (show (⟨w.heap.size + 1 + 1, 0, none⟩ : Addr) ≠ ⟨w.heap.size + 1 + 1 + 1, 1, none⟩ by simp) (show (⟨w.heap.size + 1 + 1, 1, none⟩ : Addr) ≠ ⟨w.heap.size + 1 + 1 + 1, 1, none⟩ by simp)
    have G1 := hid (F1.out.boxed k6' k7' (.bool n2) (.slice B2 m2 d2))
    have G2 := hid (F2.out.boxed k6' k7' (.bool n2) (.slice B2 m2 d2)); have FI := hid (FI.out.boxed k6' k7' (.bool n2) (.slice B2 m2 d2))
    clear hb5 hb6 hz1 hz2 Z1 k6' k7' F1 F2 x0 x1
    go_wp2
    refine bodyPost_ret (v := .tuple #[.agg #[.bool n1, .slice B1 m1 d1], .agg #[.bool n2, .slice B2 m2 d2], .bool true]) (by simp [results, Try.results53, go_sem, k4, k5, k6, k7]) rfl ⟨⟨_, _, rfl, ?_, ?_, FI.out⟩, (((HB.out.setCell (by simp; omega) _).setCell (by simp; omega) _).setCell (by simp; omega) _).setCell (by simp; omega) _⟩
    · have e := DS.out.1
      rw [HBNE.out] at e
      rw [← QF.out.2.2] at e; simp only [Bool.false_eq_true, false_and, if_false] at e
      rw [e]; exact G1.out
    · have e := DS.out.2
      rw [← RF.out.2.2] at e; simp only [Bool.false_eq_true, false_and, if_false] at e
      rw [e]; exact G2.out
  | true =>
    have HBNE := hid (show (true != nb) = !nb by cases nb <;> rfl)
    by_cases hz : 0 < nv xs % nv ys
    · have hrn : decide (0 < (rs.length : Int)) = true := by
        rcases Nat.eq_zero_or_pos rs.length with h | h
        · have := RF.out.2.2; rw [List.eq_nil_of_length_eq_zero h, nv_nil] at this; omega
        · simp; omega
      have hrn2 : 0 < rs.length := by simpa using hrn
      obtain ⟨k0, k1, f0, f1⟩ := id x0
      obtain ⟨k2, k3, f2, f3⟩ := id x1
      go_wp2_with fail
      have ho1 := Own.new w3 [1]
      have hs1 := ho1.slv (n := 1) (c := 1) rfl (by decide) (by decide)
      have hal := bw_alloc (Below.refl _ w3) (.cells #[.int .u32 1] 31)
      refine (plus_fr _ q1 _ qs [1] (Q1.out.below hal) hs1 QF.out.1 (Lb.cons (by decide) (by decide) Lb.nil) (by have := HQL.out; omega) (by decide)).mono ?_
      rintro e w4 ⟨⟨s4, zs, rfl, hs4, z1, z2, z3, z4⟩, hb4⟩
      have FZ := hid (FrS.mono z4 (show w.heap.size ≤ _ from Nat.le_trans HB.out.size hal.size))
      clear z4
      have hb4 := bw_step hal hb4
      clear ho1 hs1 hal
      have S4 := hid hs4
      have ZF := hid (And.intro z1 z3)
      have HB := hid (bw_step HB.out hb4)
      have x0 := x0.below hb4
      have x1 := x1.below hb4
      have x2 := x2.below hb4
      have x3 := x3.below hb4
      have Y1 := hid (Y1.out.below hb4)
      have R1 := hid (R1.out.below hb4)
      clear hb4 hs4 z1 z2 z3 k0 k1 f0 f1 k2 k3 f2 f3
      go_wp2_with fail
      refine (minus_any _ _ _ (tr ys) rs Y1.out R1.out HK.out.tr RF.out.1 (by rw [nv_tr, RF.out.2.2]; omega) HRL.out).mono ?_
      rintro e w5 ⟨⟨ts, ⟨s5, rfl, hs5⟩, t1, t2, t3⟩, hb5⟩
      have S5 := hid hs5
      have TF := hid (And.intro t1 t3)
      have HB := hid (bw_step HB.out hb5)
      have x0 := x0.below hb5
      have x1 := x1.below hb5
      have x2 := x2.below hb5
      have x3 := x3.below hb5
      have S4 := hid (S4.out.below hb5)
      have FZ := hid (FZ.out.below hb5)
      clear hb5 hs5 t1 t2 t3
      obtain ⟨k0, k1, f0, f1⟩ := id x0
      obtain ⟨k2, k3, f2, f3⟩ := id x1
      go_wp2_with fail
      refine (signed_fr _ s4 (!nb) zs S4.out ZF.out.1 _ FZ.out).mono ?_
      rintro e v5 ⟨⟨z1, rfl, hz1, hfz⟩, hb5⟩
      have FI := hid hfz
      clear hfz
      have R9 := hid (S5.out.below hb5)
      have HB := hid (bw_step HB.out hb5)
      have x0 := x0.below hb5
      have x1 := x1.below hb5
      have x2 := x2.below hb5
      have x3 := x3.below hb5
      clear k0 k1 f0 f1 k2 k3 f2 f3
      go_wp2_with fail
      refine (signed_any _ s5 false ts R9.out TF.out.1).mono ?_
      rintro e v6 ⟨⟨z2, rfl, hz2⟩, hb6⟩
      have Z1 := hz1.below hb6; have FI := hid (FI.out.below hb6)
      have HB := hid (bw_step HB.out hb6)
      have x0 := x0.below hb6
      have x1 := x1.below hb6
      have x2 := x2.below hb6
      have x3 := x3.below hb6
      obtain ⟨k4, k5, f4, f5⟩ := x2
      obtain ⟨k6, k7, f6, f7⟩ := x3
      obtain ⟨n1, B1, m1, d1, rfl⟩ := Z1.form
      obtain ⟨n2, B2, m2, d2, rfl⟩ := hz2.form
      have F1 := hid (Z1.boxed k4 k5 (.bool n1) (.slice B1 m1 d1))
      have F2 := hid (hz2.boxed k4 k5 (.bool n1) (.slice B1 m1 d1)); have FI := hid (FI.out.boxed k4 k5 (.bool n1) (.slice B1 m1 d1))
      have k6' := st_far (x := .bool n1) (y := .slice B1 m1 d1) k6 (show (⟨w.heap.size + 1 + 1, 0, none⟩ : Addr) ≠ ⟨w.heap.size + 1 + 1 + 1, 0, none⟩ by simp) (show (⟨w.heap.size + 1 + 1, 1, none⟩ : Addr) ≠ ⟨w.heap.size + 1 + 1 + 1, 0, none⟩ by simp)
      have k7' := st_far (x := .bool n1) (y := .slice B1 m1 d1) k7 (show (⟨w.heap.size + 1 + 1, 0, none⟩ : Addr) ≠ ⟨w.heap.size + 1 + 1 + 1, 1, none⟩ by simp) (show (⟨w.heap.size + 1 + 1, 1, none⟩ : Addr) ≠ ⟨w.heap.size + 1 + 1 + 1, 1, none⟩ by simp)
      have G1 := hid (F1.out.boxed k6' k7' (.bool n2) (.slice B2 m2 d2))
      have G2 := hid (F2.out.boxed k6' k7' (.bool n2) (.slice B2 m2 d2)); have FI := hid (FI.out.boxed k6' k7' (.bool n2) (.slice B2 m2 d2))
      clear hb5 hb6 hz1 hz2 Z1 k6' k7' F1 F2 x0 x1
      go_wp2
      refine bodyPost_ret (v := .tuple #[.agg #[.bool n1, .slice B1 m1 d1], .agg #[.bool n2, .slice B2 m2 d2], .bool true]) (by simp [results, Try.results53, go_sem, k4, k5, k6, k7]) rfl ⟨⟨_, _, rfl, ?_, ?_, FI.out⟩, (((HB.out.setCell (by simp; omega) _).setCell (by simp; omega) _).setCell (by simp; omega) _).setCell (by simp; omega) _⟩
      · have e := DS.out.1
        rw [HBNE.out] at e
        rw [if_pos ⟨by simp, hz⟩, ← QF.out.2.2, show nv qs + 1 = nv zs from by rw [ZF.out.2]; simp [nv_cons, nv_nil]] at e
        rw [e]; exact G1.out
      · have e := DS.out.2
        rw [if_pos ⟨by simp, hz⟩, ← RF.out.2.2, show nv ys - nv rs = nv ts from by rw [TF.out.2, nv_tr]] at e
        rw [e]; exact G2.out
    · obtain rfl : rs = [] := by
        rcases Nat.eq_zero_or_pos rs.length with h | h
        · exact List.eq_nil_of_length_eq_zero h
        · have := RF.out.2.1.pos RF.out.1 h; rw [RF.out.2.2] at this; omega
      have R1 : Hid (SlV w3 (.slice A3 0 c3) []) := R1
      obtain ⟨k0, k1, f0, f1⟩ := id x0
      obtain ⟨k2, k3, f2, f3⟩ := id x1
      go_wp2_with fail
      refine (signed_fr _ q1 (!nb) qs Q1.out QF.out.1 _ FQ.out).mono ?_
      rintro e v5 ⟨⟨z1, rfl, hz1, hfz⟩, hb5⟩
      have FI := hid hfz
      clear hfz
      have R9 := hid (R1.out.below hb5)
      have HB := hid (bw_step HB.out hb5)
      have x0 := x0.below hb5
      have x1 := x1.below hb5
      have x2 := x2.below hb5
      have x3 := x3.below hb5
      clear k0 k1 f0 f1 k2 k3 f2 f3
      go_wp2_with fail
      refine (signed_any _ _ false [] R9.out RF.out.1).mono ?_
      rintro e v6 ⟨⟨z2, rfl, hz2⟩, hb6⟩
      have Z1 := hz1.below hb6; have FI := hid (FI.out.below hb6)
      have HB := hid (bw_step HB.out hb6)
      have x0 := x0.below hb6
      have x1 := x1.below hb6
      have x2 := x2.below hb6
      have x3 := x3.below hb6
      obtain ⟨k4, k5, f4, f5⟩ := x2
      obtain ⟨k6, k7, f6, f7⟩ := x3
      obtain ⟨n1, B1, m1, d1, rfl⟩ := Z1.form
      obtain ⟨n2, B2, m2, d2, rfl⟩ := hz2.form
      have F1 := hid (Z1.boxed k4 k5 (.bool n1) (.slice B1 m1 d1))
      have F2 := hid (hz2.boxed k4 k5 (.bool n1) (.slice B1 m1 d1)); have FI := hid (FI.out.boxed k4 k5 (.bool n1) (.slice B1 m1 d1))
      have k6' := st_far (x := .bool n1) (y := .slice B1 m1 d1) k6 (show (⟨w.heap.size + 1 + 1, 0, none⟩ : Addr) ≠ ⟨w.heap.size + 1 + 1 + 1, 0, none⟩ by simp) (show (⟨w.heap.size + 1 + 1, 1, none⟩ : Addr) ≠ ⟨w.heap.size + 1 + 1 + 1, 0, none⟩ by simp)
      have k7' := st_far (x := .bool n1) (y := .slice B1 m1 d1) k7 (show (⟨w.heap.size + 1 + 1, 0, none⟩ : Addr) ≠ ⟨w.heap.size + 1 + 1 + 1, 1, none⟩ by simp) (show (⟨w.heap.size + 1 + 1, 1, none⟩ : Addr) ≠ ⟨w.heap.size + 1 + 1 + 1, 1, none⟩ by simp)
      have G1 := hid (F1.out.boxed k6' k7' (.bool n2) (.slice B2 m2 d2))
      have G2 := hid (F2.out.boxed k6' k7' (.bool n2) (.slice B2 m2 d2)); have FI := hid (FI.out.boxed k6' k7' (.bool n2) (.slice B2 m2 d2))
      clear hb5 hb6 hz1 hz2 Z1 k6' k7' F1 F2 x0 x1
      go_wp2
      refine bodyPost_ret (v := .tuple #[.agg #[.bool n1, .slice B1 m1 d1], .agg #[.bool n2, .slice B2 m2 d2], .bool true]) (by simp [results, Try.results53, go_sem, k4, k5, k6, k7]) rfl ⟨⟨_, _, rfl, ?_, ?_, FI.out⟩, (((HB.out.setCell (by simp; omega) _).setCell (by simp; omega) _).setCell (by simp; omega) _).setCell (by simp; omega) _⟩
      · have e := DS.out.1
        rw [HBNE.out] at e
        rw [if_neg (fun h => absurd h.2 (by omega)), ← QF.out.2.2] at e
        rw [e]; exact G1.out
      · have e := DS.out.2
        rw [if_neg (fun h => absurd h.2 (by omega)), ← RF.out.2.2] at e
        rw [e]; exact G2.out


end Go.Proofs.Ytijmjkkjopplbaa

