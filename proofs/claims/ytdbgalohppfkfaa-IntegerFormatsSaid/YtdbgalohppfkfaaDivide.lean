/- Walk: divide: the quotient and the remainder of two absolute values. -/
import Derived.Test.YtdbgalohppfkfaaDigit
import Derived.Test.YtdbgalohppfkfaaShortDiv
import Derived.Test.YtdbgalohppfkfaaShift
import Derived.Test.YtdbgalohppfkfaaLen
import Derived.Test.YtdbgalohppfkfaaAppend
namespace Go.Proofs.Ytdbgalohppfkfaa
open Go.RowKit

/-- The call hands back the quotient's and the remainder's limbs. -/
def RetDM (w : World) (a b : Int) (e : Ending) : Prop := ∃ v1 v2 qs rs, e = .returned (.tuple #[v1, v2]) ∧ SlV w v1 qs ∧ Lb qs ∧ Cn qs ∧ nv qs = a / b ∧ SlV w v2 rs ∧ Lb rs ∧ Cn rs ∧ nv rs = a % b

theorem divide_less (w : World) (v u : Value) (xs ys : List Int) (hx : SlV w v xs) (hy : SlV w u ys) (bx : Lb xs) (by_ : Lb ys) (cx : Cn xs) (cy : Cn ys) (hlt : nv xs < nv ys) :
    Calls Try.prog 54 #[v, u] w fun e w' => RetDM w' (nv xs) (nv ys) e ∧ Below w.heap.size w w' := by
  have hcm := cm_lt hlt
  have HX := hid hx
  have HB := hid bx
  have HC := hid cx
  have HL := hid hlt
  have hl := hx.len
  go_enter Try.func54, Try.ntmps54
  go_wp2_with (first
    | (go_at_call 47; (with_reducible refine (compare_any _ _ _ xs ys hx hy bx by_ cx cy).mono ?_); rintro e w' ⟨rfl, ⟨nq, rfl⟩⟩; clear hx hy bx by_ cx cy hlt)
    | (at_builtin; refine wp_copy_u32 rfl _ rfl v xs rfl (HX.out.drew _) ?_; intro v1 w1 hr hb))
  go_ret2
  have e1 : nv xs / nv ys = 0 := Int.ediv_eq_zero_of_lt (nv_nonneg HB.out) HL.out
  have e2 : nv xs % nv ys = nv xs := Int.emod_eq_of_lt (nv_nonneg HB.out) HL.out
  refine ⟨⟨_, _, [], xs, rfl, ⟨none, 0, rfl, Nat.le_refl _, Sl.nil _ _⟩, Lb.nil, Cn.nil, by rw [e1]; rfl, hr.slv hl, HB.out, HC.out, e2.symm⟩, bw_step (below_drewN (Below.refl _ _) _) hb⟩

theorem divide_short (w : World) (v u : Value) (xs ys : List Int) (hx : SlV w v xs) (hy : SlV w u ys) (bx : Lb xs) (by_ : Lb ys) (cx : Cn xs) (cy : Cn ys) (hle : nv ys ≤ nv xs) (h1 : ys.length = 1) :
    Calls Try.prog 54 #[v, u] w fun e w' => RetDM w' (nv xs) (nv ys) e ∧ Below w.heap.size w w' := by
  obtain ⟨B, d, rfl, hdl, hyl⟩ := id hy
  obtain ⟨b, o, rfl, hcl⟩ := hyl.at (by omega)
  have c1 := hcl 0 (by omega)
  rw [Nat.add_zero] at c1
  have hy0 := cy (by omega)
  rw [h1] at hy0
  have hyb := by_.lm 0
  have hyv : nv ys = lm ys 0 := by
    have := nv_take_succ ys 0
    rw [List.take_of_length_le (by omega)] at this
    rw [this]; simp [nv_nil, bp_zero]
  have hyp : 0 < lm ys 0 := by
    have : lm ys 0 ≠ 0 := hy0
    omega
  have hcm : decide (cm (nv xs) (nv ys) < 0) = false := by unfold cm; simp; split <;> (try split) <;> omega
  have HX := hid hx
  have HB := hid bx
  have HV := hid hyv
  rw [h1] at hy
  have HY := hid hy
  have HC := hid (And.intro by_ (And.intro cx cy))
  clear hx hcl hyl bx by_ cx cy hle hyv hy0 hy
  go_enter Try.func54, Try.ntmps54
  go_wp2_with (first
    | (go_at_call 47; (with_reducible refine (compare_any _ _ _ xs ys HX.out HY.out HB.out HC.out.1 HC.out.2.1 HC.out.2.2).mono ?_); rintro e w' ⟨rfl, ⟨nq, rfl⟩⟩)
    | (go_at_call 59; (with_reducible refine (shortDivide_any _ _ xs (lm ys 0) (HX.out.drew _) HB.out ⟨hyp, hyb.2⟩).mono ?_); rintro e w1 ⟨⟨v1, qs, rfl, hq⟩, hb⟩))
  obtain ⟨q1, q2, q3, q4⟩ := hq
  have m0 := Int.emod_nonneg (nv xs) (show lm ys 0 ≠ 0 by omega)
  have m1 := Int.emod_lt_of_pos (nv xs) hyp
  have hr : Lb [nv xs % lm ys 0] := Lb.cons m0 (by omega) Lb.nil
  have hs := (Own.new w1 [nv xs % lm ys 0]).slv (n := 1) (c := 1) rfl (by decide) (by decide)
  refine (trim_any _ _ [nv xs % lm ys 0] hs).mono ?_
  rintro e w' ⟨⟨vt, rfl, ht⟩, rfl⟩
  have ht' := hid (ht _ hs)
  have hq' := hid q1
  clear ht hs q1
  go_wp2
  go_ret2
  refine ⟨⟨v1, vt, qs, tr [nv xs % lm ys 0], rfl, hq'.out.below (bw_alloc (Below.refl _ _) _), q2, q3, by rw [HV.out]; exact q4, ht'.out, hr.tr, Cn.tr _, by rw [nv_tr, HV.out]; simp [nv_cons, nv_nil]⟩, bw_alloc (bw_step (below_drewN (Below.refl _ _) _) hb) _⟩

set_option maxHeartbeats 1000000 in
theorem divide_long (w : World) (v u : Value) (xs ys : List Int) (hx : SlV w v xs) (hy : SlV w u ys) (bx : Lb xs) (by_ : Lb ys) (cx : Cn xs) (cy : Cn ys) (hle : nv ys ≤ nv xs) (h2 : 2 ≤ ys.length) (hlen : xs.length ≤ 274877906944) :
    Calls Try.prog 54 #[v, u] w fun e w' => RetDM w' (nv xs) (nv ys) e ∧ Below w.heap.size w w' := by
  have hll : ys.length ≤ xs.length := by
    rcases Nat.lt_or_ge xs.length ys.length with h | h
    · have := cy.lt_of_length bx by_ h; omega
    · exact h
  obtain ⟨m, hm⟩ : ∃ m, ys.length = m + 2 := ⟨ys.length - 2, by omega⟩
  obtain ⟨t, ht⟩ : ∃ t, xs.length = t + (m + 2) := ⟨xs.length - (m + 2), by omega⟩
  rw [hm] at h2
  clear h2 hll
  rw [ht] at hlen
  obtain ⟨A, c, rfl, hcl, hxl⟩ := id hx
  obtain ⟨B, d, rfl, hdl, hyl⟩ := id hy
  obtain ⟨b, o, rfl, hcc⟩ := hyl.at (by omega)
  have c1 := hcc (m + 1) (by omega)
  have htop := cy (by omega)
  rw [hm, show m + 2 - 1 = m + 1 from by omega] at htop
  have hyb := by_.lm (m + 1)
  have hyp : 0 < lm ys (m + 1) := by omega
  have hcm : decide (cm (nv xs) (nv ys) < 0) = false := by unfold cm; simp; split <;> (try split) <;> omega
  rw [hm] at hy
  rw [ht] at hx
  have HX := hid hx
  have HY := hid hy
  have HBX := hid bx
  have HBY := hid by_
  have HC := hid (And.intro cx cy)
  have HLE := hid hle
  clear hx hy bx by_ cx cy hle hcc hxl hyl htop
  go_enter Try.func54, Try.ntmps54
  go_wp2_with (first
    | (go_at_call 47; (with_reducible refine (compare_any _ _ _ xs ys HX.out HY.out HBX.out HBY.out HC.out.1 HC.out.2).mono ?_); rintro e w' ⟨rfl, ⟨nq, rfl⟩⟩)
    | (go_at_call 62; (with_reducible refine (leadingZeros_any _ _ hyp hyb.2).mono ?_); rintro e w' ⟨⟨s, rfl, s0, s1, s2⟩, rfl⟩))
  have hz1 : (0 : Int) ≤ (m : Int) + 2 := by omega
  have hz3 : ((m : Int) + 2).toNat = m + 2 := by omega
  have hz2 : (m : Int) + 2 ≤ (m : Int) + 2 + 1 := by omega
  go_region_held3 (fun w' => Hid (Below w.heap.size w w'))
    (first
      | exact hid (below_drewN (Below.refl _ _) _).drew
      | (go_split_ands; assumption)
      | (go_split_ands; exact bw_keep (by assumption) (by assumption)))
    (first
      | (go_at_call 63; (with_reducible refine (shift_any _ _ xs _ ?g1 HBX.out ?g2 ?g3 ?g4).mono ?_); (case g1 => (go_split_ands; exact HX.out.below (Hid.out (by assumption)))); (case g2 => omega); (case g3 => omega); (case g4 => omega); rintro e wa ⟨⟨us, ⟨ga, rfl, hoa, hga⟩, hla, hba, hna⟩, hbea⟩; rw [ht] at hla; rw [hla])
      | (go_at_call 63; (with_reducible refine (shift_any _ _ ys _ ?k1 HBY.out ?k2 ?k3 ?k4).mono ?_); (case k1 => (go_split_ands; exact HY.out.below (Hid.out (by assumption)))); (case k2 => omega); (case k3 => omega); (case k4 => omega); rintro e wb ⟨⟨vs, ⟨gb, rfl, hob, hgb⟩, hlb, hbb, hnb⟩, hbeb⟩; rw [hm] at hlb; rw [hlb]))
  rename_i hH
  have HBel := hH
  clear hH
  rw [Int.toNat_natCast] at hna hnb
  have HGA : w.heap.size ≤ ga := hga
  have hP := pow_pos2 s
  obtain ⟨nd1, nd2, nd3, nd4⟩ := norm_divisor HBY.out hm hbb hlb hnb s1 s2 s0
  have nd5 := norm_dividend HBX.out ht hba hla hna hP nd3
  have hmk := make_u32_succ t (by omega)
  have hoa' := hid (hoa.below hbeb hoa.lt)
  have hob' := hid hob
  have hbp := bp_pos (m + 1)
  have hVp : 0 < nv vs := by have := Int.mul_pos hbp hP; omega
  have ND := hid (And.intro nd1 (And.intro nd2 (And.intro nd4 hVp)))
  have ND5 := hid nd5
  have HNA := hid (And.intro hna hnb)
  have HLA := hid hla
  have HLB := hid hlb
  have HBA := hid hba
  have HBB := hid hbb
  have l1 := hoa.lt
  have l2 := hob.lt
  have HP := hid hP
  clear hP nd1 nd2 nd3 nd4 nd5 hbp hVp hna hnb hla hlb hba hbb hoa hob hbea hbeb s1 s2 hga c1 hyb hyp
  go_wp2
  clear hmk
  have HOA := hid (hoa'.out.alloc (.cells (zs (t + 1)) 33))
  have HOB := hid (hob'.out.alloc (.cells (zs (t + 1)) 33))
  have HOQ := hid (Own.made wb (t + 1))
  have HBel := hid (bw_alloc HBel.out (.cells (zs (t + 1)) 33))
  clear hoa' hob'
  go_loopw [12] (fun vi wr => ∃ (k : Nat) (os qs : List Int), vi = .int .i64 ((k : Int) - 1) ∧ k ≤ t + 1 ∧ Hid (os.length = t + (m + 2) + 1) ∧ Hid (Own wr ga os) ∧ Hid (Lb os) ∧ Hid (qs.length = t + 1) ∧ Hid (Own wr wb.heap.size qs) ∧ Hid (Lb qs) ∧ Hid (Own wr gb vs) ∧
      Hid (nv os + nv vs * (bp k * nv (qs.drop k)) = nv us) ∧ Hid (nv (os.drop k) < nv vs) ∧ Hid (Below w.heap.size w wr)) (fun vi _ => (intOf vi + 1).toNat)
  case atStart => exact ⟨t + 1, us, List.replicate (t + 1) 0, by go_num, by omega, HLA, HOA, HBA, hid (by simp), HOQ, hid (Lb.replicate _), HOB, hid (by simp [nv_nil]), ND5, HBel⟩
  case round =>
    obtain ⟨k, os, qs, rfl, hk, hlo, hoo, hbo, hlq, hoq, hbq, hov, hval, hhead, hbel⟩ := hrel
    cases k with
    | succ i =>
      have et : ((i + 1 : Nat) : Int) - 1 = (i : Int) := by omega
      rw [et]
      clear et
      have hqc := hoq.out.cell (j := i) (by have := hlq.out; omega)
      have hqf := hoq.out.free i
      obtain ⟨lb1, lb2⟩ := long_before hbo.out (by have := hlo.out; omega) (Int.le_of_lt ND.out.2.2.1) hhead.out
      have LB := hid (And.intro lb1 lb2)
      clear lb1 lb2
      obtain ⟨q, hq⟩ : ∃ q, q = nv (win os i (m + 3)) / nv vs := ⟨_, rfl⟩
      have q0 : 0 ≤ q := by rw [hq]; exact Int.ediv_nonneg (nv_nonneg (hbo.out.win _ _)) (Int.le_of_lt ND.out.2.2.2)
      have q1 : q < 4294967296 := by rw [hq]; exact Int.ediv_lt_of_lt_mul ND.out.2.2.2 (by rw [Int.mul_comm]; exact LB.out.1)
      have HQ := hid hq
      clear hq hqc hqf
      go_wp2_with fail
      rw [show i + (m + 2) + 1 - i = m + 3 from by omega]
      refine (digit_any _ ga gb i m _ _ os vs hoo.out hov.out (by omega) (by have := hlo.out; omega) (by have := HLB.out; omega) (by have := hlo.out; omega) hbo.out HBB.out ND.out.2.1 (by rw [ND.out.1]; exact LB.out.1)).mono ?_
      rintro e w' ⟨os', he, ho', hl', hb', hs', hw', hg'⟩
      rw [ND.out.1, ← HQ.out] at he
      rw [ND.out.1] at hw'
      subst he
      have hoq' := hoq.out.kept hg' (by omega)
      have hov' := hov.out.kept hg' (by omega)
      have hbel' := hid (hbel.out.grown hg' hbel.out.size (fun k hk => by injection hk with hk; omega))
      have hqc := hoq'.cell (j := i) (by have := hlq.out; omega)
      have hqf := hoq'.free i
      have GO := hid (And.intro ho' (And.intro hl' (And.intro hb' (And.intro hs' hw'))))
      have GQ := hid (And.intro hoq' hov')
      clear ho' hl' hb' hs' hw' hg' hoq' hov'
      go_wp2
      go_roundw
      case measure => simp [intOf]
      case rel =>
        obtain ⟨ho', hl', hb', hs', hw'⟩ := GO.out
        obtain ⟨r1, r2⟩ := long_after ND.out.2.2.2 (by have := hlo.out; omega) hl' LB.out.2 hs' hw' (by have := hlq.out; omega) hval.out
        rw [← HQ.out] at r1
        exact ⟨i, os', qs.set i q, rfl, by omega, hid (hl'.trans hlo.out), hid (ho'.far (by omega) _ _), hid hb', hid (by rw [List.length_set]; exact hlq.out), hid (GQ.out.1.set _ _), hid (hbq.out.set _ q0 q1), hid (GQ.out.2.far (by omega) _ _), hid r1, hid r2,
          hid (hbel'.out.setCell (by show w.heap.size ≤ wb.heap.size; omega) _)⟩
    | zero =>
      have hv := hval.out
      rw [bp_zero, Int.one_mul, List.drop_zero, HNA.out.1, HNA.out.2] at hv
      have hh := hhead.out
      rw [List.drop_zero] at hh
      have htk := hid (nv_take_of_lt hbo.out (show nv os < bp (m + 2) by have := ND.out.2.2.1; omega))
      rw [HNA.out.2] at hh
      obtain ⟨d1, d2⟩ := div_scaled HP.out (nv_nonneg hbo.out) hh hv
      have hsl := hid (show SlV wr (.slice (some ⟨ga, 0, none⟩) (m + 2) (t + (m + 2) + 1)) (os.take (m + 2)) from
        .mk ((hoo.out.sl (by have := hlo.out; omega)).take _) (by rw [List.length_take]; have := hlo.out; omega) (by omega))
      have hsq := hid (hoq.out.slv (n := t + 1) (c := t + 1) hlq.out (by omega) (Nat.le_refl _))
      have hmod : nv (tr (os.take (m + 2))) % 2 ^ s = 0 := by rw [nv_tr, htk.out, d2, Int.mul_emod_left]
      have HD := hid (And.intro d1 (And.intro d2 hmod))
      clear d1 d2 hmod hv hh
      have hz4 : (m : Int) + 2 ≤ (t : Int) + ((m : Int) + 2) + 1 := by omega
      go_wp2_with fail
      go_region_held3 (fun w' => Hid (Below wr.heap.size wr w'))
        (first
          | exact bw_drew _
          | (go_split_ands; assumption)
          | (go_split_ands; exact bw_keep (by assumption) (by assumption)))
        (first
          | (go_at_call 60; (with_reducible refine (trim_any _ (.slice (some ⟨wb.heap.size, 0, none⟩) (t + 1) (t + 1)) qs ?g1).mono ?_); (case g1 => (go_split_ands; exact hsq.out.below (Hid.out (by assumption)))); rintro e w' ⟨⟨sa, rfl, hca⟩, rfl⟩)
          | (go_at_call 60; (with_reducible refine (trim_any _ (.slice (some ⟨ga, 0, none⟩) (m + 2) (t + (m + 2) + 1)) (os.take (m + 2)) ?g2).mono ?_); (case g2 => (go_split_ands; exact hsl.out.below (Hid.out (by assumption)))); rintro e w' ⟨⟨sb, rfl, hcb⟩, rfl⟩)
          | (go_at_call 65; (with_reducible refine (unshift_any _ _ (tr (os.take (m + 2))) _ ?k1 (hbo.out.take _).tr ?k2 ?k3 ?k4 ?k5).mono ?_); (case k1 => (go_split_ands; exact hcb _ (hsl.out.below (Hid.out (by assumption))))); (case k2 => omega); (case k3 => omega); (case k4 => (rw [tr_length]; have := tl_le (os.take (m + 2)); rw [List.length_take] at this; omega)); (case k5 => (rw [Int.toNat_natCast]; exact HD.out.2.2)); rintro e w' ⟨⟨rs, ⟨sc, rfl, hrs⟩, hr1, hr2, hr3⟩, hbe⟩))
      rename_i hH
      have HF := hH
      clear hH
      go_wp2
      go_ret2
      have hl := tl_le (os.take (m + 2))
      refine ⟨⟨sa, sc, tr qs, rs, rfl, (hca _ hsq.out).below HF.out, hbq.out.tr, Cn.tr _, by rw [nv_tr]; exact HD.out.1, hrs, hr1, hr2, ?_⟩, bw_step hbel.out HF.out⟩
      rw [hr3, Int.toNat_natCast, nv_tr, htk.out, HD.out.2.1, Int.mul_ediv_cancel _ (Int.ne_of_gt HP.out)]

theorem divide_any (w : World) (v u : Value) (xs ys : List Int) (hx : SlV w v xs) (hy : SlV w u ys) (bx : Lb xs) (by_ : Lb ys) (cx : Cn xs) (cy : Cn ys) (hy0 : 0 < nv ys) (hlen : xs.length ≤ 274877906944) :
    Calls Try.prog 54 #[v, u] w fun e w' => RetDM w' (nv xs) (nv ys) e ∧ Below w.heap.size w w' := by
  rcases (show nv xs < nv ys ∨ nv ys ≤ nv xs by omega) with h | h
  · exact divide_less w v u xs ys hx hy bx by_ cx cy h
  · have h0 : ys.length ≠ 0 := fun e => by rw [List.eq_nil_of_length_eq_zero e, nv_nil] at hy0; omega
    rcases (show ys.length = 1 ∨ 2 ≤ ys.length by omega) with h1 | h1
    · exact divide_short w v u xs ys hx hy bx by_ cx cy h h1
    · exact divide_long w v u xs ys hx hy bx by_ cx cy h h1 hlen
end Go.Proofs.Ytdbgalohppfkfaa
