/- The reference: Gcd. -/
import Derived.Test.YtdbgalohppfkfaaRDivZero
import Derived.Test.YtdbgalohppfkfaaRAbs
namespace Go.Proofs.Ytdbgalohppfkfaa
open Go.RowKit
set_option linter.unusedVariables false
set_option maxRecDepth 100000

theorem gcd_emod {x y : Int} (hx : 0 ≤ x) (hy : 0 ≤ y) : Int.gcd y (x % y) = Int.gcd x y := by
  obtain ⟨m, rfl⟩ := Int.eq_ofNat_of_zero_le hx
  obtain ⟨n, rfl⟩ := Int.eq_ofNat_of_zero_le hy
  rw [show ((m : Int) % (n : Int)) = ((m % n : Nat) : Int) from rfl, Int.gcd_natCast_natCast, Int.gcd_natCast_natCast, Nat.gcd_comm m n, Nat.gcd_rec n m, Nat.gcd_comm]
theorem gcd_zero' {x : Int} (hx : 0 ≤ x) : ((Int.gcd x 0 : Nat) : Int) = x := by
  rw [Int.gcd_zero_right]; omega
theorem gcd_natAbs (a b : Int) : Int.gcd (a.natAbs : Int) (b.natAbs : Int) = Int.gcd a b := by
  rw [Int.gcd_natCast_natCast]; rfl

set_option maxHeartbeats 4000000 in
theorem rgcd_any (w : World) (v u : Value) (a b : Int) (N : Nat) (hN : N ≤ 1000000) (ha : IntA w v a N) (hb : IntA w u b N) :
    Calls Try.prog 41 #[v, u] w fun e w' => RetI w' ((Int.gcd a b : Nat) : Int) e ∧ Below w.heap.size w w' := by
  obtain ⟨na, As, sn, cs, rfl⟩ := ha.form
  obtain ⟨nb, Ar, rn, cr, rfl⟩ := hb.form
  have FA := hid ha
  have FB := hid hb
  clear ha hb
  have HB := hid (Below.refl w.heap.size w)
  obtain ⟨W, hW⟩ : ∃ W, W = (((w.alloc (.cells #[.bool na, .slice As sn cs] 24)).alloc (.cells #[.bool nb, .slice Ar rn cr] 24)).alloc (.cells #[.bool false, .slice none 0 0] 24)) := ⟨_, rfl⟩
  have hbb : Below w.heap.size w W := by rw [hW]; exact (bw_alloc (bw_alloc (bw_alloc (Below.refl _ _) _) _) _)
  have HB := hid (bw_step HB.out hbb)
  have FA := hid (FA.out.below hbb)
  have FB := hid (FB.out.below hbb)
  have P0 : Hid (Blk W (w.heap.size) 24 #[.bool na, .slice As sn cs]) := by
    rw [hW]
    have := ((Blk.new w 24 #[.bool na, .slice As sn cs]).below (bw_alloc (Below.refl _ _) (.cells #[.bool nb, .slice Ar rn cr] 24))).below (bw_alloc (Below.refl _ _) (.cells #[.bool false, .slice none 0 0] 24))
    exact hid (by simpa only [World.size_alloc] using this)
  have P1 : Hid (Blk W (w.heap.size + 1) 24 #[.bool nb, .slice Ar rn cr]) := by
    rw [hW]
    have := (Blk.new (w.alloc (.cells #[.bool na, .slice As sn cs] 24)) 24 #[.bool nb, .slice Ar rn cr]).below (bw_alloc (Below.refl _ _) (.cells #[.bool false, .slice none 0 0] 24))
    exact hid (by simpa only [World.size_alloc] using this)
  have R0 : Hid (Blk W (w.heap.size + 1 + 1) 24 #[.bool false, .slice none 0 0]) := by
    rw [hW]
    have := Blk.new ((w.alloc (.cells #[.bool na, .slice As sn cs] 24)).alloc (.cells #[.bool nb, .slice Ar rn cr] 24)) 24 #[.bool false, .slice none 0 0]
    exact hid (by simpa only [World.size_alloc] using this)
  clear hbb
  go_enter Try.func41, Try.ntmps41
  go_wp2_with fail
  rw [← hW]
  clear hW
  have SM1 : Hid (Sm N (((a).natAbs : Nat) : Int)) := hid ((FA.out.sm).absv)
  have SM2 : Hid (Sm N (((b).natAbs : Nat) : Int)) := hid ((FB.out.sm).absv)
  have lt2_P0 := P0.out.lt
  have lt2_P1 := P1.out.lt
  have lt2_R0 := R0.out.lt
  refine wp_region_each (by kernel_rfl) 8 19 rfl rfl (by kernel_rfl)
    [Fact.eq (.agg #[.bool na, .slice As sn cs]), Fact.int (((a).natAbs : Nat) : Int), Fact.eq (.agg #[.bool nb, .slice Ar rn cr]), Fact.int (((b).natAbs : Nat) : Int), Fact.box (((a).natAbs : Nat) : Int), Fact.box (((b).natAbs : Nat) : Int), Fact.top _, Fact.top _]
    [.val, .val, .val, .val, .alloc 6, .alloc 7, .fill 4, .fill 5]
    (fun w' => IntA w' (.agg #[.bool na, .slice As sn cs]) (a) N ∧ IntA w' (.agg #[.bool nb, .slice Ar rn cr]) (b) N ∧ Blk w' (w.heap.size) 24 #[.bool na, .slice As sn cs] ∧ Blk w' (w.heap.size + 1) 24 #[.bool nb, .slice Ar rn cr] ∧ Blk w' (w.heap.size + 1 + 1) 24 #[.bool false, .slice none 0 0] ∧ Below w.heap.size w w')
    (fun _ _ _ => True) [] (fun _ => 0) (by kernel_rfl)
    ⟨FA.out, FB.out, P0.out, P1.out, R0.out, HB.out⟩
    (fun w1 w2 ⟨h0, h1, h2, h3, h4, h5⟩ hb => ⟨h0.below hb, h1.below hb, h2.below hb, h3.below hb, h4.below hb, bw_step h5 hb⟩)
    (fun w1 w2 g ⟨h0, h1, h2, h3, h4, h5⟩ hg hn ho => by
      have hg' : W.heap.size ≤ g := hg.elim id (fun ⟨_, h, _⟩ => absurd h (Nat.not_lt_zero _))
      exact ⟨h0.only hn ho, h1.only hn ho, h2.only ho (by have := P0.out.lt; have := P1.out.lt; have := R0.out.lt; omega), h3.only ho (by have := P0.out.lt; have := P1.out.lt; have := R0.out.lt; omega), h4.only ho (by have := P0.out.lt; have := P1.out.lt; have := R0.out.lt; omega), below_only h5 ho (by have := P0.out.lt; have := P1.out.lt; have := R0.out.lt; have := HB.out.size; omega)⟩)
    (fun l h => trivial) (fun l b w1 w2 h _ _ => trivial) (fun l b w1 w2 g h _ _ _ _ => trivial) (fun l h => by cases h) (fun l k h => by cases h) ?_ ?_
  · refine ⟨?_, ?_, ?_, ?_, ?_, ?_, ?_, ?_, trivial⟩ <;> intro L V a1 w1 hf hG hsz hφ hψ hL hdep hcl
    · obtain ⟨FA_, FB_, P0_, P1_, R0_, HB_⟩ := hG
      have e2 := old_slot hf 2 (by kernel_rfl)
      exact ob_load_int rfl e2 P0_ rfl
    · obtain ⟨FA_, FB_, P0_, P1_, R0_, HB_⟩ := hG
      have d0 := dep_of hdep 0 (by kernel_rfl)
      have e7 := (new_slot hf 0 7 d0 (by kernel_rfl)).trans (show V 0 = .agg #[.bool na, .slice As sn cs] from hφ 0 d0)
      refine ob_go rfl (vs := #[.agg #[.bool na, .slice As sn cs]]) (by simp only [List.map_toArray, List.map_cons, List.map_nil, e7]) (by kernel_rfl) (rabs_any _ (.agg #[.bool na, .slice As sn cs]) a N FA_ ) ?_
      rintro e w2 ⟨⟨v, rfl, hv⟩, hb⟩
      exact ⟨v, rfl, hb, hv⟩
    · obtain ⟨FA_, FB_, P0_, P1_, R0_, HB_⟩ := hG
      have e3 := old_slot hf 3 (by kernel_rfl)
      exact ob_load_int rfl e3 P1_ rfl
    · obtain ⟨FA_, FB_, P0_, P1_, R0_, HB_⟩ := hG
      have d2 := dep_of hdep 2 (by kernel_rfl)
      have e9 := (new_slot hf 2 9 d2 (by kernel_rfl)).trans (show V 2 = .agg #[.bool nb, .slice Ar rn cr] from hφ 2 d2)
      refine ob_go rfl (vs := #[.agg #[.bool nb, .slice Ar rn cr]]) (by simp only [List.map_toArray, List.map_cons, List.map_nil, e9]) (by kernel_rfl) (rabs_any _ (.agg #[.bool nb, .slice Ar rn cr]) b N FB_ ) ?_
      rintro e w2 ⟨⟨v, rfl, hv⟩, hb⟩
      exact ⟨v, rfl, hb, hv⟩
    · obtain ⟨FA_, FB_, P0_, P1_, R0_, HB_⟩ := hG
      exact ob_alloc_int rfl hsz rfl
    · obtain ⟨FA_, FB_, P0_, P1_, R0_, HB_⟩ := hG
      exact ob_alloc_int rfl hsz rfl
    · obtain ⟨FA_, FB_, P0_, P1_, R0_, HB_⟩ := hG
      have d1 := dep_of hdep 1 (by kernel_rfl)
      have e8 := new_slot hf 1 8 d1 (by kernel_rfl)
      have p8 : IntV w1 (V 1) (((a).natAbs : Nat) : Int) := hφ 1 d1
      have d4 := dep_of hdep 4 (by kernel_rfl)
      obtain ⟨g, h1, h2, h3⟩ := hφ 4 d4
      exact ob_fill_int rfl ((new_slot hf 4 5 d4 (by kernel_rfl)).trans h1) e8 h1 h2 h3 p8 rfl rfl
    · obtain ⟨FA_, FB_, P0_, P1_, R0_, HB_⟩ := hG
      have d3 := dep_of hdep 3 (by kernel_rfl)
      have e10 := new_slot hf 3 10 d3 (by kernel_rfl)
      have p10 : IntV w1 (V 3) (((b).natAbs : Nat) : Int) := hφ 3 d3
      have d5 := dep_of hdep 5 (by kernel_rfl)
      obtain ⟨g, h1, h2, h3⟩ := hφ 5 d5
      exact ob_fill_int rfl ((new_slot hf 5 6 d5 (by kernel_rfl)).trans h1) e10 h1 h2 h3 p10 rfl rfl
  · intro V W3 hG hsz3 hφ hψ hne
    have hlt3 : W.heap.size ≤ W3.heap.size := hsz3
    obtain ⟨FA_, FB_, P0_, P1_, R0_, HB_⟩ := hG
    have FA := hid FA_
    have FB := hid FB_
    have P0 := hid P0_
    have P1 := hid P1_
    have R0 := hid R0_
    have HB := hid HB_
    have y0 : V 0 = .agg #[.bool na, .slice As sn cs] := hφ 0 (by decide)
    have y2 : V 2 = .agg #[.bool nb, .slice Ar rn cr] := hφ 2 (by decide)
    obtain ⟨G3_4, y4, gb304, q304, A304, n304, c304, kb304, vb304⟩ := hφ 4 (by decide)
    have Xx := hid kb304
    have x := hid vb304
    clear kb304 vb304
    obtain ⟨G3_5, y5, gb305, q305, A305, n305, c305, kb305, vb305⟩ := hφ 5 (by decide)
    have Xy := hid kb305
    have y := hid vb305
    clear kb305 vb305
    have ne3_4_5 : G3_4 ≠ G3_5 := fun e => hne 4 5 (by decide) rfl rfl (by rw [y4, y5, e])
    simp only [puts, Act.put, List.setIfInBounds_toArray, List.set_cons_zero, List.set_cons_succ, y0, y2, y4, y5, ptr]
    clear hφ hψ hne y0 y2 y4 y5 FA_ FB_ P0_ P1_ R0_ HB_ hsz3
    go_wp2
    go_loopg [] (b.natAbs) (fun gk wr => ∃ X Y : Int, Hid (0 ≤ X) ∧ Hid (0 ≤ Y) ∧ Hid (gk = Y.toNat) ∧ Hid (Int.gcd X Y = Int.gcd a b) ∧ Hid (Sm N X) ∧ Hid (Sm N Y) ∧ Hid (BoxI wr G3_4 X) ∧ Hid (BoxI wr G3_5 Y) ∧ Hid (Blk wr (w.heap.size + 1 + 1) 24 #[.bool false, .slice none 0 0]) ∧ Hid (Below w.heap.size w wr))
    case atStart => exact ⟨_, _, hid (Int.natCast_nonneg _), hid (Int.natCast_nonneg _), hid (by omega), hid (gcd_natAbs a b), SM1, SM2, ⟨_, _, _, _, Xx.out, x.out⟩, ⟨_, _, _, _, Xy.out, y.out⟩, R0.out, HB.out⟩
    case round =>
      clear FA FB P0 P1 R0 HB Xx Xy x y SM1 SM2
      obtain ⟨X, Y, X0, Y0, HG, HGC, SX, SY, BX, BY, R0, HB⟩ := hrel
      obtain ⟨qx, Ax, nx, cx, kx, vx⟩ := BX.out
      obtain ⟨qy, Ay, ny, cy, ky, vy⟩ := BY.out
      have Xx := hid kx
      have Xy := hid ky
      have x := hid vx
      have y := hid vy
      clear BX BY kx ky vx vy
      by_cases hy : Y = 0
      · have hc : (cm Y 0 == 0) = true := by rw [hy]; rfl
        have hc2 : (cm Y 0 != 0) = false := by rw [hy]; rfl
        have HY := hid hy
        clear hy
        obtain ⟨k4, l4, f4, g4⟩ := id Xy.out.bx
        go_wp2_with fail
        refine (rsign_any _ _ Y N (y.out.arg SY.out)).mono ?_
        rintro e W5 ⟨rfl, hb5⟩
        clear k4 l4 f4 g4
        have HB := hid (bw_step HB.out hb5)
        have R0 := hid (R0.out.below hb5)
        have Xx := hid (Xx.out.below hb5)
        have x := hid (x.out.below hb5)
        have Xy := hid (Xy.out.below hb5)
        have y := hid (y.out.below hb5)
        clear hb5
        obtain ⟨k6, l6, f6, g6⟩ := id Xx.out.bx
        obtain ⟨k7, l7, f7, g7⟩ := id R0.out.bx
        have F := hid (fin_any HB.out (g := w.heap.size + 1 + 1) (by omega) k7 l7 x.out (.bool qx) (.slice Ax nx cx))
        have hX : ((Int.gcd a b : Nat) : Int) = X := by rw [← HGC.out, HY.out]; exact gcd_zero' X0.out
        have HX := hid hX
        clear hX
        go_wp2
        refine bodyPost_ret (v := .agg #[.bool qx, .slice Ax nx cx]) (by simp [results, Try.results41, go_sem, k7, l7]) rfl ⟨⟨_, rfl, ?_⟩, F.out.2⟩
        rw [HX.out]; exact F.out.1
      · have hc : (cm Y 0 == 0) = false := by
          rw [beq_eq_false_iff_ne]; rcases cm_form Y 0 with ⟨h, e⟩ | ⟨h, e⟩ | ⟨h, e⟩ <;> omega
        have hc2 : (cm Y 0 != 0) = true := by
          rw [bne_iff_ne]; rcases cm_form Y 0 with ⟨h, e⟩ | ⟨h, e⟩ | ⟨h, e⟩ <;> omega
        have HY := hid hy
        clear hy
        obtain ⟨k8, l8, f8, g8⟩ := id Xy.out.bx
        go_wp2_with fail
        refine (rsign_any _ _ Y N (y.out.arg SY.out)).mono ?_
        rintro e W9 ⟨rfl, hb9⟩
        clear k8 l8 f8 g8
        have HB := hid (bw_step HB.out hb9)
        have R0 := hid (R0.out.below hb9)
        have Xx := hid (Xx.out.below hb9)
        have x := hid (x.out.below hb9)
        have Xy := hid (Xy.out.below hb9)
        have y := hid (y.out.below hb9)
        clear hb9
        go_wp2_with fail
        have SR : Hid (Sm N (X % Y)) := hid (SY.out.rem HY.out)
        refine wp_region_each (by kernel_rfl) 6 19 rfl rfl (by kernel_rfl)
          [Fact.eq (.agg #[.bool qy, .slice Ay ny cy]), Fact.eq (.agg #[.bool qx, .slice Ax nx cx]), Fact.eq (.agg #[.bool qy, .slice Ay ny cy]), Fact.int (X % Y), Fact.top _, Fact.top _]
          [.val, .val, .val, .val, .fillOld 0, .fillOld 1]
          (fun w' => Blk w' (w.heap.size + 1 + 1) 24 #[.bool false, .slice none 0 0] ∧ IntV w' (.agg #[.bool qx, .slice Ax nx cx]) (X) ∧ IntV w' (.agg #[.bool qy, .slice Ay ny cy]) (Y) ∧ Below w.heap.size w w')
          (fun l b w' => match l with
            | 0 => if b = true then BoxI w' (G3_4) Y else Blk w' (G3_4) 24 #[.bool qx, .slice Ax nx cx]
            | 1 => if b = true then BoxI w' (G3_5) (X % Y) else Blk w' (G3_5) 24 #[.bool qy, .slice Ay ny cy]
            | _ => True)
          [4, 5] (fun l => match l with | 0 => G3_4 | 1 => G3_5 | _ => 0) (by kernel_rfl)
          ⟨R0.out, x.out, y.out, HB.out⟩
          (fun w1 w2 ⟨h0, h1, h2, h3⟩ hb => ⟨h0.below hb, h1.below hb, h2.below hb, bw_step h3 hb⟩)
          (fun w1 w2 g ⟨h0, h1, h2, h3⟩ hg hn ho => by
            have hg' : W9.heap.size ≤ g ∨ g = G3_4 ∨ g = G3_5 := by
              rcases hg with h | ⟨l, hl, h⟩
              · exact .inl h
              · rcases l with _ | l
                · exact .inr (.inl h)
                · rcases l with _ | l
                  · exact .inr (.inr h)
                  · exact absurd hl (by simp)
            exact ⟨h0.only ho (by have := R0.out.lt; have := Xx.out.lt; have := Xy.out.lt; omega), h1.only hn ho, h2.only hn ho, below_only h3 ho (by have := R0.out.lt; have := Xx.out.lt; have := Xy.out.lt; have := HB.out.size; omega)⟩)
          (fun l hl => by
              rcases l with _ | l
              · exact Xx.out
              rcases l with _ | l
              · exact Xy.out
              · exact absurd hl (by simp))
          (fun l b w1 w2 hl h hb => by
              rcases l with _ | l
              · (cases b <;> exact h.below hb)
              rcases l with _ | l
              · (cases b <;> exact h.below hb)
              · exact absurd hl (by simp))
          (fun l b w1 w2 g hl h hg hn ho => by
              rcases l with _ | l
              · (cases b; (exact h.only ho (Ne.symm hg)); (exact h.only (Ne.symm hg) hn ho))
              rcases l with _ | l
              · (cases b; (exact h.only ho (Ne.symm hg)); (exact h.only (Ne.symm hg) hn ho))
              · exact absurd hl (by simp))
          (fun l hl => by
              rcases l with _ | l
              · exact Xx.out.lt
              rcases l with _ | l
              · exact Xy.out.lt
              · exact absurd hl (by simp))
          (fun l k hl hk hne => by
            have hh : G3_4 ≠ G3_5 := by omega
            have h1 : l = 0 ∨ l = 1 := by simp at hl; omega
            have h2 : k = 0 ∨ k = 1 := by simp at hk; omega
            rcases h1 with rfl | rfl <;> rcases h2 with rfl | rfl
            · exact absurd rfl hne
            · exact hh
            · exact Ne.symm hh
            · exact absurd rfl hne)
          ?_ ?_
        · refine ⟨?_, ?_, ?_, ?_, ?_, ?_, trivial⟩ <;> intro L V a1 w1 hf hG hsz hφ hψ hL hdep hcl
          · obtain ⟨R0_, x_, y_, HB_⟩ := hG
            have e6 := old_slot hf 6 (by kernel_rfl)
            have hb0 := hψ 1 (by decide)
            rw [show [4, 5].getD 1 0 = 5 from rfl, not_yet hcl 5 0 hL (by kernel_rfl)] at hb0
            exact ob_load_int rfl e6 hb0 rfl
          · obtain ⟨R0_, x_, y_, HB_⟩ := hG
            have e5 := old_slot hf 5 (by kernel_rfl)
            have hb0 := hψ 0 (by decide)
            rw [show [4, 5].getD 0 0 = 4 from rfl, not_yet hcl 4 1 hL (by kernel_rfl)] at hb0
            exact ob_load_int rfl e5 hb0 rfl
          · obtain ⟨R0_, x_, y_, HB_⟩ := hG
            have e6 := old_slot hf 6 (by kernel_rfl)
            have hb0 := hψ 1 (by decide)
            rw [show [4, 5].getD 1 0 = 5 from rfl, not_yet hcl 5 2 hL (by kernel_rfl)] at hb0
            exact ob_load_int rfl e6 hb0 rfl
          · obtain ⟨R0_, x_, y_, HB_⟩ := hG
            have d1 := dep_of hdep 1 (by kernel_rfl)
            have e15 := (new_slot hf 1 15 d1 (by kernel_rfl)).trans (show V 1 = .agg #[.bool qx, .slice Ax nx cx] from hφ 1 d1)
            have d2 := dep_of hdep 2 (by kernel_rfl)
            have e16 := (new_slot hf 2 16 d2 (by kernel_rfl)).trans (show V 2 = .agg #[.bool qy, .slice Ay ny cy] from hφ 2 d2)
            refine ob_go rfl (vs := #[.agg #[.bool qx, .slice Ax nx cx], .agg #[.bool qy, .slice Ay ny cy]]) (by simp only [List.map_toArray, List.map_cons, List.map_nil, e15, e16]) (by kernel_rfl) (rrem_any _ _ _ X Y N hN (x_.arg SX.out) (y_.arg SY.out) HY.out) ?_
            rintro e w2 ⟨⟨v, rfl, hv⟩, hb⟩
            exact ⟨v, rfl, hb, hv⟩
          · obtain ⟨R0_, x_, y_, HB_⟩ := hG
            have d0 := dep_of hdep 0 (by kernel_rfl)
            have e14 := (new_slot hf 0 14 d0 (by kernel_rfl)).trans (show V 0 = .agg #[.bool qy, .slice Ay ny cy] from hφ 0 d0)
            have e5 := old_slot hf 5 (by kernel_rfl)
            have hb0 := hψ 0 (by decide)
            rw [show [4, 5].getD 0 0 = 4 from rfl, hL] at hb0
            exact ob_fillOld_int rfl e5 e14 hb0 y_ (fun w2 h => h) rfl
          · obtain ⟨R0_, x_, y_, HB_⟩ := hG
            have d3 := dep_of hdep 3 (by kernel_rfl)
            have e17 := new_slot hf 3 17 d3 (by kernel_rfl)
            have p17 : IntV w1 (V 3) (X % Y) := hφ 3 d3
            have e6 := old_slot hf 6 (by kernel_rfl)
            have hb0 := hψ 1 (by decide)
            rw [show [4, 5].getD 1 0 = 5 from rfl, hL] at hb0
            exact ob_fillOld_int rfl e6 e17 hb0 p17 (fun w2 h => h) rfl
        · intro V W10 hG hsz10 hφ hψ hne
          have hlt10 : W9.heap.size ≤ W10.heap.size := hsz10
          obtain ⟨R0_, x_, y_, HB_⟩ := hG
          have R0 := hid R0_
          have x := hid x_
          have y := hid y_
          have HB := hid HB_
          have y0 : V 0 = .agg #[.bool qy, .slice Ay ny cy] := hφ 0 (by decide)
          have y1 : V 1 = .agg #[.bool qx, .slice Ax nx cx] := hφ 1 (by decide)
          have y2 : V 2 = .agg #[.bool qy, .slice Ay ny cy] := hφ 2 (by decide)
          obtain ⟨q1050, A1050, n1050, c1050, kb1050, vb1050⟩ := hψ 0 (by decide)
          have Xx := hid kb1050
          have VXx := hid vb1050
          clear kb1050 vb1050
          obtain ⟨q1051, A1051, n1051, c1051, kb1051, vb1051⟩ := hψ 1 (by decide)
          have Xy := hid kb1051
          have VXy := hid vb1051
          clear kb1051 vb1051
          simp only [puts, Act.put, List.setIfInBounds_toArray, List.set_cons_zero, List.set_cons_succ, y0, y1, y2]
          clear hφ hψ hne y0 y1 y2 R0_ x_ y_ HB_ hsz10
          go_wp2
          go_roundg (X % Y).toNat
          case measure =>
            have h1 := HG.out
            have h2 := Y0.out
            have h3 := HY.out
            have h4 := Int.emod_nonneg X h3
            have h5 := Int.emod_lt_of_pos X (show 0 < Y by omega)
            omega
          case rel => exact ⟨Y, X % Y, Y0, hid (Int.emod_nonneg X HY.out), hid rfl, hid (by rw [gcd_emod X0.out Y0.out]; exact HGC.out), SY, SR, ⟨_, _, _, _, Xx.out, VXx.out⟩, ⟨_, _, _, _, Xy.out, VXy.out⟩, R0.out, HB.out⟩
end Go.Proofs.Ytdbgalohppfkfaa
