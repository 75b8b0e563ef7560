/- A part of the proof of the laws of rationals: Pow. -/
import Derived.Test.YtklamiajcdkmnaaPam
import Derived.Test.YtklamiajcdkmnaaPab
import Derived.Test.YtklamiajcdkmnaaPal
import Derived.Test.YtklamiajcdkmnaaPbb
import Derived.Test.YtklamiajcdkmnaaPac
import Derived.Test.YtklamiajcdkmnaaPba
import Derived.Test.YtklamiajcdkmnaaPai
import Derived.Test.YtklamiajcdkmnaaPkRationalPowersa
import Derived.Test.YtklamiajcdkmnaaPaa
import Derived.Test.YtklamiajcdkmnaaPbd
import Derived.Test.YtklamiajcdkmnaaPar
import Derived.Test.YtklamiajcdkmnaaPbe
import Derived.Test.YtklamiajcdkmnaaPkRationalPowerse
import Derived.Test.YtklamiajcdkmnaaPak
import Derived.Test.YtklamiajcdkmnaaPad
import Derived.Test.YtklamiajcdkmnaaPae
namespace Go.Proofs.Ytklamiajcdkmnaa
open Go.RowKit
set_option linter.unusedVariables false
set_option maxRecDepth 100000

theorem Sm.pow {N : Nat} {a : Int} (h : Sm N a) (e : Nat) : Sm (N * e + 1) (a ^ e) := by
  induction e with
  | zero => rw [Int.pow_zero]; exact (Sm.one (n := 1) (by decide) (by decide)).to (by omega)
  | succ e ih =>
    rw [Int.pow_succ]
    refine (ih.times h (Nat.le_refl _)).to ?_
    rw [Nat.mul_succ]; omega
theorem Sm.pow64 {N : Nat} {a : Int} (h : Sm N a) (e : Nat) (he : e ≤ 64) : Sm (64 * N + 1) (a ^ e) := by
  refine (h.pow e).to ?_
  have := Nat.mul_le_mul_left N he
  omega

set_option maxHeartbeats 8000000 in
theorem pow_in (w : World) (v : Value) (a : Int) (N : Nat) (hN : N ≤ 10000) (k : Nat) (hk : k ≤ 64) (ha : IntA w v a N) :
    Calls Try.prog 42 #[v, .int .i64 (k : Int)] w fun e w' => (∃ u, e = .returned (.tuple #[u, .bool true]) ∧ IntV w' u (a ^ k)) ∧ Below w.heap.size w w' := by
  obtain ⟨na, As, sn, cs, rfl⟩ := ha.form
  have FA0 := hid ha
  have FA := hid ha
  have HS := hid (fun e he => ha.sm.pow64 e he)
  have h2 : ¬ (k : Int) < 0 := by omega
  have h3 : ¬ (64 : Int) < (k : Int) := by omega
  clear ha
  have HB := hid (Below.refl w.heap.size w)
  obtain ⟨W, hW⟩ : ∃ W, W = ((w.alloc (.cells #[.bool na, .slice As sn cs] 24)).alloc (.cells #[.bool false, .slice none 0 0] 24)) := ⟨_, rfl⟩
  have hbb : Below w.heap.size w W := by rw [hW]; exact (bw_alloc (bw_alloc (Below.refl _ _) _) _)
  have HB := hid (bw_step HB.out hbb)
  have FA := hid (FA.out.below hbb)
  have P0 : Hid (Blk W (w.heap.size) 24 #[.bool na, .slice As sn cs]) := by
    rw [hW]
    have := (Blk.new w 24 #[.bool na, .slice As sn cs]).below (bw_alloc (Below.refl _ _) (.cells #[.bool false, .slice none 0 0] 24))
    exact hid (by simpa only [World.size_alloc] using this)
  have R0 : Hid (Blk W (w.heap.size + 1) 24 #[.bool false, .slice none 0 0]) := by
    rw [hW]
    have := Blk.new (w.alloc (.cells #[.bool na, .slice As sn cs] 24)) 24 #[.bool false, .slice none 0 0]
    exact hid (by simpa only [World.size_alloc] using this)
  clear hbb
  go_enter Try.func42, Try.ntmps42
  go_wp2_with fail
  rw [← hW]
  clear hW
  have lt0_P0 := P0.out.lt
  have lt0_R0 := R0.out.lt
  refine wp_region_each (by kernel_rfl) 7 34 rfl rfl (by kernel_rfl)
    [Fact.int 1, Fact.eq (.agg #[.bool na, .slice As sn cs]), Fact.int a, Fact.box 1, Fact.box a, Fact.top _, Fact.top _]
    [.val, .val, .val, .alloc 5, .alloc 6, .fill 3, .fill 4]
    (fun w' => IntA w' (.agg #[.bool na, .slice As sn cs]) (a) N ∧ Blk w' (w.heap.size) 24 #[.bool na, .slice As sn cs] ∧ Blk w' (w.heap.size + 1) 24 #[.bool false, .slice none 0 0] ∧ Below w.heap.size w w')
    (fun _ _ _ => True) [] (fun _ => 0) (by kernel_rfl)
    ⟨FA.out, P0.out, R0.out, HB.out⟩
    (fun w1 w2 ⟨h0, h1, h2, h3⟩ hb => ⟨h0.below hb, h1.below hb, h2.below hb, bw_step h3 hb⟩)
    (fun w1 w2 g ⟨h0, h1, h2, h3⟩ hg hn ho => by
      have hg' : W.heap.size ≤ g := hg.elim id (fun ⟨_, h, _⟩ => absurd h (Nat.not_lt_zero _))
      exact ⟨h0.only hn ho, h1.only ho (by have := P0.out.lt; have := R0.out.lt; omega), h2.only ho (by have := P0.out.lt; have := R0.out.lt; omega), below_only h3 ho (by have := P0.out.lt; have := R0.out.lt; have := HB.out.size; omega)⟩)
    (fun l h => trivial) (fun l b w1 w2 h _ _ => trivial) (fun l b w1 w2 g h _ _ _ _ => trivial) (fun l h => by cases h) (fun l k h => by cases h) ?_ ?_
  · refine ⟨?_, ?_, ?_, ?_, ?_, ?_, ?_, trivial⟩ <;> intro L V a1 w1 hf hG hsz hφ hψ hL hdep hcl
    · obtain ⟨FA_, P0_, R0_, HB_⟩ := hG
      refine ob_go rfl (vs := #[.int .i64 1]) (by simp only [List.map_toArray, List.map_cons, List.map_nil, ev_const]) (by kernel_rfl) (small_any _ 1 (by decide) (by decide)) ?_
      rintro e w2 ⟨⟨v, rfl, hv⟩, hb⟩
      exact ⟨v, rfl, hb, hv⟩
    · obtain ⟨FA_, P0_, R0_, HB_⟩ := hG
      have e2 := old_slot hf 2 (by kernel_rfl)
      exact ob_load_int rfl e2 P0_ rfl
    · obtain ⟨FA_, P0_, R0_, HB_⟩ := hG
      have d1 := dep_of hdep 1 (by kernel_rfl)
      have e16 := (new_slot hf 1 16 d1 (by kernel_rfl)).trans (show V 1 = .agg #[.bool na, .slice As sn cs] from hφ 1 d1)
      refine ob_go rfl (vs := #[.agg #[.bool na, .slice As sn cs]]) (by simp only [List.map_toArray, List.map_cons, List.map_nil, e16]) (by kernel_rfl) (normalize_any _ _ a N FA_) ?_
      rintro e w2 ⟨⟨v, rfl, hv, _⟩, hb⟩
      exact ⟨v, rfl, hb, hv⟩
    · obtain ⟨FA_, P0_, R0_, HB_⟩ := hG
      exact ob_alloc_int rfl hsz rfl
    · obtain ⟨FA_, P0_, R0_, HB_⟩ := hG
      exact ob_alloc_int rfl hsz rfl
    · obtain ⟨FA_, P0_, R0_, HB_⟩ := hG
      have d0 := dep_of hdep 0 (by kernel_rfl)
      have e15 := new_slot hf 0 15 d0 (by kernel_rfl)
      have p15 : IntV w1 (V 0) 1 := hφ 0 d0
      have d3 := dep_of hdep 3 (by kernel_rfl)
      obtain ⟨g, h1, h2, h3⟩ := hφ 3 d3
      exact ob_fill_int rfl ((new_slot hf 3 6 d3 (by kernel_rfl)).trans h1) e15 h1 h2 h3 p15 rfl rfl
    · obtain ⟨FA_, P0_, R0_, HB_⟩ := hG
      have d2 := dep_of hdep 2 (by kernel_rfl)
      have e17 := new_slot hf 2 17 d2 (by kernel_rfl)
      have p17 : IntV w1 (V 2) a := hφ 2 d2
      have d4 := dep_of hdep 4 (by kernel_rfl)
      obtain ⟨g, h1, h2, h3⟩ := hφ 4 d4
      exact ob_fill_int rfl ((new_slot hf 4 7 d4 (by kernel_rfl)).trans h1) e17 h1 h2 h3 p17 rfl rfl
  · intro V W1 hG hsz1 hφ hψ hne
    have hlt1 : W.heap.size ≤ W1.heap.size := hsz1
    obtain ⟨FA_, P0_, R0_, HB_⟩ := hG
    have FA := hid FA_
    have P0 := hid P0_
    have R0 := hid R0_
    have HB := hid HB_
    have y1 : V 1 = .agg #[.bool na, .slice As sn cs] := hφ 1 (by decide)
    obtain ⟨G1_3, y3, gb103, q103, A103, n103, c103, kb103, vb103⟩ := hφ 3 (by decide)
    have Xou := hid kb103
    have ou := hid vb103
    clear kb103 vb103
    obtain ⟨G1_4, y4, gb104, q104, A104, n104, c104, kb104, vb104⟩ := hφ 4 (by decide)
    have Xsq := hid kb104
    have sq := hid vb104
    clear kb104 vb104
    have ne1_3_4 : G1_3 ≠ G1_4 := fun e => hne 3 4 (by decide) rfl rfl (by rw [y3, y4, e])
    simp only [puts, Act.put, List.setIfInBounds_toArray, List.set_cons_zero, List.set_cons_succ, y1, y3, y4, ptr]
    clear hφ hψ hne y1 y3 y4 FA_ P0_ R0_ HB_ hsz1
    go_wp2
    go_loopw [1] (fun v wr => ∃ n e1 e2 : Nat, v = .int .i64 (n : Int) ∧ n ≤ 64 ∧ Hid (e1 + e2 * n = k) ∧ Hid (e2 ≤ 64) ∧ Hid (BoxI wr G1_3 (a ^ e1)) ∧ Hid (BoxI wr G1_4 (a ^ e2)) ∧ Hid (Blk wr (w.heap.size + 1) 24 #[.bool false, .slice none 0 0]) ∧ Hid (Below w.heap.size w wr)) (fun v _ => (intOf v).toNat)
    case atStart => exact ⟨k, 0, 1, rfl, hk, hid (by omega), hid (by omega), ⟨_, _, _, _, Xou.out, by rw [Int.pow_zero]; exact ou.out⟩, ⟨_, _, _, _, Xsq.out, by rw [Int.pow_succ, Int.pow_zero, Int.one_mul]; exact sq.out⟩, R0.out, HB.out⟩
    case round =>
      clear FA P0 R0 HB Xou Xsq ou sq
      obtain ⟨n, e1, e2, rfl, hn, HE, H2, BX, BY, R0, HB⟩ := hrel
      obtain ⟨qx, Ax, nx, cx, kx, vx⟩ := BX.out
      obtain ⟨qy, Ay, ny, cy, ky, vy⟩ := BY.out
      have Xou := hid kx
      have Xsq := hid ky
      have ou := hid vx
      have sq := hid vy
      clear BX BY kx ky vx vy
      rcases (show n = 0 ∨ n = 1 ∨ (2 ≤ n ∧ n % 2 = 1) ∨ (2 ≤ n ∧ n % 2 = 0) by omega) with h | h | h | h
      · subst h
        have hd : decide ((0 : Int) < ((0 : Nat) : Int)) = false := rfl
        have HK := hid (show e1 = k by have := HE.out; omega)
        obtain ⟨k2, l2, f2, g2⟩ := id R0.out.bx
        obtain ⟨k3, l3, f3, g3⟩ := id Xou.out.bx
        have F := hid (fin_any HB.out (g := w.heap.size + 1) (by omega) k2 l2 ou.out (.bool qx) (.slice Ax nx cx))
        go_wp2
        refine bodyPost_ret (v := .tuple #[.agg #[.bool qx, .slice Ax nx cx], .bool true]) (by simp [results, Try.results42, go_sem, k2, l2]) rfl ⟨⟨_, rfl, ?_⟩, F.out.2⟩
        rw [← HK.out]; exact F.out.1
      · subst h
        have ha1 : (((1 : Nat) : Int) % 2 == 1) = true := rfl
        have ha2 : decide ((1 : Int) < ((1 : Nat) : Int)) = false := rfl
        have he1 : e1 ≤ 64 := by have := HE.out; omega
        have Se1 := hid (HS.out e1 he1)
        have Se2 := hid (HS.out e2 H2.out)
        clear he1
        have HM := hid (show e1 + e2 ≤ 64 by have := HE.out; omega)
        obtain ⟨k4, l4, f4, g4⟩ := id Xou.out.bx
        obtain ⟨k5, l5, f5, g5⟩ := id Xsq.out.bx
        go_wp2_with fail
        refine (mul_any _ _ _ (a ^ e1) (a ^ e2) (64 * N + 1) (64 * N + 1) (ou.out.arg Se1.out) (sq.out.arg Se2.out) (by omega) (by omega)).mono ?_
        rintro e W6 ⟨⟨v, rfl, hv⟩, hb6⟩
        clear k4 l4 f4 g4 k5 l5 f5 g5
        have HB := hid (bw_step HB.out hb6)
        have R0 := hid (R0.out.below hb6)
        have Xou := hid (Xou.out.below hb6)
        have ou := hid (ou.out.below hb6)
        have Xsq := hid (Xsq.out.below hb6)
        have sq := hid (sq.out.below hb6)
        clear hb6
        obtain ⟨q61, A61, n61, c61, rfl⟩ := hv.form
        rw [← Int.pow_add] at hv
        have ou := hid hv
        clear hv
        obtain ⟨k7, l7, f7, g7⟩ := id Xou.out.bx
        have hnf := Xou.out.numFree (noNum_int _ _ _ _)
        have hon := only_two W6 (G1_3) (.bool q61) (.slice A61 n61 c61)
        have R0 := hid (R0.out.only hon (by have := R0.out.lt; have := Xou.out.lt; have := Xsq.out.lt; omega))
        have Xou := hid (blk_fill (q := q61) (A := A61) (n := n61) (c := c61) Xou.out)
        have ou := hid (ou.out.only hnf hon)
        have Xsq := hid (Xsq.out.only hon (by have := R0.out.lt; have := Xou.out.lt; have := Xsq.out.lt; omega))
        have sq := hid (sq.out.only hnf hon)
        have HB := hid (below_only HB.out hon (by have := R0.out.lt; have := Xou.out.lt; have := Xsq.out.lt; have := HB.out.size; omega))
        clear hnf hon
        go_wp2
        go_roundw
        case measure => simp [intOf]
        case rel =>
          (repeat apply Exists.intro)
          refine ⟨?_, rfl⟩
          refine ⟨0, e1 + e2, e2, by first | rfl | go_num, by omega, hid ?_, H2, ⟨_, _, _, _, Xou.out, ou.out⟩, ⟨_, _, _, _, Xsq.out, sq.out⟩, R0, HB⟩
          exact (by have := HE.out; omega)
      · obtain ⟨h1, h4⟩ := h
        have ha1 : ((n : Int) % 2 == 1) = true := by rw [beq_iff_eq]; omega
        have hp : (0 : Int) < (n : Int) := by omega
        have hp2 : (1 : Int) < (n : Int) := by omega
        have he1 : e1 ≤ 64 := by have := HE.out; omega
        have Se1 := hid (HS.out e1 he1)
        have Se2 := hid (HS.out e2 H2.out)
        clear he1 h4
        have HM := hid (show e1 + e2 ≤ 64 ∧ e2 + e2 ≤ 64 by
          have h5 := HE.out
          have h6 := Nat.mul_le_mul_left e2 h1
          omega)
        obtain ⟨k8, l8, f8, g8⟩ := id Xou.out.bx
        obtain ⟨k9, l9, f9, g9⟩ := id Xsq.out.bx
        go_wp2_with fail
        refine (mul_any _ _ _ (a ^ e1) (a ^ e2) (64 * N + 1) (64 * N + 1) (ou.out.arg Se1.out) (sq.out.arg Se2.out) (by omega) (by omega)).mono ?_
        rintro e W10 ⟨⟨v, rfl, hv⟩, hb10⟩
        clear k8 l8 f8 g8 k9 l9 f9 g9
        have HB := hid (bw_step HB.out hb10)
        have R0 := hid (R0.out.below hb10)
        have Xou := hid (Xou.out.below hb10)
        have ou := hid (ou.out.below hb10)
        have Xsq := hid (Xsq.out.below hb10)
        have sq := hid (sq.out.below hb10)
        clear hb10
        obtain ⟨q101, A101, n101, c101, rfl⟩ := hv.form
        rw [← Int.pow_add] at hv
        have ou := hid hv
        clear hv
        obtain ⟨k11, l11, f11, g11⟩ := id Xou.out.bx
        have hnf := Xou.out.numFree (noNum_int _ _ _ _)
        have hon := only_two W10 (G1_3) (.bool q101) (.slice A101 n101 c101)
        have R0 := hid (R0.out.only hon (by have := R0.out.lt; have := Xou.out.lt; have := Xsq.out.lt; omega))
        have Xou := hid (blk_fill (q := q101) (A := A101) (n := n101) (c := c101) Xou.out)
        have ou := hid (ou.out.only hnf hon)
        have Xsq := hid (Xsq.out.only hon (by have := R0.out.lt; have := Xou.out.lt; have := Xsq.out.lt; omega))
        have sq := hid (sq.out.only hnf hon)
        have HB := hid (below_only HB.out hon (by have := R0.out.lt; have := Xou.out.lt; have := Xsq.out.lt; have := HB.out.size; omega))
        clear hnf hon
        obtain ⟨k12, l12, f12, g12⟩ := id Xsq.out.bx
        go_wp2_with fail
        refine (mul_any _ _ _ (a ^ e2) (a ^ e2) (64 * N + 1) (64 * N + 1) (sq.out.arg Se2.out) (sq.out.arg Se2.out) (by omega) (by omega)).mono ?_
        rintro e W13 ⟨⟨v, rfl, hv⟩, hb13⟩
        clear k11 l11 f11 g11 k12 l12 f12 g12
        have HB := hid (bw_step HB.out hb13)
        have R0 := hid (R0.out.below hb13)
        have Xou := hid (Xou.out.below hb13)
        have ou := hid (ou.out.below hb13)
        have Xsq := hid (Xsq.out.below hb13)
        have sq := hid (sq.out.below hb13)
        clear hb13
        obtain ⟨q131, A131, n131, c131, rfl⟩ := hv.form
        rw [← Int.pow_add] at hv
        have sq := hid hv
        clear hv
        obtain ⟨k14, l14, f14, g14⟩ := id Xsq.out.bx
        have hnf := Xsq.out.numFree (noNum_int _ _ _ _)
        have hon := only_two W13 (G1_4) (.bool q131) (.slice A131 n131 c131)
        have R0 := hid (R0.out.only hon (by have := R0.out.lt; have := Xou.out.lt; have := Xsq.out.lt; omega))
        have Xou := hid (Xou.out.only hon (by have := R0.out.lt; have := Xou.out.lt; have := Xsq.out.lt; omega))
        have ou := hid (ou.out.only hnf hon)
        have Xsq := hid (blk_fill (q := q131) (A := A131) (n := n131) (c := c131) Xsq.out)
        have sq := hid (sq.out.only hnf hon)
        have HB := hid (below_only HB.out hon (by have := R0.out.lt; have := Xou.out.lt; have := Xsq.out.lt; have := HB.out.size; omega))
        clear hnf hon
        go_wp2
        go_roundw
        case measure => simp [intOf]; omega
        case rel =>
          (repeat apply Exists.intro)
          refine ⟨?_, rfl⟩
          refine ⟨n / 2, e1 + e2, e2 + e2, by first | rfl | go_num, by omega, hid ?_, hid HM.out.2, ⟨_, _, _, _, Xou.out, ou.out⟩, ⟨_, _, _, _, Xsq.out, sq.out⟩, R0, HB⟩
          exact (by
              have h5 := HE.out
              rw [show n = 2 * (n / 2) + 1 by rw [beq_iff_eq] at ha1; omega, Nat.mul_add, Nat.mul_one, ← Nat.mul_assoc] at h5
              rw [Nat.add_mul, ← Nat.two_mul, ← Nat.mul_assoc, Nat.mul_comm 2 e2] at *
              omega)
      · obtain ⟨h1, h4⟩ := h
        have ha1 : ((n : Int) % 2 == 1) = false := by rw [beq_eq_false_iff_ne]; omega
        have hp : (0 : Int) < (n : Int) := by omega
        have hp2 : (1 : Int) < (n : Int) := by omega
        have he1 : e1 ≤ 64 := by have := HE.out; omega
        have Se1 := hid (HS.out e1 he1)
        have Se2 := hid (HS.out e2 H2.out)
        clear he1 h4
        have HM := hid (show e1 + e2 ≤ 64 ∧ e2 + e2 ≤ 64 by
          have h5 := HE.out
          have h6 := Nat.mul_le_mul_left e2 h1
          omega)
        obtain ⟨k15, l15, f15, g15⟩ := id Xsq.out.bx
        go_wp2_with fail
        refine (mul_any _ _ _ (a ^ e2) (a ^ e2) (64 * N + 1) (64 * N + 1) (sq.out.arg Se2.out) (sq.out.arg Se2.out) (by omega) (by omega)).mono ?_
        rintro e W16 ⟨⟨v, rfl, hv⟩, hb16⟩
        clear k15 l15 f15 g15
        have HB := hid (bw_step HB.out hb16)
        have R0 := hid (R0.out.below hb16)
        have Xou := hid (Xou.out.below hb16)
        have ou := hid (ou.out.below hb16)
        have Xsq := hid (Xsq.out.below hb16)
        have sq := hid (sq.out.below hb16)
        clear hb16
        obtain ⟨q161, A161, n161, c161, rfl⟩ := hv.form
        rw [← Int.pow_add] at hv
        have sq := hid hv
        clear hv
        obtain ⟨k17, l17, f17, g17⟩ := id Xsq.out.bx
        have hnf := Xsq.out.numFree (noNum_int _ _ _ _)
        have hon := only_two W16 (G1_4) (.bool q161) (.slice A161 n161 c161)
        have R0 := hid (R0.out.only hon (by have := R0.out.lt; have := Xou.out.lt; have := Xsq.out.lt; omega))
        have Xou := hid (Xou.out.only hon (by have := R0.out.lt; have := Xou.out.lt; have := Xsq.out.lt; omega))
        have ou := hid (ou.out.only hnf hon)
        have Xsq := hid (blk_fill (q := q161) (A := A161) (n := n161) (c := c161) Xsq.out)
        have sq := hid (sq.out.only hnf hon)
        have HB := hid (below_only HB.out hon (by have := R0.out.lt; have := Xou.out.lt; have := Xsq.out.lt; have := HB.out.size; omega))
        clear hnf hon
        go_wp2
        go_roundw
        case measure => simp [intOf]; omega
        case rel =>
          (repeat apply Exists.intro)
          refine ⟨?_, rfl⟩
          refine ⟨n / 2, e1, e2 + e2, by first | rfl | go_num, by omega, hid ?_, hid HM.out.2, ⟨_, _, _, _, Xou.out, ou.out⟩, ⟨_, _, _, _, Xsq.out, sq.out⟩, R0, HB⟩
          exact (by
              have h5 := HE.out
              rw [show n = 2 * (n / 2) by rw [beq_eq_false_iff_ne] at ha1; omega, ← Nat.mul_assoc] at h5
              rw [Nat.add_mul, ← Nat.two_mul, ← Nat.mul_assoc, Nat.mul_comm 2 e2] at *
              omega)
set_option maxHeartbeats 8000000 in
theorem rpow_in (w : World) (v : Value) (a : Int) (N : Nat) (hN : N ≤ 10000) (k : Nat) (hk : k ≤ 64) (ha : IntA w v a N) :
    Calls Try.prog 45 #[v, .int .i64 (k : Int)] w fun e w' => (∃ u, e = .returned (.tuple #[u, .bool true]) ∧ IntV w' u (a ^ k)) ∧ Below w.heap.size w w' := by
  obtain ⟨na, As, sn, cs, rfl⟩ := ha.form
  have FA0 := hid ha
  have FA := hid ha
  have HS := hid (fun e he => ha.sm.pow64 e he)
  have h2 : ¬ (k : Int) < 0 := by omega
  have h3 : ¬ (64 : Int) < (k : Int) := by omega
  clear ha
  have HB := hid (Below.refl w.heap.size w)
  obtain ⟨W, hW⟩ : ∃ W, W = ((w.alloc (.cells #[.bool na, .slice As sn cs] 24)).alloc (.cells #[.bool false, .slice none 0 0] 24)) := ⟨_, rfl⟩
  have hbb : Below w.heap.size w W := by rw [hW]; exact (bw_alloc (bw_alloc (Below.refl _ _) _) _)
  have HB := hid (bw_step HB.out hbb)
  have FA := hid (FA.out.below hbb)
  have P0 : Hid (Blk W (w.heap.size) 24 #[.bool na, .slice As sn cs]) := by
    rw [hW]
    have := (Blk.new w 24 #[.bool na, .slice As sn cs]).below (bw_alloc (Below.refl _ _) (.cells #[.bool false, .slice none 0 0] 24))
    exact hid (by simpa only [World.size_alloc] using this)
  have R0 : Hid (Blk W (w.heap.size + 1) 24 #[.bool false, .slice none 0 0]) := by
    rw [hW]
    have := Blk.new (w.alloc (.cells #[.bool na, .slice As sn cs] 24)) 24 #[.bool false, .slice none 0 0]
    exact hid (by simpa only [World.size_alloc] using this)
  clear hbb
  go_enter Try.func45, Try.ntmps45
  go_wp2_with fail
  rw [← hW]
  clear hW
  refine (rsmall_any _ 1 (by decide) (by decide)).mono ?_
  rintro e W1 ⟨⟨v, rfl, hv⟩, hb1⟩
  have HB := hid (bw_step HB.out hb1)
  have FA := hid (FA.out.below hb1)
  have P0 := hid (P0.out.below hb1)
  have R0 := hid (R0.out.below hb1)
  clear hb1
  obtain ⟨q11, A11, n11, c11, rfl⟩ := hv.form
  have x := hid hv
  clear hv
  have ltP0 := P0.out.lt
  have ltR0 := R0.out.lt
  have hbb := bw_alloc (Below.refl _ W1) (.cells #[.bool q11, .slice A11 n11 c11] 24)
  have Xx := Blk.new W1 24 #[.bool q11, .slice A11 n11 c11]
  have HB := hid (bw_step HB.out hbb)
  have FA := hid (FA.out.below hbb)
  have P0 := hid (P0.out.below hbb)
  have R0 := hid (R0.out.below hbb)
  have x := hid (x.out.below hbb)
  have Xx := hid Xx
  clear hbb
  go_wp2
  go_loopw [7] (fun v wr => ∃ j : Nat, v = .int .i64 (j : Int) ∧ j ≤ k ∧ Hid (BoxI wr W1.heap.size (a ^ j)) ∧ Hid (Blk wr w.heap.size 24 #[.bool na, .slice As sn cs]) ∧ Hid (Blk wr (w.heap.size + 1) 24 #[.bool false, .slice none 0 0]) ∧ Hid (Below w.heap.size w wr)) (fun v _ => k - (intOf v).toNat)
  case atStart => exact ⟨0, rfl, by omega, ⟨_, _, _, _, Xx.out, by rw [Int.pow_zero]; exact x.out⟩, P0.out, R0.out, HB.out⟩
  case round =>
    clear FA P0 R0 HB Xx x
    obtain ⟨j, rfl, hj, BX, P0, R0, HB⟩ := hrel
    have FA := hid (FA0.out.below HB.out)
    obtain ⟨qx, Ax, nx, cx, kx, vx⟩ := BX.out
    have Xx := hid kx
    have x := hid vx
    clear BX kx vx
    by_cases hlt : j < k
    · have Sj := hid (HS.out j (by omega))
      obtain ⟨k2, l2, f2, g2⟩ := id Xx.out.bx
      obtain ⟨k3, l3, f3, g3⟩ := id P0.out.bx
      go_wp2_with fail
      refine (rmul_any _ _ _ (a ^ j) a (64 * N + 1) N (x.out.arg Sj.out) FA.out (by omega) (by omega)).mono ?_
      rintro e W4 ⟨⟨v, rfl, hv⟩, hb4⟩
      clear k2 l2 f2 g2 k3 l3 f3 g3
      have HB := hid (bw_step HB.out hb4)
      have FA := hid (FA.out.below hb4)
      have P0 := hid (P0.out.below hb4)
      have R0 := hid (R0.out.below hb4)
      have x := hid (x.out.below hb4)
      have Xx := hid (Xx.out.below hb4)
      clear hb4
      obtain ⟨q41, A41, n41, c41, rfl⟩ := hv.form
      rw [← Int.pow_succ] at hv
      have x := hid hv
      clear hv
      obtain ⟨k5, l5, f5, g5⟩ := id Xx.out.bx
      have hnf := Xx.out.numFree (noNum_int _ _ _ _)
      have hon := only_two W4 (W1.heap.size) (.bool q41) (.slice A41 n41 c41)
      have FA := hid (FA.out.only hnf hon)
      have P0 := hid (P0.out.only hon (by have := P0.out.lt; have := R0.out.lt; have := Xx.out.lt; omega))
      have R0 := hid (R0.out.only hon (by have := P0.out.lt; have := R0.out.lt; have := Xx.out.lt; omega))
      have x := hid (x.out.only hnf hon)
      have Xx := hid (blk_fill (q := q41) (A := A41) (n := n41) (c := c41) Xx.out)
      have HB := hid (below_only HB.out hon (by have := P0.out.lt; have := R0.out.lt; have := Xx.out.lt; have := HB.out.size; omega))
      clear hnf hon
      go_wp2
      go_roundw
      case measure => simp [intOf]; omega
      case rel =>
        first
          | exact ⟨j + 1, by go_num, by omega, ⟨_, _, _, _, Xx.out, x.out⟩, P0, R0, HB⟩
          | ((repeat apply Exists.intro); refine ⟨?_, rfl⟩; exact ⟨j + 1, by go_num, by omega, ⟨_, _, _, _, Xx.out, x.out⟩, P0, R0, HB⟩)
    · have HK := hid (show j = k by omega)
      obtain ⟨k6, l6, f6, g6⟩ := id R0.out.bx
      obtain ⟨k7, l7, f7, g7⟩ := id Xx.out.bx
      have F := hid (fin_any HB.out (g := w.heap.size + 1) (by omega) k6 l6 x.out (.bool qx) (.slice Ax nx cx))
      go_wp2
      refine bodyPost_ret (v := .tuple #[.agg #[.bool qx, .slice Ax nx cx], .bool true]) (by simp [results, Try.results45, go_sem, k6, l6]) rfl ⟨⟨_, rfl, ?_⟩, F.out.2⟩
      rw [← HK.out]; exact F.out.1
end Go.Proofs.Ytklamiajcdkmnaa

