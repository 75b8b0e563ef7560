/- A part of the proof of the laws of rationals: PowR, RPowR. -/
import Derived.Test.YtklamiajcdkmnaaPae
import Derived.Test.YtklamiajcdkmnaaPam
import Derived.Test.YtklamiajcdkmnaaPbh
import Derived.Test.YtklamiajcdkmnaaPal
import Derived.Test.YtklamiajcdkmnaaPab
import Derived.Test.YtklamiajcdkmnaaPad
import Derived.Test.YtklamiajcdkmnaaPbb
import Derived.Test.YtklamiajcdkmnaaPac
import Derived.Test.YtklamiajcdkmnaaPao
import Derived.Test.YtklamiajcdkmnaaPat
import Derived.Test.YtklamiajcdkmnaaPba
import Derived.Test.YtklamiajcdkmnaaPaa
import Derived.Test.YtklamiajcdkmnaaPai
import Derived.Test.YtklamiajcdkmnaaPkRationalPowersa
import Derived.Test.YtklamiajcdkmnaaPkRationalPowersh
import Derived.Test.YtklamiajcdkmnaaPas
import Derived.Test.YtklamiajcdkmnaaPbf
import Derived.Test.YtklamiajcdkmnaaPbe
import Derived.Test.YtklamiajcdkmnaaPbg
import Derived.Test.YtklamiajcdkmnaaPbd
import Derived.Test.YtklamiajcdkmnaaPbj
import Derived.Test.YtklamiajcdkmnaaPau
import Derived.Test.YtklamiajcdkmnaaPbi
import Derived.Test.YtklamiajcdkmnaaPar
import Derived.Test.YtklamiajcdkmnaaPkRationalPowerse
import Derived.Test.YtklamiajcdkmnaaPaw
import Derived.Test.YtklamiajcdkmnaaPbk
import Derived.Test.YtklamiajcdkmnaaPkRationalPowersd
import Derived.Test.YtklamiajcdkmnaaPap
import Derived.Test.YtklamiajcdkmnaaPav
import Derived.Test.YtklamiajcdkmnaaPan
import Derived.Test.YtklamiajcdkmnaaPbc
import Derived.Test.YtklamiajcdkmnaaPkRationalPowersc
import Derived.Test.YtklamiajcdkmnaaPkRationalPowersb
import Derived.Test.YtklamiajcdkmnaaPak
import Derived.Test.YtklamiajcdkmnaaPbl
import Derived.Test.YtklamiajcdkmnaaPkRationalPowersf
namespace Go.Proofs.Ytklamiajcdkmnaa
open Go.RowKit
set_option linter.unusedVariables false
set_option maxRecDepth 100000

theorem max_int (p q : Int) (w : World) (ts : Array TypeId) (t : TypeId) : (Builtin.max_ ts t #[.int .i64 p, .int .i64 q]).run Try.prog w = .ok (.int .i64 (max p q)) w := by
  simp only [Builtin.max_, Builtin.max2, List.foldlM_cons, List.foldlM_nil, gt_iff_lt]
  by_cases h : p < q
  · rw [Int.max_eq_right (by omega)]; simp [h, go_sem]
  · rw [Int.max_eq_left (by omega)]; simp [h, go_sem]
theorem Sm.powr {n : Nat} {a : Int} (h : Sm n a) : ∀ k : Nat, Sm (n * k + 1) (a ^ k)
  | 0 => by rw [Int.pow_zero]; exact (Sm.one (n := 1) (by decide) (by decide)).to (by omega)
  | k + 1 => by rw [Int.pow_succ, Nat.mul_succ]; exact (Sm.powr h k).times h (by omega)
theorem pow_divInt (a b : Int) : ∀ k : Nat, Rat.divInt (a ^ k) (b ^ k) = (Rat.divInt a b) ^ k
  | 0 => by rw [Int.pow_zero, Int.pow_zero, Rat.pow_zero]; exact Rat.divInt_self' (by decide)
  | k + 1 => by rw [Int.pow_succ, Int.pow_succ, Rat.pow_succ, ← Rat.divInt_mul_divInt, pow_divInt a b k]
/-- The inverse, as the reference writes it. -/
def inv1 (x : Rat) : Rat := ((1 : Int) : Rat) / x
theorem inv1_of (p q : Int) : Rat.divInt (ofD p q) (ofN p q) = inv1 (Rat.divInt p q) := by
  unfold inv1
  rw [Rat.div_def, ← of_val p q, Rat.inv_divInt]
  exact (Rat.one_mul _).symm
theorem wrap_i64' {x : Int} (h0 : -9223372036854775808 ≤ x) (h1 : x < 9223372036854775808) : IntKind.i64.wrap x = x := by rw [IntKind.wrap_i64]; omega
theorem pow_ne {a : Int} (h : a ≠ 0) : ∀ k : Nat, a ^ k ≠ 0
  | 0 => by rw [Int.pow_zero]; decide
  | k + 1 => by rw [Int.pow_succ]; exact Int.mul_ne_zero (pow_ne h k) h
theorem zero_pow' {k : Nat} (h : 0 < k) : (0 : Int) ^ k = 0 := by
  obtain ⟨e, rfl⟩ : ∃ e, k = e + 1 := ⟨k - 1, by omega⟩
  rw [Int.pow_succ, Int.mul_zero]
set_option maxHeartbeats 4000000 in
theorem powR_out (w : World) (va : Value) (x : Rat) (n : Nat) (ha : RatA w va x n) (h1n : 1 ≤ n) (hn : n ≤ 4000) (m : Int) (hr : m < -64 ∨ 64 < m) :
    Calls Try.prog 20 #[va, .int .i64 m] w fun e w' => (∃ u, e = .returned u ∧ PairB w' u (.V 0) (.V 0) false) ∧ Below w.heap.size w w' := by
  obtain ⟨pa, qa, ha, rfl⟩ := ha
  obtain ⟨sa1, Aa1, na1, ca1, sa2, Aa2, na2, ca2, rfl, h1, h2⟩ := ha.form
  have Fa1 : Hid (IntA w (.agg #[.bool sa1, .slice Aa1 na1 ca1]) pa n) := hid h1
  have Fa2 : Hid (IntA w (.agg #[.bool sa2, .slice Aa2 na2 ca2]) qa n) := hid h2
  have Sa1 := hid Fa1.out.sm
  have Sa2 := hid Fa2.out.sm
  clear h1 h2 ha
  have HB := hid (Below.refl w.heap.size w)
  obtain ⟨W, hW⟩ : ∃ W, W = ((w.alloc (.cells #[.bool sa1, .slice Aa1 na1 ca1, .bool sa2, .slice Aa2 na2 ca2] 26)).alloc (.cells #[.bool false, .slice none 0 0, .bool false, .slice none 0 0] 26)) := ⟨_, rfl⟩
  have hbb : Below w.heap.size w W := by rw [hW]; exact (bw_alloc (bw_alloc (Below.refl _ _) _) _)
  have HB := hid (bw_step HB.out hbb)
  have Fa1 := hid (Fa1.out.below hbb)
  have Fa2 := hid (Fa2.out.below hbb)
  have Pa : Hid (Blk W (w.heap.size) 26 #[.bool sa1, .slice Aa1 na1 ca1, .bool sa2, .slice Aa2 na2 ca2]) := by
    rw [hW]
    have := (Blk.new w 26 #[.bool sa1, .slice Aa1 na1 ca1, .bool sa2, .slice Aa2 na2 ca2]).below (bw_alloc (Below.refl _ _) (.cells #[.bool false, .slice none 0 0, .bool false, .slice none 0 0] 26))
    exact hid (by simpa only [World.size_alloc] using this)
  have R0 : Hid (Blk W (w.heap.size + 1) 26 #[.bool false, .slice none 0 0, .bool false, .slice none 0 0]) := by
    rw [hW]
    have := Blk.new (w.alloc (.cells #[.bool sa1, .slice Aa1 na1 ca1, .bool sa2, .slice Aa2 na2 ca2] 26)) 26 #[.bool false, .slice none 0 0, .bool false, .slice none 0 0]
    exact hid (by simpa only [World.size_alloc] using this)
  clear hbb
  have hr := hid hr
  rcases hr.out with h | h
  · have d1 : decide (m < (-64 : Int)) = true := by rw [decide_eq_true_eq]; exact h
    have c1 : m < -64 := h
    clear h
    go_enter Try.func20, Try.ntmps20
    go_wp2_with (with_reducible refine halt_at 17 rfl ?_)
    rw [← hW]
    clear hW
    unfold Halted
    refine wp_list_each (by kernel_rfl) 3 49 rfl rfl (by kernel_rfl)
      [Fact.eq (.agg #[.bool false, .slice none 0 0, .bool false, .slice none 0 0]), Fact.top _, Fact.eq (.bool false)]
      [.val, .fillOld 0, .val]
      (fun w' => IntA w' (.agg #[.bool sa1, .slice Aa1 na1 ca1]) (pa) n ∧ IntA w' (.agg #[.bool sa2, .slice Aa2 na2 ca2]) (qa) n ∧ Blk w' (w.heap.size) 26 #[.bool sa1, .slice Aa1 na1 ca1, .bool sa2, .slice Aa2 na2 ca2] ∧ Below w.heap.size w w')
      (fun l b w' => match l with
        | 0 => if b = true then BoxR w' (w.heap.size + 1) 26 (.V 0) (.V 0) else Blk w' (w.heap.size + 1) 26 #[.bool false, .slice none 0 0, .bool false, .slice none 0 0]
        | _ => True)
      [1] (fun l => match l with | 0 => w.heap.size + 1 | _ => 0) (by kernel_rfl)
      ⟨Fa1.out, Fa2.out, Pa.out, HB.out⟩
      (fun w1 w2 ⟨h0, h1, h2, h3⟩ hb => ⟨h0.below hb, h1.below hb, h2.below hb, bw_step h3 hb⟩)
      (fun w1 w2 g ⟨h0, h1, h2, h3⟩ hg hn ho => by
        have hg' : W.heap.size ≤ g ∨ g = w.heap.size + 1 := by
          rcases hg with h | ⟨l, hl, h⟩
          · exact .inl h
          · rcases l with _ | l
            · exact .inr h
            · exact absurd hl (by simp)
        exact ⟨h0.only hn ho, h1.only hn ho, h2.only ho (by have := Pa.out.lt; have := R0.out.lt; omega), below_only h3 ho (by have := Pa.out.lt; have := R0.out.lt; have := HB.out.size; omega)⟩)
      (fun l hl => by
          rcases l with _ | l
          · exact R0.out
          · exact absurd hl (by simp))
      (fun l b w1 w2 hl h hb => by
          rcases l with _ | l
          · (cases b <;> exact h.below hb)
          · exact absurd hl (by simp))
      (fun l b w1 w2 g hl h hg hn ho => by
          rcases l with _ | l
          · (cases b; (exact h.only ho (Ne.symm hg)); (exact h.only (Ne.symm hg) hn ho))
          · exact absurd hl (by simp))
      (fun l hl => by
          rcases l with _ | l
          · exact R0.out.lt
          · exact absurd hl (by simp))
      (fun l k hl hk hne => by rcases l with _ | l <;> rcases k with _ | k <;> simp at hl hk hne)
      ?_ ?_
    · refine ⟨?_, ?_, ?_, trivial⟩ <;> intro L V a1 w1 hf hG hsz hφ hψ hL hdep hcl
      · obtain ⟨Fa1_, Fa2_, Pa_, HB_⟩ := hG
        exact ob_pure (ex_zeroR rfl) rfl
      · obtain ⟨Fa1_, Fa2_, Pa_, HB_⟩ := hG
        have d0 := dep_of hdep 0 (by kernel_rfl)
        have e17 := (new_slot hf 0 17 d0 (by kernel_rfl)).trans (show V 0 = .agg #[.bool false, .slice none 0 0, .bool false, .slice none 0 0] from hφ 0 d0)
        have e4 := old_slot hf 4 (by kernel_rfl)
        have hb0 := hψ 0 (by decide)
        rw [show [1].getD 0 0 = 1 from rfl, hL] at hb0
        exact ob_fillOldR rfl e4 e17 hb0 (Pair.mk (a := .V 0) (b := .V 0) (IntV.zero _) (IntV.zero _)) (fun w2 h => h) rfl
      · obtain ⟨Fa1_, Fa2_, Pa_, HB_⟩ := hG
        exact ob_pure (v := .bool false) (ex_assignV rfl rfl) rfl
    · intro V W1 hG hsz1 hφ hψ hne
      have hlt1 : W.heap.size ≤ W1.heap.size := hsz1
      obtain ⟨Fa1_, Fa2_, Pa_, HB_⟩ := hG
      have Fa1 := hid Fa1_
      have Fa2 := hid Fa2_
      have Pa := hid Pa_
      have HB := hid HB_
      have y0 : V 0 = .agg #[.bool false, .slice none 0 0, .bool false, .slice none 0 0] := hφ 0 (by decide)
      have y2 : V 2 = .bool false := hφ 2 (by decide)
      obtain ⟨q1501, A1501, n1501, c1501, q1502, A1502, n1502, c1502, kb150, va150, vb150⟩ := hψ 0 (by decide)
      have R0 := hid kb150
      have R01 : Hid (IntV W1 (.agg #[.bool q1501, .slice A1501 n1501 c1501]) 0) := hid va150
      have R02 : Hid (IntV W1 (.agg #[.bool q1502, .slice A1502 n1502 c1502]) 0) := hid vb150
      clear kb150 va150 vb150
      simp only [puts, Act.put, List.setIfInBounds_toArray, List.set_cons_zero, List.set_cons_succ, y0, y2]
      clear hφ hψ hne y0 y2 Fa1_ Fa2_ Pa_ HB_ hsz1
      have k0 := R0.out.cell 0
      have k1 := R0.out.cell 1
      have k2 := R0.out.cell 2
      have k3 := R0.out.cell 3
      go_wp2
      refine bodyPost_ret (v := .tuple #[.agg #[.bool q1501, .slice A1501 n1501 c1501, .bool q1502, .slice A1502 n1502 c1502], .bool false]) (by simp [results, Try.results20, go_sem, k0, k1, k2, k3]) rfl ⟨⟨_, rfl, _, rfl, ?_⟩, HB.out⟩
      exact Pair.mk (a := .V 0) (b := .V 0) R01.out R02.out
  · have d1 : decide (m < (-64 : Int)) = false := by rw [decide_eq_false_iff_not]; omega
    have c1 : ¬ m < -64 := by omega
    have d2 : decide ((64 : Int) < m) = true := by rw [decide_eq_true_eq]; exact h
    have c2 : 64 < m := h
    clear h
    go_enter Try.func20, Try.ntmps20
    go_wp2_with (with_reducible refine halt_at 17 rfl ?_)
    rw [← hW]
    clear hW
    unfold Halted
    refine wp_list_each (by kernel_rfl) 3 49 rfl rfl (by kernel_rfl)
      [Fact.eq (.agg #[.bool false, .slice none 0 0, .bool false, .slice none 0 0]), Fact.top _, Fact.eq (.bool false)]
      [.val, .fillOld 0, .val]
      (fun w' => IntA w' (.agg #[.bool sa1, .slice Aa1 na1 ca1]) (pa) n ∧ IntA w' (.agg #[.bool sa2, .slice Aa2 na2 ca2]) (qa) n ∧ Blk w' (w.heap.size) 26 #[.bool sa1, .slice Aa1 na1 ca1, .bool sa2, .slice Aa2 na2 ca2] ∧ Below w.heap.size w w')
      (fun l b w' => match l with
        | 0 => if b = true then BoxR w' (w.heap.size + 1) 26 (.V 0) (.V 0) else Blk w' (w.heap.size + 1) 26 #[.bool false, .slice none 0 0, .bool false, .slice none 0 0]
        | _ => True)
      [1] (fun l => match l with | 0 => w.heap.size + 1 | _ => 0) (by kernel_rfl)
      ⟨Fa1.out, Fa2.out, Pa.out, HB.out⟩
      (fun w1 w2 ⟨h0, h1, h2, h3⟩ hb => ⟨h0.below hb, h1.below hb, h2.below hb, bw_step h3 hb⟩)
      (fun w1 w2 g ⟨h0, h1, h2, h3⟩ hg hn ho => by
        have hg' : W.heap.size ≤ g ∨ g = w.heap.size + 1 := by
          rcases hg with h | ⟨l, hl, h⟩
          · exact .inl h
          · rcases l with _ | l
            · exact .inr h
            · exact absurd hl (by simp)
        exact ⟨h0.only hn ho, h1.only hn ho, h2.only ho (by have := Pa.out.lt; have := R0.out.lt; omega), below_only h3 ho (by have := Pa.out.lt; have := R0.out.lt; have := HB.out.size; omega)⟩)
      (fun l hl => by
          rcases l with _ | l
          · exact R0.out
          · exact absurd hl (by simp))
      (fun l b w1 w2 hl h hb => by
          rcases l with _ | l
          · (cases b <;> exact h.below hb)
          · exact absurd hl (by simp))
      (fun l b w1 w2 g hl h hg hn ho => by
          rcases l with _ | l
          · (cases b; (exact h.only ho (Ne.symm hg)); (exact h.only (Ne.symm hg) hn ho))
          · exact absurd hl (by simp))
      (fun l hl => by
          rcases l with _ | l
          · exact R0.out.lt
          · exact absurd hl (by simp))
      (fun l k hl hk hne => by rcases l with _ | l <;> rcases k with _ | k <;> simp at hl hk hne)
      ?_ ?_
    · refine ⟨?_, ?_, ?_, trivial⟩ <;> intro L V a1 w1 hf hG hsz hφ hψ hL hdep hcl
      · obtain ⟨Fa1_, Fa2_, Pa_, HB_⟩ := hG
        exact ob_pure (ex_zeroR rfl) rfl
      · obtain ⟨Fa1_, Fa2_, Pa_, HB_⟩ := hG
        have d0 := dep_of hdep 0 (by kernel_rfl)
        have e17 := (new_slot hf 0 17 d0 (by kernel_rfl)).trans (show V 0 = .agg #[.bool false, .slice none 0 0, .bool false, .slice none 0 0] from hφ 0 d0)
        have e4 := old_slot hf 4 (by kernel_rfl)
        have hb0 := hψ 0 (by decide)
        rw [show [1].getD 0 0 = 1 from rfl, hL] at hb0
        exact ob_fillOldR rfl e4 e17 hb0 (Pair.mk (a := .V 0) (b := .V 0) (IntV.zero _) (IntV.zero _)) (fun w2 h => h) rfl
      · obtain ⟨Fa1_, Fa2_, Pa_, HB_⟩ := hG
        exact ob_pure (v := .bool false) (ex_assignV rfl rfl) rfl
    · intro V W1 hG hsz1 hφ hψ hne
      have hlt1 : W.heap.size ≤ W1.heap.size := hsz1
      obtain ⟨Fa1_, Fa2_, Pa_, HB_⟩ := hG
      have Fa1 := hid Fa1_
      have Fa2 := hid Fa2_
      have Pa := hid Pa_
      have HB := hid HB_
      have y0 : V 0 = .agg #[.bool false, .slice none 0 0, .bool false, .slice none 0 0] := hφ 0 (by decide)
      have y2 : V 2 = .bool false := hφ 2 (by decide)
      obtain ⟨q1501, A1501, n1501, c1501, q1502, A1502, n1502, c1502, kb150, va150, vb150⟩ := hψ 0 (by decide)
      have R0 := hid kb150
      have R01 : Hid (IntV W1 (.agg #[.bool q1501, .slice A1501 n1501 c1501]) 0) := hid va150
      have R02 : Hid (IntV W1 (.agg #[.bool q1502, .slice A1502 n1502 c1502]) 0) := hid vb150
      clear kb150 va150 vb150
      simp only [puts, Act.put, List.setIfInBounds_toArray, List.set_cons_zero, List.set_cons_succ, y0, y2]
      clear hφ hψ hne y0 y2 Fa1_ Fa2_ Pa_ HB_ hsz1
      have k0 := R0.out.cell 0
      have k1 := R0.out.cell 1
      have k2 := R0.out.cell 2
      have k3 := R0.out.cell 3
      go_wp2
      refine bodyPost_ret (v := .tuple #[.agg #[.bool q1501, .slice A1501 n1501 c1501, .bool q1502, .slice A1502 n1502 c1502], .bool false]) (by simp [results, Try.results20, go_sem, k0, k1, k2, k3]) rfl ⟨⟨_, rfl, _, rfl, ?_⟩, HB.out⟩
      exact Pair.mk (a := .V 0) (b := .V 0) R01.out R02.out
set_option maxHeartbeats 8000000 in
theorem powR_pos (w : World) (va : Value) (x : Rat) (n : Nat) (ha : RatA w va x n) (h1n : 1 ≤ n) (hn : n ≤ 4000) (k : Nat) (hk : k ≤ 64) :
    Calls Try.prog 20 #[va, .int .i64 (k : Int)] w fun e w' => (∃ u, e = .returned u ∧ PairB w' u (.V (x ^ k).num) (.V ((x ^ k).den : Int)) true) ∧ Below w.heap.size w w' := by
  obtain ⟨pa, qa, ha, rfl⟩ := ha
  obtain ⟨sa1, Aa1, na1, ca1, sa2, Aa2, na2, ca2, rfl, h1, h2⟩ := ha.form
  have Fa1 : Hid (IntA w (.agg #[.bool sa1, .slice Aa1 na1 ca1]) pa n) := hid h1
  have Fa2 : Hid (IntA w (.agg #[.bool sa2, .slice Aa2 na2 ca2]) qa n) := hid h2
  have Sa1 := hid Fa1.out.sm
  have Sa2 := hid Fa2.out.sm
  clear h1 h2 ha
  have HB := hid (Below.refl w.heap.size w)
  obtain ⟨W, hW⟩ : ∃ W, W = ((w.alloc (.cells #[.bool sa1, .slice Aa1 na1 ca1, .bool sa2, .slice Aa2 na2 ca2] 26)).alloc (.cells #[.bool false, .slice none 0 0, .bool false, .slice none 0 0] 26)) := ⟨_, rfl⟩
  have hbb : Below w.heap.size w W := by rw [hW]; exact (bw_alloc (bw_alloc (Below.refl _ _) _) _)
  have HB := hid (bw_step HB.out hbb)
  have Fa1 := hid (Fa1.out.below hbb)
  have Fa2 := hid (Fa2.out.below hbb)
  have Pa : Hid (Blk W (w.heap.size) 26 #[.bool sa1, .slice Aa1 na1 ca1, .bool sa2, .slice Aa2 na2 ca2]) := by
    rw [hW]
    have := (Blk.new w 26 #[.bool sa1, .slice Aa1 na1 ca1, .bool sa2, .slice Aa2 na2 ca2]).below (bw_alloc (Below.refl _ _) (.cells #[.bool false, .slice none 0 0, .bool false, .slice none 0 0] 26))
    exact hid (by simpa only [World.size_alloc] using this)
  have R0 : Hid (Blk W (w.heap.size + 1) 26 #[.bool false, .slice none 0 0, .bool false, .slice none 0 0]) := by
    rw [hW]
    have := Blk.new (w.alloc (.cells #[.bool sa1, .slice Aa1 na1 ca1, .bool sa2, .slice Aa2 na2 ca2] 26)) 26 #[.bool false, .slice none 0 0, .bool false, .slice none 0 0]
    exact hid (by simpa only [World.size_alloc] using this)
  clear hbb
  have SO := hid (of_sm Sa1.out Sa2.out h1n)
  have HK := hid hk
  have hki : (k : Int) ≤ 64 := by omega
  have hk0 : (0 : Int) ≤ (k : Int) := by omega
  clear hk
  have d1 : decide ((k : Int) < (-64 : Int)) = false := by rw [decide_eq_false_iff_not]; omega
  have c1 : ¬ (k : Int) < -64 := by omega
  have d2 : decide ((64 : Int) < (k : Int)) = false := by rw [decide_eq_false_iff_not]; omega
  have c2 : ¬ 64 < (k : Int) := by omega
  have d3 : decide ((k : Int) < (0 : Int)) = false := by rw [decide_eq_false_iff_not]; omega
  have c3 : ¬ (k : Int) < 0 := by omega
  have hw : IntKind.i64.wrap (-(k : Int)) = -(k : Int) := wrap_i64' (by omega) (by omega)
  have hmx := max_int (k : Int) (-(k : Int))
  rw [show max (k : Int) (-(k : Int)) = (k : Int) by omega] at hmx
  go_enter Try.func20, Try.ntmps20
  go_wp2_with (with_reducible refine halt_at 18 rfl ?_)
  rw [← hW]
  clear hW
  have SO1 := hid (of_sm (Sa1.out) (Sa2.out) (show 1 ≤ n by omega))
  have lt1_Pa := Pa.out.lt
  have lt1_R0 := R0.out.lt
  unfold Halted
  refine wp_list_each (by kernel_rfl) 4 49 rfl rfl (by kernel_rfl)
    [Fact.eq (.agg #[.bool sa1, .slice Aa1 na1 ca1, .bool sa2, .slice Aa2 na2 ca2]), Fact.pair (.A (ofN pa qa) n) (.A (ofD pa qa) n), Fact.boxR 50 Fne (.A (ofN pa qa) n) (.A (ofD pa qa) n), Fact.top _]
    [.val, .val, .alloc 3, .fill 2]
    (fun w' => IntA w' (.agg #[.bool sa1, .slice Aa1 na1 ca1]) (pa) n ∧ IntA w' (.agg #[.bool sa2, .slice Aa2 na2 ca2]) (qa) n ∧ Blk w' (w.heap.size) 26 #[.bool sa1, .slice Aa1 na1 ca1, .bool sa2, .slice Aa2 na2 ca2] ∧ Blk w' (w.heap.size + 1) 26 #[.bool false, .slice none 0 0, .bool false, .slice none 0 0] ∧ Below w.heap.size w w')
    (fun _ _ _ => True) [] (fun _ => 0) (by kernel_rfl)
    ⟨Fa1.out, Fa2.out, Pa.out, R0.out, HB.out⟩
    (fun w1 w2 ⟨h0, h1, h2, h3, h4⟩ hb => ⟨h0.below hb, h1.below hb, h2.below hb, h3.below hb, bw_step h4 hb⟩)
    (fun w1 w2 g ⟨h0, h1, h2, h3, h4⟩ hg hn ho => by
      have hg' : W.heap.size ≤ g := hg.elim id (fun ⟨_, h, _⟩ => absurd h (Nat.not_lt_zero _))
      exact ⟨h0.only hn ho, h1.only hn ho, h2.only ho (by have := Pa.out.lt; have := R0.out.lt; omega), h3.only ho (by have := Pa.out.lt; have := R0.out.lt; omega), below_only h4 ho (by have := Pa.out.lt; have := R0.out.lt; have := HB.out.size; omega)⟩)
    (fun l h => trivial) (fun l b w1 w2 h _ _ => trivial) (fun l b w1 w2 g h _ _ _ _ => trivial) (fun l h => by cases h) (fun l k h => by cases h) ?_ ?_
  · refine ⟨?_, ?_, ?_, ?_, trivial⟩ <;> intro L V a1 w1 hf hG hsz hφ hψ hL hdep hcl
    · obtain ⟨Fa1_, Fa2_, Pa_, R0_, HB_⟩ := hG
      have e2 := old_slot hf 2 (by kernel_rfl)
      exact ob_pure (ex_loadR rfl e2 Pa_) rfl
    · obtain ⟨Fa1_, Fa2_, Pa_, R0_, HB_⟩ := hG
      have d0 := dep_of hdep 0 (by kernel_rfl)
      have e18 := (new_slot hf 0 18 d0 (by kernel_rfl)).trans (show V 0 = .agg #[.bool sa1, .slice Aa1 na1 ca1, .bool sa2, .slice Aa2 na2 ca2] from hφ 0 d0)
      refine ob_go rfl (vs := #[.agg #[.bool sa1, .slice Aa1 na1 ca1, .bool sa2, .slice Aa2 na2 ca2]]) (by simp only [List.map_toArray, List.map_cons, List.map_nil, e18]) (by kernel_rfl) (of_any _ _ pa qa n (Pair.mk (a := .A pa n) (b := .A qa n) Fa1_ Fa2_) (by omega) (by omega)) ?_
      rintro e w2 ⟨⟨v, rfl, hv⟩, hb⟩
      exact ⟨v, rfl, hb, hv⟩
    · obtain ⟨Fa1_, Fa2_, Pa_, R0_, HB_⟩ := hG
      exact ob_allocF rfl hsz rfl
    · obtain ⟨Fa1_, Fa2_, Pa_, R0_, HB_⟩ := hG
      have d1 := dep_of hdep 1 (by kernel_rfl)
      have e19 := new_slot hf 1 19 d1 (by kernel_rfl)
      have p19 : Pair w1 (V 1) (.A (ofN pa qa) n) (.A (ofD pa qa) n) := hφ 1 d1
      have d2 := dep_of hdep 2 (by kernel_rfl)
      obtain ⟨g, h1, h2, h3, _⟩ := hφ 2 d2
      have hz := h3 (show (true && L 3) = false from by have h : L 3 = false := hL; rw [h]; rfl)
      exact ob_fillF rfl ((new_slot hf 2 6 d2 (by kernel_rfl)).trans h1) e19 h1 h2 hz p19 rfl rfl
  · intro V W2 hG hsz2 hφ hψ hne
    have hlt2 : W.heap.size ≤ W2.heap.size := hsz2
    obtain ⟨Fa1_, Fa2_, Pa_, R0_, HB_⟩ := hG
    have Fa1 := hid Fa1_
    have Fa2 := hid Fa2_
    have Pa := hid Pa_
    have R0 := hid R0_
    have HB := hid HB_
    have y0 : V 0 = .agg #[.bool sa1, .slice Aa1 na1 ca1, .bool sa2, .slice Aa2 na2 ca2] := hφ 0 (by decide)
    obtain ⟨G2_2, y2, gb202, _, hb202⟩ := hφ 2 (by decide)
    obtain ⟨q2021, A2021, n2021, c2021, q2022, A2022, n2022, c2022, kb202, va202, vb202⟩ := hb202 rfl
    have Xt6_ := hid kb202
    have t6_1 : Hid (IntA W2 (.agg #[.bool q2021, .slice A2021 n2021 c2021]) (ofN pa qa) n) := hid va202
    have t6_2 : Hid (IntA W2 (.agg #[.bool q2022, .slice A2022 n2022 c2022]) (ofD pa qa) n) := hid vb202
    clear kb202 va202 vb202
    clear hb202
    simp only [puts, Act.put, List.setIfInBounds_toArray, List.set_cons_zero, List.set_cons_succ, y0, y2, ptr]
    clear hφ hψ hne y0 y2 Fa1_ Fa2_ Pa_ R0_ HB_ hsz2
    have SP : Hid (Sm (n * 64 + 1) ((ofN pa qa) ^ k)) := hid ((Sm.powr SO.out.1 k).to (by have := Nat.mul_le_mul_left n HK.out; omega))
    have SQ : Hid (Sm (n * 64 + 1) ((ofD pa qa) ^ k)) := hid ((Sm.powr SO.out.2 k).to (by have := Nat.mul_le_mul_left n HK.out; omega))
    have v0 := Xt6_.out.cell 0
    have v1 := Xt6_.out.cell 1
    have v2 := Xt6_.out.cell 2
    have v3 := Xt6_.out.cell 3
    go_wp2_with fail
    refine (pow_in _ _ (ofN pa qa) n (by omega) k HK.out t6_1.out).mono ?_
    rintro e W3 ⟨⟨v, rfl, hv⟩, hb3⟩
    have HB := hid (bw_step HB.out hb3)
    have Fa1 := hid (Fa1.out.below hb3)
    have Fa2 := hid (Fa2.out.below hb3)
    have Pa := hid (Pa.out.below hb3)
    have R0 := hid (R0.out.below hb3)
    have t6_1 := hid (t6_1.out.below hb3)
    have t6_2 := hid (t6_2.out.below hb3)
    have Xt6_ := hid (Xt6_.out.below hb3)
    clear hb3
    have lq3_Pa := Pa.out.lt
    have lq3_R0 := R0.out.lt
    have lq3_Xt6_ := Xt6_.out.lt
    have lq3 := HB.out.size
    obtain ⟨q31, A31, n31, c31, rfl⟩ := hv.form
    have P := hid hv
    clear hv
    have hbb := bw_alloc (Below.refl _ W3) (.cells #[.bool q31, .slice A31 n31 c31] 24)
    have XP := Blk.new W3 24 #[.bool q31, .slice A31 n31 c31]
    have HB := hid (bw_step HB.out hbb)
    have Fa1 := hid (Fa1.out.below hbb)
    have Fa2 := hid (Fa2.out.below hbb)
    have Pa := hid (Pa.out.below hbb)
    have R0 := hid (R0.out.below hbb)
    have t6_1 := hid (t6_1.out.below hbb)
    have t6_2 := hid (t6_2.out.below hbb)
    have Xt6_ := hid (Xt6_.out.below hbb)
    have P := hid (P.out.below hbb)
    have XP := hid XP
    clear hbb
    clear v0 v1 v2 v3
    have v0 := Xt6_.out.cell 0
    have v1 := Xt6_.out.cell 1
    have v2 := Xt6_.out.cell 2
    have v3 := Xt6_.out.cell 3
    go_wp2_with fail
    refine (pow_in _ _ (ofD pa qa) n (by omega) k HK.out t6_2.out).mono ?_
    rintro e W4 ⟨⟨v, rfl, hv⟩, hb4⟩
    have HB := hid (bw_step HB.out hb4)
    have Fa1 := hid (Fa1.out.below hb4)
    have Fa2 := hid (Fa2.out.below hb4)
    have Pa := hid (Pa.out.below hb4)
    have R0 := hid (R0.out.below hb4)
    have t6_1 := hid (t6_1.out.below hb4)
    have t6_2 := hid (t6_2.out.below hb4)
    have Xt6_ := hid (Xt6_.out.below hb4)
    have P := hid (P.out.below hb4)
    have XP := hid (XP.out.below hb4)
    clear hb4
    have lq4_Pa := Pa.out.lt
    have lq4_R0 := R0.out.lt
    have lq4_Xt6_ := Xt6_.out.lt
    have lq4_XP := XP.out.lt
    have lq4 := HB.out.size
    obtain ⟨q41, A41, n41, c41, rfl⟩ := hv.form
    have Q := hid hv
    clear hv
    have hbb := bw_alloc (Below.refl _ W4) (.cells #[.bool q41, .slice A41 n41 c41] 24)
    have XQ := Blk.new W4 24 #[.bool q41, .slice A41 n41 c41]
    have HB := hid (bw_step HB.out hbb)
    have Fa1 := hid (Fa1.out.below hbb)
    have Fa2 := hid (Fa2.out.below hbb)
    have Pa := hid (Pa.out.below hbb)
    have R0 := hid (R0.out.below hbb)
    have t6_1 := hid (t6_1.out.below hbb)
    have t6_2 := hid (t6_2.out.below hbb)
    have Xt6_ := hid (Xt6_.out.below hbb)
    have P := hid (P.out.below hbb)
    have XP := hid (XP.out.below hbb)
    have Q := hid (Q.out.below hbb)
    have XQ := hid XQ
    clear hbb
    clear v0 v1 v2 v3
    go_wp2_with (with_reducible refine halt_at 44 rfl ?_)
    clear d1 d2 d3 c1 c2 c3 hw hmx
    have RS5 : Hid (RS (n * 64 + 1) ((Rat.divInt pa qa) ^ k)) := hid (by have h := RS.of (Sm.to (n := (n * 64 + 1)) (SP.out) (by omega)) (Sm.to (n := (n * 64 + 1)) (SQ.out) (by omega)) (by omega); rw [show Rat.divInt ((ofN pa qa) ^ k) ((ofD pa qa) ^ k) = ((Rat.divInt pa qa) ^ k) from by rw [pow_divInt, of_val]] at h; exact h)
    unfold Halted
    refine wp_list_each (by kernel_rfl) 7 49 rfl rfl (by kernel_rfl)
      [Fact.eq (.agg #[.bool q31, .slice A31 n31 c31]), Fact.eq (.agg #[.bool q41, .slice A41 n41 c41]), Fact.pairB (.V (((Rat.divInt pa qa) ^ k)).num) (.V ((((Rat.divInt pa qa) ^ k)).den : Int)) true, Fact.pair (.V (((Rat.divInt pa qa) ^ k)).num) (.V ((((Rat.divInt pa qa) ^ k)).den : Int)), Fact.eq (.bool true), Fact.top _, Fact.eq (.bool true)]
      [.val, .val, .val, .val, .val, .fillOld 0, .val]
      (fun w' => IntA w' (.agg #[.bool sa1, .slice Aa1 na1 ca1]) (pa) n ∧ IntA w' (.agg #[.bool sa2, .slice Aa2 na2 ca2]) (qa) n ∧ Blk w' (w.heap.size) 26 #[.bool sa1, .slice Aa1 na1 ca1, .bool sa2, .slice Aa2 na2 ca2] ∧ IntA w' (.agg #[.bool q2021, .slice A2021 n2021 c2021]) ((ofN pa qa)) n ∧ IntA w' (.agg #[.bool q2022, .slice A2022 n2022 c2022]) ((ofD pa qa)) n ∧ Blk w' (G2_2) 50 #[.bool q2021, .slice A2021 n2021 c2021, .bool q2022, .slice A2022 n2022 c2022] ∧ IntV w' (.agg #[.bool q31, .slice A31 n31 c31]) (((ofN pa qa) ^ k)) ∧ Blk w' (W3.heap.size) 24 #[.bool q31, .slice A31 n31 c31] ∧ IntV w' (.agg #[.bool q41, .slice A41 n41 c41]) (((ofD pa qa) ^ k)) ∧ Blk w' (W4.heap.size) 24 #[.bool q41, .slice A41 n41 c41] ∧ Below w.heap.size w w')
      (fun l b w' => match l with
        | 0 => if b = true then BoxR w' (w.heap.size + 1) 26 (.V (((Rat.divInt pa qa) ^ k)).num) (.V ((((Rat.divInt pa qa) ^ k)).den : Int)) else Blk w' (w.heap.size + 1) 26 #[.bool false, .slice none 0 0, .bool false, .slice none 0 0]
        | _ => True)
      [5] (fun l => match l with | 0 => w.heap.size + 1 | _ => 0) (by kernel_rfl)
      ⟨Fa1.out, Fa2.out, Pa.out, t6_1.out, t6_2.out, Xt6_.out, P.out, XP.out, Q.out, XQ.out, HB.out⟩
      (fun w1 w2 ⟨h0, h1, h2, h3, h4, h5, h6, h7, h8, h9, h10⟩ hb => ⟨h0.below hb, h1.below hb, h2.below hb, h3.below hb, h4.below hb, h5.below hb, h6.below hb, h7.below hb, h8.below hb, h9.below hb, bw_step h10 hb⟩)
      (fun w1 w2 g ⟨h0, h1, h2, h3, h4, h5, h6, h7, h8, h9, h10⟩ hg hn ho => by
        have hg' : (W4.alloc (.cells #[.bool q41, .slice A41 n41 c41] 24)).heap.size ≤ g ∨ g = w.heap.size + 1 := by
          rcases hg with h | ⟨l, hl, h⟩
          · exact .inl h
          · rcases l with _ | l
            · exact .inr h
            · exact absurd hl (by simp)
        exact ⟨h0.only hn ho, h1.only hn ho, h2.only ho (by have := Pa.out.lt; have := R0.out.lt; have := Xt6_.out.lt; have := XP.out.lt; have := XQ.out.lt; omega), h3.only hn ho, h4.only hn ho, h5.only ho (by have := Pa.out.lt; have := R0.out.lt; have := Xt6_.out.lt; have := XP.out.lt; have := XQ.out.lt; omega), h6.only hn ho, h7.only ho (by have := Pa.out.lt; have := R0.out.lt; have := Xt6_.out.lt; have := XP.out.lt; have := XQ.out.lt; omega), h8.only hn ho, h9.only ho (by have := Pa.out.lt; have := R0.out.lt; have := Xt6_.out.lt; have := XP.out.lt; have := XQ.out.lt; omega), below_only h10 ho (by have := Pa.out.lt; have := R0.out.lt; have := Xt6_.out.lt; have := XP.out.lt; have := XQ.out.lt; have := HB.out.size; omega)⟩)
      (fun l hl => by
          rcases l with _ | l
          · exact R0.out
          · exact absurd hl (by simp))
      (fun l b w1 w2 hl h hb => by
          rcases l with _ | l
          · (cases b <;> exact h.below hb)
          · exact absurd hl (by simp))
      (fun l b w1 w2 g hl h hg hn ho => by
          rcases l with _ | l
          · (cases b; (exact h.only ho (Ne.symm hg)); (exact h.only (Ne.symm hg) hn ho))
          · exact absurd hl (by simp))
      (fun l hl => by
          rcases l with _ | l
          · exact R0.out.lt
          · exact absurd hl (by simp))
      (fun l k hl hk hne => by rcases l with _ | l <;> rcases k with _ | k <;> simp at hl hk hne)
      ?_ ?_
    · refine ⟨?_, ?_, ?_, ?_, ?_, ?_, ?_, trivial⟩ <;> intro L V a1 w1 hf hG hsz hφ hψ hL hdep hcl
      · obtain ⟨Fa1_, Fa2_, Pa_, t6_1_, t6_2_, Xt6__, P_, XP_, Q_, XQ_, HB_⟩ := hG
        have e7 := old_slot hf 7 (by kernel_rfl)
        exact ob_load_int rfl e7 XP_ rfl
      · obtain ⟨Fa1_, Fa2_, Pa_, t6_1_, t6_2_, Xt6__, P_, XP_, Q_, XQ_, HB_⟩ := hG
        have e9 := old_slot hf 9 (by kernel_rfl)
        exact ob_load_int rfl e9 XQ_ rfl
      · obtain ⟨Fa1_, Fa2_, Pa_, t6_1_, t6_2_, Xt6__, P_, XP_, Q_, XQ_, HB_⟩ := hG
        have d0 := dep_of hdep 0 (by kernel_rfl)
        have e44 := (new_slot hf 0 44 d0 (by kernel_rfl)).trans (show V 0 = .agg #[.bool q31, .slice A31 n31 c31] from hφ 0 d0)
        have d1 := dep_of hdep 1 (by kernel_rfl)
        have e45 := (new_slot hf 1 45 d1 (by kernel_rfl)).trans (show V 1 = .agg #[.bool q41, .slice A41 n41 c41] from hφ 1 d1)
        refine ob_go rfl (vs := #[.agg #[.bool q31, .slice A31 n31 c31], .agg #[.bool q41, .slice A41 n41 c41]]) (by simp only [List.map_toArray, List.map_cons, List.map_nil, e44, e45]) (by kernel_rfl) (newR_any _ _ _ ((ofN pa qa) ^ k) ((ofD pa qa) ^ k) ((Rat.divInt pa qa) ^ k) (n * 64 + 1) (IntV.arg P_ (Sm.to (SP.out) (by omega))) (IntV.arg Q_ (Sm.to (SQ.out) (by omega))) (by omega) (by omega) (pow_ne (by have := ofD_pos pa qa; omega) k) (by rw [pow_divInt, of_val])) ?_
        rintro e w2 ⟨⟨v, rfl, hv⟩, hb⟩
        exact ⟨v, rfl, hb, hv⟩
      · obtain ⟨Fa1_, Fa2_, Pa_, t6_1_, t6_2_, Xt6__, P_, XP_, Q_, XQ_, HB_⟩ := hG
        have d2 := dep_of hdep 2 (by kernel_rfl)
        have e46 := new_slot hf 2 46 d2 (by kernel_rfl)
        have p46 : PairB w1 (V 2) (.V (((Rat.divInt pa qa) ^ k)).num) (.V ((((Rat.divInt pa qa) ^ k)).den : Int)) true := hφ 2 d2
        exact ob_pairB0 rfl e46 p46 rfl
      · obtain ⟨Fa1_, Fa2_, Pa_, t6_1_, t6_2_, Xt6__, P_, XP_, Q_, XQ_, HB_⟩ := hG
        have d2 := dep_of hdep 2 (by kernel_rfl)
        have e46 := new_slot hf 2 46 d2 (by kernel_rfl)
        have p46 : PairB w1 (V 2) (.V (((Rat.divInt pa qa) ^ k)).num) (.V ((((Rat.divInt pa qa) ^ k)).den : Int)) true := hφ 2 d2
        exact ob_pairB1 rfl e46 p46 rfl
      · obtain ⟨Fa1_, Fa2_, Pa_, t6_1_, t6_2_, Xt6__, P_, XP_, Q_, XQ_, HB_⟩ := hG
        have d3 := dep_of hdep 3 (by kernel_rfl)
        have e47 := new_slot hf 3 47 d3 (by kernel_rfl)
        have p47 : Pair w1 (V 3) (.V (((Rat.divInt pa qa) ^ k)).num) (.V ((((Rat.divInt pa qa) ^ k)).den : Int)) := hφ 3 d3
        have e4 := old_slot hf 4 (by kernel_rfl)
        have hb0 := hψ 0 (by decide)
        rw [show [5].getD 0 0 = 5 from rfl, hL] at hb0
        exact ob_fillOldR rfl e4 e47 hb0 p47 (fun w2 h => h) rfl
      · obtain ⟨Fa1_, Fa2_, Pa_, t6_1_, t6_2_, Xt6__, P_, XP_, Q_, XQ_, HB_⟩ := hG
        have d4 := dep_of hdep 4 (by kernel_rfl)
        have e48 := (new_slot hf 4 48 d4 (by kernel_rfl)).trans (show V 4 = .bool true from hφ 4 d4)
        exact ob_pure (v := .bool true) (ex_assignV rfl e48) rfl
    · intro V W6 hG hsz6 hφ hψ hne
      have hlt6 : (W4.alloc (.cells #[.bool q41, .slice A41 n41 c41] 24)).heap.size ≤ W6.heap.size := hsz6
      obtain ⟨Fa1_, Fa2_, Pa_, t6_1_, t6_2_, Xt6__, P_, XP_, Q_, XQ_, HB_⟩ := hG
      have Fa1 := hid Fa1_
      have Fa2 := hid Fa2_
      have Pa := hid Pa_
      have t6_1 := hid t6_1_
      have t6_2 := hid t6_2_
      have Xt6_ := hid Xt6__
      have P := hid P_
      have XP := hid XP_
      have Q := hid Q_
      have XQ := hid XQ_
      have HB := hid HB_
      have y0 : V 0 = .agg #[.bool q31, .slice A31 n31 c31] := hφ 0 (by decide)
      have y1 : V 1 = .agg #[.bool q41, .slice A41 n41 c41] := hφ 1 (by decide)
      have y4 : V 4 = .bool true := hφ 4 (by decide)
      have y6 : V 6 = .bool true := hφ 6 (by decide)
      obtain ⟨q6501, A6501, n6501, c6501, q6502, A6502, n6502, c6502, kb650, va650, vb650⟩ := hψ 0 (by decide)
      have R0 := hid kb650
      have R01 : Hid (IntV W6 (.agg #[.bool q6501, .slice A6501 n6501 c6501]) (((Rat.divInt pa qa) ^ k)).num) := hid va650
      have R02 : Hid (IntV W6 (.agg #[.bool q6502, .slice A6502 n6502 c6502]) ((((Rat.divInt pa qa) ^ k)).den : Int)) := hid vb650
      clear kb650 va650 vb650
      simp only [puts, Act.put, List.setIfInBounds_toArray, List.set_cons_zero, List.set_cons_succ, y0, y1, y4, y6]
      clear hφ hψ hne y0 y1 y4 y6 Fa1_ Fa2_ Pa_ t6_1_ t6_2_ Xt6__ P_ XP_ Q_ XQ_ HB_ hsz6
      have k0 := R0.out.cell 0
      have k1 := R0.out.cell 1
      have k2 := R0.out.cell 2
      have k3 := R0.out.cell 3
      go_wp2
      refine bodyPost_ret (v := .tuple #[.agg #[.bool q6501, .slice A6501 n6501 c6501, .bool q6502, .slice A6502 n6502 c6502], .bool true]) (by simp [results, Try.results20, go_sem, k0, k1, k2, k3]) rfl ⟨⟨_, rfl, _, rfl, ?_⟩, HB.out⟩
      exact Pair.mk (a := .V ((Rat.divInt pa qa) ^ k).num) (b := .V (((Rat.divInt pa qa) ^ k).den : Int)) R01.out R02.out
set_option maxHeartbeats 8000000 in
theorem powR_neg (w : World) (va : Value) (x : Rat) (n : Nat) (ha : RatA w va x n) (h1n : 1 ≤ n) (hn : n ≤ 4000) (k : Nat) (hk : k ≤ 64) (hp : 0 < k) (hz : x ≠ 0) :
    Calls Try.prog 20 #[va, .int .i64 (-(k : Int))] w fun e w' => (∃ u, e = .returned u ∧ PairB w' u (.V (inv1 x ^ k).num) (.V ((inv1 x ^ k).den : Int)) true) ∧ Below w.heap.size w w' := by
  obtain ⟨pa, qa, ha, rfl⟩ := ha
  obtain ⟨sa1, Aa1, na1, ca1, sa2, Aa2, na2, ca2, rfl, h1, h2⟩ := ha.form
  have Fa1 : Hid (IntA w (.agg #[.bool sa1, .slice Aa1 na1 ca1]) pa n) := hid h1
  have Fa2 : Hid (IntA w (.agg #[.bool sa2, .slice Aa2 na2 ca2]) qa n) := hid h2
  have Sa1 := hid Fa1.out.sm
  have Sa2 := hid Fa2.out.sm
  clear h1 h2 ha
  have HB := hid (Below.refl w.heap.size w)
  obtain ⟨W, hW⟩ : ∃ W, W = ((w.alloc (.cells #[.bool sa1, .slice Aa1 na1 ca1, .bool sa2, .slice Aa2 na2 ca2] 26)).alloc (.cells #[.bool false, .slice none 0 0, .bool false, .slice none 0 0] 26)) := ⟨_, rfl⟩
  have hbb : Below w.heap.size w W := by rw [hW]; exact (bw_alloc (bw_alloc (Below.refl _ _) _) _)
  have HB := hid (bw_step HB.out hbb)
  have Fa1 := hid (Fa1.out.below hbb)
  have Fa2 := hid (Fa2.out.below hbb)
  have Pa : Hid (Blk W (w.heap.size) 26 #[.bool sa1, .slice Aa1 na1 ca1, .bool sa2, .slice Aa2 na2 ca2]) := by
    rw [hW]
    have := (Blk.new w 26 #[.bool sa1, .slice Aa1 na1 ca1, .bool sa2, .slice Aa2 na2 ca2]).below (bw_alloc (Below.refl _ _) (.cells #[.bool false, .slice none 0 0, .bool false, .slice none 0 0] 26))
    exact hid (by simpa only [World.size_alloc] using this)
  have R0 : Hid (Blk W (w.heap.size + 1) 26 #[.bool false, .slice none 0 0, .bool false, .slice none 0 0]) := by
    rw [hW]
    have := Blk.new (w.alloc (.cells #[.bool sa1, .slice Aa1 na1 ca1, .bool sa2, .slice Aa2 na2 ca2] 26)) 26 #[.bool false, .slice none 0 0, .bool false, .slice none 0 0]
    exact hid (by simpa only [World.size_alloc] using this)
  clear hbb
  have SO := hid (of_sm Sa1.out Sa2.out h1n)
  have HK := hid hk
  have hki : (k : Int) ≤ 64 := by omega
  have hkp : (0 : Int) < (k : Int) := by omega
  have HKP := hid hkp
  have HZ := hid hz
  clear hz hk hkp hp
  have d1 : decide ((-(k : Int)) < (-64 : Int)) = false := by rw [decide_eq_false_iff_not]; omega
  have c1 : ¬ (-(k : Int)) < -64 := by omega
  have d2 : decide ((64 : Int) < (-(k : Int))) = false := by rw [decide_eq_false_iff_not]; omega
  have c2 : ¬ 64 < (-(k : Int)) := by omega
  have d3 : decide ((-(k : Int)) < (0 : Int)) = true := by rw [decide_eq_true_eq]; have := HKP.out; omega
  have c3 : (-(k : Int)) < 0 := by have := HKP.out; omega
  have hw : IntKind.i64.wrap (-(-(k : Int))) = -(-(k : Int)) := wrap_i64' (by omega) (by omega)
  have hmx := max_int (-(k : Int)) (-(-(k : Int)))
  rw [show max (-(k : Int)) (-(-(k : Int))) = (k : Int) by omega] at hmx
  have hnn : -(-(k : Int)) = (k : Int) := by omega
  rw [hnn] at hmx hw
  have hw2 := hw
  clear hnn
  go_enter Try.func20, Try.ntmps20
  go_wp2_with (with_reducible refine halt_at 18 rfl ?_)
  rw [← hW]
  clear hW
  have SO1 := hid (of_sm (Sa1.out) (Sa2.out) (show 1 ≤ n by omega))
  have lt1_Pa := Pa.out.lt
  have lt1_R0 := R0.out.lt
  unfold Halted
  refine wp_list_each (by kernel_rfl) 4 49 rfl rfl (by kernel_rfl)
    [Fact.eq (.agg #[.bool sa1, .slice Aa1 na1 ca1, .bool sa2, .slice Aa2 na2 ca2]), Fact.pair (.A (ofN pa qa) n) (.A (ofD pa qa) n), Fact.boxR 50 Fne (.A (ofN pa qa) n) (.A (ofD pa qa) n), Fact.top _]
    [.val, .val, .alloc 3, .fill 2]
    (fun w' => IntA w' (.agg #[.bool sa1, .slice Aa1 na1 ca1]) (pa) n ∧ IntA w' (.agg #[.bool sa2, .slice Aa2 na2 ca2]) (qa) n ∧ Blk w' (w.heap.size) 26 #[.bool sa1, .slice Aa1 na1 ca1, .bool sa2, .slice Aa2 na2 ca2] ∧ Blk w' (w.heap.size + 1) 26 #[.bool false, .slice none 0 0, .bool false, .slice none 0 0] ∧ Below w.heap.size w w')
    (fun _ _ _ => True) [] (fun _ => 0) (by kernel_rfl)
    ⟨Fa1.out, Fa2.out, Pa.out, R0.out, HB.out⟩
    (fun w1 w2 ⟨h0, h1, h2, h3, h4⟩ hb => ⟨h0.below hb, h1.below hb, h2.below hb, h3.below hb, bw_step h4 hb⟩)
    (fun w1 w2 g ⟨h0, h1, h2, h3, h4⟩ hg hn ho => by
      have hg' : W.heap.size ≤ g := hg.elim id (fun ⟨_, h, _⟩ => absurd h (Nat.not_lt_zero _))
      exact ⟨h0.only hn ho, h1.only hn ho, h2.only ho (by have := Pa.out.lt; have := R0.out.lt; omega), h3.only ho (by have := Pa.out.lt; have := R0.out.lt; omega), below_only h4 ho (by have := Pa.out.lt; have := R0.out.lt; have := HB.out.size; omega)⟩)
    (fun l h => trivial) (fun l b w1 w2 h _ _ => trivial) (fun l b w1 w2 g h _ _ _ _ => trivial) (fun l h => by cases h) (fun l k h => by cases h) ?_ ?_
  · refine ⟨?_, ?_, ?_, ?_, trivial⟩ <;> intro L V a1 w1 hf hG hsz hφ hψ hL hdep hcl
    · obtain ⟨Fa1_, Fa2_, Pa_, R0_, HB_⟩ := hG
      have e2 := old_slot hf 2 (by kernel_rfl)
      exact ob_pure (ex_loadR rfl e2 Pa_) rfl
    · obtain ⟨Fa1_, Fa2_, Pa_, R0_, HB_⟩ := hG
      have d0 := dep_of hdep 0 (by kernel_rfl)
      have e18 := (new_slot hf 0 18 d0 (by kernel_rfl)).trans (show V 0 = .agg #[.bool sa1, .slice Aa1 na1 ca1, .bool sa2, .slice Aa2 na2 ca2] from hφ 0 d0)
      refine ob_go rfl (vs := #[.agg #[.bool sa1, .slice Aa1 na1 ca1, .bool sa2, .slice Aa2 na2 ca2]]) (by simp only [List.map_toArray, List.map_cons, List.map_nil, e18]) (by kernel_rfl) (of_any _ _ pa qa n (Pair.mk (a := .A pa n) (b := .A qa n) Fa1_ Fa2_) (by omega) (by omega)) ?_
      rintro e w2 ⟨⟨v, rfl, hv⟩, hb⟩
      exact ⟨v, rfl, hb, hv⟩
    · obtain ⟨Fa1_, Fa2_, Pa_, R0_, HB_⟩ := hG
      exact ob_allocF rfl hsz rfl
    · obtain ⟨Fa1_, Fa2_, Pa_, R0_, HB_⟩ := hG
      have d1 := dep_of hdep 1 (by kernel_rfl)
      have e19 := new_slot hf 1 19 d1 (by kernel_rfl)
      have p19 : Pair w1 (V 1) (.A (ofN pa qa) n) (.A (ofD pa qa) n) := hφ 1 d1
      have d2 := dep_of hdep 2 (by kernel_rfl)
      obtain ⟨g, h1, h2, h3, _⟩ := hφ 2 d2
      have hz := h3 (show (true && L 3) = false from by have h : L 3 = false := hL; rw [h]; rfl)
      exact ob_fillF rfl ((new_slot hf 2 6 d2 (by kernel_rfl)).trans h1) e19 h1 h2 hz p19 rfl rfl
  · intro V W2 hG hsz2 hφ hψ hne
    have hlt2 : W.heap.size ≤ W2.heap.size := hsz2
    obtain ⟨Fa1_, Fa2_, Pa_, R0_, HB_⟩ := hG
    have Fa1 := hid Fa1_
    have Fa2 := hid Fa2_
    have Pa := hid Pa_
    have R0 := hid R0_
    have HB := hid HB_
    have y0 : V 0 = .agg #[.bool sa1, .slice Aa1 na1 ca1, .bool sa2, .slice Aa2 na2 ca2] := hφ 0 (by decide)
    obtain ⟨G2_2, y2, gb202, _, hb202⟩ := hφ 2 (by decide)
    obtain ⟨q2021, A2021, n2021, c2021, q2022, A2022, n2022, c2022, kb202, va202, vb202⟩ := hb202 rfl
    have Xt6_ := hid kb202
    have t6_1 : Hid (IntA W2 (.agg #[.bool q2021, .slice A2021 n2021 c2021]) (ofN pa qa) n) := hid va202
    have t6_2 : Hid (IntA W2 (.agg #[.bool q2022, .slice A2022 n2022 c2022]) (ofD pa qa) n) := hid vb202
    clear kb202 va202 vb202
    clear hb202
    simp only [puts, Act.put, List.setIfInBounds_toArray, List.set_cons_zero, List.set_cons_succ, y0, y2, ptr]
    clear hφ hψ hne y0 y2 Fa1_ Fa2_ Pa_ R0_ HB_ hsz2
    have SP : Hid (Sm (n * 64 + 1) ((ofN pa qa) ^ k)) := hid ((Sm.powr SO.out.1 k).to (by have := Nat.mul_le_mul_left n HK.out; omega))
    have SQ : Hid (Sm (n * 64 + 1) ((ofD pa qa) ^ k)) := hid ((Sm.powr SO.out.2 k).to (by have := Nat.mul_le_mul_left n HK.out; omega))
    have v0 := Xt6_.out.cell 0
    have v1 := Xt6_.out.cell 1
    have v2 := Xt6_.out.cell 2
    have v3 := Xt6_.out.cell 3
    go_wp2_with fail
    refine (pow_in _ _ (ofN pa qa) n (by omega) k HK.out t6_1.out).mono ?_
    rintro e W3 ⟨⟨v, rfl, hv⟩, hb3⟩
    have HB := hid (bw_step HB.out hb3)
    have Fa1 := hid (Fa1.out.below hb3)
    have Fa2 := hid (Fa2.out.below hb3)
    have Pa := hid (Pa.out.below hb3)
    have R0 := hid (R0.out.below hb3)
    have t6_1 := hid (t6_1.out.below hb3)
    have t6_2 := hid (t6_2.out.below hb3)
    have Xt6_ := hid (Xt6_.out.below hb3)
    clear hb3
    have lq3_Pa := Pa.out.lt
    have lq3_R0 := R0.out.lt
    have lq3_Xt6_ := Xt6_.out.lt
    have lq3 := HB.out.size
    obtain ⟨q31, A31, n31, c31, rfl⟩ := hv.form
    have P := hid hv
    clear hv
    have hbb := bw_alloc (Below.refl _ W3) (.cells #[.bool q31, .slice A31 n31 c31] 24)
    have XP := Blk.new W3 24 #[.bool q31, .slice A31 n31 c31]
    have HB := hid (bw_step HB.out hbb)
    have Fa1 := hid (Fa1.out.below hbb)
    have Fa2 := hid (Fa2.out.below hbb)
    have Pa := hid (Pa.out.below hbb)
    have R0 := hid (R0.out.below hbb)
    have t6_1 := hid (t6_1.out.below hbb)
    have t6_2 := hid (t6_2.out.below hbb)
    have Xt6_ := hid (Xt6_.out.below hbb)
    have P := hid (P.out.below hbb)
    have XP := hid XP
    clear hbb
    clear v0 v1 v2 v3
    have v0 := Xt6_.out.cell 0
    have v1 := Xt6_.out.cell 1
    have v2 := Xt6_.out.cell 2
    have v3 := Xt6_.out.cell 3
    go_wp2_with fail
    refine (pow_in _ _ (ofD pa qa) n (by omega) k HK.out t6_2.out).mono ?_
    rintro e W4 ⟨⟨v, rfl, hv⟩, hb4⟩
    have HB := hid (bw_step HB.out hb4)
    have Fa1 := hid (Fa1.out.below hb4)
    have Fa2 := hid (Fa2.out.below hb4)
    have Pa := hid (Pa.out.below hb4)
    have R0 := hid (R0.out.below hb4)
    have t6_1 := hid (t6_1.out.below hb4)
    have t6_2 := hid (t6_2.out.below hb4)
    have Xt6_ := hid (Xt6_.out.below hb4)
    have P := hid (P.out.below hb4)
    have XP := hid (XP.out.below hb4)
    clear hb4
    have lq4_Pa := Pa.out.lt
    have lq4_R0 := R0.out.lt
    have lq4_Xt6_ := Xt6_.out.lt
    have lq4_XP := XP.out.lt
    have lq4 := HB.out.size
    obtain ⟨q41, A41, n41, c41, rfl⟩ := hv.form
    have Q := hid hv
    clear hv
    have hbb := bw_alloc (Below.refl _ W4) (.cells #[.bool q41, .slice A41 n41 c41] 24)
    have XQ := Blk.new W4 24 #[.bool q41, .slice A41 n41 c41]
    have HB := hid (bw_step HB.out hbb)
    have Fa1 := hid (Fa1.out.below hbb)
    have Fa2 := hid (Fa2.out.below hbb)
    have Pa := hid (Pa.out.below hbb)
    have R0 := hid (R0.out.below hbb)
    have t6_1 := hid (t6_1.out.below hbb)
    have t6_2 := hid (t6_2.out.below hbb)
    have Xt6_ := hid (Xt6_.out.below hbb)
    have P := hid (P.out.below hbb)
    have XP := hid (XP.out.below hbb)
    have Q := hid (Q.out.below hbb)
    have XQ := hid XQ
    clear hbb
    clear v0 v1 v2 v3
    go_wp2_with (with_reducible refine halt_at 42 rfl ?_)
    clear d1 d2 d3 c1 c2 c3 hw hw2 hmx
    unfold Halted
    refine wp_list_each (by kernel_rfl) 4 49 rfl rfl (by kernel_rfl)
      [Fact.eq (.agg #[.bool q41, .slice A41 n41 c41]), Fact.eq (.agg #[.bool q31, .slice A31 n31 c31]), Fact.top _, Fact.top _]
      [.val, .val, .fillOld 0, .fillOld 1]
      (fun w' => IntA w' (.agg #[.bool sa1, .slice Aa1 na1 ca1]) (pa) n ∧ IntA w' (.agg #[.bool sa2, .slice Aa2 na2 ca2]) (qa) n ∧ Blk w' (w.heap.size) 26 #[.bool sa1, .slice Aa1 na1 ca1, .bool sa2, .slice Aa2 na2 ca2] ∧ Blk w' (w.heap.size + 1) 26 #[.bool false, .slice none 0 0, .bool false, .slice none 0 0] ∧ IntA w' (.agg #[.bool q2021, .slice A2021 n2021 c2021]) ((ofN pa qa)) n ∧ IntA w' (.agg #[.bool q2022, .slice A2022 n2022 c2022]) ((ofD pa qa)) n ∧ Blk w' (G2_2) 50 #[.bool q2021, .slice A2021 n2021 c2021, .bool q2022, .slice A2022 n2022 c2022] ∧ IntV w' (.agg #[.bool q31, .slice A31 n31 c31]) (((ofN pa qa) ^ k)) ∧ IntV w' (.agg #[.bool q41, .slice A41 n41 c41]) (((ofD pa qa) ^ k)) ∧ Below w.heap.size w w')
      (fun l b w' => match l with
        | 0 => if b = true then BoxI w' (W3.heap.size) ((ofD pa qa) ^ k) else Blk w' (W3.heap.size) 24 #[.bool q31, .slice A31 n31 c31]
        | 1 => if b = true then BoxI w' (W4.heap.size) ((ofN pa qa) ^ k) else Blk w' (W4.heap.size) 24 #[.bool q41, .slice A41 n41 c41]
        | _ => True)
      [2, 3] (fun l => match l with | 0 => W3.heap.size | 1 => W4.heap.size | _ => 0) (by kernel_rfl)
      ⟨Fa1.out, Fa2.out, Pa.out, R0.out, t6_1.out, t6_2.out, Xt6_.out, P.out, Q.out, HB.out⟩
      (fun w1 w2 ⟨h0, h1, h2, h3, h4, h5, h6, h7, h8, h9⟩ hb => ⟨h0.below hb, h1.below hb, h2.below hb, h3.below hb, h4.below hb, h5.below hb, h6.below hb, h7.below hb, h8.below hb, bw_step h9 hb⟩)
      (fun w1 w2 g ⟨h0, h1, h2, h3, h4, h5, h6, h7, h8, h9⟩ hg hn ho => by
        have hg' : (W4.alloc (.cells #[.bool q41, .slice A41 n41 c41] 24)).heap.size ≤ g ∨ g = W3.heap.size ∨ g = W4.heap.size := by
          rcases hg with h | ⟨l, hl, h⟩
          · exact .inl h
          · rcases l with _ | l
            · exact .inr (.inl h)
            · rcases l with _ | l
              · exact .inr (.inr h)
              · exact absurd hl (by simp)
        exact ⟨h0.only hn ho, h1.only hn ho, h2.only ho (by have := Pa.out.lt; have := R0.out.lt; have := Xt6_.out.lt; have := XP.out.lt; have := XQ.out.lt; omega), h3.only ho (by have := Pa.out.lt; have := R0.out.lt; have := Xt6_.out.lt; have := XP.out.lt; have := XQ.out.lt; omega), h4.only hn ho, h5.only hn ho, h6.only ho (by have := Pa.out.lt; have := R0.out.lt; have := Xt6_.out.lt; have := XP.out.lt; have := XQ.out.lt; omega), h7.only hn ho, h8.only hn ho, below_only h9 ho (by have := Pa.out.lt; have := R0.out.lt; have := Xt6_.out.lt; have := XP.out.lt; have := XQ.out.lt; have := HB.out.size; omega)⟩)
      (fun l hl => by
          rcases l with _ | l
          · exact XP.out
          rcases l with _ | l
          · exact XQ.out
          · exact absurd hl (by simp))
      (fun l b w1 w2 hl h hb => by
          rcases l with _ | l
          · (cases b <;> exact h.below hb)
          rcases l with _ | l
          · (cases b <;> exact h.below hb)
          · exact absurd hl (by simp))
      (fun l b w1 w2 g hl h hg hn ho => by
          rcases l with _ | l
          · (cases b; (exact h.only ho (Ne.symm hg)); (exact h.only (Ne.symm hg) hn ho))
          rcases l with _ | l
          · (cases b; (exact h.only ho (Ne.symm hg)); (exact h.only (Ne.symm hg) hn ho))
          · exact absurd hl (by simp))
      (fun l hl => by
          rcases l with _ | l
          · exact XP.out.lt
          rcases l with _ | l
          · exact XQ.out.lt
          · exact absurd hl (by simp))
      (fun l k hl hk hne => by
        have hh : W3.heap.size ≠ W4.heap.size := by omega
        have h1 : l = 0 ∨ l = 1 := by simp at hl; omega
        have h2 : k = 0 ∨ k = 1 := by simp at hk; omega
        rcases h1 with rfl | rfl <;> rcases h2 with rfl | rfl
        · exact absurd rfl hne
        · exact hh
        · exact Ne.symm hh
        · exact absurd rfl hne)
      ?_ ?_
    · refine ⟨?_, ?_, ?_, ?_, trivial⟩ <;> intro L V a1 w1 hf hG hsz hφ hψ hL hdep hcl
      · obtain ⟨Fa1_, Fa2_, Pa_, R0_, t6_1_, t6_2_, Xt6__, P_, Q_, HB_⟩ := hG
        have e9 := old_slot hf 9 (by kernel_rfl)
        have hb0 := hψ 1 (by decide)
        rw [show [2, 3].getD 1 0 = 3 from rfl, not_yet hcl 3 0 hL (by kernel_rfl)] at hb0
        exact ob_load_int rfl e9 hb0 rfl
      · obtain ⟨Fa1_, Fa2_, Pa_, R0_, t6_1_, t6_2_, Xt6__, P_, Q_, HB_⟩ := hG
        have e7 := old_slot hf 7 (by kernel_rfl)
        have hb0 := hψ 0 (by decide)
        rw [show [2, 3].getD 0 0 = 2 from rfl, not_yet hcl 2 1 hL (by kernel_rfl)] at hb0
        exact ob_load_int rfl e7 hb0 rfl
      · obtain ⟨Fa1_, Fa2_, Pa_, R0_, t6_1_, t6_2_, Xt6__, P_, Q_, HB_⟩ := hG
        have d0 := dep_of hdep 0 (by kernel_rfl)
        have e42 := (new_slot hf 0 42 d0 (by kernel_rfl)).trans (show V 0 = .agg #[.bool q41, .slice A41 n41 c41] from hφ 0 d0)
        have e7 := old_slot hf 7 (by kernel_rfl)
        have hb0 := hψ 0 (by decide)
        rw [show [2, 3].getD 0 0 = 2 from rfl, hL] at hb0
        exact ob_fillOld_int rfl e7 e42 hb0 Q_ (fun w2 h => h) rfl
      · obtain ⟨Fa1_, Fa2_, Pa_, R0_, t6_1_, t6_2_, Xt6__, P_, Q_, HB_⟩ := hG
        have d1 := dep_of hdep 1 (by kernel_rfl)
        have e43 := (new_slot hf 1 43 d1 (by kernel_rfl)).trans (show V 1 = .agg #[.bool q31, .slice A31 n31 c31] from hφ 1 d1)
        have e9 := old_slot hf 9 (by kernel_rfl)
        have hb0 := hψ 1 (by decide)
        rw [show [2, 3].getD 1 0 = 3 from rfl, hL] at hb0
        exact ob_fillOld_int rfl e9 e43 hb0 P_ (fun w2 h => h) rfl
    · intro V W5 hG hsz5 hφ hψ hne
      have hlt5 : (W4.alloc (.cells #[.bool q41, .slice A41 n41 c41] 24)).heap.size ≤ W5.heap.size := hsz5
      obtain ⟨Fa1_, Fa2_, Pa_, R0_, t6_1_, t6_2_, Xt6__, P_, Q_, HB_⟩ := hG
      have Fa1 := hid Fa1_
      have Fa2 := hid Fa2_
      have Pa := hid Pa_
      have R0 := hid R0_
      have t6_1 := hid t6_1_
      have t6_2 := hid t6_2_
      have Xt6_ := hid Xt6__
      have P := hid P_
      have Q := hid Q_
      have HB := hid HB_
      have y0 : V 0 = .agg #[.bool q41, .slice A41 n41 c41] := hφ 0 (by decide)
      have y1 : V 1 = .agg #[.bool q31, .slice A31 n31 c31] := hφ 1 (by decide)
      obtain ⟨q550, A550, n550, c550, kb550, vb550⟩ := hψ 0 (by decide)
      have XP := hid kb550
      have VXP := hid vb550
      clear kb550 vb550
      obtain ⟨q551, A551, n551, c551, kb551, vb551⟩ := hψ 1 (by decide)
      have XQ := hid kb551
      have VXQ := hid vb551
      clear kb551 vb551
      simp only [puts, Act.put, List.setIfInBounds_toArray, List.set_cons_zero, List.set_cons_succ, y0, y1]
      clear hφ hψ hne y0 y1 Fa1_ Fa2_ Pa_ R0_ t6_1_ t6_2_ Xt6__ P_ Q_ HB_ hsz5
      go_wp2_with (with_reducible refine halt_at 44 rfl ?_)
      have RS6 : Hid (RS (n * 64 + 1) (inv1 (Rat.divInt pa qa) ^ k)) := hid (by have h := RS.of (Sm.to (n := (n * 64 + 1)) (SQ.out) (by omega)) (Sm.to (n := (n * 64 + 1)) (SP.out) (by omega)) (by omega); rw [show Rat.divInt ((ofD pa qa) ^ k) ((ofN pa qa) ^ k) = (inv1 (Rat.divInt pa qa) ^ k) from by rw [pow_divInt, inv1_of]] at h; exact h)
      unfold Halted
      refine wp_list_each (by kernel_rfl) 7 49 rfl rfl (by kernel_rfl)
        [Fact.eq (.agg #[.bool q550, .slice A550 n550 c550]), Fact.eq (.agg #[.bool q551, .slice A551 n551 c551]), Fact.pairB (.V ((inv1 (Rat.divInt pa qa) ^ k)).num) (.V (((inv1 (Rat.divInt pa qa) ^ k)).den : Int)) true, Fact.pair (.V ((inv1 (Rat.divInt pa qa) ^ k)).num) (.V (((inv1 (Rat.divInt pa qa) ^ k)).den : Int)), Fact.eq (.bool true), Fact.top _, Fact.eq (.bool true)]
        [.val, .val, .val, .val, .val, .fillOld 0, .val]
        (fun w' => IntA w' (.agg #[.bool sa1, .slice Aa1 na1 ca1]) (pa) n ∧ IntA w' (.agg #[.bool sa2, .slice Aa2 na2 ca2]) (qa) n ∧ Blk w' (w.heap.size) 26 #[.bool sa1, .slice Aa1 na1 ca1, .bool sa2, .slice Aa2 na2 ca2] ∧ IntA w' (.agg #[.bool q2021, .slice A2021 n2021 c2021]) ((ofN pa qa)) n ∧ IntA w' (.agg #[.bool q2022, .slice A2022 n2022 c2022]) ((ofD pa qa)) n ∧ Blk w' (G2_2) 50 #[.bool q2021, .slice A2021 n2021 c2021, .bool q2022, .slice A2022 n2022 c2022] ∧ IntV w' (.agg #[.bool q31, .slice A31 n31 c31]) (((ofN pa qa) ^ k)) ∧ Blk w' (W3.heap.size) 24 #[.bool q550, .slice A550 n550 c550] ∧ IntV w' (.agg #[.bool q41, .slice A41 n41 c41]) (((ofD pa qa) ^ k)) ∧ Blk w' (W4.heap.size) 24 #[.bool q551, .slice A551 n551 c551] ∧ IntV w' (.agg #[.bool q550, .slice A550 n550 c550]) (((ofD pa qa) ^ k)) ∧ IntV w' (.agg #[.bool q551, .slice A551 n551 c551]) (((ofN pa qa) ^ k)) ∧ Below w.heap.size w w')
        (fun l b w' => match l with
          | 0 => if b = true then BoxR w' (w.heap.size + 1) 26 (.V ((inv1 (Rat.divInt pa qa) ^ k)).num) (.V (((inv1 (Rat.divInt pa qa) ^ k)).den : Int)) else Blk w' (w.heap.size + 1) 26 #[.bool false, .slice none 0 0, .bool false, .slice none 0 0]
          | _ => True)
        [5] (fun l => match l with | 0 => w.heap.size + 1 | _ => 0) (by kernel_rfl)
        ⟨Fa1.out, Fa2.out, Pa.out, t6_1.out, t6_2.out, Xt6_.out, P.out, XP.out, Q.out, XQ.out, VXP.out, VXQ.out, HB.out⟩
        (fun w1 w2 ⟨h0, h1, h2, h3, h4, h5, h6, h7, h8, h9, h10, h11, h12⟩ hb => ⟨h0.below hb, h1.below hb, h2.below hb, h3.below hb, h4.below hb, h5.below hb, h6.below hb, h7.below hb, h8.below hb, h9.below hb, h10.below hb, h11.below hb, bw_step h12 hb⟩)
        (fun w1 w2 g ⟨h0, h1, h2, h3, h4, h5, h6, h7, h8, h9, h10, h11, h12⟩ hg hn ho => by
          have hg' : W5.heap.size ≤ g ∨ g = w.heap.size + 1 := by
            rcases hg with h | ⟨l, hl, h⟩
            · exact .inl h
            · rcases l with _ | l
              · exact .inr h
              · exact absurd hl (by simp)
          exact ⟨h0.only hn ho, h1.only hn ho, h2.only ho (by have := Pa.out.lt; have := R0.out.lt; have := Xt6_.out.lt; have := XP.out.lt; have := XQ.out.lt; omega), h3.only hn ho, h4.only hn ho, h5.only ho (by have := Pa.out.lt; have := R0.out.lt; have := Xt6_.out.lt; have := XP.out.lt; have := XQ.out.lt; omega), h6.only hn ho, h7.only ho (by have := Pa.out.lt; have := R0.out.lt; have := Xt6_.out.lt; have := XP.out.lt; have := XQ.out.lt; omega), h8.only hn ho, h9.only ho (by have := Pa.out.lt; have := R0.out.lt; have := Xt6_.out.lt; have := XP.out.lt; have := XQ.out.lt; omega), h10.only hn ho, h11.only hn ho, below_only h12 ho (by have := Pa.out.lt; have := R0.out.lt; have := Xt6_.out.lt; have := XP.out.lt; have := XQ.out.lt; have := HB.out.size; omega)⟩)
        (fun l hl => by
            rcases l with _ | l
            · exact R0.out
            · exact absurd hl (by simp))
        (fun l b w1 w2 hl h hb => by
            rcases l with _ | l
            · (cases b <;> exact h.below hb)
            · exact absurd hl (by simp))
        (fun l b w1 w2 g hl h hg hn ho => by
            rcases l with _ | l
            · (cases b; (exact h.only ho (Ne.symm hg)); (exact h.only (Ne.symm hg) hn ho))
            · exact absurd hl (by simp))
        (fun l hl => by
            rcases l with _ | l
            · exact R0.out.lt
            · exact absurd hl (by simp))
        (fun l k hl hk hne => by rcases l with _ | l <;> rcases k with _ | k <;> simp at hl hk hne)
        ?_ ?_
      · refine ⟨?_, ?_, ?_, ?_, ?_, ?_, ?_, trivial⟩ <;> intro L V a1 w1 hf hG hsz hφ hψ hL hdep hcl
        · obtain ⟨Fa1_, Fa2_, Pa_, t6_1_, t6_2_, Xt6__, P_, XP_, Q_, XQ_, VXP_, VXQ_, HB_⟩ := hG
          have e7 := old_slot hf 7 (by kernel_rfl)
          exact ob_load_int rfl e7 XP_ rfl
        · obtain ⟨Fa1_, Fa2_, Pa_, t6_1_, t6_2_, Xt6__, P_, XP_, Q_, XQ_, VXP_, VXQ_, HB_⟩ := hG
          have e9 := old_slot hf 9 (by kernel_rfl)
          exact ob_load_int rfl e9 XQ_ rfl
        · obtain ⟨Fa1_, Fa2_, Pa_, t6_1_, t6_2_, Xt6__, P_, XP_, Q_, XQ_, VXP_, VXQ_, HB_⟩ := hG
          have d0 := dep_of hdep 0 (by kernel_rfl)
          have e44 := (new_slot hf 0 44 d0 (by kernel_rfl)).trans (show V 0 = .agg #[.bool q550, .slice A550 n550 c550] from hφ 0 d0)
          have d1 := dep_of hdep 1 (by kernel_rfl)
          have e45 := (new_slot hf 1 45 d1 (by kernel_rfl)).trans (show V 1 = .agg #[.bool q551, .slice A551 n551 c551] from hφ 1 d1)
          refine ob_go rfl (vs := #[.agg #[.bool q550, .slice A550 n550 c550], .agg #[.bool q551, .slice A551 n551 c551]]) (by simp only [List.map_toArray, List.map_cons, List.map_nil, e44, e45]) (by kernel_rfl) (newR_any _ _ _ ((ofD pa qa) ^ k) ((ofN pa qa) ^ k) (inv1 (Rat.divInt pa qa) ^ k) (n * 64 + 1) (IntV.arg VXP_ (Sm.to (SQ.out) (by omega))) (IntV.arg VXQ_ (Sm.to (SP.out) (by omega))) (by omega) (by omega) (pow_ne (fun h => HZ.out ((of_zero_iff pa qa).1 h)) k) (by rw [pow_divInt, inv1_of])) ?_
          rintro e w2 ⟨⟨v, rfl, hv⟩, hb⟩
          exact ⟨v, rfl, hb, hv⟩
        · obtain ⟨Fa1_, Fa2_, Pa_, t6_1_, t6_2_, Xt6__, P_, XP_, Q_, XQ_, VXP_, VXQ_, HB_⟩ := hG
          have d2 := dep_of hdep 2 (by kernel_rfl)
          have e46 := new_slot hf 2 46 d2 (by kernel_rfl)
          have p46 : PairB w1 (V 2) (.V ((inv1 (Rat.divInt pa qa) ^ k)).num) (.V (((inv1 (Rat.divInt pa qa) ^ k)).den : Int)) true := hφ 2 d2
          exact ob_pairB0 rfl e46 p46 rfl
        · obtain ⟨Fa1_, Fa2_, Pa_, t6_1_, t6_2_, Xt6__, P_, XP_, Q_, XQ_, VXP_, VXQ_, HB_⟩ := hG
          have d2 := dep_of hdep 2 (by kernel_rfl)
          have e46 := new_slot hf 2 46 d2 (by kernel_rfl)
          have p46 : PairB w1 (V 2) (.V ((inv1 (Rat.divInt pa qa) ^ k)).num) (.V (((inv1 (Rat.divInt pa qa) ^ k)).den : Int)) true := hφ 2 d2
          exact ob_pairB1 rfl e46 p46 rfl
        · obtain ⟨Fa1_, Fa2_, Pa_, t6_1_, t6_2_, Xt6__, P_, XP_, Q_, XQ_, VXP_, VXQ_, HB_⟩ := hG
          have d3 := dep_of hdep 3 (by kernel_rfl)
          have e47 := new_slot hf 3 47 d3 (by kernel_rfl)
          have p47 : Pair w1 (V 3) (.V ((inv1 (Rat.divInt pa qa) ^ k)).num) (.V (((inv1 (Rat.divInt pa qa) ^ k)).den : Int)) := hφ 3 d3
          have e4 := old_slot hf 4 (by kernel_rfl)
          have hb0 := hψ 0 (by decide)
          rw [show [5].getD 0 0 = 5 from rfl, hL] at hb0
          exact ob_fillOldR rfl e4 e47 hb0 p47 (fun w2 h => h) rfl
        · obtain ⟨Fa1_, Fa2_, Pa_, t6_1_, t6_2_, Xt6__, P_, XP_, Q_, XQ_, VXP_, VXQ_, HB_⟩ := hG
          have d4 := dep_of hdep 4 (by kernel_rfl)
          have e48 := (new_slot hf 4 48 d4 (by kernel_rfl)).trans (show V 4 = .bool true from hφ 4 d4)
          exact ob_pure (v := .bool true) (ex_assignV rfl e48) rfl
      · intro V W7 hG hsz7 hφ hψ hne
        have hlt7 : W5.heap.size ≤ W7.heap.size := hsz7
        obtain ⟨Fa1_, Fa2_, Pa_, t6_1_, t6_2_, Xt6__, P_, XP_, Q_, XQ_, VXP_, VXQ_, HB_⟩ := hG
        have Fa1 := hid Fa1_
        have Fa2 := hid Fa2_
        have Pa := hid Pa_
        have t6_1 := hid t6_1_
        have t6_2 := hid t6_2_
        have Xt6_ := hid Xt6__
        have P := hid P_
        have XP := hid XP_
        have Q := hid Q_
        have XQ := hid XQ_
        have VXP := hid VXP_
        have VXQ := hid VXQ_
        have HB := hid HB_
        have y0 : V 0 = .agg #[.bool q550, .slice A550 n550 c550] := hφ 0 (by decide)
        have y1 : V 1 = .agg #[.bool q551, .slice A551 n551 c551] := hφ 1 (by decide)
        have y4 : V 4 = .bool true := hφ 4 (by decide)
        have y6 : V 6 = .bool true := hφ 6 (by decide)
        obtain ⟨q7501, A7501, n7501, c7501, q7502, A7502, n7502, c7502, kb750, va750, vb750⟩ := hψ 0 (by decide)
        have R0 := hid kb750
        have R01 : Hid (IntV W7 (.agg #[.bool q7501, .slice A7501 n7501 c7501]) ((inv1 (Rat.divInt pa qa) ^ k)).num) := hid va750
        have R02 : Hid (IntV W7 (.agg #[.bool q7502, .slice A7502 n7502 c7502]) (((inv1 (Rat.divInt pa qa) ^ k)).den : Int)) := hid vb750
        clear kb750 va750 vb750
        simp only [puts, Act.put, List.setIfInBounds_toArray, List.set_cons_zero, List.set_cons_succ, y0, y1, y4, y6]
        clear hφ hψ hne y0 y1 y4 y6 Fa1_ Fa2_ Pa_ t6_1_ t6_2_ Xt6__ P_ XP_ Q_ XQ_ VXP_ VXQ_ HB_ hsz7
        have k0 := R0.out.cell 0
        have k1 := R0.out.cell 1
        have k2 := R0.out.cell 2
        have k3 := R0.out.cell 3
        go_wp2
        refine bodyPost_ret (v := .tuple #[.agg #[.bool q7501, .slice A7501 n7501 c7501, .bool q7502, .slice A7502 n7502 c7502], .bool true]) (by simp [results, Try.results20, go_sem, k0, k1, k2, k3]) rfl ⟨⟨_, rfl, _, rfl, ?_⟩, HB.out⟩
        exact Pair.mk (a := .V (inv1 (Rat.divInt pa qa) ^ k).num) (b := .V ((inv1 (Rat.divInt pa qa) ^ k).den : Int)) R01.out R02.out
set_option maxHeartbeats 8000000 in
theorem powR_negz (w : World) (va : Value) (x : Rat) (n : Nat) (ha : RatA w va x n) (h1n : 1 ≤ n) (hn : n ≤ 4000) (k : Nat) (hk : k ≤ 64) (hp : 0 < k) (hz : x = 0) :
    Calls Try.prog 20 #[va, .int .i64 (-(k : Int))] w fun e w' => (∃ u, e = .returned u ∧ PairB w' u (.V 0) (.V 0) false) ∧ Below w.heap.size w w' := by
  obtain ⟨pa, qa, ha, rfl⟩ := ha
  obtain ⟨sa1, Aa1, na1, ca1, sa2, Aa2, na2, ca2, rfl, h1, h2⟩ := ha.form
  have Fa1 : Hid (IntA w (.agg #[.bool sa1, .slice Aa1 na1 ca1]) pa n) := hid h1
  have Fa2 : Hid (IntA w (.agg #[.bool sa2, .slice Aa2 na2 ca2]) qa n) := hid h2
  have Sa1 := hid Fa1.out.sm
  have Sa2 := hid Fa2.out.sm
  clear h1 h2 ha
  have HB := hid (Below.refl w.heap.size w)
  obtain ⟨W, hW⟩ : ∃ W, W = ((w.alloc (.cells #[.bool sa1, .slice Aa1 na1 ca1, .bool sa2, .slice Aa2 na2 ca2] 26)).alloc (.cells #[.bool false, .slice none 0 0, .bool false, .slice none 0 0] 26)) := ⟨_, rfl⟩
  have hbb : Below w.heap.size w W := by rw [hW]; exact (bw_alloc (bw_alloc (Below.refl _ _) _) _)
  have HB := hid (bw_step HB.out hbb)
  have Fa1 := hid (Fa1.out.below hbb)
  have Fa2 := hid (Fa2.out.below hbb)
  have Pa : Hid (Blk W (w.heap.size) 26 #[.bool sa1, .slice Aa1 na1 ca1, .bool sa2, .slice Aa2 na2 ca2]) := by
    rw [hW]
    have := (Blk.new w 26 #[.bool sa1, .slice Aa1 na1 ca1, .bool sa2, .slice Aa2 na2 ca2]).below (bw_alloc (Below.refl _ _) (.cells #[.bool false, .slice none 0 0, .bool false, .slice none 0 0] 26))
    exact hid (by simpa only [World.size_alloc] using this)
  have R0 : Hid (Blk W (w.heap.size + 1) 26 #[.bool false, .slice none 0 0, .bool false, .slice none 0 0]) := by
    rw [hW]
    have := Blk.new (w.alloc (.cells #[.bool sa1, .slice Aa1 na1 ca1, .bool sa2, .slice Aa2 na2 ca2] 26)) 26 #[.bool false, .slice none 0 0, .bool false, .slice none 0 0]
    exact hid (by simpa only [World.size_alloc] using this)
  clear hbb
  have SO := hid (of_sm Sa1.out Sa2.out h1n)
  have HK := hid hk
  have hki : (k : Int) ≤ 64 := by omega
  have hkp : (0 : Int) < (k : Int) := by omega
  have HKP := hid hkp
  have HZ := hid hz
  clear hz hk hkp hp
  have d1 : decide ((-(k : Int)) < (-64 : Int)) = false := by rw [decide_eq_false_iff_not]; omega
  have c1 : ¬ (-(k : Int)) < -64 := by omega
  have d2 : decide ((64 : Int) < (-(k : Int))) = false := by rw [decide_eq_false_iff_not]; omega
  have c2 : ¬ 64 < (-(k : Int)) := by omega
  have d3 : decide ((-(k : Int)) < (0 : Int)) = true := by rw [decide_eq_true_eq]; have := HKP.out; omega
  have c3 : (-(k : Int)) < 0 := by have := HKP.out; omega
  have hw : IntKind.i64.wrap (-(-(k : Int))) = -(-(k : Int)) := wrap_i64' (by omega) (by omega)
  have hmx := max_int (-(k : Int)) (-(-(k : Int)))
  rw [show max (-(k : Int)) (-(-(k : Int))) = (k : Int) by omega] at hmx
  have hnn : -(-(k : Int)) = (k : Int) := by omega
  rw [hnn] at hmx hw
  have hw2 := hw
  clear hnn
  go_enter Try.func20, Try.ntmps20
  go_wp2_with (with_reducible refine halt_at 18 rfl ?_)
  rw [← hW]
  clear hW
  have SO1 := hid (of_sm (Sa1.out) (Sa2.out) (show 1 ≤ n by omega))
  have lt1_Pa := Pa.out.lt
  have lt1_R0 := R0.out.lt
  unfold Halted
  refine wp_list_each (by kernel_rfl) 4 49 rfl rfl (by kernel_rfl)
    [Fact.eq (.agg #[.bool sa1, .slice Aa1 na1 ca1, .bool sa2, .slice Aa2 na2 ca2]), Fact.pair (.A (ofN pa qa) n) (.A (ofD pa qa) n), Fact.boxR 50 Fne (.A (ofN pa qa) n) (.A (ofD pa qa) n), Fact.top _]
    [.val, .val, .alloc 3, .fill 2]
    (fun w' => IntA w' (.agg #[.bool sa1, .slice Aa1 na1 ca1]) (pa) n ∧ IntA w' (.agg #[.bool sa2, .slice Aa2 na2 ca2]) (qa) n ∧ Blk w' (w.heap.size) 26 #[.bool sa1, .slice Aa1 na1 ca1, .bool sa2, .slice Aa2 na2 ca2] ∧ Blk w' (w.heap.size + 1) 26 #[.bool false, .slice none 0 0, .bool false, .slice none 0 0] ∧ Below w.heap.size w w')
    (fun _ _ _ => True) [] (fun _ => 0) (by kernel_rfl)
    ⟨Fa1.out, Fa2.out, Pa.out, R0.out, HB.out⟩
    (fun w1 w2 ⟨h0, h1, h2, h3, h4⟩ hb => ⟨h0.below hb, h1.below hb, h2.below hb, h3.below hb, bw_step h4 hb⟩)
    (fun w1 w2 g ⟨h0, h1, h2, h3, h4⟩ hg hn ho => by
      have hg' : W.heap.size ≤ g := hg.elim id (fun ⟨_, h, _⟩ => absurd h (Nat.not_lt_zero _))
      exact ⟨h0.only hn ho, h1.only hn ho, h2.only ho (by have := Pa.out.lt; have := R0.out.lt; omega), h3.only ho (by have := Pa.out.lt; have := R0.out.lt; omega), below_only h4 ho (by have := Pa.out.lt; have := R0.out.lt; have := HB.out.size; omega)⟩)
    (fun l h => trivial) (fun l b w1 w2 h _ _ => trivial) (fun l b w1 w2 g h _ _ _ _ => trivial) (fun l h => by cases h) (fun l k h => by cases h) ?_ ?_
  · refine ⟨?_, ?_, ?_, ?_, trivial⟩ <;> intro L V a1 w1 hf hG hsz hφ hψ hL hdep hcl
    · obtain ⟨Fa1_, Fa2_, Pa_, R0_, HB_⟩ := hG
      have e2 := old_slot hf 2 (by kernel_rfl)
      exact ob_pure (ex_loadR rfl e2 Pa_) rfl
    · obtain ⟨Fa1_, Fa2_, Pa_, R0_, HB_⟩ := hG
      have d0 := dep_of hdep 0 (by kernel_rfl)
      have e18 := (new_slot hf 0 18 d0 (by kernel_rfl)).trans (show V 0 = .agg #[.bool sa1, .slice Aa1 na1 ca1, .bool sa2, .slice Aa2 na2 ca2] from hφ 0 d0)
      refine ob_go rfl (vs := #[.agg #[.bool sa1, .slice Aa1 na1 ca1, .bool sa2, .slice Aa2 na2 ca2]]) (by simp only [List.map_toArray, List.map_cons, List.map_nil, e18]) (by kernel_rfl) (of_any _ _ pa qa n (Pair.mk (a := .A pa n) (b := .A qa n) Fa1_ Fa2_) (by omega) (by omega)) ?_
      rintro e w2 ⟨⟨v, rfl, hv⟩, hb⟩
      exact ⟨v, rfl, hb, hv⟩
    · obtain ⟨Fa1_, Fa2_, Pa_, R0_, HB_⟩ := hG
      exact ob_allocF rfl hsz rfl
    · obtain ⟨Fa1_, Fa2_, Pa_, R0_, HB_⟩ := hG
      have d1 := dep_of hdep 1 (by kernel_rfl)
      have e19 := new_slot hf 1 19 d1 (by kernel_rfl)
      have p19 : Pair w1 (V 1) (.A (ofN pa qa) n) (.A (ofD pa qa) n) := hφ 1 d1
      have d2 := dep_of hdep 2 (by kernel_rfl)
      obtain ⟨g, h1, h2, h3, _⟩ := hφ 2 d2
      have hz := h3 (show (true && L 3) = false from by have h : L 3 = false := hL; rw [h]; rfl)
      exact ob_fillF rfl ((new_slot hf 2 6 d2 (by kernel_rfl)).trans h1) e19 h1 h2 hz p19 rfl rfl
  · intro V W2 hG hsz2 hφ hψ hne
    have hlt2 : W.heap.size ≤ W2.heap.size := hsz2
    obtain ⟨Fa1_, Fa2_, Pa_, R0_, HB_⟩ := hG
    have Fa1 := hid Fa1_
    have Fa2 := hid Fa2_
    have Pa := hid Pa_
    have R0 := hid R0_
    have HB := hid HB_
    have y0 : V 0 = .agg #[.bool sa1, .slice Aa1 na1 ca1, .bool sa2, .slice Aa2 na2 ca2] := hφ 0 (by decide)
    obtain ⟨G2_2, y2, gb202, _, hb202⟩ := hφ 2 (by decide)
    obtain ⟨q2021, A2021, n2021, c2021, q2022, A2022, n2022, c2022, kb202, va202, vb202⟩ := hb202 rfl
    have Xt6_ := hid kb202
    have t6_1 : Hid (IntA W2 (.agg #[.bool q2021, .slice A2021 n2021 c2021]) (ofN pa qa) n) := hid va202
    have t6_2 : Hid (IntA W2 (.agg #[.bool q2022, .slice A2022 n2022 c2022]) (ofD pa qa) n) := hid vb202
    clear kb202 va202 vb202
    clear hb202
    simp only [puts, Act.put, List.setIfInBounds_toArray, List.set_cons_zero, List.set_cons_succ, y0, y2, ptr]
    clear hφ hψ hne y0 y2 Fa1_ Fa2_ Pa_ R0_ HB_ hsz2
    have SP : Hid (Sm (n * 64 + 1) ((ofN pa qa) ^ k)) := hid ((Sm.powr SO.out.1 k).to (by have := Nat.mul_le_mul_left n HK.out; omega))
    have SQ : Hid (Sm (n * 64 + 1) ((ofD pa qa) ^ k)) := hid ((Sm.powr SO.out.2 k).to (by have := Nat.mul_le_mul_left n HK.out; omega))
    have v0 := Xt6_.out.cell 0
    have v1 := Xt6_.out.cell 1
    have v2 := Xt6_.out.cell 2
    have v3 := Xt6_.out.cell 3
    go_wp2_with fail
    refine (pow_in _ _ (ofN pa qa) n (by omega) k HK.out t6_1.out).mono ?_
    rintro e W3 ⟨⟨v, rfl, hv⟩, hb3⟩
    have HB := hid (bw_step HB.out hb3)
    have Fa1 := hid (Fa1.out.below hb3)
    have Fa2 := hid (Fa2.out.below hb3)
    have Pa := hid (Pa.out.below hb3)
    have R0 := hid (R0.out.below hb3)
    have t6_1 := hid (t6_1.out.below hb3)
    have t6_2 := hid (t6_2.out.below hb3)
    have Xt6_ := hid (Xt6_.out.below hb3)
    clear hb3
    have lq3_Pa := Pa.out.lt
    have lq3_R0 := R0.out.lt
    have lq3_Xt6_ := Xt6_.out.lt
    have lq3 := HB.out.size
    obtain ⟨q31, A31, n31, c31, rfl⟩ := hv.form
    have P := hid hv
    clear hv
    have hbb := bw_alloc (Below.refl _ W3) (.cells #[.bool q31, .slice A31 n31 c31] 24)
    have XP := Blk.new W3 24 #[.bool q31, .slice A31 n31 c31]
    have HB := hid (bw_step HB.out hbb)
    have Fa1 := hid (Fa1.out.below hbb)
    have Fa2 := hid (Fa2.out.below hbb)
    have Pa := hid (Pa.out.below hbb)
    have R0 := hid (R0.out.below hbb)
    have t6_1 := hid (t6_1.out.below hbb)
    have t6_2 := hid (t6_2.out.below hbb)
    have Xt6_ := hid (Xt6_.out.below hbb)
    have P := hid (P.out.below hbb)
    have XP := hid XP
    clear hbb
    clear v0 v1 v2 v3
    have v0 := Xt6_.out.cell 0
    have v1 := Xt6_.out.cell 1
    have v2 := Xt6_.out.cell 2
    have v3 := Xt6_.out.cell 3
    go_wp2_with fail
    refine (pow_in _ _ (ofD pa qa) n (by omega) k HK.out t6_2.out).mono ?_
    rintro e W4 ⟨⟨v, rfl, hv⟩, hb4⟩
    have HB := hid (bw_step HB.out hb4)
    have Fa1 := hid (Fa1.out.below hb4)
    have Fa2 := hid (Fa2.out.below hb4)
    have Pa := hid (Pa.out.below hb4)
    have R0 := hid (R0.out.below hb4)
    have t6_1 := hid (t6_1.out.below hb4)
    have t6_2 := hid (t6_2.out.below hb4)
    have Xt6_ := hid (Xt6_.out.below hb4)
    have P := hid (P.out.below hb4)
    have XP := hid (XP.out.below hb4)
    clear hb4
    have lq4_Pa := Pa.out.lt
    have lq4_R0 := R0.out.lt
    have lq4_Xt6_ := Xt6_.out.lt
    have lq4_XP := XP.out.lt
    have lq4 := HB.out.size
    obtain ⟨q41, A41, n41, c41, rfl⟩ := hv.form
    have Q := hid hv
    clear hv
    have hbb := bw_alloc (Below.refl _ W4) (.cells #[.bool q41, .slice A41 n41 c41] 24)
    have XQ := Blk.new W4 24 #[.bool q41, .slice A41 n41 c41]
    have HB := hid (bw_step HB.out hbb)
    have Fa1 := hid (Fa1.out.below hbb)
    have Fa2 := hid (Fa2.out.below hbb)
    have Pa := hid (Pa.out.below hbb)
    have R0 := hid (R0.out.below hbb)
    have t6_1 := hid (t6_1.out.below hbb)
    have t6_2 := hid (t6_2.out.below hbb)
    have Xt6_ := hid (Xt6_.out.below hbb)
    have P := hid (P.out.below hbb)
    have XP := hid (XP.out.below hbb)
    have Q := hid (Q.out.below hbb)
    have XQ := hid XQ
    clear hbb
    clear v0 v1 v2 v3
    go_wp2_with (with_reducible refine halt_at 42 rfl ?_)
    clear d1 d2 d3 c1 c2 c3 hw hw2 hmx
    unfold Halted
    refine wp_list_each (by kernel_rfl) 4 49 rfl rfl (by kernel_rfl)
      [Fact.eq (.agg #[.bool q41, .slice A41 n41 c41]), Fact.eq (.agg #[.bool q31, .slice A31 n31 c31]), Fact.top _, Fact.top _]
      [.val, .val, .fillOld 0, .fillOld 1]
      (fun w' => IntA w' (.agg #[.bool sa1, .slice Aa1 na1 ca1]) (pa) n ∧ IntA w' (.agg #[.bool sa2, .slice Aa2 na2 ca2]) (qa) n ∧ Blk w' (w.heap.size) 26 #[.bool sa1, .slice Aa1 na1 ca1, .bool sa2, .slice Aa2 na2 ca2] ∧ Blk w' (w.heap.size + 1) 26 #[.bool false, .slice none 0 0, .bool false, .slice none 0 0] ∧ IntA w' (.agg #[.bool q2021, .slice A2021 n2021 c2021]) ((ofN pa qa)) n ∧ IntA w' (.agg #[.bool q2022, .slice A2022 n2022 c2022]) ((ofD pa qa)) n ∧ Blk w' (G2_2) 50 #[.bool q2021, .slice A2021 n2021 c2021, .bool q2022, .slice A2022 n2022 c2022] ∧ IntV w' (.agg #[.bool q31, .slice A31 n31 c31]) (((ofN pa qa) ^ k)) ∧ IntV w' (.agg #[.bool q41, .slice A41 n41 c41]) (((ofD pa qa) ^ k)) ∧ Below w.heap.size w w')
      (fun l b w' => match l with
        | 0 => if b = true then BoxI w' (W3.heap.size) ((ofD pa qa) ^ k) else Blk w' (W3.heap.size) 24 #[.bool q31, .slice A31 n31 c31]
        | 1 => if b = true then BoxI w' (W4.heap.size) ((ofN pa qa) ^ k) else Blk w' (W4.heap.size) 24 #[.bool q41, .slice A41 n41 c41]
        | _ => True)
      [2, 3] (fun l => match l with | 0 => W3.heap.size | 1 => W4.heap.size | _ => 0) (by kernel_rfl)
      ⟨Fa1.out, Fa2.out, Pa.out, R0.out, t6_1.out, t6_2.out, Xt6_.out, P.out, Q.out, HB.out⟩
      (fun w1 w2 ⟨h0, h1, h2, h3, h4, h5, h6, h7, h8, h9⟩ hb => ⟨h0.below hb, h1.below hb, h2.below hb, h3.below hb, h4.below hb, h5.below hb, h6.below hb, h7.below hb, h8.below hb, bw_step h9 hb⟩)
      (fun w1 w2 g ⟨h0, h1, h2, h3, h4, h5, h6, h7, h8, h9⟩ hg hn ho => by
        have hg' : (W4.alloc (.cells #[.bool q41, .slice A41 n41 c41] 24)).heap.size ≤ g ∨ g = W3.heap.size ∨ g = W4.heap.size := by
          rcases hg with h | ⟨l, hl, h⟩
          · exact .inl h
          · rcases l with _ | l
            · exact .inr (.inl h)
            · rcases l with _ | l
              · exact .inr (.inr h)
              · exact absurd hl (by simp)
        exact ⟨h0.only hn ho, h1.only hn ho, h2.only ho (by have := Pa.out.lt; have := R0.out.lt; have := Xt6_.out.lt; have := XP.out.lt; have := XQ.out.lt; omega), h3.only ho (by have := Pa.out.lt; have := R0.out.lt; have := Xt6_.out.lt; have := XP.out.lt; have := XQ.out.lt; omega), h4.only hn ho, h5.only hn ho, h6.only ho (by have := Pa.out.lt; have := R0.out.lt; have := Xt6_.out.lt; have := XP.out.lt; have := XQ.out.lt; omega), h7.only hn ho, h8.only hn ho, below_only h9 ho (by have := Pa.out.lt; have := R0.out.lt; have := Xt6_.out.lt; have := XP.out.lt; have := XQ.out.lt; have := HB.out.size; omega)⟩)
      (fun l hl => by
          rcases l with _ | l
          · exact XP.out
          rcases l with _ | l
          · exact XQ.out
          · exact absurd hl (by simp))
      (fun l b w1 w2 hl h hb => by
          rcases l with _ | l
          · (cases b <;> exact h.below hb)
          rcases l with _ | l
          · (cases b <;> exact h.below hb)
          · exact absurd hl (by simp))
      (fun l b w1 w2 g hl h hg hn ho => by
          rcases l with _ | l
          · (cases b; (exact h.only ho (Ne.symm hg)); (exact h.only (Ne.symm hg) hn ho))
          rcases l with _ | l
          · (cases b; (exact h.only ho (Ne.symm hg)); (exact h.only (Ne.symm hg) hn ho))
          · exact absurd hl (by simp))
      (fun l hl => by
          rcases l with _ | l
          · exact XP.out.lt
          rcases l with _ | l
          · exact XQ.out.lt
          · exact absurd hl (by simp))
      (fun l k hl hk hne => by
        have hh : W3.heap.size ≠ W4.heap.size := by omega
        have h1 : l = 0 ∨ l = 1 := by simp at hl; omega
        have h2 : k = 0 ∨ k = 1 := by simp at hk; omega
        rcases h1 with rfl | rfl <;> rcases h2 with rfl | rfl
        · exact absurd rfl hne
        · exact hh
        · exact Ne.symm hh
        · exact absurd rfl hne)
      ?_ ?_
    · refine ⟨?_, ?_, ?_, ?_, trivial⟩ <;> intro L V a1 w1 hf hG hsz hφ hψ hL hdep hcl
      · obtain ⟨Fa1_, Fa2_, Pa_, R0_, t6_1_, t6_2_, Xt6__, P_, Q_, HB_⟩ := hG
        have e9 := old_slot hf 9 (by kernel_rfl)
        have hb0 := hψ 1 (by decide)
        rw [show [2, 3].getD 1 0 = 3 from rfl, not_yet hcl 3 0 hL (by kernel_rfl)] at hb0
        exact ob_load_int rfl e9 hb0 rfl
      · obtain ⟨Fa1_, Fa2_, Pa_, R0_, t6_1_, t6_2_, Xt6__, P_, Q_, HB_⟩ := hG
        have e7 := old_slot hf 7 (by kernel_rfl)
        have hb0 := hψ 0 (by decide)
        rw [show [2, 3].getD 0 0 = 2 from rfl, not_yet hcl 2 1 hL (by kernel_rfl)] at hb0
        exact ob_load_int rfl e7 hb0 rfl
      · obtain ⟨Fa1_, Fa2_, Pa_, R0_, t6_1_, t6_2_, Xt6__, P_, Q_, HB_⟩ := hG
        have d0 := dep_of hdep 0 (by kernel_rfl)
        have e42 := (new_slot hf 0 42 d0 (by kernel_rfl)).trans (show V 0 = .agg #[.bool q41, .slice A41 n41 c41] from hφ 0 d0)
        have e7 := old_slot hf 7 (by kernel_rfl)
        have hb0 := hψ 0 (by decide)
        rw [show [2, 3].getD 0 0 = 2 from rfl, hL] at hb0
        exact ob_fillOld_int rfl e7 e42 hb0 Q_ (fun w2 h => h) rfl
      · obtain ⟨Fa1_, Fa2_, Pa_, R0_, t6_1_, t6_2_, Xt6__, P_, Q_, HB_⟩ := hG
        have d1 := dep_of hdep 1 (by kernel_rfl)
        have e43 := (new_slot hf 1 43 d1 (by kernel_rfl)).trans (show V 1 = .agg #[.bool q31, .slice A31 n31 c31] from hφ 1 d1)
        have e9 := old_slot hf 9 (by kernel_rfl)
        have hb0 := hψ 1 (by decide)
        rw [show [2, 3].getD 1 0 = 3 from rfl, hL] at hb0
        exact ob_fillOld_int rfl e9 e43 hb0 P_ (fun w2 h => h) rfl
    · intro V W5 hG hsz5 hφ hψ hne
      have hlt5 : (W4.alloc (.cells #[.bool q41, .slice A41 n41 c41] 24)).heap.size ≤ W5.heap.size := hsz5
      obtain ⟨Fa1_, Fa2_, Pa_, R0_, t6_1_, t6_2_, Xt6__, P_, Q_, HB_⟩ := hG
      have Fa1 := hid Fa1_
      have Fa2 := hid Fa2_
      have Pa := hid Pa_
      have R0 := hid R0_
      have t6_1 := hid t6_1_
      have t6_2 := hid t6_2_
      have Xt6_ := hid Xt6__
      have P := hid P_
      have Q := hid Q_
      have HB := hid HB_
      have y0 : V 0 = .agg #[.bool q41, .slice A41 n41 c41] := hφ 0 (by decide)
      have y1 : V 1 = .agg #[.bool q31, .slice A31 n31 c31] := hφ 1 (by decide)
      obtain ⟨q550, A550, n550, c550, kb550, vb550⟩ := hψ 0 (by decide)
      have XP := hid kb550
      have VXP := hid vb550
      clear kb550 vb550
      obtain ⟨q551, A551, n551, c551, kb551, vb551⟩ := hψ 1 (by decide)
      have XQ := hid kb551
      have VXQ := hid vb551
      clear kb551 vb551
      simp only [puts, Act.put, List.setIfInBounds_toArray, List.set_cons_zero, List.set_cons_succ, y0, y1]
      clear hφ hψ hne y0 y1 Fa1_ Fa2_ Pa_ R0_ t6_1_ t6_2_ Xt6__ P_ Q_ HB_ hsz5
      go_wp2_with (with_reducible refine halt_at 44 rfl ?_)
      unfold Halted
      refine wp_list_each (by kernel_rfl) 7 49 rfl rfl (by kernel_rfl)
        [Fact.eq (.agg #[.bool q550, .slice A550 n550 c550]), Fact.eq (.agg #[.bool q551, .slice A551 n551 c551]), Fact.pairB (.V 0) (.V 0) false, Fact.pair (.V 0) (.V 0), Fact.eq (.bool false), Fact.top _, Fact.eq (.bool false)]
        [.val, .val, .val, .val, .val, .fillOld 0, .val]
        (fun w' => IntA w' (.agg #[.bool sa1, .slice Aa1 na1 ca1]) (pa) n ∧ IntA w' (.agg #[.bool sa2, .slice Aa2 na2 ca2]) (qa) n ∧ Blk w' (w.heap.size) 26 #[.bool sa1, .slice Aa1 na1 ca1, .bool sa2, .slice Aa2 na2 ca2] ∧ IntA w' (.agg #[.bool q2021, .slice A2021 n2021 c2021]) ((ofN pa qa)) n ∧ IntA w' (.agg #[.bool q2022, .slice A2022 n2022 c2022]) ((ofD pa qa)) n ∧ Blk w' (G2_2) 50 #[.bool q2021, .slice A2021 n2021 c2021, .bool q2022, .slice A2022 n2022 c2022] ∧ IntV w' (.agg #[.bool q31, .slice A31 n31 c31]) (((ofN pa qa) ^ k)) ∧ Blk w' (W3.heap.size) 24 #[.bool q550, .slice A550 n550 c550] ∧ IntV w' (.agg #[.bool q41, .slice A41 n41 c41]) (((ofD pa qa) ^ k)) ∧ Blk w' (W4.heap.size) 24 #[.bool q551, .slice A551 n551 c551] ∧ IntV w' (.agg #[.bool q550, .slice A550 n550 c550]) (((ofD pa qa) ^ k)) ∧ IntV w' (.agg #[.bool q551, .slice A551 n551 c551]) (((ofN pa qa) ^ k)) ∧ Below w.heap.size w w')
        (fun l b w' => match l with
          | 0 => if b = true then BoxR w' (w.heap.size + 1) 26 (.V 0) (.V 0) else Blk w' (w.heap.size + 1) 26 #[.bool false, .slice none 0 0, .bool false, .slice none 0 0]
          | _ => True)
        [5] (fun l => match l with | 0 => w.heap.size + 1 | _ => 0) (by kernel_rfl)
        ⟨Fa1.out, Fa2.out, Pa.out, t6_1.out, t6_2.out, Xt6_.out, P.out, XP.out, Q.out, XQ.out, VXP.out, VXQ.out, HB.out⟩
        (fun w1 w2 ⟨h0, h1, h2, h3, h4, h5, h6, h7, h8, h9, h10, h11, h12⟩ hb => ⟨h0.below hb, h1.below hb, h2.below hb, h3.below hb, h4.below hb, h5.below hb, h6.below hb, h7.below hb, h8.below hb, h9.below hb, h10.below hb, h11.below hb, bw_step h12 hb⟩)
        (fun w1 w2 g ⟨h0, h1, h2, h3, h4, h5, h6, h7, h8, h9, h10, h11, h12⟩ hg hn ho => by
          have hg' : W5.heap.size ≤ g ∨ g = w.heap.size + 1 := by
            rcases hg with h | ⟨l, hl, h⟩
            · exact .inl h
            · rcases l with _ | l
              · exact .inr h
              · exact absurd hl (by simp)
          exact ⟨h0.only hn ho, h1.only hn ho, h2.only ho (by have := Pa.out.lt; have := R0.out.lt; have := Xt6_.out.lt; have := XP.out.lt; have := XQ.out.lt; omega), h3.only hn ho, h4.only hn ho, h5.only ho (by have := Pa.out.lt; have := R0.out.lt; have := Xt6_.out.lt; have := XP.out.lt; have := XQ.out.lt; omega), h6.only hn ho, h7.only ho (by have := Pa.out.lt; have := R0.out.lt; have := Xt6_.out.lt; have := XP.out.lt; have := XQ.out.lt; omega), h8.only hn ho, h9.only ho (by have := Pa.out.lt; have := R0.out.lt; have := Xt6_.out.lt; have := XP.out.lt; have := XQ.out.lt; omega), h10.only hn ho, h11.only hn ho, below_only h12 ho (by have := Pa.out.lt; have := R0.out.lt; have := Xt6_.out.lt; have := XP.out.lt; have := XQ.out.lt; have := HB.out.size; omega)⟩)
        (fun l hl => by
            rcases l with _ | l
            · exact R0.out
            · exact absurd hl (by simp))
        (fun l b w1 w2 hl h hb => by
            rcases l with _ | l
            · (cases b <;> exact h.below hb)
            · exact absurd hl (by simp))
        (fun l b w1 w2 g hl h hg hn ho => by
            rcases l with _ | l
            · (cases b; (exact h.only ho (Ne.symm hg)); (exact h.only (Ne.symm hg) hn ho))
            · exact absurd hl (by simp))
        (fun l hl => by
            rcases l with _ | l
            · exact R0.out.lt
            · exact absurd hl (by simp))
        (fun l k hl hk hne => by rcases l with _ | l <;> rcases k with _ | k <;> simp at hl hk hne)
        ?_ ?_
      · refine ⟨?_, ?_, ?_, ?_, ?_, ?_, ?_, trivial⟩ <;> intro L V a1 w1 hf hG hsz hφ hψ hL hdep hcl
        · obtain ⟨Fa1_, Fa2_, Pa_, t6_1_, t6_2_, Xt6__, P_, XP_, Q_, XQ_, VXP_, VXQ_, HB_⟩ := hG
          have e7 := old_slot hf 7 (by kernel_rfl)
          exact ob_load_int rfl e7 XP_ rfl
        · obtain ⟨Fa1_, Fa2_, Pa_, t6_1_, t6_2_, Xt6__, P_, XP_, Q_, XQ_, VXP_, VXQ_, HB_⟩ := hG
          have e9 := old_slot hf 9 (by kernel_rfl)
          exact ob_load_int rfl e9 XQ_ rfl
        · obtain ⟨Fa1_, Fa2_, Pa_, t6_1_, t6_2_, Xt6__, P_, XP_, Q_, XQ_, VXP_, VXQ_, HB_⟩ := hG
          have d0 := dep_of hdep 0 (by kernel_rfl)
          have e44 := (new_slot hf 0 44 d0 (by kernel_rfl)).trans (show V 0 = .agg #[.bool q550, .slice A550 n550 c550] from hφ 0 d0)
          have d1 := dep_of hdep 1 (by kernel_rfl)
          have e45 := (new_slot hf 1 45 d1 (by kernel_rfl)).trans (show V 1 = .agg #[.bool q551, .slice A551 n551 c551] from hφ 1 d1)
          refine ob_go rfl (vs := #[.agg #[.bool q550, .slice A550 n550 c550], .agg #[.bool q551, .slice A551 n551 c551]]) (by simp only [List.map_toArray, List.map_cons, List.map_nil, e44, e45]) (by kernel_rfl) (newR_any0 _ _ _ ((ofD pa qa) ^ k) ((ofN pa qa) ^ k) (n * 64 + 1) (IntV.arg VXP_ (Sm.to (SQ.out) (by omega))) (IntV.arg VXQ_ (Sm.to (SP.out) (by omega))) (by omega) (by rw [(of_zero_iff pa qa).2 HZ.out]; exact zero_pow' (by have := HKP.out; omega))) ?_
          rintro e w2 ⟨⟨v, rfl, hv⟩, hb⟩
          exact ⟨v, rfl, hb, hv⟩
        · obtain ⟨Fa1_, Fa2_, Pa_, t6_1_, t6_2_, Xt6__, P_, XP_, Q_, XQ_, VXP_, VXQ_, HB_⟩ := hG
          have d2 := dep_of hdep 2 (by kernel_rfl)
          have e46 := new_slot hf 2 46 d2 (by kernel_rfl)
          have p46 : PairB w1 (V 2) (.V 0) (.V 0) false := hφ 2 d2
          exact ob_pairB0 rfl e46 p46 rfl
        · obtain ⟨Fa1_, Fa2_, Pa_, t6_1_, t6_2_, Xt6__, P_, XP_, Q_, XQ_, VXP_, VXQ_, HB_⟩ := hG
          have d2 := dep_of hdep 2 (by kernel_rfl)
          have e46 := new_slot hf 2 46 d2 (by kernel_rfl)
          have p46 : PairB w1 (V 2) (.V 0) (.V 0) false := hφ 2 d2
          exact ob_pairB1 rfl e46 p46 rfl
        · obtain ⟨Fa1_, Fa2_, Pa_, t6_1_, t6_2_, Xt6__, P_, XP_, Q_, XQ_, VXP_, VXQ_, HB_⟩ := hG
          have d3 := dep_of hdep 3 (by kernel_rfl)
          have e47 := new_slot hf 3 47 d3 (by kernel_rfl)
          have p47 : Pair w1 (V 3) (.V 0) (.V 0) := hφ 3 d3
          have e4 := old_slot hf 4 (by kernel_rfl)
          have hb0 := hψ 0 (by decide)
          rw [show [5].getD 0 0 = 5 from rfl, hL] at hb0
          exact ob_fillOldR rfl e4 e47 hb0 p47 (fun w2 h => h) rfl
        · obtain ⟨Fa1_, Fa2_, Pa_, t6_1_, t6_2_, Xt6__, P_, XP_, Q_, XQ_, VXP_, VXQ_, HB_⟩ := hG
          have d4 := dep_of hdep 4 (by kernel_rfl)
          have e48 := (new_slot hf 4 48 d4 (by kernel_rfl)).trans (show V 4 = .bool false from hφ 4 d4)
          exact ob_pure (v := .bool false) (ex_assignV rfl e48) rfl
      · intro V W7 hG hsz7 hφ hψ hne
        have hlt7 : W5.heap.size ≤ W7.heap.size := hsz7
        obtain ⟨Fa1_, Fa2_, Pa_, t6_1_, t6_2_, Xt6__, P_, XP_, Q_, XQ_, VXP_, VXQ_, HB_⟩ := hG
        have Fa1 := hid Fa1_
        have Fa2 := hid Fa2_
        have Pa := hid Pa_
        have t6_1 := hid t6_1_
        have t6_2 := hid t6_2_
        have Xt6_ := hid Xt6__
        have P := hid P_
        have XP := hid XP_
        have Q := hid Q_
        have XQ := hid XQ_
        have VXP := hid VXP_
        have VXQ := hid VXQ_
        have HB := hid HB_
        have y0 : V 0 = .agg #[.bool q550, .slice A550 n550 c550] := hφ 0 (by decide)
        have y1 : V 1 = .agg #[.bool q551, .slice A551 n551 c551] := hφ 1 (by decide)
        have y4 : V 4 = .bool false := hφ 4 (by decide)
        have y6 : V 6 = .bool false := hφ 6 (by decide)
        obtain ⟨q7501, A7501, n7501, c7501, q7502, A7502, n7502, c7502, kb750, va750, vb750⟩ := hψ 0 (by decide)
        have R0 := hid kb750
        have R01 : Hid (IntV W7 (.agg #[.bool q7501, .slice A7501 n7501 c7501]) 0) := hid va750
        have R02 : Hid (IntV W7 (.agg #[.bool q7502, .slice A7502 n7502 c7502]) 0) := hid vb750
        clear kb750 va750 vb750
        simp only [puts, Act.put, List.setIfInBounds_toArray, List.set_cons_zero, List.set_cons_succ, y0, y1, y4, y6]
        clear hφ hψ hne y0 y1 y4 y6 Fa1_ Fa2_ Pa_ t6_1_ t6_2_ Xt6__ P_ XP_ Q_ XQ_ VXP_ VXQ_ HB_ hsz7
        have k0 := R0.out.cell 0
        have k1 := R0.out.cell 1
        have k2 := R0.out.cell 2
        have k3 := R0.out.cell 3
        go_wp2
        refine bodyPost_ret (v := .tuple #[.agg #[.bool q7501, .slice A7501 n7501 c7501, .bool q7502, .slice A7502 n7502 c7502], .bool false]) (by simp [results, Try.results20, go_sem, k0, k1, k2, k3]) rfl ⟨⟨_, rfl, _, rfl, ?_⟩, HB.out⟩
        exact Pair.mk (a := .V 0) (b := .V 0) R01.out R02.out
end Go.Proofs.Ytklamiajcdkmnaa

namespace Go.Proofs.Ytklamiajcdkmnaa
open Go.RowKit
set_option linter.unusedVariables false
set_option maxRecDepth 100000

theorem pow_pair {w : World} {v : Value} {x : Rat} {k : Nat} (h : Pair w v (.V (x.num ^ k)) (.V ((x.den : Int) ^ k))) : Pair w v (.V (x ^ k).num) (.V ((x ^ k).den : Int)) := by
  rw [Rat.num_pow, Rat.den_pow, Int.natCast_pow]; exact h

set_option maxHeartbeats 4000000 in
theorem rpowR_out (w : World) (va : Value) (x : Rat) (n : Nat) (ha : RatA w va x n) (h1n : 1 ≤ n) (hn : n ≤ 4000) (m : Int) (hr : m < -64 ∨ 64 < m) :
    Calls Try.prog 21 #[va, .int .i64 m] w fun e w' => (∃ u, e = .returned u ∧ PairB w' u (.V 0) (.V 0) false) ∧ Below w.heap.size w w' := by
  obtain ⟨pa, qa, ha, rfl⟩ := ha
  obtain ⟨sa1, Aa1, na1, ca1, sa2, Aa2, na2, ca2, rfl, h1, h2⟩ := ha.form
  have Fa1 : Hid (IntA w (.agg #[.bool sa1, .slice Aa1 na1 ca1]) pa n) := hid h1
  have Fa2 : Hid (IntA w (.agg #[.bool sa2, .slice Aa2 na2 ca2]) qa n) := hid h2
  have Sa1 := hid Fa1.out.sm
  have Sa2 := hid Fa2.out.sm
  clear h1 h2 ha
  have HB := hid (Below.refl w.heap.size w)
  obtain ⟨W, hW⟩ : ∃ W, W = ((w.alloc (.cells #[.bool sa1, .slice Aa1 na1 ca1, .bool sa2, .slice Aa2 na2 ca2] 26)).alloc (.cells #[.bool false, .slice none 0 0, .bool false, .slice none 0 0] 26)) := ⟨_, rfl⟩
  have hbb : Below w.heap.size w W := by rw [hW]; exact (bw_alloc (bw_alloc (Below.refl _ _) _) _)
  have HB := hid (bw_step HB.out hbb)
  have Fa1 := hid (Fa1.out.below hbb)
  have Fa2 := hid (Fa2.out.below hbb)
  have Pa : Hid (Blk W (w.heap.size) 26 #[.bool sa1, .slice Aa1 na1 ca1, .bool sa2, .slice Aa2 na2 ca2]) := by
    rw [hW]
    have := (Blk.new w 26 #[.bool sa1, .slice Aa1 na1 ca1, .bool sa2, .slice Aa2 na2 ca2]).below (bw_alloc (Below.refl _ _) (.cells #[.bool false, .slice none 0 0, .bool false, .slice none 0 0] 26))
    exact hid (by simpa only [World.size_alloc] using this)
  have R0 : Hid (Blk W (w.heap.size + 1) 26 #[.bool false, .slice none 0 0, .bool false, .slice none 0 0]) := by
    rw [hW]
    have := Blk.new (w.alloc (.cells #[.bool sa1, .slice Aa1 na1 ca1, .bool sa2, .slice Aa2 na2 ca2] 26)) 26 #[.bool false, .slice none 0 0, .bool false, .slice none 0 0]
    exact hid (by simpa only [World.size_alloc] using this)
  clear hbb
  have hr := hid hr
  rcases hr.out with h | h
  · have d1 : decide (m < (-64 : Int)) = true := by rw [decide_eq_true_eq]; exact h
    have c1 : m < -64 := h
    clear h
    go_enter Try.func21, Try.ntmps21
    go_wp2_with (with_reducible refine halt_at 19 rfl ?_)
    rw [← hW]
    clear hW
    unfold Halted
    refine wp_list_each (by kernel_rfl) 3 53 rfl rfl (by kernel_rfl)
      [Fact.eq (.agg #[.bool false, .slice none 0 0, .bool false, .slice none 0 0]), Fact.top _, Fact.eq (.bool false)]
      [.val, .fillOld 0, .val]
      (fun w' => IntA w' (.agg #[.bool sa1, .slice Aa1 na1 ca1]) (pa) n ∧ IntA w' (.agg #[.bool sa2, .slice Aa2 na2 ca2]) (qa) n ∧ Blk w' (w.heap.size) 26 #[.bool sa1, .slice Aa1 na1 ca1, .bool sa2, .slice Aa2 na2 ca2] ∧ Below w.heap.size w w')
      (fun l b w' => match l with
        | 0 => if b = true then BoxR w' (w.heap.size + 1) 26 (.V 0) (.V 0) else Blk w' (w.heap.size + 1) 26 #[.bool false, .slice none 0 0, .bool false, .slice none 0 0]
        | _ => True)
      [1] (fun l => match l with | 0 => w.heap.size + 1 | _ => 0) (by kernel_rfl)
      ⟨Fa1.out, Fa2.out, Pa.out, HB.out⟩
      (fun w1 w2 ⟨h0, h1, h2, h3⟩ hb => ⟨h0.below hb, h1.below hb, h2.below hb, bw_step h3 hb⟩)
      (fun w1 w2 g ⟨h0, h1, h2, h3⟩ hg hn ho => by
        have hg' : W.heap.size ≤ g ∨ g = w.heap.size + 1 := by
          rcases hg with h | ⟨l, hl, h⟩
          · exact .inl h
          · rcases l with _ | l
            · exact .inr h
            · exact absurd hl (by simp)
        exact ⟨h0.only hn ho, h1.only hn ho, h2.only ho (by have := Pa.out.lt; have := R0.out.lt; omega), below_only h3 ho (by have := Pa.out.lt; have := R0.out.lt; have := HB.out.size; omega)⟩)
      (fun l hl => by
          rcases l with _ | l
          · exact R0.out
          · exact absurd hl (by simp))
      (fun l b w1 w2 hl h hb => by
          rcases l with _ | l
          · (cases b <;> exact h.below hb)
          · exact absurd hl (by simp))
      (fun l b w1 w2 g hl h hg hn ho => by
          rcases l with _ | l
          · (cases b; (exact h.only ho (Ne.symm hg)); (exact h.only (Ne.symm hg) hn ho))
          · exact absurd hl (by simp))
      (fun l hl => by
          rcases l with _ | l
          · exact R0.out.lt
          · exact absurd hl (by simp))
      (fun l k hl hk hne => by rcases l with _ | l <;> rcases k with _ | k <;> simp at hl hk hne)
      ?_ ?_
    · refine ⟨?_, ?_, ?_, trivial⟩ <;> intro L V a1 w1 hf hG hsz hφ hψ hL hdep hcl
      · obtain ⟨Fa1_, Fa2_, Pa_, HB_⟩ := hG
        exact ob_pure (ex_zeroR rfl) rfl
      · obtain ⟨Fa1_, Fa2_, Pa_, HB_⟩ := hG
        have d0 := dep_of hdep 0 (by kernel_rfl)
        have e19 := (new_slot hf 0 19 d0 (by kernel_rfl)).trans (show V 0 = .agg #[.bool false, .slice none 0 0, .bool false, .slice none 0 0] from hφ 0 d0)
        have e4 := old_slot hf 4 (by kernel_rfl)
        have hb0 := hψ 0 (by decide)
        rw [show [1].getD 0 0 = 1 from rfl, hL] at hb0
        exact ob_fillOldR rfl e4 e19 hb0 (Pair.mk (a := .V 0) (b := .V 0) (IntV.zero _) (IntV.zero _)) (fun w2 h => h) rfl
      · obtain ⟨Fa1_, Fa2_, Pa_, HB_⟩ := hG
        exact ob_pure (v := .bool false) (ex_assignV rfl rfl) rfl
    · intro V W1 hG hsz1 hφ hψ hne
      have hlt1 : W.heap.size ≤ W1.heap.size := hsz1
      obtain ⟨Fa1_, Fa2_, Pa_, HB_⟩ := hG
      have Fa1 := hid Fa1_
      have Fa2 := hid Fa2_
      have Pa := hid Pa_
      have HB := hid HB_
      have y0 : V 0 = .agg #[.bool false, .slice none 0 0, .bool false, .slice none 0 0] := hφ 0 (by decide)
      have y2 : V 2 = .bool false := hφ 2 (by decide)
      obtain ⟨q1501, A1501, n1501, c1501, q1502, A1502, n1502, c1502, kb150, va150, vb150⟩ := hψ 0 (by decide)
      have R0 := hid kb150
      have R01 : Hid (IntV W1 (.agg #[.bool q1501, .slice A1501 n1501 c1501]) 0) := hid va150
      have R02 : Hid (IntV W1 (.agg #[.bool q1502, .slice A1502 n1502 c1502]) 0) := hid vb150
      clear kb150 va150 vb150
      simp only [puts, Act.put, List.setIfInBounds_toArray, List.set_cons_zero, List.set_cons_succ, y0, y2]
      clear hφ hψ hne y0 y2 Fa1_ Fa2_ Pa_ HB_ hsz1
      have k0 := R0.out.cell 0
      have k1 := R0.out.cell 1
      have k2 := R0.out.cell 2
      have k3 := R0.out.cell 3
      go_wp2
      refine bodyPost_ret (v := .tuple #[.agg #[.bool q1501, .slice A1501 n1501 c1501, .bool q1502, .slice A1502 n1502 c1502], .bool false]) (by simp [results, Try.results21, go_sem, k0, k1, k2, k3]) rfl ⟨⟨_, rfl, _, rfl, ?_⟩, HB.out⟩
      exact Pair.mk (a := .V 0) (b := .V 0) R01.out R02.out
  · have d1 : decide (m < (-64 : Int)) = false := by rw [decide_eq_false_iff_not]; omega
    have c1 : ¬ m < -64 := by omega
    have d2 : decide ((64 : Int) < m) = true := by rw [decide_eq_true_eq]; exact h
    have c2 : 64 < m := h
    clear h
    go_enter Try.func21, Try.ntmps21
    go_wp2_with (with_reducible refine halt_at 19 rfl ?_)
    rw [← hW]
    clear hW
    unfold Halted
    refine wp_list_each (by kernel_rfl) 3 53 rfl rfl (by kernel_rfl)
      [Fact.eq (.agg #[.bool false, .slice none 0 0, .bool false, .slice none 0 0]), Fact.top _, Fact.eq (.bool false)]
      [.val, .fillOld 0, .val]
      (fun w' => IntA w' (.agg #[.bool sa1, .slice Aa1 na1 ca1]) (pa) n ∧ IntA w' (.agg #[.bool sa2, .slice Aa2 na2 ca2]) (qa) n ∧ Blk w' (w.heap.size) 26 #[.bool sa1, .slice Aa1 na1 ca1, .bool sa2, .slice Aa2 na2 ca2] ∧ Below w.heap.size w w')
      (fun l b w' => match l with
        | 0 => if b = true then BoxR w' (w.heap.size + 1) 26 (.V 0) (.V 0) else Blk w' (w.heap.size + 1) 26 #[.bool false, .slice none 0 0, .bool false, .slice none 0 0]
        | _ => True)
      [1] (fun l => match l with | 0 => w.heap.size + 1 | _ => 0) (by kernel_rfl)
      ⟨Fa1.out, Fa2.out, Pa.out, HB.out⟩
      (fun w1 w2 ⟨h0, h1, h2, h3⟩ hb => ⟨h0.below hb, h1.below hb, h2.below hb, bw_step h3 hb⟩)
      (fun w1 w2 g ⟨h0, h1, h2, h3⟩ hg hn ho => by
        have hg' : W.heap.size ≤ g ∨ g = w.heap.size + 1 := by
          rcases hg with h | ⟨l, hl, h⟩
          · exact .inl h
          · rcases l with _ | l
            · exact .inr h
            · exact absurd hl (by simp)
        exact ⟨h0.only hn ho, h1.only hn ho, h2.only ho (by have := Pa.out.lt; have := R0.out.lt; omega), below_only h3 ho (by have := Pa.out.lt; have := R0.out.lt; have := HB.out.size; omega)⟩)
      (fun l hl => by
          rcases l with _ | l
          · exact R0.out
          · exact absurd hl (by simp))
      (fun l b w1 w2 hl h hb => by
          rcases l with _ | l
          · (cases b <;> exact h.below hb)
          · exact absurd hl (by simp))
      (fun l b w1 w2 g hl h hg hn ho => by
          rcases l with _ | l
          · (cases b; (exact h.only ho (Ne.symm hg)); (exact h.only (Ne.symm hg) hn ho))
          · exact absurd hl (by simp))
      (fun l hl => by
          rcases l with _ | l
          · exact R0.out.lt
          · exact absurd hl (by simp))
      (fun l k hl hk hne => by rcases l with _ | l <;> rcases k with _ | k <;> simp at hl hk hne)
      ?_ ?_
    · refine ⟨?_, ?_, ?_, trivial⟩ <;> intro L V a1 w1 hf hG hsz hφ hψ hL hdep hcl
      · obtain ⟨Fa1_, Fa2_, Pa_, HB_⟩ := hG
        exact ob_pure (ex_zeroR rfl) rfl
      · obtain ⟨Fa1_, Fa2_, Pa_, HB_⟩ := hG
        have d0 := dep_of hdep 0 (by kernel_rfl)
        have e19 := (new_slot hf 0 19 d0 (by kernel_rfl)).trans (show V 0 = .agg #[.bool false, .slice none 0 0, .bool false, .slice none 0 0] from hφ 0 d0)
        have e4 := old_slot hf 4 (by kernel_rfl)
        have hb0 := hψ 0 (by decide)
        rw [show [1].getD 0 0 = 1 from rfl, hL] at hb0
        exact ob_fillOldR rfl e4 e19 hb0 (Pair.mk (a := .V 0) (b := .V 0) (IntV.zero _) (IntV.zero _)) (fun w2 h => h) rfl
      · obtain ⟨Fa1_, Fa2_, Pa_, HB_⟩ := hG
        exact ob_pure (v := .bool false) (ex_assignV rfl rfl) rfl
    · intro V W1 hG hsz1 hφ hψ hne
      have hlt1 : W.heap.size ≤ W1.heap.size := hsz1
      obtain ⟨Fa1_, Fa2_, Pa_, HB_⟩ := hG
      have Fa1 := hid Fa1_
      have Fa2 := hid Fa2_
      have Pa := hid Pa_
      have HB := hid HB_
      have y0 : V 0 = .agg #[.bool false, .slice none 0 0, .bool false, .slice none 0 0] := hφ 0 (by decide)
      have y2 : V 2 = .bool false := hφ 2 (by decide)
      obtain ⟨q1501, A1501, n1501, c1501, q1502, A1502, n1502, c1502, kb150, va150, vb150⟩ := hψ 0 (by decide)
      have R0 := hid kb150
      have R01 : Hid (IntV W1 (.agg #[.bool q1501, .slice A1501 n1501 c1501]) 0) := hid va150
      have R02 : Hid (IntV W1 (.agg #[.bool q1502, .slice A1502 n1502 c1502]) 0) := hid vb150
      clear kb150 va150 vb150
      simp only [puts, Act.put, List.setIfInBounds_toArray, List.set_cons_zero, List.set_cons_succ, y0, y2]
      clear hφ hψ hne y0 y2 Fa1_ Fa2_ Pa_ HB_ hsz1
      have k0 := R0.out.cell 0
      have k1 := R0.out.cell 1
      have k2 := R0.out.cell 2
      have k3 := R0.out.cell 3
      go_wp2
      refine bodyPost_ret (v := .tuple #[.agg #[.bool q1501, .slice A1501 n1501 c1501, .bool q1502, .slice A1502 n1502 c1502], .bool false]) (by simp [results, Try.results21, go_sem, k0, k1, k2, k3]) rfl ⟨⟨_, rfl, _, rfl, ?_⟩, HB.out⟩
      exact Pair.mk (a := .V 0) (b := .V 0) R01.out R02.out
set_option maxHeartbeats 8000000 in
theorem rpowR_pos (w : World) (va : Value) (x : Rat) (n : Nat) (ha : RatA w va x n) (h1n : 1 ≤ n) (hn : n ≤ 4000) (k : Nat) (hk : k ≤ 64) :
    Calls Try.prog 21 #[va, .int .i64 (k : Int)] w fun e w' => (∃ u, e = .returned u ∧ PairB w' u (.V (x ^ k).num) (.V ((x ^ k).den : Int)) true) ∧ Below w.heap.size w w' := by
  obtain ⟨pa, qa, ha, rfl⟩ := ha
  obtain ⟨sa1, Aa1, na1, ca1, sa2, Aa2, na2, ca2, rfl, h1, h2⟩ := ha.form
  have Fa1 : Hid (IntA w (.agg #[.bool sa1, .slice Aa1 na1 ca1]) pa n) := hid h1
  have Fa2 : Hid (IntA w (.agg #[.bool sa2, .slice Aa2 na2 ca2]) qa n) := hid h2
  have Sa1 := hid Fa1.out.sm
  have Sa2 := hid Fa2.out.sm
  clear h1 h2 ha
  have HB := hid (Below.refl w.heap.size w)
  obtain ⟨W, hW⟩ : ∃ W, W = ((w.alloc (.cells #[.bool sa1, .slice Aa1 na1 ca1, .bool sa2, .slice Aa2 na2 ca2] 26)).alloc (.cells #[.bool false, .slice none 0 0, .bool false, .slice none 0 0] 26)) := ⟨_, rfl⟩
  have hbb : Below w.heap.size w W := by rw [hW]; exact (bw_alloc (bw_alloc (Below.refl _ _) _) _)
  have HB := hid (bw_step HB.out hbb)
  have Fa1 := hid (Fa1.out.below hbb)
  have Fa2 := hid (Fa2.out.below hbb)
  have Pa : Hid (Blk W (w.heap.size) 26 #[.bool sa1, .slice Aa1 na1 ca1, .bool sa2, .slice Aa2 na2 ca2]) := by
    rw [hW]
    have := (Blk.new w 26 #[.bool sa1, .slice Aa1 na1 ca1, .bool sa2, .slice Aa2 na2 ca2]).below (bw_alloc (Below.refl _ _) (.cells #[.bool false, .slice none 0 0, .bool false, .slice none 0 0] 26))
    exact hid (by simpa only [World.size_alloc] using this)
  have R0 : Hid (Blk W (w.heap.size + 1) 26 #[.bool false, .slice none 0 0, .bool false, .slice none 0 0]) := by
    rw [hW]
    have := Blk.new (w.alloc (.cells #[.bool sa1, .slice Aa1 na1 ca1, .bool sa2, .slice Aa2 na2 ca2] 26)) 26 #[.bool false, .slice none 0 0, .bool false, .slice none 0 0]
    exact hid (by simpa only [World.size_alloc] using this)
  clear hbb
  have HK := hid hk
  have hki : (k : Int) ≤ 64 := by omega
  have hk0 : (0 : Int) ≤ (k : Int) := by omega
  clear hk
  have d1 : decide ((k : Int) < (-64 : Int)) = false := by rw [decide_eq_false_iff_not]; omega
  have c1 : ¬ (k : Int) < -64 := by omega
  have d2 : decide ((64 : Int) < (k : Int)) = false := by rw [decide_eq_false_iff_not]; omega
  have c2 : ¬ 64 < (k : Int) := by omega
  have d3 : decide ((k : Int) < (0 : Int)) = false := by rw [decide_eq_false_iff_not]; omega
  have c3 : ¬ (k : Int) < 0 := by omega
  have HW := hid (show IntKind.i64.wrap (-(k : Int)) = -(k : Int) from by rw [wrap_i64' (by omega) (by omega)] <;> omega)
  go_enter Try.func21, Try.ntmps21
  go_wp2_with (with_reducible refine halt_at 20 rfl ?_)
  rw [← hW]
  clear hW
  have RS1 : Hid (RS n (Rat.divInt pa qa)) := hid ((RS.of (Sa1.out) (Sa2.out) (by omega)))
  have lt1_Pa := Pa.out.lt
  have lt1_R0 := R0.out.lt
  unfold Halted
  refine wp_list_each (by kernel_rfl) 4 53 rfl rfl (by kernel_rfl)
    [Fact.eq (.agg #[.bool sa1, .slice Aa1 na1 ca1, .bool sa2, .slice Aa2 na2 ca2]), Fact.pair (.V ((Rat.divInt pa qa)).num) (.V (((Rat.divInt pa qa)).den : Int)), Fact.boxR 26 Rne (.V ((Rat.divInt pa qa)).num) (.V (((Rat.divInt pa qa)).den : Int)), Fact.top _]
    [.val, .val, .alloc 3, .fill 2]
    (fun w' => IntA w' (.agg #[.bool sa1, .slice Aa1 na1 ca1]) (pa) n ∧ IntA w' (.agg #[.bool sa2, .slice Aa2 na2 ca2]) (qa) n ∧ Blk w' (w.heap.size) 26 #[.bool sa1, .slice Aa1 na1 ca1, .bool sa2, .slice Aa2 na2 ca2] ∧ Blk w' (w.heap.size + 1) 26 #[.bool false, .slice none 0 0, .bool false, .slice none 0 0] ∧ Below w.heap.size w w')
    (fun _ _ _ => True) [] (fun _ => 0) (by kernel_rfl)
    ⟨Fa1.out, Fa2.out, Pa.out, R0.out, HB.out⟩
    (fun w1 w2 ⟨h0, h1, h2, h3, h4⟩ hb => ⟨h0.below hb, h1.below hb, h2.below hb, h3.below hb, bw_step h4 hb⟩)
    (fun w1 w2 g ⟨h0, h1, h2, h3, h4⟩ hg hn ho => by
      have hg' : W.heap.size ≤ g := hg.elim id (fun ⟨_, h, _⟩ => absurd h (Nat.not_lt_zero _))
      exact ⟨h0.only hn ho, h1.only hn ho, h2.only ho (by have := Pa.out.lt; have := R0.out.lt; omega), h3.only ho (by have := Pa.out.lt; have := R0.out.lt; omega), below_only h4 ho (by have := Pa.out.lt; have := R0.out.lt; have := HB.out.size; omega)⟩)
    (fun l h => trivial) (fun l b w1 w2 h _ _ => trivial) (fun l b w1 w2 g h _ _ _ _ => trivial) (fun l h => by cases h) (fun l k h => by cases h) ?_ ?_
  · refine ⟨?_, ?_, ?_, ?_, trivial⟩ <;> intro L V a1 w1 hf hG hsz hφ hψ hL hdep hcl
    · obtain ⟨Fa1_, Fa2_, Pa_, R0_, HB_⟩ := hG
      have e2 := old_slot hf 2 (by kernel_rfl)
      exact ob_pure (ex_loadR rfl e2 Pa_) rfl
    · obtain ⟨Fa1_, Fa2_, Pa_, R0_, HB_⟩ := hG
      have d0 := dep_of hdep 0 (by kernel_rfl)
      have e20 := (new_slot hf 0 20 d0 (by kernel_rfl)).trans (show V 0 = .agg #[.bool sa1, .slice Aa1 na1 ca1, .bool sa2, .slice Aa2 na2 ca2] from hφ 0 d0)
      refine ob_go rfl (vs := #[.agg #[.bool sa1, .slice Aa1 na1 ca1, .bool sa2, .slice Aa2 na2 ca2]]) (by simp only [List.map_toArray, List.map_cons, List.map_nil, e20]) (by kernel_rfl) (rnormalizeR_any _ _ (Rat.divInt pa qa) n (RatA.of (Pair.mk (a := .A pa n) (b := .A qa n) Fa1_ Fa2_)) (by omega) (by omega)) ?_
      rintro e w2 ⟨⟨v, rfl, hv⟩, hb⟩
      exact ⟨v, rfl, hb, hv⟩
    · obtain ⟨Fa1_, Fa2_, Pa_, R0_, HB_⟩ := hG
      exact ob_allocR rfl hsz rfl
    · obtain ⟨Fa1_, Fa2_, Pa_, R0_, HB_⟩ := hG
      have d1 := dep_of hdep 1 (by kernel_rfl)
      have e21 := new_slot hf 1 21 d1 (by kernel_rfl)
      have p21 : Pair w1 (V 1) (.V ((Rat.divInt pa qa)).num) (.V (((Rat.divInt pa qa)).den : Int)) := hφ 1 d1
      have d2 := dep_of hdep 2 (by kernel_rfl)
      obtain ⟨g, h1, h2, h3, _⟩ := hφ 2 d2
      have hz := h3 (show (true && L 3) = false from by have h : L 3 = false := hL; rw [h]; rfl)
      exact ob_fillR rfl ((new_slot hf 2 6 d2 (by kernel_rfl)).trans h1) e21 h1 h2 hz p21 rfl rfl
  · intro V W2 hG hsz2 hφ hψ hne
    have hlt2 : W.heap.size ≤ W2.heap.size := hsz2
    obtain ⟨Fa1_, Fa2_, Pa_, R0_, HB_⟩ := hG
    have Fa1 := hid Fa1_
    have Fa2 := hid Fa2_
    have Pa := hid Pa_
    have R0 := hid R0_
    have HB := hid HB_
    have y0 : V 0 = .agg #[.bool sa1, .slice Aa1 na1 ca1, .bool sa2, .slice Aa2 na2 ca2] := hφ 0 (by decide)
    obtain ⟨G2_2, y2, gb202, _, hb202⟩ := hφ 2 (by decide)
    obtain ⟨q2021, A2021, n2021, c2021, q2022, A2022, n2022, c2022, kb202, va202, vb202⟩ := hb202 rfl
    have Xt6_ := hid kb202
    have t6_1 : Hid (IntV W2 (.agg #[.bool q2021, .slice A2021 n2021 c2021]) ((Rat.divInt pa qa)).num) := hid va202
    have t6_2 : Hid (IntV W2 (.agg #[.bool q2022, .slice A2022 n2022 c2022]) (((Rat.divInt pa qa)).den : Int)) := hid vb202
    clear kb202 va202 vb202
    clear hb202
    simp only [puts, Act.put, List.setIfInBounds_toArray, List.set_cons_zero, List.set_cons_succ, y0, y2, ptr]
    clear hφ hψ hne y0 y2 Fa1_ Fa2_ Pa_ R0_ HB_ hsz2
    have RX : Hid (RS n (Rat.divInt pa qa)) := hid (RS1.out)
    have v0 := Xt6_.out.cell 0
    have v1 := Xt6_.out.cell 1
    have v2 := Xt6_.out.cell 2
    have v3 := Xt6_.out.cell 3
    go_wp2_with fail
    refine (rpow_in _ _ ((Rat.divInt pa qa).num) n (by omega) k HK.out (IntV.arg (show IntV _ _ ((Rat.divInt pa qa).num) from t6_1.out) RX.out.1)).mono ?_
    rintro e W3 ⟨⟨v, rfl, hv⟩, hb3⟩
    have HB := hid (bw_step HB.out hb3)
    have Fa1 := hid (Fa1.out.below hb3)
    have Fa2 := hid (Fa2.out.below hb3)
    have Pa := hid (Pa.out.below hb3)
    have R0 := hid (R0.out.below hb3)
    have t6_1 := hid (t6_1.out.below hb3)
    have t6_2 := hid (t6_2.out.below hb3)
    have Xt6_ := hid (Xt6_.out.below hb3)
    clear hb3
    have lq3_Pa := Pa.out.lt
    have lq3_R0 := R0.out.lt
    have lq3_Xt6_ := Xt6_.out.lt
    have lq3 := HB.out.size
    obtain ⟨q31, A31, n31, c31, rfl⟩ := hv.form
    have P := hid hv
    clear hv
    have hbb := bw_alloc (Below.refl _ W3) (.cells #[.bool q31, .slice A31 n31 c31] 24)
    have XP := Blk.new W3 24 #[.bool q31, .slice A31 n31 c31]
    have HB := hid (bw_step HB.out hbb)
    have Fa1 := hid (Fa1.out.below hbb)
    have Fa2 := hid (Fa2.out.below hbb)
    have Pa := hid (Pa.out.below hbb)
    have R0 := hid (R0.out.below hbb)
    have t6_1 := hid (t6_1.out.below hbb)
    have t6_2 := hid (t6_2.out.below hbb)
    have Xt6_ := hid (Xt6_.out.below hbb)
    have P := hid (P.out.below hbb)
    have XP := hid XP
    clear hbb
    clear v0 v1 v2 v3
    have v0 := Xt6_.out.cell 0
    have v1 := Xt6_.out.cell 1
    have v2 := Xt6_.out.cell 2
    have v3 := Xt6_.out.cell 3
    go_wp2_with fail
    refine (rpow_in _ _ (((Rat.divInt pa qa).den : Int)) n (by omega) k HK.out (IntV.arg (show IntV _ _ (((Rat.divInt pa qa).den : Int)) from t6_2.out) RX.out.2)).mono ?_
    rintro e W4 ⟨⟨v, rfl, hv⟩, hb4⟩
    have HB := hid (bw_step HB.out hb4)
    have Fa1 := hid (Fa1.out.below hb4)
    have Fa2 := hid (Fa2.out.below hb4)
    have Pa := hid (Pa.out.below hb4)
    have R0 := hid (R0.out.below hb4)
    have t6_1 := hid (t6_1.out.below hb4)
    have t6_2 := hid (t6_2.out.below hb4)
    have Xt6_ := hid (Xt6_.out.below hb4)
    have P := hid (P.out.below hb4)
    have XP := hid (XP.out.below hb4)
    clear hb4
    have lq4_Pa := Pa.out.lt
    have lq4_R0 := R0.out.lt
    have lq4_Xt6_ := Xt6_.out.lt
    have lq4_XP := XP.out.lt
    have lq4 := HB.out.size
    obtain ⟨q41, A41, n41, c41, rfl⟩ := hv.form
    have Q := hid hv
    clear hv
    have hbb := bw_alloc (Below.refl _ W4) (.cells #[.bool q41, .slice A41 n41 c41] 24)
    have XQ := Blk.new W4 24 #[.bool q41, .slice A41 n41 c41]
    have HB := hid (bw_step HB.out hbb)
    have Fa1 := hid (Fa1.out.below hbb)
    have Fa2 := hid (Fa2.out.below hbb)
    have Pa := hid (Pa.out.below hbb)
    have R0 := hid (R0.out.below hbb)
    have t6_1 := hid (t6_1.out.below hbb)
    have t6_2 := hid (t6_2.out.below hbb)
    have Xt6_ := hid (Xt6_.out.below hbb)
    have P := hid (P.out.below hbb)
    have XP := hid (XP.out.below hbb)
    have Q := hid (Q.out.below hbb)
    have XQ := hid XQ
    clear hbb
    clear v0 v1 v2 v3
    go_wp2_with (with_reducible refine halt_at 50 rfl ?_)
    clear d1 d2 d3 c1 c2 c3
    unfold Halted
    refine wp_list_each (by kernel_rfl) 5 53 rfl rfl (by kernel_rfl)
      [Fact.eq (.agg #[.bool q31, .slice A31 n31 c31]), Fact.eq (.agg #[.bool q41, .slice A41 n41 c41]), Fact.pair (.V ((Rat.divInt pa qa).num ^ k)) (.V (((Rat.divInt pa qa).den : Int) ^ k)), Fact.top _, Fact.eq (.bool true)]
      [.val, .val, .val, .fillOld 0, .val]
      (fun w' => IntA w' (.agg #[.bool sa1, .slice Aa1 na1 ca1]) (pa) n ∧ IntA w' (.agg #[.bool sa2, .slice Aa2 na2 ca2]) (qa) n ∧ Blk w' (w.heap.size) 26 #[.bool sa1, .slice Aa1 na1 ca1, .bool sa2, .slice Aa2 na2 ca2] ∧ IntV w' (.agg #[.bool q2021, .slice A2021 n2021 c2021]) (((Rat.divInt pa qa)).num) ∧ IntV w' (.agg #[.bool q2022, .slice A2022 n2022 c2022]) ((((Rat.divInt pa qa)).den : Int)) ∧ Blk w' (G2_2) 26 #[.bool q2021, .slice A2021 n2021 c2021, .bool q2022, .slice A2022 n2022 c2022] ∧ IntV w' (.agg #[.bool q31, .slice A31 n31 c31]) (((Rat.divInt pa qa).num ^ k)) ∧ Blk w' (W3.heap.size) 24 #[.bool q31, .slice A31 n31 c31] ∧ IntV w' (.agg #[.bool q41, .slice A41 n41 c41]) ((((Rat.divInt pa qa).den : Int) ^ k)) ∧ Blk w' (W4.heap.size) 24 #[.bool q41, .slice A41 n41 c41] ∧ Below w.heap.size w w')
      (fun l b w' => match l with
        | 0 => if b = true then BoxR w' (w.heap.size + 1) 26 (.V ((Rat.divInt pa qa).num ^ k)) (.V (((Rat.divInt pa qa).den : Int) ^ k)) else Blk w' (w.heap.size + 1) 26 #[.bool false, .slice none 0 0, .bool false, .slice none 0 0]
        | _ => True)
      [3] (fun l => match l with | 0 => w.heap.size + 1 | _ => 0) (by kernel_rfl)
      ⟨Fa1.out, Fa2.out, Pa.out, t6_1.out, t6_2.out, Xt6_.out, P.out, XP.out, Q.out, XQ.out, HB.out⟩
      (fun w1 w2 ⟨h0, h1, h2, h3, h4, h5, h6, h7, h8, h9, h10⟩ hb => ⟨h0.below hb, h1.below hb, h2.below hb, h3.below hb, h4.below hb, h5.below hb, h6.below hb, h7.below hb, h8.below hb, h9.below hb, bw_step h10 hb⟩)
      (fun w1 w2 g ⟨h0, h1, h2, h3, h4, h5, h6, h7, h8, h9, h10⟩ hg hn ho => by
        have hg' : (W4.alloc (.cells #[.bool q41, .slice A41 n41 c41] 24)).heap.size ≤ g ∨ g = w.heap.size + 1 := by
          rcases hg with h | ⟨l, hl, h⟩
          · exact .inl h
          · rcases l with _ | l
            · exact .inr h
            · exact absurd hl (by simp)
        exact ⟨h0.only hn ho, h1.only hn ho, h2.only ho (by have := Pa.out.lt; have := R0.out.lt; have := Xt6_.out.lt; have := XP.out.lt; have := XQ.out.lt; omega), h3.only hn ho, h4.only hn ho, h5.only ho (by have := Pa.out.lt; have := R0.out.lt; have := Xt6_.out.lt; have := XP.out.lt; have := XQ.out.lt; omega), h6.only hn ho, h7.only ho (by have := Pa.out.lt; have := R0.out.lt; have := Xt6_.out.lt; have := XP.out.lt; have := XQ.out.lt; omega), h8.only hn ho, h9.only ho (by have := Pa.out.lt; have := R0.out.lt; have := Xt6_.out.lt; have := XP.out.lt; have := XQ.out.lt; omega), below_only h10 ho (by have := Pa.out.lt; have := R0.out.lt; have := Xt6_.out.lt; have := XP.out.lt; have := XQ.out.lt; have := HB.out.size; omega)⟩)
      (fun l hl => by
          rcases l with _ | l
          · exact R0.out
          · exact absurd hl (by simp))
      (fun l b w1 w2 hl h hb => by
          rcases l with _ | l
          · (cases b <;> exact h.below hb)
          · exact absurd hl (by simp))
      (fun l b w1 w2 g hl h hg hn ho => by
          rcases l with _ | l
          · (cases b; (exact h.only ho (Ne.symm hg)); (exact h.only (Ne.symm hg) hn ho))
          · exact absurd hl (by simp))
      (fun l hl => by
          rcases l with _ | l
          · exact R0.out.lt
          · exact absurd hl (by simp))
      (fun l k hl hk hne => by rcases l with _ | l <;> rcases k with _ | k <;> simp at hl hk hne)
      ?_ ?_
    · refine ⟨?_, ?_, ?_, ?_, ?_, trivial⟩ <;> intro L V a1 w1 hf hG hsz hφ hψ hL hdep hcl
      · obtain ⟨Fa1_, Fa2_, Pa_, t6_1_, t6_2_, Xt6__, P_, XP_, Q_, XQ_, HB_⟩ := hG
        have e9 := old_slot hf 9 (by kernel_rfl)
        exact ob_load_int rfl e9 XP_ rfl
      · obtain ⟨Fa1_, Fa2_, Pa_, t6_1_, t6_2_, Xt6__, P_, XP_, Q_, XQ_, HB_⟩ := hG
        have e11 := old_slot hf 11 (by kernel_rfl)
        exact ob_load_int rfl e11 XQ_ rfl
      · obtain ⟨Fa1_, Fa2_, Pa_, t6_1_, t6_2_, Xt6__, P_, XP_, Q_, XQ_, HB_⟩ := hG
        have d0 := dep_of hdep 0 (by kernel_rfl)
        have e50 := (new_slot hf 0 50 d0 (by kernel_rfl)).trans (show V 0 = .agg #[.bool q31, .slice A31 n31 c31] from hφ 0 d0)
        have d1 := dep_of hdep 1 (by kernel_rfl)
        have e51 := (new_slot hf 1 51 d1 (by kernel_rfl)).trans (show V 1 = .agg #[.bool q41, .slice A41 n41 c41] from hφ 1 d1)
        exact ob_buildR (A := .V ((Rat.divInt pa qa).num ^ k)) (B := .V (((Rat.divInt pa qa).den : Int) ^ k)) rfl e50 P_ e51 Q_ rfl
      · obtain ⟨Fa1_, Fa2_, Pa_, t6_1_, t6_2_, Xt6__, P_, XP_, Q_, XQ_, HB_⟩ := hG
        have d2 := dep_of hdep 2 (by kernel_rfl)
        have e52 := new_slot hf 2 52 d2 (by kernel_rfl)
        have p52 : Pair w1 (V 2) (.V ((Rat.divInt pa qa).num ^ k)) (.V (((Rat.divInt pa qa).den : Int) ^ k)) := hφ 2 d2
        have e4 := old_slot hf 4 (by kernel_rfl)
        have hb0 := hψ 0 (by decide)
        rw [show [3].getD 0 0 = 3 from rfl, hL] at hb0
        exact ob_fillOldR rfl e4 e52 hb0 p52 (fun w2 h => h) rfl
      · obtain ⟨Fa1_, Fa2_, Pa_, t6_1_, t6_2_, Xt6__, P_, XP_, Q_, XQ_, HB_⟩ := hG
        exact ob_pure (v := .bool true) (ex_assignV rfl rfl) rfl
    · intro V W5 hG hsz5 hφ hψ hne
      have hlt5 : (W4.alloc (.cells #[.bool q41, .slice A41 n41 c41] 24)).heap.size ≤ W5.heap.size := hsz5
      obtain ⟨Fa1_, Fa2_, Pa_, t6_1_, t6_2_, Xt6__, P_, XP_, Q_, XQ_, HB_⟩ := hG
      have Fa1 := hid Fa1_
      have Fa2 := hid Fa2_
      have Pa := hid Pa_
      have t6_1 := hid t6_1_
      have t6_2 := hid t6_2_
      have Xt6_ := hid Xt6__
      have P := hid P_
      have XP := hid XP_
      have Q := hid Q_
      have XQ := hid XQ_
      have HB := hid HB_
      have y0 : V 0 = .agg #[.bool q31, .slice A31 n31 c31] := hφ 0 (by decide)
      have y1 : V 1 = .agg #[.bool q41, .slice A41 n41 c41] := hφ 1 (by decide)
      have y4 : V 4 = .bool true := hφ 4 (by decide)
      obtain ⟨q5501, A5501, n5501, c5501, q5502, A5502, n5502, c5502, kb550, va550, vb550⟩ := hψ 0 (by decide)
      have R0 := hid kb550
      have R01 : Hid (IntV W5 (.agg #[.bool q5501, .slice A5501 n5501 c5501]) ((Rat.divInt pa qa).num ^ k)) := hid va550
      have R02 : Hid (IntV W5 (.agg #[.bool q5502, .slice A5502 n5502 c5502]) (((Rat.divInt pa qa).den : Int) ^ k)) := hid vb550
      clear kb550 va550 vb550
      simp only [puts, Act.put, List.setIfInBounds_toArray, List.set_cons_zero, List.set_cons_succ, y0, y1, y4]
      clear hφ hψ hne y0 y1 y4 Fa1_ Fa2_ Pa_ t6_1_ t6_2_ Xt6__ P_ XP_ Q_ XQ_ HB_ hsz5
      have k0 := R0.out.cell 0
      have k1 := R0.out.cell 1
      have k2 := R0.out.cell 2
      have k3 := R0.out.cell 3
      go_wp2
      refine bodyPost_ret (v := .tuple #[.agg #[.bool q5501, .slice A5501 n5501 c5501, .bool q5502, .slice A5502 n5502 c5502], .bool true]) (by simp [results, Try.results21, go_sem, k0, k1, k2, k3]) rfl ⟨⟨_, rfl, _, rfl, ?_⟩, HB.out⟩
      exact pow_pair (Pair.mk (a := .V ((Rat.divInt pa qa).num ^ k)) (b := .V (((Rat.divInt pa qa).den : Int) ^ k)) R01.out R02.out)
set_option maxHeartbeats 8000000 in
theorem rpowR_neg (w : World) (va : Value) (x : Rat) (n : Nat) (ha : RatA w va x n) (h1n : 1 ≤ n) (hn : n ≤ 4000) (k : Nat) (hk : k ≤ 64) (hp : 0 < k) (hz : x ≠ 0) :
    Calls Try.prog 21 #[va, .int .i64 (-(k : Int))] w fun e w' => (∃ u, e = .returned u ∧ PairB w' u (.V (inv1 x ^ k).num) (.V ((inv1 x ^ k).den : Int)) true) ∧ Below w.heap.size w w' := by
  obtain ⟨pa, qa, ha, rfl⟩ := ha
  obtain ⟨sa1, Aa1, na1, ca1, sa2, Aa2, na2, ca2, rfl, h1, h2⟩ := ha.form
  have Fa1 : Hid (IntA w (.agg #[.bool sa1, .slice Aa1 na1 ca1]) pa n) := hid h1
  have Fa2 : Hid (IntA w (.agg #[.bool sa2, .slice Aa2 na2 ca2]) qa n) := hid h2
  have Sa1 := hid Fa1.out.sm
  have Sa2 := hid Fa2.out.sm
  clear h1 h2 ha
  have HB := hid (Below.refl w.heap.size w)
  obtain ⟨W, hW⟩ : ∃ W, W = ((w.alloc (.cells #[.bool sa1, .slice Aa1 na1 ca1, .bool sa2, .slice Aa2 na2 ca2] 26)).alloc (.cells #[.bool false, .slice none 0 0, .bool false, .slice none 0 0] 26)) := ⟨_, rfl⟩
  have hbb : Below w.heap.size w W := by rw [hW]; exact (bw_alloc (bw_alloc (Below.refl _ _) _) _)
  have HB := hid (bw_step HB.out hbb)
  have Fa1 := hid (Fa1.out.below hbb)
  have Fa2 := hid (Fa2.out.below hbb)
  have Pa : Hid (Blk W (w.heap.size) 26 #[.bool sa1, .slice Aa1 na1 ca1, .bool sa2, .slice Aa2 na2 ca2]) := by
    rw [hW]
    have := (Blk.new w 26 #[.bool sa1, .slice Aa1 na1 ca1, .bool sa2, .slice Aa2 na2 ca2]).below (bw_alloc (Below.refl _ _) (.cells #[.bool false, .slice none 0 0, .bool false, .slice none 0 0] 26))
    exact hid (by simpa only [World.size_alloc] using this)
  have R0 : Hid (Blk W (w.heap.size + 1) 26 #[.bool false, .slice none 0 0, .bool false, .slice none 0 0]) := by
    rw [hW]
    have := Blk.new (w.alloc (.cells #[.bool sa1, .slice Aa1 na1 ca1, .bool sa2, .slice Aa2 na2 ca2] 26)) 26 #[.bool false, .slice none 0 0, .bool false, .slice none 0 0]
    exact hid (by simpa only [World.size_alloc] using this)
  clear hbb
  have HK := hid hk
  have hki : (k : Int) ≤ 64 := by omega
  have hkp : (0 : Int) < (k : Int) := by omega
  have HKP := hid hkp
  have HZ := hid hz
  clear hz hk hkp hp
  have d1 : decide ((-(k : Int)) < (-64 : Int)) = false := by rw [decide_eq_false_iff_not]; omega
  have c1 : ¬ (-(k : Int)) < -64 := by omega
  have d2 : decide ((64 : Int) < (-(k : Int))) = false := by rw [decide_eq_false_iff_not]; omega
  have c2 : ¬ 64 < (-(k : Int)) := by omega
  have d3 : decide ((-(k : Int)) < (0 : Int)) = true := by rw [decide_eq_true_eq]; have := HKP.out; omega
  have c3 : (-(k : Int)) < 0 := by have := HKP.out; omega
  have HW := hid (show IntKind.i64.wrap (-(-(k : Int))) = (k : Int) from by rw [wrap_i64' (by omega) (by omega)] <;> omega)
  go_enter Try.func21, Try.ntmps21
  go_wp2_with (with_reducible refine halt_at 20 rfl ?_)
  rw [← hW]
  clear hW
  have RS1 : Hid (RS n (Rat.divInt pa qa)) := hid ((RS.of (Sa1.out) (Sa2.out) (by omega)))
  have lt1_Pa := Pa.out.lt
  have lt1_R0 := R0.out.lt
  unfold Halted
  refine wp_list_each (by kernel_rfl) 4 53 rfl rfl (by kernel_rfl)
    [Fact.eq (.agg #[.bool sa1, .slice Aa1 na1 ca1, .bool sa2, .slice Aa2 na2 ca2]), Fact.pair (.V ((Rat.divInt pa qa)).num) (.V (((Rat.divInt pa qa)).den : Int)), Fact.boxR 26 Rne (.V ((Rat.divInt pa qa)).num) (.V (((Rat.divInt pa qa)).den : Int)), Fact.top _]
    [.val, .val, .alloc 3, .fill 2]
    (fun w' => IntA w' (.agg #[.bool sa1, .slice Aa1 na1 ca1]) (pa) n ∧ IntA w' (.agg #[.bool sa2, .slice Aa2 na2 ca2]) (qa) n ∧ Blk w' (w.heap.size) 26 #[.bool sa1, .slice Aa1 na1 ca1, .bool sa2, .slice Aa2 na2 ca2] ∧ Blk w' (w.heap.size + 1) 26 #[.bool false, .slice none 0 0, .bool false, .slice none 0 0] ∧ Below w.heap.size w w')
    (fun _ _ _ => True) [] (fun _ => 0) (by kernel_rfl)
    ⟨Fa1.out, Fa2.out, Pa.out, R0.out, HB.out⟩
    (fun w1 w2 ⟨h0, h1, h2, h3, h4⟩ hb => ⟨h0.below hb, h1.below hb, h2.below hb, h3.below hb, bw_step h4 hb⟩)
    (fun w1 w2 g ⟨h0, h1, h2, h3, h4⟩ hg hn ho => by
      have hg' : W.heap.size ≤ g := hg.elim id (fun ⟨_, h, _⟩ => absurd h (Nat.not_lt_zero _))
      exact ⟨h0.only hn ho, h1.only hn ho, h2.only ho (by have := Pa.out.lt; have := R0.out.lt; omega), h3.only ho (by have := Pa.out.lt; have := R0.out.lt; omega), below_only h4 ho (by have := Pa.out.lt; have := R0.out.lt; have := HB.out.size; omega)⟩)
    (fun l h => trivial) (fun l b w1 w2 h _ _ => trivial) (fun l b w1 w2 g h _ _ _ _ => trivial) (fun l h => by cases h) (fun l k h => by cases h) ?_ ?_
  · refine ⟨?_, ?_, ?_, ?_, trivial⟩ <;> intro L V a1 w1 hf hG hsz hφ hψ hL hdep hcl
    · obtain ⟨Fa1_, Fa2_, Pa_, R0_, HB_⟩ := hG
      have e2 := old_slot hf 2 (by kernel_rfl)
      exact ob_pure (ex_loadR rfl e2 Pa_) rfl
    · obtain ⟨Fa1_, Fa2_, Pa_, R0_, HB_⟩ := hG
      have d0 := dep_of hdep 0 (by kernel_rfl)
      have e20 := (new_slot hf 0 20 d0 (by kernel_rfl)).trans (show V 0 = .agg #[.bool sa1, .slice Aa1 na1 ca1, .bool sa2, .slice Aa2 na2 ca2] from hφ 0 d0)
      refine ob_go rfl (vs := #[.agg #[.bool sa1, .slice Aa1 na1 ca1, .bool sa2, .slice Aa2 na2 ca2]]) (by simp only [List.map_toArray, List.map_cons, List.map_nil, e20]) (by kernel_rfl) (rnormalizeR_any _ _ (Rat.divInt pa qa) n (RatA.of (Pair.mk (a := .A pa n) (b := .A qa n) Fa1_ Fa2_)) (by omega) (by omega)) ?_
      rintro e w2 ⟨⟨v, rfl, hv⟩, hb⟩
      exact ⟨v, rfl, hb, hv⟩
    · obtain ⟨Fa1_, Fa2_, Pa_, R0_, HB_⟩ := hG
      exact ob_allocR rfl hsz rfl
    · obtain ⟨Fa1_, Fa2_, Pa_, R0_, HB_⟩ := hG
      have d1 := dep_of hdep 1 (by kernel_rfl)
      have e21 := new_slot hf 1 21 d1 (by kernel_rfl)
      have p21 : Pair w1 (V 1) (.V ((Rat.divInt pa qa)).num) (.V (((Rat.divInt pa qa)).den : Int)) := hφ 1 d1
      have d2 := dep_of hdep 2 (by kernel_rfl)
      obtain ⟨g, h1, h2, h3, _⟩ := hφ 2 d2
      have hz := h3 (show (true && L 3) = false from by have h : L 3 = false := hL; rw [h]; rfl)
      exact ob_fillR rfl ((new_slot hf 2 6 d2 (by kernel_rfl)).trans h1) e21 h1 h2 hz p21 rfl rfl
  · intro V W2 hG hsz2 hφ hψ hne
    have hlt2 : W.heap.size ≤ W2.heap.size := hsz2
    obtain ⟨Fa1_, Fa2_, Pa_, R0_, HB_⟩ := hG
    have Fa1 := hid Fa1_
    have Fa2 := hid Fa2_
    have Pa := hid Pa_
    have R0 := hid R0_
    have HB := hid HB_
    have y0 : V 0 = .agg #[.bool sa1, .slice Aa1 na1 ca1, .bool sa2, .slice Aa2 na2 ca2] := hφ 0 (by decide)
    obtain ⟨G2_2, y2, gb202, _, hb202⟩ := hφ 2 (by decide)
    obtain ⟨q2021, A2021, n2021, c2021, q2022, A2022, n2022, c2022, kb202, va202, vb202⟩ := hb202 rfl
    have Xt6_ := hid kb202
    have t6_1 : Hid (IntV W2 (.agg #[.bool q2021, .slice A2021 n2021 c2021]) ((Rat.divInt pa qa)).num) := hid va202
    have t6_2 : Hid (IntV W2 (.agg #[.bool q2022, .slice A2022 n2022 c2022]) (((Rat.divInt pa qa)).den : Int)) := hid vb202
    clear kb202 va202 vb202
    clear hb202
    simp only [puts, Act.put, List.setIfInBounds_toArray, List.set_cons_zero, List.set_cons_succ, y0, y2, ptr]
    clear hφ hψ hne y0 y2 Fa1_ Fa2_ Pa_ R0_ HB_ hsz2
    go_wp2_with fail
    have RS3 : Hid (RS (n + n) (((1 : Int) : Rat) / (Rat.divInt pa qa))) := hid (((RS.int (Sm.one (n := 1) (by decide) (by decide)) (by decide))).div (RS1.out) (by omega) (by omega))
    have lt3_Pa := Pa.out.lt
    have lt3_R0 := R0.out.lt
    have lt3_Xt6_ := Xt6_.out.lt
    refine wp_region_each (by kernel_rfl) 9 53 rfl rfl (by kernel_rfl)
      [Fact.pair (.V (((1 : Int) : Rat)).num) (.V ((((1 : Int) : Rat)).den : Int)), Fact.eq (.agg #[.bool q2021, .slice A2021 n2021 c2021, .bool q2022, .slice A2022 n2022 c2022]), Fact.pairB (.V ((((1 : Int) : Rat) / (Rat.divInt pa qa))).num) (.V (((((1 : Int) : Rat) / (Rat.divInt pa qa))).den : Int)) true, Fact.pairB (.V ((((1 : Int) : Rat) / (Rat.divInt pa qa))).num) (.V (((((1 : Int) : Rat) / (Rat.divInt pa qa))).den : Int)) true, Fact.pair (.V ((((1 : Int) : Rat) / (Rat.divInt pa qa))).num) (.V (((((1 : Int) : Rat) / (Rat.divInt pa qa))).den : Int)), Fact.eq (.bool true), Fact.boxR 26 Rne (.V ((((1 : Int) : Rat) / (Rat.divInt pa qa))).num) (.V (((((1 : Int) : Rat) / (Rat.divInt pa qa))).den : Int)), Fact.top _, Fact.eq (.bool true)]
      [.val, .val, .val, .val, .val, .val, .alloc 7, .fill 6, .val]
      (fun w' => IntA w' (.agg #[.bool sa1, .slice Aa1 na1 ca1]) (pa) n ∧ IntA w' (.agg #[.bool sa2, .slice Aa2 na2 ca2]) (qa) n ∧ Blk w' (w.heap.size) 26 #[.bool sa1, .slice Aa1 na1 ca1, .bool sa2, .slice Aa2 na2 ca2] ∧ Blk w' (w.heap.size + 1) 26 #[.bool false, .slice none 0 0, .bool false, .slice none 0 0] ∧ IntV w' (.agg #[.bool q2021, .slice A2021 n2021 c2021]) (((Rat.divInt pa qa)).num) ∧ IntV w' (.agg #[.bool q2022, .slice A2022 n2022 c2022]) ((((Rat.divInt pa qa)).den : Int)) ∧ Blk w' (G2_2) 26 #[.bool q2021, .slice A2021 n2021 c2021, .bool q2022, .slice A2022 n2022 c2022] ∧ Below w.heap.size w w')
      (fun _ _ _ => True) [] (fun _ => 0) (by kernel_rfl)
      ⟨Fa1.out, Fa2.out, Pa.out, R0.out, t6_1.out, t6_2.out, Xt6_.out, HB.out⟩
      (fun w1 w2 ⟨h0, h1, h2, h3, h4, h5, h6, h7⟩ hb => ⟨h0.below hb, h1.below hb, h2.below hb, h3.below hb, h4.below hb, h5.below hb, h6.below hb, bw_step h7 hb⟩)
      (fun w1 w2 g ⟨h0, h1, h2, h3, h4, h5, h6, h7⟩ hg hn ho => by
        have hg' : W2.heap.size ≤ g := hg.elim id (fun ⟨_, h, _⟩ => absurd h (Nat.not_lt_zero _))
        exact ⟨h0.only hn ho, h1.only hn ho, h2.only ho (by have := Pa.out.lt; have := R0.out.lt; have := Xt6_.out.lt; omega), h3.only ho (by have := Pa.out.lt; have := R0.out.lt; have := Xt6_.out.lt; omega), h4.only hn ho, h5.only hn ho, h6.only ho (by have := Pa.out.lt; have := R0.out.lt; have := Xt6_.out.lt; omega), below_only h7 ho (by have := Pa.out.lt; have := R0.out.lt; have := Xt6_.out.lt; have := HB.out.size; omega)⟩)
      (fun l h => trivial) (fun l b w1 w2 h _ _ => trivial) (fun l b w1 w2 g h _ _ _ _ => trivial) (fun l h => by cases h) (fun l k h => by cases h) ?_ ?_
    · refine ⟨?_, ?_, ?_, ?_, ?_, ?_, ?_, ?_, ?_, trivial⟩ <;> intro L V a1 w1 hf hG hsz hφ hψ hL hdep hcl
      · obtain ⟨Fa1_, Fa2_, Pa_, R0_, t6_1_, t6_2_, Xt6__, HB_⟩ := hG
        refine ob_go rfl (vs := #[.int .i64 1]) (by simp only [List.map_toArray, List.map_cons, List.map_nil, ev_const]) (by kernel_rfl) (rsmallR_any _ 1 (by decide) (by decide)) ?_
        rintro e w2 ⟨⟨v, rfl, hv⟩, hb⟩
        exact ⟨v, rfl, hb, hv⟩
      · obtain ⟨Fa1_, Fa2_, Pa_, R0_, t6_1_, t6_2_, Xt6__, HB_⟩ := hG
        have e6 := old_slot hf 6 (by kernel_rfl)
        exact ob_pure (ex_loadR rfl e6 Xt6__) rfl
      · obtain ⟨Fa1_, Fa2_, Pa_, R0_, t6_1_, t6_2_, Xt6__, HB_⟩ := hG
        have d0 := dep_of hdep 0 (by kernel_rfl)
        have e25 := new_slot hf 0 25 d0 (by kernel_rfl)
        have p25 : Pair w1 (V 0) (.V (((1 : Int) : Rat)).num) (.V ((((1 : Int) : Rat)).den : Int)) := hφ 0 d0
        have d1 := dep_of hdep 1 (by kernel_rfl)
        have e26 := (new_slot hf 1 26 d1 (by kernel_rfl)).trans (show V 1 = .agg #[.bool q2021, .slice A2021 n2021 c2021, .bool q2022, .slice A2022 n2022 c2022] from hφ 1 d1)
        refine ob_go rfl (vs := #[V 0, .agg #[.bool q2021, .slice A2021 n2021 c2021, .bool q2022, .slice A2022 n2022 c2022]]) (by simp only [List.map_toArray, List.map_cons, List.map_nil, e25, e26]) (by kernel_rfl) (rquoR_any _ _ _ ((1 : Int) : Rat) (Rat.divInt pa qa) n (RatV.arg (x := ((1 : Int) : Rat)) p25 (((RS.int (Sm.one (n := 1) (by decide) (by decide)) (by decide))).to (by omega))) (RatV.arg (x := (Rat.divInt pa qa)) (Pair.mk (a := .V ((Rat.divInt pa qa)).num) (b := .V (((Rat.divInt pa qa)).den : Int)) t6_1_ t6_2_) ((RS1.out).to (by omega))) (by omega) (by omega) (HZ.out)) ?_
        rintro e w2 ⟨⟨v, rfl, hv⟩, hb⟩
        exact ⟨v, rfl, hb, hv⟩
      · obtain ⟨Fa1_, Fa2_, Pa_, R0_, t6_1_, t6_2_, Xt6__, HB_⟩ := hG
        have d2 := dep_of hdep 2 (by kernel_rfl)
        have e27 := new_slot hf 2 27 d2 (by kernel_rfl)
        have p27 : PairB w1 (V 2) (.V ((((1 : Int) : Rat) / (Rat.divInt pa qa))).num) (.V (((((1 : Int) : Rat) / (Rat.divInt pa qa))).den : Int)) true := hφ 2 d2
        exact ob_pure (ex_moveV rfl e27) (by exact p27)
      · obtain ⟨Fa1_, Fa2_, Pa_, R0_, t6_1_, t6_2_, Xt6__, HB_⟩ := hG
        have d3 := dep_of hdep 3 (by kernel_rfl)
        have e24 := new_slot hf 3 24 d3 (by kernel_rfl)
        have p24 : PairB w1 (V 3) (.V ((((1 : Int) : Rat) / (Rat.divInt pa qa))).num) (.V (((((1 : Int) : Rat) / (Rat.divInt pa qa))).den : Int)) true := hφ 3 d3
        exact ob_pairB0 rfl e24 p24 rfl
      · obtain ⟨Fa1_, Fa2_, Pa_, R0_, t6_1_, t6_2_, Xt6__, HB_⟩ := hG
        have d3 := dep_of hdep 3 (by kernel_rfl)
        have e24 := new_slot hf 3 24 d3 (by kernel_rfl)
        have p24 : PairB w1 (V 3) (.V ((((1 : Int) : Rat) / (Rat.divInt pa qa))).num) (.V (((((1 : Int) : Rat) / (Rat.divInt pa qa))).den : Int)) true := hφ 3 d3
        exact ob_pairB1 rfl e24 p24 rfl
      · obtain ⟨Fa1_, Fa2_, Pa_, R0_, t6_1_, t6_2_, Xt6__, HB_⟩ := hG
        exact ob_allocR rfl hsz rfl
      · obtain ⟨Fa1_, Fa2_, Pa_, R0_, t6_1_, t6_2_, Xt6__, HB_⟩ := hG
        have d4 := dep_of hdep 4 (by kernel_rfl)
        have e28 := new_slot hf 4 28 d4 (by kernel_rfl)
        have p28 : Pair w1 (V 4) (.V ((((1 : Int) : Rat) / (Rat.divInt pa qa))).num) (.V (((((1 : Int) : Rat) / (Rat.divInt pa qa))).den : Int)) := hφ 4 d4
        have d6 := dep_of hdep 6 (by kernel_rfl)
        obtain ⟨g, h1, h2, h3, _⟩ := hφ 6 d6
        have hz := h3 (show (true && L 7) = false from by have h : L 7 = false := hL; rw [h]; rfl)
        exact ob_fillR rfl ((new_slot hf 6 7 d6 (by kernel_rfl)).trans h1) e28 h1 h2 hz p28 rfl rfl
      · obtain ⟨Fa1_, Fa2_, Pa_, R0_, t6_1_, t6_2_, Xt6__, HB_⟩ := hG
        have d5 := dep_of hdep 5 (by kernel_rfl)
        have e29 := (new_slot hf 5 29 d5 (by kernel_rfl)).trans (show V 5 = .bool true from hφ 5 d5)
        exact ob_pure (v := .bool true) (ex_assignV rfl e29) rfl
    · intro V W4 hG hsz4 hφ hψ hne
      have hlt4 : W2.heap.size ≤ W4.heap.size := hsz4
      obtain ⟨Fa1_, Fa2_, Pa_, R0_, t6_1_, t6_2_, Xt6__, HB_⟩ := hG
      have Fa1 := hid Fa1_
      have Fa2 := hid Fa2_
      have Pa := hid Pa_
      have R0 := hid R0_
      have t6_1 := hid t6_1_
      have t6_2 := hid t6_2_
      have Xt6_ := hid Xt6__
      have HB := hid HB_
      have y1 : V 1 = .agg #[.bool q2021, .slice A2021 n2021 c2021, .bool q2022, .slice A2022 n2022 c2022] := hφ 1 (by decide)
      have y5 : V 5 = .bool true := hφ 5 (by decide)
      obtain ⟨G4_6, y6, gb406, _, hb406⟩ := hφ 6 (by decide)
      obtain ⟨q4061, A4061, n4061, c4061, q4062, A4062, n4062, c4062, kb406, va406, vb406⟩ := hb406 rfl
      have Xt7_ := hid kb406
      have t7_1 : Hid (IntV W4 (.agg #[.bool q4061, .slice A4061 n4061 c4061]) ((((1 : Int) : Rat) / (Rat.divInt pa qa))).num) := hid va406
      have t7_2 : Hid (IntV W4 (.agg #[.bool q4062, .slice A4062 n4062 c4062]) (((((1 : Int) : Rat) / (Rat.divInt pa qa))).den : Int)) := hid vb406
      clear kb406 va406 vb406
      clear hb406
      have y8 : V 8 = .bool true := hφ 8 (by decide)
      simp only [puts, Act.put, List.setIfInBounds_toArray, List.set_cons_zero, List.set_cons_succ, y1, y5, y6, y8, ptr]
      clear hφ hψ hne y1 y5 y6 y8 Fa1_ Fa2_ Pa_ R0_ t6_1_ t6_2_ Xt6__ HB_ hsz4
      have hw := HW.out
      have v0 := Xt7_.out.cell 0
      have v1 := Xt7_.out.cell 1
      have v2 := Xt7_.out.cell 2
      have v3 := Xt7_.out.cell 3
      have y0_ := Xt6_.out.cell 0
      have y1_ := Xt6_.out.cell 1
      have y2_ := Xt6_.out.cell 2
      have y3_ := Xt6_.out.cell 3
      have f0_ := Xt6_.out.free 0
      have f1_ := Xt6_.out.free 1
      have f2_ := Xt6_.out.free 2
      have f3_ := Xt6_.out.free 3
      go_wp2_with fail
      clear hw v0 v1 v2 v3 y0_ y1_ y2_ y3_ f0_ f1_ f2_ f3_
      have hnf := Xt6_.out.numFree (noNum4' _ _ _ _ _ _ _ _) (fun e => absurd e Rne)
      have hon := only_four W4 (G2_2) (.bool q4061) (.slice A4061 n4061 c4061) (.bool q4062) (.slice A4062 n4062 c4062)
      have Fa1 := hid (Fa1.out.only hnf hon)
      have Fa2 := hid (Fa2.out.only hnf hon)
      have Pa := hid (Pa.out.only hon (by have := Pa.out.lt; have := R0.out.lt; have := Xt6_.out.lt; have := Xt7_.out.lt; omega))
      have R0 := hid (R0.out.only hon (by have := Pa.out.lt; have := R0.out.lt; have := Xt6_.out.lt; have := Xt7_.out.lt; omega))
      have t6_1 := hid (t6_1.out.only hnf hon)
      have t6_2 := hid (t6_2.out.only hnf hon)
      have Xt6_ := hid (blk_four (x := .bool q4061) (y := .slice A4061 n4061 c4061) (z := .bool q4062) (t := .slice A4062 n4062 c4062) Xt6_.out)
      have t7_1 := hid (t7_1.out.only hnf hon)
      have t7_2 := hid (t7_2.out.only hnf hon)
      have Xt7_ := hid (Xt7_.out.only hon (by have := Pa.out.lt; have := R0.out.lt; have := Xt6_.out.lt; have := Xt7_.out.lt; omega))
      have HB := hid (below_only HB.out hon (by have := Pa.out.lt; have := R0.out.lt; have := Xt6_.out.lt; have := Xt7_.out.lt; have := HB.out.size; omega))
      clear hnf hon
      have RX : Hid (RS (n + n) (inv1 (Rat.divInt pa qa))) := hid (RS3.out)
      refine (rpow_in _ _ ((inv1 (Rat.divInt pa qa)).num) (n + n) (by omega) k HK.out (IntV.arg (show IntV _ _ ((inv1 (Rat.divInt pa qa)).num) from t7_1.out) RX.out.1)).mono ?_
      rintro e W5 ⟨⟨v, rfl, hv⟩, hb5⟩
      have HB := hid (bw_step HB.out hb5)
      have Fa1 := hid (Fa1.out.below hb5)
      have Fa2 := hid (Fa2.out.below hb5)
      have Pa := hid (Pa.out.below hb5)
      have R0 := hid (R0.out.below hb5)
      have t6_1 := hid (t6_1.out.below hb5)
      have t6_2 := hid (t6_2.out.below hb5)
      have Xt6_ := hid (Xt6_.out.below hb5)
      have t7_1 := hid (t7_1.out.below hb5)
      have t7_2 := hid (t7_2.out.below hb5)
      have Xt7_ := hid (Xt7_.out.below hb5)
      clear hb5
      have lq5_Pa := Pa.out.lt
      have lq5_R0 := R0.out.lt
      have lq5_Xt6_ := Xt6_.out.lt
      have lq5_Xt7_ := Xt7_.out.lt
      have lq5 := HB.out.size
      obtain ⟨q51, A51, n51, c51, rfl⟩ := hv.form
      have P := hid hv
      clear hv
      have hbb := bw_alloc (Below.refl _ W5) (.cells #[.bool q51, .slice A51 n51 c51] 24)
      have XP := Blk.new W5 24 #[.bool q51, .slice A51 n51 c51]
      have HB := hid (bw_step HB.out hbb)
      have Fa1 := hid (Fa1.out.below hbb)
      have Fa2 := hid (Fa2.out.below hbb)
      have Pa := hid (Pa.out.below hbb)
      have R0 := hid (R0.out.below hbb)
      have t6_1 := hid (t6_1.out.below hbb)
      have t6_2 := hid (t6_2.out.below hbb)
      have Xt6_ := hid (Xt6_.out.below hbb)
      have t7_1 := hid (t7_1.out.below hbb)
      have t7_2 := hid (t7_2.out.below hbb)
      have Xt7_ := hid (Xt7_.out.below hbb)
      have P := hid (P.out.below hbb)
      have XP := hid XP
      clear hbb
      have v0 := Xt6_.out.cell 0
      have v1 := Xt6_.out.cell 1
      have v2 := Xt6_.out.cell 2
      have v3 := Xt6_.out.cell 3
      go_wp2_with fail
      refine (rpow_in _ _ (((inv1 (Rat.divInt pa qa)).den : Int)) (n + n) (by omega) k HK.out (IntV.arg (show IntV _ _ (((inv1 (Rat.divInt pa qa)).den : Int)) from t7_2.out) RX.out.2)).mono ?_
      rintro e W6 ⟨⟨v, rfl, hv⟩, hb6⟩
      have HB := hid (bw_step HB.out hb6)
      have Fa1 := hid (Fa1.out.below hb6)
      have Fa2 := hid (Fa2.out.below hb6)
      have Pa := hid (Pa.out.below hb6)
      have R0 := hid (R0.out.below hb6)
      have t6_1 := hid (t6_1.out.below hb6)
      have t6_2 := hid (t6_2.out.below hb6)
      have Xt6_ := hid (Xt6_.out.below hb6)
      have t7_1 := hid (t7_1.out.below hb6)
      have t7_2 := hid (t7_2.out.below hb6)
      have Xt7_ := hid (Xt7_.out.below hb6)
      have P := hid (P.out.below hb6)
      have XP := hid (XP.out.below hb6)
      clear hb6
      have lq6_Pa := Pa.out.lt
      have lq6_R0 := R0.out.lt
      have lq6_Xt6_ := Xt6_.out.lt
      have lq6_Xt7_ := Xt7_.out.lt
      have lq6_XP := XP.out.lt
      have lq6 := HB.out.size
      obtain ⟨q61, A61, n61, c61, rfl⟩ := hv.form
      have Q := hid hv
      clear hv
      have hbb := bw_alloc (Below.refl _ W6) (.cells #[.bool q61, .slice A61 n61 c61] 24)
      have XQ := Blk.new W6 24 #[.bool q61, .slice A61 n61 c61]
      have HB := hid (bw_step HB.out hbb)
      have Fa1 := hid (Fa1.out.below hbb)
      have Fa2 := hid (Fa2.out.below hbb)
      have Pa := hid (Pa.out.below hbb)
      have R0 := hid (R0.out.below hbb)
      have t6_1 := hid (t6_1.out.below hbb)
      have t6_2 := hid (t6_2.out.below hbb)
      have Xt6_ := hid (Xt6_.out.below hbb)
      have t7_1 := hid (t7_1.out.below hbb)
      have t7_2 := hid (t7_2.out.below hbb)
      have Xt7_ := hid (Xt7_.out.below hbb)
      have P := hid (P.out.below hbb)
      have XP := hid (XP.out.below hbb)
      have Q := hid (Q.out.below hbb)
      have XQ := hid XQ
      clear hbb
      clear v0 v1 v2 v3
      go_wp2_with (with_reducible refine halt_at 50 rfl ?_)
      clear d1 d2 d3 c1 c2 c3
      unfold Halted
      refine wp_list_each (by kernel_rfl) 5 53 rfl rfl (by kernel_rfl)
        [Fact.eq (.agg #[.bool q51, .slice A51 n51 c51]), Fact.eq (.agg #[.bool q61, .slice A61 n61 c61]), Fact.pair (.V ((inv1 (Rat.divInt pa qa)).num ^ k)) (.V (((inv1 (Rat.divInt pa qa)).den : Int) ^ k)), Fact.top _, Fact.eq (.bool true)]
        [.val, .val, .val, .fillOld 0, .val]
        (fun w' => IntA w' (.agg #[.bool sa1, .slice Aa1 na1 ca1]) (pa) n ∧ IntA w' (.agg #[.bool sa2, .slice Aa2 na2 ca2]) (qa) n ∧ Blk w' (w.heap.size) 26 #[.bool sa1, .slice Aa1 na1 ca1, .bool sa2, .slice Aa2 na2 ca2] ∧ IntV w' (.agg #[.bool q2021, .slice A2021 n2021 c2021]) (((Rat.divInt pa qa)).num) ∧ IntV w' (.agg #[.bool q2022, .slice A2022 n2022 c2022]) ((((Rat.divInt pa qa)).den : Int)) ∧ Blk w' (G2_2) 26 #[.bool q4061, .slice A4061 n4061 c4061, .bool q4062, .slice A4062 n4062 c4062] ∧ IntV w' (.agg #[.bool q4061, .slice A4061 n4061 c4061]) (((((1 : Int) : Rat) / (Rat.divInt pa qa))).num) ∧ IntV w' (.agg #[.bool q4062, .slice A4062 n4062 c4062]) ((((((1 : Int) : Rat) / (Rat.divInt pa qa))).den : Int)) ∧ Blk w' (G4_6) 26 #[.bool q4061, .slice A4061 n4061 c4061, .bool q4062, .slice A4062 n4062 c4062] ∧ IntV w' (.agg #[.bool q51, .slice A51 n51 c51]) (((inv1 (Rat.divInt pa qa)).num ^ k)) ∧ Blk w' (W5.heap.size) 24 #[.bool q51, .slice A51 n51 c51] ∧ IntV w' (.agg #[.bool q61, .slice A61 n61 c61]) ((((inv1 (Rat.divInt pa qa)).den : Int) ^ k)) ∧ Blk w' (W6.heap.size) 24 #[.bool q61, .slice A61 n61 c61] ∧ Below w.heap.size w w')
        (fun l b w' => match l with
          | 0 => if b = true then BoxR w' (w.heap.size + 1) 26 (.V ((inv1 (Rat.divInt pa qa)).num ^ k)) (.V (((inv1 (Rat.divInt pa qa)).den : Int) ^ k)) else Blk w' (w.heap.size + 1) 26 #[.bool false, .slice none 0 0, .bool false, .slice none 0 0]
          | _ => True)
        [3] (fun l => match l with | 0 => w.heap.size + 1 | _ => 0) (by kernel_rfl)
        ⟨Fa1.out, Fa2.out, Pa.out, t6_1.out, t6_2.out, Xt6_.out, t7_1.out, t7_2.out, Xt7_.out, P.out, XP.out, Q.out, XQ.out, HB.out⟩
        (fun w1 w2 ⟨h0, h1, h2, h3, h4, h5, h6, h7, h8, h9, h10, h11, h12, h13⟩ hb => ⟨h0.below hb, h1.below hb, h2.below hb, h3.below hb, h4.below hb, h5.below hb, h6.below hb, h7.below hb, h8.below hb, h9.below hb, h10.below hb, h11.below hb, h12.below hb, bw_step h13 hb⟩)
        (fun w1 w2 g ⟨h0, h1, h2, h3, h4, h5, h6, h7, h8, h9, h10, h11, h12, h13⟩ hg hn ho => by
          have hg' : (W6.alloc (.cells #[.bool q61, .slice A61 n61 c61] 24)).heap.size ≤ g ∨ g = w.heap.size + 1 := by
            rcases hg with h | ⟨l, hl, h⟩
            · exact .inl h
            · rcases l with _ | l
              · exact .inr h
              · exact absurd hl (by simp)
          exact ⟨h0.only hn ho, h1.only hn ho, h2.only ho (by have := Pa.out.lt; have := R0.out.lt; have := Xt6_.out.lt; have := Xt7_.out.lt; have := XP.out.lt; have := XQ.out.lt; omega), h3.only hn ho, h4.only hn ho, h5.only ho (by have := Pa.out.lt; have := R0.out.lt; have := Xt6_.out.lt; have := Xt7_.out.lt; have := XP.out.lt; have := XQ.out.lt; omega), h6.only hn ho, h7.only hn ho, h8.only ho (by have := Pa.out.lt; have := R0.out.lt; have := Xt6_.out.lt; have := Xt7_.out.lt; have := XP.out.lt; have := XQ.out.lt; omega), h9.only hn ho, h10.only ho (by have := Pa.out.lt; have := R0.out.lt; have := Xt6_.out.lt; have := Xt7_.out.lt; have := XP.out.lt; have := XQ.out.lt; omega), h11.only hn ho, h12.only ho (by have := Pa.out.lt; have := R0.out.lt; have := Xt6_.out.lt; have := Xt7_.out.lt; have := XP.out.lt; have := XQ.out.lt; omega), below_only h13 ho (by have := Pa.out.lt; have := R0.out.lt; have := Xt6_.out.lt; have := Xt7_.out.lt; have := XP.out.lt; have := XQ.out.lt; have := HB.out.size; omega)⟩)
        (fun l hl => by
            rcases l with _ | l
            · exact R0.out
            · exact absurd hl (by simp))
        (fun l b w1 w2 hl h hb => by
            rcases l with _ | l
            · (cases b <;> exact h.below hb)
            · exact absurd hl (by simp))
        (fun l b w1 w2 g hl h hg hn ho => by
            rcases l with _ | l
            · (cases b; (exact h.only ho (Ne.symm hg)); (exact h.only (Ne.symm hg) hn ho))
            · exact absurd hl (by simp))
        (fun l hl => by
            rcases l with _ | l
            · exact R0.out.lt
            · exact absurd hl (by simp))
        (fun l k hl hk hne => by rcases l with _ | l <;> rcases k with _ | k <;> simp at hl hk hne)
        ?_ ?_
      · refine ⟨?_, ?_, ?_, ?_, ?_, trivial⟩ <;> intro L V a1 w1 hf hG hsz hφ hψ hL hdep hcl
        · obtain ⟨Fa1_, Fa2_, Pa_, t6_1_, t6_2_, Xt6__, t7_1_, t7_2_, Xt7__, P_, XP_, Q_, XQ_, HB_⟩ := hG
          have e9 := old_slot hf 9 (by kernel_rfl)
          exact ob_load_int rfl e9 XP_ rfl
        · obtain ⟨Fa1_, Fa2_, Pa_, t6_1_, t6_2_, Xt6__, t7_1_, t7_2_, Xt7__, P_, XP_, Q_, XQ_, HB_⟩ := hG
          have e11 := old_slot hf 11 (by kernel_rfl)
          exact ob_load_int rfl e11 XQ_ rfl
        · obtain ⟨Fa1_, Fa2_, Pa_, t6_1_, t6_2_, Xt6__, t7_1_, t7_2_, Xt7__, P_, XP_, Q_, XQ_, HB_⟩ := hG
          have d0 := dep_of hdep 0 (by kernel_rfl)
          have e50 := (new_slot hf 0 50 d0 (by kernel_rfl)).trans (show V 0 = .agg #[.bool q51, .slice A51 n51 c51] from hφ 0 d0)
          have d1 := dep_of hdep 1 (by kernel_rfl)
          have e51 := (new_slot hf 1 51 d1 (by kernel_rfl)).trans (show V 1 = .agg #[.bool q61, .slice A61 n61 c61] from hφ 1 d1)
          exact ob_buildR (A := .V ((inv1 (Rat.divInt pa qa)).num ^ k)) (B := .V (((inv1 (Rat.divInt pa qa)).den : Int) ^ k)) rfl e50 P_ e51 Q_ rfl
        · obtain ⟨Fa1_, Fa2_, Pa_, t6_1_, t6_2_, Xt6__, t7_1_, t7_2_, Xt7__, P_, XP_, Q_, XQ_, HB_⟩ := hG
          have d2 := dep_of hdep 2 (by kernel_rfl)
          have e52 := new_slot hf 2 52 d2 (by kernel_rfl)
          have p52 : Pair w1 (V 2) (.V ((inv1 (Rat.divInt pa qa)).num ^ k)) (.V (((inv1 (Rat.divInt pa qa)).den : Int) ^ k)) := hφ 2 d2
          have e4 := old_slot hf 4 (by kernel_rfl)
          have hb0 := hψ 0 (by decide)
          rw [show [3].getD 0 0 = 3 from rfl, hL] at hb0
          exact ob_fillOldR rfl e4 e52 hb0 p52 (fun w2 h => h) rfl
        · obtain ⟨Fa1_, Fa2_, Pa_, t6_1_, t6_2_, Xt6__, t7_1_, t7_2_, Xt7__, P_, XP_, Q_, XQ_, HB_⟩ := hG
          exact ob_pure (v := .bool true) (ex_assignV rfl rfl) rfl
      · intro V W7 hG hsz7 hφ hψ hne
        have hlt7 : (W6.alloc (.cells #[.bool q61, .slice A61 n61 c61] 24)).heap.size ≤ W7.heap.size := hsz7
        obtain ⟨Fa1_, Fa2_, Pa_, t6_1_, t6_2_, Xt6__, t7_1_, t7_2_, Xt7__, P_, XP_, Q_, XQ_, HB_⟩ := hG
        have Fa1 := hid Fa1_
        have Fa2 := hid Fa2_
        have Pa := hid Pa_
        have t6_1 := hid t6_1_
        have t6_2 := hid t6_2_
        have Xt6_ := hid Xt6__
        have t7_1 := hid t7_1_
        have t7_2 := hid t7_2_
        have Xt7_ := hid Xt7__
        have P := hid P_
        have XP := hid XP_
        have Q := hid Q_
        have XQ := hid XQ_
        have HB := hid HB_
        have y0 : V 0 = .agg #[.bool q51, .slice A51 n51 c51] := hφ 0 (by decide)
        have y1 : V 1 = .agg #[.bool q61, .slice A61 n61 c61] := hφ 1 (by decide)
        have y4 : V 4 = .bool true := hφ 4 (by decide)
        obtain ⟨q7501, A7501, n7501, c7501, q7502, A7502, n7502, c7502, kb750, va750, vb750⟩ := hψ 0 (by decide)
        have R0 := hid kb750
        have R01 : Hid (IntV W7 (.agg #[.bool q7501, .slice A7501 n7501 c7501]) ((inv1 (Rat.divInt pa qa)).num ^ k)) := hid va750
        have R02 : Hid (IntV W7 (.agg #[.bool q7502, .slice A7502 n7502 c7502]) (((inv1 (Rat.divInt pa qa)).den : Int) ^ k)) := hid vb750
        clear kb750 va750 vb750
        simp only [puts, Act.put, List.setIfInBounds_toArray, List.set_cons_zero, List.set_cons_succ, y0, y1, y4]
        clear hφ hψ hne y0 y1 y4 Fa1_ Fa2_ Pa_ t6_1_ t6_2_ Xt6__ t7_1_ t7_2_ Xt7__ P_ XP_ Q_ XQ_ HB_ hsz7
        have k0 := R0.out.cell 0
        have k1 := R0.out.cell 1
        have k2 := R0.out.cell 2
        have k3 := R0.out.cell 3
        go_wp2
        refine bodyPost_ret (v := .tuple #[.agg #[.bool q7501, .slice A7501 n7501 c7501, .bool q7502, .slice A7502 n7502 c7502], .bool true]) (by simp [results, Try.results21, go_sem, k0, k1, k2, k3]) rfl ⟨⟨_, rfl, _, rfl, ?_⟩, HB.out⟩
        exact pow_pair (Pair.mk (a := .V ((inv1 (Rat.divInt pa qa)).num ^ k)) (b := .V (((inv1 (Rat.divInt pa qa)).den : Int) ^ k)) R01.out R02.out)
set_option maxHeartbeats 8000000 in
theorem rpowR_negz (w : World) (va : Value) (x : Rat) (n : Nat) (ha : RatA w va x n) (h1n : 1 ≤ n) (hn : n ≤ 4000) (k : Nat) (hk : k ≤ 64) (hp : 0 < k) (hz : x = 0) :
    Calls Try.prog 21 #[va, .int .i64 (-(k : Int))] w fun e w' => (∃ u, e = .returned u ∧ PairB w' u (.V 0) (.V 0) false) ∧ Below w.heap.size w w' := by
  obtain ⟨pa, qa, ha, rfl⟩ := ha
  obtain ⟨sa1, Aa1, na1, ca1, sa2, Aa2, na2, ca2, rfl, h1, h2⟩ := ha.form
  have Fa1 : Hid (IntA w (.agg #[.bool sa1, .slice Aa1 na1 ca1]) pa n) := hid h1
  have Fa2 : Hid (IntA w (.agg #[.bool sa2, .slice Aa2 na2 ca2]) qa n) := hid h2
  have Sa1 := hid Fa1.out.sm
  have Sa2 := hid Fa2.out.sm
  clear h1 h2 ha
  have HB := hid (Below.refl w.heap.size w)
  obtain ⟨W, hW⟩ : ∃ W, W = ((w.alloc (.cells #[.bool sa1, .slice Aa1 na1 ca1, .bool sa2, .slice Aa2 na2 ca2] 26)).alloc (.cells #[.bool false, .slice none 0 0, .bool false, .slice none 0 0] 26)) := ⟨_, rfl⟩
  have hbb : Below w.heap.size w W := by rw [hW]; exact (bw_alloc (bw_alloc (Below.refl _ _) _) _)
  have HB := hid (bw_step HB.out hbb)
  have Fa1 := hid (Fa1.out.below hbb)
  have Fa2 := hid (Fa2.out.below hbb)
  have Pa : Hid (Blk W (w.heap.size) 26 #[.bool sa1, .slice Aa1 na1 ca1, .bool sa2, .slice Aa2 na2 ca2]) := by
    rw [hW]
    have := (Blk.new w 26 #[.bool sa1, .slice Aa1 na1 ca1, .bool sa2, .slice Aa2 na2 ca2]).below (bw_alloc (Below.refl _ _) (.cells #[.bool false, .slice none 0 0, .bool false, .slice none 0 0] 26))
    exact hid (by simpa only [World.size_alloc] using this)
  have R0 : Hid (Blk W (w.heap.size + 1) 26 #[.bool false, .slice none 0 0, .bool false, .slice none 0 0]) := by
    rw [hW]
    have := Blk.new (w.alloc (.cells #[.bool sa1, .slice Aa1 na1 ca1, .bool sa2, .slice Aa2 na2 ca2] 26)) 26 #[.bool false, .slice none 0 0, .bool false, .slice none 0 0]
    exact hid (by simpa only [World.size_alloc] using this)
  clear hbb
  have HK := hid hk
  have hki : (k : Int) ≤ 64 := by omega
  have hkp : (0 : Int) < (k : Int) := by omega
  have HKP := hid hkp
  have HZ := hid hz
  clear hz hk hkp hp
  have d1 : decide ((-(k : Int)) < (-64 : Int)) = false := by rw [decide_eq_false_iff_not]; omega
  have c1 : ¬ (-(k : Int)) < -64 := by omega
  have d2 : decide ((64 : Int) < (-(k : Int))) = false := by rw [decide_eq_false_iff_not]; omega
  have c2 : ¬ 64 < (-(k : Int)) := by omega
  have d3 : decide ((-(k : Int)) < (0 : Int)) = true := by rw [decide_eq_true_eq]; have := HKP.out; omega
  have c3 : (-(k : Int)) < 0 := by have := HKP.out; omega
  have HW := hid (show IntKind.i64.wrap (-(-(k : Int))) = (k : Int) from by rw [wrap_i64' (by omega) (by omega)] <;> omega)
  go_enter Try.func21, Try.ntmps21
  go_wp2_with (with_reducible refine halt_at 20 rfl ?_)
  rw [← hW]
  clear hW
  have RS1 : Hid (RS n (Rat.divInt pa qa)) := hid ((RS.of (Sa1.out) (Sa2.out) (by omega)))
  have lt1_Pa := Pa.out.lt
  have lt1_R0 := R0.out.lt
  unfold Halted
  refine wp_list_each (by kernel_rfl) 4 53 rfl rfl (by kernel_rfl)
    [Fact.eq (.agg #[.bool sa1, .slice Aa1 na1 ca1, .bool sa2, .slice Aa2 na2 ca2]), Fact.pair (.V ((Rat.divInt pa qa)).num) (.V (((Rat.divInt pa qa)).den : Int)), Fact.boxR 26 Rne (.V ((Rat.divInt pa qa)).num) (.V (((Rat.divInt pa qa)).den : Int)), Fact.top _]
    [.val, .val, .alloc 3, .fill 2]
    (fun w' => IntA w' (.agg #[.bool sa1, .slice Aa1 na1 ca1]) (pa) n ∧ IntA w' (.agg #[.bool sa2, .slice Aa2 na2 ca2]) (qa) n ∧ Blk w' (w.heap.size) 26 #[.bool sa1, .slice Aa1 na1 ca1, .bool sa2, .slice Aa2 na2 ca2] ∧ Blk w' (w.heap.size + 1) 26 #[.bool false, .slice none 0 0, .bool false, .slice none 0 0] ∧ Below w.heap.size w w')
    (fun _ _ _ => True) [] (fun _ => 0) (by kernel_rfl)
    ⟨Fa1.out, Fa2.out, Pa.out, R0.out, HB.out⟩
    (fun w1 w2 ⟨h0, h1, h2, h3, h4⟩ hb => ⟨h0.below hb, h1.below hb, h2.below hb, h3.below hb, bw_step h4 hb⟩)
    (fun w1 w2 g ⟨h0, h1, h2, h3, h4⟩ hg hn ho => by
      have hg' : W.heap.size ≤ g := hg.elim id (fun ⟨_, h, _⟩ => absurd h (Nat.not_lt_zero _))
      exact ⟨h0.only hn ho, h1.only hn ho, h2.only ho (by have := Pa.out.lt; have := R0.out.lt; omega), h3.only ho (by have := Pa.out.lt; have := R0.out.lt; omega), below_only h4 ho (by have := Pa.out.lt; have := R0.out.lt; have := HB.out.size; omega)⟩)
    (fun l h => trivial) (fun l b w1 w2 h _ _ => trivial) (fun l b w1 w2 g h _ _ _ _ => trivial) (fun l h => by cases h) (fun l k h => by cases h) ?_ ?_
  · refine ⟨?_, ?_, ?_, ?_, trivial⟩ <;> intro L V a1 w1 hf hG hsz hφ hψ hL hdep hcl
    · obtain ⟨Fa1_, Fa2_, Pa_, R0_, HB_⟩ := hG
      have e2 := old_slot hf 2 (by kernel_rfl)
      exact ob_pure (ex_loadR rfl e2 Pa_) rfl
    · obtain ⟨Fa1_, Fa2_, Pa_, R0_, HB_⟩ := hG
      have d0 := dep_of hdep 0 (by kernel_rfl)
      have e20 := (new_slot hf 0 20 d0 (by kernel_rfl)).trans (show V 0 = .agg #[.bool sa1, .slice Aa1 na1 ca1, .bool sa2, .slice Aa2 na2 ca2] from hφ 0 d0)
      refine ob_go rfl (vs := #[.agg #[.bool sa1, .slice Aa1 na1 ca1, .bool sa2, .slice Aa2 na2 ca2]]) (by simp only [List.map_toArray, List.map_cons, List.map_nil, e20]) (by kernel_rfl) (rnormalizeR_any _ _ (Rat.divInt pa qa) n (RatA.of (Pair.mk (a := .A pa n) (b := .A qa n) Fa1_ Fa2_)) (by omega) (by omega)) ?_
      rintro e w2 ⟨⟨v, rfl, hv⟩, hb⟩
      exact ⟨v, rfl, hb, hv⟩
    · obtain ⟨Fa1_, Fa2_, Pa_, R0_, HB_⟩ := hG
      exact ob_allocR rfl hsz rfl
    · obtain ⟨Fa1_, Fa2_, Pa_, R0_, HB_⟩ := hG
      have d1 := dep_of hdep 1 (by kernel_rfl)
      have e21 := new_slot hf 1 21 d1 (by kernel_rfl)
      have p21 : Pair w1 (V 1) (.V ((Rat.divInt pa qa)).num) (.V (((Rat.divInt pa qa)).den : Int)) := hφ 1 d1
      have d2 := dep_of hdep 2 (by kernel_rfl)
      obtain ⟨g, h1, h2, h3, _⟩ := hφ 2 d2
      have hz := h3 (show (true && L 3) = false from by have h : L 3 = false := hL; rw [h]; rfl)
      exact ob_fillR rfl ((new_slot hf 2 6 d2 (by kernel_rfl)).trans h1) e21 h1 h2 hz p21 rfl rfl
  · intro V W2 hG hsz2 hφ hψ hne
    have hlt2 : W.heap.size ≤ W2.heap.size := hsz2
    obtain ⟨Fa1_, Fa2_, Pa_, R0_, HB_⟩ := hG
    have Fa1 := hid Fa1_
    have Fa2 := hid Fa2_
    have Pa := hid Pa_
    have R0 := hid R0_
    have HB := hid HB_
    have y0 : V 0 = .agg #[.bool sa1, .slice Aa1 na1 ca1, .bool sa2, .slice Aa2 na2 ca2] := hφ 0 (by decide)
    obtain ⟨G2_2, y2, gb202, _, hb202⟩ := hφ 2 (by decide)
    obtain ⟨q2021, A2021, n2021, c2021, q2022, A2022, n2022, c2022, kb202, va202, vb202⟩ := hb202 rfl
    have Xt6_ := hid kb202
    have t6_1 : Hid (IntV W2 (.agg #[.bool q2021, .slice A2021 n2021 c2021]) ((Rat.divInt pa qa)).num) := hid va202
    have t6_2 : Hid (IntV W2 (.agg #[.bool q2022, .slice A2022 n2022 c2022]) (((Rat.divInt pa qa)).den : Int)) := hid vb202
    clear kb202 va202 vb202
    clear hb202
    simp only [puts, Act.put, List.setIfInBounds_toArray, List.set_cons_zero, List.set_cons_succ, y0, y2, ptr]
    clear hφ hψ hne y0 y2 Fa1_ Fa2_ Pa_ R0_ HB_ hsz2
    go_wp2_with fail
    have lt3_Pa := Pa.out.lt
    have lt3_R0 := R0.out.lt
    have lt3_Xt6_ := Xt6_.out.lt
    refine wp_region_each (by kernel_rfl) 9 53 rfl rfl (by kernel_rfl)
      [Fact.pair (.V (((1 : Int) : Rat)).num) (.V ((((1 : Int) : Rat)).den : Int)), Fact.eq (.agg #[.bool q2021, .slice A2021 n2021 c2021, .bool q2022, .slice A2022 n2022 c2022]), Fact.pairB (.V 0) (.V 0) false, Fact.pairB (.V 0) (.V 0) false, Fact.pair (.V 0) (.V 0), Fact.eq (.bool false), Fact.boxR 26 Rne (.V 0) (.V 0), Fact.top _, Fact.eq (.bool false)]
      [.val, .val, .val, .val, .val, .val, .alloc 7, .fill 6, .val]
      (fun w' => IntA w' (.agg #[.bool sa1, .slice Aa1 na1 ca1]) (pa) n ∧ IntA w' (.agg #[.bool sa2, .slice Aa2 na2 ca2]) (qa) n ∧ Blk w' (w.heap.size) 26 #[.bool sa1, .slice Aa1 na1 ca1, .bool sa2, .slice Aa2 na2 ca2] ∧ Blk w' (w.heap.size + 1) 26 #[.bool false, .slice none 0 0, .bool false, .slice none 0 0] ∧ IntV w' (.agg #[.bool q2021, .slice A2021 n2021 c2021]) (((Rat.divInt pa qa)).num) ∧ IntV w' (.agg #[.bool q2022, .slice A2022 n2022 c2022]) ((((Rat.divInt pa qa)).den : Int)) ∧ Blk w' (G2_2) 26 #[.bool q2021, .slice A2021 n2021 c2021, .bool q2022, .slice A2022 n2022 c2022] ∧ Below w.heap.size w w')
      (fun _ _ _ => True) [] (fun _ => 0) (by kernel_rfl)
      ⟨Fa1.out, Fa2.out, Pa.out, R0.out, t6_1.out, t6_2.out, Xt6_.out, HB.out⟩
      (fun w1 w2 ⟨h0, h1, h2, h3, h4, h5, h6, h7⟩ hb => ⟨h0.below hb, h1.below hb, h2.below hb, h3.below hb, h4.below hb, h5.below hb, h6.below hb, bw_step h7 hb⟩)
      (fun w1 w2 g ⟨h0, h1, h2, h3, h4, h5, h6, h7⟩ hg hn ho => by
        have hg' : W2.heap.size ≤ g := hg.elim id (fun ⟨_, h, _⟩ => absurd h (Nat.not_lt_zero _))
        exact ⟨h0.only hn ho, h1.only hn ho, h2.only ho (by have := Pa.out.lt; have := R0.out.lt; have := Xt6_.out.lt; omega), h3.only ho (by have := Pa.out.lt; have := R0.out.lt; have := Xt6_.out.lt; omega), h4.only hn ho, h5.only hn ho, h6.only ho (by have := Pa.out.lt; have := R0.out.lt; have := Xt6_.out.lt; omega), below_only h7 ho (by have := Pa.out.lt; have := R0.out.lt; have := Xt6_.out.lt; have := HB.out.size; omega)⟩)
      (fun l h => trivial) (fun l b w1 w2 h _ _ => trivial) (fun l b w1 w2 g h _ _ _ _ => trivial) (fun l h => by cases h) (fun l k h => by cases h) ?_ ?_
    · refine ⟨?_, ?_, ?_, ?_, ?_, ?_, ?_, ?_, ?_, trivial⟩ <;> intro L V a1 w1 hf hG hsz hφ hψ hL hdep hcl
      · obtain ⟨Fa1_, Fa2_, Pa_, R0_, t6_1_, t6_2_, Xt6__, HB_⟩ := hG
        refine ob_go rfl (vs := #[.int .i64 1]) (by simp only [List.map_toArray, List.map_cons, List.map_nil, ev_const]) (by kernel_rfl) (rsmallR_any _ 1 (by decide) (by decide)) ?_
        rintro e w2 ⟨⟨v, rfl, hv⟩, hb⟩
        exact ⟨v, rfl, hb, hv⟩
      · obtain ⟨Fa1_, Fa2_, Pa_, R0_, t6_1_, t6_2_, Xt6__, HB_⟩ := hG
        have e6 := old_slot hf 6 (by kernel_rfl)
        exact ob_pure (ex_loadR rfl e6 Xt6__) rfl
      · obtain ⟨Fa1_, Fa2_, Pa_, R0_, t6_1_, t6_2_, Xt6__, HB_⟩ := hG
        have d0 := dep_of hdep 0 (by kernel_rfl)
        have e25 := new_slot hf 0 25 d0 (by kernel_rfl)
        have p25 : Pair w1 (V 0) (.V (((1 : Int) : Rat)).num) (.V ((((1 : Int) : Rat)).den : Int)) := hφ 0 d0
        have d1 := dep_of hdep 1 (by kernel_rfl)
        have e26 := (new_slot hf 1 26 d1 (by kernel_rfl)).trans (show V 1 = .agg #[.bool q2021, .slice A2021 n2021 c2021, .bool q2022, .slice A2022 n2022 c2022] from hφ 1 d1)
        refine ob_go rfl (vs := #[V 0, .agg #[.bool q2021, .slice A2021 n2021 c2021, .bool q2022, .slice A2022 n2022 c2022]]) (by simp only [List.map_toArray, List.map_cons, List.map_nil, e25, e26]) (by kernel_rfl) (rquoR_zero _ _ _ ((1 : Int) : Rat) (Rat.divInt pa qa) n (RatV.arg (x := ((1 : Int) : Rat)) p25 (((RS.int (Sm.one (n := 1) (by decide) (by decide)) (by decide))).to (by omega))) (RatV.arg (x := (Rat.divInt pa qa)) (Pair.mk (a := .V ((Rat.divInt pa qa)).num) (b := .V (((Rat.divInt pa qa)).den : Int)) t6_1_ t6_2_) ((RS1.out).to (by omega))) (by omega) (by omega) (HZ.out)) ?_
        rintro e w2 ⟨⟨v, rfl, hv⟩, hb⟩
        exact ⟨v, rfl, hb, hv⟩
      · obtain ⟨Fa1_, Fa2_, Pa_, R0_, t6_1_, t6_2_, Xt6__, HB_⟩ := hG
        have d2 := dep_of hdep 2 (by kernel_rfl)
        have e27 := new_slot hf 2 27 d2 (by kernel_rfl)
        have p27 : PairB w1 (V 2) (.V 0) (.V 0) false := hφ 2 d2
        exact ob_pure (ex_moveV rfl e27) (by exact p27)
      · obtain ⟨Fa1_, Fa2_, Pa_, R0_, t6_1_, t6_2_, Xt6__, HB_⟩ := hG
        have d3 := dep_of hdep 3 (by kernel_rfl)
        have e24 := new_slot hf 3 24 d3 (by kernel_rfl)
        have p24 : PairB w1 (V 3) (.V 0) (.V 0) false := hφ 3 d3
        exact ob_pairB0 rfl e24 p24 rfl
      · obtain ⟨Fa1_, Fa2_, Pa_, R0_, t6_1_, t6_2_, Xt6__, HB_⟩ := hG
        have d3 := dep_of hdep 3 (by kernel_rfl)
        have e24 := new_slot hf 3 24 d3 (by kernel_rfl)
        have p24 : PairB w1 (V 3) (.V 0) (.V 0) false := hφ 3 d3
        exact ob_pairB1 rfl e24 p24 rfl
      · obtain ⟨Fa1_, Fa2_, Pa_, R0_, t6_1_, t6_2_, Xt6__, HB_⟩ := hG
        exact ob_allocR rfl hsz rfl
      · obtain ⟨Fa1_, Fa2_, Pa_, R0_, t6_1_, t6_2_, Xt6__, HB_⟩ := hG
        have d4 := dep_of hdep 4 (by kernel_rfl)
        have e28 := new_slot hf 4 28 d4 (by kernel_rfl)
        have p28 : Pair w1 (V 4) (.V 0) (.V 0) := hφ 4 d4
        have d6 := dep_of hdep 6 (by kernel_rfl)
        obtain ⟨g, h1, h2, h3, _⟩ := hφ 6 d6
        have hz := h3 (show (true && L 7) = false from by have h : L 7 = false := hL; rw [h]; rfl)
        exact ob_fillR rfl ((new_slot hf 6 7 d6 (by kernel_rfl)).trans h1) e28 h1 h2 hz p28 rfl rfl
      · obtain ⟨Fa1_, Fa2_, Pa_, R0_, t6_1_, t6_2_, Xt6__, HB_⟩ := hG
        have d5 := dep_of hdep 5 (by kernel_rfl)
        have e29 := (new_slot hf 5 29 d5 (by kernel_rfl)).trans (show V 5 = .bool false from hφ 5 d5)
        exact ob_pure (v := .bool false) (ex_assignV rfl e29) rfl
    · intro V W4 hG hsz4 hφ hψ hne
      have hlt4 : W2.heap.size ≤ W4.heap.size := hsz4
      obtain ⟨Fa1_, Fa2_, Pa_, R0_, t6_1_, t6_2_, Xt6__, HB_⟩ := hG
      have Fa1 := hid Fa1_
      have Fa2 := hid Fa2_
      have Pa := hid Pa_
      have R0 := hid R0_
      have t6_1 := hid t6_1_
      have t6_2 := hid t6_2_
      have Xt6_ := hid Xt6__
      have HB := hid HB_
      have y1 : V 1 = .agg #[.bool q2021, .slice A2021 n2021 c2021, .bool q2022, .slice A2022 n2022 c2022] := hφ 1 (by decide)
      have y5 : V 5 = .bool false := hφ 5 (by decide)
      obtain ⟨G4_6, y6, gb406, _, hb406⟩ := hφ 6 (by decide)
      obtain ⟨q4061, A4061, n4061, c4061, q4062, A4062, n4062, c4062, kb406, va406, vb406⟩ := hb406 rfl
      have Xt7_ := hid kb406
      have t7_1 : Hid (IntV W4 (.agg #[.bool q4061, .slice A4061 n4061 c4061]) 0) := hid va406
      have t7_2 : Hid (IntV W4 (.agg #[.bool q4062, .slice A4062 n4062 c4062]) 0) := hid vb406
      clear kb406 va406 vb406
      clear hb406
      have y8 : V 8 = .bool false := hφ 8 (by decide)
      simp only [puts, Act.put, List.setIfInBounds_toArray, List.set_cons_zero, List.set_cons_succ, y1, y5, y6, y8, ptr]
      clear hφ hψ hne y1 y5 y6 y8 Fa1_ Fa2_ Pa_ R0_ t6_1_ t6_2_ Xt6__ HB_ hsz4
      go_wp2_with (with_reducible refine halt_at 32 rfl ?_)
      clear d1 d2 d3 c1 c2 c3
      unfold Halted
      refine wp_list_each (by kernel_rfl) 3 53 rfl rfl (by kernel_rfl)
        [Fact.eq (.agg #[.bool false, .slice none 0 0, .bool false, .slice none 0 0]), Fact.top _, Fact.eq (.bool false)]
        [.val, .fillOld 0, .val]
        (fun w' => IntA w' (.agg #[.bool sa1, .slice Aa1 na1 ca1]) (pa) n ∧ IntA w' (.agg #[.bool sa2, .slice Aa2 na2 ca2]) (qa) n ∧ Blk w' (w.heap.size) 26 #[.bool sa1, .slice Aa1 na1 ca1, .bool sa2, .slice Aa2 na2 ca2] ∧ IntV w' (.agg #[.bool q2021, .slice A2021 n2021 c2021]) (((Rat.divInt pa qa)).num) ∧ IntV w' (.agg #[.bool q2022, .slice A2022 n2022 c2022]) ((((Rat.divInt pa qa)).den : Int)) ∧ Blk w' (G2_2) 26 #[.bool q2021, .slice A2021 n2021 c2021, .bool q2022, .slice A2022 n2022 c2022] ∧ IntV w' (.agg #[.bool q4061, .slice A4061 n4061 c4061]) (0) ∧ IntV w' (.agg #[.bool q4062, .slice A4062 n4062 c4062]) (0) ∧ Blk w' (G4_6) 26 #[.bool q4061, .slice A4061 n4061 c4061, .bool q4062, .slice A4062 n4062 c4062] ∧ Below w.heap.size w w')
        (fun l b w' => match l with
          | 0 => if b = true then BoxR w' (w.heap.size + 1) 26 (.V 0) (.V 0) else Blk w' (w.heap.size + 1) 26 #[.bool false, .slice none 0 0, .bool false, .slice none 0 0]
          | _ => True)
        [1] (fun l => match l with | 0 => w.heap.size + 1 | _ => 0) (by kernel_rfl)
        ⟨Fa1.out, Fa2.out, Pa.out, t6_1.out, t6_2.out, Xt6_.out, t7_1.out, t7_2.out, Xt7_.out, HB.out⟩
        (fun w1 w2 ⟨h0, h1, h2, h3, h4, h5, h6, h7, h8, h9⟩ hb => ⟨h0.below hb, h1.below hb, h2.below hb, h3.below hb, h4.below hb, h5.below hb, h6.below hb, h7.below hb, h8.below hb, bw_step h9 hb⟩)
        (fun w1 w2 g ⟨h0, h1, h2, h3, h4, h5, h6, h7, h8, h9⟩ hg hn ho => by
          have hg' : W4.heap.size ≤ g ∨ g = w.heap.size + 1 := by
            rcases hg with h | ⟨l, hl, h⟩
            · exact .inl h
            · rcases l with _ | l
              · exact .inr h
              · exact absurd hl (by simp)
          exact ⟨h0.only hn ho, h1.only hn ho, h2.only ho (by have := Pa.out.lt; have := R0.out.lt; have := Xt6_.out.lt; have := Xt7_.out.lt; omega), h3.only hn ho, h4.only hn ho, h5.only ho (by have := Pa.out.lt; have := R0.out.lt; have := Xt6_.out.lt; have := Xt7_.out.lt; omega), h6.only hn ho, h7.only hn ho, h8.only ho (by have := Pa.out.lt; have := R0.out.lt; have := Xt6_.out.lt; have := Xt7_.out.lt; omega), below_only h9 ho (by have := Pa.out.lt; have := R0.out.lt; have := Xt6_.out.lt; have := Xt7_.out.lt; have := HB.out.size; omega)⟩)
        (fun l hl => by
            rcases l with _ | l
            · exact R0.out
            · exact absurd hl (by simp))
        (fun l b w1 w2 hl h hb => by
            rcases l with _ | l
            · (cases b <;> exact h.below hb)
            · exact absurd hl (by simp))
        (fun l b w1 w2 g hl h hg hn ho => by
            rcases l with _ | l
            · (cases b; (exact h.only ho (Ne.symm hg)); (exact h.only (Ne.symm hg) hn ho))
            · exact absurd hl (by simp))
        (fun l hl => by
            rcases l with _ | l
            · exact R0.out.lt
            · exact absurd hl (by simp))
        (fun l k hl hk hne => by rcases l with _ | l <;> rcases k with _ | k <;> simp at hl hk hne)
        ?_ ?_
      · refine ⟨?_, ?_, ?_, trivial⟩ <;> intro L V a1 w1 hf hG hsz hφ hψ hL hdep hcl
        · obtain ⟨Fa1_, Fa2_, Pa_, t6_1_, t6_2_, Xt6__, t7_1_, t7_2_, Xt7__, HB_⟩ := hG
          exact ob_pure (ex_zeroR rfl) rfl
        · obtain ⟨Fa1_, Fa2_, Pa_, t6_1_, t6_2_, Xt6__, t7_1_, t7_2_, Xt7__, HB_⟩ := hG
          have d0 := dep_of hdep 0 (by kernel_rfl)
          have e32 := (new_slot hf 0 32 d0 (by kernel_rfl)).trans (show V 0 = .agg #[.bool false, .slice none 0 0, .bool false, .slice none 0 0] from hφ 0 d0)
          have e4 := old_slot hf 4 (by kernel_rfl)
          have hb0 := hψ 0 (by decide)
          rw [show [1].getD 0 0 = 1 from rfl, hL] at hb0
          exact ob_fillOldR rfl e4 e32 hb0 (Pair.mk (a := .V 0) (b := .V 0) (IntV.zero _) (IntV.zero _)) (fun w2 h => h) rfl
        · obtain ⟨Fa1_, Fa2_, Pa_, t6_1_, t6_2_, Xt6__, t7_1_, t7_2_, Xt7__, HB_⟩ := hG
          exact ob_pure (v := .bool false) (ex_assignV rfl rfl) rfl
      · intro V W5 hG hsz5 hφ hψ hne
        have hlt5 : W4.heap.size ≤ W5.heap.size := hsz5
        obtain ⟨Fa1_, Fa2_, Pa_, t6_1_, t6_2_, Xt6__, t7_1_, t7_2_, Xt7__, HB_⟩ := hG
        have Fa1 := hid Fa1_
        have Fa2 := hid Fa2_
        have Pa := hid Pa_
        have t6_1 := hid t6_1_
        have t6_2 := hid t6_2_
        have Xt6_ := hid Xt6__
        have t7_1 := hid t7_1_
        have t7_2 := hid t7_2_
        have Xt7_ := hid Xt7__
        have HB := hid HB_
        have y0 : V 0 = .agg #[.bool false, .slice none 0 0, .bool false, .slice none 0 0] := hφ 0 (by decide)
        have y2 : V 2 = .bool false := hφ 2 (by decide)
        obtain ⟨q5501, A5501, n5501, c5501, q5502, A5502, n5502, c5502, kb550, va550, vb550⟩ := hψ 0 (by decide)
        have R0 := hid kb550
        have R01 : Hid (IntV W5 (.agg #[.bool q5501, .slice A5501 n5501 c5501]) 0) := hid va550
        have R02 : Hid (IntV W5 (.agg #[.bool q5502, .slice A5502 n5502 c5502]) 0) := hid vb550
        clear kb550 va550 vb550
        simp only [puts, Act.put, List.setIfInBounds_toArray, List.set_cons_zero, List.set_cons_succ, y0, y2]
        clear hφ hψ hne y0 y2 Fa1_ Fa2_ Pa_ t6_1_ t6_2_ Xt6__ t7_1_ t7_2_ Xt7__ HB_ hsz5
        have k0 := R0.out.cell 0
        have k1 := R0.out.cell 1
        have k2 := R0.out.cell 2
        have k3 := R0.out.cell 3
        go_wp2
        refine bodyPost_ret (v := .tuple #[.agg #[.bool q5501, .slice A5501 n5501 c5501, .bool q5502, .slice A5502 n5502 c5502], .bool false]) (by simp [results, Try.results21, go_sem, k0, k1, k2, k3]) rfl ⟨⟨_, rfl, _, rfl, ?_⟩, HB.out⟩
        exact Pair.mk (a := .V 0) (b := .V 0) R01.out R02.out
end Go.Proofs.Ytklamiajcdkmnaa

