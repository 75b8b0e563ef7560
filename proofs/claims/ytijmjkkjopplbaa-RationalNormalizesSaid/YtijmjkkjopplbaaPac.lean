/- A part of the proof of the laws of rationals: Walk, Limb, Plus, IntV, ShortMul, Small, Sign, Field. -/
import Derived.Test.YtijmjkkjopplbaaProg
import Derived.Test.YtijmjkkjopplbaaPab
import Derived.Test.YtijmjkkjopplbaaPaa
namespace Go.Proofs.Ytijmjkkjopplbaa
open Go.RowKit

theorem int_of {k : IntKind} {a b : Int} (h : a = b) : Ending.returned (.int k a) = .returned (.int k b) := by rw [h]
theorem wrap_u64 (x : Int) : IntKind.u64.wrap x = x % 18446744073709551616 := by
  simp [IntKind.wrap, IntKind.bits, IntKind.signed]
theorem u32_info : (Try.prog.info? 31).map (fun i => (i.zero, i.size, i.bytes)) = some (some (.int .u32 0), 1, 4) := by kernel_rfl
theorem madeCells_zs (n : Nat) : madeCells #[.int .u32 0] n = zs n := by
  unfold madeCells zs
  refine Array.ext (by simp) fun i h1 h2 => ?_
  simp [Nat.mod_one]
/-- 'make([]uint32, n)' -/
theorem make_u32 (n : Nat) (hn : n ≤ 1099511627777) (w : World) : (Instr.makeSlice 22 (.int .i64 (n : Int)) (.int .i64 (n : Int))).run Try.prog w =
    .ok (.slice (some ⟨w.heap.size, 0, none⟩) n n) (w.alloc (.cells (zs n) 31)) := by
  obtain ⟨i, hi, hz0, hz1, hz2⟩ := info_parts u32_info
  have h := run_make (P := Try.prog) w 22 31 i (.int .u32 0) Try.underlying22 hi hz0 .i64 .i64 (n : Int) (n : Int) (by omega) (Int.le_refl _) (by rw [hz2]; omega) (by omega)
  rw [h, hz1]
  simp only [Int.toNat_natCast, Nat.mul_one, Value.cells, madeCells_zs]
theorem make_u32_succ (n : Nat) (hn : n ≤ 1099511627776) (w : World) : (Instr.makeSlice 22 (.int .i64 ((n : Int) + 1)) (.int .i64 ((n : Int) + 1))).run Try.prog w =
    .ok (.slice (some ⟨w.heap.size, 0, none⟩) (n + 1) (n + 1)) (w.alloc (.cells (zs (n + 1)) 31)) := make_u32 (n + 1) (by omega) w
theorem make_u32_add (m n : Nat) (hn : m + n ≤ 1099511627777) (w : World) : (Instr.makeSlice 22 (.int .i64 ((m : Int) + (n : Int))) (.int .i64 ((m : Int) + (n : Int)))).run Try.prog w =
    .ok (.slice (some ⟨w.heap.size, 0, none⟩) (m + n) (m + n)) (w.alloc (.cells (zs (m + n)) 31)) := make_u32 (m + n) hn w
theorem i64_add (m n : Nat) (h : m + n < 9223372036854775808) : IntKind.i64.wrap ((m : Int) + (n : Int)) = (m : Int) + (n : Int) := by rw [IntKind.wrap_i64]; omega
theorem u64_in {x : Int} (h0 : 0 ≤ x) (h1 : x < 18446744073709551616) : IntKind.u64.wrap x = x := by rw [IntKind.wrap_u64]; omega
theorem wrap_u32m (x : Int) : IntKind.u32.wrap x = x % 4294967296 := by simp [IntKind.wrap, IntKind.bits, IntKind.signed]
theorem max_nat (m n : Nat) (w : World) (ts : Array TypeId) (t : TypeId) : (Builtin.max_ ts t #[.int .i64 (m : Int), .int .i64 (n : Int)]).run Try.prog w = .ok (.int .i64 ((max m n : Nat) : Int)) w := by
  simp only [Builtin.max_, Builtin.max2, List.foldlM_cons, List.foldlM_nil, gt_iff_lt]
  simp; split <;> omega
/-- 'or' of a word and of a multiple of a greater power of 2 is a sum. -/
theorem u64_or_high {x y p : Int} {i : Nat} (hp : p = 2 ^ i) (hx0 : 0 ≤ x) (hx1 : x < p) (hy0 : 0 ≤ y) (h : y * p < 18446744073709551616) (hb : x < 18446744073709551616) :
    bits .or .u64 x (y * p) = x + y * p ∧ bits .or .u64 (y * p) x = x + y * p := by
  subst hp
  obtain ⟨a, rfl⟩ := Int.eq_ofNat_of_zero_le hx0
  obtain ⟨b, rfl⟩ := Int.eq_ofNat_of_zero_le hy0
  have e : ((b : Int) * 2 ^ i) = ((2 ^ i * b : Nat) : Int) := by rw [Nat.mul_comm, Int.natCast_mul, Int.natCast_pow]; rfl
  rw [e] at h ⊢
  have ha : a < 2 ^ i := by
    have e2 : ((2 : Int) ^ i) = ((2 ^ i : Nat) : Int) := by rw [Int.natCast_pow]; rfl
    rw [e2] at hx1; omega
  rw [u64_or_nat _ _ (by omega) (by omega), u64_or_nat _ _ (by omega) (by omega), Nat.or_comm, ← Nat.two_pow_add_eq_or_of_lt ha]
  omega
theorem u64_or32' {x y : Int} (hx0 : 0 ≤ x) (hx1 : x < 4294967296) (hy0 : 0 ≤ y) (hy1 : y < 4294967296) : bits .or .u64 (y * 4294967296) x = x + y * 4294967296 :=
  (u64_or_high (p := 4294967296) (i := 32) rfl hx0 hx1 hy0 (by omega) (by omega)).2
theorem u64_and_low {s : Int} (h0 : 0 ≤ s) (h1 : s < 18446744073709551616) : bits .and .u64 s 4294967295 = s % 4294967296 := by
  obtain ⟨a, rfl⟩ := Int.eq_ofNat_of_zero_le h0
  have h := u64_and_nat a 4294967295 (by omega) (by decide)
  have e : a &&& 4294967295 = a % 4294967296 := Nat.and_two_pow_sub_one_eq_mod a 32
  rw [e] at h
  exact h
end Go.Proofs.Ytijmjkkjopplbaa

namespace Go.Proofs.Ytijmjkkjopplbaa
open Go.RowKit

theorem limb_any (w : World) (v : Value) (xs : List Int) (i : Int) (h : SlV w v xs) (h0 : 0 ≤ i) (hb : Lb xs) :
    Calls Try.prog 107 #[v, .int .i64 i] w fun e w' => e = .returned (.int .u64 (lm xs i.toNat)) ∧ w = w' := by
  obtain ⟨A, c, rfl, hcl, h⟩ := h
  obtain ⟨k, rfl⟩ := Int.eq_ofNat_of_zero_le h0
  rw [Int.toNat_natCast]
  by_cases hk : k < xs.length
  · obtain ⟨b, o, rfl, hc⟩ := h.at (by omega)
    have hcell := hc k hk
    have hl := hb.lm k
    have hlen := h.len
    clear hc h hb
    generalize lm xs k = x at *
    go_enter Try.func107, Try.ntmps107
    go_wp2
    go_ret
    exact ⟨rfl, rfl⟩
  · have hl := lm_out (xs := xs) (i := k) (by omega)
    have Hl := hid hl
    clear hl h hb
    go_enter Try.func107, Try.ntmps107
    go_wp2
    go_ret
    exact ⟨by rw [Hl.out]; rfl, rfl⟩

theorem compare_any (w : World) (v u : Value) (xs ys : List Int) (hx : SlV w v xs) (hy : SlV w u ys) (bx : Lb xs) (by_ : Lb ys) (cx : Cn xs) (cy : Cn ys) :
    Calls Try.prog 97 #[v, u] w fun e w' => e = .returned (.int .i64 (cm (nv xs) (nv ys))) ∧ Dr w w' := by
  obtain ⟨A, c, rfl, hcl, hx⟩ := hx
  obtain ⟨B, d, rfl, hdl, hy⟩ := hy
  have lx := hx.len
  have ly := hy.len
  rcases Nat.lt_trichotomy xs.length ys.length with hl | hl | hl
  · have He := hid (cm_lt (cy.lt_of_length bx by_ hl))
    clear bx by_ cx cy hx hy
    have h1 : ((xs.length : Int) == (ys.length : Int)) = false := by rw [beq_eq_false_iff_ne]; omega
    have h2 : ((xs.length : Int) != (ys.length : Int)) = true := by rw [bne_iff_ne]; omega
    go_enter Try.func97, Try.ntmps97
    go_wp2
    go_ret
    exact ⟨by rw [He.out]; rfl, Dr.refl _⟩
  · have HX := hid hx
    have HY := hid hy
    have HE := hid (show ∀ j, xs.length ≤ j → lm xs j = lm ys j from fun j hj => by rw [lm_out hj, lm_out (by omega)])
    have HL := hid hl
    have HBX := hid bx
    have HBY := hid by_
    have h1 : ((xs.length : Int) == (ys.length : Int)) = true := by rw [beq_iff_eq]; omega
    have h2 : ((xs.length : Int) != (ys.length : Int)) = false := by rw [bne_eq_false_iff_eq]; omega
    clear hx hy hl bx by_ cx cy
    go_enter Try.func97, Try.ntmps97
    go_wp2
    go_loopg [5] xs.length (fun gk v w' => ∃ i : Int, v = .int .i64 i ∧ -1 ≤ i ∧ i < xs.length ∧ Hid (∀ j : Nat, i < j → lm xs j = lm ys j) ∧ gk = (i + 1).toNat ∧ Dr w w')
    case atStart => exact ⟨(xs.length : Int) - 1, rfl, by omega, by omega, hid (fun j hj => HE.out j (by omega)), by omega, Dr.refl _⟩
    case round =>
      obtain ⟨i, rfl, hi0, hi1, hj, hg, ⟨n, rfl⟩⟩ := hrel
      have HG := hid hg
      clear hg
      by_cases h0 : 0 ≤ i
      · obtain ⟨k, rfl⟩ := Int.eq_ofNat_of_zero_le h0
        have hk : k < xs.length := by omega
        have hk2 : k < ys.length := by have := HL.out; omega
        obtain ⟨b, o, rfl, hc⟩ := HX.out.at (by omega)
        obtain ⟨b2, o2, rfl, hc2⟩ := HY.out.at (by omega)
        have c1 := hc k hk
        have c2 := hc2 k hk2
        clear hc hc2
        have hk3 : (k : Int) < (ys.length : Int) := by omega
        rcases Int.lt_trichotomy (lm xs k) (lm ys k) with he | he | he
        · have e1 : (lm xs k != lm ys k) = true := by rw [bne_iff_ne]; omega
          have HC := hid (cm_lt (nv_lt_of_limb HBX.out HBY.out HL.out hk (fun j hj' => hj.out j (by omega)) he))
          go_wp2
          go_quiet (fail)
          go_wp2
          go_quiet (fail)
          go_wp2
          go_ret
          exact ⟨by rw [HC.out]; rfl, by repeat (first | exact Dr.refl _ | apply Dr.step)⟩
        · have e1 : (lm xs k != lm ys k) = false := by rw [bne_eq_false_iff_eq]; exact he
          have HC := hid he
          clear he
          go_wp2
          go_quiet (fail)
          go_wp2
          go_roundg k
          case measure => have := HG.out; omega
          case rel => exact ⟨(k : Int) - 1, rfl, by omega, by omega, hid (fun j hj' => by
              by_cases e : j = k
              · subst e; exact HC.out
              · exact hj.out j (by omega)), by omega, by repeat (first | exact Dr.refl _ | apply Dr.step)⟩
        · have e1 : (lm xs k != lm ys k) = true := by rw [bne_iff_ne]; omega
          have HC := hid (cm_gt (nv_lt_of_limb HBY.out HBX.out HL.out.symm hk2 (fun j hj' => (hj.out j (by omega)).symm) he))
          go_wp2
          go_quiet (fail)
          go_wp2
          go_quiet (fail)
          go_wp2
          go_ret
          exact ⟨by rw [HC.out]; rfl, by repeat (first | exact Dr.refl _ | apply Dr.step)⟩
      · have HC := hid (cm_eq (nv_eq_of_limbs HL.out fun j hj' => hj.out j (by omega)))
        have h3 : decide (0 ≤ i) = false := by simp; omega
        go_wp2
        go_ret
        exact ⟨by rw [HC.out]; rfl, by repeat (first | exact Dr.refl _ | apply Dr.step)⟩
  · have He := hid (cm_gt (cx.lt_of_length by_ bx hl))
    clear bx by_ cx cy hx hy
    have h1 : ((xs.length : Int) == (ys.length : Int)) = false := by rw [beq_eq_false_iff_ne]; omega
    have h2 : ((xs.length : Int) != (ys.length : Int)) = true := by rw [bne_iff_ne]; omega
    go_enter Try.func97, Try.ntmps97
    go_wp2
    go_ret
    exact ⟨by rw [He.out]; rfl, Dr.refl _⟩

theorem trim_any (w : World) (v : Value) (xs : List Int) (h : SlV w v xs) :
    Calls Try.prog 102 #[v] w fun e w' => (∃ s, e = .returned s ∧ Cut v xs s (tr xs)) ∧ w = w' := by
  obtain ⟨A, c, rfl, hc, h⟩ := h
  have hl := h.len
  have H := hid h
  clear h
  go_enter Try.func102, Try.ntmps102
  go_wp2
  go_loop [3] (fun v => ∃ k : Nat, v = .int .i64 k ∧ k ≤ xs.length ∧ Hid (∀ j : Nat, k ≤ j → lm xs j = 0)) (fun v => (intOf v).toNat)
  case atStart => exact ⟨xs.length, rfl, Nat.le_refl _, hid (fun j hj => lm_out hj)⟩
  case round =>
    obtain ⟨k, rfl, hk, hj⟩ := hrel
    by_cases h0 : 0 < k
    · obtain ⟨b, o, rfl, hcl⟩ := H.out.at (by omega)
      have c1 := hcl (k - 1) (by omega)
      clear hcl
      obtain ⟨m, rfl⟩ : ∃ m, k = m + 1 := ⟨k - 1, by omega⟩
      simp only [Nat.add_sub_cancel] at c1
      by_cases hz : lm xs m = 0
      · have h1 : (lm xs m == 0) = true := by rw [beq_iff_eq]; exact hz
        have HZ := hid hz
        clear hz
        go_wp2
        go_round
        case rel => exact ⟨m, by go_num, by omega, hid (fun j hj' => by
            by_cases e : j = m
            · subst e; exact HZ.out
            · exact hj.out j (by omega))⟩
        case measure => simp [intOf]
      · have h1 : (lm xs m == 0) = false := by rw [beq_eq_false_iff_ne]; exact hz
        have HT := hid (tl_spec xs (m + 1) hk hj.out (fun _ => hz))
        clear hz
        go_wp2
        go_ret
        exact ⟨⟨_, rfl, by unfold tr; rw [HT.out]; exact Cut.take hk (Nat.le_refl _) rfl⟩, rfl⟩
    · obtain rfl : k = 0 := by omega
      have HT := hid (tl_spec xs 0 (by omega) hj.out (fun h => absurd h (by omega)))
      have h3 : decide ((0 : Int) < 0) = false := by decide
      go_wp2
      go_ret
      exact ⟨⟨_, rfl, by unfold tr; rw [HT.out]; exact Cut.take hk (Nat.le_refl _) rfl⟩, rfl⟩
end Go.Proofs.Ytijmjkkjopplbaa

namespace Go.Proofs.Ytijmjkkjopplbaa
open Go.RowKit

theorem plus_any (w : World) (v u : Value) (xs ys : List Int) (hx : SlV w v xs) (hy : SlV w u ys) (bx : Lb xs) (by_ : Lb ys) (lx : xs.length < 1099511627776) (ly : ys.length < 1099511627776) :
    Calls Try.prog 84 #[v, u] w fun e w' => RetN w' (nv xs + nv ys) e ∧ Below w.heap.size w w' := by
  have HX := hid hx
  have HY := hid hy
  obtain ⟨A, c, rfl, hcl, hx⟩ := hx
  obtain ⟨B, d, rfl, hdl, hy⟩ := hy
  have HBX := hid bx
  have HBY := hid by_
  clear hx hy bx by_
  have hmax := max_nat xs.length ys.length
  obtain ⟨n, hn⟩ : ∃ n, n = max xs.length ys.length := ⟨_, rfl⟩
  rw [← hn] at hmax
  have h1 : n < 1099511627776 := by omega
  have HN := hid hn
  clear hn
  have hmk := make_u32_succ n (by omega)
  go_enter Try.func84, Try.ntmps84
  go_wp2
  clear hmax hmk
  go_loopw [7, 18] (fun v i wr => ∃ (cy : Int) (k : Nat) (os : List Int), v = .int .u64 cy ∧ i = .int .i64 k ∧ 0 ≤ cy ∧ cy ≤ 1 ∧ k ≤ n ∧ Hid (os.length = n + 1) ∧ Hid (Own wr w.heap.size os) ∧ Hid (Lb os) ∧
      Hid (nv (os.take k) + bp k * cy = nv (xs.take k) + nv (ys.take k)) ∧ Below w.heap.size w wr) (fun _ i _ => n - (intOf i).toNat)
  case atStart => exact ⟨0, 0, List.replicate (n + 1) 0, rfl, rfl, by omega, by omega, by omega, hid (by simp), hid (Own.made w (n + 1)), hid (Lb.replicate _), hid (by simp [nv_nil]), (Below.refl _ _).alloc (Nat.le_refl _) _⟩
  case round =>
    obtain ⟨cy, k, os, rfl, rfl, hc0, hc1, hk, hlen, hown, hlb, hval, hbel⟩ := hrel
    by_cases hlt : k < n
    · have hcell := hown.out.cell (j := k) (by have := hlen.out; omega)
      have hfree := hown.out.free k
      have hbx := HBX.out.lm k
      have hby := HBY.out.lm k
      go_wp2_with (first | (go_at_call_of 107 (Value.slice A xs.length c); (with_reducible refine (limb_any _ _ _ _ (HX.out.below hbel) (by omega) HBX.out).mono ?_); rintro e w' ⟨rfl, rfl⟩) | (go_at_call 107; (with_reducible refine (limb_any _ _ _ _ (HY.out.below hbel) (by omega) HBY.out).mono ?_); rintro e w' ⟨rfl, rfl⟩))
      go_roundw
      case measure => simp [intOf]; omega
      case rel =>
        have hl := hlen.out
        have h2 := Int.emod_nonneg (cy + (lm xs k + lm ys k)) (show (4294967296 : Int) ≠ 0 by decide)
        have h3 := Int.emod_lt_of_pos (cy + (lm xs k + lm ys k)) (show (0 : Int) < 4294967296 by decide)
        refine ⟨_, k + 1, os.set k ((cy + (lm xs k + lm ys k)) % 4294967296), rfl, by go_num, by omega, by omega, by omega, hid (by rw [List.length_set]; exact hl), hid (hown.out.set _ _), hid (hlb.out.set _ h2 h3), hid ?_, hbel.setCell (Nat.le_refl _) _⟩
        rw [nv_take_set_succ (by omega), nv_take_succ, nv_take_succ, bp_succ, plus_step hval.out rfl]
        omega
    · obtain rfl : k = n := by omega
      have hcell := hown.out.cell (j := k) (by have := hlen.out; omega)
      have hfree := hown.out.free k
      have hl := hlen.out
      have HL := hid hl
      clear hlen hl
      go_wp2_with (go_at_call 102; (with_reducible refine (trim_any _ _ (os.set k cy) ((hown.out.set k cy).slv (by rw [List.length_set]; exact HL.out) (by omega) (Nat.le_refl _))).mono ?_); rintro e w' ⟨⟨vt, rfl, ht⟩, rfl⟩)
      go_ret
      refine ⟨⟨tr (os.set k cy), RetSl.of (ht _ ((hown.out.set k cy).slv (by rw [List.length_set]; exact HL.out) (by omega) (Nat.le_refl _))), (hlb.out.set _ hc0 (by omega)).tr, Cn.tr _, ?_⟩, hbel.setCell (Nat.le_refl _) _⟩
      rw [nv_tr, nv_set_last HL.out, hval.out, nv_take_all (by have := HN.out; omega), nv_take_all (by have := HN.out; omega)]

theorem minus_any (w : World) (v u : Value) (xs ys : List Int) (hx : SlV w v xs) (hy : SlV w u ys) (bx : Lb xs) (by_ : Lb ys) (hle : nv ys ≤ nv xs) (hll : ys.length ≤ xs.length) :
    Calls Try.prog 85 #[v, u] w fun e w' => RetN w' (nv xs - nv ys) e ∧ Below w.heap.size w w' := by
  have HY := hid hy
  obtain ⟨A, c, rfl, hcl, hx⟩ := hx
  have lx := hx.len
  have HX := hid hx
  have HBX := hid bx
  have HBY := hid by_
  have HLE := hid hle
  clear hx hy bx by_ hle
  have hmk := make_u32 xs.length (by omega)
  go_enter Try.func85, Try.ntmps85
  go_wp2
  clear hmk
  go_loopw [6, 14] (fun v i wr => ∃ (bo : Int) (k : Nat) (os : List Int), v = .int .u64 bo ∧ i = .int .i64 k ∧ 0 ≤ bo ∧ bo ≤ 1 ∧ k ≤ xs.length ∧ Hid (os.length = xs.length) ∧ Hid (Own wr w.heap.size os) ∧ Hid (Lb os) ∧
      Hid (nv (os.take k) - bp k * bo = nv (xs.take k) - nv (ys.take k)) ∧ Below w.heap.size w wr) (fun _ i _ => xs.length - (intOf i).toNat)
  case atStart => exact ⟨0, 0, List.replicate xs.length 0, rfl, rfl, by omega, by omega, by omega, hid (by simp), hid (Own.made w xs.length), hid (Lb.replicate _), hid (by simp [nv_nil]), (Below.refl _ _).alloc (Nat.le_refl _) _⟩
  case round =>
    obtain ⟨bo, k, os, rfl, rfl, hc0, hc1, hk, hlen, hown, hlb, hval, hbel⟩ := hrel
    by_cases hlt : k < xs.length
    · have hcell := hown.out.cell (j := k) (by have := hlen.out; omega)
      have hfree := hown.out.free k
      have hbx := HBX.out.lm k
      have hby := HBY.out.lm k
      obtain ⟨b, o, rfl, hc⟩ := HX.out.at (by omega)
      have c1 := cell_below hbel (hc k hlt)
      clear hc
      go_wp2
      go_quiet ((go_at_call 107; exact Calls.quiet_of_same ((limb_any _ _ ys _ ((HY.out.below hbel).drew _) (by omega) HBY.out).mono fun _ _ h => ⟨h.1, h.2.symm⟩)))
      go_wp2
      go_roundw
      case measure => simp [intOf]; omega
      case rel =>
        have hl := hlen.out
        obtain ⟨D, hD⟩ : ∃ D, D = IntKind.u64.wrap (IntKind.u64.wrap (lm xs k - lm ys k) - bo) := ⟨_, rfl⟩
        rw [← hD]
        rw [wrap_u64, wrap_u64] at hD
        obtain ⟨e1, e2, e3⟩ := minus_digit hbx.1 hbx.2 hby.1 hby.2 hc0 hc1 hD
        have h2 := Int.emod_nonneg D (show (4294967296 : Int) ≠ 0 by decide)
        have h3 := Int.emod_lt_of_pos D (show (0 : Int) < 4294967296 by decide)
        refine ⟨_, k + 1, os.set k (D % 4294967296), rfl, by go_num, e2, e3, by omega, hid (by rw [List.length_set]; exact hl), hid ((hown.out.drew _).set _ _), hid (hlb.out.set _ h2 h3), hid ?_, (below_drewN hbel _).setCell (Nat.le_refl _) _⟩
        rw [nv_take_set_succ (by omega), nv_take_succ, nv_take_succ, bp_succ, minus_step hval.out e1]
        omega
    · have HK := hid (show k = xs.length by omega)
      have HL := hid (show os.length = k by rw [hlen.out]; omega)
      clear hlen
      go_wp2_with (go_at_call 102; (with_reducible refine (trim_any _ _ os (hown.out.slv (by rw [HL.out, HK.out]) (by omega) (Nat.le_refl _))).mono ?_); rintro e w' ⟨⟨vt, rfl, ht⟩, rfl⟩)
      go_ret
      refine ⟨⟨tr os, RetSl.of (ht _ (hown.out.slv (by rw [HL.out, HK.out]) (by omega) (Nat.le_refl _))), hlb.out.tr, Cn.tr _, ?_⟩, hbel⟩
      rw [nv_tr]
      have e := hval.out
      rw [nv_take_all (by have := HL.out; omega), nv_take_all (by omega), nv_take_all (by omega)] at e
      have e1 := nv_lt hlb.out
      rw [HL.out] at e1
      have e2 := HLE.out
      have e3 : bo = 0 ∨ bo = 1 := by omega
      rcases e3 with rfl | rfl
      · omega
      · omega
end Go.Proofs.Ytijmjkkjopplbaa

namespace Go.Proofs.Ytijmjkkjopplbaa
open Go.RowKit

/-- The sign put to an absolute value. -/
def sg (neg : Bool) (n : Int) : Int := if neg then -n else n
/-- This value is an Int of the number z, canonical or not, with at most n limbs. -/
def IntA (w : World) (v : Value) (z : Int) (n : Nat) : Prop := ∃ neg s xs, v = .agg #[.bool neg, s] ∧ SlV w s xs ∧ Lb xs ∧ xs.length ≤ n ∧ z = sg neg (nv xs)
/-- This value is the canonical Int of the number z. -/
def IntV (w : World) (v : Value) (z : Int) : Prop := ∃ neg s xs, v = .agg #[.bool neg, s] ∧ SlV w s xs ∧ Lb xs ∧ Cn xs ∧ (neg = true → xs ≠ []) ∧ z = sg neg (nv xs)
/-- The number has at most n limbs. -/
def Sm (n : Nat) (z : Int) : Prop := -bp n < z ∧ z < bp n
def RetI (w : World) (z : Int) (e : Ending) : Prop := ∃ v, e = .returned v ∧ IntV w v z

theorem IntA.below {w w' : World} {v : Value} {z : Int} {n : Nat} (h : IntA w v z n) (hb : Below w.heap.size w w') : IntA w' v z n := let ⟨a, b, c, h1, h2, h3⟩ := h; ⟨a, b, c, h1, h2.below hb, h3⟩
theorem IntV.below {w w' : World} {v : Value} {z : Int} (h : IntV w v z) (hb : Below w.heap.size w w') : IntV w' v z := let ⟨a, b, c, h1, h2, h3⟩ := h; ⟨a, b, c, h1, h2.below hb, h3⟩
theorem IntA.mono {w : World} {v : Value} {z : Int} {n m : Nat} (h : IntA w v z n) (hm : n ≤ m) : IntA w v z m := let ⟨a, b, c, h1, h2, h3, h4, h5⟩ := h; ⟨a, b, c, h1, h2, h3, Nat.le_trans h4 hm, h5⟩
theorem sg_false (n : Int) : sg false n = n := rfl
theorem sg_true (n : Int) : sg true n = -n := rfl
theorem sm_sg {neg : Bool} {xs : List Int} (h : Lb xs) {n : Nat} (hn : xs.length ≤ n) : Sm n (sg neg (nv xs)) := by
  have h1 := nv_nonneg h
  have h2 := nv_lt h
  have h3 := bp_mono hn
  cases neg
  · exact ⟨by rw [sg_false]; omega, by rw [sg_false]; omega⟩
  · exact ⟨by rw [sg_true]; omega, by rw [sg_true]; omega⟩
theorem IntA.sm {w : World} {v : Value} {z : Int} {n : Nat} (h : IntA w v z n) : Sm n z := by
  obtain ⟨neg, s, xs, _, _, hl, hn, rfl⟩ := h
  exact sm_sg hl hn
theorem nv_of_sm {neg : Bool} {xs : List Int} {n : Nat} (h : Sm n (sg neg (nv xs))) : nv xs < bp n := by
  unfold Sm at h
  cases neg
  · exact h.2
  · have := h.1; rw [sg_true] at this; omega
theorem IntV.arg {w : World} {v : Value} {z : Int} {n : Nat} (h : IntV w v z) (hz : Sm n z) : IntA w v z n := by
  obtain ⟨neg, s, xs, h1, h2, h3, h4, h5, rfl⟩ := h
  exact ⟨neg, s, xs, h1, h2, h3, h4.length_le h3 (nv_of_sm hz), rfl⟩
theorem IntV.zero (w : World) : IntV w (.agg #[.bool false, .slice none 0 0]) 0 := ⟨false, _, [], rfl, ⟨none, 0, rfl, Nat.le_refl _, Sl.nil _ _⟩, Lb.nil, Cn.nil, (fun h => by cases h), rfl⟩

/-- A cell that holds no number is no limb's: what is stored there changes no limbs. -/
theorem SlV.setCell {w : World} {s : Value} {xs : List Int} (h : SlV w s xs) {a : Addr} {u : Value} (hc : w.cell? a = some u) (hu : ∀ n, u ≠ .int .u32 n) (y : Value) : SlV (w.setCell a y) s xs := by
  obtain ⟨A, c, h1, h2, h3, h4⟩ := h
  refine ⟨A, c, h1, h2, h3, fun h0 => ?_⟩
  obtain ⟨b, o, e, hcl⟩ := h4 h0
  refine ⟨b, o, e, fun j hj => ?_⟩
  have hj' := hcl j hj
  rw [World.cell?_setCell_other (h := fun e => ?_)]
  · exact hj'
  · rw [e, hj'] at hc
    injection hc with hc
    exact hu _ hc.symm
theorem IntV.setCell {w : World} {v : Value} {z : Int} (h : IntV w v z) {a : Addr} {u : Value} (hc : w.cell? a = some u) (hu : ∀ n, u ≠ .int .u32 n) (y : Value) : IntV (w.setCell a y) v z :=
  let ⟨a1, b, c, h1, h2, h3⟩ := h
  ⟨a1, b, c, h1, h2.setCell hc hu y, h3⟩

theorem Own.new (w : World) (xs : List Int) : Own (w.alloc (.cells (xs.map (Value.int .u32)).toArray 31)) w.heap.size xs := by
  unfold Own World.alloc
  simp
/-- What a box of two cells holds behind calls that leave it alone. -/
theorem box_cells {w w1 : World} {a b : Value} {T : TypeId} (h : Below (w.heap.size + 1) (w.alloc (.cells #[a, b] T)) w1) :
    w1.cell? ⟨w.heap.size, 0, none⟩ = some a ∧ w1.cell? ⟨w.heap.size, 1, none⟩ = some b ∧ w1.frozen? ⟨w.heap.size, 0, none⟩ = false ∧ w1.frozen? ⟨w.heap.size, 1, none⟩ = false := by
  refine ⟨?_, ?_, ?_, ?_⟩
  · rw [h.cell (Nat.lt_succ_self _)]; simp
  · rw [h.cell (Nat.lt_succ_self _)]; simp
  · rw [h.frozen (Nat.lt_succ_self _)]; unfold World.frozen? World.alloc; simp
  · rw [h.frozen (Nat.lt_succ_self _)]; unfold World.frozen? World.alloc; simp

theorem IntV.form {w : World} {v : Value} {z : Int} (h : IntV w v z) : ∃ neg A n c, v = .agg #[.bool neg, .slice A n c] :=
  let ⟨neg, _, xs, h1, ⟨A, c, h2, _, _⟩, _⟩ := h
  ⟨neg, A, xs.length, c, by rw [h1, h2]⟩
theorem IntA.form {w : World} {v : Value} {z : Int} {m : Nat} (h : IntA w v z m) : ∃ neg A n c, v = .agg #[.bool neg, .slice A n c] :=
  let ⟨neg, _, xs, h1, ⟨A, c, h2, _, _⟩, _⟩ := h
  ⟨neg, A, xs.length, c, by rw [h1, h2]⟩
/-- An Int is stored into a box: it stays what it is. -/
theorem IntV.boxed {w : World} {v : Value} {z : Int} (h : IntV w v z) {g n0 c0 : Nat} {b0 : Bool} {A0 : Option Addr} (k0 : w.cell? ⟨g, 0, none⟩ = some (.bool b0)) (k1 : w.cell? ⟨g, 1, none⟩ = some (.slice A0 n0 c0)) (x y : Value) :
    IntV ((w.setCell ⟨g, 0, none⟩ x).setCell ⟨g, 1, none⟩ y) v z :=
  (h.setCell k0 (fun _ e => by cases e) x).setCell (a := ⟨g, 1, none⟩) (u := .slice A0 n0 c0) (by rw [World.cell?_setCell_other (h := by simp)]; exact k1) (fun _ e => by cases e) y

/-- The end of a function whose result is an Int in a box of its own. -/
theorem fin_box {w0 w1 : World} {g n0 c0 : Nat} {v : Value} {z : Int} {b0 : Bool} {A0 : Option Addr} (hb : Below w0.heap.size w0 w1) (hg : w0.heap.size ≤ g)
    (k0 : w1.cell? ⟨g, 0, none⟩ = some (.bool b0)) (k1 : w1.cell? ⟨g, 1, none⟩ = some (.slice A0 n0 c0)) (hv : IntV w1 v z) :
    ∃ neg A n c, v = .agg #[.bool neg, .slice A n c] ∧ Hid (RetI ((w1.setCell ⟨g, 0, none⟩ (.bool neg)).setCell ⟨g, 1, none⟩ (.slice A n c)) z (.returned (.agg #[.bool neg, .slice A n c])) ∧
      Below w0.heap.size w0 ((w1.setCell ⟨g, 0, none⟩ (.bool neg)).setCell ⟨g, 1, none⟩ (.slice A n c))) := by
  have hI := hv.boxed k0 k1
  obtain ⟨neg, A, n, c, rfl⟩ := hv.form
  exact ⟨neg, A, n, c, rfl, ⟨_, rfl, hI _ _⟩, (hb.setCell hg _).setCell hg _⟩

theorem fin_agg {w0 w1 : World} {g n0 c0 n c : Nat} {z : Int} {b0 neg : Bool} {A0 A : Option Addr} (hb : Below w0.heap.size w0 w1) (hg : w0.heap.size ≤ g)
    (k0 : w1.cell? ⟨g, 0, none⟩ = some (.bool b0)) (k1 : w1.cell? ⟨g, 1, none⟩ = some (.slice A0 n0 c0)) (hv : IntV w1 (.agg #[.bool neg, .slice A n c]) z) :
    Hid (RetI ((w1.setCell ⟨g, 0, none⟩ (.bool neg)).setCell ⟨g, 1, none⟩ (.slice A n c)) z (.returned (.agg #[.bool neg, .slice A n c])) ∧
      Below w0.heap.size w0 ((w1.setCell ⟨g, 0, none⟩ (.bool neg)).setCell ⟨g, 1, none⟩ (.slice A n c))) :=
  ⟨⟨_, rfl, hv.boxed k0 k1 _ _⟩, (hb.setCell hg _).setCell hg _⟩
/-- Block g is a box of two cells. -/
def Bx (w : World) (g : Nat) (a b : Value) : Prop := w.cell? ⟨g, 0, none⟩ = some a ∧ w.cell? ⟨g, 1, none⟩ = some b ∧ w.frozen? ⟨g, 0, none⟩ = false ∧ w.frozen? ⟨g, 1, none⟩ = false
theorem Bx.below {w w' : World} {g : Nat} {a b : Value} (h : Bx w g a b) (hb : Below w.heap.size w w') : Bx w' g a b := by
  have hl := lt_of_cell h.1
  exact ⟨cell_below hb h.1, cell_below hb h.2.1, (hb.frozen (p := ⟨g, 0, none⟩) hl).trans h.2.2.1, (hb.frozen (p := ⟨g, 1, none⟩) hl).trans h.2.2.2⟩
theorem Bx.new (w : World) (a b : Value) (T : TypeId) : Bx (w.alloc (.cells #[a, b] T)) w.heap.size a b := box_cells (Below.refl _ _)
theorem Bx.alloc {w : World} {g : Nat} {a b : Value} (h : Bx w g a b) (o : Obj) : Bx (w.alloc o) g a b := h.below ((Below.refl _ _).alloc (Nat.le_refl _) _)
theorem bw_alloc {w0 w : World} (h : Below w0.heap.size w0 w) (o : Obj) : Below w0.heap.size w0 (w.alloc o) := h.alloc h.size o
theorem bw_step {w0 w w1 : World} (h : Below w0.heap.size w0 w) (k : Below w.heap.size w w1) : Below w0.heap.size w0 w1 := h.trans (k.mono h.size)
theorem bw_keep {w0 w w1 : World} (h : Hid (Below w0.heap.size w0 w)) (k : Below w.heap.size w w1) : Hid (Below w0.heap.size w0 w1) := bw_step h k
theorem bw_drew (w : World) : Hid (Below w.heap.size w w.drew) := (Below.refl _ _).drew

/-- Two boxes, one behind the other. -/
theorem Bx.two (w : World) (a b c d : Value) (T : TypeId) : Bx ((w.alloc (.cells #[a, b] T)).alloc (.cells #[c, d] T)) w.heap.size a b ∧ Bx ((w.alloc (.cells #[a, b] T)).alloc (.cells #[c, d] T)) (w.heap.size + 1) c d := by
  refine ⟨(Bx.new _ _ _ _).alloc _, ?_⟩
  have := Bx.new (w.alloc (.cells #[a, b] T)) c d T
  rwa [World.size_alloc] at this
/-- Three boxes. -/
theorem Bx.three (w : World) (a b c d x y : Value) (T : TypeId) : Bx (((w.alloc (.cells #[a, b] T)).alloc (.cells #[c, d] T)).alloc (.cells #[x, y] T)) w.heap.size a b ∧
    Bx (((w.alloc (.cells #[a, b] T)).alloc (.cells #[c, d] T)).alloc (.cells #[x, y] T)) (w.heap.size + 1) c d ∧ Bx (((w.alloc (.cells #[a, b] T)).alloc (.cells #[c, d] T)).alloc (.cells #[x, y] T)) (w.heap.size + 1 + 1) x y := by
  refine ⟨(Bx.two ..).1.alloc _, (Bx.two ..).2.alloc _, ?_⟩
  have := Bx.new ((w.alloc (.cells #[a, b] T)).alloc (.cells #[c, d] T)) x y T
  rwa [World.size_alloc, World.size_alloc] at this
/-- Four boxes. -/
theorem Bx.four (w : World) (a b c d x y p q : Value) (T : TypeId) :
    Bx ((((w.alloc (.cells #[a, b] T)).alloc (.cells #[c, d] T)).alloc (.cells #[x, y] T)).alloc (.cells #[p, q] T)) w.heap.size a b ∧ Bx ((((w.alloc (.cells #[a, b] T)).alloc (.cells #[c, d] T)).alloc (.cells #[x, y] T)).alloc (.cells #[p, q] T)) (w.heap.size + 1) c d ∧
    Bx ((((w.alloc (.cells #[a, b] T)).alloc (.cells #[c, d] T)).alloc (.cells #[x, y] T)).alloc (.cells #[p, q] T)) (w.heap.size + 1 + 1) x y ∧ Bx ((((w.alloc (.cells #[a, b] T)).alloc (.cells #[c, d] T)).alloc (.cells #[x, y] T)).alloc (.cells #[p, q] T)) (w.heap.size + 1 + 1 + 1) p q := by
  refine ⟨(Bx.three ..).1.alloc _, (Bx.three ..).2.1.alloc _, (Bx.three ..).2.2.alloc _, ?_⟩
  have := Bx.new (((w.alloc (.cells #[a, b] T)).alloc (.cells #[c, d] T)).alloc (.cells #[x, y] T)) p q T
  rwa [World.size_alloc, World.size_alloc, World.size_alloc] at this
/-- What a cell holds, whatever it is. -/
def cv (w : World) (a : Addr) : Value := (w.cell? a).getD undef
theorem cvx {w : World} {a : Addr} {u : Value} (h : w.cell? a = some u) : w.cell? a = some (cv w a) := by unfold cv; rw [h]; rfl
theorem cvb {w w' : World} {a : Addr} {u : Value} (hb : Below w.heap.size w w') (h : w.cell? a = some u) : w'.cell? a = some (cv w' a) := cvx (cell_below hb h)
theorem frozen_below {w w' : World} {a : Addr} {u : Value} (hb : Below w.heap.size w w') (h : w.cell? a = some u) (hf : w.frozen? a = false) : w'.frozen? a = false := by rw [hb.frozen (lt_of_cell h)]; exact hf
theorem frozen_set (w : World) (a b : Addr) (v : Value) : (w.setCell a v).frozen? b = w.frozen? b := by simp
theorem st_far {w : World} {a b c : Addr} {v x y : Value} (h : w.cell? c = some v) (h1 : a ≠ c) (h2 : b ≠ c) : ((w.setCell a x).setCell b y).cell? c = some v := by
  rw [World.cell?_setCell_other (h := h2), World.cell?_setCell_other (h := h1)]; exact h
theorem st_cv {w : World} {a b c : Addr} {v x y : Value} (h : w.cell? c = some v) : ((w.setCell a x).setCell b y).cell? c = some (cv ((w.setCell a x).setCell b y) c) := by
  have one : ∀ (W : World) (p : Addr) (z v : Value), W.cell? c = some v → ∃ u, (W.setCell p z).cell? c = some u := fun W p z v hv => by
    by_cases e : p = c
    · subst e; exact ⟨_, World.cell?_setCell_same _ _ _ hv⟩
    · exact ⟨_, by rw [World.cell?_setCell_other (h := e)]; exact hv⟩
  obtain ⟨u, hu⟩ := one w a x v h
  obtain ⟨u2, hu2⟩ := one _ b y u hu
  exact cvx hu2
theorem st_fr {w : World} {a b c : Addr} {x y : Value} (h : w.frozen? c = false) : ((w.setCell a x).setCell b y).frozen? c = false := by rw [frozen_set, frozen_set]; exact h

theorem st1_far {w : World} {a c : Addr} {v x : Value} (h : w.cell? c = some v) (h1 : a ≠ c) : (w.setCell a x).cell? c = some v := by
  rw [World.cell?_setCell_other (h := h1)]; exact h
theorem st1_cv {w : World} {a c : Addr} {v x : Value} (h : w.cell? c = some v) : (w.setCell a x).cell? c = some (cv (w.setCell a x) c) := by
  by_cases e : a = c
  · subst e; exact cvx (World.cell?_setCell_same _ _ _ h)
  · exact cvx (by rw [World.cell?_setCell_other (h := e)]; exact h)
theorem st1_fr {w : World} {a c : Addr} {x : Value} (h : w.frozen? c = false) : (w.setCell a x).frozen? c = false := by rw [frozen_set]; exact h

theorem magnitude_any (w : World) (v s : Value) (neg : Bool) (xs : List Int) (hv : v = .agg #[.bool neg, s]) (h : SlV w s xs) :
    Calls Try.prog 82 #[v] w fun e w' => (∃ s', e = .returned s' ∧ Cut s xs s' (tr xs)) ∧ Below w.heap.size w w' := by
  subst hv
  go_enter Try.func82, Try.ntmps82
  go_wp2_with (go_at_call 102; (with_reducible refine (trim_any _ _ xs (h.below ((Below.refl _ _).alloc (Nat.le_refl _) _))).mono ?_); rintro e w' ⟨⟨vt, rfl, ht⟩, rfl⟩)
  go_ret
  exact ⟨⟨_, rfl, ht⟩, (Below.refl _ _).alloc (Nat.le_refl _) _⟩

theorem signed_any (w : World) (s : Value) (neg : Bool) (xs : List Int) (h : SlV w s xs) (hb : Lb xs) :
    Calls Try.prog 86 #[.bool neg, s] w fun e w' => RetI w' (sg neg (nv xs)) e ∧ Below w.heap.size w w' := by
  have H := hid h
  have HB := hid hb
  clear hb
  go_enter Try.func86, Try.ntmps86
  go_wp2_with (go_at_call 102; (with_reducible refine (trim_any _ _ xs (h.below ((Below.refl _ _).alloc (Nat.le_refl _) _))).mono ?_); rintro e w' ⟨⟨vt, rfl, ht⟩, rfl⟩; obtain ⟨A, c, rfl, hc, _⟩ := ht _ h; have HT := hid ht; clear ht h)
  · have hl : (tr xs).length = 0 := by rename_i hh; simpa using hh
    have hz : nv xs = 0 := by rw [← nv_tr, List.eq_nil_of_length_eq_zero hl]; rfl
    refine bodyPost_ret (v := .agg #[.bool false, .slice none 0 0]) (by simp [results, Try.results86, go_sem]) rfl ⟨⟨_, rfl, ?_⟩, (Below.refl _ _).alloc (Nat.le_refl _) _⟩
    rw [hz]
    cases neg
    · exact IntV.zero _
    · exact IntV.zero _
  · have hl : (tr xs).length ≠ 0 := by rename_i hh; simpa using hh
    refine bodyPost_ret (v := .agg #[.bool neg, .slice A (tr xs).length c]) (by simp [results, Try.results86, go_sem]) rfl ⟨⟨_, rfl, ?_⟩, (Below.refl _ _).alloc (Nat.le_refl _) _⟩
    exact ⟨neg, _, tr xs, rfl, HT.out _ (H.out.below ((Below.refl _ _).alloc (Nat.le_refl _) _)), HB.out.tr, Cn.tr _, (fun _ e => hl (by rw [e]; rfl)), by rw [nv_tr]⟩
end Go.Proofs.Ytijmjkkjopplbaa

namespace Go.Proofs.Ytijmjkkjopplbaa
open Go.RowKit

theorem shortMultiply_any (w : World) (v : Value) (xs : List Int) (b c : Int) (hx : SlV w v xs) (bx : Lb xs) (hb : 0 ≤ b ∧ b < 4294967296) (hc : 0 ≤ c ∧ c < 4294967296) (lx : xs.length < 1099511627776) :
    Calls Try.prog 95 #[v, .int .u32 b, .int .u32 c] w fun e w' => RetN w' (nv xs * b + c) e ∧ Below w.heap.size w w' := by
  obtain ⟨A, cap, rfl, hcl, hx⟩ := hx
  have HX := hid hx
  have HBX := hid bx
  clear hx bx
  obtain ⟨hb0, hb1⟩ := hb
  obtain ⟨hc0, hc1⟩ := hc
  have hmk := make_u32_succ xs.length (by omega)
  go_enter Try.func95, Try.ntmps95
  go_wp2
  clear hmk
  go_loopw [8, 18] (fun v i wr => ∃ (cy : Int) (k : Nat) (os : List Int), v = .int .u64 cy ∧ i = .int .i64 k ∧ 0 ≤ cy ∧ cy < 4294967296 ∧ k ≤ xs.length ∧ Hid (os.length = xs.length + 1) ∧ Hid (Own wr w.heap.size os) ∧ Hid (Lb os) ∧
      Hid (nv (os.take k) + bp k * cy = nv (xs.take k) * b + c) ∧ Below w.heap.size w wr) (fun _ i _ => xs.length - (intOf i).toNat)
  case atStart => exact ⟨c, 0, List.replicate (xs.length + 1) 0, rfl, rfl, hc0, hc1, by omega, hid (by simp), hid (Own.made w (xs.length + 1)), hid (Lb.replicate _), hid (by simp [nv_nil, bp_zero]), (Below.refl _ _).alloc (Nat.le_refl _) _⟩
  case round =>
    obtain ⟨cy, k, os, rfl, rfl, hy0, hy1, hk, hlen, hown, hlb, hval, hbel⟩ := hrel
    by_cases hlt : k < xs.length
    · have hcell := hown.out.cell (j := k) (by have := hlen.out; omega)
      have hfree := hown.out.free k
      have hbx := HBX.out.lm k
      obtain ⟨ab, ao, rfl, hcc⟩ := HX.out.at (by omega)
      have c1 := cell_below hbel (hcc k hlt)
      clear hcc
      obtain ⟨m0, m1⟩ := limb_mul hbx ⟨hb0, hb1⟩
      go_wp2
      go_roundw
      case measure => simp [intOf]; omega
      case rel =>
        have hl := hlen.out
        obtain ⟨s, hs⟩ : ∃ s, cy + lm xs k * b = s := ⟨_, rfl⟩
        rw [hs]
        have h2 := Int.emod_nonneg s (show (4294967296 : Int) ≠ 0 by decide)
        have h3 := Int.emod_lt_of_pos s (show (0 : Int) < 4294967296 by decide)
        refine ⟨_, k + 1, os.set k (s % 4294967296), rfl, by go_num, by omega, by omega, by omega, hid (by rw [List.length_set]; exact hl), hid (hown.out.set _ _), hid (hlb.out.set _ h2 h3), hid ?_, hbel.setCell (Nat.le_refl _) _⟩
        rw [nv_take_set_succ (by omega), nv_take_succ, bp_succ, smul_step hval.out hs]
    · have HK := hid (show k = xs.length by omega)
      have hcell := hown.out.cell (j := xs.length) (by have := hlen.out; omega)
      have hfree := hown.out.free xs.length
      go_wp2_with (go_at_call 102; (with_reducible refine (trim_any _ _ (os.set xs.length cy) ((hown.out.set xs.length cy).slv (by rw [List.length_set]; exact hlen.out) (by omega) (Nat.le_refl _))).mono ?_); rintro e w' ⟨⟨vt, rfl, ht⟩, rfl⟩)
      go_ret
      refine ⟨⟨tr (os.set xs.length cy), RetSl.of (ht _ ((hown.out.set xs.length cy).slv (by rw [List.length_set]; exact hlen.out) (by omega) (Nat.le_refl _))), (hlb.out.set _ hy0 hy1).tr, Cn.tr _, ?_⟩, hbel.setCell (Nat.le_refl _) _⟩
      rw [nv_tr, nv_set_last hlen.out]
      have e := hval.out
      rw [HK.out, nv_take_all (xs := xs) (Nat.le_refl _)] at e
      exact e

end Go.Proofs.Ytijmjkkjopplbaa

namespace Go.Proofs.Ytijmjkkjopplbaa
open Go.RowKit

theorem nv_two (n : Int) (h0 : 0 ≤ n) (h1 : n < 18446744073709551616) : Lb [n % 4294967296, n / 4294967296] ∧ nv [n % 4294967296, n / 4294967296] = n := by
  constructor
  · exact Lb.cons (by omega) (by omega) (Lb.cons (by omega) (by omega) Lb.nil)
  · rw [nv_cons, nv_cons, nv_nil]; omega

theorem small_any (w : World) (n : Int) (h0 : -9223372036854775808 ≤ n) (h1 : n < 9223372036854775808) :
    Calls Try.prog 55 #[.int .i64 n] w fun e w' => RetI w' n e ∧ Below w.heap.size w w' := by
  by_cases hn : n < 0
  · obtain ⟨m, hm⟩ : ∃ m, m = -n := ⟨_, rfl⟩
    have hw : IntKind.u64.wrap (-IntKind.u64.wrap n) = m := by rw [IntKind.wrap_u64, IntKind.wrap_u64]; omega
    have m0 : 0 ≤ m := by omega
    have m1 : m ≤ 9223372036854775808 := by omega
    have HM := hid hm
    clear hm
    go_enter Try.func55, Try.ntmps55
    go_wp2_with fail
    have ho := Own.new (w.alloc (Obj.cells #[Value.bool false, Value.slice none 0 0] 24)) [m % 4294967296, m / 4294967296]
    rw [World.size_alloc] at ho
    refine (signed_any _ _ true _ (ho.slv (n := 2) (c := 2) rfl (by decide) (by decide)) (nv_two m m0 (by omega)).1).mono ?_
    rintro e w1 ⟨⟨v, rfl, hv⟩, hb⟩
    rw [(nv_two m m0 (by omega)).2] at hv
    have hB := (((Below.refl (w.heap.size + 1) (w.alloc (Obj.cells #[Value.bool false, Value.slice none 0 0] 24))).alloc (by simp) (.cells #[Value.int IntKind.u32 (m % 4294967296), Value.int IntKind.u32 (m / 4294967296)] 31)).trans (hb.mono (by simp)))
    obtain ⟨k0, k1, f0, f1⟩ := box_cells hB
    obtain ⟨neg, A, n', c, rfl, HF⟩ := fin_box (((Below.refl _ w).alloc (Nat.le_refl _) _).trans (hB.mono (Nat.le_succ _))) (Nat.le_refl _) k0 k1 hv
    clear hB hb ho hv
    go_wp2
    refine bodyPost_ret (v := .agg #[.bool neg, .slice A n' c]) (by simp [results, Try.results55, go_sem, k0, k1]) rfl ?_
    have h := HF.out
    rwa [sg_true, HM.out, Int.neg_neg] at h
  · obtain ⟨m, hm⟩ : ∃ m, m = n := ⟨_, rfl⟩
    have hw : IntKind.u64.wrap n = m := by rw [IntKind.wrap_u64]; omega
    have m0 : 0 ≤ m := by omega
    have m1 : m ≤ 9223372036854775808 := by omega
    have HM := hid hm
    clear hm
    go_enter Try.func55, Try.ntmps55
    go_wp2_with fail
    have ho := Own.new (w.alloc (Obj.cells #[Value.bool false, Value.slice none 0 0] 24)) [m % 4294967296, m / 4294967296]
    rw [World.size_alloc] at ho
    refine (signed_any _ _ false _ (ho.slv (n := 2) (c := 2) rfl (by decide) (by decide)) (nv_two m m0 (by omega)).1).mono ?_
    rintro e w1 ⟨⟨v, rfl, hv⟩, hb⟩
    rw [(nv_two m m0 (by omega)).2] at hv
    have hB := (((Below.refl (w.heap.size + 1) (w.alloc (Obj.cells #[Value.bool false, Value.slice none 0 0] 24))).alloc (by simp) (.cells #[Value.int IntKind.u32 (m % 4294967296), Value.int IntKind.u32 (m / 4294967296)] 31)).trans (hb.mono (by simp)))
    obtain ⟨k0, k1, f0, f1⟩ := box_cells hB
    obtain ⟨neg, A, n', c, rfl, HF⟩ := fin_box (((Below.refl _ w).alloc (Nat.le_refl _) _).trans (hB.mono (Nat.le_succ _))) (Nat.le_refl _) k0 k1 hv
    clear hB hb ho hv
    go_wp2
    refine bodyPost_ret (v := .agg #[.bool neg, .slice A n' c]) (by simp [results, Try.results55, go_sem, k0, k1]) rfl ?_
    have h := HF.out
    rwa [sg_false, HM.out] at h
end Go.Proofs.Ytijmjkkjopplbaa

namespace Go.Proofs.Ytijmjkkjopplbaa
open Go.RowKit
set_option linter.unusedVariables false
set_option maxRecDepth 100000

theorem tr_zero {xs : List Int} (h : Lb xs) : (tr xs).length = 0 ↔ nv xs = 0 := by
  constructor
  · intro e
    rw [← nv_tr, List.eq_nil_of_length_eq_zero e]; rfl
  · intro e
    rw [(Cn.tr xs).zero h.tr (by rw [nv_tr]; exact e)]; rfl

theorem sign_any (w : World) (v : Value) (a : Int) (n : Nat) (ha : IntA w v a n) :
    Calls Try.prog 78 #[v] w fun e w' => e = .returned (.int .i64 (cm a 0)) ∧ Below w.heap.size w w' := by
  obtain ⟨na, s, xs, rfl, hs, hl, hxn, rfl⟩ := ha
  have hz := tr_zero hl
  have hn := nv_nonneg hl
  have hs' := hs.below (bw_alloc (Below.refl _ w) (.cells #[.bool na, s] 24))
  have x0 := Bx.new w (.bool na) s 24
  have HB0 := hid (bw_alloc (Below.refl _ w) (.cells #[.bool na, s] 24))
  go_enter Try.func78, Try.ntmps78
  go_wp2_with fail
  refine (magnitude_any _ _ s na xs rfl hs').mono ?_
  rintro e w1 ⟨⟨s1, rfl, hc1⟩, hb1⟩
  obtain ⟨A1, c1, rfl, _, _⟩ := hc1 _ (hs'.below hb1)
  obtain ⟨k0, k1, f0, f1⟩ := x0.below hb1
  have HB := hid (bw_step HB0.out hb1)
  clear HB0 hb1 hs' hs hc1 x0
  by_cases h0 : (tr xs).length = 0
  · have e0 : cm (sg na (nv xs)) 0 = 0 := by rw [hz.1 h0]; cases na <;> rfl
    have E := hid e0
    clear e0 hz
    go_wp2
    go_ret
    exact ⟨by rw [E.out]; rfl, HB.out⟩
  · have hp : 0 < nv xs := by
      rcases (show nv xs = 0 ∨ 0 < nv xs by omega) with h | h
      · exact absurd (hz.2 h) h0
      · exact h
    have h2 : (((tr xs).length : Int) == 0) = false := by rw [beq_eq_false_iff_ne]; omega
    cases na with
    | false =>
      have E := hid (show cm (sg false (nv xs)) 0 = 1 from cm_gt (by rw [sg_false]; exact hp))
      clear hz hp
      go_wp2
      go_ret
      exact ⟨by rw [E.out]; rfl, HB.out⟩
    | true =>
      have E := hid (show cm (sg true (nv xs)) 0 = -1 from cm_lt (by rw [sg_true]; omega))
      clear hz hp
      go_wp2
      go_ret
      exact ⟨by rw [E.out]; rfl, HB.out⟩
end Go.Proofs.Ytijmjkkjopplbaa

namespace Go.Proofs.Ytijmjkkjopplbaa
open Go.RowKit
theorem field_mag (b : Bool) (s : Value) (w : World) : (Instr.field 24 (.agg #[.bool b, s]) 1).run Try.prog w = .ok s w := by
  simp [Instr.field, run_underlying Try.underlying24, asAgg, part, sizeOf, typeInfo]
end Go.Proofs.Ytijmjkkjopplbaa

