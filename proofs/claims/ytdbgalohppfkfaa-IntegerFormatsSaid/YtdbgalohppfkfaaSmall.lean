/- Walks: Small, Int64. -/
import Derived.Test.YtdbgalohppfkfaaIntV
namespace Go.Proofs.Ytdbgalohppfkfaa
open Go.RowKit

theorem nv_two (n : Int) (h0 : 0 ≤ n) (h1 : n < 18446744073709551616) : Lb [n % 4294967296, n / 4294967296] ∧ nv [n % 4294967296, n / 4294967296] = n := by
  constructor
  · exact Lb.cons (by omega) (by omega) (Lb.cons (by omega) (by omega) Lb.nil)
  · rw [nv_cons, nv_cons, nv_nil]; omega

theorem small_any (w : World) (n : Int) (h0 : -9223372036854775808 ≤ n) (h1 : n < 9223372036854775808) :
    Calls Try.prog 15 #[.int .i64 n] w fun e w' => RetI w' n e ∧ Below w.heap.size w w' := by
  by_cases hn : n < 0
  · obtain ⟨m, hm⟩ : ∃ m, m = -n := ⟨_, rfl⟩
    have hw : IntKind.u64.wrap (-IntKind.u64.wrap n) = m := by rw [IntKind.wrap_u64, IntKind.wrap_u64]; omega
    have m0 : 0 ≤ m := by omega
    have m1 : m ≤ 9223372036854775808 := by omega
    have HM := hid hm
    clear hm
    go_enter Try.func15, Try.ntmps15
    go_wp2_with fail
    have ho := Own.new (w.alloc (Obj.cells #[Value.bool false, Value.slice none 0 0] 24)) [m % 4294967296, m / 4294967296]
    rw [World.size_alloc] at ho
    refine (signed_any _ _ true _ (ho.slv (n := 2) (c := 2) rfl (by decide) (by decide)) (nv_two m m0 (by omega)).1).mono ?_
    rintro e w1 ⟨⟨v, rfl, hv⟩, hb⟩
    rw [(nv_two m m0 (by omega)).2] at hv
    have hB := (((Below.refl (w.heap.size + 1) (w.alloc (Obj.cells #[Value.bool false, Value.slice none 0 0] 24))).alloc (by simp) (.cells #[Value.int IntKind.u32 (m % 4294967296), Value.int IntKind.u32 (m / 4294967296)] 33)).trans (hb.mono (by simp)))
    obtain ⟨k0, k1, f0, f1⟩ := box_cells hB
    obtain ⟨neg, A, n', c, rfl, HF⟩ := fin_box (((Below.refl _ w).alloc (Nat.le_refl _) _).trans (hB.mono (Nat.le_succ _))) (Nat.le_refl _) k0 k1 hv
    clear hB hb ho hv
    go_wp2
    refine bodyPost_ret (v := .agg #[.bool neg, .slice A n' c]) (by simp [results, Try.results15, go_sem, k0, k1]) rfl ?_
    have h := HF.out
    rwa [sg_true, HM.out, Int.neg_neg] at h
  · obtain ⟨m, hm⟩ : ∃ m, m = n := ⟨_, rfl⟩
    have hw : IntKind.u64.wrap n = m := by rw [IntKind.wrap_u64]; omega
    have m0 : 0 ≤ m := by omega
    have m1 : m ≤ 9223372036854775808 := by omega
    have HM := hid hm
    clear hm
    go_enter Try.func15, Try.ntmps15
    go_wp2_with fail
    have ho := Own.new (w.alloc (Obj.cells #[Value.bool false, Value.slice none 0 0] 24)) [m % 4294967296, m / 4294967296]
    rw [World.size_alloc] at ho
    refine (signed_any _ _ false _ (ho.slv (n := 2) (c := 2) rfl (by decide) (by decide)) (nv_two m m0 (by omega)).1).mono ?_
    rintro e w1 ⟨⟨v, rfl, hv⟩, hb⟩
    rw [(nv_two m m0 (by omega)).2] at hv
    have hB := (((Below.refl (w.heap.size + 1) (w.alloc (Obj.cells #[Value.bool false, Value.slice none 0 0] 24))).alloc (by simp) (.cells #[Value.int IntKind.u32 (m % 4294967296), Value.int IntKind.u32 (m / 4294967296)] 33)).trans (hb.mono (by simp)))
    obtain ⟨k0, k1, f0, f1⟩ := box_cells hB
    obtain ⟨neg, A, n', c, rfl, HF⟩ := fin_box (((Below.refl _ w).alloc (Nat.le_refl _) _).trans (hB.mono (Nat.le_succ _))) (Nat.le_refl _) k0 k1 hv
    clear hB hb ho hv
    go_wp2
    refine bodyPost_ret (v := .agg #[.bool neg, .slice A n' c]) (by simp [results, Try.results15, go_sem, k0, k1]) rfl ?_
    have h := HF.out
    rwa [sg_false, HM.out] at h
end Go.Proofs.Ytdbgalohppfkfaa
