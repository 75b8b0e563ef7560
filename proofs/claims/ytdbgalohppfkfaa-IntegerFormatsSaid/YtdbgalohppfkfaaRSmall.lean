/- The reference: word, Small. -/
import Derived.Test.YtdbgalohppfkfaaRMake
import Derived.Test.YtdbgalohppfkfaaSmall
namespace Go.Proofs.Ytdbgalohppfkfaa
open Go.RowKit
set_option linter.unusedVariables false

theorem rword_any (w : World) (neg : Bool) (m : Int) (m0 : 0 ≤ m) (m1 : m < 18446744073709551616) :
    Calls Try.prog 51 #[.bool neg, .int .u64 m] w fun e w' => RetI w' (sg neg m) e ∧ Below w.heap.size w w' := by
  have x0 := Bx.new w (.bool false) (.slice none 0 0) 24
  have hb0 := bw_alloc (Below.refl _ w) (.cells #[.bool false, .slice none 0 0] 24)
  go_enter Try.func51, Try.ntmps51
  go_wp2_with fail
  have ho := Own.new (w.alloc (Obj.cells #[Value.bool false, Value.slice none 0 0] 24)) [m % 4294967296, m / 4294967296]
  have hb1 := bw_alloc (Below.refl _ (w.alloc (Obj.cells #[Value.bool false, Value.slice none 0 0] 24))) (.cells #[.int .u32 (m % 4294967296), .int .u32 (m / 4294967296)] 33)
  rw [World.size_alloc] at ho
  refine (rmake_any _ neg _ _ (ho.slv (n := 2) (c := 2) rfl (by decide) (by decide)) (nv_two m m0 (by omega)).1).mono ?_
  rintro e w1 ⟨⟨v, rfl, hv⟩, hb⟩
  rw [(nv_two m m0 (by omega)).2] at hv
  have HB := hid (bw_step hb0 (bw_step hb1 hb))
  obtain ⟨k0, k1, f0, f1⟩ := (x0.below hb1).below hb
  obtain ⟨q, A, n', c, rfl⟩ := hv.form
  have F := hid (fin_any HB.out (g := w.heap.size) (Nat.le_refl _) k0 k1 hv (.bool q) (.slice A n' c))
  clear hb hb0 hb1 ho hv x0
  go_wp2
  exact bodyPost_ret (v := .agg #[.bool q, .slice A n' c]) (by simp [results, Try.results51, go_sem, k0, k1]) rfl ⟨⟨_, rfl, F.out.1⟩, F.out.2⟩

theorem rsmall_any (w : World) (n : Int) (h0 : -9223372036854775808 ≤ n) (h1 : n < 9223372036854775808) :
    Calls Try.prog 25 #[.int .i64 n] w fun e w' => RetI w' n e ∧ Below w.heap.size w w' := by
  have x0 := Bx.new w (.bool false) (.slice none 0 0) 24
  have hb0 := bw_alloc (Below.refl _ w) (.cells #[.bool false, .slice none 0 0] 24)
  by_cases hn : n < 0
  · obtain ⟨m, hm⟩ : ∃ m, m = -n := ⟨_, rfl⟩
    have hw : IntKind.u64.wrap (-IntKind.u64.wrap n) = m := by rw [IntKind.wrap_u64, IntKind.wrap_u64]; omega
    have m0 : 0 ≤ m := by omega
    have m1 : m < 18446744073709551616 := by omega
    have HM := hid (show sg true m = n by rw [sg_true, hm]; omega)
    clear hm
    go_enter Try.func25, Try.ntmps25
    go_wp2_with fail
    refine (rword_any _ true m m0 m1).mono ?_
    rintro e w1 ⟨⟨v, rfl, hv⟩, hb⟩
    rw [HM.out] at hv
    have HB := hid (bw_step hb0 hb)
    obtain ⟨k0, k1, f0, f1⟩ := x0.below hb
    obtain ⟨q, A, n', c, rfl⟩ := hv.form
    have F := hid (fin_any HB.out (g := w.heap.size) (Nat.le_refl _) k0 k1 hv (.bool q) (.slice A n' c))
    clear hb hb0 hv x0
    go_wp2
    exact bodyPost_ret (v := .agg #[.bool q, .slice A n' c]) (by simp [results, Try.results25, go_sem, k0, k1]) rfl ⟨⟨_, rfl, F.out.1⟩, F.out.2⟩
  · obtain ⟨m, hm⟩ : ∃ m, m = n := ⟨_, rfl⟩
    have hw : IntKind.u64.wrap n = m := by rw [IntKind.wrap_u64]; omega
    have m0 : 0 ≤ m := by omega
    have m1 : m < 18446744073709551616 := by omega
    have HM := hid (show sg false m = n by rw [sg_false, hm])
    clear hm
    go_enter Try.func25, Try.ntmps25
    go_wp2_with fail
    refine (rword_any _ false m m0 m1).mono ?_
    rintro e w1 ⟨⟨v, rfl, hv⟩, hb⟩
    rw [HM.out] at hv
    have HB := hid (bw_step hb0 hb)
    obtain ⟨k0, k1, f0, f1⟩ := x0.below hb
    obtain ⟨q, A, n', c, rfl⟩ := hv.form
    have F := hid (fin_any HB.out (g := w.heap.size) (Nat.le_refl _) k0 k1 hv (.bool q) (.slice A n' c))
    clear hb hb0 hv x0
    go_wp2
    exact bodyPost_ret (v := .agg #[.bool q, .slice A n' c]) (by simp [results, Try.results25, go_sem, k0, k1]) rfl ⟨⟨_, rfl, F.out.1⟩, F.out.2⟩
end Go.Proofs.Ytdbgalohppfkfaa
