/- A part of the proof of the laws of rationals: RMake, RSmall. -/
import Derived.Test.YtijmjkkjopplbaaPam
import Derived.Test.YtijmjkkjopplbaaPab
import Derived.Test.YtijmjkkjopplbaaPac
import Derived.Test.YtijmjkkjopplbaaPai
import Derived.Test.YtijmjkkjopplbaaPaa
namespace Go.Proofs.Ytijmjkkjopplbaa
open Go.RowKit
set_option linter.unusedVariables false
set_option maxRecDepth 100000

theorem rmake_any (w : World) (neg : Bool) (s : Value) (xs : List Int) (hs : SlV w s xs) (hl : Lb xs) :
    Calls Try.prog 89 #[.bool neg, s] w fun e w' => RetI w' (sg neg (nv xs)) e ∧ Below w.heap.size w w' := by
  have x0 := Bx.new w (.bool false) (.slice none 0 0) 24
  have hb := bw_alloc (Below.refl _ w) (.cells #[.bool false, .slice none 0 0] 24)
  have S0 := hid (hs.below hb)
  have HL := hid hl
  clear hs hl
  go_enter Try.func89, Try.ntmps89
  go_wp2_with fail
  refine (rtrim_any _ _ xs S0.out).mono ?_
  rintro e w1 ⟨⟨s1, rfl, hr⟩, hb1⟩
  have HB := hid (bw_step hb hb1)
  obtain ⟨k0, k1, f0, f1⟩ := x0.below hb1
  have hsl := S0.out.len
  have V := hid (hr.slv (by rw [tr_length]; have := tl_le xs; omega))
  obtain ⟨A1, c1, rfl⟩ := hr.len
  clear hb hb1 x0 hr hsl S0
  by_cases h0 : (tr xs).length = 0
  · have hz : nv xs = 0 := by rw [← nv_tr, List.eq_nil_of_length_eq_zero h0]; rfl
    have V2 := hid (show IntV w1 (.agg #[.bool false, .slice A1 (tr xs).length c1]) (sg neg (nv xs)) from ⟨false, _, tr xs, rfl, V.out, HL.out.tr, Cn.tr _, (fun h => by cases h), by rw [nv_tr, hz]; cases neg <;> rfl⟩)
    have F := hid (fin_any HB.out (g := w.heap.size) (Nat.le_refl _) k0 k1 V2.out (.bool false) (.slice A1 (tr xs).length c1))
    have d1 : ¬ 0 < (tr xs).length := by omega
    clear hz h0
    cases neg <;>
    · go_wp2
      exact bodyPost_ret (v := .agg #[.bool false, .slice A1 (tr xs).length c1]) (by simp [results, Try.results89, go_sem, k0, k1]) rfl ⟨⟨_, rfl, F.out.1⟩, F.out.2⟩
  · have V2 := hid (show IntV w1 (.agg #[.bool neg, .slice A1 (tr xs).length c1]) (sg neg (nv xs)) from ⟨neg, _, tr xs, rfl, V.out, HL.out.tr, Cn.tr _, (fun _ e => h0 (by rw [e]; rfl)), by rw [nv_tr]⟩)
    have F := hid (fin_any HB.out (g := w.heap.size) (Nat.le_refl _) k0 k1 V2.out (.bool neg) (.slice A1 (tr xs).length c1))
    have d1 : 0 < (tr xs).length := by omega
    clear h0
    cases neg <;>
    · go_wp2
      exact bodyPost_ret (by simp [results, Try.results89, go_sem, k0, k1]) rfl ⟨⟨_, rfl, F.out.1⟩, F.out.2⟩

end Go.Proofs.Ytijmjkkjopplbaa

namespace Go.Proofs.Ytijmjkkjopplbaa
open Go.RowKit
set_option linter.unusedVariables false
set_option maxRecDepth 100000

theorem rword_any (w : World) (neg : Bool) (m : Int) (m0 : 0 ≤ m) (m1 : m < 18446744073709551616) :
    Calls Try.prog 76 #[.bool neg, .int .u64 m] w fun e w' => RetI w' (sg neg m) e ∧ Below w.heap.size w w' := by
  have x0 := Bx.new w (.bool false) (.slice none 0 0) 24
  have hb0 := bw_alloc (Below.refl _ w) (.cells #[.bool false, .slice none 0 0] 24)
  go_enter Try.func76, Try.ntmps76
  go_wp2_with fail
  have ho := Own.new (w.alloc (Obj.cells #[Value.bool false, Value.slice none 0 0] 24)) [m % 4294967296, m / 4294967296]
  have hb1 := bw_alloc (Below.refl _ (w.alloc (Obj.cells #[Value.bool false, Value.slice none 0 0] 24))) (.cells #[.int .u32 (m % 4294967296), .int .u32 (m / 4294967296)] 31)
  rw [World.size_alloc] at ho
  refine (rmake_any _ neg _ _ (ho.slv (n := 2) (c := 2) rfl (by decide) (by decide)) (nv_two m m0 (by omega)).1).mono ?_
  rintro e w1 ⟨⟨v, rfl, hv⟩, hb⟩
  rw [(nv_two m m0 (by omega)).2] at hv
  have HB := hid (bw_step hb0 (bw_step hb1 hb))
  obtain ⟨k0, k1, f0, f1⟩ := (x0.below hb1).below hb
  obtain ⟨q, A, n', c, rfl⟩ := hv.form
  have F := hid (fin_any HB.out (g := w.heap.size) (Nat.le_refl _) k0 k1 hv (.bool q) (.slice A n' c))
  clear hb hb0 hb1 ho hv x0
  go_wp2
  exact bodyPost_ret (v := .agg #[.bool q, .slice A n' c]) (by simp [results, Try.results76, go_sem, k0, k1]) rfl ⟨⟨_, rfl, F.out.1⟩, F.out.2⟩

theorem rsmall_any (w : World) (n : Int) (h0 : -9223372036854775808 ≤ n) (h1 : n < 9223372036854775808) :
    Calls Try.prog 35 #[.int .i64 n] w fun e w' => RetI w' n e ∧ Below w.heap.size w w' := by
  have x0 := Bx.new w (.bool false) (.slice none 0 0) 24
  have hb0 := bw_alloc (Below.refl _ w) (.cells #[.bool false, .slice none 0 0] 24)
  by_cases hn : n < 0
  · obtain ⟨m, hm⟩ : ∃ m, m = -n := ⟨_, rfl⟩
    have hw : IntKind.u64.wrap (-IntKind.u64.wrap n) = m := by rw [IntKind.wrap_u64, IntKind.wrap_u64]; omega
    have m0 : 0 ≤ m := by omega
    have m1 : m < 18446744073709551616 := by omega
    have HM := hid (show sg true m = n by rw [sg_true, hm]; omega)
    clear hm
    go_enter Try.func35, Try.ntmps35
    go_wp2_with fail
    refine (rword_any _ true m m0 m1).mono ?_
    rintro e w1 ⟨⟨v, rfl, hv⟩, hb⟩
    rw [HM.out] at hv
    have HB := hid (bw_step hb0 hb)
    obtain ⟨k0, k1, f0, f1⟩ := x0.below hb
    obtain ⟨q, A, n', c, rfl⟩ := hv.form
    have F := hid (fin_any HB.out (g := w.heap.size) (Nat.le_refl _) k0 k1 hv (.bool q) (.slice A n' c))
    clear hb hb0 hv x0
    go_wp2
    exact bodyPost_ret (v := .agg #[.bool q, .slice A n' c]) (by simp [results, Try.results35, go_sem, k0, k1]) rfl ⟨⟨_, rfl, F.out.1⟩, F.out.2⟩
  · obtain ⟨m, hm⟩ : ∃ m, m = n := ⟨_, rfl⟩
    have hw : IntKind.u64.wrap n = m := by rw [IntKind.wrap_u64]; omega
    have m0 : 0 ≤ m := by omega
    have m1 : m < 18446744073709551616 := by omega
    have HM := hid (show sg false m = n by rw [sg_false, hm])
    clear hm
    go_enter Try.func35, Try.ntmps35
    go_wp2_with fail
    refine (rword_any _ false m m0 m1).mono ?_
    rintro e w1 ⟨⟨v, rfl, hv⟩, hb⟩
    rw [HM.out] at hv
    have HB := hid (bw_step hb0 hb)
    obtain ⟨k0, k1, f0, f1⟩ := x0.below hb
    obtain ⟨q, A, n', c, rfl⟩ := hv.form
    have F := hid (fin_any HB.out (g := w.heap.size) (Nat.le_refl _) k0 k1 hv (.bool q) (.slice A n' c))
    clear hb hb0 hv x0
    go_wp2
    exact bodyPost_ret (v := .agg #[.bool q, .slice A n' c]) (by simp [results, Try.results35, go_sem, k0, k1]) rfl ⟨⟨_, rfl, F.out.1⟩, F.out.2⟩
end Go.Proofs.Ytijmjkkjopplbaa

