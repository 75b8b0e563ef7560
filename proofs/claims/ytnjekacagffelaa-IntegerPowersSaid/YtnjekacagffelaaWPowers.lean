/- The law IntegerPowers: its walk. -/
import Derived.Test.YtnjekacagffelaaAwake
import Derived.Test.YtnjekacagffelaaPow
import Derived.Test.YtnjekacagffelaaRSame
import Derived.Test.YtnjekacagffelaaArg
namespace Go.Proofs.Ytnjekacagffelaa
open Go.RowKit
set_option linter.unusedVariables false
set_option maxRecDepth 100000

def kss (k : Int) : List Int := [k, k.tmod 66, 0, 65, -1]

theorem integerPowers_long0 (w : World) (sa : Bool) (Aa : Option Addr) (na ca : Nat) (k : Int) (hk : -9223372036854775808 ≤ k ∧ k ≤ 9223372036854775807)  (ha : 6 < na) :
    Calls Try.prog 5 #[.agg #[.bool sa, .slice Aa na ca], .int .i64 k] w fun e w' => e = .returned (.bool true) ∧ Below w.heap.size w w' := by
  have hda : decide ((6 : Int) < (na : Int)) = true := by rw [decide_eq_true_eq]; omega
  have HB := hid (Below.refl w.heap.size w)
  obtain ⟨W, hW⟩ : ∃ W, W = (w.alloc (.cells #[.bool sa, .slice Aa na ca] 24)) := ⟨_, rfl⟩
  have hbb : Below w.heap.size w W := by rw [hW]; exact (bw_alloc (Below.refl _ _) _)
  have HB := hid (bw_step HB.out hbb)
  have Pa : Hid (Blk W (w.heap.size) 24 #[.bool sa, .slice Aa na ca]) := by
    rw [hW]
    have := Blk.new w 24 #[.bool sa, .slice Aa na ca]
    exact hid (by simpa only [World.size_alloc] using this)
  clear hbb
  obtain ⟨k1, l1, f1, g1⟩ := id Pa.out.bx
  go_enter Try.func5, Try.ntmps5
  go_wp2_with fail
  rw [← hW]
  clear hW
  refine (awake_any _).mono ?_
  rintro e W2 ⟨rfl, hb2⟩
  clear k1 l1 f1 g1
  have HB := hid (bw_step HB.out hb2)
  have Pa := hid (Pa.out.below hb2)
  clear hb2
  go_wp2
  go_ret
  exact ⟨rfl, HB.out⟩
set_option maxHeartbeats 8000000 in
theorem integerPowers_short (w : World) (sa : Bool) (Aa : Option Addr) (na ca : Nat) (k : Int) (hk : -9223372036854775808 ≤ k ∧ k ≤ 9223372036854775807) (ha : na ≤ 6) (za : Int) (fa : IntA w (.agg #[.bool sa, .slice Aa na ca]) za 6) :
    Calls Try.prog 5 #[.agg #[.bool sa, .slice Aa na ca], .int .i64 k] w fun e w' => e = .returned (.bool true) ∧ Below w.heap.size w w' := by
  have hda : decide ((6 : Int) < (na : Int)) = false := by rw [decide_eq_false_iff_not]; omega
  have Fa := hid fa
  have Fa0 := Fa
  clear fa
  have HB := hid (Below.refl w.heap.size w)
  obtain ⟨W, hW⟩ : ∃ W, W = (w.alloc (.cells #[.bool sa, .slice Aa na ca] 24)) := ⟨_, rfl⟩
  have hbb : Below w.heap.size w W := by rw [hW]; exact (bw_alloc (Below.refl _ _) _)
  have HW := hid (show W.heap.size = w.heap.size + 1 by rw [hW]; simp)
  have HB := hid (bw_step HB.out hbb)
  have Fa := hid (Fa.out.below hbb)
  have Pa : Hid (Blk W (w.heap.size) 24 #[.bool sa, .slice Aa na ca]) := by
    rw [hW]
    have := Blk.new w 24 #[.bool sa, .slice Aa na ca]
    exact hid (by simpa only [World.size_alloc] using this)
  clear hbb
  obtain ⟨k1, l1, f1, g1⟩ := id Pa.out.bx
  have HK := hid hk
  obtain ⟨hk1, hk2⟩ := hk
  have ht := Int.tmod_lt_of_pos k (show (0 : Int) < 66 by decide)
  have ht2 : -66 < k.tmod 66 := by have := Int.tmod_lt_of_pos (-k) (show (0 : Int) < 66 by decide); rw [Int.neg_tmod] at this; omega
  go_enter Try.func5, Try.ntmps5
  go_wp2_with fail
  rw [← hW]
  clear hW
  have Bk := Blk.new W 3 #[.int .i64 k, .int .i64 (k.tmod 66), .int .i64 0, .int .i64 65, .int .i64 (-1)]
  have hWs : W.heap.size = w.heap.size + 1 := by
    have h1 := Pa.out.lt
    have h2 := HW.out
    omega
  rw [hWs] at Bk
  have hbl := bw_alloc (Below.refl _ W) (.cells #[.int .i64 k, .int .i64 (k.tmod 66), .int .i64 0, .int .i64 65, .int .i64 (-1)] 3)
  have HB := hid (bw_step HB.out hbl)
  have Fa := hid (Fa.out.below hbl)
  have Pa := hid (Pa.out.below hbl)
  have BK := hid Bk
  clear hbl Bk
  go_loopw [21] (fun v wr => ∃ j : Nat, v = .int .i64 (j : Int) ∧ j ≤ 5 ∧ Hid (Blk wr (w.heap.size + 1) 3 #[.int .i64 k, .int .i64 (k.tmod 66), .int .i64 0, .int .i64 65, .int .i64 (-1)]) ∧ Hid (Blk wr w.heap.size 24 #[.bool sa, .slice Aa na ca]) ∧ Hid (Below w.heap.size w wr)) (fun v _ => 5 - (intOf v).toNat)
  case atStart => exact ⟨0, rfl, by omega, BK, Pa.out, HB.out⟩
  case round =>
    clear Fa Pa HB BK
    obtain ⟨j, rfl, hj, BK, Pa, HB⟩ := hrel
    have Fa := hid (Fa0.out.below HB.out)
    by_cases hlt : j < 5
    · have hc : wr.cell? ⟨w.heap.size + 1, j, none⟩ = some (.int .i64 (lm (kss k) j)) := by
        rw [BK.out.cell j]
        rcases (show j = 0 ∨ j = 1 ∨ j = 2 ∨ j = 3 ∨ j = 4 by omega) with rfl | rfl | rfl | rfl | rfl <;> rfl
      generalize lm (kss k) j = kk at *
      by_cases hr : kk < 0 ∨ 64 < kk
      · have HR := hid hr
        clear hr
        obtain ⟨k2, l2, f2, g2⟩ := id Pa.out.bx
        go_wp2_with fail
        refine (pow_out _ _ za 6 kk Fa.out HR.out).mono ?_
        rintro e W3 ⟨rfl, hb3⟩
        clear k1 l1 f1 g1 k2 l2 f2 g2
        have HB := hid (bw_step HB.out hb3)
        have Fa := hid (Fa.out.below hb3)
        have Pa := hid (Pa.out.below hb3)
        have BK := hid (BK.out.below hb3)
        clear hb3
        clear hc
        have U := hid (IntV.zero W3)
        have hbb := bw_alloc (Below.refl _ W3) (.cells #[.bool false, .slice none 0 0] 24)
        have XU := Blk.new W3 24 #[.bool false, .slice none 0 0]
        have HB := hid (bw_step HB.out hbb)
        have Fa := hid (Fa.out.below hbb)
        have Pa := hid (Pa.out.below hbb)
        have BK := hid (BK.out.below hbb)
        have U := hid (U.out.below hbb)
        have XU := hid XU
        clear hbb
        obtain ⟨k4, l4, f4, g4⟩ := id Pa.out.bx
        go_wp2_with fail
        refine (rpow_out _ _ za 6 kk Fa.out HR.out).mono ?_
        rintro e W5 ⟨rfl, hb5⟩
        clear k4 l4 f4 g4
        have HB := hid (bw_step HB.out hb5)
        have Fa := hid (Fa.out.below hb5)
        have Pa := hid (Pa.out.below hb5)
        have BK := hid (BK.out.below hb5)
        have U := hid (U.out.below hb5)
        have XU := hid (XU.out.below hb5)
        clear hb5
        have S := hid (IntV.zero W5)
        have hbb := bw_alloc (Below.refl _ W5) (.cells #[.bool false, .slice none 0 0] 24)
        have XS := Blk.new W5 24 #[.bool false, .slice none 0 0]
        have HB := hid (bw_step HB.out hbb)
        have Fa := hid (Fa.out.below hbb)
        have Pa := hid (Pa.out.below hbb)
        have BK := hid (BK.out.below hbb)
        have U := hid (U.out.below hbb)
        have XU := hid (XU.out.below hbb)
        have S := hid (S.out.below hbb)
        have XS := hid XS
        clear hbb
        obtain ⟨k6, l6, f6, g6⟩ := id XU.out.bx
        obtain ⟨k7, l7, f7, g7⟩ := id XS.out.bx
        go_wp2_with fail
        refine (rsame_any _ _ _ 0 0 U.out S.out).mono ?_
        rintro e W8 ⟨he, hb8⟩
        rw [decide_eq_true rfl] at he
        subst he
        clear k6 l6 f6 g6 k7 l7 f7 g7
        have HB := hid (bw_step HB.out hb8)
        have Fa := hid (Fa.out.below hb8)
        have Pa := hid (Pa.out.below hb8)
        have BK := hid (BK.out.below hb8)
        have U := hid (U.out.below hb8)
        have XU := hid (XU.out.below hb8)
        have S := hid (S.out.below hb8)
        have XS := hid (XS.out.below hb8)
        clear hb8
        go_wp2
        go_roundw
        case measure => simp [intOf]; omega
        case rel =>
          first
            | exact ⟨j + 1, by go_num, by omega, BK, Pa, HB⟩
            | ((repeat apply Exists.intro); refine ⟨?_, rfl⟩; exact ⟨j + 1, by go_num, by omega, BK, Pa, HB⟩)
      · obtain ⟨m, rfl⟩ := Int.eq_ofNat_of_zero_le (show 0 ≤ kk by omega)
        have hm := hid (show m ≤ 64 by omega)
        clear hr
        obtain ⟨k9, l9, f9, g9⟩ := id Pa.out.bx
        go_wp2_with fail
        refine (pow_in _ _ za 6 (by decide) m hm.out Fa.out).mono ?_
        rintro e W10 ⟨⟨u, rfl, hu⟩, hb10⟩
        clear k1 l1 f1 g1 k9 l9 f9 g9
        have HB := hid (bw_step HB.out hb10)
        have Fa := hid (Fa.out.below hb10)
        have Pa := hid (Pa.out.below hb10)
        have BK := hid (BK.out.below hb10)
        clear hb10
        clear hc
        obtain ⟨q101, A101, n101, c101, rfl⟩ := hu.form
        have U := hid hu
        clear hu
        have hbb := bw_alloc (Below.refl _ W10) (.cells #[.bool q101, .slice A101 n101 c101] 24)
        have XU := Blk.new W10 24 #[.bool q101, .slice A101 n101 c101]
        have HB := hid (bw_step HB.out hbb)
        have Fa := hid (Fa.out.below hbb)
        have Pa := hid (Pa.out.below hbb)
        have BK := hid (BK.out.below hbb)
        have U := hid (U.out.below hbb)
        have XU := hid XU
        clear hbb
        obtain ⟨k11, l11, f11, g11⟩ := id Pa.out.bx
        go_wp2_with fail
        refine (rpow_in _ _ za 6 (by decide) m hm.out Fa.out).mono ?_
        rintro e W12 ⟨⟨u, rfl, hu⟩, hb12⟩
        clear k11 l11 f11 g11
        have HB := hid (bw_step HB.out hb12)
        have Fa := hid (Fa.out.below hb12)
        have Pa := hid (Pa.out.below hb12)
        have BK := hid (BK.out.below hb12)
        have U := hid (U.out.below hb12)
        have XU := hid (XU.out.below hb12)
        clear hb12
        obtain ⟨q121, A121, n121, c121, rfl⟩ := hu.form
        have S := hid hu
        clear hu
        have hbb := bw_alloc (Below.refl _ W12) (.cells #[.bool q121, .slice A121 n121 c121] 24)
        have XS := Blk.new W12 24 #[.bool q121, .slice A121 n121 c121]
        have HB := hid (bw_step HB.out hbb)
        have Fa := hid (Fa.out.below hbb)
        have Pa := hid (Pa.out.below hbb)
        have BK := hid (BK.out.below hbb)
        have U := hid (U.out.below hbb)
        have XU := hid (XU.out.below hbb)
        have S := hid (S.out.below hbb)
        have XS := hid XS
        clear hbb
        obtain ⟨k13, l13, f13, g13⟩ := id XU.out.bx
        obtain ⟨k14, l14, f14, g14⟩ := id XS.out.bx
        go_wp2_with fail
        refine (rsame_any _ _ _ (za ^ m) (za ^ m) U.out S.out).mono ?_
        rintro e W15 ⟨he, hb15⟩
        rw [decide_eq_true rfl] at he
        subst he
        clear k13 l13 f13 g13 k14 l14 f14 g14
        have HB := hid (bw_step HB.out hb15)
        have Fa := hid (Fa.out.below hb15)
        have Pa := hid (Pa.out.below hb15)
        have BK := hid (BK.out.below hb15)
        have U := hid (U.out.below hb15)
        have XU := hid (XU.out.below hb15)
        have S := hid (S.out.below hb15)
        have XS := hid (XS.out.below hb15)
        clear hb15
        go_wp2
        go_roundw
        case measure => simp [intOf]; omega
        case rel =>
          first
            | exact ⟨j + 1, by go_num, by omega, BK, Pa, HB⟩
            | ((repeat apply Exists.intro); refine ⟨?_, rfl⟩; exact ⟨j + 1, by go_num, by omega, BK, Pa, HB⟩)
    · have hd : decide ((j : Int) < 5) = false := by rw [decide_eq_false_iff_not]; omega
      go_wp2_with fail
      refine (awake_any _).mono ?_
      rintro e W16 ⟨rfl, hb16⟩
      clear k1 l1 f1 g1
      have HB := hid (bw_step HB.out hb16)
      have Fa := hid (Fa.out.below hb16)
      have Pa := hid (Pa.out.below hb16)
      have BK := hid (BK.out.below hb16)
      clear hb16
      go_wp2
      go_ret
      exact ⟨rfl, HB.out⟩
theorem integerPowers_walk (w : World) (va : Value) (ha : ArgI w va) (k : Int) (hk : -9223372036854775808 ≤ k ∧ k ≤ 9223372036854775807) :
    Calls Try.prog 5 #[va, .int .i64 k] w fun e w' => e = .returned (.bool true) ∧ Below w.heap.size w w' := by
  obtain ⟨sa, Aa, na, ca, rfl, _, _⟩ := id ha
  rcases ha.short 6 (by decide) with ka | ⟨ka, za, fa⟩
  · exact integerPowers_long0 w sa Aa na ca k hk ka
  exact integerPowers_short w sa Aa na ca k hk ka za fa
end Go.Proofs.Ytnjekacagffelaa
