/- A part of the proof of the laws of rationals: WRPowersR. -/
import Derived.Test.YtklamiajcdkmnaaPae
import Derived.Test.YtklamiajcdkmnaaPam
import Derived.Test.YtklamiajcdkmnaaPaBc
import Derived.Test.YtklamiajcdkmnaaPaBd
import Derived.Test.YtklamiajcdkmnaaPaBb
import Derived.Test.YtklamiajcdkmnaaPbh
import Derived.Test.YtklamiajcdkmnaaPal
import Derived.Test.YtklamiajcdkmnaaPab
import Derived.Test.YtklamiajcdkmnaaPaf
import Derived.Test.YtklamiajcdkmnaaPad
import Derived.Test.YtklamiajcdkmnaaPbb
import Derived.Test.YtklamiajcdkmnaaPac
import Derived.Test.YtklamiajcdkmnaaPav
import Derived.Test.YtklamiajcdkmnaaPay
import Derived.Test.YtklamiajcdkmnaaPao
import Derived.Test.YtklamiajcdkmnaaPat
import Derived.Test.YtklamiajcdkmnaaPba
import Derived.Test.YtklamiajcdkmnaaPaa
import Derived.Test.YtklamiajcdkmnaaPai
import Derived.Test.YtklamiajcdkmnaaPah
import Derived.Test.YtklamiajcdkmnaaPag
import Derived.Test.YtklamiajcdkmnaaPkRationalPowersa
import Derived.Test.YtklamiajcdkmnaaPan
import Derived.Test.YtklamiajcdkmnaaPaj
import Derived.Test.YtklamiajcdkmnaaPax
import Derived.Test.YtklamiajcdkmnaaPkRationalPowersh
import Derived.Test.YtklamiajcdkmnaaPkRationalPowersi
import Derived.Test.YtklamiajcdkmnaaPap
import Derived.Test.YtklamiajcdkmnaaPas
import Derived.Test.YtklamiajcdkmnaaPbf
import Derived.Test.YtklamiajcdkmnaaPbe
import Derived.Test.YtklamiajcdkmnaaPbg
import Derived.Test.YtklamiajcdkmnaaPbd
import Derived.Test.YtklamiajcdkmnaaPbj
import Derived.Test.YtklamiajcdkmnaaPau
import Derived.Test.YtklamiajcdkmnaaPbi
import Derived.Test.YtklamiajcdkmnaaPar
import Derived.Test.YtklamiajcdkmnaaPkRationalPowerse
import Derived.Test.YtklamiajcdkmnaaPaw
import Derived.Test.YtklamiajcdkmnaaPbk
import Derived.Test.YtklamiajcdkmnaaPkRationalPowersd
import Derived.Test.YtklamiajcdkmnaaPbc
import Derived.Test.YtklamiajcdkmnaaPaBa
import Derived.Test.YtklamiajcdkmnaaPaq
import Derived.Test.YtklamiajcdkmnaaPkRationalPowersc
import Derived.Test.YtklamiajcdkmnaaPkRationalPowersb
import Derived.Test.YtklamiajcdkmnaaPbl
import Derived.Test.YtklamiajcdkmnaaPkRationalPowersf
import Derived.Test.YtklamiajcdkmnaaPak
import Derived.Test.YtklamiajcdkmnaaPaz
namespace Go.Proofs.Ytklamiajcdkmnaa
open Go.RowKit
set_option linter.unusedVariables false
set_option maxRecDepth 100000

def kss (k : Int) : List Int := [k, k.tmod 66, 0, -1, 65]

set_option maxHeartbeats 4000000 in
theorem rationalPowers_long0 (w : World) (sa1 : Bool) (Aa1 : Option Addr) (na1 ca1 : Nat) (sa2 : Bool) (Aa2 : Option Addr) (na2 ca2 : Nat) (k : Int) (hk : -9223372036854775808 ≤ k ∧ k ≤ 9223372036854775807) (h1 : 2 < na1) :
    Calls Try.prog 5 #[.agg #[.bool sa1, .slice Aa1 na1 ca1, .bool sa2, .slice Aa2 na2 ca2], .int .i64 k] w fun e w' => e = .returned (.bool true) ∧ Below w.heap.size w w' := by
  have HB := hid (Below.refl w.heap.size w)
  obtain ⟨W, hW⟩ : ∃ W, W = (w.alloc (.cells #[.bool sa1, .slice Aa1 na1 ca1, .bool sa2, .slice Aa2 na2 ca2] 26)) := ⟨_, rfl⟩
  have hbb : Below w.heap.size w W := by rw [hW]; exact (bw_alloc (Below.refl _ _) _)
  have HB := hid (bw_step HB.out hbb)
  have Pa : Hid (Blk W (w.heap.size) 26 #[.bool sa1, .slice Aa1 na1 ca1, .bool sa2, .slice Aa2 na2 ca2]) := by
    rw [hW]
    have := Blk.new w 26 #[.bool sa1, .slice Aa1 na1 ca1, .bool sa2, .slice Aa2 na2 ca2]
    exact hid (by simpa only [World.size_alloc] using this)
  clear hbb
  have HWs := hid (show W.heap.size = w.heap.size + 1 by rw [hW]; simp)
  have d1 : decide ((2 : Int) < (na1 : Int)) = true := by rw [decide_eq_true_eq]; omega
  have c1 : (2 : Int) < (na1 : Int) := by omega
  have ua0 := Pa.out.cell 0
  have ua1 := Pa.out.cell 1
  have ua2 := Pa.out.cell 2
  have ua3 := Pa.out.cell 3
  go_enter Try.func5, Try.ntmps5
  go_wp2_with fail
  rw [← hW]
  clear hW
  clear ua0 ua1 ua2 ua3
  refine (awakeR_any _).mono ?_
  rintro e W1 ⟨rfl, hb1⟩
  have HB := hid (bw_step HB.out hb1)
  have Pa := hid (Pa.out.below hb1)
  clear hb1
  go_wp2
  go_ret
  exact ⟨rfl, HB.out⟩
set_option maxHeartbeats 4000000 in
theorem rationalPowers_long1 (w : World) (sa1 : Bool) (Aa1 : Option Addr) (na1 ca1 : Nat) (sa2 : Bool) (Aa2 : Option Addr) (na2 ca2 : Nat) (k : Int) (hk : -9223372036854775808 ≤ k ∧ k ≤ 9223372036854775807) (h1 : na1 ≤ 2) (h2 : 2 < na2) :
    Calls Try.prog 5 #[.agg #[.bool sa1, .slice Aa1 na1 ca1, .bool sa2, .slice Aa2 na2 ca2], .int .i64 k] w fun e w' => e = .returned (.bool true) ∧ Below w.heap.size w w' := by
  have HB := hid (Below.refl w.heap.size w)
  obtain ⟨W, hW⟩ : ∃ W, W = (w.alloc (.cells #[.bool sa1, .slice Aa1 na1 ca1, .bool sa2, .slice Aa2 na2 ca2] 26)) := ⟨_, rfl⟩
  have hbb : Below w.heap.size w W := by rw [hW]; exact (bw_alloc (Below.refl _ _) _)
  have HB := hid (bw_step HB.out hbb)
  have Pa : Hid (Blk W (w.heap.size) 26 #[.bool sa1, .slice Aa1 na1 ca1, .bool sa2, .slice Aa2 na2 ca2]) := by
    rw [hW]
    have := Blk.new w 26 #[.bool sa1, .slice Aa1 na1 ca1, .bool sa2, .slice Aa2 na2 ca2]
    exact hid (by simpa only [World.size_alloc] using this)
  clear hbb
  have HWs := hid (show W.heap.size = w.heap.size + 1 by rw [hW]; simp)
  have d1 : decide ((2 : Int) < (na1 : Int)) = false := by rw [decide_eq_false_iff_not]; omega
  have c1 : ¬ (2 : Int) < (na1 : Int) := by omega
  have d2 : decide ((2 : Int) < (na2 : Int)) = true := by rw [decide_eq_true_eq]; omega
  have c2 : (2 : Int) < (na2 : Int) := by omega
  have ua0 := Pa.out.cell 0
  have ua1 := Pa.out.cell 1
  have ua2 := Pa.out.cell 2
  have ua3 := Pa.out.cell 3
  go_enter Try.func5, Try.ntmps5
  go_wp2_with fail
  rw [← hW]
  clear hW
  clear ua0 ua1 ua2 ua3
  refine (awakeR_any _).mono ?_
  rintro e W1 ⟨rfl, hb1⟩
  have HB := hid (bw_step HB.out hb1)
  have Pa := hid (Pa.out.below hb1)
  clear hb1
  go_wp2
  go_ret
  exact ⟨rfl, HB.out⟩
set_option maxHeartbeats 16000000 in
theorem rationalPowers_short (w : World) (sa1 : Bool) (Aa1 : Option Addr) (na1 ca1 : Nat) (sa2 : Bool) (Aa2 : Option Addr) (na2 ca2 : Nat) (k : Int) (hk : -9223372036854775808 ≤ k ∧ k ≤ 9223372036854775807) (h1 : na1 ≤ 2) (h2 : na2 ≤ 2) (pa qa : Int) (fa1 : IntA w (.agg #[.bool sa1, .slice Aa1 na1 ca1]) pa 2) (fa2 : IntA w (.agg #[.bool sa2, .slice Aa2 na2 ca2]) qa 2) :
    Calls Try.prog 5 #[.agg #[.bool sa1, .slice Aa1 na1 ca1, .bool sa2, .slice Aa2 na2 ca2], .int .i64 k] w fun e w' => e = .returned (.bool true) ∧ Below w.heap.size w w' := by
  have Fa1 := hid fa1
  have Sa1 := hid fa1.sm
  have Fa2 := hid fa2
  have Sa2 := hid fa2.sm
  clear fa1 fa2
  have HA := hid (show RatA w (.agg #[.bool sa1, .slice Aa1 na1 ca1, .bool sa2, .slice Aa2 na2 ca2]) (Rat.divInt pa qa) 2 from RatA.of (Pair.mk (a := .A pa 2) (b := .A qa 2) Fa1.out Fa2.out))
  have HB := hid (Below.refl w.heap.size w)
  obtain ⟨W, hW⟩ : ∃ W, W = (w.alloc (.cells #[.bool sa1, .slice Aa1 na1 ca1, .bool sa2, .slice Aa2 na2 ca2] 26)) := ⟨_, rfl⟩
  have hbb : Below w.heap.size w W := by rw [hW]; exact (bw_alloc (Below.refl _ _) _)
  have HB := hid (bw_step HB.out hbb)
  have Fa1 := hid (Fa1.out.below hbb)
  have Fa2 := hid (Fa2.out.below hbb)
  have Pa : Hid (Blk W (w.heap.size) 26 #[.bool sa1, .slice Aa1 na1 ca1, .bool sa2, .slice Aa2 na2 ca2]) := by
    rw [hW]
    have := Blk.new w 26 #[.bool sa1, .slice Aa1 na1 ca1, .bool sa2, .slice Aa2 na2 ca2]
    exact hid (by simpa only [World.size_alloc] using this)
  clear hbb
  have HWs := hid (show W.heap.size = w.heap.size + 1 by rw [hW]; simp)
  have d1 : decide ((2 : Int) < (na1 : Int)) = false := by rw [decide_eq_false_iff_not]; omega
  have c1 : ¬ (2 : Int) < (na1 : Int) := by omega
  have d2 : decide ((2 : Int) < (na2 : Int)) = false := by rw [decide_eq_false_iff_not]; omega
  have c2 : ¬ (2 : Int) < (na2 : Int) := by omega
  have HKK := hid hk
  obtain ⟨hk1, hk2⟩ := hk
  have ht := Int.tmod_lt_of_pos k (show (0 : Int) < 66 by decide)
  have ht2 : -66 < k.tmod 66 := by have := Int.tmod_lt_of_pos (-k) (show (0 : Int) < 66 by decide); rw [Int.neg_tmod] at this; omega
  have ua0 := Pa.out.cell 0
  have ua1 := Pa.out.cell 1
  have ua2 := Pa.out.cell 2
  have ua3 := Pa.out.cell 3
  go_enter Try.func5, Try.ntmps5
  go_wp2_with fail
  rw [← hW]
  clear hW
  clear ua0 ua1 ua2 ua3
  clear d1 d2 c1 c2 h1 h2
  have Bk := Blk.new W 3 #[.int .i64 k, .int .i64 (k.tmod 66), .int .i64 0, .int .i64 (-1), .int .i64 65]
  rw [HWs.out] at Bk
  have hbl := bw_alloc (Below.refl _ W) (.cells #[.int .i64 k, .int .i64 (k.tmod 66), .int .i64 0, .int .i64 (-1), .int .i64 65] 3)
  have HB := hid (bw_step HB.out hbl)
  have Fa1 := hid (Fa1.out.below hbl)
  have Fa2 := hid (Fa2.out.below hbl)
  have Pa := hid (Pa.out.below hbl)
  have BK := hid Bk
  clear hbl Bk
  go_loopw [29] (fun v wr => ∃ j : Nat, v = .int .i64 (j : Int) ∧ j ≤ 5 ∧ Hid (Blk wr (w.heap.size + 1) 3 #[.int .i64 k, .int .i64 (k.tmod 66), .int .i64 0, .int .i64 (-1), .int .i64 65]) ∧ Hid (Blk wr w.heap.size 26 #[.bool sa1, .slice Aa1 na1 ca1, .bool sa2, .slice Aa2 na2 ca2]) ∧ Hid (Below w.heap.size w wr)) (fun v _ => 5 - (intOf v).toNat)
  case atStart => exact ⟨0, rfl, by omega, BK, Pa.out, HB.out⟩
  case round =>
    clear Fa1 Fa2 Pa HB BK
    obtain ⟨j, rfl, hj, BK, Pa, HB⟩ := hrel
    have RA := hid (HA.out.below HB.out)
    by_cases hlt : j < 5
    · have hc : wr.cell? ⟨w.heap.size + 1, j, none⟩ = some (.int .i64 (lm (kss k) j)) := by
        rw [BK.out.cell j]
        rcases (show j = 0 ∨ j = 1 ∨ j = 2 ∨ j = 3 ∨ j = 4 by omega) with rfl | rfl | rfl | rfl | rfl <;> rfl
      generalize lm (kss k) j = kk at *
      have cases4 : (kk < -64 ∨ 64 < kk) ∨ (∃ m : Nat, kk = (m : Int) ∧ m ≤ 64) ∨ (∃ m : Nat, kk = -(m : Int) ∧ m ≤ 64 ∧ 0 < m) := by
        rcases (show (kk < -64 ∨ 64 < kk) ∨ (0 ≤ kk ∧ kk ≤ 64) ∨ (-64 ≤ kk ∧ kk < 0) by omega) with h | h | h
        · exact .inl h
        · exact .inr (.inl ⟨kk.toNat, by omega, by omega⟩)
        · exact .inr (.inr ⟨(-kk).toNat, by omega, by omega, by omega⟩)
      rcases cases4 with hr | ⟨m, rfl, hm⟩ | ⟨m, rfl, hm, hm0⟩
      · have HR := hid hr
        clear hr
        have ua0 := Pa.out.cell 0
        have ua1 := Pa.out.cell 1
        have ua2 := Pa.out.cell 2
        have ua3 := Pa.out.cell 3
        go_wp2_with fail
        refine (powR_out _ _ (Rat.divInt pa qa) 2 (RA.out) (by decide) (by decide) kk HR.out).mono ?_
        rintro e W1 ⟨⟨u, rfl, v, rfl, hv⟩, hb1⟩
        have HB := hid (bw_step HB.out hb1)
        have Pa := hid (Pa.out.below hb1)
        have BK := hid (BK.out.below hb1)
        have RA := hid (RA.out.below hb1)
        clear hb1
        obtain ⟨q11, A11, n11, c11, q12, A12, n12, c12, rfl, h1, h2⟩ := hv.form
        have U1 : Hid (IntV W1 (.agg #[.bool q11, .slice A11 n11 c11]) 0) := hid h1
        have U2 : Hid (IntV W1 (.agg #[.bool q12, .slice A12 n12 c12]) 0) := hid h2
        clear h1 h2 hv
        have hbb := bw_alloc (Below.refl _ W1) (.cells #[.bool q11, .slice A11 n11 c11, .bool q12, .slice A12 n12 c12] 26)
        have XU := Blk.new W1 26 #[.bool q11, .slice A11 n11 c11, .bool q12, .slice A12 n12 c12]
        have HB := hid (bw_step HB.out hbb)
        have Pa := hid (Pa.out.below hbb)
        have BK := hid (BK.out.below hbb)
        have RA := hid (RA.out.below hbb)
        have U1 := hid (U1.out.below hbb)
        have U2 := hid (U2.out.below hbb)
        have XU := hid XU
        clear hbb
        clear ua0 ua1 ua2 ua3
        clear hc
        have ua0 := Pa.out.cell 0
        have ua1 := Pa.out.cell 1
        have ua2 := Pa.out.cell 2
        have ua3 := Pa.out.cell 3
        go_wp2_with fail
        refine (rpowR_out _ _ (Rat.divInt pa qa) 2 (RA.out) (by decide) (by decide) kk HR.out).mono ?_
        rintro e W2 ⟨⟨u, rfl, v, rfl, hv⟩, hb2⟩
        have HB := hid (bw_step HB.out hb2)
        have Pa := hid (Pa.out.below hb2)
        have BK := hid (BK.out.below hb2)
        have RA := hid (RA.out.below hb2)
        have U1 := hid (U1.out.below hb2)
        have U2 := hid (U2.out.below hb2)
        have XU := hid (XU.out.below hb2)
        clear hb2
        obtain ⟨q21, A21, n21, c21, q22, A22, n22, c22, rfl, h1, h2⟩ := hv.form
        have V1 : Hid (IntV W2 (.agg #[.bool q21, .slice A21 n21 c21]) 0) := hid h1
        have V2 : Hid (IntV W2 (.agg #[.bool q22, .slice A22 n22 c22]) 0) := hid h2
        clear h1 h2 hv
        have hbb := bw_alloc (Below.refl _ W2) (.cells #[.bool q21, .slice A21 n21 c21, .bool q22, .slice A22 n22 c22] 26)
        have XV := Blk.new W2 26 #[.bool q21, .slice A21 n21 c21, .bool q22, .slice A22 n22 c22]
        have HB := hid (bw_step HB.out hbb)
        have Pa := hid (Pa.out.below hbb)
        have BK := hid (BK.out.below hbb)
        have RA := hid (RA.out.below hbb)
        have U1 := hid (U1.out.below hbb)
        have U2 := hid (U2.out.below hbb)
        have XU := hid (XU.out.below hbb)
        have V1 := hid (V1.out.below hbb)
        have V2 := hid (V2.out.below hbb)
        have XV := hid XV
        clear hbb
        clear ua0 ua1 ua2 ua3
        go_wp2_with (with_reducible refine halt_at 45 rfl ?_)
        unfold Halted
        refine wp_list_eachG (by kernel_rfl) 9 56 rfl rfl (by kernel_rfl)
          [Fact.eq (.agg #[.bool q11, .slice A11 n11 c11, .bool q12, .slice A12 n12 c12]), Fact.eq (.agg #[.bool q21, .slice A21 n21 c21, .bool q22, .slice A22 n22 c22]), Fact.eq (.bool true), Fact.eq (.bool false), Fact.eq (.bool false), Fact.eq (.bool false), Fact.eq (.bool false), Fact.eq (.bool false), Fact.eq (.bool false)]
          [.val, .val, .val, .val, .val, .val, .val, .val, .val]
          (fun w' => Blk w' (w.heap.size) 26 #[.bool sa1, .slice Aa1 na1 ca1, .bool sa2, .slice Aa2 na2 ca2] ∧ Blk w' (w.heap.size + 1) 3 #[.int .i64 k, .int .i64 (k.tmod 66), .int .i64 0, .int .i64 (-1), .int .i64 65] ∧ RatA w' (.agg #[.bool sa1, .slice Aa1 na1 ca1, .bool sa2, .slice Aa2 na2 ca2]) (Rat.divInt pa qa) 2 ∧ IntV w' (.agg #[.bool q11, .slice A11 n11 c11]) (0) ∧ IntV w' (.agg #[.bool q12, .slice A12 n12 c12]) (0) ∧ Blk w' (W1.heap.size) 26 #[.bool q11, .slice A11 n11 c11, .bool q12, .slice A12 n12 c12] ∧ IntV w' (.agg #[.bool q21, .slice A21 n21 c21]) (0) ∧ IntV w' (.agg #[.bool q22, .slice A22 n22 c22]) (0) ∧ Blk w' (W2.heap.size) 26 #[.bool q21, .slice A21 n21 c21, .bool q22, .slice A22 n22 c22] ∧ Below w.heap.size w w')
          (fun _ _ _ => True) [] (fun _ => 0) (by kernel_rfl)
          ⟨Pa.out, BK.out, RA.out, U1.out, U2.out, XU.out, V1.out, V2.out, XV.out, HB.out⟩
          (fun w1 w2 ⟨h0, h1, h2, h3, h4, h5, h6, h7, h8, h9⟩ hb => ⟨h0.below hb, h1.below hb, h2.below hb, h3.below hb, h4.below hb, h5.below hb, h6.below hb, h7.below hb, h8.below hb, bw_step h9 hb⟩)
          (fun w1 w2 g ⟨h0, h1, h2, h3, h4, h5, h6, h7, h8, h9⟩ hg hn ho => by
            have hg' : (W2.alloc (.cells #[.bool q21, .slice A21 n21 c21, .bool q22, .slice A22 n22 c22] 26)).heap.size ≤ g := hg.elim id (fun ⟨_, h, _⟩ => absurd h (Nat.not_lt_zero _))
            exact ⟨h0.only ho (by have := Pa.out.lt; have := BK.out.lt; have := XU.out.lt; have := XV.out.lt; omega), h1.only ho (by have := Pa.out.lt; have := BK.out.lt; have := XU.out.lt; have := XV.out.lt; omega), h2.only hn ho, h3.only hn ho, h4.only hn ho, h5.only ho (by have := Pa.out.lt; have := BK.out.lt; have := XU.out.lt; have := XV.out.lt; omega), h6.only hn ho, h7.only hn ho, h8.only ho (by have := Pa.out.lt; have := BK.out.lt; have := XU.out.lt; have := XV.out.lt; omega), below_only h9 ho (by have := Pa.out.lt; have := BK.out.lt; have := XU.out.lt; have := XV.out.lt; have := HB.out.size; omega)⟩)
          (fun l h => trivial) (fun l b w1 w2 h _ _ => trivial) (fun l b w1 w2 g h _ _ _ _ => trivial) (fun l h => by cases h) (fun l k h => by cases h) ?_ ?_
        · refine ⟨?_, ?_, ?_, ?_, ?_, ?_, ?_, ?_, ?_, trivial⟩ <;> intro L V a1 w1 hf hG hsz hφ hψ hL hdep hcl
          · obtain ⟨Pa_, BK_, RA_, U1_, U2_, XU_, V1_, V2_, XV_, HB_⟩ := hG
            refine og_none rfl ?_
            have e7 := old_slot hf 7 (by kernel_rfl)
            exact ob_pure (ex_loadR rfl e7 XU_) rfl
          · obtain ⟨Pa_, BK_, RA_, U1_, U2_, XU_, V1_, V2_, XV_, HB_⟩ := hG
            refine og_none rfl ?_
            have e9 := old_slot hf 9 (by kernel_rfl)
            exact ob_pure (ex_loadR rfl e9 XV_) rfl
          · obtain ⟨Pa_, BK_, RA_, U1_, U2_, XU_, V1_, V2_, XV_, HB_⟩ := hG
            refine og_none rfl ?_
            have d0 := dep_of hdep 0 (by kernel_rfl)
            have e45 := (new_slot hf 0 45 d0 (by kernel_rfl)).trans (show V 0 = .agg #[.bool q11, .slice A11 n11 c11, .bool q12, .slice A12 n12 c12] from hφ 0 d0)
            have d1 := dep_of hdep 1 (by kernel_rfl)
            have e46 := (new_slot hf 1 46 d1 (by kernel_rfl)).trans (show V 1 = .agg #[.bool q21, .slice A21 n21 c21, .bool q22, .slice A22 n22 c22] from hφ 1 d1)
            refine ob_go rfl (vs := #[.agg #[.bool q11, .slice A11 n11 c11, .bool q12, .slice A12 n12 c12], .agg #[.bool q21, .slice A21 n21 c21, .bool q22, .slice A22 n22 c22]]) (by simp only [List.map_toArray, List.map_cons, List.map_nil, e45, e46]) (by kernel_rfl) (rsameP_any _ _ _ 0 0 (Pair.mk (a := .V 0) (b := .V 0) U1_ U2_) (Pair.mk (a := .V 0) (b := .V 0) V1_ V2_)) ?_
            rintro e w2 ⟨he, hb⟩
            exact ⟨_, he, hb, rfl⟩
          · obtain ⟨Pa_, BK_, RA_, U1_, U2_, XU_, V1_, V2_, XV_, HB_⟩ := hG
            refine og_none rfl ?_
            have d2 := dep_of hdep 2 (by kernel_rfl)
            have e47 := (new_slot hf 2 47 d2 (by kernel_rfl)).trans (show V 2 = .bool true from hφ 2 d2)
            exact ob_pure (ex_not rfl e47) rfl
          · obtain ⟨Pa_, BK_, RA_, U1_, U2_, XU_, V1_, V2_, XV_, HB_⟩ := hG
            refine og_none rfl ?_
            have d3 := dep_of hdep 3 (by kernel_rfl)
            have e48 := (new_slot hf 3 48 d3 (by kernel_rfl)).trans (show V 3 = .bool false from hφ 3 d3)
            exact ob_pure (v := .bool false) (ex_moveV rfl e48) rfl
          · obtain ⟨Pa_, BK_, RA_, U1_, U2_, XU_, V1_, V2_, XV_, HB_⟩ := hG
            have dg := dep_of hdep 4 (by kernel_rfl)
            refine og_want rfl (yielded_of hf (n := 56) (by kernel_rfl) rfl 4 49 dg (by kernel_rfl) (show V 4 = .bool false from hφ 4 dg)) ?_
            have e8 := old_slot hf 8 (by kernel_rfl)
            exact ob_pure (v := .bool false) (ex_moveV rfl e8) rfl
          · obtain ⟨Pa_, BK_, RA_, U1_, U2_, XU_, V1_, V2_, XV_, HB_⟩ := hG
            have dg := dep_of hdep 4 (by kernel_rfl)
            refine og_want rfl (yielded_of hf (n := 56) (by kernel_rfl) rfl 4 49 dg (by kernel_rfl) (show V 4 = .bool false from hφ 4 dg)) ?_
            have e10 := old_slot hf 10 (by kernel_rfl)
            exact ob_pure (v := .bool false) (ex_moveV rfl e10) rfl
          · obtain ⟨Pa_, BK_, RA_, U1_, U2_, XU_, V1_, V2_, XV_, HB_⟩ := hG
            have dg := dep_of hdep 4 (by kernel_rfl)
            refine og_want rfl (yielded_of hf (n := 56) (by kernel_rfl) rfl 4 49 dg (by kernel_rfl) (show V 4 = .bool false from hφ 4 dg)) ?_
            have d5 := dep_of hdep 5 (by kernel_rfl)
            have e50 := (new_slot hf 5 50 d5 (by kernel_rfl)).trans (show V 5 = .bool false from hφ 5 d5)
            have d6 := dep_of hdep 6 (by kernel_rfl)
            have e51 := (new_slot hf 6 51 d6 (by kernel_rfl)).trans (show V 6 = .bool false from hφ 6 d6)
            exact ob_pure (ex_neq_bool rfl e50 e51) rfl
          · obtain ⟨Pa_, BK_, RA_, U1_, U2_, XU_, V1_, V2_, XV_, HB_⟩ := hG
            refine og_none rfl ?_
            have d4 := dep_of hdep 4 (by kernel_rfl)
            have e49 := (new_slot hf 4 49 d4 (by kernel_rfl)).trans (show V 4 = .bool false from hφ 4 d4)
            have d7 := dep_of hdep 7 (by kernel_rfl)
            have e52 := (new_slot hf 7 52 d7 (by kernel_rfl)).trans (show V 7 = .bool false from hφ 7 d7)
            exact ob_pure (v := .bool false) (ex_pick_false rfl e49 e52) rfl
        · intro V W3 hG hsz3 hφ hψ hne
          have hlt3 : (W2.alloc (.cells #[.bool q21, .slice A21 n21 c21, .bool q22, .slice A22 n22 c22] 26)).heap.size ≤ W3.heap.size := hsz3
          obtain ⟨Pa_, BK_, RA_, U1_, U2_, XU_, V1_, V2_, XV_, HB_⟩ := hG
          have Pa := hid Pa_
          have BK := hid BK_
          have RA := hid RA_
          have U1 := hid U1_
          have U2 := hid U2_
          have XU := hid XU_
          have V1 := hid V1_
          have V2 := hid V2_
          have XV := hid XV_
          have HB := hid HB_
          have y0 : V 0 = .agg #[.bool q11, .slice A11 n11 c11, .bool q12, .slice A12 n12 c12] := hφ 0 (by decide)
          have y1 : V 1 = .agg #[.bool q21, .slice A21 n21 c21, .bool q22, .slice A22 n22 c22] := hφ 1 (by decide)
          have y2 : V 2 = .bool true := hφ 2 (by decide)
          have y3 : V 3 = .bool false := hφ 3 (by decide)
          have y4 : V 4 = .bool false := hφ 4 (by decide)
          have y5 : V 5 = .bool false := hφ 5 (by decide)
          have y6 : V 6 = .bool false := hφ 6 (by decide)
          have y7 : V 7 = .bool false := hφ 7 (by decide)
          have y8 : V 8 = .bool false := hφ 8 (by decide)
          simp only [puts, Act.put, List.setIfInBounds_toArray, List.set_cons_zero, List.set_cons_succ, y0, y1, y2, y3, y4, y5, y6, y7, y8]
          clear hφ hψ hne y0 y1 y2 y3 y4 y5 y6 y7 y8 Pa_ BK_ RA_ U1_ U2_ XU_ V1_ V2_ XV_ HB_ hsz3
          go_wp2
          go_roundw
          case measure => simp [intOf]; omega
          case rel =>
            first
              | exact ⟨j + 1, by go_num, by omega, BK, Pa, HB⟩
              | ((repeat apply Exists.intro); refine ⟨?_, rfl⟩; exact ⟨j + 1, by go_num, by omega, BK, Pa, HB⟩)
      · have HM := hid hm
        clear hm
        have ua0 := Pa.out.cell 0
        have ua1 := Pa.out.cell 1
        have ua2 := Pa.out.cell 2
        have ua3 := Pa.out.cell 3
        go_wp2_with fail
        refine (powR_pos _ _ (Rat.divInt pa qa) 2 (RA.out) (by decide) (by decide) m HM.out).mono ?_
        rintro e W1 ⟨⟨u, rfl, v, rfl, hv⟩, hb1⟩
        have HB := hid (bw_step HB.out hb1)
        have Pa := hid (Pa.out.below hb1)
        have BK := hid (BK.out.below hb1)
        have RA := hid (RA.out.below hb1)
        clear hb1
        obtain ⟨q11, A11, n11, c11, q12, A12, n12, c12, rfl, h1, h2⟩ := hv.form
        have U1 : Hid (IntV W1 (.agg #[.bool q11, .slice A11 n11 c11]) ((Rat.divInt pa qa) ^ m).num) := hid h1
        have U2 : Hid (IntV W1 (.agg #[.bool q12, .slice A12 n12 c12]) (((Rat.divInt pa qa) ^ m).den : Int)) := hid h2
        clear h1 h2 hv
        have hbb := bw_alloc (Below.refl _ W1) (.cells #[.bool q11, .slice A11 n11 c11, .bool q12, .slice A12 n12 c12] 26)
        have XU := Blk.new W1 26 #[.bool q11, .slice A11 n11 c11, .bool q12, .slice A12 n12 c12]
        have HB := hid (bw_step HB.out hbb)
        have Pa := hid (Pa.out.below hbb)
        have BK := hid (BK.out.below hbb)
        have RA := hid (RA.out.below hbb)
        have U1 := hid (U1.out.below hbb)
        have U2 := hid (U2.out.below hbb)
        have XU := hid XU
        clear hbb
        clear ua0 ua1 ua2 ua3
        clear hc
        have ua0 := Pa.out.cell 0
        have ua1 := Pa.out.cell 1
        have ua2 := Pa.out.cell 2
        have ua3 := Pa.out.cell 3
        go_wp2_with fail
        refine (rpowR_pos _ _ (Rat.divInt pa qa) 2 (RA.out) (by decide) (by decide) m HM.out).mono ?_
        rintro e W2 ⟨⟨u, rfl, v, rfl, hv⟩, hb2⟩
        have HB := hid (bw_step HB.out hb2)
        have Pa := hid (Pa.out.below hb2)
        have BK := hid (BK.out.below hb2)
        have RA := hid (RA.out.below hb2)
        have U1 := hid (U1.out.below hb2)
        have U2 := hid (U2.out.below hb2)
        have XU := hid (XU.out.below hb2)
        clear hb2
        obtain ⟨q21, A21, n21, c21, q22, A22, n22, c22, rfl, h1, h2⟩ := hv.form
        have V1 : Hid (IntV W2 (.agg #[.bool q21, .slice A21 n21 c21]) ((Rat.divInt pa qa) ^ m).num) := hid h1
        have V2 : Hid (IntV W2 (.agg #[.bool q22, .slice A22 n22 c22]) (((Rat.divInt pa qa) ^ m).den : Int)) := hid h2
        clear h1 h2 hv
        have hbb := bw_alloc (Below.refl _ W2) (.cells #[.bool q21, .slice A21 n21 c21, .bool q22, .slice A22 n22 c22] 26)
        have XV := Blk.new W2 26 #[.bool q21, .slice A21 n21 c21, .bool q22, .slice A22 n22 c22]
        have HB := hid (bw_step HB.out hbb)
        have Pa := hid (Pa.out.below hbb)
        have BK := hid (BK.out.below hbb)
        have RA := hid (RA.out.below hbb)
        have U1 := hid (U1.out.below hbb)
        have U2 := hid (U2.out.below hbb)
        have XU := hid (XU.out.below hbb)
        have V1 := hid (V1.out.below hbb)
        have V2 := hid (V2.out.below hbb)
        have XV := hid XV
        clear hbb
        clear ua0 ua1 ua2 ua3
        go_wp2_with (with_reducible refine halt_at 45 rfl ?_)
        unfold Halted
        refine wp_list_eachG (by kernel_rfl) 9 56 rfl rfl (by kernel_rfl)
          [Fact.eq (.agg #[.bool q11, .slice A11 n11 c11, .bool q12, .slice A12 n12 c12]), Fact.eq (.agg #[.bool q21, .slice A21 n21 c21, .bool q22, .slice A22 n22 c22]), Fact.eq (.bool true), Fact.eq (.bool false), Fact.eq (.bool false), Fact.eq (.bool true), Fact.eq (.bool true), Fact.eq (.bool false), Fact.eq (.bool false)]
          [.val, .val, .val, .val, .val, .val, .val, .val, .val]
          (fun w' => Blk w' (w.heap.size) 26 #[.bool sa1, .slice Aa1 na1 ca1, .bool sa2, .slice Aa2 na2 ca2] ∧ Blk w' (w.heap.size + 1) 3 #[.int .i64 k, .int .i64 (k.tmod 66), .int .i64 0, .int .i64 (-1), .int .i64 65] ∧ RatA w' (.agg #[.bool sa1, .slice Aa1 na1 ca1, .bool sa2, .slice Aa2 na2 ca2]) (Rat.divInt pa qa) 2 ∧ IntV w' (.agg #[.bool q11, .slice A11 n11 c11]) (((Rat.divInt pa qa) ^ m).num) ∧ IntV w' (.agg #[.bool q12, .slice A12 n12 c12]) ((((Rat.divInt pa qa) ^ m).den : Int)) ∧ Blk w' (W1.heap.size) 26 #[.bool q11, .slice A11 n11 c11, .bool q12, .slice A12 n12 c12] ∧ IntV w' (.agg #[.bool q21, .slice A21 n21 c21]) (((Rat.divInt pa qa) ^ m).num) ∧ IntV w' (.agg #[.bool q22, .slice A22 n22 c22]) ((((Rat.divInt pa qa) ^ m).den : Int)) ∧ Blk w' (W2.heap.size) 26 #[.bool q21, .slice A21 n21 c21, .bool q22, .slice A22 n22 c22] ∧ Below w.heap.size w w')
          (fun _ _ _ => True) [] (fun _ => 0) (by kernel_rfl)
          ⟨Pa.out, BK.out, RA.out, U1.out, U2.out, XU.out, V1.out, V2.out, XV.out, HB.out⟩
          (fun w1 w2 ⟨h0, h1, h2, h3, h4, h5, h6, h7, h8, h9⟩ hb => ⟨h0.below hb, h1.below hb, h2.below hb, h3.below hb, h4.below hb, h5.below hb, h6.below hb, h7.below hb, h8.below hb, bw_step h9 hb⟩)
          (fun w1 w2 g ⟨h0, h1, h2, h3, h4, h5, h6, h7, h8, h9⟩ hg hn ho => by
            have hg' : (W2.alloc (.cells #[.bool q21, .slice A21 n21 c21, .bool q22, .slice A22 n22 c22] 26)).heap.size ≤ g := hg.elim id (fun ⟨_, h, _⟩ => absurd h (Nat.not_lt_zero _))
            exact ⟨h0.only ho (by have := Pa.out.lt; have := BK.out.lt; have := XU.out.lt; have := XV.out.lt; omega), h1.only ho (by have := Pa.out.lt; have := BK.out.lt; have := XU.out.lt; have := XV.out.lt; omega), h2.only hn ho, h3.only hn ho, h4.only hn ho, h5.only ho (by have := Pa.out.lt; have := BK.out.lt; have := XU.out.lt; have := XV.out.lt; omega), h6.only hn ho, h7.only hn ho, h8.only ho (by have := Pa.out.lt; have := BK.out.lt; have := XU.out.lt; have := XV.out.lt; omega), below_only h9 ho (by have := Pa.out.lt; have := BK.out.lt; have := XU.out.lt; have := XV.out.lt; have := HB.out.size; omega)⟩)
          (fun l h => trivial) (fun l b w1 w2 h _ _ => trivial) (fun l b w1 w2 g h _ _ _ _ => trivial) (fun l h => by cases h) (fun l k h => by cases h) ?_ ?_
        · refine ⟨?_, ?_, ?_, ?_, ?_, ?_, ?_, ?_, ?_, trivial⟩ <;> intro L V a1 w1 hf hG hsz hφ hψ hL hdep hcl
          · obtain ⟨Pa_, BK_, RA_, U1_, U2_, XU_, V1_, V2_, XV_, HB_⟩ := hG
            refine og_none rfl ?_
            have e7 := old_slot hf 7 (by kernel_rfl)
            exact ob_pure (ex_loadR rfl e7 XU_) rfl
          · obtain ⟨Pa_, BK_, RA_, U1_, U2_, XU_, V1_, V2_, XV_, HB_⟩ := hG
            refine og_none rfl ?_
            have e9 := old_slot hf 9 (by kernel_rfl)
            exact ob_pure (ex_loadR rfl e9 XV_) rfl
          · obtain ⟨Pa_, BK_, RA_, U1_, U2_, XU_, V1_, V2_, XV_, HB_⟩ := hG
            refine og_none rfl ?_
            have d0 := dep_of hdep 0 (by kernel_rfl)
            have e45 := (new_slot hf 0 45 d0 (by kernel_rfl)).trans (show V 0 = .agg #[.bool q11, .slice A11 n11 c11, .bool q12, .slice A12 n12 c12] from hφ 0 d0)
            have d1 := dep_of hdep 1 (by kernel_rfl)
            have e46 := (new_slot hf 1 46 d1 (by kernel_rfl)).trans (show V 1 = .agg #[.bool q21, .slice A21 n21 c21, .bool q22, .slice A22 n22 c22] from hφ 1 d1)
            refine ob_go rfl (vs := #[.agg #[.bool q11, .slice A11 n11 c11, .bool q12, .slice A12 n12 c12], .agg #[.bool q21, .slice A21 n21 c21, .bool q22, .slice A22 n22 c22]]) (by simp only [List.map_toArray, List.map_cons, List.map_nil, e45, e46]) (by kernel_rfl) (rsameP_any _ _ _ ((Rat.divInt pa qa) ^ m).num (((Rat.divInt pa qa) ^ m).den : Int) (Pair.mk (a := .V ((Rat.divInt pa qa) ^ m).num) (b := .V (((Rat.divInt pa qa) ^ m).den : Int)) U1_ U2_) (Pair.mk (a := .V ((Rat.divInt pa qa) ^ m).num) (b := .V (((Rat.divInt pa qa) ^ m).den : Int)) V1_ V2_)) ?_
            rintro e w2 ⟨he, hb⟩
            exact ⟨_, he, hb, rfl⟩
          · obtain ⟨Pa_, BK_, RA_, U1_, U2_, XU_, V1_, V2_, XV_, HB_⟩ := hG
            refine og_none rfl ?_
            have d2 := dep_of hdep 2 (by kernel_rfl)
            have e47 := (new_slot hf 2 47 d2 (by kernel_rfl)).trans (show V 2 = .bool true from hφ 2 d2)
            exact ob_pure (ex_not rfl e47) rfl
          · obtain ⟨Pa_, BK_, RA_, U1_, U2_, XU_, V1_, V2_, XV_, HB_⟩ := hG
            refine og_none rfl ?_
            have d3 := dep_of hdep 3 (by kernel_rfl)
            have e48 := (new_slot hf 3 48 d3 (by kernel_rfl)).trans (show V 3 = .bool false from hφ 3 d3)
            exact ob_pure (v := .bool false) (ex_moveV rfl e48) rfl
          · obtain ⟨Pa_, BK_, RA_, U1_, U2_, XU_, V1_, V2_, XV_, HB_⟩ := hG
            have dg := dep_of hdep 4 (by kernel_rfl)
            refine og_want rfl (yielded_of hf (n := 56) (by kernel_rfl) rfl 4 49 dg (by kernel_rfl) (show V 4 = .bool false from hφ 4 dg)) ?_
            have e8 := old_slot hf 8 (by kernel_rfl)
            exact ob_pure (v := .bool true) (ex_moveV rfl e8) rfl
          · obtain ⟨Pa_, BK_, RA_, U1_, U2_, XU_, V1_, V2_, XV_, HB_⟩ := hG
            have dg := dep_of hdep 4 (by kernel_rfl)
            refine og_want rfl (yielded_of hf (n := 56) (by kernel_rfl) rfl 4 49 dg (by kernel_rfl) (show V 4 = .bool false from hφ 4 dg)) ?_
            have e10 := old_slot hf 10 (by kernel_rfl)
            exact ob_pure (v := .bool true) (ex_moveV rfl e10) rfl
          · obtain ⟨Pa_, BK_, RA_, U1_, U2_, XU_, V1_, V2_, XV_, HB_⟩ := hG
            have dg := dep_of hdep 4 (by kernel_rfl)
            refine og_want rfl (yielded_of hf (n := 56) (by kernel_rfl) rfl 4 49 dg (by kernel_rfl) (show V 4 = .bool false from hφ 4 dg)) ?_
            have d5 := dep_of hdep 5 (by kernel_rfl)
            have e50 := (new_slot hf 5 50 d5 (by kernel_rfl)).trans (show V 5 = .bool true from hφ 5 d5)
            have d6 := dep_of hdep 6 (by kernel_rfl)
            have e51 := (new_slot hf 6 51 d6 (by kernel_rfl)).trans (show V 6 = .bool true from hφ 6 d6)
            exact ob_pure (ex_neq_bool rfl e50 e51) rfl
          · obtain ⟨Pa_, BK_, RA_, U1_, U2_, XU_, V1_, V2_, XV_, HB_⟩ := hG
            refine og_none rfl ?_
            have d4 := dep_of hdep 4 (by kernel_rfl)
            have e49 := (new_slot hf 4 49 d4 (by kernel_rfl)).trans (show V 4 = .bool false from hφ 4 d4)
            have d7 := dep_of hdep 7 (by kernel_rfl)
            have e52 := (new_slot hf 7 52 d7 (by kernel_rfl)).trans (show V 7 = .bool false from hφ 7 d7)
            exact ob_pure (v := .bool false) (ex_pick_false rfl e49 e52) rfl
        · intro V W3 hG hsz3 hφ hψ hne
          have hlt3 : (W2.alloc (.cells #[.bool q21, .slice A21 n21 c21, .bool q22, .slice A22 n22 c22] 26)).heap.size ≤ W3.heap.size := hsz3
          obtain ⟨Pa_, BK_, RA_, U1_, U2_, XU_, V1_, V2_, XV_, HB_⟩ := hG
          have Pa := hid Pa_
          have BK := hid BK_
          have RA := hid RA_
          have U1 := hid U1_
          have U2 := hid U2_
          have XU := hid XU_
          have V1 := hid V1_
          have V2 := hid V2_
          have XV := hid XV_
          have HB := hid HB_
          have y0 : V 0 = .agg #[.bool q11, .slice A11 n11 c11, .bool q12, .slice A12 n12 c12] := hφ 0 (by decide)
          have y1 : V 1 = .agg #[.bool q21, .slice A21 n21 c21, .bool q22, .slice A22 n22 c22] := hφ 1 (by decide)
          have y2 : V 2 = .bool true := hφ 2 (by decide)
          have y3 : V 3 = .bool false := hφ 3 (by decide)
          have y4 : V 4 = .bool false := hφ 4 (by decide)
          have y5 : V 5 = .bool true := hφ 5 (by decide)
          have y6 : V 6 = .bool true := hφ 6 (by decide)
          have y7 : V 7 = .bool false := hφ 7 (by decide)
          have y8 : V 8 = .bool false := hφ 8 (by decide)
          simp only [puts, Act.put, List.setIfInBounds_toArray, List.set_cons_zero, List.set_cons_succ, y0, y1, y2, y3, y4, y5, y6, y7, y8]
          clear hφ hψ hne y0 y1 y2 y3 y4 y5 y6 y7 y8 Pa_ BK_ RA_ U1_ U2_ XU_ V1_ V2_ XV_ HB_ hsz3
          go_wp2
          go_roundw
          case measure => simp [intOf]; omega
          case rel =>
            first
              | exact ⟨j + 1, by go_num, by omega, BK, Pa, HB⟩
              | ((repeat apply Exists.intro); refine ⟨?_, rfl⟩; exact ⟨j + 1, by go_num, by omega, BK, Pa, HB⟩)
      · have HM := hid (And.intro hm hm0)
        clear hm hm0
        by_cases hz : (Rat.divInt pa qa) = 0
        rotate_left
        · have HZ := hid hz
          clear hz
          have ua0 := Pa.out.cell 0
          have ua1 := Pa.out.cell 1
          have ua2 := Pa.out.cell 2
          have ua3 := Pa.out.cell 3
          go_wp2_with fail
          refine (powR_neg _ _ (Rat.divInt pa qa) 2 (RA.out) (by decide) (by decide) m HM.out.1 HM.out.2 HZ.out).mono ?_
          rintro e W41 ⟨⟨u, rfl, v, rfl, hv⟩, hb41⟩
          have HB := hid (bw_step HB.out hb41)
          have Pa := hid (Pa.out.below hb41)
          have BK := hid (BK.out.below hb41)
          have RA := hid (RA.out.below hb41)
          clear hb41
          obtain ⟨q411, A411, n411, c411, q412, A412, n412, c412, rfl, h1, h2⟩ := hv.form
          have U1 : Hid (IntV W41 (.agg #[.bool q411, .slice A411 n411 c411]) (inv1 (Rat.divInt pa qa) ^ m).num) := hid h1
          have U2 : Hid (IntV W41 (.agg #[.bool q412, .slice A412 n412 c412]) ((inv1 (Rat.divInt pa qa) ^ m).den : Int)) := hid h2
          clear h1 h2 hv
          have hbb := bw_alloc (Below.refl _ W41) (.cells #[.bool q411, .slice A411 n411 c411, .bool q412, .slice A412 n412 c412] 26)
          have XU := Blk.new W41 26 #[.bool q411, .slice A411 n411 c411, .bool q412, .slice A412 n412 c412]
          have HB := hid (bw_step HB.out hbb)
          have Pa := hid (Pa.out.below hbb)
          have BK := hid (BK.out.below hbb)
          have RA := hid (RA.out.below hbb)
          have U1 := hid (U1.out.below hbb)
          have U2 := hid (U2.out.below hbb)
          have XU := hid XU
          clear hbb
          clear ua0 ua1 ua2 ua3
          clear hc
          have ua0 := Pa.out.cell 0
          have ua1 := Pa.out.cell 1
          have ua2 := Pa.out.cell 2
          have ua3 := Pa.out.cell 3
          go_wp2_with fail
          refine (rpowR_neg _ _ (Rat.divInt pa qa) 2 (RA.out) (by decide) (by decide) m HM.out.1 HM.out.2 HZ.out).mono ?_
          rintro e W42 ⟨⟨u, rfl, v, rfl, hv⟩, hb42⟩
          have HB := hid (bw_step HB.out hb42)
          have Pa := hid (Pa.out.below hb42)
          have BK := hid (BK.out.below hb42)
          have RA := hid (RA.out.below hb42)
          have U1 := hid (U1.out.below hb42)
          have U2 := hid (U2.out.below hb42)
          have XU := hid (XU.out.below hb42)
          clear hb42
          obtain ⟨q421, A421, n421, c421, q422, A422, n422, c422, rfl, h1, h2⟩ := hv.form
          have V1 : Hid (IntV W42 (.agg #[.bool q421, .slice A421 n421 c421]) (inv1 (Rat.divInt pa qa) ^ m).num) := hid h1
          have V2 : Hid (IntV W42 (.agg #[.bool q422, .slice A422 n422 c422]) ((inv1 (Rat.divInt pa qa) ^ m).den : Int)) := hid h2
          clear h1 h2 hv
          have hbb := bw_alloc (Below.refl _ W42) (.cells #[.bool q421, .slice A421 n421 c421, .bool q422, .slice A422 n422 c422] 26)
          have XV := Blk.new W42 26 #[.bool q421, .slice A421 n421 c421, .bool q422, .slice A422 n422 c422]
          have HB := hid (bw_step HB.out hbb)
          have Pa := hid (Pa.out.below hbb)
          have BK := hid (BK.out.below hbb)
          have RA := hid (RA.out.below hbb)
          have U1 := hid (U1.out.below hbb)
          have U2 := hid (U2.out.below hbb)
          have XU := hid (XU.out.below hbb)
          have V1 := hid (V1.out.below hbb)
          have V2 := hid (V2.out.below hbb)
          have XV := hid XV
          clear hbb
          clear ua0 ua1 ua2 ua3
          go_wp2_with (with_reducible refine halt_at 45 rfl ?_)
          unfold Halted
          refine wp_list_eachG (by kernel_rfl) 9 56 rfl rfl (by kernel_rfl)
            [Fact.eq (.agg #[.bool q411, .slice A411 n411 c411, .bool q412, .slice A412 n412 c412]), Fact.eq (.agg #[.bool q421, .slice A421 n421 c421, .bool q422, .slice A422 n422 c422]), Fact.eq (.bool true), Fact.eq (.bool false), Fact.eq (.bool false), Fact.eq (.bool true), Fact.eq (.bool true), Fact.eq (.bool false), Fact.eq (.bool false)]
            [.val, .val, .val, .val, .val, .val, .val, .val, .val]
            (fun w' => Blk w' (w.heap.size) 26 #[.bool sa1, .slice Aa1 na1 ca1, .bool sa2, .slice Aa2 na2 ca2] ∧ Blk w' (w.heap.size + 1) 3 #[.int .i64 k, .int .i64 (k.tmod 66), .int .i64 0, .int .i64 (-1), .int .i64 65] ∧ RatA w' (.agg #[.bool sa1, .slice Aa1 na1 ca1, .bool sa2, .slice Aa2 na2 ca2]) (Rat.divInt pa qa) 2 ∧ IntV w' (.agg #[.bool q411, .slice A411 n411 c411]) ((inv1 (Rat.divInt pa qa) ^ m).num) ∧ IntV w' (.agg #[.bool q412, .slice A412 n412 c412]) (((inv1 (Rat.divInt pa qa) ^ m).den : Int)) ∧ Blk w' (W41.heap.size) 26 #[.bool q411, .slice A411 n411 c411, .bool q412, .slice A412 n412 c412] ∧ IntV w' (.agg #[.bool q421, .slice A421 n421 c421]) ((inv1 (Rat.divInt pa qa) ^ m).num) ∧ IntV w' (.agg #[.bool q422, .slice A422 n422 c422]) (((inv1 (Rat.divInt pa qa) ^ m).den : Int)) ∧ Blk w' (W42.heap.size) 26 #[.bool q421, .slice A421 n421 c421, .bool q422, .slice A422 n422 c422] ∧ Below w.heap.size w w')
            (fun _ _ _ => True) [] (fun _ => 0) (by kernel_rfl)
            ⟨Pa.out, BK.out, RA.out, U1.out, U2.out, XU.out, V1.out, V2.out, XV.out, HB.out⟩
            (fun w1 w2 ⟨h0, h1, h2, h3, h4, h5, h6, h7, h8, h9⟩ hb => ⟨h0.below hb, h1.below hb, h2.below hb, h3.below hb, h4.below hb, h5.below hb, h6.below hb, h7.below hb, h8.below hb, bw_step h9 hb⟩)
            (fun w1 w2 g ⟨h0, h1, h2, h3, h4, h5, h6, h7, h8, h9⟩ hg hn ho => by
              have hg' : (W42.alloc (.cells #[.bool q421, .slice A421 n421 c421, .bool q422, .slice A422 n422 c422] 26)).heap.size ≤ g := hg.elim id (fun ⟨_, h, _⟩ => absurd h (Nat.not_lt_zero _))
              exact ⟨h0.only ho (by have := Pa.out.lt; have := BK.out.lt; have := XU.out.lt; have := XV.out.lt; omega), h1.only ho (by have := Pa.out.lt; have := BK.out.lt; have := XU.out.lt; have := XV.out.lt; omega), h2.only hn ho, h3.only hn ho, h4.only hn ho, h5.only ho (by have := Pa.out.lt; have := BK.out.lt; have := XU.out.lt; have := XV.out.lt; omega), h6.only hn ho, h7.only hn ho, h8.only ho (by have := Pa.out.lt; have := BK.out.lt; have := XU.out.lt; have := XV.out.lt; omega), below_only h9 ho (by have := Pa.out.lt; have := BK.out.lt; have := XU.out.lt; have := XV.out.lt; have := HB.out.size; omega)⟩)
            (fun l h => trivial) (fun l b w1 w2 h _ _ => trivial) (fun l b w1 w2 g h _ _ _ _ => trivial) (fun l h => by cases h) (fun l k h => by cases h) ?_ ?_
          · refine ⟨?_, ?_, ?_, ?_, ?_, ?_, ?_, ?_, ?_, trivial⟩ <;> intro L V a1 w1 hf hG hsz hφ hψ hL hdep hcl
            · obtain ⟨Pa_, BK_, RA_, U1_, U2_, XU_, V1_, V2_, XV_, HB_⟩ := hG
              refine og_none rfl ?_
              have e7 := old_slot hf 7 (by kernel_rfl)
              exact ob_pure (ex_loadR rfl e7 XU_) rfl
            · obtain ⟨Pa_, BK_, RA_, U1_, U2_, XU_, V1_, V2_, XV_, HB_⟩ := hG
              refine og_none rfl ?_
              have e9 := old_slot hf 9 (by kernel_rfl)
              exact ob_pure (ex_loadR rfl e9 XV_) rfl
            · obtain ⟨Pa_, BK_, RA_, U1_, U2_, XU_, V1_, V2_, XV_, HB_⟩ := hG
              refine og_none rfl ?_
              have d0 := dep_of hdep 0 (by kernel_rfl)
              have e45 := (new_slot hf 0 45 d0 (by kernel_rfl)).trans (show V 0 = .agg #[.bool q411, .slice A411 n411 c411, .bool q412, .slice A412 n412 c412] from hφ 0 d0)
              have d1 := dep_of hdep 1 (by kernel_rfl)
              have e46 := (new_slot hf 1 46 d1 (by kernel_rfl)).trans (show V 1 = .agg #[.bool q421, .slice A421 n421 c421, .bool q422, .slice A422 n422 c422] from hφ 1 d1)
              refine ob_go rfl (vs := #[.agg #[.bool q411, .slice A411 n411 c411, .bool q412, .slice A412 n412 c412], .agg #[.bool q421, .slice A421 n421 c421, .bool q422, .slice A422 n422 c422]]) (by simp only [List.map_toArray, List.map_cons, List.map_nil, e45, e46]) (by kernel_rfl) (rsameP_any _ _ _ (inv1 (Rat.divInt pa qa) ^ m).num ((inv1 (Rat.divInt pa qa) ^ m).den : Int) (Pair.mk (a := .V (inv1 (Rat.divInt pa qa) ^ m).num) (b := .V ((inv1 (Rat.divInt pa qa) ^ m).den : Int)) U1_ U2_) (Pair.mk (a := .V (inv1 (Rat.divInt pa qa) ^ m).num) (b := .V ((inv1 (Rat.divInt pa qa) ^ m).den : Int)) V1_ V2_)) ?_
              rintro e w2 ⟨he, hb⟩
              exact ⟨_, he, hb, rfl⟩
            · obtain ⟨Pa_, BK_, RA_, U1_, U2_, XU_, V1_, V2_, XV_, HB_⟩ := hG
              refine og_none rfl ?_
              have d2 := dep_of hdep 2 (by kernel_rfl)
              have e47 := (new_slot hf 2 47 d2 (by kernel_rfl)).trans (show V 2 = .bool true from hφ 2 d2)
              exact ob_pure (ex_not rfl e47) rfl
            · obtain ⟨Pa_, BK_, RA_, U1_, U2_, XU_, V1_, V2_, XV_, HB_⟩ := hG
              refine og_none rfl ?_
              have d3 := dep_of hdep 3 (by kernel_rfl)
              have e48 := (new_slot hf 3 48 d3 (by kernel_rfl)).trans (show V 3 = .bool false from hφ 3 d3)
              exact ob_pure (v := .bool false) (ex_moveV rfl e48) rfl
            · obtain ⟨Pa_, BK_, RA_, U1_, U2_, XU_, V1_, V2_, XV_, HB_⟩ := hG
              have dg := dep_of hdep 4 (by kernel_rfl)
              refine og_want rfl (yielded_of hf (n := 56) (by kernel_rfl) rfl 4 49 dg (by kernel_rfl) (show V 4 = .bool false from hφ 4 dg)) ?_
              have e8 := old_slot hf 8 (by kernel_rfl)
              exact ob_pure (v := .bool true) (ex_moveV rfl e8) rfl
            · obtain ⟨Pa_, BK_, RA_, U1_, U2_, XU_, V1_, V2_, XV_, HB_⟩ := hG
              have dg := dep_of hdep 4 (by kernel_rfl)
              refine og_want rfl (yielded_of hf (n := 56) (by kernel_rfl) rfl 4 49 dg (by kernel_rfl) (show V 4 = .bool false from hφ 4 dg)) ?_
              have e10 := old_slot hf 10 (by kernel_rfl)
              exact ob_pure (v := .bool true) (ex_moveV rfl e10) rfl
            · obtain ⟨Pa_, BK_, RA_, U1_, U2_, XU_, V1_, V2_, XV_, HB_⟩ := hG
              have dg := dep_of hdep 4 (by kernel_rfl)
              refine og_want rfl (yielded_of hf (n := 56) (by kernel_rfl) rfl 4 49 dg (by kernel_rfl) (show V 4 = .bool false from hφ 4 dg)) ?_
              have d5 := dep_of hdep 5 (by kernel_rfl)
              have e50 := (new_slot hf 5 50 d5 (by kernel_rfl)).trans (show V 5 = .bool true from hφ 5 d5)
              have d6 := dep_of hdep 6 (by kernel_rfl)
              have e51 := (new_slot hf 6 51 d6 (by kernel_rfl)).trans (show V 6 = .bool true from hφ 6 d6)
              exact ob_pure (ex_neq_bool rfl e50 e51) rfl
            · obtain ⟨Pa_, BK_, RA_, U1_, U2_, XU_, V1_, V2_, XV_, HB_⟩ := hG
              refine og_none rfl ?_
              have d4 := dep_of hdep 4 (by kernel_rfl)
              have e49 := (new_slot hf 4 49 d4 (by kernel_rfl)).trans (show V 4 = .bool false from hφ 4 d4)
              have d7 := dep_of hdep 7 (by kernel_rfl)
              have e52 := (new_slot hf 7 52 d7 (by kernel_rfl)).trans (show V 7 = .bool false from hφ 7 d7)
              exact ob_pure (v := .bool false) (ex_pick_false rfl e49 e52) rfl
          · intro V W43 hG hsz43 hφ hψ hne
            have hlt43 : (W42.alloc (.cells #[.bool q421, .slice A421 n421 c421, .bool q422, .slice A422 n422 c422] 26)).heap.size ≤ W43.heap.size := hsz43
            obtain ⟨Pa_, BK_, RA_, U1_, U2_, XU_, V1_, V2_, XV_, HB_⟩ := hG
            have Pa := hid Pa_
            have BK := hid BK_
            have RA := hid RA_
            have U1 := hid U1_
            have U2 := hid U2_
            have XU := hid XU_
            have V1 := hid V1_
            have V2 := hid V2_
            have XV := hid XV_
            have HB := hid HB_
            have y0 : V 0 = .agg #[.bool q411, .slice A411 n411 c411, .bool q412, .slice A412 n412 c412] := hφ 0 (by decide)
            have y1 : V 1 = .agg #[.bool q421, .slice A421 n421 c421, .bool q422, .slice A422 n422 c422] := hφ 1 (by decide)
            have y2 : V 2 = .bool true := hφ 2 (by decide)
            have y3 : V 3 = .bool false := hφ 3 (by decide)
            have y4 : V 4 = .bool false := hφ 4 (by decide)
            have y5 : V 5 = .bool true := hφ 5 (by decide)
            have y6 : V 6 = .bool true := hφ 6 (by decide)
            have y7 : V 7 = .bool false := hφ 7 (by decide)
            have y8 : V 8 = .bool false := hφ 8 (by decide)
            simp only [puts, Act.put, List.setIfInBounds_toArray, List.set_cons_zero, List.set_cons_succ, y0, y1, y2, y3, y4, y5, y6, y7, y8]
            clear hφ hψ hne y0 y1 y2 y3 y4 y5 y6 y7 y8 Pa_ BK_ RA_ U1_ U2_ XU_ V1_ V2_ XV_ HB_ hsz43
            go_wp2
            go_roundw
            case measure => simp [intOf]; omega
            case rel =>
              first
                | exact ⟨j + 1, by go_num, by omega, BK, Pa, HB⟩
                | ((repeat apply Exists.intro); refine ⟨?_, rfl⟩; exact ⟨j + 1, by go_num, by omega, BK, Pa, HB⟩)
        · have HZ := hid hz
          clear hz
          have ua0 := Pa.out.cell 0
          have ua1 := Pa.out.cell 1
          have ua2 := Pa.out.cell 2
          have ua3 := Pa.out.cell 3
          go_wp2_with fail
          refine (powR_negz _ _ (Rat.divInt pa qa) 2 (RA.out) (by decide) (by decide) m HM.out.1 HM.out.2 HZ.out).mono ?_
          rintro e W1 ⟨⟨u, rfl, v, rfl, hv⟩, hb1⟩
          have HB := hid (bw_step HB.out hb1)
          have Pa := hid (Pa.out.below hb1)
          have BK := hid (BK.out.below hb1)
          have RA := hid (RA.out.below hb1)
          clear hb1
          obtain ⟨q11, A11, n11, c11, q12, A12, n12, c12, rfl, h1, h2⟩ := hv.form
          have U1 : Hid (IntV W1 (.agg #[.bool q11, .slice A11 n11 c11]) 0) := hid h1
          have U2 : Hid (IntV W1 (.agg #[.bool q12, .slice A12 n12 c12]) 0) := hid h2
          clear h1 h2 hv
          have hbb := bw_alloc (Below.refl _ W1) (.cells #[.bool q11, .slice A11 n11 c11, .bool q12, .slice A12 n12 c12] 26)
          have XU := Blk.new W1 26 #[.bool q11, .slice A11 n11 c11, .bool q12, .slice A12 n12 c12]
          have HB := hid (bw_step HB.out hbb)
          have Pa := hid (Pa.out.below hbb)
          have BK := hid (BK.out.below hbb)
          have RA := hid (RA.out.below hbb)
          have U1 := hid (U1.out.below hbb)
          have U2 := hid (U2.out.below hbb)
          have XU := hid XU
          clear hbb
          clear ua0 ua1 ua2 ua3
          clear hc
          have ua0 := Pa.out.cell 0
          have ua1 := Pa.out.cell 1
          have ua2 := Pa.out.cell 2
          have ua3 := Pa.out.cell 3
          go_wp2_with fail
          refine (rpowR_negz _ _ (Rat.divInt pa qa) 2 (RA.out) (by decide) (by decide) m HM.out.1 HM.out.2 HZ.out).mono ?_
          rintro e W2 ⟨⟨u, rfl, v, rfl, hv⟩, hb2⟩
          have HB := hid (bw_step HB.out hb2)
          have Pa := hid (Pa.out.below hb2)
          have BK := hid (BK.out.below hb2)
          have RA := hid (RA.out.below hb2)
          have U1 := hid (U1.out.below hb2)
          have U2 := hid (U2.out.below hb2)
          have XU := hid (XU.out.below hb2)
          clear hb2
          obtain ⟨q21, A21, n21, c21, q22, A22, n22, c22, rfl, h1, h2⟩ := hv.form
          have V1 : Hid (IntV W2 (.agg #[.bool q21, .slice A21 n21 c21]) 0) := hid h1
          have V2 : Hid (IntV W2 (.agg #[.bool q22, .slice A22 n22 c22]) 0) := hid h2
          clear h1 h2 hv
          have hbb := bw_alloc (Below.refl _ W2) (.cells #[.bool q21, .slice A21 n21 c21, .bool q22, .slice A22 n22 c22] 26)
          have XV := Blk.new W2 26 #[.bool q21, .slice A21 n21 c21, .bool q22, .slice A22 n22 c22]
          have HB := hid (bw_step HB.out hbb)
          have Pa := hid (Pa.out.below hbb)
          have BK := hid (BK.out.below hbb)
          have RA := hid (RA.out.below hbb)
          have U1 := hid (U1.out.below hbb)
          have U2 := hid (U2.out.below hbb)
          have XU := hid (XU.out.below hbb)
          have V1 := hid (V1.out.below hbb)
          have V2 := hid (V2.out.below hbb)
          have XV := hid XV
          clear hbb
          clear ua0 ua1 ua2 ua3
          go_wp2_with (with_reducible refine halt_at 45 rfl ?_)
          unfold Halted
          refine wp_list_eachG (by kernel_rfl) 9 56 rfl rfl (by kernel_rfl)
            [Fact.eq (.agg #[.bool q11, .slice A11 n11 c11, .bool q12, .slice A12 n12 c12]), Fact.eq (.agg #[.bool q21, .slice A21 n21 c21, .bool q22, .slice A22 n22 c22]), Fact.eq (.bool true), Fact.eq (.bool false), Fact.eq (.bool false), Fact.eq (.bool false), Fact.eq (.bool false), Fact.eq (.bool false), Fact.eq (.bool false)]
            [.val, .val, .val, .val, .val, .val, .val, .val, .val]
            (fun w' => Blk w' (w.heap.size) 26 #[.bool sa1, .slice Aa1 na1 ca1, .bool sa2, .slice Aa2 na2 ca2] ∧ Blk w' (w.heap.size + 1) 3 #[.int .i64 k, .int .i64 (k.tmod 66), .int .i64 0, .int .i64 (-1), .int .i64 65] ∧ RatA w' (.agg #[.bool sa1, .slice Aa1 na1 ca1, .bool sa2, .slice Aa2 na2 ca2]) (Rat.divInt pa qa) 2 ∧ IntV w' (.agg #[.bool q11, .slice A11 n11 c11]) (0) ∧ IntV w' (.agg #[.bool q12, .slice A12 n12 c12]) (0) ∧ Blk w' (W1.heap.size) 26 #[.bool q11, .slice A11 n11 c11, .bool q12, .slice A12 n12 c12] ∧ IntV w' (.agg #[.bool q21, .slice A21 n21 c21]) (0) ∧ IntV w' (.agg #[.bool q22, .slice A22 n22 c22]) (0) ∧ Blk w' (W2.heap.size) 26 #[.bool q21, .slice A21 n21 c21, .bool q22, .slice A22 n22 c22] ∧ Below w.heap.size w w')
            (fun _ _ _ => True) [] (fun _ => 0) (by kernel_rfl)
            ⟨Pa.out, BK.out, RA.out, U1.out, U2.out, XU.out, V1.out, V2.out, XV.out, HB.out⟩
            (fun w1 w2 ⟨h0, h1, h2, h3, h4, h5, h6, h7, h8, h9⟩ hb => ⟨h0.below hb, h1.below hb, h2.below hb, h3.below hb, h4.below hb, h5.below hb, h6.below hb, h7.below hb, h8.below hb, bw_step h9 hb⟩)
            (fun w1 w2 g ⟨h0, h1, h2, h3, h4, h5, h6, h7, h8, h9⟩ hg hn ho => by
              have hg' : (W2.alloc (.cells #[.bool q21, .slice A21 n21 c21, .bool q22, .slice A22 n22 c22] 26)).heap.size ≤ g := hg.elim id (fun ⟨_, h, _⟩ => absurd h (Nat.not_lt_zero _))
              exact ⟨h0.only ho (by have := Pa.out.lt; have := BK.out.lt; have := XU.out.lt; have := XV.out.lt; omega), h1.only ho (by have := Pa.out.lt; have := BK.out.lt; have := XU.out.lt; have := XV.out.lt; omega), h2.only hn ho, h3.only hn ho, h4.only hn ho, h5.only ho (by have := Pa.out.lt; have := BK.out.lt; have := XU.out.lt; have := XV.out.lt; omega), h6.only hn ho, h7.only hn ho, h8.only ho (by have := Pa.out.lt; have := BK.out.lt; have := XU.out.lt; have := XV.out.lt; omega), below_only h9 ho (by have := Pa.out.lt; have := BK.out.lt; have := XU.out.lt; have := XV.out.lt; have := HB.out.size; omega)⟩)
            (fun l h => trivial) (fun l b w1 w2 h _ _ => trivial) (fun l b w1 w2 g h _ _ _ _ => trivial) (fun l h => by cases h) (fun l k h => by cases h) ?_ ?_
          · refine ⟨?_, ?_, ?_, ?_, ?_, ?_, ?_, ?_, ?_, trivial⟩ <;> intro L V a1 w1 hf hG hsz hφ hψ hL hdep hcl
            · obtain ⟨Pa_, BK_, RA_, U1_, U2_, XU_, V1_, V2_, XV_, HB_⟩ := hG
              refine og_none rfl ?_
              have e7 := old_slot hf 7 (by kernel_rfl)
              exact ob_pure (ex_loadR rfl e7 XU_) rfl
            · obtain ⟨Pa_, BK_, RA_, U1_, U2_, XU_, V1_, V2_, XV_, HB_⟩ := hG
              refine og_none rfl ?_
              have e9 := old_slot hf 9 (by kernel_rfl)
              exact ob_pure (ex_loadR rfl e9 XV_) rfl
            · obtain ⟨Pa_, BK_, RA_, U1_, U2_, XU_, V1_, V2_, XV_, HB_⟩ := hG
              refine og_none rfl ?_
              have d0 := dep_of hdep 0 (by kernel_rfl)
              have e45 := (new_slot hf 0 45 d0 (by kernel_rfl)).trans (show V 0 = .agg #[.bool q11, .slice A11 n11 c11, .bool q12, .slice A12 n12 c12] from hφ 0 d0)
              have d1 := dep_of hdep 1 (by kernel_rfl)
              have e46 := (new_slot hf 1 46 d1 (by kernel_rfl)).trans (show V 1 = .agg #[.bool q21, .slice A21 n21 c21, .bool q22, .slice A22 n22 c22] from hφ 1 d1)
              refine ob_go rfl (vs := #[.agg #[.bool q11, .slice A11 n11 c11, .bool q12, .slice A12 n12 c12], .agg #[.bool q21, .slice A21 n21 c21, .bool q22, .slice A22 n22 c22]]) (by simp only [List.map_toArray, List.map_cons, List.map_nil, e45, e46]) (by kernel_rfl) (rsameP_any _ _ _ 0 0 (Pair.mk (a := .V 0) (b := .V 0) U1_ U2_) (Pair.mk (a := .V 0) (b := .V 0) V1_ V2_)) ?_
              rintro e w2 ⟨he, hb⟩
              exact ⟨_, he, hb, rfl⟩
            · obtain ⟨Pa_, BK_, RA_, U1_, U2_, XU_, V1_, V2_, XV_, HB_⟩ := hG
              refine og_none rfl ?_
              have d2 := dep_of hdep 2 (by kernel_rfl)
              have e47 := (new_slot hf 2 47 d2 (by kernel_rfl)).trans (show V 2 = .bool true from hφ 2 d2)
              exact ob_pure (ex_not rfl e47) rfl
            · obtain ⟨Pa_, BK_, RA_, U1_, U2_, XU_, V1_, V2_, XV_, HB_⟩ := hG
              refine og_none rfl ?_
              have d3 := dep_of hdep 3 (by kernel_rfl)
              have e48 := (new_slot hf 3 48 d3 (by kernel_rfl)).trans (show V 3 = .bool false from hφ 3 d3)
              exact ob_pure (v := .bool false) (ex_moveV rfl e48) rfl
            · obtain ⟨Pa_, BK_, RA_, U1_, U2_, XU_, V1_, V2_, XV_, HB_⟩ := hG
              have dg := dep_of hdep 4 (by kernel_rfl)
              refine og_want rfl (yielded_of hf (n := 56) (by kernel_rfl) rfl 4 49 dg (by kernel_rfl) (show V 4 = .bool false from hφ 4 dg)) ?_
              have e8 := old_slot hf 8 (by kernel_rfl)
              exact ob_pure (v := .bool false) (ex_moveV rfl e8) rfl
            · obtain ⟨Pa_, BK_, RA_, U1_, U2_, XU_, V1_, V2_, XV_, HB_⟩ := hG
              have dg := dep_of hdep 4 (by kernel_rfl)
              refine og_want rfl (yielded_of hf (n := 56) (by kernel_rfl) rfl 4 49 dg (by kernel_rfl) (show V 4 = .bool false from hφ 4 dg)) ?_
              have e10 := old_slot hf 10 (by kernel_rfl)
              exact ob_pure (v := .bool false) (ex_moveV rfl e10) rfl
            · obtain ⟨Pa_, BK_, RA_, U1_, U2_, XU_, V1_, V2_, XV_, HB_⟩ := hG
              have dg := dep_of hdep 4 (by kernel_rfl)
              refine og_want rfl (yielded_of hf (n := 56) (by kernel_rfl) rfl 4 49 dg (by kernel_rfl) (show V 4 = .bool false from hφ 4 dg)) ?_
              have d5 := dep_of hdep 5 (by kernel_rfl)
              have e50 := (new_slot hf 5 50 d5 (by kernel_rfl)).trans (show V 5 = .bool false from hφ 5 d5)
              have d6 := dep_of hdep 6 (by kernel_rfl)
              have e51 := (new_slot hf 6 51 d6 (by kernel_rfl)).trans (show V 6 = .bool false from hφ 6 d6)
              exact ob_pure (ex_neq_bool rfl e50 e51) rfl
            · obtain ⟨Pa_, BK_, RA_, U1_, U2_, XU_, V1_, V2_, XV_, HB_⟩ := hG
              refine og_none rfl ?_
              have d4 := dep_of hdep 4 (by kernel_rfl)
              have e49 := (new_slot hf 4 49 d4 (by kernel_rfl)).trans (show V 4 = .bool false from hφ 4 d4)
              have d7 := dep_of hdep 7 (by kernel_rfl)
              have e52 := (new_slot hf 7 52 d7 (by kernel_rfl)).trans (show V 7 = .bool false from hφ 7 d7)
              exact ob_pure (v := .bool false) (ex_pick_false rfl e49 e52) rfl
          · intro V W3 hG hsz3 hφ hψ hne
            have hlt3 : (W2.alloc (.cells #[.bool q21, .slice A21 n21 c21, .bool q22, .slice A22 n22 c22] 26)).heap.size ≤ W3.heap.size := hsz3
            obtain ⟨Pa_, BK_, RA_, U1_, U2_, XU_, V1_, V2_, XV_, HB_⟩ := hG
            have Pa := hid Pa_
            have BK := hid BK_
            have RA := hid RA_
            have U1 := hid U1_
            have U2 := hid U2_
            have XU := hid XU_
            have V1 := hid V1_
            have V2 := hid V2_
            have XV := hid XV_
            have HB := hid HB_
            have y0 : V 0 = .agg #[.bool q11, .slice A11 n11 c11, .bool q12, .slice A12 n12 c12] := hφ 0 (by decide)
            have y1 : V 1 = .agg #[.bool q21, .slice A21 n21 c21, .bool q22, .slice A22 n22 c22] := hφ 1 (by decide)
            have y2 : V 2 = .bool true := hφ 2 (by decide)
            have y3 : V 3 = .bool false := hφ 3 (by decide)
            have y4 : V 4 = .bool false := hφ 4 (by decide)
            have y5 : V 5 = .bool false := hφ 5 (by decide)
            have y6 : V 6 = .bool false := hφ 6 (by decide)
            have y7 : V 7 = .bool false := hφ 7 (by decide)
            have y8 : V 8 = .bool false := hφ 8 (by decide)
            simp only [puts, Act.put, List.setIfInBounds_toArray, List.set_cons_zero, List.set_cons_succ, y0, y1, y2, y3, y4, y5, y6, y7, y8]
            clear hφ hψ hne y0 y1 y2 y3 y4 y5 y6 y7 y8 Pa_ BK_ RA_ U1_ U2_ XU_ V1_ V2_ XV_ HB_ hsz3
            go_wp2
            go_roundw
            case measure => simp [intOf]; omega
            case rel =>
              first
                | exact ⟨j + 1, by go_num, by omega, BK, Pa, HB⟩
                | ((repeat apply Exists.intro); refine ⟨?_, rfl⟩; exact ⟨j + 1, by go_num, by omega, BK, Pa, HB⟩)
    · have hd : decide ((j : Int) < 5) = false := by rw [decide_eq_false_iff_not]; omega
      go_wp2_with fail
      refine (awakeR_any _).mono ?_
      rintro e W1 ⟨rfl, hb1⟩
      have HB := hid (bw_step HB.out hb1)
      have Pa := hid (Pa.out.below hb1)
      have BK := hid (BK.out.below hb1)
      have RA := hid (RA.out.below hb1)
      clear hb1
      go_wp2
      go_ret
      exact ⟨rfl, HB.out⟩
theorem rationalPowers_walk (w : World) (va : Value) (ha : ArgR w va) (k : Int) (hk : -9223372036854775808 ≤ k ∧ k ≤ 9223372036854775807) :
    Calls Try.prog 5 #[va, .int .i64 k] w fun e w' => e = .returned (.bool true) ∧ Below w.heap.size w w' := by
  obtain ⟨sa1, Aa1, na1, ca1, sa2, Aa2, na2, ca2, rfl, ka⟩ := ha.short
  rcases ka 2 (by decide) with h | ⟨l1, l2, p, q, f1, f2⟩
  · by_cases h1 : 2 < na1
    · exact rationalPowers_long0 w sa1 Aa1 na1 ca1 sa2 Aa2 na2 ca2 k hk h1
    · exact rationalPowers_long1 w sa1 Aa1 na1 ca1 sa2 Aa2 na2 ca2 k hk (by omega) (by omega)
  · exact rationalPowers_short w sa1 Aa1 na1 ca1 sa2 Aa2 na2 ca2 k hk l1 l2 p q f1 f2
end Go.Proofs.Ytklamiajcdkmnaa

