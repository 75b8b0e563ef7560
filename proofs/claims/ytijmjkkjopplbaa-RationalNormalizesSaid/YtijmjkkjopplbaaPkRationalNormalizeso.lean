/- A part of the proof of the laws of rationals: WRNormalizes. -/
import Derived.Test.YtijmjkkjopplbaaPae
import Derived.Test.YtijmjkkjopplbaaPam
import Derived.Test.YtijmjkkjopplbaaPaBc
import Derived.Test.YtijmjkkjopplbaaPaBd
import Derived.Test.YtijmjkkjopplbaaPaBb
import Derived.Test.YtijmjkkjopplbaaPkRationalNormalizesh
import Derived.Test.YtijmjkkjopplbaaPal
import Derived.Test.YtijmjkkjopplbaaPab
import Derived.Test.YtijmjkkjopplbaaPaf
import Derived.Test.YtijmjkkjopplbaaPad
import Derived.Test.YtijmjkkjopplbaaPkRationalNormalizesb
import Derived.Test.YtijmjkkjopplbaaPac
import Derived.Test.YtijmjkkjopplbaaPav
import Derived.Test.YtijmjkkjopplbaaPay
import Derived.Test.YtijmjkkjopplbaaPkRationalNormalizesa
import Derived.Test.YtijmjkkjopplbaaPkRationalNormalizesd
import Derived.Test.YtijmjkkjopplbaaPkRationalNormalizesl
import Derived.Test.YtijmjkkjopplbaaPao
import Derived.Test.YtijmjkkjopplbaaPat
import Derived.Test.YtijmjkkjopplbaaPaa
import Derived.Test.YtijmjkkjopplbaaPan
import Derived.Test.YtijmjkkjopplbaaPai
import Derived.Test.YtijmjkkjopplbaaPah
import Derived.Test.YtijmjkkjopplbaaPag
import Derived.Test.YtijmjkkjopplbaaPaj
import Derived.Test.YtijmjkkjopplbaaPax
import Derived.Test.YtijmjkkjopplbaaPap
import Derived.Test.YtijmjkkjopplbaaPas
import Derived.Test.YtijmjkkjopplbaaPkRationalNormalizesf
import Derived.Test.YtijmjkkjopplbaaPkRationalNormalizese
import Derived.Test.YtijmjkkjopplbaaPkRationalNormalizesg
import Derived.Test.YtijmjkkjopplbaaPkRationalNormalizesj
import Derived.Test.YtijmjkkjopplbaaPau
import Derived.Test.YtijmjkkjopplbaaPkRationalNormalizesi
import Derived.Test.YtijmjkkjopplbaaPar
import Derived.Test.YtijmjkkjopplbaaPaw
import Derived.Test.YtijmjkkjopplbaaPkRationalNormalizesn
import Derived.Test.YtijmjkkjopplbaaPaBa
import Derived.Test.YtijmjkkjopplbaaPaq
import Derived.Test.YtijmjkkjopplbaaPkRationalNormalizesc
import Derived.Test.YtijmjkkjopplbaaPkRationalNormalizesm
import Derived.Test.YtijmjkkjopplbaaPak
import Derived.Test.YtijmjkkjopplbaaPaz
namespace Go.Proofs.Ytijmjkkjopplbaa
open Go.RowKit
set_option linter.unusedVariables false
set_option maxRecDepth 100000

set_option maxHeartbeats 4000000 in
theorem rationalNormalizes_long (w : World) (sa1 : Bool) (Aa1 : Option Addr) (na1 ca1 : Nat) (sa2 : Bool) (Aa2 : Option Addr) (na2 ca2 : Nat) (hl : 8 < na1 ∨ 8 < na2) :
    Calls Try.prog 3 #[.agg #[.bool sa1, .slice Aa1 na1 ca1, .bool sa2, .slice Aa2 na2 ca2]] w fun e w' => e = .returned (.bool true) ∧ Below w.heap.size w w' := by
  have HL := hid hl
  clear hl
  have HB := hid (Below.refl w.heap.size w)
  obtain ⟨W, hW⟩ : ∃ W, W = (w.alloc (.cells #[.bool sa1, .slice Aa1 na1 ca1, .bool sa2, .slice Aa2 na2 ca2] 26)) := ⟨_, rfl⟩
  have hbb : Below w.heap.size w W := by rw [hW]; exact (bw_alloc (Below.refl _ _) _)
  have HB := hid (bw_step HB.out hbb)
  have Pa : Hid (Blk W (w.heap.size) 26 #[.bool sa1, .slice Aa1 na1 ca1, .bool sa2, .slice Aa2 na2 ca2]) := by
    rw [hW]
    have := Blk.new w 26 #[.bool sa1, .slice Aa1 na1 ca1, .bool sa2, .slice Aa2 na2 ca2]
    exact hid (by simpa only [World.size_alloc] using this)
  clear hbb
  have HWs := hid (show W.heap.size = w.heap.size + 1 by rw [hW]; simp)
  have ua0 := Pa.out.cell 0
  have ua1 := Pa.out.cell 1
  have ua2 := Pa.out.cell 2
  have ua3 := Pa.out.cell 3
  go_enter Try.func3, Try.ntmps3
  go_wp2_with fail
  rw [← hW]
  clear hW
  have hbb := bw_alloc (Below.refl _ W) (.cells #[.bool sa1, .slice Aa1 na1 ca1, .bool sa2, .slice Aa2 na2 ca2] 26)
  have XL := Blk.new W 26 #[.bool sa1, .slice Aa1 na1 ca1, .bool sa2, .slice Aa2 na2 ca2]
  rw [HWs.out] at XL
  have HB := hid (bw_step HB.out hbb)
  have Pa := hid (Pa.out.below hbb)
  clear hbb
  refine (long1 _ _ sa1 Aa1 na1 ca1 sa2 Aa2 na2 ca2 XL true ⟨fun _ => HL.out, fun _ => rfl⟩).mono ?_
  rintro e W1 ⟨rfl, hb1⟩
  clear XL
  have HB := hid (bw_step HB.out hb1)
  have Pa := hid (Pa.out.below hb1)
  clear hb1
  clear ua0 ua1 ua2 ua3
  go_wp2_with fail
  refine (awakeR_any _).mono ?_
  rintro e W2 ⟨rfl, hb2⟩
  have HB := hid (bw_step HB.out hb2)
  have Pa := hid (Pa.out.below hb2)
  clear hb2
  go_wp2
  go_ret
  exact ⟨rfl, HB.out⟩
set_option maxHeartbeats 8000000 in
theorem rationalNormalizes_short (w : World) (sa1 : Bool) (Aa1 : Option Addr) (ca1 : Nat) (x1 : List Int) (sa2 : Bool) (Aa2 : Option Addr) (ca2 : Nat) (x2 : List Int) (la : x1.length ≤ 8 ∧ x2.length ≤ 8) (b1 : Lb x1) (b2 : Lb x2) (h1 : SlV w (.slice Aa1 x1.length ca1) x1) (h2 : SlV w (.slice Aa2 x2.length ca2) x2) (pa qa : Int) (e1 : sg sa1 (nv x1) = pa) (e2 : sg sa2 (nv x2) = qa) :
    Calls Try.prog 3 #[.agg #[.bool sa1, .slice Aa1 x1.length ca1, .bool sa2, .slice Aa2 x2.length ca2]] w fun e w' => e = .returned (.bool true) ∧ Below w.heap.size w w' := by
  have LA := hid la
  have L1 := hid b1
  have L2 := hid b2
  have S1 := hid h1
  have S2 := hid h2
  have EP := hid e1
  have EQ := hid e2
  have Fa1 : Hid (IntA w (.agg #[.bool sa1, .slice Aa1 x1.length ca1]) pa 8) := hid (by rw [← e1]; exact IntR.a ⟨_, _, rfl, h1⟩ b1 la.1)
  have Sa1 := hid Fa1.out.sm
  have Fa2 : Hid (IntA w (.agg #[.bool sa2, .slice Aa2 x2.length ca2]) qa 8) := hid (by rw [← e2]; exact IntR.a ⟨_, _, rfl, h2⟩ b2 la.2)
  have Sa2 := hid Fa2.out.sm
  clear la b1 b2 h1 h2 e1 e2
  have HB := hid (Below.refl w.heap.size w)
  obtain ⟨W, hW⟩ : ∃ W, W = (w.alloc (.cells #[.bool sa1, .slice Aa1 x1.length ca1, .bool sa2, .slice Aa2 x2.length ca2] 26)) := ⟨_, rfl⟩
  have hbb : Below w.heap.size w W := by rw [hW]; exact (bw_alloc (Below.refl _ _) _)
  have HB := hid (bw_step HB.out hbb)
  have S1 := hid (S1.out.below hbb)
  have Fa1 := hid (Fa1.out.below hbb)
  have S2 := hid (S2.out.below hbb)
  have Fa2 := hid (Fa2.out.below hbb)
  have Pa : Hid (Blk W (w.heap.size) 26 #[.bool sa1, .slice Aa1 x1.length ca1, .bool sa2, .slice Aa2 x2.length ca2]) := by
    rw [hW]
    have := Blk.new w 26 #[.bool sa1, .slice Aa1 x1.length ca1, .bool sa2, .slice Aa2 x2.length ca2]
    exact hid (by simpa only [World.size_alloc] using this)
  clear hbb
  have HWs := hid (show W.heap.size = w.heap.size + 1 by rw [hW]; simp)
  have ua0 := Pa.out.cell 0
  have ua1 := Pa.out.cell 1
  have ua2 := Pa.out.cell 2
  have ua3 := Pa.out.cell 3
  go_enter Try.func3, Try.ntmps3
  go_wp2_with fail
  rw [← hW]
  clear hW
  have hbb := bw_alloc (Below.refl _ W) (.cells #[.bool sa1, .slice Aa1 x1.length ca1, .bool sa2, .slice Aa2 x2.length ca2] 26)
  have XL := Blk.new W 26 #[.bool sa1, .slice Aa1 x1.length ca1, .bool sa2, .slice Aa2 x2.length ca2]
  rw [HWs.out] at XL
  have HB := hid (bw_step HB.out hbb)
  have S1 := hid (S1.out.below hbb)
  have Fa1 := hid (Fa1.out.below hbb)
  have S2 := hid (S2.out.below hbb)
  have Fa2 := hid (Fa2.out.below hbb)
  have Pa := hid (Pa.out.below hbb)
  clear hbb
  refine (long1 _ _ sa1 Aa1 x1.length ca1 sa2 Aa2 x2.length ca2 XL false ⟨fun h => absurd h (by decide), fun h => by have := LA.out; omega⟩).mono ?_
  rintro e W1 ⟨rfl, hb1⟩
  clear XL
  have HB := hid (bw_step HB.out hb1)
  have S1 := hid (S1.out.below hb1)
  have Fa1 := hid (Fa1.out.below hb1)
  have S2 := hid (S2.out.below hb1)
  have Fa2 := hid (Fa2.out.below hb1)
  have Pa := hid (Pa.out.below hb1)
  clear hb1
  clear ua0 ua1 ua2 ua3
  have RX := hid (RS.of Sa1.out Sa2.out (show 1 ≤ 8 by decide))
  go_wp2_with fail
  have lt1_Pa := Pa.out.lt
  refine wp_region_each (by kernel_rfl) 19 67 rfl rfl (by kernel_rfl)
    [Fact.eq (.pointer (some ⟨w.heap.size, 0, none⟩)), Fact.eq (.pointer (some ⟨w.heap.size, 0, none⟩)), Fact.eq (.bool sa1), Fact.eq (.pointer (some ⟨w.heap.size, 0, none⟩)), Fact.eq (.pointer (some ⟨w.heap.size, 1, none⟩)), Fact.eq (.slice Aa1 x1.length ca1), Fact.slv x1, Fact.num (.R sa1 x1), Fact.eq (.pointer (some ⟨w.heap.size, 2, none⟩)), Fact.eq (.pointer (some ⟨w.heap.size, 2, none⟩)), Fact.eq (.bool sa2), Fact.eq (.pointer (some ⟨w.heap.size, 2, none⟩)), Fact.eq (.pointer (some ⟨w.heap.size, 3, none⟩)), Fact.eq (.slice Aa2 x2.length ca2), Fact.slv x2, Fact.num (.R sa2 x2), Fact.pair (.R sa1 x1) (.R sa2 x2), Fact.boxR 26 Rne (.R sa1 x1) (.R sa2 x2), Fact.top _]
    [.val, .val, .val, .val, .val, .val, .val, .val, .val, .val, .val, .val, .val, .val, .val, .val, .val, .alloc 18, .fill 17]
    (fun w' => SlV w' (.slice Aa1 x1.length ca1) x1 ∧ IntA w' (.agg #[.bool sa1, .slice Aa1 x1.length ca1]) (pa) 8 ∧ SlV w' (.slice Aa2 x2.length ca2) x2 ∧ IntA w' (.agg #[.bool sa2, .slice Aa2 x2.length ca2]) (qa) 8 ∧ Blk w' (w.heap.size) 26 #[.bool sa1, .slice Aa1 x1.length ca1, .bool sa2, .slice Aa2 x2.length ca2] ∧ Below w.heap.size w w')
    (fun _ _ _ => True) [] (fun _ => 0) (by kernel_rfl)
    ⟨S1.out, Fa1.out, S2.out, Fa2.out, Pa.out, HB.out⟩
    (fun w1 w2 ⟨h0, h1, h2, h3, h4, h5⟩ hb => ⟨h0.below hb, h1.below hb, h2.below hb, h3.below hb, h4.below hb, bw_step h5 hb⟩)
    (fun w1 w2 g ⟨h0, h1, h2, h3, h4, h5⟩ hg hn ho => by
      have hg' : W1.heap.size ≤ g := hg.elim id (fun ⟨_, h, _⟩ => absurd h (Nat.not_lt_zero _))
      exact ⟨h0.only hn ho, h1.only hn ho, h2.only hn ho, h3.only hn ho, h4.only ho (by have := Pa.out.lt; omega), below_only h5 ho (by have := Pa.out.lt; have := HB.out.size; omega)⟩)
    (fun l h => trivial) (fun l b w1 w2 h _ _ => trivial) (fun l b w1 w2 g h _ _ _ _ => trivial) (fun l h => by cases h) (fun l k h => by cases h) ?_ ?_
  · refine ⟨?_, ?_, ?_, ?_, ?_, ?_, ?_, ?_, ?_, ?_, ?_, ?_, ?_, ?_, ?_, ?_, ?_, ?_, ?_, trivial⟩ <;> intro L V a1 w1 hf hG hsz hφ hψ hL hdep hcl
    · have e1 := old_slot hf 1 (by kernel_rfl)
      exact ob_pure (ex_fieldAddrR0 rfl e1) rfl
    · have d0 := dep_of hdep 0 (by kernel_rfl)
      have e11 := (new_slot hf 0 11 d0 (by kernel_rfl)).trans (show V 0 = .pointer (some ⟨w.heap.size, 0, none⟩) from hφ 0 d0)
      exact ob_pure (ex_fieldAddrI 0 (by decide) rfl e11) rfl
    · obtain ⟨_, _, _, _, Pa_, _⟩ := hG
      have d1 := dep_of hdep 1 (by kernel_rfl)
      have e12 := (new_slot hf 1 12 d1 (by kernel_rfl)).trans (show V 1 = .pointer (some ⟨w.heap.size, 0, none⟩) from hφ 1 d1)
      exact ob_pure (ex_load_b rfl e12 Pa_ rfl) rfl
    · have e1 := old_slot hf 1 (by kernel_rfl)
      exact ob_pure (ex_fieldAddrR0 rfl e1) rfl
    · have d3 := dep_of hdep 3 (by kernel_rfl)
      have e14 := (new_slot hf 3 14 d3 (by kernel_rfl)).trans (show V 3 = .pointer (some ⟨w.heap.size, 0, none⟩) from hφ 3 d3)
      exact ob_pure (ex_fieldAddrI 1 (by decide) rfl e14) rfl
    · obtain ⟨_, _, _, _, Pa_, _⟩ := hG
      have d4 := dep_of hdep 4 (by kernel_rfl)
      have e15 := (new_slot hf 4 15 d4 (by kernel_rfl)).trans (show V 4 = .pointer (some ⟨w.heap.size, 1, none⟩) from hφ 4 d4)
      exact ob_pure (ex_load_s rfl e15 Pa_ rfl) rfl
    · obtain ⟨S1_, _⟩ := hG
      have d5 := dep_of hdep 5 (by kernel_rfl)
      have e16 := (new_slot hf 5 16 d5 (by kernel_rfl)).trans (show V 5 = .slice Aa1 x1.length ca1 from hφ 5 d5)
      exact ob_copy rfl e16 S1_ (S1_.len) rfl
    · have d2 := dep_of hdep 2 (by kernel_rfl)
      have e13 := (new_slot hf 2 13 d2 (by kernel_rfl)).trans (show V 2 = .bool sa1 from hφ 2 d2)
      have d6 := dep_of hdep 6 (by kernel_rfl)
      have e17 := new_slot hf 6 17 d6 (by kernel_rfl)
      have p17 : SlV w1 (V 6) x1 := hφ 6 d6
      exact ob_buildRaw rfl e13 e17 p17 rfl
    · have e1 := old_slot hf 1 (by kernel_rfl)
      exact ob_pure (ex_fieldAddrR1 rfl e1) rfl
    · have d8 := dep_of hdep 8 (by kernel_rfl)
      have e19 := (new_slot hf 8 19 d8 (by kernel_rfl)).trans (show V 8 = .pointer (some ⟨w.heap.size, 2, none⟩) from hφ 8 d8)
      exact ob_pure (ex_fieldAddrI 0 (by decide) rfl e19) rfl
    · obtain ⟨_, _, _, _, Pa_, _⟩ := hG
      have d9 := dep_of hdep 9 (by kernel_rfl)
      have e20 := (new_slot hf 9 20 d9 (by kernel_rfl)).trans (show V 9 = .pointer (some ⟨w.heap.size, 2, none⟩) from hφ 9 d9)
      exact ob_pure (ex_load_b rfl e20 Pa_ rfl) rfl
    · have e1 := old_slot hf 1 (by kernel_rfl)
      exact ob_pure (ex_fieldAddrR1 rfl e1) rfl
    · have d11 := dep_of hdep 11 (by kernel_rfl)
      have e22 := (new_slot hf 11 22 d11 (by kernel_rfl)).trans (show V 11 = .pointer (some ⟨w.heap.size, 2, none⟩) from hφ 11 d11)
      exact ob_pure (ex_fieldAddrI 1 (by decide) rfl e22) rfl
    · obtain ⟨_, _, _, _, Pa_, _⟩ := hG
      have d12 := dep_of hdep 12 (by kernel_rfl)
      have e23 := (new_slot hf 12 23 d12 (by kernel_rfl)).trans (show V 12 = .pointer (some ⟨w.heap.size, 3, none⟩) from hφ 12 d12)
      exact ob_pure (ex_load_s rfl e23 Pa_ rfl) rfl
    · obtain ⟨_, _, S2_, _⟩ := hG
      have d13 := dep_of hdep 13 (by kernel_rfl)
      have e24 := (new_slot hf 13 24 d13 (by kernel_rfl)).trans (show V 13 = .slice Aa2 x2.length ca2 from hφ 13 d13)
      exact ob_copy rfl e24 S2_ (S2_.len) rfl
    · have d10 := dep_of hdep 10 (by kernel_rfl)
      have e21 := (new_slot hf 10 21 d10 (by kernel_rfl)).trans (show V 10 = .bool sa2 from hφ 10 d10)
      have d14 := dep_of hdep 14 (by kernel_rfl)
      have e25 := new_slot hf 14 25 d14 (by kernel_rfl)
      have p25 : SlV w1 (V 14) x2 := hφ 14 d14
      exact ob_buildRaw rfl e21 e25 p25 rfl
    · have d7 := dep_of hdep 7 (by kernel_rfl)
      have e18 := new_slot hf 7 18 d7 (by kernel_rfl)
      have p18 : (NumK.R sa1 x1).p w1 (V 7) := hφ 7 d7
      have d15 := dep_of hdep 15 (by kernel_rfl)
      have e26 := new_slot hf 15 26 d15 (by kernel_rfl)
      have p26 : (NumK.R sa2 x2).p w1 (V 15) := hφ 15 d15
      exact ob_buildR (A := .R sa1 x1) (B := .R sa2 x2) rfl e18 p18 e26 p26 rfl
    · exact ob_allocR rfl hsz rfl
    · have d16 := dep_of hdep 16 (by kernel_rfl)
      have e27 := new_slot hf 16 27 d16 (by kernel_rfl)
      have p27 : Pair w1 (V 16) (.R sa1 x1) (.R sa2 x2) := hφ 16 d16
      have d17 := dep_of hdep 17 (by kernel_rfl)
      obtain ⟨g, h1, h2, h3, _⟩ := hφ 17 d17
      have hz := h3 (show (true && L 18) = false from by have h : L 18 = false := hL; rw [h]; rfl)
      exact ob_fillR rfl ((new_slot hf 17 3 d17 (by kernel_rfl)).trans h1) e27 h1 h2 hz p27 rfl rfl
  · intro V W2 hG hsz2 hφ hψ hne
    have hlt2 : W1.heap.size ≤ W2.heap.size := hsz2
    obtain ⟨S1_, Fa1_, S2_, Fa2_, Pa_, HB_⟩ := hG
    have S1 := hid S1_
    have Fa1 := hid Fa1_
    have S2 := hid S2_
    have Fa2 := hid Fa2_
    have Pa := hid Pa_
    have HB := hid HB_
    have y0 : V 0 = .pointer (some ⟨w.heap.size, 0, none⟩) := hφ 0 (by decide)
    have y1 : V 1 = .pointer (some ⟨w.heap.size, 0, none⟩) := hφ 1 (by decide)
    have y2 : V 2 = .bool sa1 := hφ 2 (by decide)
    have y3 : V 3 = .pointer (some ⟨w.heap.size, 0, none⟩) := hφ 3 (by decide)
    have y4 : V 4 = .pointer (some ⟨w.heap.size, 1, none⟩) := hφ 4 (by decide)
    have y5 : V 5 = .slice Aa1 x1.length ca1 := hφ 5 (by decide)
    have y8 : V 8 = .pointer (some ⟨w.heap.size, 2, none⟩) := hφ 8 (by decide)
    have y9 : V 9 = .pointer (some ⟨w.heap.size, 2, none⟩) := hφ 9 (by decide)
    have y10 : V 10 = .bool sa2 := hφ 10 (by decide)
    have y11 : V 11 = .pointer (some ⟨w.heap.size, 2, none⟩) := hφ 11 (by decide)
    have y12 : V 12 = .pointer (some ⟨w.heap.size, 3, none⟩) := hφ 12 (by decide)
    have y13 : V 13 = .slice Aa2 x2.length ca2 := hφ 13 (by decide)
    obtain ⟨G2_17, y17, gb217, _, hb217⟩ := hφ 17 (by decide)
    obtain ⟨q2171, A2171, n2171, c2171, q2172, A2172, n2172, c2172, kb217, va217, vb217⟩ := hb217 rfl
    have Xt3_ := hid kb217
    have t3_1 : Hid (IntR W2 (.agg #[.bool q2171, .slice A2171 n2171 c2171]) sa1 x1) := hid va217
    have t3_2 : Hid (IntR W2 (.agg #[.bool q2172, .slice A2172 n2172 c2172]) sa2 x2) := hid vb217
    clear kb217 va217 vb217
    clear hb217
    simp only [puts, Act.put, List.setIfInBounds_toArray, List.set_cons_zero, List.set_cons_succ, y0, y1, y2, y3, y4, y5, y8, y9, y10, y11, y12, y13, y17, ptr]
    clear hφ hψ hne y0 y1 y2 y3 y4 y5 y8 y9 y10 y11 y12 y13 y17 S1_ Fa1_ S2_ Fa2_ Pa_ HB_ hsz2
    obtain ⟨z1, z2, z3⟩ := IntR.cells t3_1.out
    subst z1 z2
    obtain ⟨z4, z5, z6⟩ := IntR.cells t3_2.out
    subst z4 z5
    have T1 := hid z3
    have T2 := hid z6
    clear z3 z6 t3_1 t3_2
    have RA := hid (show RatA W2 (.agg #[.bool sa1, .slice A2171 x1.length c2171, .bool sa2, .slice A2172 x2.length c2172]) (Rat.divInt pa qa) 8 from RatA.of (Pair.mk (a := .A pa 8) (b := .A qa 8) (show IntA _ _ _ _ by rw [← EP.out]; exact IntR.a ⟨_, _, rfl, T1.out⟩ L1.out LA.out.1) (show IntA _ _ _ _ by rw [← EQ.out]; exact IntR.a ⟨_, _, rfl, T2.out⟩ L2.out LA.out.2)))
    have PaN := Pa
    have XwN := Xt3_
    have S1N := S1
    have S2N := S2
    have T1N := T1
    have T2N := T2
    have HBN := HB
    have v0 := Xt3_.out.cell 0
    have v1 := Xt3_.out.cell 1
    have v2 := Xt3_.out.cell 2
    have v3 := Xt3_.out.cell 3
    go_wp2_with fail
    refine (normalizeR_fr _ _ (Rat.divInt pa qa) 8 RA.out (by decide) (by decide)).mono ?_
    rintro e W3 ⟨⟨u, rfl, hu⟩, hb3⟩
    have HW0 := hid (show Bw W2 W3 from hb3)
    obtain ⟨rb1, Bb1, mb1, db1, rb2, Bb2, mb2, db2, rfl, i1, i2, f1, f2⟩ := hu
    have O1 := hid (Lo.of i1 f1)
    have O2 := hid (Lo.of i2 f2)
    clear f1 f2
    clear v0 v1 v2 v3 RA
    have HB := hid (bw_step HB.out hb3)
    have S1 := hid (S1.out.below hb3)
    have Fa1 := hid (Fa1.out.below hb3)
    have S2 := hid (S2.out.below hb3)
    have Fa2 := hid (Fa2.out.below hb3)
    have Pa := hid (Pa.out.below hb3)
    have Xt3_ := hid (Xt3_.out.below hb3)
    have T1 := hid (T1.out.below hb3)
    have T2 := hid (T2.out.below hb3)
    clear hb3
    have b1 : Hid (IntV W3 (.agg #[.bool rb1, .slice Bb1 mb1 db1]) (Rat.divInt pa qa).num) := hid i1
    have b2 : Hid (IntV W3 (.agg #[.bool rb2, .slice Bb2 mb2 db2]) ((Rat.divInt pa qa).den : Int)) := hid i2
    clear i1 i2
    have hbb := bw_alloc (Below.refl _ W3) (.cells #[.bool rb1, .slice Bb1 mb1 db1, .bool rb2, .slice Bb2 mb2 db2] 26)
    have Xb := Blk.new W3 26 #[.bool rb1, .slice Bb1 mb1 db1, .bool rb2, .slice Bb2 mb2 db2]
    have HB := hid (bw_step HB.out hbb)
    have S1 := hid (S1.out.below hbb)
    have Fa1 := hid (Fa1.out.below hbb)
    have S2 := hid (S2.out.below hbb)
    have Fa2 := hid (Fa2.out.below hbb)
    have Pa := hid (Pa.out.below hbb)
    have Xt3_ := hid (Xt3_.out.below hbb)
    have T1 := hid (T1.out.below hbb)
    have T2 := hid (T2.out.below hbb)
    have b1 := hid (b1.out.below hbb)
    have b2 := hid (b2.out.below hbb)
    have HW0 := hid (HW0.out.below hbb)
    have O1 := hid (O1.out.below hbb)
    have O2 := hid (O2.out.below hbb)
    have Xb := hid Xb
    clear hbb
    go_wp2_with fail
    have RS4 : Hid (RS 8 (Rat.divInt pa qa)) := hid ((RS.of (Sa1.out) (Sa2.out) (by omega)))
    refine wp_region_each (by kernel_rfl) 5 67 rfl rfl (by kernel_rfl)
      [Fact.eq (.agg #[.bool rb1, .slice Bb1 mb1 db1, .bool rb2, .slice Bb2 mb2 db2]), Fact.eq (.agg #[.bool sa1, .slice Aa1 x1.length ca1, .bool sa2, .slice Aa2 x2.length ca2]), Fact.pair (.V ((Rat.divInt pa qa)).num) (.V (((Rat.divInt pa qa)).den : Int)), Fact.eq (.bool true), Fact.eq (.bool false)]
      [.val, .val, .val, .val, .val]
      (fun w' => SlV w' (.slice Aa1 x1.length ca1) x1 ∧ IntA w' (.agg #[.bool sa1, .slice Aa1 x1.length ca1]) (pa) 8 ∧ SlV w' (.slice Aa2 x2.length ca2) x2 ∧ IntA w' (.agg #[.bool sa2, .slice Aa2 x2.length ca2]) (qa) 8 ∧ Blk w' (w.heap.size) 26 #[.bool sa1, .slice Aa1 x1.length ca1, .bool sa2, .slice Aa2 x2.length ca2] ∧ Blk w' (G2_17) 26 #[.bool sa1, .slice A2171 x1.length c2171, .bool sa2, .slice A2172 x2.length c2172] ∧ SlV w' (.slice A2171 x1.length c2171) x1 ∧ SlV w' (.slice A2172 x2.length c2172) x2 ∧ IntV w' (.agg #[.bool rb1, .slice Bb1 mb1 db1]) ((Rat.divInt pa qa).num) ∧ IntV w' (.agg #[.bool rb2, .slice Bb2 mb2 db2]) (((Rat.divInt pa qa).den : Int)) ∧ Bw W2 w' ∧ Lo w' W2.heap.size Bb1 mb1 ∧ Lo w' W2.heap.size Bb2 mb2 ∧ Blk w' (W3.heap.size) 26 #[.bool rb1, .slice Bb1 mb1 db1, .bool rb2, .slice Bb2 mb2 db2] ∧ Below w.heap.size w w')
      (fun _ _ _ => True) [] (fun _ => 0) (by kernel_rfl)
      ⟨S1.out, Fa1.out, S2.out, Fa2.out, Pa.out, Xt3_.out, T1.out, T2.out, b1.out, b2.out, HW0.out, O1.out, O2.out, Xb.out, HB.out⟩
      (fun w1 w2 ⟨h0, h1, h2, h3, h4, h5, h6, h7, h8, h9, h10, h11, h12, h13, h14⟩ hb => ⟨h0.below hb, h1.below hb, h2.below hb, h3.below hb, h4.below hb, h5.below hb, h6.below hb, h7.below hb, h8.below hb, h9.below hb, h10.below hb, h11.below hb, h12.below hb, h13.below hb, bw_step h14 hb⟩)
      (fun w1 w2 g ⟨h0, h1, h2, h3, h4, h5, h6, h7, h8, h9, h10, h11, h12, h13, h14⟩ hg hn ho => by
        have hg' : (W3.alloc (.cells #[.bool rb1, .slice Bb1 mb1 db1, .bool rb2, .slice Bb2 mb2 db2] 26)).heap.size ≤ g := hg.elim id (fun ⟨_, h, _⟩ => absurd h (Nat.not_lt_zero _))
        exact ⟨h0.only hn ho, h1.only hn ho, h2.only hn ho, h3.only hn ho, h4.only ho (by have := Pa.out.lt; have := Xt3_.out.lt; have := Xb.out.lt; omega), h5.only ho (by have := Pa.out.lt; have := Xt3_.out.lt; have := Xb.out.lt; omega), h6.only hn ho, h7.only hn ho, h8.only hn ho, h9.only hn ho, below_only h10 ho (by have := HW0.out.sz; omega), Lo.only h11 hn ho, Lo.only h12 hn ho, h13.only ho (by have := Pa.out.lt; have := Xt3_.out.lt; have := Xb.out.lt; omega), below_only h14 ho (by have := Pa.out.lt; have := Xt3_.out.lt; have := Xb.out.lt; have := HB.out.size; omega)⟩)
      (fun l h => trivial) (fun l b w1 w2 h _ _ => trivial) (fun l b w1 w2 g h _ _ _ _ => trivial) (fun l h => by cases h) (fun l k h => by cases h) ?_ ?_
    · refine ⟨?_, ?_, ?_, ?_, ?_, trivial⟩ <;> intro L V a1 w1 hf hG hsz hφ hψ hL hdep hcl
      · obtain ⟨_, _, _, _, _, _, _, _, _, _, _, _, _, Xb_, _⟩ := hG
        have e4 := old_slot hf 4 (by kernel_rfl)
        exact ob_pure (ex_loadR rfl e4 Xb_) rfl
      · obtain ⟨_, _, _, _, Pa_, _⟩ := hG
        have e1 := old_slot hf 1 (by kernel_rfl)
        exact ob_pure (ex_loadR rfl e1 Pa_) rfl
      · obtain ⟨_, Fa1_, _, Fa2_, _⟩ := hG
        have d1 := dep_of hdep 1 (by kernel_rfl)
        have e31 := (new_slot hf 1 31 d1 (by kernel_rfl)).trans (show V 1 = .agg #[.bool sa1, .slice Aa1 x1.length ca1, .bool sa2, .slice Aa2 x2.length ca2] from hφ 1 d1)
        refine ob_go rfl (vs := #[.agg #[.bool sa1, .slice Aa1 x1.length ca1, .bool sa2, .slice Aa2 x2.length ca2]]) (by simp only [List.map_toArray, List.map_cons, List.map_nil, e31]) (by kernel_rfl) (rnormalizeR_any _ _ (Rat.divInt pa qa) 8 (RatA.of (Pair.mk (a := .A pa 8) (b := .A qa 8) Fa1_ Fa2_)) (by omega) (by omega)) ?_
        rintro e w2 ⟨⟨v, rfl, hv⟩, hb⟩
        exact ⟨v, rfl, hb, hv⟩
      · obtain ⟨_, _, _, _, _, _, _, _, b1_, b2_, _⟩ := hG
        have d0 := dep_of hdep 0 (by kernel_rfl)
        have e30 := (new_slot hf 0 30 d0 (by kernel_rfl)).trans (show V 0 = .agg #[.bool rb1, .slice Bb1 mb1 db1, .bool rb2, .slice Bb2 mb2 db2] from hφ 0 d0)
        have d2 := dep_of hdep 2 (by kernel_rfl)
        have e32 := new_slot hf 2 32 d2 (by kernel_rfl)
        have p32 : Pair w1 (V 2) (.V ((Rat.divInt pa qa)).num) (.V (((Rat.divInt pa qa)).den : Int)) := hφ 2 d2
        refine ob_go rfl (vs := #[.agg #[.bool rb1, .slice Bb1 mb1 db1, .bool rb2, .slice Bb2 mb2 db2], V 2]) (by simp only [List.map_toArray, List.map_cons, List.map_nil, e30, e32]) (by kernel_rfl) (rsameR_any _ _ _ (Rat.divInt pa qa) (Pair.mk (a := .V (Rat.divInt pa qa).num) (b := .V ((Rat.divInt pa qa).den : Int)) b1_ b2_) p32) ?_
        rintro e w2 ⟨he, hb⟩
        exact ⟨_, he, hb, rfl⟩
      · have d3 := dep_of hdep 3 (by kernel_rfl)
        have e33 := (new_slot hf 3 33 d3 (by kernel_rfl)).trans (show V 3 = .bool true from hφ 3 d3)
        exact ob_pure (ex_not rfl e33) rfl
    · intro V W5 hG hsz5 hφ hψ hne
      have hlt5 : (W3.alloc (.cells #[.bool rb1, .slice Bb1 mb1 db1, .bool rb2, .slice Bb2 mb2 db2] 26)).heap.size ≤ W5.heap.size := hsz5
      obtain ⟨S1_, Fa1_, S2_, Fa2_, Pa_, Xt3__, T1_, T2_, b1_, b2_, HW0_, O1_, O2_, Xb_, HB_⟩ := hG
      have S1 := hid S1_
      have Fa1 := hid Fa1_
      have S2 := hid S2_
      have Fa2 := hid Fa2_
      have Pa := hid Pa_
      have Xt3_ := hid Xt3__
      have T1 := hid T1_
      have T2 := hid T2_
      have b1 := hid b1_
      have b2 := hid b2_
      have HW0 := hid HW0_
      have O1 := hid O1_
      have O2 := hid O2_
      have Xb := hid Xb_
      have HB := hid HB_
      have y0 : V 0 = .agg #[.bool rb1, .slice Bb1 mb1 db1, .bool rb2, .slice Bb2 mb2 db2] := hφ 0 (by decide)
      have y1 : V 1 = .agg #[.bool sa1, .slice Aa1 x1.length ca1, .bool sa2, .slice Aa2 x2.length ca2] := hφ 1 (by decide)
      have y3 : V 3 = .bool true := hφ 3 (by decide)
      have y4 : V 4 = .bool false := hφ 4 (by decide)
      simp only [puts, Act.put, List.setIfInBounds_toArray, List.set_cons_zero, List.set_cons_succ, y0, y1, y3, y4]
      clear hφ hψ hne y0 y1 y3 y4 S1_ Fa1_ S2_ Fa2_ Pa_ Xt3__ T1_ T2_ b1_ b2_ HW0_ O1_ O2_ Xb_ HB_ hsz5
      have M1 := hid (IntV.lim b1.out)
      have M2 := hid (IntV.lim b2.out)
      clear b1 b2 Fa1 Fa2 Pa Xt3_ S1 S2 T1 T2 HB
      have x0_ := Xb.out.cell 0
      have x1_ := Xb.out.cell 1
      have x2_ := Xb.out.cell 2
      have x3_ := Xb.out.cell 3
      go_wp2
      clear x0_ x1_ x2_ x3_
      have P1 := hid M1.out
      have P2 := hid M2.out
      go_loopw [39] (fun i wr => ∃ k : Nat, i = .int .i64 k ∧ k ≤ mb1 ∧ Hid (Bw W2 wr) ∧ Hid (Blk wr (W3.heap.size) 26 #[.bool rb1, .slice Bb1 mb1 db1, .bool rb2, .slice Bb2 mb2 db2]) ∧ Hid (Lo wr W2.heap.size Bb1 mb1) ∧ Hid (Lo wr W2.heap.size Bb2 mb2)) (fun i _ => mb1 - (intOf i).toNat)
      case atStart => exact ⟨0, rfl, by omega, HW0, Xb, O1, O2⟩
      case round =>
        clear HW0 Xb O1 O2
        obtain ⟨k, rfl, hk, Hr1, Xr1, Or1, Oq1⟩ := hrel
        by_cases hkl : k < mb1
        · obtain ⟨g, o, ys, rfl, h1, h2, h3⟩ := Or1.out (by omega)
          have c1 := h2.cell (j := o + k) (by omega)
          have c2 := h2.free (o + k)
          have NX := hid (blk_far Xr1.out (Xr1.out.numFree (noNum4' _ _ _ _ _ _ _ _) (fun e => absurd e Rne)) h2 (by omega) (o + k) (.int .u32 7))
          have N1 := hid (Or1.out.set g (o + k) 7)
          have N2 := hid (Oq1.out.set g (o + k) 7)
          have NW := hid (Hr1.out.set (o := o + k) h1 (.int .u32 7))
          have hm := M1.out
          have x0_ := Xr1.out.cell 0
          have x1_ := Xr1.out.cell 1
          have x2_ := Xr1.out.cell 2
          have x3_ := Xr1.out.cell 3
          clear h2 h3 Or1 Oq1 Xr1
          go_wp2
          go_roundw
          case measure => simp [intOf]; omega
          case rel => exact ⟨k + 1, by go_num, by omega, NW, NX, N1, N2⟩
        · clear hk
          have HW0 := Hr1
          have Xb := Xr1
          have O1 := Or1
          have O2 := Oq1
          clear Hr1 Xr1 Or1 Oq1
          have x0_ := Xb.out.cell 0
          have x1_ := Xb.out.cell 1
          have x2_ := Xb.out.cell 2
          have x3_ := Xb.out.cell 3
          go_wp2
          clear x0_ x1_ x2_ x3_
          clear hkl
          have P1 := hid M1.out
          have P2 := hid M2.out
          go_loopw [52] (fun i wr => ∃ k : Nat, i = .int .i64 k ∧ k ≤ mb2 ∧ Hid (Bw W2 wr) ∧ Hid (Blk wr (W3.heap.size) 26 #[.bool rb1, .slice Bb1 mb1 db1, .bool rb2, .slice Bb2 mb2 db2]) ∧ Hid (Lo wr W2.heap.size Bb1 mb1) ∧ Hid (Lo wr W2.heap.size Bb2 mb2)) (fun i _ => mb2 - (intOf i).toNat)
          case atStart => exact ⟨0, rfl, by omega, HW0, Xb, O1, O2⟩
          case round =>
            clear HW0 Xb O1 O2
            obtain ⟨k, rfl, hk, Hr2, Xr2, Or2, Oq2⟩ := hrel
            by_cases hkl : k < mb2
            · obtain ⟨g, o, ys, rfl, h1, h2, h3⟩ := Oq2.out (by omega)
              have c1 := h2.cell (j := o + k) (by omega)
              have c2 := h2.free (o + k)
              have NX := hid (blk_far Xr2.out (Xr2.out.numFree (noNum4' _ _ _ _ _ _ _ _) (fun e => absurd e Rne)) h2 (by omega) (o + k) (.int .u32 7))
              have N1 := hid (Or2.out.set g (o + k) 7)
              have N2 := hid (Oq2.out.set g (o + k) 7)
              have NW := hid (Hr2.out.set (o := o + k) h1 (.int .u32 7))
              have hm := M2.out
              have x0_ := Xr2.out.cell 0
              have x1_ := Xr2.out.cell 1
              have x2_ := Xr2.out.cell 2
              have x3_ := Xr2.out.cell 3
              clear h2 h3 Or2 Oq2 Xr2
              go_wp2
              go_roundw
              case measure => simp [intOf]; omega
              case rel => exact ⟨k + 1, by go_num, by omega, NW, NX, N1, N2⟩
            · clear hk
              have HW0 := Hr2
              have Xb := Xr2
              have O1 := Or2
              have O2 := Oq2
              clear Hr2 Xr2 Or2 Oq2
              have x0_ := Xb.out.cell 0
              have x1_ := Xb.out.cell 1
              have x2_ := Xb.out.cell 2
              have x3_ := Xb.out.cell 3
              have Pa := hid (PaN.out.below HW0.out.b)
              have Xw := hid (XwN.out.below HW0.out.b)
              have S1 := hid (S1N.out.below HW0.out.b)
              have S2 := hid (S2N.out.below HW0.out.b)
              have T1 := hid (T1N.out.below HW0.out.b)
              have T2 := hid (T2N.out.below HW0.out.b)
              have HB := hid (bw_step HBN.out HW0.out.b)
              clear PaN XwN S1N S2N T1N T2N HBN HW0 O1 O2 Xb
              have u0 := Pa.out.cell 0
              have u1 := Pa.out.cell 1
              have u2 := Pa.out.cell 2
              have u3 := Pa.out.cell 3
              have v0 := Xw.out.cell 0
              have v1 := Xw.out.cell 1
              have v2 := Xw.out.cell 2
              have v3 := Xw.out.cell 3
              go_wp2_with fail
              refine (rsameR_raw _ sa1 sa2 _ _ _ _ _ _ _ _ x1 x2 L1.out L2.out T1.out T2.out S1.out S2.out).mono ?_
              rintro e w7 ⟨rfl, hb7⟩
              have HB := hid (bw_step HB.out hb7)
              clear hb7
              go_wp2_with fail
              refine (awakeR_any _).mono ?_
              rintro e w8 ⟨rfl, hb8⟩
              have HB := hid (bw_step HB.out hb8)
              clear hb8
              go_wp2
              go_ret
              exact ⟨rfl, HB.out⟩
theorem rationalNormalizes_walk (w : World) (va : Value) (ha : ArgR w va) :
    Calls Try.prog 3 #[va] w fun e w' => e = .returned (.bool true) ∧ Below w.heap.size w w' := by
  obtain ⟨y0, y1, y2, y3, rfl, k1, k2⟩ := ha
  obtain ⟨sa1, Aa1, na1, ca1, g1, hn1, hx1⟩ := k1
  obtain ⟨sa2, Aa2, na2, ca2, g2, hn2, hx2⟩ := k2
  simp only [Value.agg.injEq, Array.mk.injEq, List.cons.injEq, and_true] at g1 g2
  obtain ⟨rfl, rfl⟩ := g1
  obtain ⟨rfl, rfl⟩ := g2
  by_cases hl : 8 < na1 ∨ 8 < na2
  · exact rationalNormalizes_long w sa1 Aa1 na1 ca1 sa2 Aa2 na2 ca2 hl
  · obtain ⟨x1, z1, z2, z3⟩ := hx1 (by omega)
    obtain ⟨x2, z4, z5, z6⟩ := hx2 (by omega)
    subst z1 z4
    exact rationalNormalizes_short w sa1 Aa1 ca1 x1 sa2 Aa2 ca2 x2 (by omega) z3 z6 z2 z5 _ _ rfl rfl
end Go.Proofs.Ytijmjkkjopplbaa

