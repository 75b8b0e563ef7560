/- A part of the proof of the laws of rationals: WRFormats. -/
import Derived.Test.YtijmjkkjopplbaaPae
import Derived.Test.YtijmjkkjopplbaaPam
import Derived.Test.YtijmjkkjopplbaaPaBc
import Derived.Test.YtijmjkkjopplbaaPaBd
import Derived.Test.YtijmjkkjopplbaaPaBb
import Derived.Test.YtijmjkkjopplbaaPkRationalFormatsh
import Derived.Test.YtijmjkkjopplbaaPal
import Derived.Test.YtijmjkkjopplbaaPab
import Derived.Test.YtijmjkkjopplbaaPaf
import Derived.Test.YtijmjkkjopplbaaPkRationalFormatsk
import Derived.Test.YtijmjkkjopplbaaPad
import Derived.Test.YtijmjkkjopplbaaPkRationalFormatsb
import Derived.Test.YtijmjkkjopplbaaPac
import Derived.Test.YtijmjkkjopplbaaPav
import Derived.Test.YtijmjkkjopplbaaPay
import Derived.Test.YtijmjkkjopplbaaPkRationalFormatsm
import Derived.Test.YtijmjkkjopplbaaPao
import Derived.Test.YtijmjkkjopplbaaPat
import Derived.Test.YtijmjkkjopplbaaPkRationalFormatsa
import Derived.Test.YtijmjkkjopplbaaPaa
import Derived.Test.YtijmjkkjopplbaaPan
import Derived.Test.YtijmjkkjopplbaaPai
import Derived.Test.YtijmjkkjopplbaaPah
import Derived.Test.YtijmjkkjopplbaaPag
import Derived.Test.YtijmjkkjopplbaaPaj
import Derived.Test.YtijmjkkjopplbaaPax
import Derived.Test.YtijmjkkjopplbaaPap
import Derived.Test.YtijmjkkjopplbaaPas
import Derived.Test.YtijmjkkjopplbaaPkRationalFormatsf
import Derived.Test.YtijmjkkjopplbaaPkRationalFormatse
import Derived.Test.YtijmjkkjopplbaaPkRationalFormatsg
import Derived.Test.YtijmjkkjopplbaaPkRationalFormatsd
import Derived.Test.YtijmjkkjopplbaaPkRationalFormatsj
import Derived.Test.YtijmjkkjopplbaaPau
import Derived.Test.YtijmjkkjopplbaaPkRationalFormatsi
import Derived.Test.YtijmjkkjopplbaaPkRationalFormatsl
import Derived.Test.YtijmjkkjopplbaaPar
import Derived.Test.YtijmjkkjopplbaaPaw
import Derived.Test.YtijmjkkjopplbaaPkRationalFormatsc
import Derived.Test.YtijmjkkjopplbaaPaBa
import Derived.Test.YtijmjkkjopplbaaPaq
import Derived.Test.YtijmjkkjopplbaaPak
import Derived.Test.YtijmjkkjopplbaaPaz
namespace Go.Proofs.Ytijmjkkjopplbaa
open Go.RowKit
set_option linter.unusedVariables false
set_option maxRecDepth 100000

set_option maxHeartbeats 4000000 in
theorem rationalFormats_long (w : World) (sa1 : Bool) (Aa1 : Option Addr) (na1 ca1 : Nat) (sa2 : Bool) (Aa2 : Option Addr) (na2 ca2 : Nat) (hl : 8 < na1 ∨ 8 < na2) :
    Calls Try.prog 9 #[.agg #[.bool sa1, .slice Aa1 na1 ca1, .bool sa2, .slice Aa2 na2 ca2]] w fun e w' => e = .returned (.bool true) ∧ Below w.heap.size w w' := by
  have HL := hid hl
  clear hl
  have HB := hid (Below.refl w.heap.size w)
  obtain ⟨W, hW⟩ : ∃ W, W = (w.alloc (.cells #[.bool sa1, .slice Aa1 na1 ca1, .bool sa2, .slice Aa2 na2 ca2] 26)) := ⟨_, rfl⟩
  have hbb : Below w.heap.size w W := by rw [hW]; exact (bw_alloc (Below.refl _ _) _)
  have HB := hid (bw_step HB.out hbb)
  have Pa : Hid (Blk W (w.heap.size) 26 #[.bool sa1, .slice Aa1 na1 ca1, .bool sa2, .slice Aa2 na2 ca2]) := by
    rw [hW]
    have := Blk.new w 26 #[.bool sa1, .slice Aa1 na1 ca1, .bool sa2, .slice Aa2 na2 ca2]
    exact hid (by simpa only [World.size_alloc] using this)
  clear hbb
  have HWs := hid (show W.heap.size = w.heap.size + 1 by rw [hW]; simp)
  have ua0 := Pa.out.cell 0
  have ua1 := Pa.out.cell 1
  have ua2 := Pa.out.cell 2
  have ua3 := Pa.out.cell 3
  go_enter Try.func9, Try.ntmps9
  go_wp2_with fail
  rw [← hW]
  clear hW
  have hbb := bw_alloc (Below.refl _ W) (.cells #[.bool sa1, .slice Aa1 na1 ca1, .bool sa2, .slice Aa2 na2 ca2] 26)
  have XL := Blk.new W 26 #[.bool sa1, .slice Aa1 na1 ca1, .bool sa2, .slice Aa2 na2 ca2]
  rw [HWs.out] at XL
  have HB := hid (bw_step HB.out hbb)
  have Pa := hid (Pa.out.below hbb)
  clear hbb
  refine (long1 _ _ sa1 Aa1 na1 ca1 sa2 Aa2 na2 ca2 XL true ⟨fun _ => HL.out, fun _ => rfl⟩).mono ?_
  rintro e W1 ⟨rfl, hb1⟩
  clear XL
  have HB := hid (bw_step HB.out hb1)
  have Pa := hid (Pa.out.below hb1)
  clear hb1
  clear ua0 ua1 ua2 ua3
  go_wp2_with fail
  refine (awakeR_any _).mono ?_
  rintro e W2 ⟨rfl, hb2⟩
  have HB := hid (bw_step HB.out hb2)
  have Pa := hid (Pa.out.below hb2)
  clear hb2
  go_wp2
  go_ret
  exact ⟨rfl, HB.out⟩
set_option maxHeartbeats 8000000 in
theorem rationalFormats_short (w : World) (sa1 : Bool) (Aa1 : Option Addr) (na1 ca1 : Nat) (sa2 : Bool) (Aa2 : Option Addr) (na2 ca2 : Nat) (laa : na1 ≤ 8 ∧ na2 ≤ 8) (pa qa : Int) (fa1 : IntA w (.agg #[.bool sa1, .slice Aa1 na1 ca1]) pa 8) (fa2 : IntA w (.agg #[.bool sa2, .slice Aa2 na2 ca2]) qa 8) :
    Calls Try.prog 9 #[.agg #[.bool sa1, .slice Aa1 na1 ca1, .bool sa2, .slice Aa2 na2 ca2]] w fun e w' => e = .returned (.bool true) ∧ Below w.heap.size w w' := by
  have LAa := hid laa
  clear laa
  have Fa1 := hid fa1
  have Sa1 := hid fa1.sm
  have Fa2 := hid fa2
  have Sa2 := hid fa2.sm
  clear fa1 fa2
  have HB := hid (Below.refl w.heap.size w)
  obtain ⟨W, hW⟩ : ∃ W, W = (w.alloc (.cells #[.bool sa1, .slice Aa1 na1 ca1, .bool sa2, .slice Aa2 na2 ca2] 26)) := ⟨_, rfl⟩
  have hbb : Below w.heap.size w W := by rw [hW]; exact (bw_alloc (Below.refl _ _) _)
  have HB := hid (bw_step HB.out hbb)
  have Fa1 := hid (Fa1.out.below hbb)
  have Fa2 := hid (Fa2.out.below hbb)
  have Pa : Hid (Blk W (w.heap.size) 26 #[.bool sa1, .slice Aa1 na1 ca1, .bool sa2, .slice Aa2 na2 ca2]) := by
    rw [hW]
    have := Blk.new w 26 #[.bool sa1, .slice Aa1 na1 ca1, .bool sa2, .slice Aa2 na2 ca2]
    exact hid (by simpa only [World.size_alloc] using this)
  clear hbb
  have HWs := hid (show W.heap.size = w.heap.size + 1 by rw [hW]; simp)
  have ua0 := Pa.out.cell 0
  have ua1 := Pa.out.cell 1
  have ua2 := Pa.out.cell 2
  have ua3 := Pa.out.cell 3
  go_enter Try.func9, Try.ntmps9
  go_wp2_with fail
  rw [← hW]
  clear hW
  have hbb := bw_alloc (Below.refl _ W) (.cells #[.bool sa1, .slice Aa1 na1 ca1, .bool sa2, .slice Aa2 na2 ca2] 26)
  have XL := Blk.new W 26 #[.bool sa1, .slice Aa1 na1 ca1, .bool sa2, .slice Aa2 na2 ca2]
  rw [HWs.out] at XL
  have HB := hid (bw_step HB.out hbb)
  have Fa1 := hid (Fa1.out.below hbb)
  have Fa2 := hid (Fa2.out.below hbb)
  have Pa := hid (Pa.out.below hbb)
  clear hbb
  refine (long1 _ _ sa1 Aa1 na1 ca1 sa2 Aa2 na2 ca2 XL false ⟨fun h => absurd h (by decide), fun h => by have := LAa.out; omega⟩).mono ?_
  rintro e W1 ⟨rfl, hb1⟩
  clear XL
  have HB := hid (bw_step HB.out hb1)
  have Fa1 := hid (Fa1.out.below hb1)
  have Fa2 := hid (Fa2.out.below hb1)
  have Pa := hid (Pa.out.below hb1)
  clear hb1
  clear ua0 ua1 ua2 ua3
  go_wp2_with fail
  refine wp_region_eachG (by kernel_rfl) 9 15 rfl rfl (by kernel_rfl)
    [Fact.eq (.agg #[.bool sa1, .slice Aa1 na1 ca1, .bool sa2, .slice Aa2 na2 ca2]), Fact.eq (.string (ratT (Rat.divInt pa qa))), Fact.eq (.agg #[.bool sa1, .slice Aa1 na1 ca1, .bool sa2, .slice Aa2 na2 ca2]), Fact.eq (.string (ratT (Rat.divInt pa qa))), Fact.eq (.bool true), Fact.eq (.bool true), Fact.eq (.bool true), Fact.eq (.bool true), Fact.eq (.bool true)]
    [.val, .val, .val, .val, .val, .val, .val, .val, .val]
    (fun w' => IntA w' (.agg #[.bool sa1, .slice Aa1 na1 ca1]) (pa) 8 ∧ IntA w' (.agg #[.bool sa2, .slice Aa2 na2 ca2]) (qa) 8 ∧ Blk w' (w.heap.size) 26 #[.bool sa1, .slice Aa1 na1 ca1, .bool sa2, .slice Aa2 na2 ca2] ∧ Below w.heap.size w w')
    (fun _ _ _ => True) [] (fun _ => 0) (by kernel_rfl)
    ⟨Fa1.out, Fa2.out, Pa.out, HB.out⟩
    (fun w1 w2 ⟨h0, h1, h2, h3⟩ hb => ⟨h0.below hb, h1.below hb, h2.below hb, bw_step h3 hb⟩)
    (fun w1 w2 g ⟨h0, h1, h2, h3⟩ hg hn ho => by
      have hg' : W1.heap.size ≤ g := hg.elim id (fun ⟨_, h, _⟩ => absurd h (Nat.not_lt_zero _))
      exact ⟨h0.only hn ho, h1.only hn ho, h2.only ho (by have := Pa.out.lt; omega), below_only h3 ho (by have := Pa.out.lt; have := HB.out.size; omega)⟩)
    (fun l h => trivial) (fun l b w1 w2 h _ _ => trivial) (fun l b w1 w2 g h _ _ _ _ => trivial) (fun l h => by cases h) (fun l k h => by cases h) ?_ ?_
  · refine ⟨?_, ?_, ?_, ?_, ?_, ?_, ?_, ?_, ?_, trivial⟩ <;> intro L V a1 w1 hf hG hsz hφ hψ hL hdep hcl
    · obtain ⟨Fa1_, Fa2_, Pa_, HB_⟩ := hG
      refine og_none rfl ?_
      have e1 := old_slot hf 1 (by kernel_rfl)
      exact ob_pure (ex_loadR rfl e1 Pa_) rfl
    · obtain ⟨Fa1_, Fa2_, Pa_, HB_⟩ := hG
      refine og_none rfl ?_
      have d0 := dep_of hdep 0 (by kernel_rfl)
      have e7 := (new_slot hf 0 7 d0 (by kernel_rfl)).trans (show V 0 = .agg #[.bool sa1, .slice Aa1 na1 ca1, .bool sa2, .slice Aa2 na2 ca2] from hφ 0 d0)
      refine ob_go rfl (vs := #[.agg #[.bool sa1, .slice Aa1 na1 ca1, .bool sa2, .slice Aa2 na2 ca2]]) (by simp only [List.map_toArray, List.map_cons, List.map_nil, e7]) (by kernel_rfl) (formatR_any _ _ (Rat.divInt pa qa) 8 (RatA.of (Pair.mk (a := .A pa 8) (b := .A qa 8) Fa1_ Fa2_)) (by omega) (by omega)) ?_
      rintro e w2 ⟨he, hb⟩
      exact ⟨_, he, hb, rfl⟩
    · obtain ⟨Fa1_, Fa2_, Pa_, HB_⟩ := hG
      refine og_none rfl ?_
      have e1 := old_slot hf 1 (by kernel_rfl)
      exact ob_pure (ex_loadR rfl e1 Pa_) rfl
    · obtain ⟨Fa1_, Fa2_, Pa_, HB_⟩ := hG
      refine og_none rfl ?_
      have d2 := dep_of hdep 2 (by kernel_rfl)
      have e9 := (new_slot hf 2 9 d2 (by kernel_rfl)).trans (show V 2 = .agg #[.bool sa1, .slice Aa1 na1 ca1, .bool sa2, .slice Aa2 na2 ca2] from hφ 2 d2)
      refine ob_go rfl (vs := #[.agg #[.bool sa1, .slice Aa1 na1 ca1, .bool sa2, .slice Aa2 na2 ca2]]) (by simp only [List.map_toArray, List.map_cons, List.map_nil, e9]) (by kernel_rfl) (rformatR_any _ _ (Rat.divInt pa qa) 8 (RatA.of (Pair.mk (a := .A pa 8) (b := .A qa 8) Fa1_ Fa2_)) (by omega) (by omega)) ?_
      rintro e w2 ⟨he, hb⟩
      exact ⟨_, he, hb, rfl⟩
    · obtain ⟨Fa1_, Fa2_, Pa_, HB_⟩ := hG
      refine og_none rfl ?_
      have d1 := dep_of hdep 1 (by kernel_rfl)
      have e8 := (new_slot hf 1 8 d1 (by kernel_rfl)).trans (show V 1 = .string (ratT (Rat.divInt pa qa)) from hφ 1 d1)
      have d3 := dep_of hdep 3 (by kernel_rfl)
      have e10 := (new_slot hf 3 10 d3 (by kernel_rfl)).trans (show V 3 = .string (ratT (Rat.divInt pa qa)) from hφ 3 d3)
      exact ob_pure (ex_eql_str rfl e8 e10 (rfl)) rfl
    · obtain ⟨Fa1_, Fa2_, Pa_, HB_⟩ := hG
      refine og_none rfl ?_
      have d4 := dep_of hdep 4 (by kernel_rfl)
      have e11 := (new_slot hf 4 11 d4 (by kernel_rfl)).trans (show V 4 = .bool true from hφ 4 d4)
      exact ob_pure (v := .bool true) (ex_moveV rfl e11) rfl
    · obtain ⟨Fa1_, Fa2_, Pa_, HB_⟩ := hG
      have dg := dep_of hdep 5 (by kernel_rfl)
      refine og_want rfl (yielded_of hf (n := 15) (by kernel_rfl) rfl 5 12 dg (by kernel_rfl) (show V 5 = .bool true from hφ 5 dg)) ?_
      refine ob_go rfl (vs := #[]) (by simp only [List.map_toArray, List.map_nil]) (by kernel_rfl) (awakeR_any _) ?_
      rintro e w2 ⟨he, hb⟩
      exact ⟨_, he, hb, rfl⟩
    · obtain ⟨Fa1_, Fa2_, Pa_, HB_⟩ := hG
      refine og_none rfl ?_
      have d5 := dep_of hdep 5 (by kernel_rfl)
      have e12 := (new_slot hf 5 12 d5 (by kernel_rfl)).trans (show V 5 = .bool true from hφ 5 d5)
      have d6 := dep_of hdep 6 (by kernel_rfl)
      have e13 := (new_slot hf 6 13 d6 (by kernel_rfl)).trans (show V 6 = .bool true from hφ 6 d6)
      exact ob_pure (v := .bool true) (ex_pick_true rfl e12 e13) rfl
    · obtain ⟨Fa1_, Fa2_, Pa_, HB_⟩ := hG
      refine og_none rfl ?_
      have d7 := dep_of hdep 7 (by kernel_rfl)
      have e14 := (new_slot hf 7 14 d7 (by kernel_rfl)).trans (show V 7 = .bool true from hφ 7 d7)
      exact ob_pure (v := .bool true) (ex_assignV rfl e14) rfl
  · intro V W4 hG hsz4 hφ hψ hne
    have hlt4 : W1.heap.size ≤ W4.heap.size := hsz4
    obtain ⟨Fa1_, Fa2_, Pa_, HB_⟩ := hG
    have Fa1 := hid Fa1_
    have Fa2 := hid Fa2_
    have Pa := hid Pa_
    have HB := hid HB_
    have y0 : V 0 = .agg #[.bool sa1, .slice Aa1 na1 ca1, .bool sa2, .slice Aa2 na2 ca2] := hφ 0 (by decide)
    have y1 : V 1 = .string (ratT (Rat.divInt pa qa)) := hφ 1 (by decide)
    have y2 : V 2 = .agg #[.bool sa1, .slice Aa1 na1 ca1, .bool sa2, .slice Aa2 na2 ca2] := hφ 2 (by decide)
    have y3 : V 3 = .string (ratT (Rat.divInt pa qa)) := hφ 3 (by decide)
    have y4 : V 4 = .bool true := hφ 4 (by decide)
    have y5 : V 5 = .bool true := hφ 5 (by decide)
    have y6 : V 6 = .bool true := hφ 6 (by decide)
    have y7 : V 7 = .bool true := hφ 7 (by decide)
    have y8 : V 8 = .bool true := hφ 8 (by decide)
    simp only [puts, Act.put, List.setIfInBounds_toArray, List.set_cons_zero, List.set_cons_succ, y0, y1, y2, y3, y4, y5, y6, y7, y8]
    clear hφ hψ hne y0 y1 y2 y3 y4 y5 y6 y7 y8 Fa1_ Fa2_ Pa_ HB_ hsz4
    go_wp2
    go_ret
    exact ⟨rfl, HB.out⟩
theorem rationalFormats_walk (w : World) (va : Value) (ha : ArgR w va) :
    Calls Try.prog 9 #[va] w fun e w' => e = .returned (.bool true) ∧ Below w.heap.size w w' := by
  obtain ⟨sa1, Aa1, na1, ca1, sa2, Aa2, na2, ca2, rfl, ka⟩ := ha.short
  rcases ka 8 (by decide) with ka | ⟨la1, la2, pa, qa, fa1, fa2⟩
  · exact rationalFormats_long w sa1 Aa1 na1 ca1 sa2 Aa2 na2 ca2 (by omega)
  exact rationalFormats_short w sa1 Aa1 na1 ca1 sa2 Aa2 na2 ca2 ⟨la1, la2⟩ pa qa fa1 fa2
end Go.Proofs.Ytijmjkkjopplbaa

