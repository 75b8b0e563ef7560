/- A part of the proof of the laws of rationals: WRBetween. -/
import Derived.Test.YtijmjkkjopplbaaPae
import Derived.Test.YtijmjkkjopplbaaPam
import Derived.Test.YtijmjkkjopplbaaPaBc
import Derived.Test.YtijmjkkjopplbaaPaBd
import Derived.Test.YtijmjkkjopplbaaPaBb
import Derived.Test.YtijmjkkjopplbaaPbh
import Derived.Test.YtijmjkkjopplbaaPal
import Derived.Test.YtijmjkkjopplbaaPab
import Derived.Test.YtijmjkkjopplbaaPaf
import Derived.Test.YtijmjkkjopplbaaPad
import Derived.Test.YtijmjkkjopplbaaPbb
import Derived.Test.YtijmjkkjopplbaaPac
import Derived.Test.YtijmjkkjopplbaaPav
import Derived.Test.YtijmjkkjopplbaaPay
import Derived.Test.YtijmjkkjopplbaaPao
import Derived.Test.YtijmjkkjopplbaaPat
import Derived.Test.YtijmjkkjopplbaaPba
import Derived.Test.YtijmjkkjopplbaaPaa
import Derived.Test.YtijmjkkjopplbaaPan
import Derived.Test.YtijmjkkjopplbaaPai
import Derived.Test.YtijmjkkjopplbaaPah
import Derived.Test.YtijmjkkjopplbaaPag
import Derived.Test.YtijmjkkjopplbaaPaj
import Derived.Test.YtijmjkkjopplbaaPax
import Derived.Test.YtijmjkkjopplbaaPap
import Derived.Test.YtijmjkkjopplbaaPas
import Derived.Test.YtijmjkkjopplbaaPbf
import Derived.Test.YtijmjkkjopplbaaPbe
import Derived.Test.YtijmjkkjopplbaaPbg
import Derived.Test.YtijmjkkjopplbaaPbd
import Derived.Test.YtijmjkkjopplbaaPbj
import Derived.Test.YtijmjkkjopplbaaPau
import Derived.Test.YtijmjkkjopplbaaPbi
import Derived.Test.YtijmjkkjopplbaaPar
import Derived.Test.YtijmjkkjopplbaaPkRationalBetweenb
import Derived.Test.YtijmjkkjopplbaaPaw
import Derived.Test.YtijmjkkjopplbaaPbk
import Derived.Test.YtijmjkkjopplbaaPbc
import Derived.Test.YtijmjkkjopplbaaPaBa
import Derived.Test.YtijmjkkjopplbaaPaq
import Derived.Test.YtijmjkkjopplbaaPkRationalBetweena
import Derived.Test.YtijmjkkjopplbaaPbl
import Derived.Test.YtijmjkkjopplbaaPkRationalBetweenc
import Derived.Test.YtijmjkkjopplbaaPak
import Derived.Test.YtijmjkkjopplbaaPaz
namespace Go.Proofs.Ytijmjkkjopplbaa
open Go.RowKit
set_option linter.unusedVariables false
set_option maxRecDepth 100000

theorem cm_lt0 {r : Rat} (h : r < 0) : decide (cm r.num 0 < 0) = true := by
  have h1 : ¬ 0 ≤ r.num := fun h2 => absurd (Rat.num_nonneg.1 h2) (Rat.not_le.2 h)
  rw [cm_lt (by omega)]; rfl
theorem cm_ge0 {r : Rat} (h : 0 ≤ r) : decide (0 ≤ cm r.num 0) = true := by
  have h1 := Rat.num_nonneg.2 h
  rcases Int.lt_trichotomy r.num 0 with h2 | h2 | h2
  · omega
  · rw [cm_eq h2]; rfl
  · rw [cm_gt h2]; rfl
theorem cm_le0 {r : Rat} (h : r ≤ 0) : decide (cm r.num 0 ≤ 0) = true := by
  rcases Int.lt_trichotomy r.num 0 with h2 | h2 | h2
  · rw [cm_lt h2]; rfl
  · rw [cm_eq h2]; rfl
  · have h3 := Rat.num_nonneg.1 (Int.le_of_lt h2)
    have h4 := Rat.le_antisymm h h3
    rw [h4] at h2
    exact absurd h2 (by decide)
theorem half_two : half + half = 1 := by
  unfold half
  rw [← add_divInt (by decide) (by decide)]
  exact Rat.divInt_self' (by decide)
theorem btw1 (x : Rat) : ((x.floor : Int) : Rat) - x ≤ 0 := by
  have h := Rat.floor_le x
  grind
theorem btw2 (x : Rat) : x - (((x.floor : Int) : Rat) + ((1 : Int) : Rat)) < 0 := by
  have h := Rat.lt_floor_add_one x
  rw [Rat.intCast_add] at h
  grind
theorem btw3 (x : Rat) : (x - (((x + half).floor : Int) : Rat)) - half < 0 := by
  have h1 := Rat.lt_floor_add_one (x + half)
  have h3 := half_two
  rw [Rat.intCast_add] at h1
  have e : ((1 : Int) : Rat) = 1 := rfl
  rw [e] at h1
  grind
theorem btw4 (x : Rat) : 0 ≤ (x - (((x + half).floor : Int) : Rat)) - -half := by
  have h2 := Rat.floor_le (x + half)
  grind

set_option maxHeartbeats 4000000 in
theorem rationalBetween_long (w : World) (sa1 : Bool) (Aa1 : Option Addr) (na1 ca1 : Nat) (sa2 : Bool) (Aa2 : Option Addr) (na2 ca2 : Nat) (hl : 8 < na1 ∨ 8 < na2) :
    Calls Try.prog 5 #[.agg #[.bool sa1, .slice Aa1 na1 ca1, .bool sa2, .slice Aa2 na2 ca2]] w fun e w' => e = .returned (.bool true) ∧ Below w.heap.size w w' := by
  have HL := hid hl
  clear hl
  have HB := hid (Below.refl w.heap.size w)
  obtain ⟨W, hW⟩ : ∃ W, W = (w.alloc (.cells #[.bool sa1, .slice Aa1 na1 ca1, .bool sa2, .slice Aa2 na2 ca2] 26)) := ⟨_, rfl⟩
  have hbb : Below w.heap.size w W := by rw [hW]; exact (bw_alloc (Below.refl _ _) _)
  have HB := hid (bw_step HB.out hbb)
  have Pa : Hid (Blk W (w.heap.size) 26 #[.bool sa1, .slice Aa1 na1 ca1, .bool sa2, .slice Aa2 na2 ca2]) := by
    rw [hW]
    have := Blk.new w 26 #[.bool sa1, .slice Aa1 na1 ca1, .bool sa2, .slice Aa2 na2 ca2]
    exact hid (by simpa only [World.size_alloc] using this)
  clear hbb
  have HWs := hid (show W.heap.size = w.heap.size + 1 by rw [hW]; simp)
  have ua0 := Pa.out.cell 0
  have ua1 := Pa.out.cell 1
  have ua2 := Pa.out.cell 2
  have ua3 := Pa.out.cell 3
  go_enter Try.func5, Try.ntmps5
  go_wp2_with fail
  rw [← hW]
  clear hW
  have hbb := bw_alloc (Below.refl _ W) (.cells #[.bool sa1, .slice Aa1 na1 ca1, .bool sa2, .slice Aa2 na2 ca2] 26)
  have XL := Blk.new W 26 #[.bool sa1, .slice Aa1 na1 ca1, .bool sa2, .slice Aa2 na2 ca2]
  rw [HWs.out] at XL
  have HB := hid (bw_step HB.out hbb)
  have Pa := hid (Pa.out.below hbb)
  clear hbb
  refine (long1 _ _ sa1 Aa1 na1 ca1 sa2 Aa2 na2 ca2 XL true ⟨fun _ => HL.out, fun _ => rfl⟩).mono ?_
  rintro e W1 ⟨rfl, hb1⟩
  clear XL
  have HB := hid (bw_step HB.out hb1)
  have Pa := hid (Pa.out.below hb1)
  clear hb1
  clear ua0 ua1 ua2 ua3
  go_wp2_with fail
  refine (awakeR_any _).mono ?_
  rintro e W2 ⟨rfl, hb2⟩
  have HB := hid (bw_step HB.out hb2)
  have Pa := hid (Pa.out.below hb2)
  clear hb2
  go_wp2
  go_ret
  exact ⟨rfl, HB.out⟩
set_option maxHeartbeats 8000000 in
theorem rationalBetween_short (w : World) (sa1 : Bool) (Aa1 : Option Addr) (na1 ca1 : Nat) (sa2 : Bool) (Aa2 : Option Addr) (na2 ca2 : Nat) (laa : na1 ≤ 8 ∧ na2 ≤ 8) (pa qa : Int) (fa1 : IntA w (.agg #[.bool sa1, .slice Aa1 na1 ca1]) pa 8) (fa2 : IntA w (.agg #[.bool sa2, .slice Aa2 na2 ca2]) qa 8) :
    Calls Try.prog 5 #[.agg #[.bool sa1, .slice Aa1 na1 ca1, .bool sa2, .slice Aa2 na2 ca2]] w fun e w' => e = .returned (.bool true) ∧ Below w.heap.size w w' := by
  have LAa := hid laa
  clear laa
  have Fa1 := hid fa1
  have Sa1 := hid fa1.sm
  have Fa2 := hid fa2
  have Sa2 := hid fa2.sm
  clear fa1 fa2
  have HB := hid (Below.refl w.heap.size w)
  obtain ⟨W, hW⟩ : ∃ W, W = (w.alloc (.cells #[.bool sa1, .slice Aa1 na1 ca1, .bool sa2, .slice Aa2 na2 ca2] 26)) := ⟨_, rfl⟩
  have hbb : Below w.heap.size w W := by rw [hW]; exact (bw_alloc (Below.refl _ _) _)
  have HB := hid (bw_step HB.out hbb)
  have Fa1 := hid (Fa1.out.below hbb)
  have Fa2 := hid (Fa2.out.below hbb)
  have Pa : Hid (Blk W (w.heap.size) 26 #[.bool sa1, .slice Aa1 na1 ca1, .bool sa2, .slice Aa2 na2 ca2]) := by
    rw [hW]
    have := Blk.new w 26 #[.bool sa1, .slice Aa1 na1 ca1, .bool sa2, .slice Aa2 na2 ca2]
    exact hid (by simpa only [World.size_alloc] using this)
  clear hbb
  have HWs := hid (show W.heap.size = w.heap.size + 1 by rw [hW]; simp)
  have ua0 := Pa.out.cell 0
  have ua1 := Pa.out.cell 1
  have ua2 := Pa.out.cell 2
  have ua3 := Pa.out.cell 3
  go_enter Try.func5, Try.ntmps5
  go_wp2_with fail
  rw [← hW]
  clear hW
  have hbb := bw_alloc (Below.refl _ W) (.cells #[.bool sa1, .slice Aa1 na1 ca1, .bool sa2, .slice Aa2 na2 ca2] 26)
  have XL := Blk.new W 26 #[.bool sa1, .slice Aa1 na1 ca1, .bool sa2, .slice Aa2 na2 ca2]
  rw [HWs.out] at XL
  have HB := hid (bw_step HB.out hbb)
  have Fa1 := hid (Fa1.out.below hbb)
  have Fa2 := hid (Fa2.out.below hbb)
  have Pa := hid (Pa.out.below hbb)
  clear hbb
  refine (long1 _ _ sa1 Aa1 na1 ca1 sa2 Aa2 na2 ca2 XL false ⟨fun h => absurd h (by decide), fun h => by have := LAa.out; omega⟩).mono ?_
  rintro e W1 ⟨rfl, hb1⟩
  clear XL
  have HB := hid (bw_step HB.out hb1)
  have Fa1 := hid (Fa1.out.below hb1)
  have Fa2 := hid (Fa2.out.below hb1)
  have Pa := hid (Pa.out.below hb1)
  clear hb1
  clear ua0 ua1 ua2 ua3
  have B1 := hid (btw1 (Rat.divInt pa qa))
  have B2 := hid (btw2 (Rat.divInt pa qa))
  have B3 := hid (btw3 (Rat.divInt pa qa))
  have B4 := hid (btw4 (Rat.divInt pa qa))
  go_wp2_with (with_reducible refine halt_at 9 rfl ?_)
  have SM2 : Hid (Sm 8 ((Rat.divInt pa qa)).floor) := hid ((RS.of (Sa1.out) (Sa2.out) (by omega)).floor)
  have RS3 : Hid (RS 8 ((((Rat.divInt pa qa)).floor : Int) : Rat)) := hid (RS.int (SM2.out) (by omega))
  have lt3_Pa := Pa.out.lt
  unfold Halted
  refine wp_list_each (by kernel_rfl) 5 45 rfl rfl (by kernel_rfl)
    [Fact.eq (.agg #[.bool sa1, .slice Aa1 na1 ca1, .bool sa2, .slice Aa2 na2 ca2]), Fact.int ((Rat.divInt pa qa)).floor, Fact.pair (.V (((((Rat.divInt pa qa)).floor : Int) : Rat)).num) (.V ((((((Rat.divInt pa qa)).floor : Int) : Rat)).den : Int)), Fact.boxR 26 Rne (.V (((((Rat.divInt pa qa)).floor : Int) : Rat)).num) (.V ((((((Rat.divInt pa qa)).floor : Int) : Rat)).den : Int)), Fact.top _]
    [.val, .val, .val, .alloc 4, .fill 3]
    (fun w' => IntA w' (.agg #[.bool sa1, .slice Aa1 na1 ca1]) (pa) 8 ∧ IntA w' (.agg #[.bool sa2, .slice Aa2 na2 ca2]) (qa) 8 ∧ Blk w' (w.heap.size) 26 #[.bool sa1, .slice Aa1 na1 ca1, .bool sa2, .slice Aa2 na2 ca2] ∧ Below w.heap.size w w')
    (fun _ _ _ => True) [] (fun _ => 0) (by kernel_rfl)
    ⟨Fa1.out, Fa2.out, Pa.out, HB.out⟩
    (fun w1 w2 ⟨h0, h1, h2, h3⟩ hb => ⟨h0.below hb, h1.below hb, h2.below hb, bw_step h3 hb⟩)
    (fun w1 w2 g ⟨h0, h1, h2, h3⟩ hg hn ho => by
      have hg' : W1.heap.size ≤ g := hg.elim id (fun ⟨_, h, _⟩ => absurd h (Nat.not_lt_zero _))
      exact ⟨h0.only hn ho, h1.only hn ho, h2.only ho (by have := Pa.out.lt; omega), below_only h3 ho (by have := Pa.out.lt; have := HB.out.size; omega)⟩)
    (fun l h => trivial) (fun l b w1 w2 h _ _ => trivial) (fun l b w1 w2 g h _ _ _ _ => trivial) (fun l h => by cases h) (fun l k h => by cases h) ?_ ?_
  · refine ⟨?_, ?_, ?_, ?_, ?_, trivial⟩ <;> intro L V a1 w1 hf hG hsz hφ hψ hL hdep hcl
    · obtain ⟨Fa1_, Fa2_, Pa_, HB_⟩ := hG
      have e1 := old_slot hf 1 (by kernel_rfl)
      exact ob_pure (ex_loadR rfl e1 Pa_) rfl
    · obtain ⟨Fa1_, Fa2_, Pa_, HB_⟩ := hG
      have d0 := dep_of hdep 0 (by kernel_rfl)
      have e9 := (new_slot hf 0 9 d0 (by kernel_rfl)).trans (show V 0 = .agg #[.bool sa1, .slice Aa1 na1 ca1, .bool sa2, .slice Aa2 na2 ca2] from hφ 0 d0)
      refine ob_go rfl (vs := #[.agg #[.bool sa1, .slice Aa1 na1 ca1, .bool sa2, .slice Aa2 na2 ca2]]) (by simp only [List.map_toArray, List.map_cons, List.map_nil, e9]) (by kernel_rfl) (floorR_any _ _ (Rat.divInt pa qa) 8 (RatA.of (Pair.mk (a := .A pa 8) (b := .A qa 8) Fa1_ Fa2_)) (by omega) (by omega)) ?_
      rintro e w2 ⟨⟨v, rfl, hv⟩, hb⟩
      exact ⟨v, rfl, hb, hv⟩
    · obtain ⟨Fa1_, Fa2_, Pa_, HB_⟩ := hG
      have d1 := dep_of hdep 1 (by kernel_rfl)
      have e10 := new_slot hf 1 10 d1 (by kernel_rfl)
      have p10 : IntV w1 (V 1) ((Rat.divInt pa qa)).floor := hφ 1 d1
      refine ob_go rfl (vs := #[V 1]) (by simp only [List.map_toArray, List.map_cons, List.map_nil, e10]) (by kernel_rfl) (rwholeR_any _ _ ((Rat.divInt pa qa)).floor 8 (IntV.arg p10 (Sm.to (SM2.out) (by omega)))) ?_
      rintro e w2 ⟨⟨v, rfl, hv⟩, hb⟩
      exact ⟨v, rfl, hb, hv⟩
    · obtain ⟨Fa1_, Fa2_, Pa_, HB_⟩ := hG
      exact ob_allocR rfl hsz rfl
    · obtain ⟨Fa1_, Fa2_, Pa_, HB_⟩ := hG
      have d2 := dep_of hdep 2 (by kernel_rfl)
      have e11 := new_slot hf 2 11 d2 (by kernel_rfl)
      have p11 : Pair w1 (V 2) (.V (((((Rat.divInt pa qa)).floor : Int) : Rat)).num) (.V ((((((Rat.divInt pa qa)).floor : Int) : Rat)).den : Int)) := hφ 2 d2
      have d3 := dep_of hdep 3 (by kernel_rfl)
      obtain ⟨g, h1, h2, h3, _⟩ := hφ 3 d3
      have hz := h3 (show (true && L 4) = false from by have h : L 4 = false := hL; rw [h]; rfl)
      exact ob_fillR rfl ((new_slot hf 3 3 d3 (by kernel_rfl)).trans h1) e11 h1 h2 hz p11 rfl rfl
  · intro V W4 hG hsz4 hφ hψ hne
    have hlt4 : W1.heap.size ≤ W4.heap.size := hsz4
    obtain ⟨Fa1_, Fa2_, Pa_, HB_⟩ := hG
    have Fa1 := hid Fa1_
    have Fa2 := hid Fa2_
    have Pa := hid Pa_
    have HB := hid HB_
    have y0 : V 0 = .agg #[.bool sa1, .slice Aa1 na1 ca1, .bool sa2, .slice Aa2 na2 ca2] := hφ 0 (by decide)
    obtain ⟨G4_3, y3, gb403, _, hb403⟩ := hφ 3 (by decide)
    obtain ⟨q4031, A4031, n4031, c4031, q4032, A4032, n4032, c4032, kb403, va403, vb403⟩ := hb403 rfl
    have Xt3_ := hid kb403
    have t3_1 : Hid (IntV W4 (.agg #[.bool q4031, .slice A4031 n4031 c4031]) (((((Rat.divInt pa qa)).floor : Int) : Rat)).num) := hid va403
    have t3_2 : Hid (IntV W4 (.agg #[.bool q4032, .slice A4032 n4032 c4032]) ((((((Rat.divInt pa qa)).floor : Int) : Rat)).den : Int)) := hid vb403
    clear kb403 va403 vb403
    clear hb403
    simp only [puts, Act.put, List.setIfInBounds_toArray, List.set_cons_zero, List.set_cons_succ, y0, y3, ptr]
    clear hφ hψ hne y0 y3 Fa1_ Fa2_ Pa_ HB_ hsz4
    go_wp2_with fail
    have SM5 : Hid (Sm 19 ((Rat.divInt pa qa) + half).floor) := hid (((RS.of (Sa1.out) (Sa2.out) (by omega)).add RS.half (by omega)).floor)
    have RS6 : Hid (RS 19 ((((Rat.divInt pa qa) + half).floor : Int) : Rat)) := hid (RS.int (SM5.out) (by omega))
    have RS7 : Hid (RS 39 ((Rat.divInt pa qa) - ((((Rat.divInt pa qa) + half).floor : Int) : Rat))) := hid ((RS.of (Sa1.out) (Sa2.out) (by omega)).sub (RS6.out) (by omega))
    have lt7_Pa := Pa.out.lt
    have lt7_Xt3_ := Xt3_.out.lt
    refine wp_region_each (by kernel_rfl) 7 45 rfl rfl (by kernel_rfl)
      [Fact.eq (.agg #[.bool sa1, .slice Aa1 na1 ca1, .bool sa2, .slice Aa2 na2 ca2]), Fact.eq (.agg #[.bool sa1, .slice Aa1 na1 ca1, .bool sa2, .slice Aa2 na2 ca2]), Fact.int ((Rat.divInt pa qa) + half).floor, Fact.pair (.V (((((Rat.divInt pa qa) + half).floor : Int) : Rat)).num) (.V ((((((Rat.divInt pa qa) + half).floor : Int) : Rat)).den : Int)), Fact.pair (.V (((Rat.divInt pa qa) - ((((Rat.divInt pa qa) + half).floor : Int) : Rat))).num) (.V ((((Rat.divInt pa qa) - ((((Rat.divInt pa qa) + half).floor : Int) : Rat))).den : Int)), Fact.boxR 26 Rne (.V (((Rat.divInt pa qa) - ((((Rat.divInt pa qa) + half).floor : Int) : Rat))).num) (.V ((((Rat.divInt pa qa) - ((((Rat.divInt pa qa) + half).floor : Int) : Rat))).den : Int)), Fact.top _]
      [.val, .val, .val, .val, .val, .alloc 6, .fill 5]
      (fun w' => IntA w' (.agg #[.bool sa1, .slice Aa1 na1 ca1]) (pa) 8 ∧ IntA w' (.agg #[.bool sa2, .slice Aa2 na2 ca2]) (qa) 8 ∧ Blk w' (w.heap.size) 26 #[.bool sa1, .slice Aa1 na1 ca1, .bool sa2, .slice Aa2 na2 ca2] ∧ IntV w' (.agg #[.bool q4031, .slice A4031 n4031 c4031]) ((((((Rat.divInt pa qa)).floor : Int) : Rat)).num) ∧ IntV w' (.agg #[.bool q4032, .slice A4032 n4032 c4032]) (((((((Rat.divInt pa qa)).floor : Int) : Rat)).den : Int)) ∧ Blk w' (G4_3) 26 #[.bool q4031, .slice A4031 n4031 c4031, .bool q4032, .slice A4032 n4032 c4032] ∧ Below w.heap.size w w')
      (fun _ _ _ => True) [] (fun _ => 0) (by kernel_rfl)
      ⟨Fa1.out, Fa2.out, Pa.out, t3_1.out, t3_2.out, Xt3_.out, HB.out⟩
      (fun w1 w2 ⟨h0, h1, h2, h3, h4, h5, h6⟩ hb => ⟨h0.below hb, h1.below hb, h2.below hb, h3.below hb, h4.below hb, h5.below hb, bw_step h6 hb⟩)
      (fun w1 w2 g ⟨h0, h1, h2, h3, h4, h5, h6⟩ hg hn ho => by
        have hg' : W4.heap.size ≤ g := hg.elim id (fun ⟨_, h, _⟩ => absurd h (Nat.not_lt_zero _))
        exact ⟨h0.only hn ho, h1.only hn ho, h2.only ho (by have := Pa.out.lt; have := Xt3_.out.lt; omega), h3.only hn ho, h4.only hn ho, h5.only ho (by have := Pa.out.lt; have := Xt3_.out.lt; omega), below_only h6 ho (by have := Pa.out.lt; have := Xt3_.out.lt; have := HB.out.size; omega)⟩)
      (fun l h => trivial) (fun l b w1 w2 h _ _ => trivial) (fun l b w1 w2 g h _ _ _ _ => trivial) (fun l h => by cases h) (fun l k h => by cases h) ?_ ?_
    · refine ⟨?_, ?_, ?_, ?_, ?_, ?_, ?_, trivial⟩ <;> intro L V a1 w1 hf hG hsz hφ hψ hL hdep hcl
      · obtain ⟨Fa1_, Fa2_, Pa_, t3_1_, t3_2_, Xt3__, HB_⟩ := hG
        have e1 := old_slot hf 1 (by kernel_rfl)
        exact ob_pure (ex_loadR rfl e1 Pa_) rfl
      · obtain ⟨Fa1_, Fa2_, Pa_, t3_1_, t3_2_, Xt3__, HB_⟩ := hG
        have e1 := old_slot hf 1 (by kernel_rfl)
        exact ob_pure (ex_loadR rfl e1 Pa_) rfl
      · obtain ⟨Fa1_, Fa2_, Pa_, t3_1_, t3_2_, Xt3__, HB_⟩ := hG
        have d1 := dep_of hdep 1 (by kernel_rfl)
        have e13 := (new_slot hf 1 13 d1 (by kernel_rfl)).trans (show V 1 = .agg #[.bool sa1, .slice Aa1 na1 ca1, .bool sa2, .slice Aa2 na2 ca2] from hφ 1 d1)
        refine ob_go rfl (vs := #[.agg #[.bool sa1, .slice Aa1 na1 ca1, .bool sa2, .slice Aa2 na2 ca2]]) (by simp only [List.map_toArray, List.map_cons, List.map_nil, e13]) (by kernel_rfl) (nearestR_any _ _ (Rat.divInt pa qa) 8 (RatA.of (Pair.mk (a := .A pa 8) (b := .A qa 8) Fa1_ Fa2_)) (by omega) (by omega)) ?_
        rintro e w2 ⟨⟨v, rfl, hv⟩, hb⟩
        exact ⟨v, rfl, hb, hv⟩
      · obtain ⟨Fa1_, Fa2_, Pa_, t3_1_, t3_2_, Xt3__, HB_⟩ := hG
        have d2 := dep_of hdep 2 (by kernel_rfl)
        have e14 := new_slot hf 2 14 d2 (by kernel_rfl)
        have p14 : IntV w1 (V 2) ((Rat.divInt pa qa) + half).floor := hφ 2 d2
        refine ob_go rfl (vs := #[V 2]) (by simp only [List.map_toArray, List.map_cons, List.map_nil, e14]) (by kernel_rfl) (rwholeR_any _ _ ((Rat.divInt pa qa) + half).floor 19 (IntV.arg p14 (Sm.to (SM5.out) (by omega)))) ?_
        rintro e w2 ⟨⟨v, rfl, hv⟩, hb⟩
        exact ⟨v, rfl, hb, hv⟩
      · obtain ⟨Fa1_, Fa2_, Pa_, t3_1_, t3_2_, Xt3__, HB_⟩ := hG
        have d0 := dep_of hdep 0 (by kernel_rfl)
        have e12 := (new_slot hf 0 12 d0 (by kernel_rfl)).trans (show V 0 = .agg #[.bool sa1, .slice Aa1 na1 ca1, .bool sa2, .slice Aa2 na2 ca2] from hφ 0 d0)
        have d3 := dep_of hdep 3 (by kernel_rfl)
        have e15 := new_slot hf 3 15 d3 (by kernel_rfl)
        have p15 : Pair w1 (V 3) (.V (((((Rat.divInt pa qa) + half).floor : Int) : Rat)).num) (.V ((((((Rat.divInt pa qa) + half).floor : Int) : Rat)).den : Int)) := hφ 3 d3
        refine ob_go rfl (vs := #[.agg #[.bool sa1, .slice Aa1 na1 ca1, .bool sa2, .slice Aa2 na2 ca2], V 3]) (by simp only [List.map_toArray, List.map_cons, List.map_nil, e12, e15]) (by kernel_rfl) (rsubR_any _ _ _ (Rat.divInt pa qa) ((((Rat.divInt pa qa) + half).floor : Int) : Rat) 19 (RatA.mono (RatA.of (Pair.mk (a := .A pa 8) (b := .A qa 8) Fa1_ Fa2_)) (by omega)) (RatV.arg (x := ((((Rat.divInt pa qa) + half).floor : Int) : Rat)) p15 ((RS6.out).to (by omega))) (by omega) (by omega)) ?_
        rintro e w2 ⟨⟨v, rfl, hv⟩, hb⟩
        exact ⟨v, rfl, hb, hv⟩
      · obtain ⟨Fa1_, Fa2_, Pa_, t3_1_, t3_2_, Xt3__, HB_⟩ := hG
        exact ob_allocR rfl hsz rfl
      · obtain ⟨Fa1_, Fa2_, Pa_, t3_1_, t3_2_, Xt3__, HB_⟩ := hG
        have d4 := dep_of hdep 4 (by kernel_rfl)
        have e16 := new_slot hf 4 16 d4 (by kernel_rfl)
        have p16 : Pair w1 (V 4) (.V (((Rat.divInt pa qa) - ((((Rat.divInt pa qa) + half).floor : Int) : Rat))).num) (.V ((((Rat.divInt pa qa) - ((((Rat.divInt pa qa) + half).floor : Int) : Rat))).den : Int)) := hφ 4 d4
        have d5 := dep_of hdep 5 (by kernel_rfl)
        obtain ⟨g, h1, h2, h3, _⟩ := hφ 5 d5
        have hz := h3 (show (true && L 6) = false from by have h : L 6 = false := hL; rw [h]; rfl)
        exact ob_fillR rfl ((new_slot hf 5 4 d5 (by kernel_rfl)).trans h1) e16 h1 h2 hz p16 rfl rfl
    · intro V W8 hG hsz8 hφ hψ hne
      have hlt8 : W4.heap.size ≤ W8.heap.size := hsz8
      obtain ⟨Fa1_, Fa2_, Pa_, t3_1_, t3_2_, Xt3__, HB_⟩ := hG
      have Fa1 := hid Fa1_
      have Fa2 := hid Fa2_
      have Pa := hid Pa_
      have t3_1 := hid t3_1_
      have t3_2 := hid t3_2_
      have Xt3_ := hid Xt3__
      have HB := hid HB_
      have y0 : V 0 = .agg #[.bool sa1, .slice Aa1 na1 ca1, .bool sa2, .slice Aa2 na2 ca2] := hφ 0 (by decide)
      have y1 : V 1 = .agg #[.bool sa1, .slice Aa1 na1 ca1, .bool sa2, .slice Aa2 na2 ca2] := hφ 1 (by decide)
      obtain ⟨G8_5, y5, gb805, _, hb805⟩ := hφ 5 (by decide)
      obtain ⟨q8051, A8051, n8051, c8051, q8052, A8052, n8052, c8052, kb805, va805, vb805⟩ := hb805 rfl
      have Xt4_ := hid kb805
      have t4_1 : Hid (IntV W8 (.agg #[.bool q8051, .slice A8051 n8051 c8051]) (((Rat.divInt pa qa) - ((((Rat.divInt pa qa) + half).floor : Int) : Rat))).num) := hid va805
      have t4_2 : Hid (IntV W8 (.agg #[.bool q8052, .slice A8052 n8052 c8052]) ((((Rat.divInt pa qa) - ((((Rat.divInt pa qa) + half).floor : Int) : Rat))).den : Int)) := hid vb805
      clear kb805 va805 vb805
      clear hb805
      simp only [puts, Act.put, List.setIfInBounds_toArray, List.set_cons_zero, List.set_cons_succ, y0, y1, y5, ptr]
      clear hφ hψ hne y0 y1 y5 Fa1_ Fa2_ Pa_ t3_1_ t3_2_ Xt3__ HB_ hsz8
      go_wp2_with fail
      have RS10 : Hid (RS 17 (((((Rat.divInt pa qa)).floor : Int) : Rat) + ((1 : Int) : Rat))) := hid ((RS3.out).add ((RS.int (Sm.one (n := 1) (by decide) (by decide)) (by decide))) (by omega))
      have RS13 : Hid (RS 1 (-half)) := hid ((RS.half).neg)
      refine wp_region_eachG (by kernel_rfl) 29 45 rfl rfl (by kernel_rfl)
        [Fact.eq (.agg #[.bool q4031, .slice A4031 n4031 c4031, .bool q4032, .slice A4032 n4032 c4032]), Fact.eq (.agg #[.bool sa1, .slice Aa1 na1 ca1, .bool sa2, .slice Aa2 na2 ca2]), Fact.eq (.int .i64 (cm (((((Rat.divInt pa qa)).floor : Int) : Rat) - (Rat.divInt pa qa)).num 0)), Fact.eq (.bool true), Fact.eq (.bool true), Fact.eq (.agg #[.bool sa1, .slice Aa1 na1 ca1, .bool sa2, .slice Aa2 na2 ca2]), Fact.eq (.agg #[.bool q4031, .slice A4031 n4031 c4031, .bool q4032, .slice A4032 n4032 c4032]), Fact.pair (.V (((1 : Int) : Rat)).num) (.V ((((1 : Int) : Rat)).den : Int)), Fact.pair (.V ((((((Rat.divInt pa qa)).floor : Int) : Rat) + ((1 : Int) : Rat))).num) (.V (((((((Rat.divInt pa qa)).floor : Int) : Rat) + ((1 : Int) : Rat))).den : Int)), Fact.eq (.int .i64 (cm ((Rat.divInt pa qa) - (((((Rat.divInt pa qa)).floor : Int) : Rat) + ((1 : Int) : Rat))).num 0)), Fact.eq (.bool true), Fact.eq (.bool true), Fact.eq (.bool true), Fact.eq (.agg #[.bool q8051, .slice A8051 n8051 c8051, .bool q8052, .slice A8052 n8052 c8052]), Fact.pair (.V (half).num) (.V ((half).den : Int)), Fact.eq (.int .i64 (cm (((Rat.divInt pa qa) - ((((Rat.divInt pa qa) + half).floor : Int) : Rat)) - half).num 0)), Fact.eq (.bool true), Fact.eq (.bool true), Fact.eq (.bool true), Fact.eq (.agg #[.bool q8051, .slice A8051 n8051 c8051, .bool q8052, .slice A8052 n8052 c8052]), Fact.pair (.V (half).num) (.V ((half).den : Int)), Fact.pair (.V ((-half)).num) (.V (((-half)).den : Int)), Fact.eq (.int .i64 (cm (((Rat.divInt pa qa) - ((((Rat.divInt pa qa) + half).floor : Int) : Rat)) - (-half)).num 0)), Fact.eq (.bool true), Fact.eq (.bool true), Fact.eq (.bool true), Fact.eq (.bool true), Fact.eq (.bool true), Fact.eq (.bool true)]
        [.val, .val, .val, .val, .val, .val, .val, .val, .val, .val, .val, .val, .val, .val, .val, .val, .val, .val, .val, .val, .val, .val, .val, .val, .val, .val, .val, .val, .val]
        (fun w' => IntA w' (.agg #[.bool sa1, .slice Aa1 na1 ca1]) (pa) 8 ∧ IntA w' (.agg #[.bool sa2, .slice Aa2 na2 ca2]) (qa) 8 ∧ Blk w' (w.heap.size) 26 #[.bool sa1, .slice Aa1 na1 ca1, .bool sa2, .slice Aa2 na2 ca2] ∧ IntV w' (.agg #[.bool q4031, .slice A4031 n4031 c4031]) ((((((Rat.divInt pa qa)).floor : Int) : Rat)).num) ∧ IntV w' (.agg #[.bool q4032, .slice A4032 n4032 c4032]) (((((((Rat.divInt pa qa)).floor : Int) : Rat)).den : Int)) ∧ Blk w' (G4_3) 26 #[.bool q4031, .slice A4031 n4031 c4031, .bool q4032, .slice A4032 n4032 c4032] ∧ IntV w' (.agg #[.bool q8051, .slice A8051 n8051 c8051]) ((((Rat.divInt pa qa) - ((((Rat.divInt pa qa) + half).floor : Int) : Rat))).num) ∧ IntV w' (.agg #[.bool q8052, .slice A8052 n8052 c8052]) (((((Rat.divInt pa qa) - ((((Rat.divInt pa qa) + half).floor : Int) : Rat))).den : Int)) ∧ Blk w' (G8_5) 26 #[.bool q8051, .slice A8051 n8051 c8051, .bool q8052, .slice A8052 n8052 c8052] ∧ Below w.heap.size w w')
        (fun _ _ _ => True) [] (fun _ => 0) (by kernel_rfl)
        ⟨Fa1.out, Fa2.out, Pa.out, t3_1.out, t3_2.out, Xt3_.out, t4_1.out, t4_2.out, Xt4_.out, HB.out⟩
        (fun w1 w2 ⟨h0, h1, h2, h3, h4, h5, h6, h7, h8, h9⟩ hb => ⟨h0.below hb, h1.below hb, h2.below hb, h3.below hb, h4.below hb, h5.below hb, h6.below hb, h7.below hb, h8.below hb, bw_step h9 hb⟩)
        (fun w1 w2 g ⟨h0, h1, h2, h3, h4, h5, h6, h7, h8, h9⟩ hg hn ho => by
          have hg' : W8.heap.size ≤ g := hg.elim id (fun ⟨_, h, _⟩ => absurd h (Nat.not_lt_zero _))
          exact ⟨h0.only hn ho, h1.only hn ho, h2.only ho (by have := Pa.out.lt; have := Xt3_.out.lt; have := Xt4_.out.lt; omega), h3.only hn ho, h4.only hn ho, h5.only ho (by have := Pa.out.lt; have := Xt3_.out.lt; have := Xt4_.out.lt; omega), h6.only hn ho, h7.only hn ho, h8.only ho (by have := Pa.out.lt; have := Xt3_.out.lt; have := Xt4_.out.lt; omega), below_only h9 ho (by have := Pa.out.lt; have := Xt3_.out.lt; have := Xt4_.out.lt; have := HB.out.size; omega)⟩)
        (fun l h => trivial) (fun l b w1 w2 h _ _ => trivial) (fun l b w1 w2 g h _ _ _ _ => trivial) (fun l h => by cases h) (fun l k h => by cases h) ?_ ?_
      · refine ⟨?_, ?_, ?_, ?_, ?_, ?_, ?_, ?_, ?_, ?_, ?_, ?_, ?_, ?_, ?_, ?_, ?_, ?_, ?_, ?_, ?_, ?_, ?_, ?_, ?_, ?_, ?_, ?_, ?_, trivial⟩ <;> intro L V a1 w1 hf hG hsz hφ hψ hL hdep hcl
        · obtain ⟨Fa1_, Fa2_, Pa_, t3_1_, t3_2_, Xt3__, t4_1_, t4_2_, Xt4__, HB_⟩ := hG
          refine og_none rfl ?_
          have e3 := old_slot hf 3 (by kernel_rfl)
          exact ob_pure (ex_loadR rfl e3 Xt3__) rfl
        · obtain ⟨Fa1_, Fa2_, Pa_, t3_1_, t3_2_, Xt3__, t4_1_, t4_2_, Xt4__, HB_⟩ := hG
          refine og_none rfl ?_
          have e1 := old_slot hf 1 (by kernel_rfl)
          exact ob_pure (ex_loadR rfl e1 Pa_) rfl
        · obtain ⟨Fa1_, Fa2_, Pa_, t3_1_, t3_2_, Xt3__, t4_1_, t4_2_, Xt4__, HB_⟩ := hG
          refine og_none rfl ?_
          have d0 := dep_of hdep 0 (by kernel_rfl)
          have e17 := (new_slot hf 0 17 d0 (by kernel_rfl)).trans (show V 0 = .agg #[.bool q4031, .slice A4031 n4031 c4031, .bool q4032, .slice A4032 n4032 c4032] from hφ 0 d0)
          have d1 := dep_of hdep 1 (by kernel_rfl)
          have e18 := (new_slot hf 1 18 d1 (by kernel_rfl)).trans (show V 1 = .agg #[.bool sa1, .slice Aa1 na1 ca1, .bool sa2, .slice Aa2 na2 ca2] from hφ 1 d1)
          refine ob_go rfl (vs := #[.agg #[.bool q4031, .slice A4031 n4031 c4031, .bool q4032, .slice A4032 n4032 c4032], .agg #[.bool sa1, .slice Aa1 na1 ca1, .bool sa2, .slice Aa2 na2 ca2]]) (by simp only [List.map_toArray, List.map_cons, List.map_nil, e17, e18]) (by kernel_rfl) (rcmpR_any _ _ _ ((((Rat.divInt pa qa)).floor : Int) : Rat) (Rat.divInt pa qa) 8 (RatV.arg (x := ((((Rat.divInt pa qa)).floor : Int) : Rat)) (Pair.mk (a := .V (((((Rat.divInt pa qa)).floor : Int) : Rat)).num) (b := .V ((((((Rat.divInt pa qa)).floor : Int) : Rat)).den : Int)) t3_1_ t3_2_) ((RS3.out).to (by omega))) (RatA.of (Pair.mk (a := .A pa 8) (b := .A qa 8) Fa1_ Fa2_)) (by omega) (by omega)) ?_
          rintro e w2 ⟨he, hb⟩
          exact ⟨_, he, hb, rfl⟩
        · obtain ⟨Fa1_, Fa2_, Pa_, t3_1_, t3_2_, Xt3__, t4_1_, t4_2_, Xt4__, HB_⟩ := hG
          refine og_none rfl ?_
          have d2 := dep_of hdep 2 (by kernel_rfl)
          have e19 := (new_slot hf 2 19 d2 (by kernel_rfl)).trans (show V 2 = .int .i64 (cm (((((Rat.divInt pa qa)).floor : Int) : Rat) - (Rat.divInt pa qa)).num 0) from hφ 2 d2)
          exact ob_pure (ex_leq_int rfl e19 rfl) (show Value.bool (decide ((cm (((((Rat.divInt pa qa)).floor : Int) : Rat) - (Rat.divInt pa qa)).num 0) ≤ 0)) = Value.bool true from by rw [cm_le0 B1.out])
        · obtain ⟨Fa1_, Fa2_, Pa_, t3_1_, t3_2_, Xt3__, t4_1_, t4_2_, Xt4__, HB_⟩ := hG
          refine og_none rfl ?_
          have d3 := dep_of hdep 3 (by kernel_rfl)
          have e20 := (new_slot hf 3 20 d3 (by kernel_rfl)).trans (show V 3 = .bool true from hφ 3 d3)
          exact ob_pure (v := .bool true) (ex_moveV rfl e20) rfl
        · obtain ⟨Fa1_, Fa2_, Pa_, t3_1_, t3_2_, Xt3__, t4_1_, t4_2_, Xt4__, HB_⟩ := hG
          have dg := dep_of hdep 4 (by kernel_rfl)
          refine og_want rfl (yielded_of hf (n := 45) (by kernel_rfl) rfl 4 21 dg (by kernel_rfl) (show V 4 = .bool true from hφ 4 dg)) ?_
          have e1 := old_slot hf 1 (by kernel_rfl)
          exact ob_pure (ex_loadR rfl e1 Pa_) rfl
        · obtain ⟨Fa1_, Fa2_, Pa_, t3_1_, t3_2_, Xt3__, t4_1_, t4_2_, Xt4__, HB_⟩ := hG
          have dg := dep_of hdep 4 (by kernel_rfl)
          refine og_want rfl (yielded_of hf (n := 45) (by kernel_rfl) rfl 4 21 dg (by kernel_rfl) (show V 4 = .bool true from hφ 4 dg)) ?_
          have e3 := old_slot hf 3 (by kernel_rfl)
          exact ob_pure (ex_loadR rfl e3 Xt3__) rfl
        · obtain ⟨Fa1_, Fa2_, Pa_, t3_1_, t3_2_, Xt3__, t4_1_, t4_2_, Xt4__, HB_⟩ := hG
          have dg := dep_of hdep 4 (by kernel_rfl)
          refine og_want rfl (yielded_of hf (n := 45) (by kernel_rfl) rfl 4 21 dg (by kernel_rfl) (show V 4 = .bool true from hφ 4 dg)) ?_
          refine ob_go rfl (vs := #[.int .i64 1]) (by simp only [List.map_toArray, List.map_cons, List.map_nil, ev_const]) (by kernel_rfl) (rsmallR_any _ 1 (by decide) (by decide)) ?_
          rintro e w2 ⟨⟨v, rfl, hv⟩, hb⟩
          exact ⟨v, rfl, hb, hv⟩
        · obtain ⟨Fa1_, Fa2_, Pa_, t3_1_, t3_2_, Xt3__, t4_1_, t4_2_, Xt4__, HB_⟩ := hG
          have dg := dep_of hdep 4 (by kernel_rfl)
          refine og_want rfl (yielded_of hf (n := 45) (by kernel_rfl) rfl 4 21 dg (by kernel_rfl) (show V 4 = .bool true from hφ 4 dg)) ?_
          have d6 := dep_of hdep 6 (by kernel_rfl)
          have e23 := (new_slot hf 6 23 d6 (by kernel_rfl)).trans (show V 6 = .agg #[.bool q4031, .slice A4031 n4031 c4031, .bool q4032, .slice A4032 n4032 c4032] from hφ 6 d6)
          have d7 := dep_of hdep 7 (by kernel_rfl)
          have e24 := new_slot hf 7 24 d7 (by kernel_rfl)
          have p24 : Pair w1 (V 7) (.V (((1 : Int) : Rat)).num) (.V ((((1 : Int) : Rat)).den : Int)) := hφ 7 d7
          refine ob_go rfl (vs := #[.agg #[.bool q4031, .slice A4031 n4031 c4031, .bool q4032, .slice A4032 n4032 c4032], V 7]) (by simp only [List.map_toArray, List.map_cons, List.map_nil, e23, e24]) (by kernel_rfl) (raddR_any _ _ _ ((((Rat.divInt pa qa)).floor : Int) : Rat) ((1 : Int) : Rat) 8 (RatV.arg (x := ((((Rat.divInt pa qa)).floor : Int) : Rat)) (Pair.mk (a := .V (((((Rat.divInt pa qa)).floor : Int) : Rat)).num) (b := .V ((((((Rat.divInt pa qa)).floor : Int) : Rat)).den : Int)) t3_1_ t3_2_) ((RS3.out).to (by omega))) (RatV.arg (x := ((1 : Int) : Rat)) p24 (((RS.int (Sm.one (n := 1) (by decide) (by decide)) (by decide))).to (by omega))) (by omega) (by omega)) ?_
          rintro e w2 ⟨⟨v, rfl, hv⟩, hb⟩
          exact ⟨v, rfl, hb, hv⟩
        · obtain ⟨Fa1_, Fa2_, Pa_, t3_1_, t3_2_, Xt3__, t4_1_, t4_2_, Xt4__, HB_⟩ := hG
          have dg := dep_of hdep 4 (by kernel_rfl)
          refine og_want rfl (yielded_of hf (n := 45) (by kernel_rfl) rfl 4 21 dg (by kernel_rfl) (show V 4 = .bool true from hφ 4 dg)) ?_
          have d5 := dep_of hdep 5 (by kernel_rfl)
          have e22 := (new_slot hf 5 22 d5 (by kernel_rfl)).trans (show V 5 = .agg #[.bool sa1, .slice Aa1 na1 ca1, .bool sa2, .slice Aa2 na2 ca2] from hφ 5 d5)
          have d8 := dep_of hdep 8 (by kernel_rfl)
          have e25 := new_slot hf 8 25 d8 (by kernel_rfl)
          have p25 : Pair w1 (V 8) (.V ((((((Rat.divInt pa qa)).floor : Int) : Rat) + ((1 : Int) : Rat))).num) (.V (((((((Rat.divInt pa qa)).floor : Int) : Rat) + ((1 : Int) : Rat))).den : Int)) := hφ 8 d8
          refine ob_go rfl (vs := #[.agg #[.bool sa1, .slice Aa1 na1 ca1, .bool sa2, .slice Aa2 na2 ca2], V 8]) (by simp only [List.map_toArray, List.map_cons, List.map_nil, e22, e25]) (by kernel_rfl) (rcmpR_any _ _ _ (Rat.divInt pa qa) (((((Rat.divInt pa qa)).floor : Int) : Rat) + ((1 : Int) : Rat)) 17 (RatA.mono (RatA.of (Pair.mk (a := .A pa 8) (b := .A qa 8) Fa1_ Fa2_)) (by omega)) (RatV.arg (x := (((((Rat.divInt pa qa)).floor : Int) : Rat) + ((1 : Int) : Rat))) p25 ((RS10.out).to (by omega))) (by omega) (by omega)) ?_
          rintro e w2 ⟨he, hb⟩
          exact ⟨_, he, hb, rfl⟩
        · obtain ⟨Fa1_, Fa2_, Pa_, t3_1_, t3_2_, Xt3__, t4_1_, t4_2_, Xt4__, HB_⟩ := hG
          have dg := dep_of hdep 4 (by kernel_rfl)
          refine og_want rfl (yielded_of hf (n := 45) (by kernel_rfl) rfl 4 21 dg (by kernel_rfl) (show V 4 = .bool true from hφ 4 dg)) ?_
          have d9 := dep_of hdep 9 (by kernel_rfl)
          have e26 := (new_slot hf 9 26 d9 (by kernel_rfl)).trans (show V 9 = .int .i64 (cm ((Rat.divInt pa qa) - (((((Rat.divInt pa qa)).floor : Int) : Rat) + ((1 : Int) : Rat))).num 0) from hφ 9 d9)
          exact ob_pure (ex_lss_int rfl e26 rfl) (show Value.bool (decide ((cm ((Rat.divInt pa qa) - (((((Rat.divInt pa qa)).floor : Int) : Rat) + ((1 : Int) : Rat))).num 0) < 0)) = Value.bool true from by rw [cm_lt0 B2.out])
        · obtain ⟨Fa1_, Fa2_, Pa_, t3_1_, t3_2_, Xt3__, t4_1_, t4_2_, Xt4__, HB_⟩ := hG
          refine og_none rfl ?_
          have d4 := dep_of hdep 4 (by kernel_rfl)
          have e21 := (new_slot hf 4 21 d4 (by kernel_rfl)).trans (show V 4 = .bool true from hφ 4 d4)
          have d10 := dep_of hdep 10 (by kernel_rfl)
          have e27 := (new_slot hf 10 27 d10 (by kernel_rfl)).trans (show V 10 = .bool true from hφ 10 d10)
          exact ob_pure (v := .bool true) (ex_pick_true rfl e21 e27) rfl
        · obtain ⟨Fa1_, Fa2_, Pa_, t3_1_, t3_2_, Xt3__, t4_1_, t4_2_, Xt4__, HB_⟩ := hG
          refine og_none rfl ?_
          have d11 := dep_of hdep 11 (by kernel_rfl)
          have e28 := (new_slot hf 11 28 d11 (by kernel_rfl)).trans (show V 11 = .bool true from hφ 11 d11)
          exact ob_pure (v := .bool true) (ex_moveV rfl e28) rfl
        · obtain ⟨Fa1_, Fa2_, Pa_, t3_1_, t3_2_, Xt3__, t4_1_, t4_2_, Xt4__, HB_⟩ := hG
          have dg := dep_of hdep 12 (by kernel_rfl)
          refine og_want rfl (yielded_of hf (n := 45) (by kernel_rfl) rfl 12 29 dg (by kernel_rfl) (show V 12 = .bool true from hφ 12 dg)) ?_
          have e4 := old_slot hf 4 (by kernel_rfl)
          exact ob_pure (ex_loadR rfl e4 Xt4__) rfl
        · obtain ⟨Fa1_, Fa2_, Pa_, t3_1_, t3_2_, Xt3__, t4_1_, t4_2_, Xt4__, HB_⟩ := hG
          have dg := dep_of hdep 12 (by kernel_rfl)
          refine og_want rfl (yielded_of hf (n := 45) (by kernel_rfl) rfl 12 29 dg (by kernel_rfl) (show V 12 = .bool true from hφ 12 dg)) ?_
          refine ob_go rfl (vs := #[]) (by simp only [List.map_toArray, List.map_nil]) (by kernel_rfl) (rhalf_any _) ?_
          rintro e w2 ⟨⟨v, rfl, hv⟩, hb⟩
          exact ⟨v, rfl, hb, hv⟩
        · obtain ⟨Fa1_, Fa2_, Pa_, t3_1_, t3_2_, Xt3__, t4_1_, t4_2_, Xt4__, HB_⟩ := hG
          have dg := dep_of hdep 12 (by kernel_rfl)
          refine og_want rfl (yielded_of hf (n := 45) (by kernel_rfl) rfl 12 29 dg (by kernel_rfl) (show V 12 = .bool true from hφ 12 dg)) ?_
          have d13 := dep_of hdep 13 (by kernel_rfl)
          have e30 := (new_slot hf 13 30 d13 (by kernel_rfl)).trans (show V 13 = .agg #[.bool q8051, .slice A8051 n8051 c8051, .bool q8052, .slice A8052 n8052 c8052] from hφ 13 d13)
          have d14 := dep_of hdep 14 (by kernel_rfl)
          have e31 := new_slot hf 14 31 d14 (by kernel_rfl)
          have p31 : Pair w1 (V 14) (.V (half).num) (.V ((half).den : Int)) := hφ 14 d14
          refine ob_go rfl (vs := #[.agg #[.bool q8051, .slice A8051 n8051 c8051, .bool q8052, .slice A8052 n8052 c8052], V 14]) (by simp only [List.map_toArray, List.map_cons, List.map_nil, e30, e31]) (by kernel_rfl) (rcmpR_any _ _ _ ((Rat.divInt pa qa) - ((((Rat.divInt pa qa) + half).floor : Int) : Rat)) half 39 (RatV.arg (x := ((Rat.divInt pa qa) - ((((Rat.divInt pa qa) + half).floor : Int) : Rat))) (Pair.mk (a := .V (((Rat.divInt pa qa) - ((((Rat.divInt pa qa) + half).floor : Int) : Rat))).num) (b := .V ((((Rat.divInt pa qa) - ((((Rat.divInt pa qa) + half).floor : Int) : Rat))).den : Int)) t4_1_ t4_2_) ((RS7.out).to (by omega))) (RatV.arg (x := half) p31 ((RS.half).to (by omega))) (by omega) (by omega)) ?_
          rintro e w2 ⟨he, hb⟩
          exact ⟨_, he, hb, rfl⟩
        · obtain ⟨Fa1_, Fa2_, Pa_, t3_1_, t3_2_, Xt3__, t4_1_, t4_2_, Xt4__, HB_⟩ := hG
          have dg := dep_of hdep 12 (by kernel_rfl)
          refine og_want rfl (yielded_of hf (n := 45) (by kernel_rfl) rfl 12 29 dg (by kernel_rfl) (show V 12 = .bool true from hφ 12 dg)) ?_
          have d15 := dep_of hdep 15 (by kernel_rfl)
          have e32 := (new_slot hf 15 32 d15 (by kernel_rfl)).trans (show V 15 = .int .i64 (cm (((Rat.divInt pa qa) - ((((Rat.divInt pa qa) + half).floor : Int) : Rat)) - half).num 0) from hφ 15 d15)
          exact ob_pure (ex_lss_int rfl e32 rfl) (show Value.bool (decide ((cm (((Rat.divInt pa qa) - ((((Rat.divInt pa qa) + half).floor : Int) : Rat)) - half).num 0) < 0)) = Value.bool true from by rw [cm_lt0 B3.out])
        · obtain ⟨Fa1_, Fa2_, Pa_, t3_1_, t3_2_, Xt3__, t4_1_, t4_2_, Xt4__, HB_⟩ := hG
          refine og_none rfl ?_
          have d12 := dep_of hdep 12 (by kernel_rfl)
          have e29 := (new_slot hf 12 29 d12 (by kernel_rfl)).trans (show V 12 = .bool true from hφ 12 d12)
          have d16 := dep_of hdep 16 (by kernel_rfl)
          have e33 := (new_slot hf 16 33 d16 (by kernel_rfl)).trans (show V 16 = .bool true from hφ 16 d16)
          exact ob_pure (v := .bool true) (ex_pick_true rfl e29 e33) rfl
        · obtain ⟨Fa1_, Fa2_, Pa_, t3_1_, t3_2_, Xt3__, t4_1_, t4_2_, Xt4__, HB_⟩ := hG
          refine og_none rfl ?_
          have d17 := dep_of hdep 17 (by kernel_rfl)
          have e34 := (new_slot hf 17 34 d17 (by kernel_rfl)).trans (show V 17 = .bool true from hφ 17 d17)
          exact ob_pure (v := .bool true) (ex_moveV rfl e34) rfl
        · obtain ⟨Fa1_, Fa2_, Pa_, t3_1_, t3_2_, Xt3__, t4_1_, t4_2_, Xt4__, HB_⟩ := hG
          have dg := dep_of hdep 18 (by kernel_rfl)
          refine og_want rfl (yielded_of hf (n := 45) (by kernel_rfl) rfl 18 35 dg (by kernel_rfl) (show V 18 = .bool true from hφ 18 dg)) ?_
          have e4 := old_slot hf 4 (by kernel_rfl)
          exact ob_pure (ex_loadR rfl e4 Xt4__) rfl
        · obtain ⟨Fa1_, Fa2_, Pa_, t3_1_, t3_2_, Xt3__, t4_1_, t4_2_, Xt4__, HB_⟩ := hG
          have dg := dep_of hdep 18 (by kernel_rfl)
          refine og_want rfl (yielded_of hf (n := 45) (by kernel_rfl) rfl 18 35 dg (by kernel_rfl) (show V 18 = .bool true from hφ 18 dg)) ?_
          refine ob_go rfl (vs := #[]) (by simp only [List.map_toArray, List.map_nil]) (by kernel_rfl) (rhalf_any _) ?_
          rintro e w2 ⟨⟨v, rfl, hv⟩, hb⟩
          exact ⟨v, rfl, hb, hv⟩
        · obtain ⟨Fa1_, Fa2_, Pa_, t3_1_, t3_2_, Xt3__, t4_1_, t4_2_, Xt4__, HB_⟩ := hG
          have dg := dep_of hdep 18 (by kernel_rfl)
          refine og_want rfl (yielded_of hf (n := 45) (by kernel_rfl) rfl 18 35 dg (by kernel_rfl) (show V 18 = .bool true from hφ 18 dg)) ?_
          have d20 := dep_of hdep 20 (by kernel_rfl)
          have e37 := new_slot hf 20 37 d20 (by kernel_rfl)
          have p37 : Pair w1 (V 20) (.V (half).num) (.V ((half).den : Int)) := hφ 20 d20
          refine ob_go rfl (vs := #[V 20]) (by simp only [List.map_toArray, List.map_cons, List.map_nil, e37]) (by kernel_rfl) (rnegR_any _ _ half 1 (RatV.arg (x := half) p37 ((RS.half).to (by omega))) (by omega) (by omega)) ?_
          rintro e w2 ⟨⟨v, rfl, hv⟩, hb⟩
          exact ⟨v, rfl, hb, hv⟩
        · obtain ⟨Fa1_, Fa2_, Pa_, t3_1_, t3_2_, Xt3__, t4_1_, t4_2_, Xt4__, HB_⟩ := hG
          have dg := dep_of hdep 18 (by kernel_rfl)
          refine og_want rfl (yielded_of hf (n := 45) (by kernel_rfl) rfl 18 35 dg (by kernel_rfl) (show V 18 = .bool true from hφ 18 dg)) ?_
          have d19 := dep_of hdep 19 (by kernel_rfl)
          have e36 := (new_slot hf 19 36 d19 (by kernel_rfl)).trans (show V 19 = .agg #[.bool q8051, .slice A8051 n8051 c8051, .bool q8052, .slice A8052 n8052 c8052] from hφ 19 d19)
          have d21 := dep_of hdep 21 (by kernel_rfl)
          have e38 := new_slot hf 21 38 d21 (by kernel_rfl)
          have p38 : Pair w1 (V 21) (.V ((-half)).num) (.V (((-half)).den : Int)) := hφ 21 d21
          refine ob_go rfl (vs := #[.agg #[.bool q8051, .slice A8051 n8051 c8051, .bool q8052, .slice A8052 n8052 c8052], V 21]) (by simp only [List.map_toArray, List.map_cons, List.map_nil, e36, e38]) (by kernel_rfl) (rcmpR_any _ _ _ ((Rat.divInt pa qa) - ((((Rat.divInt pa qa) + half).floor : Int) : Rat)) (-half) 39 (RatV.arg (x := ((Rat.divInt pa qa) - ((((Rat.divInt pa qa) + half).floor : Int) : Rat))) (Pair.mk (a := .V (((Rat.divInt pa qa) - ((((Rat.divInt pa qa) + half).floor : Int) : Rat))).num) (b := .V ((((Rat.divInt pa qa) - ((((Rat.divInt pa qa) + half).floor : Int) : Rat))).den : Int)) t4_1_ t4_2_) ((RS7.out).to (by omega))) (RatV.arg (x := (-half)) p38 ((RS13.out).to (by omega))) (by omega) (by omega)) ?_
          rintro e w2 ⟨he, hb⟩
          exact ⟨_, he, hb, rfl⟩
        · obtain ⟨Fa1_, Fa2_, Pa_, t3_1_, t3_2_, Xt3__, t4_1_, t4_2_, Xt4__, HB_⟩ := hG
          have dg := dep_of hdep 18 (by kernel_rfl)
          refine og_want rfl (yielded_of hf (n := 45) (by kernel_rfl) rfl 18 35 dg (by kernel_rfl) (show V 18 = .bool true from hφ 18 dg)) ?_
          have d22 := dep_of hdep 22 (by kernel_rfl)
          have e39 := (new_slot hf 22 39 d22 (by kernel_rfl)).trans (show V 22 = .int .i64 (cm (((Rat.divInt pa qa) - ((((Rat.divInt pa qa) + half).floor : Int) : Rat)) - (-half)).num 0) from hφ 22 d22)
          exact ob_pure (ex_geq_int rfl e39 rfl) (show Value.bool (decide (0 ≤ (cm (((Rat.divInt pa qa) - ((((Rat.divInt pa qa) + half).floor : Int) : Rat)) - (-half)).num 0))) = Value.bool true from by rw [cm_ge0 B4.out])
        · obtain ⟨Fa1_, Fa2_, Pa_, t3_1_, t3_2_, Xt3__, t4_1_, t4_2_, Xt4__, HB_⟩ := hG
          refine og_none rfl ?_
          have d18 := dep_of hdep 18 (by kernel_rfl)
          have e35 := (new_slot hf 18 35 d18 (by kernel_rfl)).trans (show V 18 = .bool true from hφ 18 d18)
          have d23 := dep_of hdep 23 (by kernel_rfl)
          have e40 := (new_slot hf 23 40 d23 (by kernel_rfl)).trans (show V 23 = .bool true from hφ 23 d23)
          exact ob_pure (v := .bool true) (ex_pick_true rfl e35 e40) rfl
        · obtain ⟨Fa1_, Fa2_, Pa_, t3_1_, t3_2_, Xt3__, t4_1_, t4_2_, Xt4__, HB_⟩ := hG
          refine og_none rfl ?_
          have d24 := dep_of hdep 24 (by kernel_rfl)
          have e41 := (new_slot hf 24 41 d24 (by kernel_rfl)).trans (show V 24 = .bool true from hφ 24 d24)
          exact ob_pure (v := .bool true) (ex_moveV rfl e41) rfl
        · obtain ⟨Fa1_, Fa2_, Pa_, t3_1_, t3_2_, Xt3__, t4_1_, t4_2_, Xt4__, HB_⟩ := hG
          have dg := dep_of hdep 25 (by kernel_rfl)
          refine og_want rfl (yielded_of hf (n := 45) (by kernel_rfl) rfl 25 42 dg (by kernel_rfl) (show V 25 = .bool true from hφ 25 dg)) ?_
          refine ob_go rfl (vs := #[]) (by simp only [List.map_toArray, List.map_nil]) (by kernel_rfl) (awakeR_any _) ?_
          rintro e w2 ⟨he, hb⟩
          exact ⟨_, he, hb, rfl⟩
        · obtain ⟨Fa1_, Fa2_, Pa_, t3_1_, t3_2_, Xt3__, t4_1_, t4_2_, Xt4__, HB_⟩ := hG
          refine og_none rfl ?_
          have d25 := dep_of hdep 25 (by kernel_rfl)
          have e42 := (new_slot hf 25 42 d25 (by kernel_rfl)).trans (show V 25 = .bool true from hφ 25 d25)
          have d26 := dep_of hdep 26 (by kernel_rfl)
          have e43 := (new_slot hf 26 43 d26 (by kernel_rfl)).trans (show V 26 = .bool true from hφ 26 d26)
          exact ob_pure (v := .bool true) (ex_pick_true rfl e42 e43) rfl
        · obtain ⟨Fa1_, Fa2_, Pa_, t3_1_, t3_2_, Xt3__, t4_1_, t4_2_, Xt4__, HB_⟩ := hG
          refine og_none rfl ?_
          have d27 := dep_of hdep 27 (by kernel_rfl)
          have e44 := (new_slot hf 27 44 d27 (by kernel_rfl)).trans (show V 27 = .bool true from hφ 27 d27)
          exact ob_pure (v := .bool true) (ex_assignV rfl e44) rfl
      · intro V W15 hG hsz15 hφ hψ hne
        have hlt15 : W8.heap.size ≤ W15.heap.size := hsz15
        obtain ⟨Fa1_, Fa2_, Pa_, t3_1_, t3_2_, Xt3__, t4_1_, t4_2_, Xt4__, HB_⟩ := hG
        have Fa1 := hid Fa1_
        have Fa2 := hid Fa2_
        have Pa := hid Pa_
        have t3_1 := hid t3_1_
        have t3_2 := hid t3_2_
        have Xt3_ := hid Xt3__
        have t4_1 := hid t4_1_
        have t4_2 := hid t4_2_
        have Xt4_ := hid Xt4__
        have HB := hid HB_
        have y0 : V 0 = .agg #[.bool q4031, .slice A4031 n4031 c4031, .bool q4032, .slice A4032 n4032 c4032] := hφ 0 (by decide)
        have y1 : V 1 = .agg #[.bool sa1, .slice Aa1 na1 ca1, .bool sa2, .slice Aa2 na2 ca2] := hφ 1 (by decide)
        have y2 : V 2 = .int .i64 (cm (((((Rat.divInt pa qa)).floor : Int) : Rat) - (Rat.divInt pa qa)).num 0) := hφ 2 (by decide)
        have y3 : V 3 = .bool true := hφ 3 (by decide)
        have y4 : V 4 = .bool true := hφ 4 (by decide)
        have y5 : V 5 = .agg #[.bool sa1, .slice Aa1 na1 ca1, .bool sa2, .slice Aa2 na2 ca2] := hφ 5 (by decide)
        have y6 : V 6 = .agg #[.bool q4031, .slice A4031 n4031 c4031, .bool q4032, .slice A4032 n4032 c4032] := hφ 6 (by decide)
        have y9 : V 9 = .int .i64 (cm ((Rat.divInt pa qa) - (((((Rat.divInt pa qa)).floor : Int) : Rat) + ((1 : Int) : Rat))).num 0) := hφ 9 (by decide)
        have y10 : V 10 = .bool true := hφ 10 (by decide)
        have y11 : V 11 = .bool true := hφ 11 (by decide)
        have y12 : V 12 = .bool true := hφ 12 (by decide)
        have y13 : V 13 = .agg #[.bool q8051, .slice A8051 n8051 c8051, .bool q8052, .slice A8052 n8052 c8052] := hφ 13 (by decide)
        have y15 : V 15 = .int .i64 (cm (((Rat.divInt pa qa) - ((((Rat.divInt pa qa) + half).floor : Int) : Rat)) - half).num 0) := hφ 15 (by decide)
        have y16 : V 16 = .bool true := hφ 16 (by decide)
        have y17 : V 17 = .bool true := hφ 17 (by decide)
        have y18 : V 18 = .bool true := hφ 18 (by decide)
        have y19 : V 19 = .agg #[.bool q8051, .slice A8051 n8051 c8051, .bool q8052, .slice A8052 n8052 c8052] := hφ 19 (by decide)
        have y22 : V 22 = .int .i64 (cm (((Rat.divInt pa qa) - ((((Rat.divInt pa qa) + half).floor : Int) : Rat)) - (-half)).num 0) := hφ 22 (by decide)
        have y23 : V 23 = .bool true := hφ 23 (by decide)
        have y24 : V 24 = .bool true := hφ 24 (by decide)
        have y25 : V 25 = .bool true := hφ 25 (by decide)
        have y26 : V 26 = .bool true := hφ 26 (by decide)
        have y27 : V 27 = .bool true := hφ 27 (by decide)
        have y28 : V 28 = .bool true := hφ 28 (by decide)
        simp only [puts, Act.put, List.setIfInBounds_toArray, List.set_cons_zero, List.set_cons_succ, y0, y1, y2, y3, y4, y5, y6, y9, y10, y11, y12, y13, y15, y16, y17, y18, y19, y22, y23, y24, y25, y26, y27, y28]
        clear hφ hψ hne y0 y1 y2 y3 y4 y5 y6 y9 y10 y11 y12 y13 y15 y16 y17 y18 y19 y22 y23 y24 y25 y26 y27 y28 Fa1_ Fa2_ Pa_ t3_1_ t3_2_ Xt3__ t4_1_ t4_2_ Xt4__ HB_ hsz15
        go_wp2
        go_ret
        exact ⟨rfl, HB.out⟩
theorem rationalBetween_walk (w : World) (va : Value) (ha : ArgR w va) :
    Calls Try.prog 5 #[va] w fun e w' => e = .returned (.bool true) ∧ Below w.heap.size w w' := by
  obtain ⟨sa1, Aa1, na1, ca1, sa2, Aa2, na2, ca2, rfl, ka⟩ := ha.short
  rcases ka 8 (by decide) with ka | ⟨la1, la2, pa, qa, fa1, fa2⟩
  · exact rationalBetween_long w sa1 Aa1 na1 ca1 sa2 Aa2 na2 ca2 (by omega)
  exact rationalBetween_short w sa1 Aa1 na1 ca1 sa2 Aa2 na2 ca2 ⟨la1, la2⟩ pa qa fa1 fa2
end Go.Proofs.Ytijmjkkjopplbaa

