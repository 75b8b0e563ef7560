/- The law IntegerRoundTrip: its walk. -/
import Derived.Test.YtnjekacagffelaaAwake
import Derived.Test.YtnjekacagffelaaFormat
import Derived.Test.YtnjekacagffelaaParseText
import Derived.Test.YtnjekacagffelaaRSame
import Derived.Test.YtnjekacagffelaaRMake
import Derived.Test.YtnjekacagffelaaOps
import Derived.Test.YtnjekacagffelaaExec
import Derived.Test.YtnjekacagffelaaSm
import Derived.Test.YtnjekacagffelaaArg
namespace Go.Proofs.Ytnjekacagffelaa
open Go.RowKit
set_option linter.unusedVariables false
set_option maxRecDepth 100000

theorem integerRoundTrip_long0 (w : World) (sa : Bool) (Aa : Option Addr) (na ca : Nat)  (ha : 40 < na) :
    Calls Try.prog 10 #[.agg #[.bool sa, .slice Aa na ca]] w fun e w' => e = .returned (.bool true) ∧ Below w.heap.size w w' := by
  have hda : decide ((40 : Int) < (na : Int)) = true := by rw [decide_eq_true_eq]; omega
  have HB := hid (Below.refl w.heap.size w)
  obtain ⟨W, hW⟩ : ∃ W, W = (w.alloc (.cells #[.bool sa, .slice Aa na ca] 24)) := ⟨_, rfl⟩
  have hbb : Below w.heap.size w W := by rw [hW]; exact (bw_alloc (Below.refl _ _) _)
  have HB := hid (bw_step HB.out hbb)
  have Pa : Hid (Blk W (w.heap.size) 24 #[.bool sa, .slice Aa na ca]) := by
    rw [hW]
    have := Blk.new w 24 #[.bool sa, .slice Aa na ca]
    exact hid (by simpa only [World.size_alloc] using this)
  clear hbb
  obtain ⟨k1, l1, f1, g1⟩ := id Pa.out.bx
  go_enter Try.func10, Try.ntmps10
  go_wp2_with fail
  rw [← hW]
  clear hW
  refine (long_any _ sa Aa na ca).mono ?_
  rintro e W2 ⟨he, hb2⟩
  rw [hda] at he
  subst he
  clear k1 l1 f1 g1
  have HB := hid (bw_step HB.out hb2)
  have Pa := hid (Pa.out.below hb2)
  clear hb2
  go_wp2_with fail
  refine (awake_any _).mono ?_
  rintro e W3 ⟨rfl, hb3⟩
  have HB := hid (bw_step HB.out hb3)
  have Pa := hid (Pa.out.below hb3)
  clear hb3
  go_wp2
  go_ret
  exact ⟨rfl, HB.out⟩
set_option maxHeartbeats 8000000 in
theorem integerRoundTrip_short (w : World) (sa : Bool) (Aa : Option Addr) (na ca : Nat) (ha : na ≤ 40) (za : Int) (fa : IntA w (.agg #[.bool sa, .slice Aa na ca]) za 40) :
    Calls Try.prog 10 #[.agg #[.bool sa, .slice Aa na ca]] w fun e w' => e = .returned (.bool true) ∧ Below w.heap.size w w' := by
  have hda : decide ((40 : Int) < (na : Int)) = false := by rw [decide_eq_false_iff_not]; omega
  have Fa := hid fa
  clear fa
  have HB := hid (Below.refl w.heap.size w)
  obtain ⟨W, hW⟩ : ∃ W, W = (w.alloc (.cells #[.bool sa, .slice Aa na ca] 24)) := ⟨_, rfl⟩
  have hbb : Below w.heap.size w W := by rw [hW]; exact (bw_alloc (Below.refl _ _) _)
  have HB := hid (bw_step HB.out hbb)
  have Fa := hid (Fa.out.below hbb)
  have Pa : Hid (Blk W (w.heap.size) 24 #[.bool sa, .slice Aa na ca]) := by
    rw [hW]
    have := Blk.new w 24 #[.bool sa, .slice Aa na ca]
    exact hid (by simpa only [World.size_alloc] using this)
  clear hbb
  obtain ⟨k1, l1, f1, g1⟩ := id Pa.out.bx
  go_enter Try.func10, Try.ntmps10
  go_wp2_with fail
  rw [← hW]
  clear hW
  refine (long_any _ sa Aa na ca).mono ?_
  rintro e W2 ⟨he, hb2⟩
  rw [hda] at he
  subst he
  clear k1 l1 f1 g1
  have HB := hid (bw_step HB.out hb2)
  have Fa := hid (Fa.out.below hb2)
  have Pa := hid (Pa.out.below hb2)
  clear hb2
  obtain ⟨k3, l3, f3, g3⟩ := id Pa.out.bx
  go_wp2_with fail
  refine (format_any _ _ za 40 Fa.out (by decide)).mono ?_
  rintro e W4 ⟨rfl, hb4⟩
  clear k3 l3 f3 g3
  have HB := hid (bw_step HB.out hb4)
  have Fa := hid (Fa.out.below hb4)
  have Pa := hid (Pa.out.below hb4)
  clear hb4
  obtain ⟨tx, htx⟩ : ∃ tx : ByteArray, tx = ⟨(text za).toArray⟩ := ⟨_, rfl⟩
  rw [← htx]
  have TX := hid htx
  clear htx
  go_wp2_with fail
  refine (parse_text _ tx za 40 TX.out Fa.out.sm (by decide)).mono ?_
  rintro e W5 ⟨⟨v, rfl, hv⟩, hb5⟩
  have HB := hid (bw_step HB.out hb5)
  have Fa := hid (Fa.out.below hb5)
  have Pa := hid (Pa.out.below hb5)
  clear hb5
  obtain ⟨q51, A51, n51, c51, rfl⟩ := hv.form
  have b := hid hv
  clear hv
  have hbb := bw_alloc (Below.refl _ W5) (.cells #[.bool q51, .slice A51 n51 c51] 24)
  have Xb := Blk.new W5 24 #[.bool q51, .slice A51 n51 c51]
  have HB := hid (bw_step HB.out hbb)
  have Fa := hid (Fa.out.below hbb)
  have Pa := hid (Pa.out.below hbb)
  have b := hid (b.out.below hbb)
  have Xb := hid Xb
  clear hbb
  have SM6 : Hid (Sm 40 za) := hid ((Fa.out.sm))
  obtain ⟨k9, l9, f9, g9⟩ := id Xb.out.bx
  obtain ⟨k10, l10, f10, g10⟩ := id Pa.out.bx
  go_wp2_with fail
  go_region_held3 (fun w' => w'.cell? ⟨W5.heap.size, 0, none⟩ = some (.bool q51) ∧ w'.cell? ⟨W5.heap.size, 1, none⟩ = some (.slice A51 n51 c51) ∧ w'.cell? ⟨w.heap.size, 0, none⟩ = some (.bool sa) ∧ w'.cell? ⟨w.heap.size, 1, none⟩ = some (.slice Aa na ca) ∧ Hid (Below (W5.alloc (.cells #[.bool q51, .slice A51 n51 c51] 24)).heap.size (W5.alloc (.cells #[.bool q51, .slice A51 n51 c51] 24)) w'))
    (first
      | exact ⟨k9, l9, k10, l10, bw_drew _⟩
      | (go_split_ands; have hh := bw_keep (by assumption) (by assumption); exact ⟨cell_below hh k9, cell_below hh l9, cell_below hh k10, cell_below hh l10, hh⟩)
      | (go_split_ands; exact ⟨by assumption, by assumption, by assumption, by assumption, below_drewN (Hid.out (by assumption)) _⟩))
    (first
      | (go_at_call 33; (with_reducible refine (rnormalize_any _ (.agg #[.bool sa, .slice Aa na ca]) (za) 40 ?g6_0 ).mono ?_); (case g6_0 => (first | (go_split_ands; exact Fa.out.below (Hid.out (by assumption))) | exact Fa.out.below (bw_drew _).out)); rintro e w6 ⟨⟨v6, rfl, hv6⟩, hb6⟩)
      | (go_at_call 13; (with_reducible refine (rsame_any _ (.agg #[.bool q51, .slice A51 n51 c51]) (v6) (za) (za) ?g7_0 ?g7_1).mono ?_); (case g7_0 => (first | (go_split_ands; exact b.out.below (Hid.out (by assumption))) | exact b.out.below (bw_drew _).out)); (case g7_1 => (exact hv6)); rintro e w7 ⟨he, hb7⟩; rw [decide_eq_true rfl] at he; subst he)
      | (go_at_call 12; (with_reducible refine (awake_any _).mono ?_); rintro e w8 ⟨rfl, hb8⟩))
  rename_i hH
  have HW := hid hH.2.2.2.2.out
  clear hH
  clear k9 l9 f9 g9 k10 l10 f10 g10
  have HB := hid (bw_step HB.out HW.out)
  have Fa := hid (Fa.out.below HW.out)
  have Pa := hid (Pa.out.below HW.out)
  have b := hid (b.out.below HW.out)
  have Xb := hid (Xb.out.below HW.out)
  clear HW
  go_wp2
  go_ret
  exact ⟨rfl, HB.out⟩
theorem integerRoundTrip_walk (w : World) (va : Value) (ha : ArgI w va) :
    Calls Try.prog 10 #[va] w fun e w' => e = .returned (.bool true) ∧ Below w.heap.size w w' := by
  obtain ⟨sa, Aa, na, ca, rfl, _, _⟩ := id ha
  rcases ha.short 40 (by decide) with ka | ⟨ka, za, fa⟩
  · exact integerRoundTrip_long0 w sa Aa na ca ka
  exact integerRoundTrip_short w sa Aa na ca ka za fa
end Go.Proofs.Ytnjekacagffelaa
