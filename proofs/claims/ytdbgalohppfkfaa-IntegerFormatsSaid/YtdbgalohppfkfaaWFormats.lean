/- The law IntegerFormats: its walk. -/
import Derived.Test.YtdbgalohppfkfaaAwake
import Derived.Test.YtdbgalohppfkfaaFormat
import Derived.Test.YtdbgalohppfkfaaRFormat
import Derived.Test.YtdbgalohppfkfaaArg
namespace Go.Proofs.Ytdbgalohppfkfaa
open Go.RowKit
set_option linter.unusedVariables false
set_option maxRecDepth 100000

theorem format_tx (w : World) (v : Value) (a : Int) (n : Nat) (tx : ByteArray) (htx : tx = ⟨(text a).toArray⟩) (ha : IntA w v a n) (hn : n ≤ 68719476736) :
    Calls Try.prog 38 #[v] w fun e w' => e = .returned (.string tx) ∧ Below w.heap.size w w' := by rw [htx]; exact format_any w v a n ha hn
theorem rformat_tx (w : World) (v : Value) (a : Int) (n : Nat) (tx : ByteArray) (htx : tx = ⟨(text a).toArray⟩) (ha : IntA w v a n) (hn : n ≤ 1000000) :
    Calls Try.prog 39 #[v] w fun e w' => e = .returned (.string tx) ∧ Below w.heap.size w w' := by rw [htx]; exact rformat_any w v a n hn ha

theorem integerFormats_long0 (w : World) (sa : Bool) (Aa : Option Addr) (na ca : Nat)  (ha : 40 < na) :
    Calls Try.prog 11 #[.agg #[.bool sa, .slice Aa na ca]] w fun e w' => e = .returned (.bool true) ∧ Below w.heap.size w w' := by
  have hda : decide ((40 : Int) < (na : Int)) = true := by rw [decide_eq_true_eq]; omega
  have HB := hid (Below.refl w.heap.size w)
  obtain ⟨W, hW⟩ : ∃ W, W = (w.alloc (.cells #[.bool sa, .slice Aa na ca] 24)) := ⟨_, rfl⟩
  have hbb : Below w.heap.size w W := by rw [hW]; exact (bw_alloc (Below.refl _ _) _)
  have HB := hid (bw_step HB.out hbb)
  have Pa : Hid (Blk W (w.heap.size) 24 #[.bool sa, .slice Aa na ca]) := by
    rw [hW]
    have := Blk.new w 24 #[.bool sa, .slice Aa na ca]
    exact hid (by simpa only [World.size_alloc] using this)
  clear hbb
  obtain ⟨k1, l1, f1, g1⟩ := id Pa.out.bx
  go_enter Try.func11, Try.ntmps11
  go_wp2_with fail
  rw [← hW]
  clear hW
  refine (long_any _ sa Aa na ca).mono ?_
  rintro e W2 ⟨he, hb2⟩
  rw [hda] at he
  subst he
  clear k1 l1 f1 g1
  have HB := hid (bw_step HB.out hb2)
  have Pa := hid (Pa.out.below hb2)
  clear hb2
  go_wp2_with fail
  refine (awake_any _).mono ?_
  rintro e W3 ⟨rfl, hb3⟩
  have HB := hid (bw_step HB.out hb3)
  have Pa := hid (Pa.out.below hb3)
  clear hb3
  go_wp2
  go_ret
  exact ⟨rfl, HB.out⟩
set_option maxHeartbeats 8000000 in
theorem integerFormats_short (w : World) (sa : Bool) (Aa : Option Addr) (na ca : Nat) (ha : na ≤ 40) (za : Int) (fa : IntA w (.agg #[.bool sa, .slice Aa na ca]) za 40) :
    Calls Try.prog 11 #[.agg #[.bool sa, .slice Aa na ca]] w fun e w' => e = .returned (.bool true) ∧ Below w.heap.size w w' := by
  have hda : decide ((40 : Int) < (na : Int)) = false := by rw [decide_eq_false_iff_not]; omega
  have Fa := hid fa
  clear fa
  have HB := hid (Below.refl w.heap.size w)
  obtain ⟨W, hW⟩ : ∃ W, W = (w.alloc (.cells #[.bool sa, .slice Aa na ca] 24)) := ⟨_, rfl⟩
  have hbb : Below w.heap.size w W := by rw [hW]; exact (bw_alloc (Below.refl _ _) _)
  have HB := hid (bw_step HB.out hbb)
  have Fa := hid (Fa.out.below hbb)
  have Pa : Hid (Blk W (w.heap.size) 24 #[.bool sa, .slice Aa na ca]) := by
    rw [hW]
    have := Blk.new w 24 #[.bool sa, .slice Aa na ca]
    exact hid (by simpa only [World.size_alloc] using this)
  clear hbb
  obtain ⟨k1, l1, f1, g1⟩ := id Pa.out.bx
  go_enter Try.func11, Try.ntmps11
  go_wp2_with fail
  rw [← hW]
  clear hW
  refine (long_any _ sa Aa na ca).mono ?_
  rintro e W2 ⟨he, hb2⟩
  rw [hda] at he
  subst he
  clear k1 l1 f1 g1
  have HB := hid (bw_step HB.out hb2)
  have Fa := hid (Fa.out.below hb2)
  have Pa := hid (Pa.out.below hb2)
  clear hb2
  obtain ⟨tx, htx⟩ : ∃ tx : ByteArray, tx = ⟨(text za).toArray⟩ := ⟨_, rfl⟩
  have TX := hid htx
  clear htx
  have hb0 : (tx.toList == tx.toList) = true := beq_self_eq_true tx.toList
  obtain ⟨k6, l6, f6, g6⟩ := id Pa.out.bx
  go_wp2_with fail
  go_region_held3 (fun w' => w'.cell? ⟨w.heap.size, 0, none⟩ = some (.bool sa) ∧ w'.cell? ⟨w.heap.size, 1, none⟩ = some (.slice Aa na ca) ∧ Hid (Below W2.heap.size W2 w'))
    (first
      | exact ⟨k6, l6, bw_drew _⟩
      | (go_split_ands; have hh := bw_keep (by assumption) (by assumption); exact ⟨cell_below hh k6, cell_below hh l6, hh⟩)
      | (go_split_ands; exact ⟨by assumption, by assumption, below_drewN (Hid.out (by assumption)) _⟩))
    (first
      | (go_at_call 38; (with_reducible refine (format_tx _ (.agg #[.bool sa, .slice Aa na ca]) za 40 tx TX.out ?g3_0 (by decide)).mono ?_); (case g3_0 => (first | (go_split_ands; exact Fa.out.below (Hid.out (by assumption))) | exact Fa.out.below (bw_drew _).out)); rintro e w3 ⟨rfl, hb3⟩)
      | (go_at_call 39; (with_reducible refine (rformat_tx _ (.agg #[.bool sa, .slice Aa na ca]) za 40 tx TX.out ?g4_0 (by decide)).mono ?_); (case g4_0 => (first | (go_split_ands; exact Fa.out.below (Hid.out (by assumption))) | exact Fa.out.below (bw_drew _).out)); rintro e w4 ⟨rfl, hb4⟩)
      | (go_at_call 20; (with_reducible refine (awake_any _).mono ?_); rintro e w5 ⟨rfl, hb5⟩))
  rename_i hH
  have HW := hid hH.2.2.out
  clear hH
  clear k6 l6 f6 g6
  have HB := hid (bw_step HB.out HW.out)
  have Fa := hid (Fa.out.below HW.out)
  have Pa := hid (Pa.out.below HW.out)
  clear HW
  go_wp2
  go_ret
  exact ⟨rfl, HB.out⟩
theorem integerFormats_walk (w : World) (va : Value) (ha : ArgI w va) :
    Calls Try.prog 11 #[va] w fun e w' => e = .returned (.bool true) ∧ Below w.heap.size w w' := by
  obtain ⟨sa, Aa, na, ca, rfl, _, _⟩ := id ha
  rcases ha.short 40 (by decide) with ka | ⟨ka, za, fa⟩
  · exact integerFormats_long0 w sa Aa na ca ka
  exact integerFormats_short w sa Aa na ca ka za fa
end Go.Proofs.Ytdbgalohppfkfaa
