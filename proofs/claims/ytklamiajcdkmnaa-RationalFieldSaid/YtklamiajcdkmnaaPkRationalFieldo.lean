/- A part of the proof of the laws of rationals: WRField. -/
import Derived.Test.YtklamiajcdkmnaaPae
import Derived.Test.YtklamiajcdkmnaaPam
import Derived.Test.YtklamiajcdkmnaaPaBc
import Derived.Test.YtklamiajcdkmnaaPaBd
import Derived.Test.YtklamiajcdkmnaaPaBb
import Derived.Test.YtklamiajcdkmnaaPkRationalFieldh
import Derived.Test.YtklamiajcdkmnaaPal
import Derived.Test.YtklamiajcdkmnaaPab
import Derived.Test.YtklamiajcdkmnaaPaf
import Derived.Test.YtklamiajcdkmnaaPad
import Derived.Test.YtklamiajcdkmnaaPkRationalFieldb
import Derived.Test.YtklamiajcdkmnaaPac
import Derived.Test.YtklamiajcdkmnaaPav
import Derived.Test.YtklamiajcdkmnaaPay
import Derived.Test.YtklamiajcdkmnaaPao
import Derived.Test.YtklamiajcdkmnaaPat
import Derived.Test.YtklamiajcdkmnaaPkRationalFielda
import Derived.Test.YtklamiajcdkmnaaPaa
import Derived.Test.YtklamiajcdkmnaaPan
import Derived.Test.YtklamiajcdkmnaaPai
import Derived.Test.YtklamiajcdkmnaaPah
import Derived.Test.YtklamiajcdkmnaaPag
import Derived.Test.YtklamiajcdkmnaaPkRationalFieldc
import Derived.Test.YtklamiajcdkmnaaPaj
import Derived.Test.YtklamiajcdkmnaaPax
import Derived.Test.YtklamiajcdkmnaaPap
import Derived.Test.YtklamiajcdkmnaaPas
import Derived.Test.YtklamiajcdkmnaaPkRationalFieldf
import Derived.Test.YtklamiajcdkmnaaPkRationalFielde
import Derived.Test.YtklamiajcdkmnaaPkRationalFieldg
import Derived.Test.YtklamiajcdkmnaaPkRationalFieldd
import Derived.Test.YtklamiajcdkmnaaPkRationalFieldl
import Derived.Test.YtklamiajcdkmnaaPkRationalFieldj
import Derived.Test.YtklamiajcdkmnaaPau
import Derived.Test.YtklamiajcdkmnaaPkRationalFieldi
import Derived.Test.YtklamiajcdkmnaaPar
import Derived.Test.YtklamiajcdkmnaaPaw
import Derived.Test.YtklamiajcdkmnaaPaBa
import Derived.Test.YtklamiajcdkmnaaPaq
import Derived.Test.YtklamiajcdkmnaaPkRationalFieldn
import Derived.Test.YtklamiajcdkmnaaPkRationalFieldk
import Derived.Test.YtklamiajcdkmnaaPak
import Derived.Test.YtklamiajcdkmnaaPaz
namespace Go.Proofs.Ytklamiajcdkmnaa
open Go.RowKit
set_option linter.unusedVariables false
set_option maxRecDepth 100000

theorem cm_zero_rat {r : Rat} (h : r = 0) : cm r.num 0 = 0 := by rw [h]; rfl
theorem fld1 (x y z : Rat) : cm (x * (y + z) - (x * y + x * z)).num 0 = 0 := by
  apply cm_zero_rat; rw [Rat.mul_add]; grind
theorem fld2 (x y z : Rat) : cm (x + z - (y + z)).num 0 = cm (x - y).num 0 := by
  have h : x + z - (y + z) = x - y := by grind
  rw [h]
theorem cm_z {z : Rat} (h : z = 0) : cm z.num 0 = 0 := cm_zero_rat h
theorem num_pos' {z : Rat} (h : 0 < z) : 0 < z.num := by
  have h1 := Rat.num_nonneg.2 (Rat.le_of_lt h)
  rcases Int.lt_trichotomy z.num 0 with h2 | h2 | h2
  · omega
  · rw [Rat.num_eq_zero] at h2; rw [h2] at h; exact absurd h (by decide)
  · exact h2
theorem cm_p {z : Rat} (h : 0 < z) : cm z.num 0 = 1 := cm_gt (num_pos' h)
theorem cm_n {z : Rat} (h0 : z ≠ 0) (h : ¬ 0 < z) : cm z.num 0 = -1 := by
  have h1 : ¬ 0 ≤ z.num := fun h2 => by
    have h3 := Rat.num_nonneg.1 h2
    exact h0 (Rat.le_antisymm (Rat.not_lt.1 h) h3)
  exact cm_lt (by omega)
theorem cm_neg' {z : Rat} (h : z < 0) : cm z.num 0 = -1 := cm_n (by grind) (by grind)
theorem fld3 (x y : Rat) {z : Rat} (hz : 0 < z) : cm (x * z - y * z).num 0 = cm (x - y).num 0 := by
  have e : x * z - y * z = (x - y) * z := by grind
  rw [e]
  generalize x - y = u
  by_cases h0 : u = 0
  · rw [h0, Rat.zero_mul]
  · by_cases h1 : 0 < u
    · rw [cm_p h1, cm_p (Rat.mul_pos h1 hz)]
    · have h2 : 0 < -u := by grind
      have h3 := Rat.mul_pos h2 hz
      rw [cm_n h0 h1, cm_neg' (by grind)]
theorem fld4 (x : Rat) {z : Rat} (hz : z ≠ 0) : cm (x / z * z - x).num 0 = 0 := by
  apply cm_zero_rat
  rw [Rat.div_mul_cancel hz]
  grind

set_option maxHeartbeats 4000000 in
theorem rationalField_long (w : World) (sa1 : Bool) (Aa1 : Option Addr) (na1 ca1 : Nat) (sa2 : Bool) (Aa2 : Option Addr) (na2 ca2 : Nat) (sb1 : Bool) (Ab1 : Option Addr) (nb1 cb1 : Nat) (sb2 : Bool) (Ab2 : Option Addr) (nb2 cb2 : Nat) (sc1 : Bool) (Ac1 : Option Addr) (nc1 cc1 : Nat) (sc2 : Bool) (Ac2 : Option Addr) (nc2 cc2 : Nat) (hl : 8 < na1 ∨ 8 < na2 ∨ 8 < nb1 ∨ 8 < nb2 ∨ 8 < nc1 ∨ 8 < nc2) :
    Calls Try.prog 4 #[.agg #[.bool sa1, .slice Aa1 na1 ca1, .bool sa2, .slice Aa2 na2 ca2], .agg #[.bool sb1, .slice Ab1 nb1 cb1, .bool sb2, .slice Ab2 nb2 cb2], .agg #[.bool sc1, .slice Ac1 nc1 cc1, .bool sc2, .slice Ac2 nc2 cc2]] w fun e w' => e = .returned (.bool true) ∧ Below w.heap.size w w' := by
  have HL := hid hl
  clear hl
  have HB := hid (Below.refl w.heap.size w)
  obtain ⟨W, hW⟩ : ∃ W, W = (((w.alloc (.cells #[.bool sa1, .slice Aa1 na1 ca1, .bool sa2, .slice Aa2 na2 ca2] 26)).alloc (.cells #[.bool sb1, .slice Ab1 nb1 cb1, .bool sb2, .slice Ab2 nb2 cb2] 26)).alloc (.cells #[.bool sc1, .slice Ac1 nc1 cc1, .bool sc2, .slice Ac2 nc2 cc2] 26)) := ⟨_, rfl⟩
  have hbb : Below w.heap.size w W := by rw [hW]; exact (bw_alloc (bw_alloc (bw_alloc (Below.refl _ _) _) _) _)
  have HB := hid (bw_step HB.out hbb)
  have Pa : Hid (Blk W (w.heap.size) 26 #[.bool sa1, .slice Aa1 na1 ca1, .bool sa2, .slice Aa2 na2 ca2]) := by
    rw [hW]
    have := ((Blk.new w 26 #[.bool sa1, .slice Aa1 na1 ca1, .bool sa2, .slice Aa2 na2 ca2]).below (bw_alloc (Below.refl _ _) (.cells #[.bool sb1, .slice Ab1 nb1 cb1, .bool sb2, .slice Ab2 nb2 cb2] 26))).below (bw_alloc (Below.refl _ _) (.cells #[.bool sc1, .slice Ac1 nc1 cc1, .bool sc2, .slice Ac2 nc2 cc2] 26))
    exact hid (by simpa only [World.size_alloc] using this)
  have Pb : Hid (Blk W (w.heap.size + 1) 26 #[.bool sb1, .slice Ab1 nb1 cb1, .bool sb2, .slice Ab2 nb2 cb2]) := by
    rw [hW]
    have := (Blk.new (w.alloc (.cells #[.bool sa1, .slice Aa1 na1 ca1, .bool sa2, .slice Aa2 na2 ca2] 26)) 26 #[.bool sb1, .slice Ab1 nb1 cb1, .bool sb2, .slice Ab2 nb2 cb2]).below (bw_alloc (Below.refl _ _) (.cells #[.bool sc1, .slice Ac1 nc1 cc1, .bool sc2, .slice Ac2 nc2 cc2] 26))
    exact hid (by simpa only [World.size_alloc] using this)
  have Pc : Hid (Blk W (w.heap.size + 1 + 1) 26 #[.bool sc1, .slice Ac1 nc1 cc1, .bool sc2, .slice Ac2 nc2 cc2]) := by
    rw [hW]
    have := Blk.new ((w.alloc (.cells #[.bool sa1, .slice Aa1 na1 ca1, .bool sa2, .slice Aa2 na2 ca2] 26)).alloc (.cells #[.bool sb1, .slice Ab1 nb1 cb1, .bool sb2, .slice Ab2 nb2 cb2] 26)) 26 #[.bool sc1, .slice Ac1 nc1 cc1, .bool sc2, .slice Ac2 nc2 cc2]
    exact hid (by simpa only [World.size_alloc] using this)
  clear hbb
  have HWs := hid (show W.heap.size = w.heap.size + 1 + 1 + 1 by rw [hW]; simp)
  have ua0 := Pa.out.cell 0
  have ua1 := Pa.out.cell 1
  have ua2 := Pa.out.cell 2
  have ua3 := Pa.out.cell 3
  have ub0 := Pb.out.cell 0
  have ub1 := Pb.out.cell 1
  have ub2 := Pb.out.cell 2
  have ub3 := Pb.out.cell 3
  have uc0 := Pc.out.cell 0
  have uc1 := Pc.out.cell 1
  have uc2 := Pc.out.cell 2
  have uc3 := Pc.out.cell 3
  go_enter Try.func4, Try.ntmps4
  go_wp2_with fail
  rw [← hW]
  clear hW
  have hbb := bw_alloc (Below.refl _ W) (.cells #[.bool sa1, .slice Aa1 na1 ca1, .bool sa2, .slice Aa2 na2 ca2, .bool sb1, .slice Ab1 nb1 cb1, .bool sb2, .slice Ab2 nb2 cb2, .bool sc1, .slice Ac1 nc1 cc1, .bool sc2, .slice Ac2 nc2 cc2] 26)
  have XL := Blk.new W 26 #[.bool sa1, .slice Aa1 na1 ca1, .bool sa2, .slice Aa2 na2 ca2, .bool sb1, .slice Ab1 nb1 cb1, .bool sb2, .slice Ab2 nb2 cb2, .bool sc1, .slice Ac1 nc1 cc1, .bool sc2, .slice Ac2 nc2 cc2]
  rw [HWs.out] at XL
  have HB := hid (bw_step HB.out hbb)
  have Pa := hid (Pa.out.below hbb)
  have Pb := hid (Pb.out.below hbb)
  have Pc := hid (Pc.out.below hbb)
  clear hbb
  refine (long3 _ _ sa1 Aa1 na1 ca1 sa2 Aa2 na2 ca2 sb1 Ab1 nb1 cb1 sb2 Ab2 nb2 cb2 sc1 Ac1 nc1 cc1 sc2 Ac2 nc2 cc2 XL true ⟨fun _ => HL.out, fun _ => rfl⟩).mono ?_
  rintro e W1 ⟨rfl, hb1⟩
  clear XL
  have HB := hid (bw_step HB.out hb1)
  have Pa := hid (Pa.out.below hb1)
  have Pb := hid (Pb.out.below hb1)
  have Pc := hid (Pc.out.below hb1)
  clear hb1
  clear ua0 ua1 ua2 ua3 ub0 ub1 ub2 ub3 uc0 uc1 uc2 uc3
  go_wp2_with fail
  refine (awakeR_any _).mono ?_
  rintro e W2 ⟨rfl, hb2⟩
  have HB := hid (bw_step HB.out hb2)
  have Pa := hid (Pa.out.below hb2)
  have Pb := hid (Pb.out.below hb2)
  have Pc := hid (Pc.out.below hb2)
  clear hb2
  go_wp2
  go_ret
  exact ⟨rfl, HB.out⟩
set_option maxHeartbeats 16000000 in
theorem rationalField_short (w : World) (sa1 : Bool) (Aa1 : Option Addr) (na1 ca1 : Nat) (sa2 : Bool) (Aa2 : Option Addr) (na2 ca2 : Nat) (sb1 : Bool) (Ab1 : Option Addr) (nb1 cb1 : Nat) (sb2 : Bool) (Ab2 : Option Addr) (nb2 cb2 : Nat) (sc1 : Bool) (Ac1 : Option Addr) (nc1 cc1 : Nat) (sc2 : Bool) (Ac2 : Option Addr) (nc2 cc2 : Nat) (laa : na1 ≤ 8 ∧ na2 ≤ 8) (pa qa : Int) (fa1 : IntA w (.agg #[.bool sa1, .slice Aa1 na1 ca1]) pa 8) (fa2 : IntA w (.agg #[.bool sa2, .slice Aa2 na2 ca2]) qa 8) (lab : nb1 ≤ 8 ∧ nb2 ≤ 8) (pb qb : Int) (fb1 : IntA w (.agg #[.bool sb1, .slice Ab1 nb1 cb1]) pb 8) (fb2 : IntA w (.agg #[.bool sb2, .slice Ab2 nb2 cb2]) qb 8) (lac : nc1 ≤ 8 ∧ nc2 ≤ 8) (pc qc : Int) (fc1 : IntA w (.agg #[.bool sc1, .slice Ac1 nc1 cc1]) pc 8) (fc2 : IntA w (.agg #[.bool sc2, .slice Ac2 nc2 cc2]) qc 8) :
    Calls Try.prog 4 #[.agg #[.bool sa1, .slice Aa1 na1 ca1, .bool sa2, .slice Aa2 na2 ca2], .agg #[.bool sb1, .slice Ab1 nb1 cb1, .bool sb2, .slice Ab2 nb2 cb2], .agg #[.bool sc1, .slice Ac1 nc1 cc1, .bool sc2, .slice Ac2 nc2 cc2]] w fun e w' => e = .returned (.bool true) ∧ Below w.heap.size w w' := by
  have LAc := hid lac
  clear lac
  have LAb := hid lab
  clear lab
  have LAa := hid laa
  clear laa
  have Fa1 := hid fa1
  have Sa1 := hid fa1.sm
  have Fa2 := hid fa2
  have Sa2 := hid fa2.sm
  clear fa1 fa2
  have Fb1 := hid fb1
  have Sb1 := hid fb1.sm
  have Fb2 := hid fb2
  have Sb2 := hid fb2.sm
  clear fb1 fb2
  have Fc1 := hid fc1
  have Sc1 := hid fc1.sm
  have Fc2 := hid fc2
  have Sc2 := hid fc2.sm
  clear fc1 fc2
  have HB := hid (Below.refl w.heap.size w)
  obtain ⟨W, hW⟩ : ∃ W, W = (((w.alloc (.cells #[.bool sa1, .slice Aa1 na1 ca1, .bool sa2, .slice Aa2 na2 ca2] 26)).alloc (.cells #[.bool sb1, .slice Ab1 nb1 cb1, .bool sb2, .slice Ab2 nb2 cb2] 26)).alloc (.cells #[.bool sc1, .slice Ac1 nc1 cc1, .bool sc2, .slice Ac2 nc2 cc2] 26)) := ⟨_, rfl⟩
  have hbb : Below w.heap.size w W := by rw [hW]; exact (bw_alloc (bw_alloc (bw_alloc (Below.refl _ _) _) _) _)
  have HB := hid (bw_step HB.out hbb)
  have Fa1 := hid (Fa1.out.below hbb)
  have Fa2 := hid (Fa2.out.below hbb)
  have Fb1 := hid (Fb1.out.below hbb)
  have Fb2 := hid (Fb2.out.below hbb)
  have Fc1 := hid (Fc1.out.below hbb)
  have Fc2 := hid (Fc2.out.below hbb)
  have Pa : Hid (Blk W (w.heap.size) 26 #[.bool sa1, .slice Aa1 na1 ca1, .bool sa2, .slice Aa2 na2 ca2]) := by
    rw [hW]
    have := ((Blk.new w 26 #[.bool sa1, .slice Aa1 na1 ca1, .bool sa2, .slice Aa2 na2 ca2]).below (bw_alloc (Below.refl _ _) (.cells #[.bool sb1, .slice Ab1 nb1 cb1, .bool sb2, .slice Ab2 nb2 cb2] 26))).below (bw_alloc (Below.refl _ _) (.cells #[.bool sc1, .slice Ac1 nc1 cc1, .bool sc2, .slice Ac2 nc2 cc2] 26))
    exact hid (by simpa only [World.size_alloc] using this)
  have Pb : Hid (Blk W (w.heap.size + 1) 26 #[.bool sb1, .slice Ab1 nb1 cb1, .bool sb2, .slice Ab2 nb2 cb2]) := by
    rw [hW]
    have := (Blk.new (w.alloc (.cells #[.bool sa1, .slice Aa1 na1 ca1, .bool sa2, .slice Aa2 na2 ca2] 26)) 26 #[.bool sb1, .slice Ab1 nb1 cb1, .bool sb2, .slice Ab2 nb2 cb2]).below (bw_alloc (Below.refl _ _) (.cells #[.bool sc1, .slice Ac1 nc1 cc1, .bool sc2, .slice Ac2 nc2 cc2] 26))
    exact hid (by simpa only [World.size_alloc] using this)
  have Pc : Hid (Blk W (w.heap.size + 1 + 1) 26 #[.bool sc1, .slice Ac1 nc1 cc1, .bool sc2, .slice Ac2 nc2 cc2]) := by
    rw [hW]
    have := Blk.new ((w.alloc (.cells #[.bool sa1, .slice Aa1 na1 ca1, .bool sa2, .slice Aa2 na2 ca2] 26)).alloc (.cells #[.bool sb1, .slice Ab1 nb1 cb1, .bool sb2, .slice Ab2 nb2 cb2] 26)) 26 #[.bool sc1, .slice Ac1 nc1 cc1, .bool sc2, .slice Ac2 nc2 cc2]
    exact hid (by simpa only [World.size_alloc] using this)
  clear hbb
  have HWs := hid (show W.heap.size = w.heap.size + 1 + 1 + 1 by rw [hW]; simp)
  have ua0 := Pa.out.cell 0
  have ua1 := Pa.out.cell 1
  have ua2 := Pa.out.cell 2
  have ua3 := Pa.out.cell 3
  have ub0 := Pb.out.cell 0
  have ub1 := Pb.out.cell 1
  have ub2 := Pb.out.cell 2
  have ub3 := Pb.out.cell 3
  have uc0 := Pc.out.cell 0
  have uc1 := Pc.out.cell 1
  have uc2 := Pc.out.cell 2
  have uc3 := Pc.out.cell 3
  go_enter Try.func4, Try.ntmps4
  go_wp2_with fail
  rw [← hW]
  clear hW
  have hbb := bw_alloc (Below.refl _ W) (.cells #[.bool sa1, .slice Aa1 na1 ca1, .bool sa2, .slice Aa2 na2 ca2, .bool sb1, .slice Ab1 nb1 cb1, .bool sb2, .slice Ab2 nb2 cb2, .bool sc1, .slice Ac1 nc1 cc1, .bool sc2, .slice Ac2 nc2 cc2] 26)
  have XL := Blk.new W 26 #[.bool sa1, .slice Aa1 na1 ca1, .bool sa2, .slice Aa2 na2 ca2, .bool sb1, .slice Ab1 nb1 cb1, .bool sb2, .slice Ab2 nb2 cb2, .bool sc1, .slice Ac1 nc1 cc1, .bool sc2, .slice Ac2 nc2 cc2]
  rw [HWs.out] at XL
  have HB := hid (bw_step HB.out hbb)
  have Fa1 := hid (Fa1.out.below hbb)
  have Fa2 := hid (Fa2.out.below hbb)
  have Fb1 := hid (Fb1.out.below hbb)
  have Fb2 := hid (Fb2.out.below hbb)
  have Fc1 := hid (Fc1.out.below hbb)
  have Fc2 := hid (Fc2.out.below hbb)
  have Pa := hid (Pa.out.below hbb)
  have Pb := hid (Pb.out.below hbb)
  have Pc := hid (Pc.out.below hbb)
  clear hbb
  refine (long3 _ _ sa1 Aa1 na1 ca1 sa2 Aa2 na2 ca2 sb1 Ab1 nb1 cb1 sb2 Ab2 nb2 cb2 sc1 Ac1 nc1 cc1 sc2 Ac2 nc2 cc2 XL false ⟨fun h => absurd h (by decide), fun h => by have := LAa.out; have := LAb.out; have := LAc.out; omega⟩).mono ?_
  rintro e W1 ⟨rfl, hb1⟩
  clear XL
  have HB := hid (bw_step HB.out hb1)
  have Fa1 := hid (Fa1.out.below hb1)
  have Fa2 := hid (Fa2.out.below hb1)
  have Fb1 := hid (Fb1.out.below hb1)
  have Fb2 := hid (Fb2.out.below hb1)
  have Fc1 := hid (Fc1.out.below hb1)
  have Fc2 := hid (Fc2.out.below hb1)
  have Pa := hid (Pa.out.below hb1)
  have Pb := hid (Pb.out.below hb1)
  have Pc := hid (Pc.out.below hb1)
  clear hb1
  clear ua0 ua1 ua2 ua3 ub0 ub1 ub2 ub3 uc0 uc1 uc2 uc3
  have E1 := hid (fld1 (Rat.divInt pa qa) (Rat.divInt pb qb) (Rat.divInt pc qc))
  have E2 := hid (fld2 (Rat.divInt pa qa) (Rat.divInt pb qb) (Rat.divInt pc qc))
  have hs : cm (Rat.divInt pc qc).num 0 = cm (Rat.divInt pc qc).num 0 := rfl
  clear hs
  go_wp2_with fail
  have RS2 : Hid (RS 17 ((Rat.divInt pb qb) + (Rat.divInt pc qc))) := hid ((RS.of (Sb1.out) (Sb2.out) (by omega)).add (RS.of (Sc1.out) (Sc2.out) (by omega)) (by omega))
  have RS3 : Hid (RS 34 ((Rat.divInt pa qa) * ((Rat.divInt pb qb) + (Rat.divInt pc qc)))) := hid ((RS.of (Sa1.out) (Sa2.out) (by omega)).mul (RS2.out) (by omega))
  have lt3_Pa := Pa.out.lt
  have lt3_Pb := Pb.out.lt
  have lt3_Pc := Pc.out.lt
  refine wp_region_each (by kernel_rfl) 7 88 rfl rfl (by kernel_rfl)
    [Fact.eq (.agg #[.bool sa1, .slice Aa1 na1 ca1, .bool sa2, .slice Aa2 na2 ca2]), Fact.eq (.agg #[.bool sb1, .slice Ab1 nb1 cb1, .bool sb2, .slice Ab2 nb2 cb2]), Fact.eq (.agg #[.bool sc1, .slice Ac1 nc1 cc1, .bool sc2, .slice Ac2 nc2 cc2]), Fact.pair (.V (((Rat.divInt pb qb) + (Rat.divInt pc qc))).num) (.V ((((Rat.divInt pb qb) + (Rat.divInt pc qc))).den : Int)), Fact.pair (.V (((Rat.divInt pa qa) * ((Rat.divInt pb qb) + (Rat.divInt pc qc)))).num) (.V ((((Rat.divInt pa qa) * ((Rat.divInt pb qb) + (Rat.divInt pc qc)))).den : Int)), Fact.boxR 26 Rne (.V (((Rat.divInt pa qa) * ((Rat.divInt pb qb) + (Rat.divInt pc qc)))).num) (.V ((((Rat.divInt pa qa) * ((Rat.divInt pb qb) + (Rat.divInt pc qc)))).den : Int)), Fact.top _]
    [.val, .val, .val, .val, .val, .alloc 6, .fill 5]
    (fun w' => IntA w' (.agg #[.bool sa1, .slice Aa1 na1 ca1]) (pa) 8 ∧ IntA w' (.agg #[.bool sa2, .slice Aa2 na2 ca2]) (qa) 8 ∧ IntA w' (.agg #[.bool sb1, .slice Ab1 nb1 cb1]) (pb) 8 ∧ IntA w' (.agg #[.bool sb2, .slice Ab2 nb2 cb2]) (qb) 8 ∧ IntA w' (.agg #[.bool sc1, .slice Ac1 nc1 cc1]) (pc) 8 ∧ IntA w' (.agg #[.bool sc2, .slice Ac2 nc2 cc2]) (qc) 8 ∧ Blk w' (w.heap.size) 26 #[.bool sa1, .slice Aa1 na1 ca1, .bool sa2, .slice Aa2 na2 ca2] ∧ Blk w' (w.heap.size + 1) 26 #[.bool sb1, .slice Ab1 nb1 cb1, .bool sb2, .slice Ab2 nb2 cb2] ∧ Blk w' (w.heap.size + 1 + 1) 26 #[.bool sc1, .slice Ac1 nc1 cc1, .bool sc2, .slice Ac2 nc2 cc2] ∧ Below w.heap.size w w')
    (fun _ _ _ => True) [] (fun _ => 0) (by kernel_rfl)
    ⟨Fa1.out, Fa2.out, Fb1.out, Fb2.out, Fc1.out, Fc2.out, Pa.out, Pb.out, Pc.out, HB.out⟩
    (fun w1 w2 ⟨h0, h1, h2, h3, h4, h5, h6, h7, h8, h9⟩ hb => ⟨h0.below hb, h1.below hb, h2.below hb, h3.below hb, h4.below hb, h5.below hb, h6.below hb, h7.below hb, h8.below hb, bw_step h9 hb⟩)
    (fun w1 w2 g ⟨h0, h1, h2, h3, h4, h5, h6, h7, h8, h9⟩ hg hn ho => by
      have hg' : W1.heap.size ≤ g := hg.elim id (fun ⟨_, h, _⟩ => absurd h (Nat.not_lt_zero _))
      exact ⟨h0.only hn ho, h1.only hn ho, h2.only hn ho, h3.only hn ho, h4.only hn ho, h5.only hn ho, h6.only ho (by have := Pa.out.lt; have := Pb.out.lt; have := Pc.out.lt; omega), h7.only ho (by have := Pa.out.lt; have := Pb.out.lt; have := Pc.out.lt; omega), h8.only ho (by have := Pa.out.lt; have := Pb.out.lt; have := Pc.out.lt; omega), below_only h9 ho (by have := Pa.out.lt; have := Pb.out.lt; have := Pc.out.lt; have := HB.out.size; omega)⟩)
    (fun l h => trivial) (fun l b w1 w2 h _ _ => trivial) (fun l b w1 w2 g h _ _ _ _ => trivial) (fun l h => by cases h) (fun l k h => by cases h) ?_ ?_
  · refine ⟨?_, ?_, ?_, ?_, ?_, ?_, ?_, trivial⟩ <;> intro L V a1 w1 hf hG hsz hφ hψ hL hdep hcl
    · obtain ⟨Fa1_, Fa2_, Fb1_, Fb2_, Fc1_, Fc2_, Pa_, Pb_, Pc_, HB_⟩ := hG
      have e3 := old_slot hf 3 (by kernel_rfl)
      exact ob_pure (ex_loadR rfl e3 Pa_) rfl
    · obtain ⟨Fa1_, Fa2_, Fb1_, Fb2_, Fc1_, Fc2_, Pa_, Pb_, Pc_, HB_⟩ := hG
      have e4 := old_slot hf 4 (by kernel_rfl)
      exact ob_pure (ex_loadR rfl e4 Pb_) rfl
    · obtain ⟨Fa1_, Fa2_, Fb1_, Fb2_, Fc1_, Fc2_, Pa_, Pb_, Pc_, HB_⟩ := hG
      have e5 := old_slot hf 5 (by kernel_rfl)
      exact ob_pure (ex_loadR rfl e5 Pc_) rfl
    · obtain ⟨Fa1_, Fa2_, Fb1_, Fb2_, Fc1_, Fc2_, Pa_, Pb_, Pc_, HB_⟩ := hG
      have d1 := dep_of hdep 1 (by kernel_rfl)
      have e18 := (new_slot hf 1 18 d1 (by kernel_rfl)).trans (show V 1 = .agg #[.bool sb1, .slice Ab1 nb1 cb1, .bool sb2, .slice Ab2 nb2 cb2] from hφ 1 d1)
      have d2 := dep_of hdep 2 (by kernel_rfl)
      have e19 := (new_slot hf 2 19 d2 (by kernel_rfl)).trans (show V 2 = .agg #[.bool sc1, .slice Ac1 nc1 cc1, .bool sc2, .slice Ac2 nc2 cc2] from hφ 2 d2)
      refine ob_go rfl (vs := #[.agg #[.bool sb1, .slice Ab1 nb1 cb1, .bool sb2, .slice Ab2 nb2 cb2], .agg #[.bool sc1, .slice Ac1 nc1 cc1, .bool sc2, .slice Ac2 nc2 cc2]]) (by simp only [List.map_toArray, List.map_cons, List.map_nil, e18, e19]) (by kernel_rfl) (addR_any _ _ _ (Rat.divInt pb qb) (Rat.divInt pc qc) 8 (RatA.of (Pair.mk (a := .A pb 8) (b := .A qb 8) Fb1_ Fb2_)) (RatA.of (Pair.mk (a := .A pc 8) (b := .A qc 8) Fc1_ Fc2_)) (by omega) (by omega)) ?_
      rintro e w2 ⟨⟨v, rfl, hv⟩, hb⟩
      exact ⟨v, rfl, hb, hv⟩
    · obtain ⟨Fa1_, Fa2_, Fb1_, Fb2_, Fc1_, Fc2_, Pa_, Pb_, Pc_, HB_⟩ := hG
      have d0 := dep_of hdep 0 (by kernel_rfl)
      have e17 := (new_slot hf 0 17 d0 (by kernel_rfl)).trans (show V 0 = .agg #[.bool sa1, .slice Aa1 na1 ca1, .bool sa2, .slice Aa2 na2 ca2] from hφ 0 d0)
      have d3 := dep_of hdep 3 (by kernel_rfl)
      have e20 := new_slot hf 3 20 d3 (by kernel_rfl)
      have p20 : Pair w1 (V 3) (.V (((Rat.divInt pb qb) + (Rat.divInt pc qc))).num) (.V ((((Rat.divInt pb qb) + (Rat.divInt pc qc))).den : Int)) := hφ 3 d3
      refine ob_go rfl (vs := #[.agg #[.bool sa1, .slice Aa1 na1 ca1, .bool sa2, .slice Aa2 na2 ca2], V 3]) (by simp only [List.map_toArray, List.map_cons, List.map_nil, e17, e20]) (by kernel_rfl) (mulR_any _ _ _ (Rat.divInt pa qa) ((Rat.divInt pb qb) + (Rat.divInt pc qc)) 17 (RatA.mono (RatA.of (Pair.mk (a := .A pa 8) (b := .A qa 8) Fa1_ Fa2_)) (by omega)) (RatV.arg (x := ((Rat.divInt pb qb) + (Rat.divInt pc qc))) p20 ((RS2.out).to (by omega))) (by omega) (by omega)) ?_
      rintro e w2 ⟨⟨v, rfl, hv⟩, hb⟩
      exact ⟨v, rfl, hb, hv⟩
    · obtain ⟨Fa1_, Fa2_, Fb1_, Fb2_, Fc1_, Fc2_, Pa_, Pb_, Pc_, HB_⟩ := hG
      exact ob_allocR rfl hsz rfl
    · obtain ⟨Fa1_, Fa2_, Fb1_, Fb2_, Fc1_, Fc2_, Pa_, Pb_, Pc_, HB_⟩ := hG
      have d4 := dep_of hdep 4 (by kernel_rfl)
      have e21 := new_slot hf 4 21 d4 (by kernel_rfl)
      have p21 : Pair w1 (V 4) (.V (((Rat.divInt pa qa) * ((Rat.divInt pb qb) + (Rat.divInt pc qc)))).num) (.V ((((Rat.divInt pa qa) * ((Rat.divInt pb qb) + (Rat.divInt pc qc)))).den : Int)) := hφ 4 d4
      have d5 := dep_of hdep 5 (by kernel_rfl)
      obtain ⟨g, h1, h2, h3, _⟩ := hφ 5 d5
      have hz := h3 (show (true && L 6) = false from by have h : L 6 = false := hL; rw [h]; rfl)
      exact ob_fillR rfl ((new_slot hf 5 7 d5 (by kernel_rfl)).trans h1) e21 h1 h2 hz p21 rfl rfl
  · intro V W4 hG hsz4 hφ hψ hne
    have hlt4 : W1.heap.size ≤ W4.heap.size := hsz4
    obtain ⟨Fa1_, Fa2_, Fb1_, Fb2_, Fc1_, Fc2_, Pa_, Pb_, Pc_, HB_⟩ := hG
    have Fa1 := hid Fa1_
    have Fa2 := hid Fa2_
    have Fb1 := hid Fb1_
    have Fb2 := hid Fb2_
    have Fc1 := hid Fc1_
    have Fc2 := hid Fc2_
    have Pa := hid Pa_
    have Pb := hid Pb_
    have Pc := hid Pc_
    have HB := hid HB_
    have y0 : V 0 = .agg #[.bool sa1, .slice Aa1 na1 ca1, .bool sa2, .slice Aa2 na2 ca2] := hφ 0 (by decide)
    have y1 : V 1 = .agg #[.bool sb1, .slice Ab1 nb1 cb1, .bool sb2, .slice Ab2 nb2 cb2] := hφ 1 (by decide)
    have y2 : V 2 = .agg #[.bool sc1, .slice Ac1 nc1 cc1, .bool sc2, .slice Ac2 nc2 cc2] := hφ 2 (by decide)
    obtain ⟨G4_5, y5, gb405, _, hb405⟩ := hφ 5 (by decide)
    obtain ⟨q4051, A4051, n4051, c4051, q4052, A4052, n4052, c4052, kb405, va405, vb405⟩ := hb405 rfl
    have Xt7_ := hid kb405
    have t7_1 : Hid (IntV W4 (.agg #[.bool q4051, .slice A4051 n4051 c4051]) (((Rat.divInt pa qa) * ((Rat.divInt pb qb) + (Rat.divInt pc qc)))).num) := hid va405
    have t7_2 : Hid (IntV W4 (.agg #[.bool q4052, .slice A4052 n4052 c4052]) ((((Rat.divInt pa qa) * ((Rat.divInt pb qb) + (Rat.divInt pc qc)))).den : Int)) := hid vb405
    clear kb405 va405 vb405
    clear hb405
    simp only [puts, Act.put, List.setIfInBounds_toArray, List.set_cons_zero, List.set_cons_succ, y0, y1, y2, y5, ptr]
    clear hφ hψ hne y0 y1 y2 y5 Fa1_ Fa2_ Fb1_ Fb2_ Fc1_ Fc2_ Pa_ Pb_ Pc_ HB_ hsz4
    go_wp2_with fail
    have RS5 : Hid (RS 16 ((Rat.divInt pa qa) * (Rat.divInt pb qb))) := hid ((RS.of (Sa1.out) (Sa2.out) (by omega)).mul (RS.of (Sb1.out) (Sb2.out) (by omega)) (by omega))
    have RS6 : Hid (RS 16 ((Rat.divInt pa qa) * (Rat.divInt pc qc))) := hid ((RS.of (Sa1.out) (Sa2.out) (by omega)).mul (RS.of (Sc1.out) (Sc2.out) (by omega)) (by omega))
    have RS7 : Hid (RS 33 (((Rat.divInt pa qa) * (Rat.divInt pb qb)) + ((Rat.divInt pa qa) * (Rat.divInt pc qc)))) := hid ((RS5.out).add (RS6.out) (by omega))
    have lt7_Pa := Pa.out.lt
    have lt7_Pb := Pb.out.lt
    have lt7_Pc := Pc.out.lt
    have lt7_Xt7_ := Xt7_.out.lt
    refine wp_region_each (by kernel_rfl) 9 88 rfl rfl (by kernel_rfl)
      [Fact.eq (.agg #[.bool sa1, .slice Aa1 na1 ca1, .bool sa2, .slice Aa2 na2 ca2]), Fact.eq (.agg #[.bool sb1, .slice Ab1 nb1 cb1, .bool sb2, .slice Ab2 nb2 cb2]), Fact.pair (.V (((Rat.divInt pa qa) * (Rat.divInt pb qb))).num) (.V ((((Rat.divInt pa qa) * (Rat.divInt pb qb))).den : Int)), Fact.eq (.agg #[.bool sa1, .slice Aa1 na1 ca1, .bool sa2, .slice Aa2 na2 ca2]), Fact.eq (.agg #[.bool sc1, .slice Ac1 nc1 cc1, .bool sc2, .slice Ac2 nc2 cc2]), Fact.pair (.V (((Rat.divInt pa qa) * (Rat.divInt pc qc))).num) (.V ((((Rat.divInt pa qa) * (Rat.divInt pc qc))).den : Int)), Fact.pair (.V ((((Rat.divInt pa qa) * (Rat.divInt pb qb)) + ((Rat.divInt pa qa) * (Rat.divInt pc qc)))).num) (.V (((((Rat.divInt pa qa) * (Rat.divInt pb qb)) + ((Rat.divInt pa qa) * (Rat.divInt pc qc)))).den : Int)), Fact.boxR 26 Rne (.V ((((Rat.divInt pa qa) * (Rat.divInt pb qb)) + ((Rat.divInt pa qa) * (Rat.divInt pc qc)))).num) (.V (((((Rat.divInt pa qa) * (Rat.divInt pb qb)) + ((Rat.divInt pa qa) * (Rat.divInt pc qc)))).den : Int)), Fact.top _]
      [.val, .val, .val, .val, .val, .val, .val, .alloc 8, .fill 7]
      (fun w' => IntA w' (.agg #[.bool sa1, .slice Aa1 na1 ca1]) (pa) 8 ∧ IntA w' (.agg #[.bool sa2, .slice Aa2 na2 ca2]) (qa) 8 ∧ IntA w' (.agg #[.bool sb1, .slice Ab1 nb1 cb1]) (pb) 8 ∧ IntA w' (.agg #[.bool sb2, .slice Ab2 nb2 cb2]) (qb) 8 ∧ IntA w' (.agg #[.bool sc1, .slice Ac1 nc1 cc1]) (pc) 8 ∧ IntA w' (.agg #[.bool sc2, .slice Ac2 nc2 cc2]) (qc) 8 ∧ Blk w' (w.heap.size) 26 #[.bool sa1, .slice Aa1 na1 ca1, .bool sa2, .slice Aa2 na2 ca2] ∧ Blk w' (w.heap.size + 1) 26 #[.bool sb1, .slice Ab1 nb1 cb1, .bool sb2, .slice Ab2 nb2 cb2] ∧ Blk w' (w.heap.size + 1 + 1) 26 #[.bool sc1, .slice Ac1 nc1 cc1, .bool sc2, .slice Ac2 nc2 cc2] ∧ IntV w' (.agg #[.bool q4051, .slice A4051 n4051 c4051]) ((((Rat.divInt pa qa) * ((Rat.divInt pb qb) + (Rat.divInt pc qc)))).num) ∧ IntV w' (.agg #[.bool q4052, .slice A4052 n4052 c4052]) (((((Rat.divInt pa qa) * ((Rat.divInt pb qb) + (Rat.divInt pc qc)))).den : Int)) ∧ Blk w' (G4_5) 26 #[.bool q4051, .slice A4051 n4051 c4051, .bool q4052, .slice A4052 n4052 c4052] ∧ Below w.heap.size w w')
      (fun _ _ _ => True) [] (fun _ => 0) (by kernel_rfl)
      ⟨Fa1.out, Fa2.out, Fb1.out, Fb2.out, Fc1.out, Fc2.out, Pa.out, Pb.out, Pc.out, t7_1.out, t7_2.out, Xt7_.out, HB.out⟩
      (fun w1 w2 ⟨h0, h1, h2, h3, h4, h5, h6, h7, h8, h9, h10, h11, h12⟩ hb => ⟨h0.below hb, h1.below hb, h2.below hb, h3.below hb, h4.below hb, h5.below hb, h6.below hb, h7.below hb, h8.below hb, h9.below hb, h10.below hb, h11.below hb, bw_step h12 hb⟩)
      (fun w1 w2 g ⟨h0, h1, h2, h3, h4, h5, h6, h7, h8, h9, h10, h11, h12⟩ hg hn ho => by
        have hg' : W4.heap.size ≤ g := hg.elim id (fun ⟨_, h, _⟩ => absurd h (Nat.not_lt_zero _))
        exact ⟨h0.only hn ho, h1.only hn ho, h2.only hn ho, h3.only hn ho, h4.only hn ho, h5.only hn ho, h6.only ho (by have := Pa.out.lt; have := Pb.out.lt; have := Pc.out.lt; have := Xt7_.out.lt; omega), h7.only ho (by have := Pa.out.lt; have := Pb.out.lt; have := Pc.out.lt; have := Xt7_.out.lt; omega), h8.only ho (by have := Pa.out.lt; have := Pb.out.lt; have := Pc.out.lt; have := Xt7_.out.lt; omega), h9.only hn ho, h10.only hn ho, h11.only ho (by have := Pa.out.lt; have := Pb.out.lt; have := Pc.out.lt; have := Xt7_.out.lt; omega), below_only h12 ho (by have := Pa.out.lt; have := Pb.out.lt; have := Pc.out.lt; have := Xt7_.out.lt; have := HB.out.size; omega)⟩)
      (fun l h => trivial) (fun l b w1 w2 h _ _ => trivial) (fun l b w1 w2 g h _ _ _ _ => trivial) (fun l h => by cases h) (fun l k h => by cases h) ?_ ?_
    · refine ⟨?_, ?_, ?_, ?_, ?_, ?_, ?_, ?_, ?_, trivial⟩ <;> intro L V a1 w1 hf hG hsz hφ hψ hL hdep hcl
      · obtain ⟨Fa1_, Fa2_, Fb1_, Fb2_, Fc1_, Fc2_, Pa_, Pb_, Pc_, t7_1_, t7_2_, Xt7__, HB_⟩ := hG
        have e3 := old_slot hf 3 (by kernel_rfl)
        exact ob_pure (ex_loadR rfl e3 Pa_) rfl
      · obtain ⟨Fa1_, Fa2_, Fb1_, Fb2_, Fc1_, Fc2_, Pa_, Pb_, Pc_, t7_1_, t7_2_, Xt7__, HB_⟩ := hG
        have e4 := old_slot hf 4 (by kernel_rfl)
        exact ob_pure (ex_loadR rfl e4 Pb_) rfl
      · obtain ⟨Fa1_, Fa2_, Fb1_, Fb2_, Fc1_, Fc2_, Pa_, Pb_, Pc_, t7_1_, t7_2_, Xt7__, HB_⟩ := hG
        have d0 := dep_of hdep 0 (by kernel_rfl)
        have e22 := (new_slot hf 0 22 d0 (by kernel_rfl)).trans (show V 0 = .agg #[.bool sa1, .slice Aa1 na1 ca1, .bool sa2, .slice Aa2 na2 ca2] from hφ 0 d0)
        have d1 := dep_of hdep 1 (by kernel_rfl)
        have e23 := (new_slot hf 1 23 d1 (by kernel_rfl)).trans (show V 1 = .agg #[.bool sb1, .slice Ab1 nb1 cb1, .bool sb2, .slice Ab2 nb2 cb2] from hφ 1 d1)
        refine ob_go rfl (vs := #[.agg #[.bool sa1, .slice Aa1 na1 ca1, .bool sa2, .slice Aa2 na2 ca2], .agg #[.bool sb1, .slice Ab1 nb1 cb1, .bool sb2, .slice Ab2 nb2 cb2]]) (by simp only [List.map_toArray, List.map_cons, List.map_nil, e22, e23]) (by kernel_rfl) (mulR_any _ _ _ (Rat.divInt pa qa) (Rat.divInt pb qb) 8 (RatA.of (Pair.mk (a := .A pa 8) (b := .A qa 8) Fa1_ Fa2_)) (RatA.of (Pair.mk (a := .A pb 8) (b := .A qb 8) Fb1_ Fb2_)) (by omega) (by omega)) ?_
        rintro e w2 ⟨⟨v, rfl, hv⟩, hb⟩
        exact ⟨v, rfl, hb, hv⟩
      · obtain ⟨Fa1_, Fa2_, Fb1_, Fb2_, Fc1_, Fc2_, Pa_, Pb_, Pc_, t7_1_, t7_2_, Xt7__, HB_⟩ := hG
        have e3 := old_slot hf 3 (by kernel_rfl)
        exact ob_pure (ex_loadR rfl e3 Pa_) rfl
      · obtain ⟨Fa1_, Fa2_, Fb1_, Fb2_, Fc1_, Fc2_, Pa_, Pb_, Pc_, t7_1_, t7_2_, Xt7__, HB_⟩ := hG
        have e5 := old_slot hf 5 (by kernel_rfl)
        exact ob_pure (ex_loadR rfl e5 Pc_) rfl
      · obtain ⟨Fa1_, Fa2_, Fb1_, Fb2_, Fc1_, Fc2_, Pa_, Pb_, Pc_, t7_1_, t7_2_, Xt7__, HB_⟩ := hG
        have d3 := dep_of hdep 3 (by kernel_rfl)
        have e25 := (new_slot hf 3 25 d3 (by kernel_rfl)).trans (show V 3 = .agg #[.bool sa1, .slice Aa1 na1 ca1, .bool sa2, .slice Aa2 na2 ca2] from hφ 3 d3)
        have d4 := dep_of hdep 4 (by kernel_rfl)
        have e26 := (new_slot hf 4 26 d4 (by kernel_rfl)).trans (show V 4 = .agg #[.bool sc1, .slice Ac1 nc1 cc1, .bool sc2, .slice Ac2 nc2 cc2] from hφ 4 d4)
        refine ob_go rfl (vs := #[.agg #[.bool sa1, .slice Aa1 na1 ca1, .bool sa2, .slice Aa2 na2 ca2], .agg #[.bool sc1, .slice Ac1 nc1 cc1, .bool sc2, .slice Ac2 nc2 cc2]]) (by simp only [List.map_toArray, List.map_cons, List.map_nil, e25, e26]) (by kernel_rfl) (mulR_any _ _ _ (Rat.divInt pa qa) (Rat.divInt pc qc) 8 (RatA.of (Pair.mk (a := .A pa 8) (b := .A qa 8) Fa1_ Fa2_)) (RatA.of (Pair.mk (a := .A pc 8) (b := .A qc 8) Fc1_ Fc2_)) (by omega) (by omega)) ?_
        rintro e w2 ⟨⟨v, rfl, hv⟩, hb⟩
        exact ⟨v, rfl, hb, hv⟩
      · obtain ⟨Fa1_, Fa2_, Fb1_, Fb2_, Fc1_, Fc2_, Pa_, Pb_, Pc_, t7_1_, t7_2_, Xt7__, HB_⟩ := hG
        have d2 := dep_of hdep 2 (by kernel_rfl)
        have e24 := new_slot hf 2 24 d2 (by kernel_rfl)
        have p24 : Pair w1 (V 2) (.V (((Rat.divInt pa qa) * (Rat.divInt pb qb))).num) (.V ((((Rat.divInt pa qa) * (Rat.divInt pb qb))).den : Int)) := hφ 2 d2
        have d5 := dep_of hdep 5 (by kernel_rfl)
        have e27 := new_slot hf 5 27 d5 (by kernel_rfl)
        have p27 : Pair w1 (V 5) (.V (((Rat.divInt pa qa) * (Rat.divInt pc qc))).num) (.V ((((Rat.divInt pa qa) * (Rat.divInt pc qc))).den : Int)) := hφ 5 d5
        refine ob_go rfl (vs := #[V 2, V 5]) (by simp only [List.map_toArray, List.map_cons, List.map_nil, e24, e27]) (by kernel_rfl) (addR_any _ _ _ ((Rat.divInt pa qa) * (Rat.divInt pb qb)) ((Rat.divInt pa qa) * (Rat.divInt pc qc)) 16 (RatV.arg (x := ((Rat.divInt pa qa) * (Rat.divInt pb qb))) p24 ((RS5.out).to (by omega))) (RatV.arg (x := ((Rat.divInt pa qa) * (Rat.divInt pc qc))) p27 ((RS6.out).to (by omega))) (by omega) (by omega)) ?_
        rintro e w2 ⟨⟨v, rfl, hv⟩, hb⟩
        exact ⟨v, rfl, hb, hv⟩
      · obtain ⟨Fa1_, Fa2_, Fb1_, Fb2_, Fc1_, Fc2_, Pa_, Pb_, Pc_, t7_1_, t7_2_, Xt7__, HB_⟩ := hG
        exact ob_allocR rfl hsz rfl
      · obtain ⟨Fa1_, Fa2_, Fb1_, Fb2_, Fc1_, Fc2_, Pa_, Pb_, Pc_, t7_1_, t7_2_, Xt7__, HB_⟩ := hG
        have d6 := dep_of hdep 6 (by kernel_rfl)
        have e28 := new_slot hf 6 28 d6 (by kernel_rfl)
        have p28 : Pair w1 (V 6) (.V ((((Rat.divInt pa qa) * (Rat.divInt pb qb)) + ((Rat.divInt pa qa) * (Rat.divInt pc qc)))).num) (.V (((((Rat.divInt pa qa) * (Rat.divInt pb qb)) + ((Rat.divInt pa qa) * (Rat.divInt pc qc)))).den : Int)) := hφ 6 d6
        have d7 := dep_of hdep 7 (by kernel_rfl)
        obtain ⟨g, h1, h2, h3, _⟩ := hφ 7 d7
        have hz := h3 (show (true && L 8) = false from by have h : L 8 = false := hL; rw [h]; rfl)
        exact ob_fillR rfl ((new_slot hf 7 8 d7 (by kernel_rfl)).trans h1) e28 h1 h2 hz p28 rfl rfl
    · intro V W8 hG hsz8 hφ hψ hne
      have hlt8 : W4.heap.size ≤ W8.heap.size := hsz8
      obtain ⟨Fa1_, Fa2_, Fb1_, Fb2_, Fc1_, Fc2_, Pa_, Pb_, Pc_, t7_1_, t7_2_, Xt7__, HB_⟩ := hG
      have Fa1 := hid Fa1_
      have Fa2 := hid Fa2_
      have Fb1 := hid Fb1_
      have Fb2 := hid Fb2_
      have Fc1 := hid Fc1_
      have Fc2 := hid Fc2_
      have Pa := hid Pa_
      have Pb := hid Pb_
      have Pc := hid Pc_
      have t7_1 := hid t7_1_
      have t7_2 := hid t7_2_
      have Xt7_ := hid Xt7__
      have HB := hid HB_
      have y0 : V 0 = .agg #[.bool sa1, .slice Aa1 na1 ca1, .bool sa2, .slice Aa2 na2 ca2] := hφ 0 (by decide)
      have y1 : V 1 = .agg #[.bool sb1, .slice Ab1 nb1 cb1, .bool sb2, .slice Ab2 nb2 cb2] := hφ 1 (by decide)
      have y3 : V 3 = .agg #[.bool sa1, .slice Aa1 na1 ca1, .bool sa2, .slice Aa2 na2 ca2] := hφ 3 (by decide)
      have y4 : V 4 = .agg #[.bool sc1, .slice Ac1 nc1 cc1, .bool sc2, .slice Ac2 nc2 cc2] := hφ 4 (by decide)
      obtain ⟨G8_7, y7, gb807, _, hb807⟩ := hφ 7 (by decide)
      obtain ⟨q8071, A8071, n8071, c8071, q8072, A8072, n8072, c8072, kb807, va807, vb807⟩ := hb807 rfl
      have Xt8_ := hid kb807
      have t8_1 : Hid (IntV W8 (.agg #[.bool q8071, .slice A8071 n8071 c8071]) ((((Rat.divInt pa qa) * (Rat.divInt pb qb)) + ((Rat.divInt pa qa) * (Rat.divInt pc qc)))).num) := hid va807
      have t8_2 : Hid (IntV W8 (.agg #[.bool q8072, .slice A8072 n8072 c8072]) (((((Rat.divInt pa qa) * (Rat.divInt pb qb)) + ((Rat.divInt pa qa) * (Rat.divInt pc qc)))).den : Int)) := hid vb807
      clear kb807 va807 vb807
      clear hb807
      simp only [puts, Act.put, List.setIfInBounds_toArray, List.set_cons_zero, List.set_cons_succ, y0, y1, y3, y4, y7, ptr]
      clear hφ hψ hne y0 y1 y3 y4 y7 Fa1_ Fa2_ Fb1_ Fb2_ Fc1_ Fc2_ Pa_ Pb_ Pc_ t7_1_ t7_2_ Xt7__ HB_ hsz8
      go_wp2_with fail
      have RS10 : Hid (RS 17 ((Rat.divInt pa qa) + (Rat.divInt pc qc))) := hid ((RS.of (Sa1.out) (Sa2.out) (by omega)).add (RS.of (Sc1.out) (Sc2.out) (by omega)) (by omega))
      have RS11 : Hid (RS 17 ((Rat.divInt pb qb) + (Rat.divInt pc qc))) := hid ((RS.of (Sb1.out) (Sb2.out) (by omega)).add (RS.of (Sc1.out) (Sc2.out) (by omega)) (by omega))
      refine wp_region_eachG (by kernel_rfl) 17 88 rfl rfl (by kernel_rfl)
        [Fact.eq (.agg #[.bool q4051, .slice A4051 n4051 c4051, .bool q4052, .slice A4052 n4052 c4052]), Fact.eq (.agg #[.bool q8071, .slice A8071 n8071 c8071, .bool q8072, .slice A8072 n8072 c8072]), Fact.eq (.int .i64 (cm (((Rat.divInt pa qa) * ((Rat.divInt pb qb) + (Rat.divInt pc qc))) - (((Rat.divInt pa qa) * (Rat.divInt pb qb)) + ((Rat.divInt pa qa) * (Rat.divInt pc qc)))).num 0)), Fact.eq (.bool false), Fact.eq (.bool false), Fact.eq (.agg #[.bool sa1, .slice Aa1 na1 ca1, .bool sa2, .slice Aa2 na2 ca2]), Fact.eq (.agg #[.bool sc1, .slice Ac1 nc1 cc1, .bool sc2, .slice Ac2 nc2 cc2]), Fact.pair (.V (((Rat.divInt pa qa) + (Rat.divInt pc qc))).num) (.V ((((Rat.divInt pa qa) + (Rat.divInt pc qc))).den : Int)), Fact.eq (.agg #[.bool sb1, .slice Ab1 nb1 cb1, .bool sb2, .slice Ab2 nb2 cb2]), Fact.eq (.agg #[.bool sc1, .slice Ac1 nc1 cc1, .bool sc2, .slice Ac2 nc2 cc2]), Fact.pair (.V (((Rat.divInt pb qb) + (Rat.divInt pc qc))).num) (.V ((((Rat.divInt pb qb) + (Rat.divInt pc qc))).den : Int)), Fact.eq (.int .i64 (cm (((Rat.divInt pa qa) + (Rat.divInt pc qc)) - ((Rat.divInt pb qb) + (Rat.divInt pc qc))).num 0)), Fact.eq (.agg #[.bool sa1, .slice Aa1 na1 ca1, .bool sa2, .slice Aa2 na2 ca2]), Fact.eq (.agg #[.bool sb1, .slice Ab1 nb1 cb1, .bool sb2, .slice Ab2 nb2 cb2]), Fact.eq (.int .i64 (cm ((Rat.divInt pa qa) - (Rat.divInt pb qb)).num 0)), Fact.eq (.bool false), Fact.eq (.bool false)]
        [.val, .val, .val, .val, .val, .val, .val, .val, .val, .val, .val, .val, .val, .val, .val, .val, .val]
        (fun w' => IntA w' (.agg #[.bool sa1, .slice Aa1 na1 ca1]) (pa) 8 ∧ IntA w' (.agg #[.bool sa2, .slice Aa2 na2 ca2]) (qa) 8 ∧ IntA w' (.agg #[.bool sb1, .slice Ab1 nb1 cb1]) (pb) 8 ∧ IntA w' (.agg #[.bool sb2, .slice Ab2 nb2 cb2]) (qb) 8 ∧ IntA w' (.agg #[.bool sc1, .slice Ac1 nc1 cc1]) (pc) 8 ∧ IntA w' (.agg #[.bool sc2, .slice Ac2 nc2 cc2]) (qc) 8 ∧ Blk w' (w.heap.size) 26 #[.bool sa1, .slice Aa1 na1 ca1, .bool sa2, .slice Aa2 na2 ca2] ∧ Blk w' (w.heap.size + 1) 26 #[.bool sb1, .slice Ab1 nb1 cb1, .bool sb2, .slice Ab2 nb2 cb2] ∧ Blk w' (w.heap.size + 1 + 1) 26 #[.bool sc1, .slice Ac1 nc1 cc1, .bool sc2, .slice Ac2 nc2 cc2] ∧ IntV w' (.agg #[.bool q4051, .slice A4051 n4051 c4051]) ((((Rat.divInt pa qa) * ((Rat.divInt pb qb) + (Rat.divInt pc qc)))).num) ∧ IntV w' (.agg #[.bool q4052, .slice A4052 n4052 c4052]) (((((Rat.divInt pa qa) * ((Rat.divInt pb qb) + (Rat.divInt pc qc)))).den : Int)) ∧ Blk w' (G4_5) 26 #[.bool q4051, .slice A4051 n4051 c4051, .bool q4052, .slice A4052 n4052 c4052] ∧ IntV w' (.agg #[.bool q8071, .slice A8071 n8071 c8071]) (((((Rat.divInt pa qa) * (Rat.divInt pb qb)) + ((Rat.divInt pa qa) * (Rat.divInt pc qc)))).num) ∧ IntV w' (.agg #[.bool q8072, .slice A8072 n8072 c8072]) ((((((Rat.divInt pa qa) * (Rat.divInt pb qb)) + ((Rat.divInt pa qa) * (Rat.divInt pc qc)))).den : Int)) ∧ Blk w' (G8_7) 26 #[.bool q8071, .slice A8071 n8071 c8071, .bool q8072, .slice A8072 n8072 c8072] ∧ Below w.heap.size w w')
        (fun _ _ _ => True) [] (fun _ => 0) (by kernel_rfl)
        ⟨Fa1.out, Fa2.out, Fb1.out, Fb2.out, Fc1.out, Fc2.out, Pa.out, Pb.out, Pc.out, t7_1.out, t7_2.out, Xt7_.out, t8_1.out, t8_2.out, Xt8_.out, HB.out⟩
        (fun w1 w2 ⟨h0, h1, h2, h3, h4, h5, h6, h7, h8, h9, h10, h11, h12, h13, h14, h15⟩ hb => ⟨h0.below hb, h1.below hb, h2.below hb, h3.below hb, h4.below hb, h5.below hb, h6.below hb, h7.below hb, h8.below hb, h9.below hb, h10.below hb, h11.below hb, h12.below hb, h13.below hb, h14.below hb, bw_step h15 hb⟩)
        (fun w1 w2 g ⟨h0, h1, h2, h3, h4, h5, h6, h7, h8, h9, h10, h11, h12, h13, h14, h15⟩ hg hn ho => by
          have hg' : W8.heap.size ≤ g := hg.elim id (fun ⟨_, h, _⟩ => absurd h (Nat.not_lt_zero _))
          exact ⟨h0.only hn ho, h1.only hn ho, h2.only hn ho, h3.only hn ho, h4.only hn ho, h5.only hn ho, h6.only ho (by have := Pa.out.lt; have := Pb.out.lt; have := Pc.out.lt; have := Xt7_.out.lt; have := Xt8_.out.lt; omega), h7.only ho (by have := Pa.out.lt; have := Pb.out.lt; have := Pc.out.lt; have := Xt7_.out.lt; have := Xt8_.out.lt; omega), h8.only ho (by have := Pa.out.lt; have := Pb.out.lt; have := Pc.out.lt; have := Xt7_.out.lt; have := Xt8_.out.lt; omega), h9.only hn ho, h10.only hn ho, h11.only ho (by have := Pa.out.lt; have := Pb.out.lt; have := Pc.out.lt; have := Xt7_.out.lt; have := Xt8_.out.lt; omega), h12.only hn ho, h13.only hn ho, h14.only ho (by have := Pa.out.lt; have := Pb.out.lt; have := Pc.out.lt; have := Xt7_.out.lt; have := Xt8_.out.lt; omega), below_only h15 ho (by have := Pa.out.lt; have := Pb.out.lt; have := Pc.out.lt; have := Xt7_.out.lt; have := Xt8_.out.lt; have := HB.out.size; omega)⟩)
        (fun l h => trivial) (fun l b w1 w2 h _ _ => trivial) (fun l b w1 w2 g h _ _ _ _ => trivial) (fun l h => by cases h) (fun l k h => by cases h) ?_ ?_
      · refine ⟨?_, ?_, ?_, ?_, ?_, ?_, ?_, ?_, ?_, ?_, ?_, ?_, ?_, ?_, ?_, ?_, ?_, trivial⟩ <;> intro L V a1 w1 hf hG hsz hφ hψ hL hdep hcl
        · obtain ⟨Fa1_, Fa2_, Fb1_, Fb2_, Fc1_, Fc2_, Pa_, Pb_, Pc_, t7_1_, t7_2_, Xt7__, t8_1_, t8_2_, Xt8__, HB_⟩ := hG
          refine og_none rfl ?_
          have e7 := old_slot hf 7 (by kernel_rfl)
          exact ob_pure (ex_loadR rfl e7 Xt7__) rfl
        · obtain ⟨Fa1_, Fa2_, Fb1_, Fb2_, Fc1_, Fc2_, Pa_, Pb_, Pc_, t7_1_, t7_2_, Xt7__, t8_1_, t8_2_, Xt8__, HB_⟩ := hG
          refine og_none rfl ?_
          have e8 := old_slot hf 8 (by kernel_rfl)
          exact ob_pure (ex_loadR rfl e8 Xt8__) rfl
        · obtain ⟨Fa1_, Fa2_, Fb1_, Fb2_, Fc1_, Fc2_, Pa_, Pb_, Pc_, t7_1_, t7_2_, Xt7__, t8_1_, t8_2_, Xt8__, HB_⟩ := hG
          refine og_none rfl ?_
          have d0 := dep_of hdep 0 (by kernel_rfl)
          have e29 := (new_slot hf 0 29 d0 (by kernel_rfl)).trans (show V 0 = .agg #[.bool q4051, .slice A4051 n4051 c4051, .bool q4052, .slice A4052 n4052 c4052] from hφ 0 d0)
          have d1 := dep_of hdep 1 (by kernel_rfl)
          have e30 := (new_slot hf 1 30 d1 (by kernel_rfl)).trans (show V 1 = .agg #[.bool q8071, .slice A8071 n8071 c8071, .bool q8072, .slice A8072 n8072 c8072] from hφ 1 d1)
          refine ob_go rfl (vs := #[.agg #[.bool q4051, .slice A4051 n4051 c4051, .bool q4052, .slice A4052 n4052 c4052], .agg #[.bool q8071, .slice A8071 n8071 c8071, .bool q8072, .slice A8072 n8072 c8072]]) (by simp only [List.map_toArray, List.map_cons, List.map_nil, e29, e30]) (by kernel_rfl) (cmpR_any _ _ _ ((Rat.divInt pa qa) * ((Rat.divInt pb qb) + (Rat.divInt pc qc))) (((Rat.divInt pa qa) * (Rat.divInt pb qb)) + ((Rat.divInt pa qa) * (Rat.divInt pc qc))) 34 (RatV.arg (x := ((Rat.divInt pa qa) * ((Rat.divInt pb qb) + (Rat.divInt pc qc)))) (Pair.mk (a := .V (((Rat.divInt pa qa) * ((Rat.divInt pb qb) + (Rat.divInt pc qc)))).num) (b := .V ((((Rat.divInt pa qa) * ((Rat.divInt pb qb) + (Rat.divInt pc qc)))).den : Int)) t7_1_ t7_2_) ((RS3.out).to (by omega))) (RatV.arg (x := (((Rat.divInt pa qa) * (Rat.divInt pb qb)) + ((Rat.divInt pa qa) * (Rat.divInt pc qc)))) (Pair.mk (a := .V ((((Rat.divInt pa qa) * (Rat.divInt pb qb)) + ((Rat.divInt pa qa) * (Rat.divInt pc qc)))).num) (b := .V (((((Rat.divInt pa qa) * (Rat.divInt pb qb)) + ((Rat.divInt pa qa) * (Rat.divInt pc qc)))).den : Int)) t8_1_ t8_2_) ((RS7.out).to (by omega))) (by omega) (by omega)) ?_
          rintro e w2 ⟨he, hb⟩
          exact ⟨_, he, hb, rfl⟩
        · obtain ⟨Fa1_, Fa2_, Fb1_, Fb2_, Fc1_, Fc2_, Pa_, Pb_, Pc_, t7_1_, t7_2_, Xt7__, t8_1_, t8_2_, Xt8__, HB_⟩ := hG
          refine og_none rfl ?_
          have d2 := dep_of hdep 2 (by kernel_rfl)
          have e31 := (new_slot hf 2 31 d2 (by kernel_rfl)).trans (show V 2 = .int .i64 (cm (((Rat.divInt pa qa) * ((Rat.divInt pb qb) + (Rat.divInt pc qc))) - (((Rat.divInt pa qa) * (Rat.divInt pb qb)) + ((Rat.divInt pa qa) * (Rat.divInt pc qc)))).num 0) from hφ 2 d2)
          exact ob_pure (ex_neq_int rfl e31 rfl) (show Value.bool ((cm (((Rat.divInt pa qa) * ((Rat.divInt pb qb) + (Rat.divInt pc qc))) - (((Rat.divInt pa qa) * (Rat.divInt pb qb)) + ((Rat.divInt pa qa) * (Rat.divInt pc qc)))).num 0) != 0) = Value.bool false from by rw [E1.out]; rfl)
        · obtain ⟨Fa1_, Fa2_, Fb1_, Fb2_, Fc1_, Fc2_, Pa_, Pb_, Pc_, t7_1_, t7_2_, Xt7__, t8_1_, t8_2_, Xt8__, HB_⟩ := hG
          refine og_none rfl ?_
          have d3 := dep_of hdep 3 (by kernel_rfl)
          have e32 := (new_slot hf 3 32 d3 (by kernel_rfl)).trans (show V 3 = .bool false from hφ 3 d3)
          exact ob_pure (v := .bool false) (ex_moveV rfl e32) rfl
        · obtain ⟨Fa1_, Fa2_, Fb1_, Fb2_, Fc1_, Fc2_, Pa_, Pb_, Pc_, t7_1_, t7_2_, Xt7__, t8_1_, t8_2_, Xt8__, HB_⟩ := hG
          have dg := dep_of hdep 4 (by kernel_rfl)
          refine og_want rfl (yielded_of hf (n := 88) (by kernel_rfl) rfl 4 33 dg (by kernel_rfl) (show V 4 = .bool false from hφ 4 dg)) ?_
          have e3 := old_slot hf 3 (by kernel_rfl)
          exact ob_pure (ex_loadR rfl e3 Pa_) rfl
        · obtain ⟨Fa1_, Fa2_, Fb1_, Fb2_, Fc1_, Fc2_, Pa_, Pb_, Pc_, t7_1_, t7_2_, Xt7__, t8_1_, t8_2_, Xt8__, HB_⟩ := hG
          have dg := dep_of hdep 4 (by kernel_rfl)
          refine og_want rfl (yielded_of hf (n := 88) (by kernel_rfl) rfl 4 33 dg (by kernel_rfl) (show V 4 = .bool false from hφ 4 dg)) ?_
          have e5 := old_slot hf 5 (by kernel_rfl)
          exact ob_pure (ex_loadR rfl e5 Pc_) rfl
        · obtain ⟨Fa1_, Fa2_, Fb1_, Fb2_, Fc1_, Fc2_, Pa_, Pb_, Pc_, t7_1_, t7_2_, Xt7__, t8_1_, t8_2_, Xt8__, HB_⟩ := hG
          have dg := dep_of hdep 4 (by kernel_rfl)
          refine og_want rfl (yielded_of hf (n := 88) (by kernel_rfl) rfl 4 33 dg (by kernel_rfl) (show V 4 = .bool false from hφ 4 dg)) ?_
          have d5 := dep_of hdep 5 (by kernel_rfl)
          have e34 := (new_slot hf 5 34 d5 (by kernel_rfl)).trans (show V 5 = .agg #[.bool sa1, .slice Aa1 na1 ca1, .bool sa2, .slice Aa2 na2 ca2] from hφ 5 d5)
          have d6 := dep_of hdep 6 (by kernel_rfl)
          have e35 := (new_slot hf 6 35 d6 (by kernel_rfl)).trans (show V 6 = .agg #[.bool sc1, .slice Ac1 nc1 cc1, .bool sc2, .slice Ac2 nc2 cc2] from hφ 6 d6)
          refine ob_go rfl (vs := #[.agg #[.bool sa1, .slice Aa1 na1 ca1, .bool sa2, .slice Aa2 na2 ca2], .agg #[.bool sc1, .slice Ac1 nc1 cc1, .bool sc2, .slice Ac2 nc2 cc2]]) (by simp only [List.map_toArray, List.map_cons, List.map_nil, e34, e35]) (by kernel_rfl) (addR_any _ _ _ (Rat.divInt pa qa) (Rat.divInt pc qc) 8 (RatA.of (Pair.mk (a := .A pa 8) (b := .A qa 8) Fa1_ Fa2_)) (RatA.of (Pair.mk (a := .A pc 8) (b := .A qc 8) Fc1_ Fc2_)) (by omega) (by omega)) ?_
          rintro e w2 ⟨⟨v, rfl, hv⟩, hb⟩
          exact ⟨v, rfl, hb, hv⟩
        · obtain ⟨Fa1_, Fa2_, Fb1_, Fb2_, Fc1_, Fc2_, Pa_, Pb_, Pc_, t7_1_, t7_2_, Xt7__, t8_1_, t8_2_, Xt8__, HB_⟩ := hG
          have dg := dep_of hdep 4 (by kernel_rfl)
          refine og_want rfl (yielded_of hf (n := 88) (by kernel_rfl) rfl 4 33 dg (by kernel_rfl) (show V 4 = .bool false from hφ 4 dg)) ?_
          have e4 := old_slot hf 4 (by kernel_rfl)
          exact ob_pure (ex_loadR rfl e4 Pb_) rfl
        · obtain ⟨Fa1_, Fa2_, Fb1_, Fb2_, Fc1_, Fc2_, Pa_, Pb_, Pc_, t7_1_, t7_2_, Xt7__, t8_1_, t8_2_, Xt8__, HB_⟩ := hG
          have dg := dep_of hdep 4 (by kernel_rfl)
          refine og_want rfl (yielded_of hf (n := 88) (by kernel_rfl) rfl 4 33 dg (by kernel_rfl) (show V 4 = .bool false from hφ 4 dg)) ?_
          have e5 := old_slot hf 5 (by kernel_rfl)
          exact ob_pure (ex_loadR rfl e5 Pc_) rfl
        · obtain ⟨Fa1_, Fa2_, Fb1_, Fb2_, Fc1_, Fc2_, Pa_, Pb_, Pc_, t7_1_, t7_2_, Xt7__, t8_1_, t8_2_, Xt8__, HB_⟩ := hG
          have dg := dep_of hdep 4 (by kernel_rfl)
          refine og_want rfl (yielded_of hf (n := 88) (by kernel_rfl) rfl 4 33 dg (by kernel_rfl) (show V 4 = .bool false from hφ 4 dg)) ?_
          have d8 := dep_of hdep 8 (by kernel_rfl)
          have e37 := (new_slot hf 8 37 d8 (by kernel_rfl)).trans (show V 8 = .agg #[.bool sb1, .slice Ab1 nb1 cb1, .bool sb2, .slice Ab2 nb2 cb2] from hφ 8 d8)
          have d9 := dep_of hdep 9 (by kernel_rfl)
          have e38 := (new_slot hf 9 38 d9 (by kernel_rfl)).trans (show V 9 = .agg #[.bool sc1, .slice Ac1 nc1 cc1, .bool sc2, .slice Ac2 nc2 cc2] from hφ 9 d9)
          refine ob_go rfl (vs := #[.agg #[.bool sb1, .slice Ab1 nb1 cb1, .bool sb2, .slice Ab2 nb2 cb2], .agg #[.bool sc1, .slice Ac1 nc1 cc1, .bool sc2, .slice Ac2 nc2 cc2]]) (by simp only [List.map_toArray, List.map_cons, List.map_nil, e37, e38]) (by kernel_rfl) (addR_any _ _ _ (Rat.divInt pb qb) (Rat.divInt pc qc) 8 (RatA.of (Pair.mk (a := .A pb 8) (b := .A qb 8) Fb1_ Fb2_)) (RatA.of (Pair.mk (a := .A pc 8) (b := .A qc 8) Fc1_ Fc2_)) (by omega) (by omega)) ?_
          rintro e w2 ⟨⟨v, rfl, hv⟩, hb⟩
          exact ⟨v, rfl, hb, hv⟩
        · obtain ⟨Fa1_, Fa2_, Fb1_, Fb2_, Fc1_, Fc2_, Pa_, Pb_, Pc_, t7_1_, t7_2_, Xt7__, t8_1_, t8_2_, Xt8__, HB_⟩ := hG
          have dg := dep_of hdep 4 (by kernel_rfl)
          refine og_want rfl (yielded_of hf (n := 88) (by kernel_rfl) rfl 4 33 dg (by kernel_rfl) (show V 4 = .bool false from hφ 4 dg)) ?_
          have d7 := dep_of hdep 7 (by kernel_rfl)
          have e36 := new_slot hf 7 36 d7 (by kernel_rfl)
          have p36 : Pair w1 (V 7) (.V (((Rat.divInt pa qa) + (Rat.divInt pc qc))).num) (.V ((((Rat.divInt pa qa) + (Rat.divInt pc qc))).den : Int)) := hφ 7 d7
          have d10 := dep_of hdep 10 (by kernel_rfl)
          have e39 := new_slot hf 10 39 d10 (by kernel_rfl)
          have p39 : Pair w1 (V 10) (.V (((Rat.divInt pb qb) + (Rat.divInt pc qc))).num) (.V ((((Rat.divInt pb qb) + (Rat.divInt pc qc))).den : Int)) := hφ 10 d10
          refine ob_go rfl (vs := #[V 7, V 10]) (by simp only [List.map_toArray, List.map_cons, List.map_nil, e36, e39]) (by kernel_rfl) (cmpR_any _ _ _ ((Rat.divInt pa qa) + (Rat.divInt pc qc)) ((Rat.divInt pb qb) + (Rat.divInt pc qc)) 17 (RatV.arg (x := ((Rat.divInt pa qa) + (Rat.divInt pc qc))) p36 ((RS10.out).to (by omega))) (RatV.arg (x := ((Rat.divInt pb qb) + (Rat.divInt pc qc))) p39 ((RS11.out).to (by omega))) (by omega) (by omega)) ?_
          rintro e w2 ⟨he, hb⟩
          exact ⟨_, he, hb, rfl⟩
        · obtain ⟨Fa1_, Fa2_, Fb1_, Fb2_, Fc1_, Fc2_, Pa_, Pb_, Pc_, t7_1_, t7_2_, Xt7__, t8_1_, t8_2_, Xt8__, HB_⟩ := hG
          have dg := dep_of hdep 4 (by kernel_rfl)
          refine og_want rfl (yielded_of hf (n := 88) (by kernel_rfl) rfl 4 33 dg (by kernel_rfl) (show V 4 = .bool false from hφ 4 dg)) ?_
          have e3 := old_slot hf 3 (by kernel_rfl)
          exact ob_pure (ex_loadR rfl e3 Pa_) rfl
        · obtain ⟨Fa1_, Fa2_, Fb1_, Fb2_, Fc1_, Fc2_, Pa_, Pb_, Pc_, t7_1_, t7_2_, Xt7__, t8_1_, t8_2_, Xt8__, HB_⟩ := hG
          have dg := dep_of hdep 4 (by kernel_rfl)
          refine og_want rfl (yielded_of hf (n := 88) (by kernel_rfl) rfl 4 33 dg (by kernel_rfl) (show V 4 = .bool false from hφ 4 dg)) ?_
          have e4 := old_slot hf 4 (by kernel_rfl)
          exact ob_pure (ex_loadR rfl e4 Pb_) rfl
        · obtain ⟨Fa1_, Fa2_, Fb1_, Fb2_, Fc1_, Fc2_, Pa_, Pb_, Pc_, t7_1_, t7_2_, Xt7__, t8_1_, t8_2_, Xt8__, HB_⟩ := hG
          have dg := dep_of hdep 4 (by kernel_rfl)
          refine og_want rfl (yielded_of hf (n := 88) (by kernel_rfl) rfl 4 33 dg (by kernel_rfl) (show V 4 = .bool false from hφ 4 dg)) ?_
          have d12 := dep_of hdep 12 (by kernel_rfl)
          have e41 := (new_slot hf 12 41 d12 (by kernel_rfl)).trans (show V 12 = .agg #[.bool sa1, .slice Aa1 na1 ca1, .bool sa2, .slice Aa2 na2 ca2] from hφ 12 d12)
          have d13 := dep_of hdep 13 (by kernel_rfl)
          have e42 := (new_slot hf 13 42 d13 (by kernel_rfl)).trans (show V 13 = .agg #[.bool sb1, .slice Ab1 nb1 cb1, .bool sb2, .slice Ab2 nb2 cb2] from hφ 13 d13)
          refine ob_go rfl (vs := #[.agg #[.bool sa1, .slice Aa1 na1 ca1, .bool sa2, .slice Aa2 na2 ca2], .agg #[.bool sb1, .slice Ab1 nb1 cb1, .bool sb2, .slice Ab2 nb2 cb2]]) (by simp only [List.map_toArray, List.map_cons, List.map_nil, e41, e42]) (by kernel_rfl) (cmpR_any _ _ _ (Rat.divInt pa qa) (Rat.divInt pb qb) 8 (RatA.of (Pair.mk (a := .A pa 8) (b := .A qa 8) Fa1_ Fa2_)) (RatA.of (Pair.mk (a := .A pb 8) (b := .A qb 8) Fb1_ Fb2_)) (by omega) (by omega)) ?_
          rintro e w2 ⟨he, hb⟩
          exact ⟨_, he, hb, rfl⟩
        · obtain ⟨Fa1_, Fa2_, Fb1_, Fb2_, Fc1_, Fc2_, Pa_, Pb_, Pc_, t7_1_, t7_2_, Xt7__, t8_1_, t8_2_, Xt8__, HB_⟩ := hG
          have dg := dep_of hdep 4 (by kernel_rfl)
          refine og_want rfl (yielded_of hf (n := 88) (by kernel_rfl) rfl 4 33 dg (by kernel_rfl) (show V 4 = .bool false from hφ 4 dg)) ?_
          have d11 := dep_of hdep 11 (by kernel_rfl)
          have e40 := (new_slot hf 11 40 d11 (by kernel_rfl)).trans (show V 11 = .int .i64 (cm (((Rat.divInt pa qa) + (Rat.divInt pc qc)) - ((Rat.divInt pb qb) + (Rat.divInt pc qc))).num 0) from hφ 11 d11)
          have d14 := dep_of hdep 14 (by kernel_rfl)
          have e43 := (new_slot hf 14 43 d14 (by kernel_rfl)).trans (show V 14 = .int .i64 (cm ((Rat.divInt pa qa) - (Rat.divInt pb qb)).num 0) from hφ 14 d14)
          exact ob_pure (ex_neq_int rfl e40 e43) (show Value.bool ((cm (((Rat.divInt pa qa) + (Rat.divInt pc qc)) - ((Rat.divInt pb qb) + (Rat.divInt pc qc))).num 0) != (cm ((Rat.divInt pa qa) - (Rat.divInt pb qb)).num 0)) = Value.bool false from by rw [E2.out]; simp)
        · obtain ⟨Fa1_, Fa2_, Fb1_, Fb2_, Fc1_, Fc2_, Pa_, Pb_, Pc_, t7_1_, t7_2_, Xt7__, t8_1_, t8_2_, Xt8__, HB_⟩ := hG
          refine og_none rfl ?_
          have d4 := dep_of hdep 4 (by kernel_rfl)
          have e33 := (new_slot hf 4 33 d4 (by kernel_rfl)).trans (show V 4 = .bool false from hφ 4 d4)
          have d15 := dep_of hdep 15 (by kernel_rfl)
          have e44 := (new_slot hf 15 44 d15 (by kernel_rfl)).trans (show V 15 = .bool false from hφ 15 d15)
          exact ob_pure (v := .bool false) (ex_pick_false rfl e33 e44) rfl
      · intro V W14 hG hsz14 hφ hψ hne
        have hlt14 : W8.heap.size ≤ W14.heap.size := hsz14
        obtain ⟨Fa1_, Fa2_, Fb1_, Fb2_, Fc1_, Fc2_, Pa_, Pb_, Pc_, t7_1_, t7_2_, Xt7__, t8_1_, t8_2_, Xt8__, HB_⟩ := hG
        have Fa1 := hid Fa1_
        have Fa2 := hid Fa2_
        have Fb1 := hid Fb1_
        have Fb2 := hid Fb2_
        have Fc1 := hid Fc1_
        have Fc2 := hid Fc2_
        have Pa := hid Pa_
        have Pb := hid Pb_
        have Pc := hid Pc_
        have t7_1 := hid t7_1_
        have t7_2 := hid t7_2_
        have Xt7_ := hid Xt7__
        have t8_1 := hid t8_1_
        have t8_2 := hid t8_2_
        have Xt8_ := hid Xt8__
        have HB := hid HB_
        have y0 : V 0 = .agg #[.bool q4051, .slice A4051 n4051 c4051, .bool q4052, .slice A4052 n4052 c4052] := hφ 0 (by decide)
        have y1 : V 1 = .agg #[.bool q8071, .slice A8071 n8071 c8071, .bool q8072, .slice A8072 n8072 c8072] := hφ 1 (by decide)
        have y2 : V 2 = .int .i64 (cm (((Rat.divInt pa qa) * ((Rat.divInt pb qb) + (Rat.divInt pc qc))) - (((Rat.divInt pa qa) * (Rat.divInt pb qb)) + ((Rat.divInt pa qa) * (Rat.divInt pc qc)))).num 0) := hφ 2 (by decide)
        have y3 : V 3 = .bool false := hφ 3 (by decide)
        have y4 : V 4 = .bool false := hφ 4 (by decide)
        have y5 : V 5 = .agg #[.bool sa1, .slice Aa1 na1 ca1, .bool sa2, .slice Aa2 na2 ca2] := hφ 5 (by decide)
        have y6 : V 6 = .agg #[.bool sc1, .slice Ac1 nc1 cc1, .bool sc2, .slice Ac2 nc2 cc2] := hφ 6 (by decide)
        have y8 : V 8 = .agg #[.bool sb1, .slice Ab1 nb1 cb1, .bool sb2, .slice Ab2 nb2 cb2] := hφ 8 (by decide)
        have y9 : V 9 = .agg #[.bool sc1, .slice Ac1 nc1 cc1, .bool sc2, .slice Ac2 nc2 cc2] := hφ 9 (by decide)
        have y11 : V 11 = .int .i64 (cm (((Rat.divInt pa qa) + (Rat.divInt pc qc)) - ((Rat.divInt pb qb) + (Rat.divInt pc qc))).num 0) := hφ 11 (by decide)
        have y12 : V 12 = .agg #[.bool sa1, .slice Aa1 na1 ca1, .bool sa2, .slice Aa2 na2 ca2] := hφ 12 (by decide)
        have y13 : V 13 = .agg #[.bool sb1, .slice Ab1 nb1 cb1, .bool sb2, .slice Ab2 nb2 cb2] := hφ 13 (by decide)
        have y14 : V 14 = .int .i64 (cm ((Rat.divInt pa qa) - (Rat.divInt pb qb)).num 0) := hφ 14 (by decide)
        have y15 : V 15 = .bool false := hφ 15 (by decide)
        have y16 : V 16 = .bool false := hφ 16 (by decide)
        simp only [puts, Act.put, List.setIfInBounds_toArray, List.set_cons_zero, List.set_cons_succ, y0, y1, y2, y3, y4, y5, y6, y8, y9, y11, y12, y13, y14, y15, y16]
        clear hφ hψ hne y0 y1 y2 y3 y4 y5 y6 y8 y9 y11 y12 y13 y14 y15 y16 Fa1_ Fa2_ Fb1_ Fb2_ Fc1_ Fc2_ Pa_ Pb_ Pc_ t7_1_ t7_2_ Xt7__ t8_1_ t8_2_ Xt8__ HB_ hsz14
        by_cases hz : (Rat.divInt pc qc) = 0
        · have HZ := hid hz
          clear hz
          have C := hid (cm_z HZ.out)
          go_wp2_with fail
          refine wp_region_eachG (by kernel_rfl) 16 88 rfl rfl (by kernel_rfl)
            [Fact.eq (.agg #[.bool sc1, .slice Ac1 nc1 cc1, .bool sc2, .slice Ac2 nc2 cc2]), Fact.eq (.int .i64 (cm ((Rat.divInt pc qc)).num 0)), Fact.eq (.bool false), Fact.eq (.bool false), Fact.eq undef, Fact.eq undef, Fact.eq undef, Fact.eq undef, Fact.eq undef, Fact.eq undef, Fact.eq undef, Fact.eq undef, Fact.eq undef, Fact.eq undef, Fact.eq undef, Fact.eq (.bool false)]
            [.val, .val, .val, .val, .val, .val, .val, .val, .val, .val, .val, .val, .val, .val, .val, .val]
            (fun w' => IntA w' (.agg #[.bool sa1, .slice Aa1 na1 ca1]) (pa) 8 ∧ IntA w' (.agg #[.bool sa2, .slice Aa2 na2 ca2]) (qa) 8 ∧ IntA w' (.agg #[.bool sb1, .slice Ab1 nb1 cb1]) (pb) 8 ∧ IntA w' (.agg #[.bool sb2, .slice Ab2 nb2 cb2]) (qb) 8 ∧ IntA w' (.agg #[.bool sc1, .slice Ac1 nc1 cc1]) (pc) 8 ∧ IntA w' (.agg #[.bool sc2, .slice Ac2 nc2 cc2]) (qc) 8 ∧ Blk w' (w.heap.size) 26 #[.bool sa1, .slice Aa1 na1 ca1, .bool sa2, .slice Aa2 na2 ca2] ∧ Blk w' (w.heap.size + 1) 26 #[.bool sb1, .slice Ab1 nb1 cb1, .bool sb2, .slice Ab2 nb2 cb2] ∧ Blk w' (w.heap.size + 1 + 1) 26 #[.bool sc1, .slice Ac1 nc1 cc1, .bool sc2, .slice Ac2 nc2 cc2] ∧ IntV w' (.agg #[.bool q4051, .slice A4051 n4051 c4051]) ((((Rat.divInt pa qa) * ((Rat.divInt pb qb) + (Rat.divInt pc qc)))).num) ∧ IntV w' (.agg #[.bool q4052, .slice A4052 n4052 c4052]) (((((Rat.divInt pa qa) * ((Rat.divInt pb qb) + (Rat.divInt pc qc)))).den : Int)) ∧ Blk w' (G4_5) 26 #[.bool q4051, .slice A4051 n4051 c4051, .bool q4052, .slice A4052 n4052 c4052] ∧ IntV w' (.agg #[.bool q8071, .slice A8071 n8071 c8071]) (((((Rat.divInt pa qa) * (Rat.divInt pb qb)) + ((Rat.divInt pa qa) * (Rat.divInt pc qc)))).num) ∧ IntV w' (.agg #[.bool q8072, .slice A8072 n8072 c8072]) ((((((Rat.divInt pa qa) * (Rat.divInt pb qb)) + ((Rat.divInt pa qa) * (Rat.divInt pc qc)))).den : Int)) ∧ Blk w' (G8_7) 26 #[.bool q8071, .slice A8071 n8071 c8071, .bool q8072, .slice A8072 n8072 c8072] ∧ Below w.heap.size w w')
            (fun _ _ _ => True) [] (fun _ => 0) (by kernel_rfl)
            ⟨Fa1.out, Fa2.out, Fb1.out, Fb2.out, Fc1.out, Fc2.out, Pa.out, Pb.out, Pc.out, t7_1.out, t7_2.out, Xt7_.out, t8_1.out, t8_2.out, Xt8_.out, HB.out⟩
            (fun w1 w2 ⟨h0, h1, h2, h3, h4, h5, h6, h7, h8, h9, h10, h11, h12, h13, h14, h15⟩ hb => ⟨h0.below hb, h1.below hb, h2.below hb, h3.below hb, h4.below hb, h5.below hb, h6.below hb, h7.below hb, h8.below hb, h9.below hb, h10.below hb, h11.below hb, h12.below hb, h13.below hb, h14.below hb, bw_step h15 hb⟩)
            (fun w1 w2 g ⟨h0, h1, h2, h3, h4, h5, h6, h7, h8, h9, h10, h11, h12, h13, h14, h15⟩ hg hn ho => by
              have hg' : W14.heap.size ≤ g := hg.elim id (fun ⟨_, h, _⟩ => absurd h (Nat.not_lt_zero _))
              exact ⟨h0.only hn ho, h1.only hn ho, h2.only hn ho, h3.only hn ho, h4.only hn ho, h5.only hn ho, h6.only ho (by have := Pa.out.lt; have := Pb.out.lt; have := Pc.out.lt; have := Xt7_.out.lt; have := Xt8_.out.lt; omega), h7.only ho (by have := Pa.out.lt; have := Pb.out.lt; have := Pc.out.lt; have := Xt7_.out.lt; have := Xt8_.out.lt; omega), h8.only ho (by have := Pa.out.lt; have := Pb.out.lt; have := Pc.out.lt; have := Xt7_.out.lt; have := Xt8_.out.lt; omega), h9.only hn ho, h10.only hn ho, h11.only ho (by have := Pa.out.lt; have := Pb.out.lt; have := Pc.out.lt; have := Xt7_.out.lt; have := Xt8_.out.lt; omega), h12.only hn ho, h13.only hn ho, h14.only ho (by have := Pa.out.lt; have := Pb.out.lt; have := Pc.out.lt; have := Xt7_.out.lt; have := Xt8_.out.lt; omega), below_only h15 ho (by have := Pa.out.lt; have := Pb.out.lt; have := Pc.out.lt; have := Xt7_.out.lt; have := Xt8_.out.lt; have := HB.out.size; omega)⟩)
            (fun l h => trivial) (fun l b w1 w2 h _ _ => trivial) (fun l b w1 w2 g h _ _ _ _ => trivial) (fun l h => by cases h) (fun l k h => by cases h) ?_ ?_
          · refine ⟨?_, ?_, ?_, ?_, ?_, ?_, ?_, ?_, ?_, ?_, ?_, ?_, ?_, ?_, ?_, ?_, trivial⟩ <;> intro L V a1 w1 hf hG hsz hφ hψ hL hdep hcl
            · obtain ⟨Fa1_, Fa2_, Fb1_, Fb2_, Fc1_, Fc2_, Pa_, Pb_, Pc_, t7_1_, t7_2_, Xt7__, t8_1_, t8_2_, Xt8__, HB_⟩ := hG
              refine og_none rfl ?_
              have e5 := old_slot hf 5 (by kernel_rfl)
              exact ob_pure (ex_loadR rfl e5 Pc_) rfl
            · obtain ⟨Fa1_, Fa2_, Fb1_, Fb2_, Fc1_, Fc2_, Pa_, Pb_, Pc_, t7_1_, t7_2_, Xt7__, t8_1_, t8_2_, Xt8__, HB_⟩ := hG
              refine og_none rfl ?_
              have d0 := dep_of hdep 0 (by kernel_rfl)
              have e46 := (new_slot hf 0 46 d0 (by kernel_rfl)).trans (show V 0 = .agg #[.bool sc1, .slice Ac1 nc1 cc1, .bool sc2, .slice Ac2 nc2 cc2] from hφ 0 d0)
              refine ob_go rfl (vs := #[.agg #[.bool sc1, .slice Ac1 nc1 cc1, .bool sc2, .slice Ac2 nc2 cc2]]) (by simp only [List.map_toArray, List.map_cons, List.map_nil, e46]) (by kernel_rfl) (signR_any _ _ (Rat.divInt pc qc) 8 (RatA.of (Pair.mk (a := .A pc 8) (b := .A qc 8) Fc1_ Fc2_)) (by omega) (by omega)) ?_
              rintro e w2 ⟨he, hb⟩
              exact ⟨_, he, hb, rfl⟩
            · obtain ⟨Fa1_, Fa2_, Fb1_, Fb2_, Fc1_, Fc2_, Pa_, Pb_, Pc_, t7_1_, t7_2_, Xt7__, t8_1_, t8_2_, Xt8__, HB_⟩ := hG
              refine og_none rfl ?_
              have d1 := dep_of hdep 1 (by kernel_rfl)
              have e47 := (new_slot hf 1 47 d1 (by kernel_rfl)).trans (show V 1 = .int .i64 (cm ((Rat.divInt pc qc)).num 0) from hφ 1 d1)
              exact ob_pure (ex_gtr_int rfl e47 rfl) (show Value.bool (decide (0 < (cm ((Rat.divInt pc qc)).num 0))) = Value.bool false from by rw [C.out]; rfl)
            · obtain ⟨Fa1_, Fa2_, Fb1_, Fb2_, Fc1_, Fc2_, Pa_, Pb_, Pc_, t7_1_, t7_2_, Xt7__, t8_1_, t8_2_, Xt8__, HB_⟩ := hG
              refine og_none rfl ?_
              have d2 := dep_of hdep 2 (by kernel_rfl)
              have e48 := (new_slot hf 2 48 d2 (by kernel_rfl)).trans (show V 2 = .bool false from hφ 2 d2)
              exact ob_pure (v := .bool false) (ex_moveV rfl e48) rfl
            · obtain ⟨Fa1_, Fa2_, Fb1_, Fb2_, Fc1_, Fc2_, Pa_, Pb_, Pc_, t7_1_, t7_2_, Xt7__, t8_1_, t8_2_, Xt8__, HB_⟩ := hG
              have dg := dep_of hdep 3 (by kernel_rfl)
              exact og_skip rfl (yielded_of hf (n := 88) (by kernel_rfl) rfl 3 49 dg (by kernel_rfl) (show V 3 = .bool false from hφ 3 dg)) rfl rfl
            · obtain ⟨Fa1_, Fa2_, Fb1_, Fb2_, Fc1_, Fc2_, Pa_, Pb_, Pc_, t7_1_, t7_2_, Xt7__, t8_1_, t8_2_, Xt8__, HB_⟩ := hG
              have dg := dep_of hdep 3 (by kernel_rfl)
              exact og_skip rfl (yielded_of hf (n := 88) (by kernel_rfl) rfl 3 49 dg (by kernel_rfl) (show V 3 = .bool false from hφ 3 dg)) rfl rfl
            · obtain ⟨Fa1_, Fa2_, Fb1_, Fb2_, Fc1_, Fc2_, Pa_, Pb_, Pc_, t7_1_, t7_2_, Xt7__, t8_1_, t8_2_, Xt8__, HB_⟩ := hG
              have dg := dep_of hdep 3 (by kernel_rfl)
              exact og_skip rfl (yielded_of hf (n := 88) (by kernel_rfl) rfl 3 49 dg (by kernel_rfl) (show V 3 = .bool false from hφ 3 dg)) rfl rfl
            · obtain ⟨Fa1_, Fa2_, Fb1_, Fb2_, Fc1_, Fc2_, Pa_, Pb_, Pc_, t7_1_, t7_2_, Xt7__, t8_1_, t8_2_, Xt8__, HB_⟩ := hG
              have dg := dep_of hdep 3 (by kernel_rfl)
              exact og_skip rfl (yielded_of hf (n := 88) (by kernel_rfl) rfl 3 49 dg (by kernel_rfl) (show V 3 = .bool false from hφ 3 dg)) rfl rfl
            · obtain ⟨Fa1_, Fa2_, Fb1_, Fb2_, Fc1_, Fc2_, Pa_, Pb_, Pc_, t7_1_, t7_2_, Xt7__, t8_1_, t8_2_, Xt8__, HB_⟩ := hG
              have dg := dep_of hdep 3 (by kernel_rfl)
              exact og_skip rfl (yielded_of hf (n := 88) (by kernel_rfl) rfl 3 49 dg (by kernel_rfl) (show V 3 = .bool false from hφ 3 dg)) rfl rfl
            · obtain ⟨Fa1_, Fa2_, Fb1_, Fb2_, Fc1_, Fc2_, Pa_, Pb_, Pc_, t7_1_, t7_2_, Xt7__, t8_1_, t8_2_, Xt8__, HB_⟩ := hG
              have dg := dep_of hdep 3 (by kernel_rfl)
              exact og_skip rfl (yielded_of hf (n := 88) (by kernel_rfl) rfl 3 49 dg (by kernel_rfl) (show V 3 = .bool false from hφ 3 dg)) rfl rfl
            · obtain ⟨Fa1_, Fa2_, Fb1_, Fb2_, Fc1_, Fc2_, Pa_, Pb_, Pc_, t7_1_, t7_2_, Xt7__, t8_1_, t8_2_, Xt8__, HB_⟩ := hG
              have dg := dep_of hdep 3 (by kernel_rfl)
              exact og_skip rfl (yielded_of hf (n := 88) (by kernel_rfl) rfl 3 49 dg (by kernel_rfl) (show V 3 = .bool false from hφ 3 dg)) rfl rfl
            · obtain ⟨Fa1_, Fa2_, Fb1_, Fb2_, Fc1_, Fc2_, Pa_, Pb_, Pc_, t7_1_, t7_2_, Xt7__, t8_1_, t8_2_, Xt8__, HB_⟩ := hG
              have dg := dep_of hdep 3 (by kernel_rfl)
              exact og_skip rfl (yielded_of hf (n := 88) (by kernel_rfl) rfl 3 49 dg (by kernel_rfl) (show V 3 = .bool false from hφ 3 dg)) rfl rfl
            · obtain ⟨Fa1_, Fa2_, Fb1_, Fb2_, Fc1_, Fc2_, Pa_, Pb_, Pc_, t7_1_, t7_2_, Xt7__, t8_1_, t8_2_, Xt8__, HB_⟩ := hG
              have dg := dep_of hdep 3 (by kernel_rfl)
              exact og_skip rfl (yielded_of hf (n := 88) (by kernel_rfl) rfl 3 49 dg (by kernel_rfl) (show V 3 = .bool false from hφ 3 dg)) rfl rfl
            · obtain ⟨Fa1_, Fa2_, Fb1_, Fb2_, Fc1_, Fc2_, Pa_, Pb_, Pc_, t7_1_, t7_2_, Xt7__, t8_1_, t8_2_, Xt8__, HB_⟩ := hG
              have dg := dep_of hdep 3 (by kernel_rfl)
              exact og_skip rfl (yielded_of hf (n := 88) (by kernel_rfl) rfl 3 49 dg (by kernel_rfl) (show V 3 = .bool false from hφ 3 dg)) rfl rfl
            · obtain ⟨Fa1_, Fa2_, Fb1_, Fb2_, Fc1_, Fc2_, Pa_, Pb_, Pc_, t7_1_, t7_2_, Xt7__, t8_1_, t8_2_, Xt8__, HB_⟩ := hG
              have dg := dep_of hdep 3 (by kernel_rfl)
              exact og_skip rfl (yielded_of hf (n := 88) (by kernel_rfl) rfl 3 49 dg (by kernel_rfl) (show V 3 = .bool false from hφ 3 dg)) rfl rfl
            · obtain ⟨Fa1_, Fa2_, Fb1_, Fb2_, Fc1_, Fc2_, Pa_, Pb_, Pc_, t7_1_, t7_2_, Xt7__, t8_1_, t8_2_, Xt8__, HB_⟩ := hG
              refine og_none rfl ?_
              have d3 := dep_of hdep 3 (by kernel_rfl)
              have e49 := (new_slot hf 3 49 d3 (by kernel_rfl)).trans (show V 3 = .bool false from hφ 3 d3)
              exact ob_pure (v := .bool false) (ex_pick_false rfl e49 rfl) rfl
          · intro V W16 hG hsz16 hφ hψ hne
            have hlt16 : W14.heap.size ≤ W16.heap.size := hsz16
            obtain ⟨Fa1_, Fa2_, Fb1_, Fb2_, Fc1_, Fc2_, Pa_, Pb_, Pc_, t7_1_, t7_2_, Xt7__, t8_1_, t8_2_, Xt8__, HB_⟩ := hG
            have Fa1 := hid Fa1_
            have Fa2 := hid Fa2_
            have Fb1 := hid Fb1_
            have Fb2 := hid Fb2_
            have Fc1 := hid Fc1_
            have Fc2 := hid Fc2_
            have Pa := hid Pa_
            have Pb := hid Pb_
            have Pc := hid Pc_
            have t7_1 := hid t7_1_
            have t7_2 := hid t7_2_
            have Xt7_ := hid Xt7__
            have t8_1 := hid t8_1_
            have t8_2 := hid t8_2_
            have Xt8_ := hid Xt8__
            have HB := hid HB_
            have y0 : V 0 = .agg #[.bool sc1, .slice Ac1 nc1 cc1, .bool sc2, .slice Ac2 nc2 cc2] := hφ 0 (by decide)
            have y1 : V 1 = .int .i64 (cm ((Rat.divInt pc qc)).num 0) := hφ 1 (by decide)
            have y2 : V 2 = .bool false := hφ 2 (by decide)
            have y3 : V 3 = .bool false := hφ 3 (by decide)
            have y4 : V 4 = undef := hφ 4 (by decide)
            have y5 : V 5 = undef := hφ 5 (by decide)
            have y6 : V 6 = undef := hφ 6 (by decide)
            have y7 : V 7 = undef := hφ 7 (by decide)
            have y8 : V 8 = undef := hφ 8 (by decide)
            have y9 : V 9 = undef := hφ 9 (by decide)
            have y10 : V 10 = undef := hφ 10 (by decide)
            have y11 : V 11 = undef := hφ 11 (by decide)
            have y12 : V 12 = undef := hφ 12 (by decide)
            have y13 : V 13 = undef := hφ 13 (by decide)
            have y14 : V 14 = undef := hφ 14 (by decide)
            have y15 : V 15 = .bool false := hφ 15 (by decide)
            simp only [puts, Act.put, List.setIfInBounds_toArray, List.set_cons_zero, List.set_cons_succ, y0, y1, y2, y3, y4, y5, y6, y7, y8, y9, y10, y11, y12, y13, y14, y15]
            clear hφ hψ hne y0 y1 y2 y3 y4 y5 y6 y7 y8 y9 y10 y11 y12 y13 y14 y15 Fa1_ Fa2_ Fb1_ Fb2_ Fc1_ Fc2_ Pa_ Pb_ Pc_ t7_1_ t7_2_ Xt7__ t8_1_ t8_2_ Xt8__ HB_ hsz16
            go_wp2_with (with_reducible refine halt_at 63 rfl ?_)
            have lt17_Pa := Pa.out.lt
            have lt17_Pb := Pb.out.lt
            have lt17_Pc := Pc.out.lt
            have lt17_Xt7_ := Xt7_.out.lt
            have lt17_Xt8_ := Xt8_.out.lt
            unfold Halted
            refine wp_list_each (by kernel_rfl) 9 88 rfl rfl (by kernel_rfl)
              [Fact.eq (.agg #[.bool sa1, .slice Aa1 na1 ca1, .bool sa2, .slice Aa2 na2 ca2]), Fact.eq (.agg #[.bool sc1, .slice Ac1 nc1 cc1, .bool sc2, .slice Ac2 nc2 cc2]), Fact.pairB (.V 0) (.V 0) false, Fact.pairB (.V 0) (.V 0) false, Fact.pair (.V 0) (.V 0), Fact.eq (.bool false), Fact.boxR 26 Rne (.V 0) (.V 0), Fact.top _, Fact.eq (.bool false)]
              [.val, .val, .val, .val, .val, .val, .alloc 7, .fill 6, .val]
              (fun w' => IntA w' (.agg #[.bool sa1, .slice Aa1 na1 ca1]) (pa) 8 ∧ IntA w' (.agg #[.bool sa2, .slice Aa2 na2 ca2]) (qa) 8 ∧ IntA w' (.agg #[.bool sb1, .slice Ab1 nb1 cb1]) (pb) 8 ∧ IntA w' (.agg #[.bool sb2, .slice Ab2 nb2 cb2]) (qb) 8 ∧ IntA w' (.agg #[.bool sc1, .slice Ac1 nc1 cc1]) (pc) 8 ∧ IntA w' (.agg #[.bool sc2, .slice Ac2 nc2 cc2]) (qc) 8 ∧ Blk w' (w.heap.size) 26 #[.bool sa1, .slice Aa1 na1 ca1, .bool sa2, .slice Aa2 na2 ca2] ∧ Blk w' (w.heap.size + 1) 26 #[.bool sb1, .slice Ab1 nb1 cb1, .bool sb2, .slice Ab2 nb2 cb2] ∧ Blk w' (w.heap.size + 1 + 1) 26 #[.bool sc1, .slice Ac1 nc1 cc1, .bool sc2, .slice Ac2 nc2 cc2] ∧ IntV w' (.agg #[.bool q4051, .slice A4051 n4051 c4051]) ((((Rat.divInt pa qa) * ((Rat.divInt pb qb) + (Rat.divInt pc qc)))).num) ∧ IntV w' (.agg #[.bool q4052, .slice A4052 n4052 c4052]) (((((Rat.divInt pa qa) * ((Rat.divInt pb qb) + (Rat.divInt pc qc)))).den : Int)) ∧ Blk w' (G4_5) 26 #[.bool q4051, .slice A4051 n4051 c4051, .bool q4052, .slice A4052 n4052 c4052] ∧ IntV w' (.agg #[.bool q8071, .slice A8071 n8071 c8071]) (((((Rat.divInt pa qa) * (Rat.divInt pb qb)) + ((Rat.divInt pa qa) * (Rat.divInt pc qc)))).num) ∧ IntV w' (.agg #[.bool q8072, .slice A8072 n8072 c8072]) ((((((Rat.divInt pa qa) * (Rat.divInt pb qb)) + ((Rat.divInt pa qa) * (Rat.divInt pc qc)))).den : Int)) ∧ Blk w' (G8_7) 26 #[.bool q8071, .slice A8071 n8071 c8071, .bool q8072, .slice A8072 n8072 c8072] ∧ Below w.heap.size w w')
              (fun _ _ _ => True) [] (fun _ => 0) (by kernel_rfl)
              ⟨Fa1.out, Fa2.out, Fb1.out, Fb2.out, Fc1.out, Fc2.out, Pa.out, Pb.out, Pc.out, t7_1.out, t7_2.out, Xt7_.out, t8_1.out, t8_2.out, Xt8_.out, HB.out⟩
              (fun w1 w2 ⟨h0, h1, h2, h3, h4, h5, h6, h7, h8, h9, h10, h11, h12, h13, h14, h15⟩ hb => ⟨h0.below hb, h1.below hb, h2.below hb, h3.below hb, h4.below hb, h5.below hb, h6.below hb, h7.below hb, h8.below hb, h9.below hb, h10.below hb, h11.below hb, h12.below hb, h13.below hb, h14.below hb, bw_step h15 hb⟩)
              (fun w1 w2 g ⟨h0, h1, h2, h3, h4, h5, h6, h7, h8, h9, h10, h11, h12, h13, h14, h15⟩ hg hn ho => by
                have hg' : W16.heap.size ≤ g := hg.elim id (fun ⟨_, h, _⟩ => absurd h (Nat.not_lt_zero _))
                exact ⟨h0.only hn ho, h1.only hn ho, h2.only hn ho, h3.only hn ho, h4.only hn ho, h5.only hn ho, h6.only ho (by have := Pa.out.lt; have := Pb.out.lt; have := Pc.out.lt; have := Xt7_.out.lt; have := Xt8_.out.lt; omega), h7.only ho (by have := Pa.out.lt; have := Pb.out.lt; have := Pc.out.lt; have := Xt7_.out.lt; have := Xt8_.out.lt; omega), h8.only ho (by have := Pa.out.lt; have := Pb.out.lt; have := Pc.out.lt; have := Xt7_.out.lt; have := Xt8_.out.lt; omega), h9.only hn ho, h10.only hn ho, h11.only ho (by have := Pa.out.lt; have := Pb.out.lt; have := Pc.out.lt; have := Xt7_.out.lt; have := Xt8_.out.lt; omega), h12.only hn ho, h13.only hn ho, h14.only ho (by have := Pa.out.lt; have := Pb.out.lt; have := Pc.out.lt; have := Xt7_.out.lt; have := Xt8_.out.lt; omega), below_only h15 ho (by have := Pa.out.lt; have := Pb.out.lt; have := Pc.out.lt; have := Xt7_.out.lt; have := Xt8_.out.lt; have := HB.out.size; omega)⟩)
              (fun l h => trivial) (fun l b w1 w2 h _ _ => trivial) (fun l b w1 w2 g h _ _ _ _ => trivial) (fun l h => by cases h) (fun l k h => by cases h) ?_ ?_
            · refine ⟨?_, ?_, ?_, ?_, ?_, ?_, ?_, ?_, ?_, trivial⟩ <;> intro L V a1 w1 hf hG hsz hφ hψ hL hdep hcl
              · obtain ⟨Fa1_, Fa2_, Fb1_, Fb2_, Fc1_, Fc2_, Pa_, Pb_, Pc_, t7_1_, t7_2_, Xt7__, t8_1_, t8_2_, Xt8__, HB_⟩ := hG
                have e3 := old_slot hf 3 (by kernel_rfl)
                exact ob_pure (ex_loadR rfl e3 Pa_) rfl
              · obtain ⟨Fa1_, Fa2_, Fb1_, Fb2_, Fc1_, Fc2_, Pa_, Pb_, Pc_, t7_1_, t7_2_, Xt7__, t8_1_, t8_2_, Xt8__, HB_⟩ := hG
                have e5 := old_slot hf 5 (by kernel_rfl)
                exact ob_pure (ex_loadR rfl e5 Pc_) rfl
              · obtain ⟨Fa1_, Fa2_, Fb1_, Fb2_, Fc1_, Fc2_, Pa_, Pb_, Pc_, t7_1_, t7_2_, Xt7__, t8_1_, t8_2_, Xt8__, HB_⟩ := hG
                have d0 := dep_of hdep 0 (by kernel_rfl)
                have e63 := (new_slot hf 0 63 d0 (by kernel_rfl)).trans (show V 0 = .agg #[.bool sa1, .slice Aa1 na1 ca1, .bool sa2, .slice Aa2 na2 ca2] from hφ 0 d0)
                have d1 := dep_of hdep 1 (by kernel_rfl)
                have e64 := (new_slot hf 1 64 d1 (by kernel_rfl)).trans (show V 1 = .agg #[.bool sc1, .slice Ac1 nc1 cc1, .bool sc2, .slice Ac2 nc2 cc2] from hφ 1 d1)
                refine ob_go rfl (vs := #[.agg #[.bool sa1, .slice Aa1 na1 ca1, .bool sa2, .slice Aa2 na2 ca2], .agg #[.bool sc1, .slice Ac1 nc1 cc1, .bool sc2, .slice Ac2 nc2 cc2]]) (by simp only [List.map_toArray, List.map_cons, List.map_nil, e63, e64]) (by kernel_rfl) (quoR_zero _ _ _ (Rat.divInt pa qa) (Rat.divInt pc qc) 8 (RatA.of (Pair.mk (a := .A pa 8) (b := .A qa 8) Fa1_ Fa2_)) (RatA.of (Pair.mk (a := .A pc 8) (b := .A qc 8) Fc1_ Fc2_)) (by omega) (by omega) (HZ.out)) ?_
                rintro e w2 ⟨⟨v, rfl, hv⟩, hb⟩
                exact ⟨v, rfl, hb, hv⟩
              · obtain ⟨Fa1_, Fa2_, Fb1_, Fb2_, Fc1_, Fc2_, Pa_, Pb_, Pc_, t7_1_, t7_2_, Xt7__, t8_1_, t8_2_, Xt8__, HB_⟩ := hG
                have d2 := dep_of hdep 2 (by kernel_rfl)
                have e65 := new_slot hf 2 65 d2 (by kernel_rfl)
                have p65 : PairB w1 (V 2) (.V 0) (.V 0) false := hφ 2 d2
                exact ob_pure (ex_moveV rfl e65) (by exact p65)
              · obtain ⟨Fa1_, Fa2_, Fb1_, Fb2_, Fc1_, Fc2_, Pa_, Pb_, Pc_, t7_1_, t7_2_, Xt7__, t8_1_, t8_2_, Xt8__, HB_⟩ := hG
                have d3 := dep_of hdep 3 (by kernel_rfl)
                have e62 := new_slot hf 3 62 d3 (by kernel_rfl)
                have p62 : PairB w1 (V 3) (.V 0) (.V 0) false := hφ 3 d3
                exact ob_pairB0 rfl e62 p62 rfl
              · obtain ⟨Fa1_, Fa2_, Fb1_, Fb2_, Fc1_, Fc2_, Pa_, Pb_, Pc_, t7_1_, t7_2_, Xt7__, t8_1_, t8_2_, Xt8__, HB_⟩ := hG
                have d3 := dep_of hdep 3 (by kernel_rfl)
                have e62 := new_slot hf 3 62 d3 (by kernel_rfl)
                have p62 : PairB w1 (V 3) (.V 0) (.V 0) false := hφ 3 d3
                exact ob_pairB1 rfl e62 p62 rfl
              · obtain ⟨Fa1_, Fa2_, Fb1_, Fb2_, Fc1_, Fc2_, Pa_, Pb_, Pc_, t7_1_, t7_2_, Xt7__, t8_1_, t8_2_, Xt8__, HB_⟩ := hG
                exact ob_allocR rfl hsz rfl
              · obtain ⟨Fa1_, Fa2_, Fb1_, Fb2_, Fc1_, Fc2_, Pa_, Pb_, Pc_, t7_1_, t7_2_, Xt7__, t8_1_, t8_2_, Xt8__, HB_⟩ := hG
                have d4 := dep_of hdep 4 (by kernel_rfl)
                have e66 := new_slot hf 4 66 d4 (by kernel_rfl)
                have p66 : Pair w1 (V 4) (.V 0) (.V 0) := hφ 4 d4
                have d6 := dep_of hdep 6 (by kernel_rfl)
                obtain ⟨g, h1, h2, h3, _⟩ := hφ 6 d6
                have hz := h3 (show (true && L 7) = false from by have h : L 7 = false := hL; rw [h]; rfl)
                exact ob_fillR rfl ((new_slot hf 6 9 d6 (by kernel_rfl)).trans h1) e66 h1 h2 hz p66 rfl rfl
              · obtain ⟨Fa1_, Fa2_, Fb1_, Fb2_, Fc1_, Fc2_, Pa_, Pb_, Pc_, t7_1_, t7_2_, Xt7__, t8_1_, t8_2_, Xt8__, HB_⟩ := hG
                have d5 := dep_of hdep 5 (by kernel_rfl)
                have e67 := (new_slot hf 5 67 d5 (by kernel_rfl)).trans (show V 5 = .bool false from hφ 5 d5)
                exact ob_pure (v := .bool false) (ex_assignV rfl e67) rfl
            · intro V W18 hG hsz18 hφ hψ hne
              have hlt18 : W16.heap.size ≤ W18.heap.size := hsz18
              obtain ⟨Fa1_, Fa2_, Fb1_, Fb2_, Fc1_, Fc2_, Pa_, Pb_, Pc_, t7_1_, t7_2_, Xt7__, t8_1_, t8_2_, Xt8__, HB_⟩ := hG
              have Fa1 := hid Fa1_
              have Fa2 := hid Fa2_
              have Fb1 := hid Fb1_
              have Fb2 := hid Fb2_
              have Fc1 := hid Fc1_
              have Fc2 := hid Fc2_
              have Pa := hid Pa_
              have Pb := hid Pb_
              have Pc := hid Pc_
              have t7_1 := hid t7_1_
              have t7_2 := hid t7_2_
              have Xt7_ := hid Xt7__
              have t8_1 := hid t8_1_
              have t8_2 := hid t8_2_
              have Xt8_ := hid Xt8__
              have HB := hid HB_
              have y0 : V 0 = .agg #[.bool sa1, .slice Aa1 na1 ca1, .bool sa2, .slice Aa2 na2 ca2] := hφ 0 (by decide)
              have y1 : V 1 = .agg #[.bool sc1, .slice Ac1 nc1 cc1, .bool sc2, .slice Ac2 nc2 cc2] := hφ 1 (by decide)
              have y5 : V 5 = .bool false := hφ 5 (by decide)
              obtain ⟨G18_6, y6, gb1806, _, hb1806⟩ := hφ 6 (by decide)
              obtain ⟨q18061, A18061, n18061, c18061, q18062, A18062, n18062, c18062, kb1806, va1806, vb1806⟩ := hb1806 rfl
              have Xt9_ := hid kb1806
              have t9_1 : Hid (IntV W18 (.agg #[.bool q18061, .slice A18061 n18061 c18061]) 0) := hid va1806
              have t9_2 : Hid (IntV W18 (.agg #[.bool q18062, .slice A18062 n18062 c18062]) 0) := hid vb1806
              clear kb1806 va1806 vb1806
              clear hb1806
              have y8 : V 8 = .bool false := hφ 8 (by decide)
              simp only [puts, Act.put, List.setIfInBounds_toArray, List.set_cons_zero, List.set_cons_succ, y0, y1, y5, y6, y8, ptr]
              clear hφ hψ hne y0 y1 y5 y6 y8 Fa1_ Fa2_ Fb1_ Fb2_ Fc1_ Fc2_ Pa_ Pb_ Pc_ t7_1_ t7_2_ Xt7__ t8_1_ t8_2_ Xt8__ HB_ hsz18
              go_wp2_with fail
              refine wp_region_eachG (by kernel_rfl) 21 88 rfl rfl (by kernel_rfl)
                [Fact.eq (.bool false), Fact.eq (.agg #[.bool sc1, .slice Ac1 nc1 cc1, .bool sc2, .slice Ac2 nc2 cc2]), Fact.eq (.int .i64 (cm ((Rat.divInt pc qc)).num 0)), Fact.eq (.bool false), Fact.eq (.bool true), Fact.eq (.bool true), Fact.eq (.bool false), Fact.eq (.bool true), Fact.eq (.bool true), Fact.eq undef, Fact.eq undef, Fact.eq undef, Fact.eq undef, Fact.eq undef, Fact.eq undef, Fact.eq (.bool true), Fact.eq (.bool true), Fact.eq (.bool true), Fact.eq (.bool true), Fact.eq (.bool true), Fact.eq (.bool true)]
                [.val, .val, .val, .val, .val, .val, .val, .val, .val, .val, .val, .val, .val, .val, .val, .val, .val, .val, .val, .val, .val]
                (fun w' => IntA w' (.agg #[.bool sa1, .slice Aa1 na1 ca1]) (pa) 8 ∧ IntA w' (.agg #[.bool sa2, .slice Aa2 na2 ca2]) (qa) 8 ∧ IntA w' (.agg #[.bool sb1, .slice Ab1 nb1 cb1]) (pb) 8 ∧ IntA w' (.agg #[.bool sb2, .slice Ab2 nb2 cb2]) (qb) 8 ∧ IntA w' (.agg #[.bool sc1, .slice Ac1 nc1 cc1]) (pc) 8 ∧ IntA w' (.agg #[.bool sc2, .slice Ac2 nc2 cc2]) (qc) 8 ∧ Blk w' (w.heap.size) 26 #[.bool sa1, .slice Aa1 na1 ca1, .bool sa2, .slice Aa2 na2 ca2] ∧ Blk w' (w.heap.size + 1) 26 #[.bool sb1, .slice Ab1 nb1 cb1, .bool sb2, .slice Ab2 nb2 cb2] ∧ Blk w' (w.heap.size + 1 + 1) 26 #[.bool sc1, .slice Ac1 nc1 cc1, .bool sc2, .slice Ac2 nc2 cc2] ∧ IntV w' (.agg #[.bool q4051, .slice A4051 n4051 c4051]) ((((Rat.divInt pa qa) * ((Rat.divInt pb qb) + (Rat.divInt pc qc)))).num) ∧ IntV w' (.agg #[.bool q4052, .slice A4052 n4052 c4052]) (((((Rat.divInt pa qa) * ((Rat.divInt pb qb) + (Rat.divInt pc qc)))).den : Int)) ∧ Blk w' (G4_5) 26 #[.bool q4051, .slice A4051 n4051 c4051, .bool q4052, .slice A4052 n4052 c4052] ∧ IntV w' (.agg #[.bool q8071, .slice A8071 n8071 c8071]) (((((Rat.divInt pa qa) * (Rat.divInt pb qb)) + ((Rat.divInt pa qa) * (Rat.divInt pc qc)))).num) ∧ IntV w' (.agg #[.bool q8072, .slice A8072 n8072 c8072]) ((((((Rat.divInt pa qa) * (Rat.divInt pb qb)) + ((Rat.divInt pa qa) * (Rat.divInt pc qc)))).den : Int)) ∧ Blk w' (G8_7) 26 #[.bool q8071, .slice A8071 n8071 c8071, .bool q8072, .slice A8072 n8072 c8072] ∧ IntV w' (.agg #[.bool q18061, .slice A18061 n18061 c18061]) (0) ∧ IntV w' (.agg #[.bool q18062, .slice A18062 n18062 c18062]) (0) ∧ Blk w' (G18_6) 26 #[.bool q18061, .slice A18061 n18061 c18061, .bool q18062, .slice A18062 n18062 c18062] ∧ Below w.heap.size w w')
                (fun _ _ _ => True) [] (fun _ => 0) (by kernel_rfl)
                ⟨Fa1.out, Fa2.out, Fb1.out, Fb2.out, Fc1.out, Fc2.out, Pa.out, Pb.out, Pc.out, t7_1.out, t7_2.out, Xt7_.out, t8_1.out, t8_2.out, Xt8_.out, t9_1.out, t9_2.out, Xt9_.out, HB.out⟩
                (fun w1 w2 ⟨h0, h1, h2, h3, h4, h5, h6, h7, h8, h9, h10, h11, h12, h13, h14, h15, h16, h17, h18⟩ hb => ⟨h0.below hb, h1.below hb, h2.below hb, h3.below hb, h4.below hb, h5.below hb, h6.below hb, h7.below hb, h8.below hb, h9.below hb, h10.below hb, h11.below hb, h12.below hb, h13.below hb, h14.below hb, h15.below hb, h16.below hb, h17.below hb, bw_step h18 hb⟩)
                (fun w1 w2 g ⟨h0, h1, h2, h3, h4, h5, h6, h7, h8, h9, h10, h11, h12, h13, h14, h15, h16, h17, h18⟩ hg hn ho => by
                  have hg' : W18.heap.size ≤ g := hg.elim id (fun ⟨_, h, _⟩ => absurd h (Nat.not_lt_zero _))
                  exact ⟨h0.only hn ho, h1.only hn ho, h2.only hn ho, h3.only hn ho, h4.only hn ho, h5.only hn ho, h6.only ho (by have := Pa.out.lt; have := Pb.out.lt; have := Pc.out.lt; have := Xt7_.out.lt; have := Xt8_.out.lt; have := Xt9_.out.lt; omega), h7.only ho (by have := Pa.out.lt; have := Pb.out.lt; have := Pc.out.lt; have := Xt7_.out.lt; have := Xt8_.out.lt; have := Xt9_.out.lt; omega), h8.only ho (by have := Pa.out.lt; have := Pb.out.lt; have := Pc.out.lt; have := Xt7_.out.lt; have := Xt8_.out.lt; have := Xt9_.out.lt; omega), h9.only hn ho, h10.only hn ho, h11.only ho (by have := Pa.out.lt; have := Pb.out.lt; have := Pc.out.lt; have := Xt7_.out.lt; have := Xt8_.out.lt; have := Xt9_.out.lt; omega), h12.only hn ho, h13.only hn ho, h14.only ho (by have := Pa.out.lt; have := Pb.out.lt; have := Pc.out.lt; have := Xt7_.out.lt; have := Xt8_.out.lt; have := Xt9_.out.lt; omega), h15.only hn ho, h16.only hn ho, h17.only ho (by have := Pa.out.lt; have := Pb.out.lt; have := Pc.out.lt; have := Xt7_.out.lt; have := Xt8_.out.lt; have := Xt9_.out.lt; omega), below_only h18 ho (by have := Pa.out.lt; have := Pb.out.lt; have := Pc.out.lt; have := Xt7_.out.lt; have := Xt8_.out.lt; have := Xt9_.out.lt; have := HB.out.size; omega)⟩)
                (fun l h => trivial) (fun l b w1 w2 h _ _ => trivial) (fun l b w1 w2 g h _ _ _ _ => trivial) (fun l h => by cases h) (fun l k h => by cases h) ?_ ?_
              · refine ⟨?_, ?_, ?_, ?_, ?_, ?_, ?_, ?_, ?_, ?_, ?_, ?_, ?_, ?_, ?_, ?_, ?_, ?_, ?_, ?_, ?_, trivial⟩ <;> intro L V a1 w1 hf hG hsz hφ hψ hL hdep hcl
                · obtain ⟨Fa1_, Fa2_, Fb1_, Fb2_, Fc1_, Fc2_, Pa_, Pb_, Pc_, t7_1_, t7_2_, Xt7__, t8_1_, t8_2_, Xt8__, t9_1_, t9_2_, Xt9__, HB_⟩ := hG
                  refine og_none rfl ?_
                  have e10 := old_slot hf 10 (by kernel_rfl)
                  exact ob_pure (v := .bool false) (ex_moveV rfl e10) rfl
                · obtain ⟨Fa1_, Fa2_, Fb1_, Fb2_, Fc1_, Fc2_, Pa_, Pb_, Pc_, t7_1_, t7_2_, Xt7__, t8_1_, t8_2_, Xt8__, t9_1_, t9_2_, Xt9__, HB_⟩ := hG
                  refine og_none rfl ?_
                  have e5 := old_slot hf 5 (by kernel_rfl)
                  exact ob_pure (ex_loadR rfl e5 Pc_) rfl
                · obtain ⟨Fa1_, Fa2_, Fb1_, Fb2_, Fc1_, Fc2_, Pa_, Pb_, Pc_, t7_1_, t7_2_, Xt7__, t8_1_, t8_2_, Xt8__, t9_1_, t9_2_, Xt9__, HB_⟩ := hG
                  refine og_none rfl ?_
                  have d1 := dep_of hdep 1 (by kernel_rfl)
                  have e69 := (new_slot hf 1 69 d1 (by kernel_rfl)).trans (show V 1 = .agg #[.bool sc1, .slice Ac1 nc1 cc1, .bool sc2, .slice Ac2 nc2 cc2] from hφ 1 d1)
                  refine ob_go rfl (vs := #[.agg #[.bool sc1, .slice Ac1 nc1 cc1, .bool sc2, .slice Ac2 nc2 cc2]]) (by simp only [List.map_toArray, List.map_cons, List.map_nil, e69]) (by kernel_rfl) (rsignR_any _ _ (Rat.divInt pc qc) 8 (RatA.of (Pair.mk (a := .A pc 8) (b := .A qc 8) Fc1_ Fc2_)) (by omega) (by omega)) ?_
                  rintro e w2 ⟨he, hb⟩
                  exact ⟨_, he, hb, rfl⟩
                · obtain ⟨Fa1_, Fa2_, Fb1_, Fb2_, Fc1_, Fc2_, Pa_, Pb_, Pc_, t7_1_, t7_2_, Xt7__, t8_1_, t8_2_, Xt8__, t9_1_, t9_2_, Xt9__, HB_⟩ := hG
                  refine og_none rfl ?_
                  have d2 := dep_of hdep 2 (by kernel_rfl)
                  have e70 := (new_slot hf 2 70 d2 (by kernel_rfl)).trans (show V 2 = .int .i64 (cm ((Rat.divInt pc qc)).num 0) from hφ 2 d2)
                  exact ob_pure (ex_neq_int rfl e70 rfl) (show Value.bool ((cm ((Rat.divInt pc qc)).num 0) != 0) = Value.bool false from by rw [C.out]; rfl)
                · obtain ⟨Fa1_, Fa2_, Fb1_, Fb2_, Fc1_, Fc2_, Pa_, Pb_, Pc_, t7_1_, t7_2_, Xt7__, t8_1_, t8_2_, Xt8__, t9_1_, t9_2_, Xt9__, HB_⟩ := hG
                  refine og_none rfl ?_
                  have d0 := dep_of hdep 0 (by kernel_rfl)
                  have e68 := (new_slot hf 0 68 d0 (by kernel_rfl)).trans (show V 0 = .bool false from hφ 0 d0)
                  have d3 := dep_of hdep 3 (by kernel_rfl)
                  have e71 := (new_slot hf 3 71 d3 (by kernel_rfl)).trans (show V 3 = .bool false from hφ 3 d3)
                  exact ob_pure (ex_eql_bool rfl e68 e71) (show Value.bool (false == false) = Value.bool true from by simp)
                · obtain ⟨Fa1_, Fa2_, Fb1_, Fb2_, Fc1_, Fc2_, Pa_, Pb_, Pc_, t7_1_, t7_2_, Xt7__, t8_1_, t8_2_, Xt8__, t9_1_, t9_2_, Xt9__, HB_⟩ := hG
                  refine og_none rfl ?_
                  have d4 := dep_of hdep 4 (by kernel_rfl)
                  have e72 := (new_slot hf 4 72 d4 (by kernel_rfl)).trans (show V 4 = .bool true from hφ 4 d4)
                  exact ob_pure (v := .bool true) (ex_moveV rfl e72) rfl
                · obtain ⟨Fa1_, Fa2_, Fb1_, Fb2_, Fc1_, Fc2_, Pa_, Pb_, Pc_, t7_1_, t7_2_, Xt7__, t8_1_, t8_2_, Xt8__, t9_1_, t9_2_, Xt9__, HB_⟩ := hG
                  have dg := dep_of hdep 5 (by kernel_rfl)
                  refine og_want rfl (yielded_of hf (n := 88) (by kernel_rfl) rfl 5 73 dg (by kernel_rfl) (show V 5 = .bool true from hφ 5 dg)) ?_
                  have e10 := old_slot hf 10 (by kernel_rfl)
                  exact ob_pure (v := .bool false) (ex_moveV rfl e10) rfl
                · obtain ⟨Fa1_, Fa2_, Fb1_, Fb2_, Fc1_, Fc2_, Pa_, Pb_, Pc_, t7_1_, t7_2_, Xt7__, t8_1_, t8_2_, Xt8__, t9_1_, t9_2_, Xt9__, HB_⟩ := hG
                  have dg := dep_of hdep 5 (by kernel_rfl)
                  refine og_want rfl (yielded_of hf (n := 88) (by kernel_rfl) rfl 5 73 dg (by kernel_rfl) (show V 5 = .bool true from hφ 5 dg)) ?_
                  have d6 := dep_of hdep 6 (by kernel_rfl)
                  have e74 := (new_slot hf 6 74 d6 (by kernel_rfl)).trans (show V 6 = .bool false from hφ 6 d6)
                  exact ob_pure (ex_not rfl e74) rfl
                · obtain ⟨Fa1_, Fa2_, Fb1_, Fb2_, Fc1_, Fc2_, Pa_, Pb_, Pc_, t7_1_, t7_2_, Xt7__, t8_1_, t8_2_, Xt8__, t9_1_, t9_2_, Xt9__, HB_⟩ := hG
                  have dg := dep_of hdep 5 (by kernel_rfl)
                  refine og_want rfl (yielded_of hf (n := 88) (by kernel_rfl) rfl 5 73 dg (by kernel_rfl) (show V 5 = .bool true from hφ 5 dg)) ?_
                  have d7 := dep_of hdep 7 (by kernel_rfl)
                  have e75 := (new_slot hf 7 75 d7 (by kernel_rfl)).trans (show V 7 = .bool true from hφ 7 d7)
                  exact ob_pure (v := .bool true) (ex_moveV rfl e75) rfl
                · obtain ⟨Fa1_, Fa2_, Fb1_, Fb2_, Fc1_, Fc2_, Pa_, Pb_, Pc_, t7_1_, t7_2_, Xt7__, t8_1_, t8_2_, Xt8__, t9_1_, t9_2_, Xt9__, HB_⟩ := hG
                  have dg := dep_of hdep 8 (by kernel_rfl)
                  exact og_skip rfl (yielded_of hf (n := 88) (by kernel_rfl) rfl 8 76 dg (by kernel_rfl) (show V 8 = .bool true from hφ 8 dg)) rfl rfl
                · obtain ⟨Fa1_, Fa2_, Fb1_, Fb2_, Fc1_, Fc2_, Pa_, Pb_, Pc_, t7_1_, t7_2_, Xt7__, t8_1_, t8_2_, Xt8__, t9_1_, t9_2_, Xt9__, HB_⟩ := hG
                  have dg := dep_of hdep 8 (by kernel_rfl)
                  exact og_skip rfl (yielded_of hf (n := 88) (by kernel_rfl) rfl 8 76 dg (by kernel_rfl) (show V 8 = .bool true from hφ 8 dg)) rfl rfl
                · obtain ⟨Fa1_, Fa2_, Fb1_, Fb2_, Fc1_, Fc2_, Pa_, Pb_, Pc_, t7_1_, t7_2_, Xt7__, t8_1_, t8_2_, Xt8__, t9_1_, t9_2_, Xt9__, HB_⟩ := hG
                  have dg := dep_of hdep 8 (by kernel_rfl)
                  exact og_skip rfl (yielded_of hf (n := 88) (by kernel_rfl) rfl 8 76 dg (by kernel_rfl) (show V 8 = .bool true from hφ 8 dg)) rfl rfl
                · obtain ⟨Fa1_, Fa2_, Fb1_, Fb2_, Fc1_, Fc2_, Pa_, Pb_, Pc_, t7_1_, t7_2_, Xt7__, t8_1_, t8_2_, Xt8__, t9_1_, t9_2_, Xt9__, HB_⟩ := hG
                  have dg := dep_of hdep 8 (by kernel_rfl)
                  exact og_skip rfl (yielded_of hf (n := 88) (by kernel_rfl) rfl 8 76 dg (by kernel_rfl) (show V 8 = .bool true from hφ 8 dg)) rfl rfl
                · obtain ⟨Fa1_, Fa2_, Fb1_, Fb2_, Fc1_, Fc2_, Pa_, Pb_, Pc_, t7_1_, t7_2_, Xt7__, t8_1_, t8_2_, Xt8__, t9_1_, t9_2_, Xt9__, HB_⟩ := hG
                  have dg := dep_of hdep 8 (by kernel_rfl)
                  exact og_skip rfl (yielded_of hf (n := 88) (by kernel_rfl) rfl 8 76 dg (by kernel_rfl) (show V 8 = .bool true from hφ 8 dg)) rfl rfl
                · obtain ⟨Fa1_, Fa2_, Fb1_, Fb2_, Fc1_, Fc2_, Pa_, Pb_, Pc_, t7_1_, t7_2_, Xt7__, t8_1_, t8_2_, Xt8__, t9_1_, t9_2_, Xt9__, HB_⟩ := hG
                  have dg := dep_of hdep 8 (by kernel_rfl)
                  exact og_skip rfl (yielded_of hf (n := 88) (by kernel_rfl) rfl 8 76 dg (by kernel_rfl) (show V 8 = .bool true from hφ 8 dg)) rfl rfl
                · obtain ⟨Fa1_, Fa2_, Fb1_, Fb2_, Fc1_, Fc2_, Pa_, Pb_, Pc_, t7_1_, t7_2_, Xt7__, t8_1_, t8_2_, Xt8__, t9_1_, t9_2_, Xt9__, HB_⟩ := hG
                  have dg := dep_of hdep 5 (by kernel_rfl)
                  refine og_want rfl (yielded_of hf (n := 88) (by kernel_rfl) rfl 5 73 dg (by kernel_rfl) (show V 5 = .bool true from hφ 5 dg)) ?_
                  have d8 := dep_of hdep 8 (by kernel_rfl)
                  have e76 := (new_slot hf 8 76 d8 (by kernel_rfl)).trans (show V 8 = .bool true from hφ 8 d8)
                  exact ob_pure (v := .bool true) (ex_pick_true rfl e76 rfl) rfl
                · obtain ⟨Fa1_, Fa2_, Fb1_, Fb2_, Fc1_, Fc2_, Pa_, Pb_, Pc_, t7_1_, t7_2_, Xt7__, t8_1_, t8_2_, Xt8__, t9_1_, t9_2_, Xt9__, HB_⟩ := hG
                  refine og_none rfl ?_
                  have d5 := dep_of hdep 5 (by kernel_rfl)
                  have e73 := (new_slot hf 5 73 d5 (by kernel_rfl)).trans (show V 5 = .bool true from hφ 5 d5)
                  have d15 := dep_of hdep 15 (by kernel_rfl)
                  have e83 := (new_slot hf 15 83 d15 (by kernel_rfl)).trans (show V 15 = .bool true from hφ 15 d15)
                  exact ob_pure (v := .bool true) (ex_pick_true rfl e73 e83) rfl
                · obtain ⟨Fa1_, Fa2_, Fb1_, Fb2_, Fc1_, Fc2_, Pa_, Pb_, Pc_, t7_1_, t7_2_, Xt7__, t8_1_, t8_2_, Xt8__, t9_1_, t9_2_, Xt9__, HB_⟩ := hG
                  refine og_none rfl ?_
                  have d16 := dep_of hdep 16 (by kernel_rfl)
                  have e84 := (new_slot hf 16 84 d16 (by kernel_rfl)).trans (show V 16 = .bool true from hφ 16 d16)
                  exact ob_pure (v := .bool true) (ex_moveV rfl e84) rfl
                · obtain ⟨Fa1_, Fa2_, Fb1_, Fb2_, Fc1_, Fc2_, Pa_, Pb_, Pc_, t7_1_, t7_2_, Xt7__, t8_1_, t8_2_, Xt8__, t9_1_, t9_2_, Xt9__, HB_⟩ := hG
                  have dg := dep_of hdep 17 (by kernel_rfl)
                  refine og_want rfl (yielded_of hf (n := 88) (by kernel_rfl) rfl 17 85 dg (by kernel_rfl) (show V 17 = .bool true from hφ 17 dg)) ?_
                  refine ob_go rfl (vs := #[]) (by simp only [List.map_toArray, List.map_nil]) (by kernel_rfl) (awakeR_any _) ?_
                  rintro e w2 ⟨he, hb⟩
                  exact ⟨_, he, hb, rfl⟩
                · obtain ⟨Fa1_, Fa2_, Fb1_, Fb2_, Fc1_, Fc2_, Pa_, Pb_, Pc_, t7_1_, t7_2_, Xt7__, t8_1_, t8_2_, Xt8__, t9_1_, t9_2_, Xt9__, HB_⟩ := hG
                  refine og_none rfl ?_
                  have d17 := dep_of hdep 17 (by kernel_rfl)
                  have e85 := (new_slot hf 17 85 d17 (by kernel_rfl)).trans (show V 17 = .bool true from hφ 17 d17)
                  have d18 := dep_of hdep 18 (by kernel_rfl)
                  have e86 := (new_slot hf 18 86 d18 (by kernel_rfl)).trans (show V 18 = .bool true from hφ 18 d18)
                  exact ob_pure (v := .bool true) (ex_pick_true rfl e85 e86) rfl
                · obtain ⟨Fa1_, Fa2_, Fb1_, Fb2_, Fc1_, Fc2_, Pa_, Pb_, Pc_, t7_1_, t7_2_, Xt7__, t8_1_, t8_2_, Xt8__, t9_1_, t9_2_, Xt9__, HB_⟩ := hG
                  refine og_none rfl ?_
                  have d19 := dep_of hdep 19 (by kernel_rfl)
                  have e87 := (new_slot hf 19 87 d19 (by kernel_rfl)).trans (show V 19 = .bool true from hφ 19 d19)
                  exact ob_pure (v := .bool true) (ex_assignV rfl e87) rfl
              · intro V W20 hG hsz20 hφ hψ hne
                have hlt20 : W18.heap.size ≤ W20.heap.size := hsz20
                obtain ⟨Fa1_, Fa2_, Fb1_, Fb2_, Fc1_, Fc2_, Pa_, Pb_, Pc_, t7_1_, t7_2_, Xt7__, t8_1_, t8_2_, Xt8__, t9_1_, t9_2_, Xt9__, HB_⟩ := hG
                have Fa1 := hid Fa1_
                have Fa2 := hid Fa2_
                have Fb1 := hid Fb1_
                have Fb2 := hid Fb2_
                have Fc1 := hid Fc1_
                have Fc2 := hid Fc2_
                have Pa := hid Pa_
                have Pb := hid Pb_
                have Pc := hid Pc_
                have t7_1 := hid t7_1_
                have t7_2 := hid t7_2_
                have Xt7_ := hid Xt7__
                have t8_1 := hid t8_1_
                have t8_2 := hid t8_2_
                have Xt8_ := hid Xt8__
                have t9_1 := hid t9_1_
                have t9_2 := hid t9_2_
                have Xt9_ := hid Xt9__
                have HB := hid HB_
                have y0 : V 0 = .bool false := hφ 0 (by decide)
                have y1 : V 1 = .agg #[.bool sc1, .slice Ac1 nc1 cc1, .bool sc2, .slice Ac2 nc2 cc2] := hφ 1 (by decide)
                have y2 : V 2 = .int .i64 (cm ((Rat.divInt pc qc)).num 0) := hφ 2 (by decide)
                have y3 : V 3 = .bool false := hφ 3 (by decide)
                have y4 : V 4 = .bool true := hφ 4 (by decide)
                have y5 : V 5 = .bool true := hφ 5 (by decide)
                have y6 : V 6 = .bool false := hφ 6 (by decide)
                have y7 : V 7 = .bool true := hφ 7 (by decide)
                have y8 : V 8 = .bool true := hφ 8 (by decide)
                have y9 : V 9 = undef := hφ 9 (by decide)
                have y10 : V 10 = undef := hφ 10 (by decide)
                have y11 : V 11 = undef := hφ 11 (by decide)
                have y12 : V 12 = undef := hφ 12 (by decide)
                have y13 : V 13 = undef := hφ 13 (by decide)
                have y14 : V 14 = undef := hφ 14 (by decide)
                have y15 : V 15 = .bool true := hφ 15 (by decide)
                have y16 : V 16 = .bool true := hφ 16 (by decide)
                have y17 : V 17 = .bool true := hφ 17 (by decide)
                have y18 : V 18 = .bool true := hφ 18 (by decide)
                have y19 : V 19 = .bool true := hφ 19 (by decide)
                have y20 : V 20 = .bool true := hφ 20 (by decide)
                simp only [puts, Act.put, List.setIfInBounds_toArray, List.set_cons_zero, List.set_cons_succ, y0, y1, y2, y3, y4, y5, y6, y7, y8, y9, y10, y11, y12, y13, y14, y15, y16, y17, y18, y19, y20]
                clear hφ hψ hne y0 y1 y2 y3 y4 y5 y6 y7 y8 y9 y10 y11 y12 y13 y14 y15 y16 y17 y18 y19 y20 Fa1_ Fa2_ Fb1_ Fb2_ Fc1_ Fc2_ Pa_ Pb_ Pc_ t7_1_ t7_2_ Xt7__ t8_1_ t8_2_ Xt8__ t9_1_ t9_2_ Xt9__ HB_ hsz20
                go_wp2
                go_ret
                exact ⟨rfl, HB.out⟩
        · have HZ := hid hz
          clear hz
          by_cases hp : 0 < (Rat.divInt pc qc)
          · have HP := hid hp
            clear hp
            have C := hid (cm_p HP.out)
            have E3 := hid (fld3 (Rat.divInt pa qa) (Rat.divInt pb qb) HP.out)
            have E4 := hid (fld4 (Rat.divInt pa qa) HZ.out)
            go_wp2_with fail
            have RS16 : Hid (RS 16 ((Rat.divInt pa qa) * (Rat.divInt pc qc))) := hid ((RS.of (Sa1.out) (Sa2.out) (by omega)).mul (RS.of (Sc1.out) (Sc2.out) (by omega)) (by omega))
            have RS17 : Hid (RS 16 ((Rat.divInt pb qb) * (Rat.divInt pc qc))) := hid ((RS.of (Sb1.out) (Sb2.out) (by omega)).mul (RS.of (Sc1.out) (Sc2.out) (by omega)) (by omega))
            refine wp_region_eachG (by kernel_rfl) 16 88 rfl rfl (by kernel_rfl)
              [Fact.eq (.agg #[.bool sc1, .slice Ac1 nc1 cc1, .bool sc2, .slice Ac2 nc2 cc2]), Fact.eq (.int .i64 (cm ((Rat.divInt pc qc)).num 0)), Fact.eq (.bool true), Fact.eq (.bool true), Fact.eq (.agg #[.bool sa1, .slice Aa1 na1 ca1, .bool sa2, .slice Aa2 na2 ca2]), Fact.eq (.agg #[.bool sc1, .slice Ac1 nc1 cc1, .bool sc2, .slice Ac2 nc2 cc2]), Fact.pair (.V (((Rat.divInt pa qa) * (Rat.divInt pc qc))).num) (.V ((((Rat.divInt pa qa) * (Rat.divInt pc qc))).den : Int)), Fact.eq (.agg #[.bool sb1, .slice Ab1 nb1 cb1, .bool sb2, .slice Ab2 nb2 cb2]), Fact.eq (.agg #[.bool sc1, .slice Ac1 nc1 cc1, .bool sc2, .slice Ac2 nc2 cc2]), Fact.pair (.V (((Rat.divInt pb qb) * (Rat.divInt pc qc))).num) (.V ((((Rat.divInt pb qb) * (Rat.divInt pc qc))).den : Int)), Fact.eq (.int .i64 (cm (((Rat.divInt pa qa) * (Rat.divInt pc qc)) - ((Rat.divInt pb qb) * (Rat.divInt pc qc))).num 0)), Fact.eq (.agg #[.bool sa1, .slice Aa1 na1 ca1, .bool sa2, .slice Aa2 na2 ca2]), Fact.eq (.agg #[.bool sb1, .slice Ab1 nb1 cb1, .bool sb2, .slice Ab2 nb2 cb2]), Fact.eq (.int .i64 (cm ((Rat.divInt pa qa) - (Rat.divInt pb qb)).num 0)), Fact.eq (.bool false), Fact.eq (.bool false)]
              [.val, .val, .val, .val, .val, .val, .val, .val, .val, .val, .val, .val, .val, .val, .val, .val]
              (fun w' => IntA w' (.agg #[.bool sa1, .slice Aa1 na1 ca1]) (pa) 8 ∧ IntA w' (.agg #[.bool sa2, .slice Aa2 na2 ca2]) (qa) 8 ∧ IntA w' (.agg #[.bool sb1, .slice Ab1 nb1 cb1]) (pb) 8 ∧ IntA w' (.agg #[.bool sb2, .slice Ab2 nb2 cb2]) (qb) 8 ∧ IntA w' (.agg #[.bool sc1, .slice Ac1 nc1 cc1]) (pc) 8 ∧ IntA w' (.agg #[.bool sc2, .slice Ac2 nc2 cc2]) (qc) 8 ∧ Blk w' (w.heap.size) 26 #[.bool sa1, .slice Aa1 na1 ca1, .bool sa2, .slice Aa2 na2 ca2] ∧ Blk w' (w.heap.size + 1) 26 #[.bool sb1, .slice Ab1 nb1 cb1, .bool sb2, .slice Ab2 nb2 cb2] ∧ Blk w' (w.heap.size + 1 + 1) 26 #[.bool sc1, .slice Ac1 nc1 cc1, .bool sc2, .slice Ac2 nc2 cc2] ∧ IntV w' (.agg #[.bool q4051, .slice A4051 n4051 c4051]) ((((Rat.divInt pa qa) * ((Rat.divInt pb qb) + (Rat.divInt pc qc)))).num) ∧ IntV w' (.agg #[.bool q4052, .slice A4052 n4052 c4052]) (((((Rat.divInt pa qa) * ((Rat.divInt pb qb) + (Rat.divInt pc qc)))).den : Int)) ∧ Blk w' (G4_5) 26 #[.bool q4051, .slice A4051 n4051 c4051, .bool q4052, .slice A4052 n4052 c4052] ∧ IntV w' (.agg #[.bool q8071, .slice A8071 n8071 c8071]) (((((Rat.divInt pa qa) * (Rat.divInt pb qb)) + ((Rat.divInt pa qa) * (Rat.divInt pc qc)))).num) ∧ IntV w' (.agg #[.bool q8072, .slice A8072 n8072 c8072]) ((((((Rat.divInt pa qa) * (Rat.divInt pb qb)) + ((Rat.divInt pa qa) * (Rat.divInt pc qc)))).den : Int)) ∧ Blk w' (G8_7) 26 #[.bool q8071, .slice A8071 n8071 c8071, .bool q8072, .slice A8072 n8072 c8072] ∧ Below w.heap.size w w')
              (fun _ _ _ => True) [] (fun _ => 0) (by kernel_rfl)
              ⟨Fa1.out, Fa2.out, Fb1.out, Fb2.out, Fc1.out, Fc2.out, Pa.out, Pb.out, Pc.out, t7_1.out, t7_2.out, Xt7_.out, t8_1.out, t8_2.out, Xt8_.out, HB.out⟩
              (fun w1 w2 ⟨h0, h1, h2, h3, h4, h5, h6, h7, h8, h9, h10, h11, h12, h13, h14, h15⟩ hb => ⟨h0.below hb, h1.below hb, h2.below hb, h3.below hb, h4.below hb, h5.below hb, h6.below hb, h7.below hb, h8.below hb, h9.below hb, h10.below hb, h11.below hb, h12.below hb, h13.below hb, h14.below hb, bw_step h15 hb⟩)
              (fun w1 w2 g ⟨h0, h1, h2, h3, h4, h5, h6, h7, h8, h9, h10, h11, h12, h13, h14, h15⟩ hg hn ho => by
                have hg' : W14.heap.size ≤ g := hg.elim id (fun ⟨_, h, _⟩ => absurd h (Nat.not_lt_zero _))
                exact ⟨h0.only hn ho, h1.only hn ho, h2.only hn ho, h3.only hn ho, h4.only hn ho, h5.only hn ho, h6.only ho (by have := Pa.out.lt; have := Pb.out.lt; have := Pc.out.lt; have := Xt7_.out.lt; have := Xt8_.out.lt; omega), h7.only ho (by have := Pa.out.lt; have := Pb.out.lt; have := Pc.out.lt; have := Xt7_.out.lt; have := Xt8_.out.lt; omega), h8.only ho (by have := Pa.out.lt; have := Pb.out.lt; have := Pc.out.lt; have := Xt7_.out.lt; have := Xt8_.out.lt; omega), h9.only hn ho, h10.only hn ho, h11.only ho (by have := Pa.out.lt; have := Pb.out.lt; have := Pc.out.lt; have := Xt7_.out.lt; have := Xt8_.out.lt; omega), h12.only hn ho, h13.only hn ho, h14.only ho (by have := Pa.out.lt; have := Pb.out.lt; have := Pc.out.lt; have := Xt7_.out.lt; have := Xt8_.out.lt; omega), below_only h15 ho (by have := Pa.out.lt; have := Pb.out.lt; have := Pc.out.lt; have := Xt7_.out.lt; have := Xt8_.out.lt; have := HB.out.size; omega)⟩)
              (fun l h => trivial) (fun l b w1 w2 h _ _ => trivial) (fun l b w1 w2 g h _ _ _ _ => trivial) (fun l h => by cases h) (fun l k h => by cases h) ?_ ?_
            · refine ⟨?_, ?_, ?_, ?_, ?_, ?_, ?_, ?_, ?_, ?_, ?_, ?_, ?_, ?_, ?_, ?_, trivial⟩ <;> intro L V a1 w1 hf hG hsz hφ hψ hL hdep hcl
              · obtain ⟨Fa1_, Fa2_, Fb1_, Fb2_, Fc1_, Fc2_, Pa_, Pb_, Pc_, t7_1_, t7_2_, Xt7__, t8_1_, t8_2_, Xt8__, HB_⟩ := hG
                refine og_none rfl ?_
                have e5 := old_slot hf 5 (by kernel_rfl)
                exact ob_pure (ex_loadR rfl e5 Pc_) rfl
              · obtain ⟨Fa1_, Fa2_, Fb1_, Fb2_, Fc1_, Fc2_, Pa_, Pb_, Pc_, t7_1_, t7_2_, Xt7__, t8_1_, t8_2_, Xt8__, HB_⟩ := hG
                refine og_none rfl ?_
                have d0 := dep_of hdep 0 (by kernel_rfl)
                have e46 := (new_slot hf 0 46 d0 (by kernel_rfl)).trans (show V 0 = .agg #[.bool sc1, .slice Ac1 nc1 cc1, .bool sc2, .slice Ac2 nc2 cc2] from hφ 0 d0)
                refine ob_go rfl (vs := #[.agg #[.bool sc1, .slice Ac1 nc1 cc1, .bool sc2, .slice Ac2 nc2 cc2]]) (by simp only [List.map_toArray, List.map_cons, List.map_nil, e46]) (by kernel_rfl) (signR_any _ _ (Rat.divInt pc qc) 8 (RatA.of (Pair.mk (a := .A pc 8) (b := .A qc 8) Fc1_ Fc2_)) (by omega) (by omega)) ?_
                rintro e w2 ⟨he, hb⟩
                exact ⟨_, he, hb, rfl⟩
              · obtain ⟨Fa1_, Fa2_, Fb1_, Fb2_, Fc1_, Fc2_, Pa_, Pb_, Pc_, t7_1_, t7_2_, Xt7__, t8_1_, t8_2_, Xt8__, HB_⟩ := hG
                refine og_none rfl ?_
                have d1 := dep_of hdep 1 (by kernel_rfl)
                have e47 := (new_slot hf 1 47 d1 (by kernel_rfl)).trans (show V 1 = .int .i64 (cm ((Rat.divInt pc qc)).num 0) from hφ 1 d1)
                exact ob_pure (ex_gtr_int rfl e47 rfl) (show Value.bool (decide (0 < (cm ((Rat.divInt pc qc)).num 0))) = Value.bool true from by rw [C.out]; rfl)
              · obtain ⟨Fa1_, Fa2_, Fb1_, Fb2_, Fc1_, Fc2_, Pa_, Pb_, Pc_, t7_1_, t7_2_, Xt7__, t8_1_, t8_2_, Xt8__, HB_⟩ := hG
                refine og_none rfl ?_
                have d2 := dep_of hdep 2 (by kernel_rfl)
                have e48 := (new_slot hf 2 48 d2 (by kernel_rfl)).trans (show V 2 = .bool true from hφ 2 d2)
                exact ob_pure (v := .bool true) (ex_moveV rfl e48) rfl
              · obtain ⟨Fa1_, Fa2_, Fb1_, Fb2_, Fc1_, Fc2_, Pa_, Pb_, Pc_, t7_1_, t7_2_, Xt7__, t8_1_, t8_2_, Xt8__, HB_⟩ := hG
                have dg := dep_of hdep 3 (by kernel_rfl)
                refine og_want rfl (yielded_of hf (n := 88) (by kernel_rfl) rfl 3 49 dg (by kernel_rfl) (show V 3 = .bool true from hφ 3 dg)) ?_
                have e3 := old_slot hf 3 (by kernel_rfl)
                exact ob_pure (ex_loadR rfl e3 Pa_) rfl
              · obtain ⟨Fa1_, Fa2_, Fb1_, Fb2_, Fc1_, Fc2_, Pa_, Pb_, Pc_, t7_1_, t7_2_, Xt7__, t8_1_, t8_2_, Xt8__, HB_⟩ := hG
                have dg := dep_of hdep 3 (by kernel_rfl)
                refine og_want rfl (yielded_of hf (n := 88) (by kernel_rfl) rfl 3 49 dg (by kernel_rfl) (show V 3 = .bool true from hφ 3 dg)) ?_
                have e5 := old_slot hf 5 (by kernel_rfl)
                exact ob_pure (ex_loadR rfl e5 Pc_) rfl
              · obtain ⟨Fa1_, Fa2_, Fb1_, Fb2_, Fc1_, Fc2_, Pa_, Pb_, Pc_, t7_1_, t7_2_, Xt7__, t8_1_, t8_2_, Xt8__, HB_⟩ := hG
                have dg := dep_of hdep 3 (by kernel_rfl)
                refine og_want rfl (yielded_of hf (n := 88) (by kernel_rfl) rfl 3 49 dg (by kernel_rfl) (show V 3 = .bool true from hφ 3 dg)) ?_
                have d4 := dep_of hdep 4 (by kernel_rfl)
                have e50 := (new_slot hf 4 50 d4 (by kernel_rfl)).trans (show V 4 = .agg #[.bool sa1, .slice Aa1 na1 ca1, .bool sa2, .slice Aa2 na2 ca2] from hφ 4 d4)
                have d5 := dep_of hdep 5 (by kernel_rfl)
                have e51 := (new_slot hf 5 51 d5 (by kernel_rfl)).trans (show V 5 = .agg #[.bool sc1, .slice Ac1 nc1 cc1, .bool sc2, .slice Ac2 nc2 cc2] from hφ 5 d5)
                refine ob_go rfl (vs := #[.agg #[.bool sa1, .slice Aa1 na1 ca1, .bool sa2, .slice Aa2 na2 ca2], .agg #[.bool sc1, .slice Ac1 nc1 cc1, .bool sc2, .slice Ac2 nc2 cc2]]) (by simp only [List.map_toArray, List.map_cons, List.map_nil, e50, e51]) (by kernel_rfl) (mulR_any _ _ _ (Rat.divInt pa qa) (Rat.divInt pc qc) 8 (RatA.of (Pair.mk (a := .A pa 8) (b := .A qa 8) Fa1_ Fa2_)) (RatA.of (Pair.mk (a := .A pc 8) (b := .A qc 8) Fc1_ Fc2_)) (by omega) (by omega)) ?_
                rintro e w2 ⟨⟨v, rfl, hv⟩, hb⟩
                exact ⟨v, rfl, hb, hv⟩
              · obtain ⟨Fa1_, Fa2_, Fb1_, Fb2_, Fc1_, Fc2_, Pa_, Pb_, Pc_, t7_1_, t7_2_, Xt7__, t8_1_, t8_2_, Xt8__, HB_⟩ := hG
                have dg := dep_of hdep 3 (by kernel_rfl)
                refine og_want rfl (yielded_of hf (n := 88) (by kernel_rfl) rfl 3 49 dg (by kernel_rfl) (show V 3 = .bool true from hφ 3 dg)) ?_
                have e4 := old_slot hf 4 (by kernel_rfl)
                exact ob_pure (ex_loadR rfl e4 Pb_) rfl
              · obtain ⟨Fa1_, Fa2_, Fb1_, Fb2_, Fc1_, Fc2_, Pa_, Pb_, Pc_, t7_1_, t7_2_, Xt7__, t8_1_, t8_2_, Xt8__, HB_⟩ := hG
                have dg := dep_of hdep 3 (by kernel_rfl)
                refine og_want rfl (yielded_of hf (n := 88) (by kernel_rfl) rfl 3 49 dg (by kernel_rfl) (show V 3 = .bool true from hφ 3 dg)) ?_
                have e5 := old_slot hf 5 (by kernel_rfl)
                exact ob_pure (ex_loadR rfl e5 Pc_) rfl
              · obtain ⟨Fa1_, Fa2_, Fb1_, Fb2_, Fc1_, Fc2_, Pa_, Pb_, Pc_, t7_1_, t7_2_, Xt7__, t8_1_, t8_2_, Xt8__, HB_⟩ := hG
                have dg := dep_of hdep 3 (by kernel_rfl)
                refine og_want rfl (yielded_of hf (n := 88) (by kernel_rfl) rfl 3 49 dg (by kernel_rfl) (show V 3 = .bool true from hφ 3 dg)) ?_
                have d7 := dep_of hdep 7 (by kernel_rfl)
                have e53 := (new_slot hf 7 53 d7 (by kernel_rfl)).trans (show V 7 = .agg #[.bool sb1, .slice Ab1 nb1 cb1, .bool sb2, .slice Ab2 nb2 cb2] from hφ 7 d7)
                have d8 := dep_of hdep 8 (by kernel_rfl)
                have e54 := (new_slot hf 8 54 d8 (by kernel_rfl)).trans (show V 8 = .agg #[.bool sc1, .slice Ac1 nc1 cc1, .bool sc2, .slice Ac2 nc2 cc2] from hφ 8 d8)
                refine ob_go rfl (vs := #[.agg #[.bool sb1, .slice Ab1 nb1 cb1, .bool sb2, .slice Ab2 nb2 cb2], .agg #[.bool sc1, .slice Ac1 nc1 cc1, .bool sc2, .slice Ac2 nc2 cc2]]) (by simp only [List.map_toArray, List.map_cons, List.map_nil, e53, e54]) (by kernel_rfl) (mulR_any _ _ _ (Rat.divInt pb qb) (Rat.divInt pc qc) 8 (RatA.of (Pair.mk (a := .A pb 8) (b := .A qb 8) Fb1_ Fb2_)) (RatA.of (Pair.mk (a := .A pc 8) (b := .A qc 8) Fc1_ Fc2_)) (by omega) (by omega)) ?_
                rintro e w2 ⟨⟨v, rfl, hv⟩, hb⟩
                exact ⟨v, rfl, hb, hv⟩
              · obtain ⟨Fa1_, Fa2_, Fb1_, Fb2_, Fc1_, Fc2_, Pa_, Pb_, Pc_, t7_1_, t7_2_, Xt7__, t8_1_, t8_2_, Xt8__, HB_⟩ := hG
                have dg := dep_of hdep 3 (by kernel_rfl)
                refine og_want rfl (yielded_of hf (n := 88) (by kernel_rfl) rfl 3 49 dg (by kernel_rfl) (show V 3 = .bool true from hφ 3 dg)) ?_
                have d6 := dep_of hdep 6 (by kernel_rfl)
                have e52 := new_slot hf 6 52 d6 (by kernel_rfl)
                have p52 : Pair w1 (V 6) (.V (((Rat.divInt pa qa) * (Rat.divInt pc qc))).num) (.V ((((Rat.divInt pa qa) * (Rat.divInt pc qc))).den : Int)) := hφ 6 d6
                have d9 := dep_of hdep 9 (by kernel_rfl)
                have e55 := new_slot hf 9 55 d9 (by kernel_rfl)
                have p55 : Pair w1 (V 9) (.V (((Rat.divInt pb qb) * (Rat.divInt pc qc))).num) (.V ((((Rat.divInt pb qb) * (Rat.divInt pc qc))).den : Int)) := hφ 9 d9
                refine ob_go rfl (vs := #[V 6, V 9]) (by simp only [List.map_toArray, List.map_cons, List.map_nil, e52, e55]) (by kernel_rfl) (cmpR_any _ _ _ ((Rat.divInt pa qa) * (Rat.divInt pc qc)) ((Rat.divInt pb qb) * (Rat.divInt pc qc)) 16 (RatV.arg (x := ((Rat.divInt pa qa) * (Rat.divInt pc qc))) p52 ((RS16.out).to (by omega))) (RatV.arg (x := ((Rat.divInt pb qb) * (Rat.divInt pc qc))) p55 ((RS17.out).to (by omega))) (by omega) (by omega)) ?_
                rintro e w2 ⟨he, hb⟩
                exact ⟨_, he, hb, rfl⟩
              · obtain ⟨Fa1_, Fa2_, Fb1_, Fb2_, Fc1_, Fc2_, Pa_, Pb_, Pc_, t7_1_, t7_2_, Xt7__, t8_1_, t8_2_, Xt8__, HB_⟩ := hG
                have dg := dep_of hdep 3 (by kernel_rfl)
                refine og_want rfl (yielded_of hf (n := 88) (by kernel_rfl) rfl 3 49 dg (by kernel_rfl) (show V 3 = .bool true from hφ 3 dg)) ?_
                have e3 := old_slot hf 3 (by kernel_rfl)
                exact ob_pure (ex_loadR rfl e3 Pa_) rfl
              · obtain ⟨Fa1_, Fa2_, Fb1_, Fb2_, Fc1_, Fc2_, Pa_, Pb_, Pc_, t7_1_, t7_2_, Xt7__, t8_1_, t8_2_, Xt8__, HB_⟩ := hG
                have dg := dep_of hdep 3 (by kernel_rfl)
                refine og_want rfl (yielded_of hf (n := 88) (by kernel_rfl) rfl 3 49 dg (by kernel_rfl) (show V 3 = .bool true from hφ 3 dg)) ?_
                have e4 := old_slot hf 4 (by kernel_rfl)
                exact ob_pure (ex_loadR rfl e4 Pb_) rfl
              · obtain ⟨Fa1_, Fa2_, Fb1_, Fb2_, Fc1_, Fc2_, Pa_, Pb_, Pc_, t7_1_, t7_2_, Xt7__, t8_1_, t8_2_, Xt8__, HB_⟩ := hG
                have dg := dep_of hdep 3 (by kernel_rfl)
                refine og_want rfl (yielded_of hf (n := 88) (by kernel_rfl) rfl 3 49 dg (by kernel_rfl) (show V 3 = .bool true from hφ 3 dg)) ?_
                have d11 := dep_of hdep 11 (by kernel_rfl)
                have e57 := (new_slot hf 11 57 d11 (by kernel_rfl)).trans (show V 11 = .agg #[.bool sa1, .slice Aa1 na1 ca1, .bool sa2, .slice Aa2 na2 ca2] from hφ 11 d11)
                have d12 := dep_of hdep 12 (by kernel_rfl)
                have e58 := (new_slot hf 12 58 d12 (by kernel_rfl)).trans (show V 12 = .agg #[.bool sb1, .slice Ab1 nb1 cb1, .bool sb2, .slice Ab2 nb2 cb2] from hφ 12 d12)
                refine ob_go rfl (vs := #[.agg #[.bool sa1, .slice Aa1 na1 ca1, .bool sa2, .slice Aa2 na2 ca2], .agg #[.bool sb1, .slice Ab1 nb1 cb1, .bool sb2, .slice Ab2 nb2 cb2]]) (by simp only [List.map_toArray, List.map_cons, List.map_nil, e57, e58]) (by kernel_rfl) (cmpR_any _ _ _ (Rat.divInt pa qa) (Rat.divInt pb qb) 8 (RatA.of (Pair.mk (a := .A pa 8) (b := .A qa 8) Fa1_ Fa2_)) (RatA.of (Pair.mk (a := .A pb 8) (b := .A qb 8) Fb1_ Fb2_)) (by omega) (by omega)) ?_
                rintro e w2 ⟨he, hb⟩
                exact ⟨_, he, hb, rfl⟩
              · obtain ⟨Fa1_, Fa2_, Fb1_, Fb2_, Fc1_, Fc2_, Pa_, Pb_, Pc_, t7_1_, t7_2_, Xt7__, t8_1_, t8_2_, Xt8__, HB_⟩ := hG
                have dg := dep_of hdep 3 (by kernel_rfl)
                refine og_want rfl (yielded_of hf (n := 88) (by kernel_rfl) rfl 3 49 dg (by kernel_rfl) (show V 3 = .bool true from hφ 3 dg)) ?_
                have d10 := dep_of hdep 10 (by kernel_rfl)
                have e56 := (new_slot hf 10 56 d10 (by kernel_rfl)).trans (show V 10 = .int .i64 (cm (((Rat.divInt pa qa) * (Rat.divInt pc qc)) - ((Rat.divInt pb qb) * (Rat.divInt pc qc))).num 0) from hφ 10 d10)
                have d13 := dep_of hdep 13 (by kernel_rfl)
                have e59 := (new_slot hf 13 59 d13 (by kernel_rfl)).trans (show V 13 = .int .i64 (cm ((Rat.divInt pa qa) - (Rat.divInt pb qb)).num 0) from hφ 13 d13)
                exact ob_pure (ex_neq_int rfl e56 e59) (show Value.bool ((cm (((Rat.divInt pa qa) * (Rat.divInt pc qc)) - ((Rat.divInt pb qb) * (Rat.divInt pc qc))).num 0) != (cm ((Rat.divInt pa qa) - (Rat.divInt pb qb)).num 0)) = Value.bool false from by rw [E3.out]; simp)
              · obtain ⟨Fa1_, Fa2_, Fb1_, Fb2_, Fc1_, Fc2_, Pa_, Pb_, Pc_, t7_1_, t7_2_, Xt7__, t8_1_, t8_2_, Xt8__, HB_⟩ := hG
                refine og_none rfl ?_
                have d3 := dep_of hdep 3 (by kernel_rfl)
                have e49 := (new_slot hf 3 49 d3 (by kernel_rfl)).trans (show V 3 = .bool true from hφ 3 d3)
                have d14 := dep_of hdep 14 (by kernel_rfl)
                have e60 := (new_slot hf 14 60 d14 (by kernel_rfl)).trans (show V 14 = .bool false from hφ 14 d14)
                exact ob_pure (v := .bool false) (ex_pick_true rfl e49 e60) rfl
            · intro V W20 hG hsz20 hφ hψ hne
              have hlt20 : W14.heap.size ≤ W20.heap.size := hsz20
              obtain ⟨Fa1_, Fa2_, Fb1_, Fb2_, Fc1_, Fc2_, Pa_, Pb_, Pc_, t7_1_, t7_2_, Xt7__, t8_1_, t8_2_, Xt8__, HB_⟩ := hG
              have Fa1 := hid Fa1_
              have Fa2 := hid Fa2_
              have Fb1 := hid Fb1_
              have Fb2 := hid Fb2_
              have Fc1 := hid Fc1_
              have Fc2 := hid Fc2_
              have Pa := hid Pa_
              have Pb := hid Pb_
              have Pc := hid Pc_
              have t7_1 := hid t7_1_
              have t7_2 := hid t7_2_
              have Xt7_ := hid Xt7__
              have t8_1 := hid t8_1_
              have t8_2 := hid t8_2_
              have Xt8_ := hid Xt8__
              have HB := hid HB_
              have y0 : V 0 = .agg #[.bool sc1, .slice Ac1 nc1 cc1, .bool sc2, .slice Ac2 nc2 cc2] := hφ 0 (by decide)
              have y1 : V 1 = .int .i64 (cm ((Rat.divInt pc qc)).num 0) := hφ 1 (by decide)
              have y2 : V 2 = .bool true := hφ 2 (by decide)
              have y3 : V 3 = .bool true := hφ 3 (by decide)
              have y4 : V 4 = .agg #[.bool sa1, .slice Aa1 na1 ca1, .bool sa2, .slice Aa2 na2 ca2] := hφ 4 (by decide)
              have y5 : V 5 = .agg #[.bool sc1, .slice Ac1 nc1 cc1, .bool sc2, .slice Ac2 nc2 cc2] := hφ 5 (by decide)
              have y7 : V 7 = .agg #[.bool sb1, .slice Ab1 nb1 cb1, .bool sb2, .slice Ab2 nb2 cb2] := hφ 7 (by decide)
              have y8 : V 8 = .agg #[.bool sc1, .slice Ac1 nc1 cc1, .bool sc2, .slice Ac2 nc2 cc2] := hφ 8 (by decide)
              have y10 : V 10 = .int .i64 (cm (((Rat.divInt pa qa) * (Rat.divInt pc qc)) - ((Rat.divInt pb qb) * (Rat.divInt pc qc))).num 0) := hφ 10 (by decide)
              have y11 : V 11 = .agg #[.bool sa1, .slice Aa1 na1 ca1, .bool sa2, .slice Aa2 na2 ca2] := hφ 11 (by decide)
              have y12 : V 12 = .agg #[.bool sb1, .slice Ab1 nb1 cb1, .bool sb2, .slice Ab2 nb2 cb2] := hφ 12 (by decide)
              have y13 : V 13 = .int .i64 (cm ((Rat.divInt pa qa) - (Rat.divInt pb qb)).num 0) := hφ 13 (by decide)
              have y14 : V 14 = .bool false := hφ 14 (by decide)
              have y15 : V 15 = .bool false := hφ 15 (by decide)
              simp only [puts, Act.put, List.setIfInBounds_toArray, List.set_cons_zero, List.set_cons_succ, y0, y1, y2, y3, y4, y5, y7, y8, y10, y11, y12, y13, y14, y15]
              clear hφ hψ hne y0 y1 y2 y3 y4 y5 y7 y8 y10 y11 y12 y13 y14 y15 Fa1_ Fa2_ Fb1_ Fb2_ Fc1_ Fc2_ Pa_ Pb_ Pc_ t7_1_ t7_2_ Xt7__ t8_1_ t8_2_ Xt8__ HB_ hsz20
              go_wp2_with (with_reducible refine halt_at 63 rfl ?_)
              have RS21 : Hid (RS 16 ((Rat.divInt pa qa) / (Rat.divInt pc qc))) := hid ((RS.of (Sa1.out) (Sa2.out) (by omega)).div (RS.of (Sc1.out) (Sc2.out) (by omega)) (by omega) (by omega))
              have lt21_Pa := Pa.out.lt
              have lt21_Pb := Pb.out.lt
              have lt21_Pc := Pc.out.lt
              have lt21_Xt7_ := Xt7_.out.lt
              have lt21_Xt8_ := Xt8_.out.lt
              unfold Halted
              refine wp_list_each (by kernel_rfl) 9 88 rfl rfl (by kernel_rfl)
                [Fact.eq (.agg #[.bool sa1, .slice Aa1 na1 ca1, .bool sa2, .slice Aa2 na2 ca2]), Fact.eq (.agg #[.bool sc1, .slice Ac1 nc1 cc1, .bool sc2, .slice Ac2 nc2 cc2]), Fact.pairB (.V (((Rat.divInt pa qa) / (Rat.divInt pc qc))).num) (.V ((((Rat.divInt pa qa) / (Rat.divInt pc qc))).den : Int)) true, Fact.pairB (.V (((Rat.divInt pa qa) / (Rat.divInt pc qc))).num) (.V ((((Rat.divInt pa qa) / (Rat.divInt pc qc))).den : Int)) true, Fact.pair (.V (((Rat.divInt pa qa) / (Rat.divInt pc qc))).num) (.V ((((Rat.divInt pa qa) / (Rat.divInt pc qc))).den : Int)), Fact.eq (.bool true), Fact.boxR 26 Rne (.V (((Rat.divInt pa qa) / (Rat.divInt pc qc))).num) (.V ((((Rat.divInt pa qa) / (Rat.divInt pc qc))).den : Int)), Fact.top _, Fact.eq (.bool true)]
                [.val, .val, .val, .val, .val, .val, .alloc 7, .fill 6, .val]
                (fun w' => IntA w' (.agg #[.bool sa1, .slice Aa1 na1 ca1]) (pa) 8 ∧ IntA w' (.agg #[.bool sa2, .slice Aa2 na2 ca2]) (qa) 8 ∧ IntA w' (.agg #[.bool sb1, .slice Ab1 nb1 cb1]) (pb) 8 ∧ IntA w' (.agg #[.bool sb2, .slice Ab2 nb2 cb2]) (qb) 8 ∧ IntA w' (.agg #[.bool sc1, .slice Ac1 nc1 cc1]) (pc) 8 ∧ IntA w' (.agg #[.bool sc2, .slice Ac2 nc2 cc2]) (qc) 8 ∧ Blk w' (w.heap.size) 26 #[.bool sa1, .slice Aa1 na1 ca1, .bool sa2, .slice Aa2 na2 ca2] ∧ Blk w' (w.heap.size + 1) 26 #[.bool sb1, .slice Ab1 nb1 cb1, .bool sb2, .slice Ab2 nb2 cb2] ∧ Blk w' (w.heap.size + 1 + 1) 26 #[.bool sc1, .slice Ac1 nc1 cc1, .bool sc2, .slice Ac2 nc2 cc2] ∧ IntV w' (.agg #[.bool q4051, .slice A4051 n4051 c4051]) ((((Rat.divInt pa qa) * ((Rat.divInt pb qb) + (Rat.divInt pc qc)))).num) ∧ IntV w' (.agg #[.bool q4052, .slice A4052 n4052 c4052]) (((((Rat.divInt pa qa) * ((Rat.divInt pb qb) + (Rat.divInt pc qc)))).den : Int)) ∧ Blk w' (G4_5) 26 #[.bool q4051, .slice A4051 n4051 c4051, .bool q4052, .slice A4052 n4052 c4052] ∧ IntV w' (.agg #[.bool q8071, .slice A8071 n8071 c8071]) (((((Rat.divInt pa qa) * (Rat.divInt pb qb)) + ((Rat.divInt pa qa) * (Rat.divInt pc qc)))).num) ∧ IntV w' (.agg #[.bool q8072, .slice A8072 n8072 c8072]) ((((((Rat.divInt pa qa) * (Rat.divInt pb qb)) + ((Rat.divInt pa qa) * (Rat.divInt pc qc)))).den : Int)) ∧ Blk w' (G8_7) 26 #[.bool q8071, .slice A8071 n8071 c8071, .bool q8072, .slice A8072 n8072 c8072] ∧ Below w.heap.size w w')
                (fun _ _ _ => True) [] (fun _ => 0) (by kernel_rfl)
                ⟨Fa1.out, Fa2.out, Fb1.out, Fb2.out, Fc1.out, Fc2.out, Pa.out, Pb.out, Pc.out, t7_1.out, t7_2.out, Xt7_.out, t8_1.out, t8_2.out, Xt8_.out, HB.out⟩
                (fun w1 w2 ⟨h0, h1, h2, h3, h4, h5, h6, h7, h8, h9, h10, h11, h12, h13, h14, h15⟩ hb => ⟨h0.below hb, h1.below hb, h2.below hb, h3.below hb, h4.below hb, h5.below hb, h6.below hb, h7.below hb, h8.below hb, h9.below hb, h10.below hb, h11.below hb, h12.below hb, h13.below hb, h14.below hb, bw_step h15 hb⟩)
                (fun w1 w2 g ⟨h0, h1, h2, h3, h4, h5, h6, h7, h8, h9, h10, h11, h12, h13, h14, h15⟩ hg hn ho => by
                  have hg' : W20.heap.size ≤ g := hg.elim id (fun ⟨_, h, _⟩ => absurd h (Nat.not_lt_zero _))
                  exact ⟨h0.only hn ho, h1.only hn ho, h2.only hn ho, h3.only hn ho, h4.only hn ho, h5.only hn ho, h6.only ho (by have := Pa.out.lt; have := Pb.out.lt; have := Pc.out.lt; have := Xt7_.out.lt; have := Xt8_.out.lt; omega), h7.only ho (by have := Pa.out.lt; have := Pb.out.lt; have := Pc.out.lt; have := Xt7_.out.lt; have := Xt8_.out.lt; omega), h8.only ho (by have := Pa.out.lt; have := Pb.out.lt; have := Pc.out.lt; have := Xt7_.out.lt; have := Xt8_.out.lt; omega), h9.only hn ho, h10.only hn ho, h11.only ho (by have := Pa.out.lt; have := Pb.out.lt; have := Pc.out.lt; have := Xt7_.out.lt; have := Xt8_.out.lt; omega), h12.only hn ho, h13.only hn ho, h14.only ho (by have := Pa.out.lt; have := Pb.out.lt; have := Pc.out.lt; have := Xt7_.out.lt; have := Xt8_.out.lt; omega), below_only h15 ho (by have := Pa.out.lt; have := Pb.out.lt; have := Pc.out.lt; have := Xt7_.out.lt; have := Xt8_.out.lt; have := HB.out.size; omega)⟩)
                (fun l h => trivial) (fun l b w1 w2 h _ _ => trivial) (fun l b w1 w2 g h _ _ _ _ => trivial) (fun l h => by cases h) (fun l k h => by cases h) ?_ ?_
              · refine ⟨?_, ?_, ?_, ?_, ?_, ?_, ?_, ?_, ?_, trivial⟩ <;> intro L V a1 w1 hf hG hsz hφ hψ hL hdep hcl
                · obtain ⟨Fa1_, Fa2_, Fb1_, Fb2_, Fc1_, Fc2_, Pa_, Pb_, Pc_, t7_1_, t7_2_, Xt7__, t8_1_, t8_2_, Xt8__, HB_⟩ := hG
                  have e3 := old_slot hf 3 (by kernel_rfl)
                  exact ob_pure (ex_loadR rfl e3 Pa_) rfl
                · obtain ⟨Fa1_, Fa2_, Fb1_, Fb2_, Fc1_, Fc2_, Pa_, Pb_, Pc_, t7_1_, t7_2_, Xt7__, t8_1_, t8_2_, Xt8__, HB_⟩ := hG
                  have e5 := old_slot hf 5 (by kernel_rfl)
                  exact ob_pure (ex_loadR rfl e5 Pc_) rfl
                · obtain ⟨Fa1_, Fa2_, Fb1_, Fb2_, Fc1_, Fc2_, Pa_, Pb_, Pc_, t7_1_, t7_2_, Xt7__, t8_1_, t8_2_, Xt8__, HB_⟩ := hG
                  have d0 := dep_of hdep 0 (by kernel_rfl)
                  have e63 := (new_slot hf 0 63 d0 (by kernel_rfl)).trans (show V 0 = .agg #[.bool sa1, .slice Aa1 na1 ca1, .bool sa2, .slice Aa2 na2 ca2] from hφ 0 d0)
                  have d1 := dep_of hdep 1 (by kernel_rfl)
                  have e64 := (new_slot hf 1 64 d1 (by kernel_rfl)).trans (show V 1 = .agg #[.bool sc1, .slice Ac1 nc1 cc1, .bool sc2, .slice Ac2 nc2 cc2] from hφ 1 d1)
                  refine ob_go rfl (vs := #[.agg #[.bool sa1, .slice Aa1 na1 ca1, .bool sa2, .slice Aa2 na2 ca2], .agg #[.bool sc1, .slice Ac1 nc1 cc1, .bool sc2, .slice Ac2 nc2 cc2]]) (by simp only [List.map_toArray, List.map_cons, List.map_nil, e63, e64]) (by kernel_rfl) (quoR_any _ _ _ (Rat.divInt pa qa) (Rat.divInt pc qc) 8 (RatA.of (Pair.mk (a := .A pa 8) (b := .A qa 8) Fa1_ Fa2_)) (RatA.of (Pair.mk (a := .A pc 8) (b := .A qc 8) Fc1_ Fc2_)) (by omega) (by omega) (HZ.out)) ?_
                  rintro e w2 ⟨⟨v, rfl, hv⟩, hb⟩
                  exact ⟨v, rfl, hb, hv⟩
                · obtain ⟨Fa1_, Fa2_, Fb1_, Fb2_, Fc1_, Fc2_, Pa_, Pb_, Pc_, t7_1_, t7_2_, Xt7__, t8_1_, t8_2_, Xt8__, HB_⟩ := hG
                  have d2 := dep_of hdep 2 (by kernel_rfl)
                  have e65 := new_slot hf 2 65 d2 (by kernel_rfl)
                  have p65 : PairB w1 (V 2) (.V (((Rat.divInt pa qa) / (Rat.divInt pc qc))).num) (.V ((((Rat.divInt pa qa) / (Rat.divInt pc qc))).den : Int)) true := hφ 2 d2
                  exact ob_pure (ex_moveV rfl e65) (by exact p65)
                · obtain ⟨Fa1_, Fa2_, Fb1_, Fb2_, Fc1_, Fc2_, Pa_, Pb_, Pc_, t7_1_, t7_2_, Xt7__, t8_1_, t8_2_, Xt8__, HB_⟩ := hG
                  have d3 := dep_of hdep 3 (by kernel_rfl)
                  have e62 := new_slot hf 3 62 d3 (by kernel_rfl)
                  have p62 : PairB w1 (V 3) (.V (((Rat.divInt pa qa) / (Rat.divInt pc qc))).num) (.V ((((Rat.divInt pa qa) / (Rat.divInt pc qc))).den : Int)) true := hφ 3 d3
                  exact ob_pairB0 rfl e62 p62 rfl
                · obtain ⟨Fa1_, Fa2_, Fb1_, Fb2_, Fc1_, Fc2_, Pa_, Pb_, Pc_, t7_1_, t7_2_, Xt7__, t8_1_, t8_2_, Xt8__, HB_⟩ := hG
                  have d3 := dep_of hdep 3 (by kernel_rfl)
                  have e62 := new_slot hf 3 62 d3 (by kernel_rfl)
                  have p62 : PairB w1 (V 3) (.V (((Rat.divInt pa qa) / (Rat.divInt pc qc))).num) (.V ((((Rat.divInt pa qa) / (Rat.divInt pc qc))).den : Int)) true := hφ 3 d3
                  exact ob_pairB1 rfl e62 p62 rfl
                · obtain ⟨Fa1_, Fa2_, Fb1_, Fb2_, Fc1_, Fc2_, Pa_, Pb_, Pc_, t7_1_, t7_2_, Xt7__, t8_1_, t8_2_, Xt8__, HB_⟩ := hG
                  exact ob_allocR rfl hsz rfl
                · obtain ⟨Fa1_, Fa2_, Fb1_, Fb2_, Fc1_, Fc2_, Pa_, Pb_, Pc_, t7_1_, t7_2_, Xt7__, t8_1_, t8_2_, Xt8__, HB_⟩ := hG
                  have d4 := dep_of hdep 4 (by kernel_rfl)
                  have e66 := new_slot hf 4 66 d4 (by kernel_rfl)
                  have p66 : Pair w1 (V 4) (.V (((Rat.divInt pa qa) / (Rat.divInt pc qc))).num) (.V ((((Rat.divInt pa qa) / (Rat.divInt pc qc))).den : Int)) := hφ 4 d4
                  have d6 := dep_of hdep 6 (by kernel_rfl)
                  obtain ⟨g, h1, h2, h3, _⟩ := hφ 6 d6
                  have hz := h3 (show (true && L 7) = false from by have h : L 7 = false := hL; rw [h]; rfl)
                  exact ob_fillR rfl ((new_slot hf 6 9 d6 (by kernel_rfl)).trans h1) e66 h1 h2 hz p66 rfl rfl
                · obtain ⟨Fa1_, Fa2_, Fb1_, Fb2_, Fc1_, Fc2_, Pa_, Pb_, Pc_, t7_1_, t7_2_, Xt7__, t8_1_, t8_2_, Xt8__, HB_⟩ := hG
                  have d5 := dep_of hdep 5 (by kernel_rfl)
                  have e67 := (new_slot hf 5 67 d5 (by kernel_rfl)).trans (show V 5 = .bool true from hφ 5 d5)
                  exact ob_pure (v := .bool true) (ex_assignV rfl e67) rfl
              · intro V W22 hG hsz22 hφ hψ hne
                have hlt22 : W20.heap.size ≤ W22.heap.size := hsz22
                obtain ⟨Fa1_, Fa2_, Fb1_, Fb2_, Fc1_, Fc2_, Pa_, Pb_, Pc_, t7_1_, t7_2_, Xt7__, t8_1_, t8_2_, Xt8__, HB_⟩ := hG
                have Fa1 := hid Fa1_
                have Fa2 := hid Fa2_
                have Fb1 := hid Fb1_
                have Fb2 := hid Fb2_
                have Fc1 := hid Fc1_
                have Fc2 := hid Fc2_
                have Pa := hid Pa_
                have Pb := hid Pb_
                have Pc := hid Pc_
                have t7_1 := hid t7_1_
                have t7_2 := hid t7_2_
                have Xt7_ := hid Xt7__
                have t8_1 := hid t8_1_
                have t8_2 := hid t8_2_
                have Xt8_ := hid Xt8__
                have HB := hid HB_
                have y0 : V 0 = .agg #[.bool sa1, .slice Aa1 na1 ca1, .bool sa2, .slice Aa2 na2 ca2] := hφ 0 (by decide)
                have y1 : V 1 = .agg #[.bool sc1, .slice Ac1 nc1 cc1, .bool sc2, .slice Ac2 nc2 cc2] := hφ 1 (by decide)
                have y5 : V 5 = .bool true := hφ 5 (by decide)
                obtain ⟨G22_6, y6, gb2206, _, hb2206⟩ := hφ 6 (by decide)
                obtain ⟨q22061, A22061, n22061, c22061, q22062, A22062, n22062, c22062, kb2206, va2206, vb2206⟩ := hb2206 rfl
                have Xt9_ := hid kb2206
                have t9_1 : Hid (IntV W22 (.agg #[.bool q22061, .slice A22061 n22061 c22061]) (((Rat.divInt pa qa) / (Rat.divInt pc qc))).num) := hid va2206
                have t9_2 : Hid (IntV W22 (.agg #[.bool q22062, .slice A22062 n22062 c22062]) ((((Rat.divInt pa qa) / (Rat.divInt pc qc))).den : Int)) := hid vb2206
                clear kb2206 va2206 vb2206
                clear hb2206
                have y8 : V 8 = .bool true := hφ 8 (by decide)
                simp only [puts, Act.put, List.setIfInBounds_toArray, List.set_cons_zero, List.set_cons_succ, y0, y1, y5, y6, y8, ptr]
                clear hφ hψ hne y0 y1 y5 y6 y8 Fa1_ Fa2_ Fb1_ Fb2_ Fc1_ Fc2_ Pa_ Pb_ Pc_ t7_1_ t7_2_ Xt7__ t8_1_ t8_2_ Xt8__ HB_ hsz22
                go_wp2_with fail
                have RS24 : Hid (RS 32 (((Rat.divInt pa qa) / (Rat.divInt pc qc)) * (Rat.divInt pc qc))) := hid ((RS21.out).mul (RS.of (Sc1.out) (Sc2.out) (by omega)) (by omega))
                refine wp_region_eachG (by kernel_rfl) 21 88 rfl rfl (by kernel_rfl)
                  [Fact.eq (.bool true), Fact.eq (.agg #[.bool sc1, .slice Ac1 nc1 cc1, .bool sc2, .slice Ac2 nc2 cc2]), Fact.eq (.int .i64 (cm ((Rat.divInt pc qc)).num 0)), Fact.eq (.bool true), Fact.eq (.bool true), Fact.eq (.bool true), Fact.eq (.bool true), Fact.eq (.bool false), Fact.eq (.bool false), Fact.eq (.agg #[.bool q22061, .slice A22061 n22061 c22061, .bool q22062, .slice A22062 n22062 c22062]), Fact.eq (.agg #[.bool sc1, .slice Ac1 nc1 cc1, .bool sc2, .slice Ac2 nc2 cc2]), Fact.pair (.V ((((Rat.divInt pa qa) / (Rat.divInt pc qc)) * (Rat.divInt pc qc))).num) (.V (((((Rat.divInt pa qa) / (Rat.divInt pc qc)) * (Rat.divInt pc qc))).den : Int)), Fact.eq (.agg #[.bool sa1, .slice Aa1 na1 ca1, .bool sa2, .slice Aa2 na2 ca2]), Fact.eq (.int .i64 (cm ((((Rat.divInt pa qa) / (Rat.divInt pc qc)) * (Rat.divInt pc qc)) - (Rat.divInt pa qa)).num 0)), Fact.eq (.bool true), Fact.eq (.bool true), Fact.eq (.bool true), Fact.eq (.bool true), Fact.eq (.bool true), Fact.eq (.bool true), Fact.eq (.bool true)]
                  [.val, .val, .val, .val, .val, .val, .val, .val, .val, .val, .val, .val, .val, .val, .val, .val, .val, .val, .val, .val, .val]
                  (fun w' => IntA w' (.agg #[.bool sa1, .slice Aa1 na1 ca1]) (pa) 8 ∧ IntA w' (.agg #[.bool sa2, .slice Aa2 na2 ca2]) (qa) 8 ∧ IntA w' (.agg #[.bool sb1, .slice Ab1 nb1 cb1]) (pb) 8 ∧ IntA w' (.agg #[.bool sb2, .slice Ab2 nb2 cb2]) (qb) 8 ∧ IntA w' (.agg #[.bool sc1, .slice Ac1 nc1 cc1]) (pc) 8 ∧ IntA w' (.agg #[.bool sc2, .slice Ac2 nc2 cc2]) (qc) 8 ∧ Blk w' (w.heap.size) 26 #[.bool sa1, .slice Aa1 na1 ca1, .bool sa2, .slice Aa2 na2 ca2] ∧ Blk w' (w.heap.size + 1) 26 #[.bool sb1, .slice Ab1 nb1 cb1, .bool sb2, .slice Ab2 nb2 cb2] ∧ Blk w' (w.heap.size + 1 + 1) 26 #[.bool sc1, .slice Ac1 nc1 cc1, .bool sc2, .slice Ac2 nc2 cc2] ∧ IntV w' (.agg #[.bool q4051, .slice A4051 n4051 c4051]) ((((Rat.divInt pa qa) * ((Rat.divInt pb qb) + (Rat.divInt pc qc)))).num) ∧ IntV w' (.agg #[.bool q4052, .slice A4052 n4052 c4052]) (((((Rat.divInt pa qa) * ((Rat.divInt pb qb) + (Rat.divInt pc qc)))).den : Int)) ∧ Blk w' (G4_5) 26 #[.bool q4051, .slice A4051 n4051 c4051, .bool q4052, .slice A4052 n4052 c4052] ∧ IntV w' (.agg #[.bool q8071, .slice A8071 n8071 c8071]) (((((Rat.divInt pa qa) * (Rat.divInt pb qb)) + ((Rat.divInt pa qa) * (Rat.divInt pc qc)))).num) ∧ IntV w' (.agg #[.bool q8072, .slice A8072 n8072 c8072]) ((((((Rat.divInt pa qa) * (Rat.divInt pb qb)) + ((Rat.divInt pa qa) * (Rat.divInt pc qc)))).den : Int)) ∧ Blk w' (G8_7) 26 #[.bool q8071, .slice A8071 n8071 c8071, .bool q8072, .slice A8072 n8072 c8072] ∧ IntV w' (.agg #[.bool q22061, .slice A22061 n22061 c22061]) ((((Rat.divInt pa qa) / (Rat.divInt pc qc))).num) ∧ IntV w' (.agg #[.bool q22062, .slice A22062 n22062 c22062]) (((((Rat.divInt pa qa) / (Rat.divInt pc qc))).den : Int)) ∧ Blk w' (G22_6) 26 #[.bool q22061, .slice A22061 n22061 c22061, .bool q22062, .slice A22062 n22062 c22062] ∧ Below w.heap.size w w')
                  (fun _ _ _ => True) [] (fun _ => 0) (by kernel_rfl)
                  ⟨Fa1.out, Fa2.out, Fb1.out, Fb2.out, Fc1.out, Fc2.out, Pa.out, Pb.out, Pc.out, t7_1.out, t7_2.out, Xt7_.out, t8_1.out, t8_2.out, Xt8_.out, t9_1.out, t9_2.out, Xt9_.out, HB.out⟩
                  (fun w1 w2 ⟨h0, h1, h2, h3, h4, h5, h6, h7, h8, h9, h10, h11, h12, h13, h14, h15, h16, h17, h18⟩ hb => ⟨h0.below hb, h1.below hb, h2.below hb, h3.below hb, h4.below hb, h5.below hb, h6.below hb, h7.below hb, h8.below hb, h9.below hb, h10.below hb, h11.below hb, h12.below hb, h13.below hb, h14.below hb, h15.below hb, h16.below hb, h17.below hb, bw_step h18 hb⟩)
                  (fun w1 w2 g ⟨h0, h1, h2, h3, h4, h5, h6, h7, h8, h9, h10, h11, h12, h13, h14, h15, h16, h17, h18⟩ hg hn ho => by
                    have hg' : W22.heap.size ≤ g := hg.elim id (fun ⟨_, h, _⟩ => absurd h (Nat.not_lt_zero _))
                    exact ⟨h0.only hn ho, h1.only hn ho, h2.only hn ho, h3.only hn ho, h4.only hn ho, h5.only hn ho, h6.only ho (by have := Pa.out.lt; have := Pb.out.lt; have := Pc.out.lt; have := Xt7_.out.lt; have := Xt8_.out.lt; have := Xt9_.out.lt; omega), h7.only ho (by have := Pa.out.lt; have := Pb.out.lt; have := Pc.out.lt; have := Xt7_.out.lt; have := Xt8_.out.lt; have := Xt9_.out.lt; omega), h8.only ho (by have := Pa.out.lt; have := Pb.out.lt; have := Pc.out.lt; have := Xt7_.out.lt; have := Xt8_.out.lt; have := Xt9_.out.lt; omega), h9.only hn ho, h10.only hn ho, h11.only ho (by have := Pa.out.lt; have := Pb.out.lt; have := Pc.out.lt; have := Xt7_.out.lt; have := Xt8_.out.lt; have := Xt9_.out.lt; omega), h12.only hn ho, h13.only hn ho, h14.only ho (by have := Pa.out.lt; have := Pb.out.lt; have := Pc.out.lt; have := Xt7_.out.lt; have := Xt8_.out.lt; have := Xt9_.out.lt; omega), h15.only hn ho, h16.only hn ho, h17.only ho (by have := Pa.out.lt; have := Pb.out.lt; have := Pc.out.lt; have := Xt7_.out.lt; have := Xt8_.out.lt; have := Xt9_.out.lt; omega), below_only h18 ho (by have := Pa.out.lt; have := Pb.out.lt; have := Pc.out.lt; have := Xt7_.out.lt; have := Xt8_.out.lt; have := Xt9_.out.lt; have := HB.out.size; omega)⟩)
                  (fun l h => trivial) (fun l b w1 w2 h _ _ => trivial) (fun l b w1 w2 g h _ _ _ _ => trivial) (fun l h => by cases h) (fun l k h => by cases h) ?_ ?_
                · refine ⟨?_, ?_, ?_, ?_, ?_, ?_, ?_, ?_, ?_, ?_, ?_, ?_, ?_, ?_, ?_, ?_, ?_, ?_, ?_, ?_, ?_, trivial⟩ <;> intro L V a1 w1 hf hG hsz hφ hψ hL hdep hcl
                  · obtain ⟨Fa1_, Fa2_, Fb1_, Fb2_, Fc1_, Fc2_, Pa_, Pb_, Pc_, t7_1_, t7_2_, Xt7__, t8_1_, t8_2_, Xt8__, t9_1_, t9_2_, Xt9__, HB_⟩ := hG
                    refine og_none rfl ?_
                    have e10 := old_slot hf 10 (by kernel_rfl)
                    exact ob_pure (v := .bool true) (ex_moveV rfl e10) rfl
                  · obtain ⟨Fa1_, Fa2_, Fb1_, Fb2_, Fc1_, Fc2_, Pa_, Pb_, Pc_, t7_1_, t7_2_, Xt7__, t8_1_, t8_2_, Xt8__, t9_1_, t9_2_, Xt9__, HB_⟩ := hG
                    refine og_none rfl ?_
                    have e5 := old_slot hf 5 (by kernel_rfl)
                    exact ob_pure (ex_loadR rfl e5 Pc_) rfl
                  · obtain ⟨Fa1_, Fa2_, Fb1_, Fb2_, Fc1_, Fc2_, Pa_, Pb_, Pc_, t7_1_, t7_2_, Xt7__, t8_1_, t8_2_, Xt8__, t9_1_, t9_2_, Xt9__, HB_⟩ := hG
                    refine og_none rfl ?_
                    have d1 := dep_of hdep 1 (by kernel_rfl)
                    have e69 := (new_slot hf 1 69 d1 (by kernel_rfl)).trans (show V 1 = .agg #[.bool sc1, .slice Ac1 nc1 cc1, .bool sc2, .slice Ac2 nc2 cc2] from hφ 1 d1)
                    refine ob_go rfl (vs := #[.agg #[.bool sc1, .slice Ac1 nc1 cc1, .bool sc2, .slice Ac2 nc2 cc2]]) (by simp only [List.map_toArray, List.map_cons, List.map_nil, e69]) (by kernel_rfl) (rsignR_any _ _ (Rat.divInt pc qc) 8 (RatA.of (Pair.mk (a := .A pc 8) (b := .A qc 8) Fc1_ Fc2_)) (by omega) (by omega)) ?_
                    rintro e w2 ⟨he, hb⟩
                    exact ⟨_, he, hb, rfl⟩
                  · obtain ⟨Fa1_, Fa2_, Fb1_, Fb2_, Fc1_, Fc2_, Pa_, Pb_, Pc_, t7_1_, t7_2_, Xt7__, t8_1_, t8_2_, Xt8__, t9_1_, t9_2_, Xt9__, HB_⟩ := hG
                    refine og_none rfl ?_
                    have d2 := dep_of hdep 2 (by kernel_rfl)
                    have e70 := (new_slot hf 2 70 d2 (by kernel_rfl)).trans (show V 2 = .int .i64 (cm ((Rat.divInt pc qc)).num 0) from hφ 2 d2)
                    exact ob_pure (ex_neq_int rfl e70 rfl) (show Value.bool ((cm ((Rat.divInt pc qc)).num 0) != 0) = Value.bool true from by rw [C.out]; rfl)
                  · obtain ⟨Fa1_, Fa2_, Fb1_, Fb2_, Fc1_, Fc2_, Pa_, Pb_, Pc_, t7_1_, t7_2_, Xt7__, t8_1_, t8_2_, Xt8__, t9_1_, t9_2_, Xt9__, HB_⟩ := hG
                    refine og_none rfl ?_
                    have d0 := dep_of hdep 0 (by kernel_rfl)
                    have e68 := (new_slot hf 0 68 d0 (by kernel_rfl)).trans (show V 0 = .bool true from hφ 0 d0)
                    have d3 := dep_of hdep 3 (by kernel_rfl)
                    have e71 := (new_slot hf 3 71 d3 (by kernel_rfl)).trans (show V 3 = .bool true from hφ 3 d3)
                    exact ob_pure (ex_eql_bool rfl e68 e71) (show Value.bool (true == true) = Value.bool true from by simp)
                  · obtain ⟨Fa1_, Fa2_, Fb1_, Fb2_, Fc1_, Fc2_, Pa_, Pb_, Pc_, t7_1_, t7_2_, Xt7__, t8_1_, t8_2_, Xt8__, t9_1_, t9_2_, Xt9__, HB_⟩ := hG
                    refine og_none rfl ?_
                    have d4 := dep_of hdep 4 (by kernel_rfl)
                    have e72 := (new_slot hf 4 72 d4 (by kernel_rfl)).trans (show V 4 = .bool true from hφ 4 d4)
                    exact ob_pure (v := .bool true) (ex_moveV rfl e72) rfl
                  · obtain ⟨Fa1_, Fa2_, Fb1_, Fb2_, Fc1_, Fc2_, Pa_, Pb_, Pc_, t7_1_, t7_2_, Xt7__, t8_1_, t8_2_, Xt8__, t9_1_, t9_2_, Xt9__, HB_⟩ := hG
                    have dg := dep_of hdep 5 (by kernel_rfl)
                    refine og_want rfl (yielded_of hf (n := 88) (by kernel_rfl) rfl 5 73 dg (by kernel_rfl) (show V 5 = .bool true from hφ 5 dg)) ?_
                    have e10 := old_slot hf 10 (by kernel_rfl)
                    exact ob_pure (v := .bool true) (ex_moveV rfl e10) rfl
                  · obtain ⟨Fa1_, Fa2_, Fb1_, Fb2_, Fc1_, Fc2_, Pa_, Pb_, Pc_, t7_1_, t7_2_, Xt7__, t8_1_, t8_2_, Xt8__, t9_1_, t9_2_, Xt9__, HB_⟩ := hG
                    have dg := dep_of hdep 5 (by kernel_rfl)
                    refine og_want rfl (yielded_of hf (n := 88) (by kernel_rfl) rfl 5 73 dg (by kernel_rfl) (show V 5 = .bool true from hφ 5 dg)) ?_
                    have d6 := dep_of hdep 6 (by kernel_rfl)
                    have e74 := (new_slot hf 6 74 d6 (by kernel_rfl)).trans (show V 6 = .bool true from hφ 6 d6)
                    exact ob_pure (ex_not rfl e74) rfl
                  · obtain ⟨Fa1_, Fa2_, Fb1_, Fb2_, Fc1_, Fc2_, Pa_, Pb_, Pc_, t7_1_, t7_2_, Xt7__, t8_1_, t8_2_, Xt8__, t9_1_, t9_2_, Xt9__, HB_⟩ := hG
                    have dg := dep_of hdep 5 (by kernel_rfl)
                    refine og_want rfl (yielded_of hf (n := 88) (by kernel_rfl) rfl 5 73 dg (by kernel_rfl) (show V 5 = .bool true from hφ 5 dg)) ?_
                    have d7 := dep_of hdep 7 (by kernel_rfl)
                    have e75 := (new_slot hf 7 75 d7 (by kernel_rfl)).trans (show V 7 = .bool false from hφ 7 d7)
                    exact ob_pure (v := .bool false) (ex_moveV rfl e75) rfl
                  · obtain ⟨Fa1_, Fa2_, Fb1_, Fb2_, Fc1_, Fc2_, Pa_, Pb_, Pc_, t7_1_, t7_2_, Xt7__, t8_1_, t8_2_, Xt8__, t9_1_, t9_2_, Xt9__, HB_⟩ := hG
                    have dg := dep_of hdep 8 (by kernel_rfl)
                    refine og_want rfl (yielded_of hf (n := 88) (by kernel_rfl) rfl 8 76 dg (by kernel_rfl) (show V 8 = .bool false from hφ 8 dg)) ?_
                    have e9 := old_slot hf 9 (by kernel_rfl)
                    exact ob_pure (ex_loadR rfl e9 Xt9__) rfl
                  · obtain ⟨Fa1_, Fa2_, Fb1_, Fb2_, Fc1_, Fc2_, Pa_, Pb_, Pc_, t7_1_, t7_2_, Xt7__, t8_1_, t8_2_, Xt8__, t9_1_, t9_2_, Xt9__, HB_⟩ := hG
                    have dg := dep_of hdep 8 (by kernel_rfl)
                    refine og_want rfl (yielded_of hf (n := 88) (by kernel_rfl) rfl 8 76 dg (by kernel_rfl) (show V 8 = .bool false from hφ 8 dg)) ?_
                    have e5 := old_slot hf 5 (by kernel_rfl)
                    exact ob_pure (ex_loadR rfl e5 Pc_) rfl
                  · obtain ⟨Fa1_, Fa2_, Fb1_, Fb2_, Fc1_, Fc2_, Pa_, Pb_, Pc_, t7_1_, t7_2_, Xt7__, t8_1_, t8_2_, Xt8__, t9_1_, t9_2_, Xt9__, HB_⟩ := hG
                    have dg := dep_of hdep 8 (by kernel_rfl)
                    refine og_want rfl (yielded_of hf (n := 88) (by kernel_rfl) rfl 8 76 dg (by kernel_rfl) (show V 8 = .bool false from hφ 8 dg)) ?_
                    have d9 := dep_of hdep 9 (by kernel_rfl)
                    have e77 := (new_slot hf 9 77 d9 (by kernel_rfl)).trans (show V 9 = .agg #[.bool q22061, .slice A22061 n22061 c22061, .bool q22062, .slice A22062 n22062 c22062] from hφ 9 d9)
                    have d10 := dep_of hdep 10 (by kernel_rfl)
                    have e78 := (new_slot hf 10 78 d10 (by kernel_rfl)).trans (show V 10 = .agg #[.bool sc1, .slice Ac1 nc1 cc1, .bool sc2, .slice Ac2 nc2 cc2] from hφ 10 d10)
                    refine ob_go rfl (vs := #[.agg #[.bool q22061, .slice A22061 n22061 c22061, .bool q22062, .slice A22062 n22062 c22062], .agg #[.bool sc1, .slice Ac1 nc1 cc1, .bool sc2, .slice Ac2 nc2 cc2]]) (by simp only [List.map_toArray, List.map_cons, List.map_nil, e77, e78]) (by kernel_rfl) (mulR_any _ _ _ ((Rat.divInt pa qa) / (Rat.divInt pc qc)) (Rat.divInt pc qc) 16 (RatV.arg (x := ((Rat.divInt pa qa) / (Rat.divInt pc qc))) (Pair.mk (a := .V (((Rat.divInt pa qa) / (Rat.divInt pc qc))).num) (b := .V ((((Rat.divInt pa qa) / (Rat.divInt pc qc))).den : Int)) t9_1_ t9_2_) ((RS21.out).to (by omega))) (RatA.mono (RatA.of (Pair.mk (a := .A pc 8) (b := .A qc 8) Fc1_ Fc2_)) (by omega)) (by omega) (by omega)) ?_
                    rintro e w2 ⟨⟨v, rfl, hv⟩, hb⟩
                    exact ⟨v, rfl, hb, hv⟩
                  · obtain ⟨Fa1_, Fa2_, Fb1_, Fb2_, Fc1_, Fc2_, Pa_, Pb_, Pc_, t7_1_, t7_2_, Xt7__, t8_1_, t8_2_, Xt8__, t9_1_, t9_2_, Xt9__, HB_⟩ := hG
                    have dg := dep_of hdep 8 (by kernel_rfl)
                    refine og_want rfl (yielded_of hf (n := 88) (by kernel_rfl) rfl 8 76 dg (by kernel_rfl) (show V 8 = .bool false from hφ 8 dg)) ?_
                    have e3 := old_slot hf 3 (by kernel_rfl)
                    exact ob_pure (ex_loadR rfl e3 Pa_) rfl
                  · obtain ⟨Fa1_, Fa2_, Fb1_, Fb2_, Fc1_, Fc2_, Pa_, Pb_, Pc_, t7_1_, t7_2_, Xt7__, t8_1_, t8_2_, Xt8__, t9_1_, t9_2_, Xt9__, HB_⟩ := hG
                    have dg := dep_of hdep 8 (by kernel_rfl)
                    refine og_want rfl (yielded_of hf (n := 88) (by kernel_rfl) rfl 8 76 dg (by kernel_rfl) (show V 8 = .bool false from hφ 8 dg)) ?_
                    have d11 := dep_of hdep 11 (by kernel_rfl)
                    have e79 := new_slot hf 11 79 d11 (by kernel_rfl)
                    have p79 : Pair w1 (V 11) (.V ((((Rat.divInt pa qa) / (Rat.divInt pc qc)) * (Rat.divInt pc qc))).num) (.V (((((Rat.divInt pa qa) / (Rat.divInt pc qc)) * (Rat.divInt pc qc))).den : Int)) := hφ 11 d11
                    have d12 := dep_of hdep 12 (by kernel_rfl)
                    have e80 := (new_slot hf 12 80 d12 (by kernel_rfl)).trans (show V 12 = .agg #[.bool sa1, .slice Aa1 na1 ca1, .bool sa2, .slice Aa2 na2 ca2] from hφ 12 d12)
                    refine ob_go rfl (vs := #[V 11, .agg #[.bool sa1, .slice Aa1 na1 ca1, .bool sa2, .slice Aa2 na2 ca2]]) (by simp only [List.map_toArray, List.map_cons, List.map_nil, e79, e80]) (by kernel_rfl) (cmpR_any _ _ _ (((Rat.divInt pa qa) / (Rat.divInt pc qc)) * (Rat.divInt pc qc)) (Rat.divInt pa qa) 32 (RatV.arg (x := (((Rat.divInt pa qa) / (Rat.divInt pc qc)) * (Rat.divInt pc qc))) p79 ((RS24.out).to (by omega))) (RatA.mono (RatA.of (Pair.mk (a := .A pa 8) (b := .A qa 8) Fa1_ Fa2_)) (by omega)) (by omega) (by omega)) ?_
                    rintro e w2 ⟨he, hb⟩
                    exact ⟨_, he, hb, rfl⟩
                  · obtain ⟨Fa1_, Fa2_, Fb1_, Fb2_, Fc1_, Fc2_, Pa_, Pb_, Pc_, t7_1_, t7_2_, Xt7__, t8_1_, t8_2_, Xt8__, t9_1_, t9_2_, Xt9__, HB_⟩ := hG
                    have dg := dep_of hdep 8 (by kernel_rfl)
                    refine og_want rfl (yielded_of hf (n := 88) (by kernel_rfl) rfl 8 76 dg (by kernel_rfl) (show V 8 = .bool false from hφ 8 dg)) ?_
                    have d13 := dep_of hdep 13 (by kernel_rfl)
                    have e81 := (new_slot hf 13 81 d13 (by kernel_rfl)).trans (show V 13 = .int .i64 (cm ((((Rat.divInt pa qa) / (Rat.divInt pc qc)) * (Rat.divInt pc qc)) - (Rat.divInt pa qa)).num 0) from hφ 13 d13)
                    exact ob_pure (ex_eql_int rfl e81 rfl) (show Value.bool ((cm ((((Rat.divInt pa qa) / (Rat.divInt pc qc)) * (Rat.divInt pc qc)) - (Rat.divInt pa qa)).num 0) == 0) = Value.bool true from by rw [E4.out]; rfl)
                  · obtain ⟨Fa1_, Fa2_, Fb1_, Fb2_, Fc1_, Fc2_, Pa_, Pb_, Pc_, t7_1_, t7_2_, Xt7__, t8_1_, t8_2_, Xt8__, t9_1_, t9_2_, Xt9__, HB_⟩ := hG
                    have dg := dep_of hdep 5 (by kernel_rfl)
                    refine og_want rfl (yielded_of hf (n := 88) (by kernel_rfl) rfl 5 73 dg (by kernel_rfl) (show V 5 = .bool true from hφ 5 dg)) ?_
                    have d8 := dep_of hdep 8 (by kernel_rfl)
                    have e76 := (new_slot hf 8 76 d8 (by kernel_rfl)).trans (show V 8 = .bool false from hφ 8 d8)
                    have d14 := dep_of hdep 14 (by kernel_rfl)
                    have e82 := (new_slot hf 14 82 d14 (by kernel_rfl)).trans (show V 14 = .bool true from hφ 14 d14)
                    exact ob_pure (v := .bool true) (ex_pick_false rfl e76 e82) rfl
                  · obtain ⟨Fa1_, Fa2_, Fb1_, Fb2_, Fc1_, Fc2_, Pa_, Pb_, Pc_, t7_1_, t7_2_, Xt7__, t8_1_, t8_2_, Xt8__, t9_1_, t9_2_, Xt9__, HB_⟩ := hG
                    refine og_none rfl ?_
                    have d5 := dep_of hdep 5 (by kernel_rfl)
                    have e73 := (new_slot hf 5 73 d5 (by kernel_rfl)).trans (show V 5 = .bool true from hφ 5 d5)
                    have d15 := dep_of hdep 15 (by kernel_rfl)
                    have e83 := (new_slot hf 15 83 d15 (by kernel_rfl)).trans (show V 15 = .bool true from hφ 15 d15)
                    exact ob_pure (v := .bool true) (ex_pick_true rfl e73 e83) rfl
                  · obtain ⟨Fa1_, Fa2_, Fb1_, Fb2_, Fc1_, Fc2_, Pa_, Pb_, Pc_, t7_1_, t7_2_, Xt7__, t8_1_, t8_2_, Xt8__, t9_1_, t9_2_, Xt9__, HB_⟩ := hG
                    refine og_none rfl ?_
                    have d16 := dep_of hdep 16 (by kernel_rfl)
                    have e84 := (new_slot hf 16 84 d16 (by kernel_rfl)).trans (show V 16 = .bool true from hφ 16 d16)
                    exact ob_pure (v := .bool true) (ex_moveV rfl e84) rfl
                  · obtain ⟨Fa1_, Fa2_, Fb1_, Fb2_, Fc1_, Fc2_, Pa_, Pb_, Pc_, t7_1_, t7_2_, Xt7__, t8_1_, t8_2_, Xt8__, t9_1_, t9_2_, Xt9__, HB_⟩ := hG
                    have dg := dep_of hdep 17 (by kernel_rfl)
                    refine og_want rfl (yielded_of hf (n := 88) (by kernel_rfl) rfl 17 85 dg (by kernel_rfl) (show V 17 = .bool true from hφ 17 dg)) ?_
                    refine ob_go rfl (vs := #[]) (by simp only [List.map_toArray, List.map_nil]) (by kernel_rfl) (awakeR_any _) ?_
                    rintro e w2 ⟨he, hb⟩
                    exact ⟨_, he, hb, rfl⟩
                  · obtain ⟨Fa1_, Fa2_, Fb1_, Fb2_, Fc1_, Fc2_, Pa_, Pb_, Pc_, t7_1_, t7_2_, Xt7__, t8_1_, t8_2_, Xt8__, t9_1_, t9_2_, Xt9__, HB_⟩ := hG
                    refine og_none rfl ?_
                    have d17 := dep_of hdep 17 (by kernel_rfl)
                    have e85 := (new_slot hf 17 85 d17 (by kernel_rfl)).trans (show V 17 = .bool true from hφ 17 d17)
                    have d18 := dep_of hdep 18 (by kernel_rfl)
                    have e86 := (new_slot hf 18 86 d18 (by kernel_rfl)).trans (show V 18 = .bool true from hφ 18 d18)
                    exact ob_pure (v := .bool true) (ex_pick_true rfl e85 e86) rfl
                  · obtain ⟨Fa1_, Fa2_, Fb1_, Fb2_, Fc1_, Fc2_, Pa_, Pb_, Pc_, t7_1_, t7_2_, Xt7__, t8_1_, t8_2_, Xt8__, t9_1_, t9_2_, Xt9__, HB_⟩ := hG
                    refine og_none rfl ?_
                    have d19 := dep_of hdep 19 (by kernel_rfl)
                    have e87 := (new_slot hf 19 87 d19 (by kernel_rfl)).trans (show V 19 = .bool true from hφ 19 d19)
                    exact ob_pure (v := .bool true) (ex_assignV rfl e87) rfl
                · intro V W26 hG hsz26 hφ hψ hne
                  have hlt26 : W22.heap.size ≤ W26.heap.size := hsz26
                  obtain ⟨Fa1_, Fa2_, Fb1_, Fb2_, Fc1_, Fc2_, Pa_, Pb_, Pc_, t7_1_, t7_2_, Xt7__, t8_1_, t8_2_, Xt8__, t9_1_, t9_2_, Xt9__, HB_⟩ := hG
                  have Fa1 := hid Fa1_
                  have Fa2 := hid Fa2_
                  have Fb1 := hid Fb1_
                  have Fb2 := hid Fb2_
                  have Fc1 := hid Fc1_
                  have Fc2 := hid Fc2_
                  have Pa := hid Pa_
                  have Pb := hid Pb_
                  have Pc := hid Pc_
                  have t7_1 := hid t7_1_
                  have t7_2 := hid t7_2_
                  have Xt7_ := hid Xt7__
                  have t8_1 := hid t8_1_
                  have t8_2 := hid t8_2_
                  have Xt8_ := hid Xt8__
                  have t9_1 := hid t9_1_
                  have t9_2 := hid t9_2_
                  have Xt9_ := hid Xt9__
                  have HB := hid HB_
                  have y0 : V 0 = .bool true := hφ 0 (by decide)
                  have y1 : V 1 = .agg #[.bool sc1, .slice Ac1 nc1 cc1, .bool sc2, .slice Ac2 nc2 cc2] := hφ 1 (by decide)
                  have y2 : V 2 = .int .i64 (cm ((Rat.divInt pc qc)).num 0) := hφ 2 (by decide)
                  have y3 : V 3 = .bool true := hφ 3 (by decide)
                  have y4 : V 4 = .bool true := hφ 4 (by decide)
                  have y5 : V 5 = .bool true := hφ 5 (by decide)
                  have y6 : V 6 = .bool true := hφ 6 (by decide)
                  have y7 : V 7 = .bool false := hφ 7 (by decide)
                  have y8 : V 8 = .bool false := hφ 8 (by decide)
                  have y9 : V 9 = .agg #[.bool q22061, .slice A22061 n22061 c22061, .bool q22062, .slice A22062 n22062 c22062] := hφ 9 (by decide)
                  have y10 : V 10 = .agg #[.bool sc1, .slice Ac1 nc1 cc1, .bool sc2, .slice Ac2 nc2 cc2] := hφ 10 (by decide)
                  have y12 : V 12 = .agg #[.bool sa1, .slice Aa1 na1 ca1, .bool sa2, .slice Aa2 na2 ca2] := hφ 12 (by decide)
                  have y13 : V 13 = .int .i64 (cm ((((Rat.divInt pa qa) / (Rat.divInt pc qc)) * (Rat.divInt pc qc)) - (Rat.divInt pa qa)).num 0) := hφ 13 (by decide)
                  have y14 : V 14 = .bool true := hφ 14 (by decide)
                  have y15 : V 15 = .bool true := hφ 15 (by decide)
                  have y16 : V 16 = .bool true := hφ 16 (by decide)
                  have y17 : V 17 = .bool true := hφ 17 (by decide)
                  have y18 : V 18 = .bool true := hφ 18 (by decide)
                  have y19 : V 19 = .bool true := hφ 19 (by decide)
                  have y20 : V 20 = .bool true := hφ 20 (by decide)
                  simp only [puts, Act.put, List.setIfInBounds_toArray, List.set_cons_zero, List.set_cons_succ, y0, y1, y2, y3, y4, y5, y6, y7, y8, y9, y10, y12, y13, y14, y15, y16, y17, y18, y19, y20]
                  clear hφ hψ hne y0 y1 y2 y3 y4 y5 y6 y7 y8 y9 y10 y12 y13 y14 y15 y16 y17 y18 y19 y20 Fa1_ Fa2_ Fb1_ Fb2_ Fc1_ Fc2_ Pa_ Pb_ Pc_ t7_1_ t7_2_ Xt7__ t8_1_ t8_2_ Xt8__ t9_1_ t9_2_ Xt9__ HB_ hsz26
                  go_wp2
                  go_ret
                  exact ⟨rfl, HB.out⟩
          · have C := hid (cm_n HZ.out hp)
            clear hp
            have E4 := hid (fld4 (Rat.divInt pa qa) HZ.out)
            go_wp2_with fail
            refine wp_region_eachG (by kernel_rfl) 16 88 rfl rfl (by kernel_rfl)
              [Fact.eq (.agg #[.bool sc1, .slice Ac1 nc1 cc1, .bool sc2, .slice Ac2 nc2 cc2]), Fact.eq (.int .i64 (cm ((Rat.divInt pc qc)).num 0)), Fact.eq (.bool false), Fact.eq (.bool false), Fact.eq undef, Fact.eq undef, Fact.eq undef, Fact.eq undef, Fact.eq undef, Fact.eq undef, Fact.eq undef, Fact.eq undef, Fact.eq undef, Fact.eq undef, Fact.eq undef, Fact.eq (.bool false)]
              [.val, .val, .val, .val, .val, .val, .val, .val, .val, .val, .val, .val, .val, .val, .val, .val]
              (fun w' => IntA w' (.agg #[.bool sa1, .slice Aa1 na1 ca1]) (pa) 8 ∧ IntA w' (.agg #[.bool sa2, .slice Aa2 na2 ca2]) (qa) 8 ∧ IntA w' (.agg #[.bool sb1, .slice Ab1 nb1 cb1]) (pb) 8 ∧ IntA w' (.agg #[.bool sb2, .slice Ab2 nb2 cb2]) (qb) 8 ∧ IntA w' (.agg #[.bool sc1, .slice Ac1 nc1 cc1]) (pc) 8 ∧ IntA w' (.agg #[.bool sc2, .slice Ac2 nc2 cc2]) (qc) 8 ∧ Blk w' (w.heap.size) 26 #[.bool sa1, .slice Aa1 na1 ca1, .bool sa2, .slice Aa2 na2 ca2] ∧ Blk w' (w.heap.size + 1) 26 #[.bool sb1, .slice Ab1 nb1 cb1, .bool sb2, .slice Ab2 nb2 cb2] ∧ Blk w' (w.heap.size + 1 + 1) 26 #[.bool sc1, .slice Ac1 nc1 cc1, .bool sc2, .slice Ac2 nc2 cc2] ∧ IntV w' (.agg #[.bool q4051, .slice A4051 n4051 c4051]) ((((Rat.divInt pa qa) * ((Rat.divInt pb qb) + (Rat.divInt pc qc)))).num) ∧ IntV w' (.agg #[.bool q4052, .slice A4052 n4052 c4052]) (((((Rat.divInt pa qa) * ((Rat.divInt pb qb) + (Rat.divInt pc qc)))).den : Int)) ∧ Blk w' (G4_5) 26 #[.bool q4051, .slice A4051 n4051 c4051, .bool q4052, .slice A4052 n4052 c4052] ∧ IntV w' (.agg #[.bool q8071, .slice A8071 n8071 c8071]) (((((Rat.divInt pa qa) * (Rat.divInt pb qb)) + ((Rat.divInt pa qa) * (Rat.divInt pc qc)))).num) ∧ IntV w' (.agg #[.bool q8072, .slice A8072 n8072 c8072]) ((((((Rat.divInt pa qa) * (Rat.divInt pb qb)) + ((Rat.divInt pa qa) * (Rat.divInt pc qc)))).den : Int)) ∧ Blk w' (G8_7) 26 #[.bool q8071, .slice A8071 n8071 c8071, .bool q8072, .slice A8072 n8072 c8072] ∧ Below w.heap.size w w')
              (fun _ _ _ => True) [] (fun _ => 0) (by kernel_rfl)
              ⟨Fa1.out, Fa2.out, Fb1.out, Fb2.out, Fc1.out, Fc2.out, Pa.out, Pb.out, Pc.out, t7_1.out, t7_2.out, Xt7_.out, t8_1.out, t8_2.out, Xt8_.out, HB.out⟩
              (fun w1 w2 ⟨h0, h1, h2, h3, h4, h5, h6, h7, h8, h9, h10, h11, h12, h13, h14, h15⟩ hb => ⟨h0.below hb, h1.below hb, h2.below hb, h3.below hb, h4.below hb, h5.below hb, h6.below hb, h7.below hb, h8.below hb, h9.below hb, h10.below hb, h11.below hb, h12.below hb, h13.below hb, h14.below hb, bw_step h15 hb⟩)
              (fun w1 w2 g ⟨h0, h1, h2, h3, h4, h5, h6, h7, h8, h9, h10, h11, h12, h13, h14, h15⟩ hg hn ho => by
                have hg' : W14.heap.size ≤ g := hg.elim id (fun ⟨_, h, _⟩ => absurd h (Nat.not_lt_zero _))
                exact ⟨h0.only hn ho, h1.only hn ho, h2.only hn ho, h3.only hn ho, h4.only hn ho, h5.only hn ho, h6.only ho (by have := Pa.out.lt; have := Pb.out.lt; have := Pc.out.lt; have := Xt7_.out.lt; have := Xt8_.out.lt; omega), h7.only ho (by have := Pa.out.lt; have := Pb.out.lt; have := Pc.out.lt; have := Xt7_.out.lt; have := Xt8_.out.lt; omega), h8.only ho (by have := Pa.out.lt; have := Pb.out.lt; have := Pc.out.lt; have := Xt7_.out.lt; have := Xt8_.out.lt; omega), h9.only hn ho, h10.only hn ho, h11.only ho (by have := Pa.out.lt; have := Pb.out.lt; have := Pc.out.lt; have := Xt7_.out.lt; have := Xt8_.out.lt; omega), h12.only hn ho, h13.only hn ho, h14.only ho (by have := Pa.out.lt; have := Pb.out.lt; have := Pc.out.lt; have := Xt7_.out.lt; have := Xt8_.out.lt; omega), below_only h15 ho (by have := Pa.out.lt; have := Pb.out.lt; have := Pc.out.lt; have := Xt7_.out.lt; have := Xt8_.out.lt; have := HB.out.size; omega)⟩)
              (fun l h => trivial) (fun l b w1 w2 h _ _ => trivial) (fun l b w1 w2 g h _ _ _ _ => trivial) (fun l h => by cases h) (fun l k h => by cases h) ?_ ?_
            · refine ⟨?_, ?_, ?_, ?_, ?_, ?_, ?_, ?_, ?_, ?_, ?_, ?_, ?_, ?_, ?_, ?_, trivial⟩ <;> intro L V a1 w1 hf hG hsz hφ hψ hL hdep hcl
              · obtain ⟨Fa1_, Fa2_, Fb1_, Fb2_, Fc1_, Fc2_, Pa_, Pb_, Pc_, t7_1_, t7_2_, Xt7__, t8_1_, t8_2_, Xt8__, HB_⟩ := hG
                refine og_none rfl ?_
                have e5 := old_slot hf 5 (by kernel_rfl)
                exact ob_pure (ex_loadR rfl e5 Pc_) rfl
              · obtain ⟨Fa1_, Fa2_, Fb1_, Fb2_, Fc1_, Fc2_, Pa_, Pb_, Pc_, t7_1_, t7_2_, Xt7__, t8_1_, t8_2_, Xt8__, HB_⟩ := hG
                refine og_none rfl ?_
                have d0 := dep_of hdep 0 (by kernel_rfl)
                have e46 := (new_slot hf 0 46 d0 (by kernel_rfl)).trans (show V 0 = .agg #[.bool sc1, .slice Ac1 nc1 cc1, .bool sc2, .slice Ac2 nc2 cc2] from hφ 0 d0)
                refine ob_go rfl (vs := #[.agg #[.bool sc1, .slice Ac1 nc1 cc1, .bool sc2, .slice Ac2 nc2 cc2]]) (by simp only [List.map_toArray, List.map_cons, List.map_nil, e46]) (by kernel_rfl) (signR_any _ _ (Rat.divInt pc qc) 8 (RatA.of (Pair.mk (a := .A pc 8) (b := .A qc 8) Fc1_ Fc2_)) (by omega) (by omega)) ?_
                rintro e w2 ⟨he, hb⟩
                exact ⟨_, he, hb, rfl⟩
              · obtain ⟨Fa1_, Fa2_, Fb1_, Fb2_, Fc1_, Fc2_, Pa_, Pb_, Pc_, t7_1_, t7_2_, Xt7__, t8_1_, t8_2_, Xt8__, HB_⟩ := hG
                refine og_none rfl ?_
                have d1 := dep_of hdep 1 (by kernel_rfl)
                have e47 := (new_slot hf 1 47 d1 (by kernel_rfl)).trans (show V 1 = .int .i64 (cm ((Rat.divInt pc qc)).num 0) from hφ 1 d1)
                exact ob_pure (ex_gtr_int rfl e47 rfl) (show Value.bool (decide (0 < (cm ((Rat.divInt pc qc)).num 0))) = Value.bool false from by rw [C.out]; rfl)
              · obtain ⟨Fa1_, Fa2_, Fb1_, Fb2_, Fc1_, Fc2_, Pa_, Pb_, Pc_, t7_1_, t7_2_, Xt7__, t8_1_, t8_2_, Xt8__, HB_⟩ := hG
                refine og_none rfl ?_
                have d2 := dep_of hdep 2 (by kernel_rfl)
                have e48 := (new_slot hf 2 48 d2 (by kernel_rfl)).trans (show V 2 = .bool false from hφ 2 d2)
                exact ob_pure (v := .bool false) (ex_moveV rfl e48) rfl
              · obtain ⟨Fa1_, Fa2_, Fb1_, Fb2_, Fc1_, Fc2_, Pa_, Pb_, Pc_, t7_1_, t7_2_, Xt7__, t8_1_, t8_2_, Xt8__, HB_⟩ := hG
                have dg := dep_of hdep 3 (by kernel_rfl)
                exact og_skip rfl (yielded_of hf (n := 88) (by kernel_rfl) rfl 3 49 dg (by kernel_rfl) (show V 3 = .bool false from hφ 3 dg)) rfl rfl
              · obtain ⟨Fa1_, Fa2_, Fb1_, Fb2_, Fc1_, Fc2_, Pa_, Pb_, Pc_, t7_1_, t7_2_, Xt7__, t8_1_, t8_2_, Xt8__, HB_⟩ := hG
                have dg := dep_of hdep 3 (by kernel_rfl)
                exact og_skip rfl (yielded_of hf (n := 88) (by kernel_rfl) rfl 3 49 dg (by kernel_rfl) (show V 3 = .bool false from hφ 3 dg)) rfl rfl
              · obtain ⟨Fa1_, Fa2_, Fb1_, Fb2_, Fc1_, Fc2_, Pa_, Pb_, Pc_, t7_1_, t7_2_, Xt7__, t8_1_, t8_2_, Xt8__, HB_⟩ := hG
                have dg := dep_of hdep 3 (by kernel_rfl)
                exact og_skip rfl (yielded_of hf (n := 88) (by kernel_rfl) rfl 3 49 dg (by kernel_rfl) (show V 3 = .bool false from hφ 3 dg)) rfl rfl
              · obtain ⟨Fa1_, Fa2_, Fb1_, Fb2_, Fc1_, Fc2_, Pa_, Pb_, Pc_, t7_1_, t7_2_, Xt7__, t8_1_, t8_2_, Xt8__, HB_⟩ := hG
                have dg := dep_of hdep 3 (by kernel_rfl)
                exact og_skip rfl (yielded_of hf (n := 88) (by kernel_rfl) rfl 3 49 dg (by kernel_rfl) (show V 3 = .bool false from hφ 3 dg)) rfl rfl
              · obtain ⟨Fa1_, Fa2_, Fb1_, Fb2_, Fc1_, Fc2_, Pa_, Pb_, Pc_, t7_1_, t7_2_, Xt7__, t8_1_, t8_2_, Xt8__, HB_⟩ := hG
                have dg := dep_of hdep 3 (by kernel_rfl)
                exact og_skip rfl (yielded_of hf (n := 88) (by kernel_rfl) rfl 3 49 dg (by kernel_rfl) (show V 3 = .bool false from hφ 3 dg)) rfl rfl
              · obtain ⟨Fa1_, Fa2_, Fb1_, Fb2_, Fc1_, Fc2_, Pa_, Pb_, Pc_, t7_1_, t7_2_, Xt7__, t8_1_, t8_2_, Xt8__, HB_⟩ := hG
                have dg := dep_of hdep 3 (by kernel_rfl)
                exact og_skip rfl (yielded_of hf (n := 88) (by kernel_rfl) rfl 3 49 dg (by kernel_rfl) (show V 3 = .bool false from hφ 3 dg)) rfl rfl
              · obtain ⟨Fa1_, Fa2_, Fb1_, Fb2_, Fc1_, Fc2_, Pa_, Pb_, Pc_, t7_1_, t7_2_, Xt7__, t8_1_, t8_2_, Xt8__, HB_⟩ := hG
                have dg := dep_of hdep 3 (by kernel_rfl)
                exact og_skip rfl (yielded_of hf (n := 88) (by kernel_rfl) rfl 3 49 dg (by kernel_rfl) (show V 3 = .bool false from hφ 3 dg)) rfl rfl
              · obtain ⟨Fa1_, Fa2_, Fb1_, Fb2_, Fc1_, Fc2_, Pa_, Pb_, Pc_, t7_1_, t7_2_, Xt7__, t8_1_, t8_2_, Xt8__, HB_⟩ := hG
                have dg := dep_of hdep 3 (by kernel_rfl)
                exact og_skip rfl (yielded_of hf (n := 88) (by kernel_rfl) rfl 3 49 dg (by kernel_rfl) (show V 3 = .bool false from hφ 3 dg)) rfl rfl
              · obtain ⟨Fa1_, Fa2_, Fb1_, Fb2_, Fc1_, Fc2_, Pa_, Pb_, Pc_, t7_1_, t7_2_, Xt7__, t8_1_, t8_2_, Xt8__, HB_⟩ := hG
                have dg := dep_of hdep 3 (by kernel_rfl)
                exact og_skip rfl (yielded_of hf (n := 88) (by kernel_rfl) rfl 3 49 dg (by kernel_rfl) (show V 3 = .bool false from hφ 3 dg)) rfl rfl
              · obtain ⟨Fa1_, Fa2_, Fb1_, Fb2_, Fc1_, Fc2_, Pa_, Pb_, Pc_, t7_1_, t7_2_, Xt7__, t8_1_, t8_2_, Xt8__, HB_⟩ := hG
                have dg := dep_of hdep 3 (by kernel_rfl)
                exact og_skip rfl (yielded_of hf (n := 88) (by kernel_rfl) rfl 3 49 dg (by kernel_rfl) (show V 3 = .bool false from hφ 3 dg)) rfl rfl
              · obtain ⟨Fa1_, Fa2_, Fb1_, Fb2_, Fc1_, Fc2_, Pa_, Pb_, Pc_, t7_1_, t7_2_, Xt7__, t8_1_, t8_2_, Xt8__, HB_⟩ := hG
                have dg := dep_of hdep 3 (by kernel_rfl)
                exact og_skip rfl (yielded_of hf (n := 88) (by kernel_rfl) rfl 3 49 dg (by kernel_rfl) (show V 3 = .bool false from hφ 3 dg)) rfl rfl
              · obtain ⟨Fa1_, Fa2_, Fb1_, Fb2_, Fc1_, Fc2_, Pa_, Pb_, Pc_, t7_1_, t7_2_, Xt7__, t8_1_, t8_2_, Xt8__, HB_⟩ := hG
                refine og_none rfl ?_
                have d3 := dep_of hdep 3 (by kernel_rfl)
                have e49 := (new_slot hf 3 49 d3 (by kernel_rfl)).trans (show V 3 = .bool false from hφ 3 d3)
                exact ob_pure (v := .bool false) (ex_pick_false rfl e49 rfl) rfl
            · intro V W16 hG hsz16 hφ hψ hne
              have hlt16 : W14.heap.size ≤ W16.heap.size := hsz16
              obtain ⟨Fa1_, Fa2_, Fb1_, Fb2_, Fc1_, Fc2_, Pa_, Pb_, Pc_, t7_1_, t7_2_, Xt7__, t8_1_, t8_2_, Xt8__, HB_⟩ := hG
              have Fa1 := hid Fa1_
              have Fa2 := hid Fa2_
              have Fb1 := hid Fb1_
              have Fb2 := hid Fb2_
              have Fc1 := hid Fc1_
              have Fc2 := hid Fc2_
              have Pa := hid Pa_
              have Pb := hid Pb_
              have Pc := hid Pc_
              have t7_1 := hid t7_1_
              have t7_2 := hid t7_2_
              have Xt7_ := hid Xt7__
              have t8_1 := hid t8_1_
              have t8_2 := hid t8_2_
              have Xt8_ := hid Xt8__
              have HB := hid HB_
              have y0 : V 0 = .agg #[.bool sc1, .slice Ac1 nc1 cc1, .bool sc2, .slice Ac2 nc2 cc2] := hφ 0 (by decide)
              have y1 : V 1 = .int .i64 (cm ((Rat.divInt pc qc)).num 0) := hφ 1 (by decide)
              have y2 : V 2 = .bool false := hφ 2 (by decide)
              have y3 : V 3 = .bool false := hφ 3 (by decide)
              have y4 : V 4 = undef := hφ 4 (by decide)
              have y5 : V 5 = undef := hφ 5 (by decide)
              have y6 : V 6 = undef := hφ 6 (by decide)
              have y7 : V 7 = undef := hφ 7 (by decide)
              have y8 : V 8 = undef := hφ 8 (by decide)
              have y9 : V 9 = undef := hφ 9 (by decide)
              have y10 : V 10 = undef := hφ 10 (by decide)
              have y11 : V 11 = undef := hφ 11 (by decide)
              have y12 : V 12 = undef := hφ 12 (by decide)
              have y13 : V 13 = undef := hφ 13 (by decide)
              have y14 : V 14 = undef := hφ 14 (by decide)
              have y15 : V 15 = .bool false := hφ 15 (by decide)
              simp only [puts, Act.put, List.setIfInBounds_toArray, List.set_cons_zero, List.set_cons_succ, y0, y1, y2, y3, y4, y5, y6, y7, y8, y9, y10, y11, y12, y13, y14, y15]
              clear hφ hψ hne y0 y1 y2 y3 y4 y5 y6 y7 y8 y9 y10 y11 y12 y13 y14 y15 Fa1_ Fa2_ Fb1_ Fb2_ Fc1_ Fc2_ Pa_ Pb_ Pc_ t7_1_ t7_2_ Xt7__ t8_1_ t8_2_ Xt8__ HB_ hsz16
              go_wp2_with (with_reducible refine halt_at 63 rfl ?_)
              have RS17 : Hid (RS 16 ((Rat.divInt pa qa) / (Rat.divInt pc qc))) := hid ((RS.of (Sa1.out) (Sa2.out) (by omega)).div (RS.of (Sc1.out) (Sc2.out) (by omega)) (by omega) (by omega))
              have lt17_Pa := Pa.out.lt
              have lt17_Pb := Pb.out.lt
              have lt17_Pc := Pc.out.lt
              have lt17_Xt7_ := Xt7_.out.lt
              have lt17_Xt8_ := Xt8_.out.lt
              unfold Halted
              refine wp_list_each (by kernel_rfl) 9 88 rfl rfl (by kernel_rfl)
                [Fact.eq (.agg #[.bool sa1, .slice Aa1 na1 ca1, .bool sa2, .slice Aa2 na2 ca2]), Fact.eq (.agg #[.bool sc1, .slice Ac1 nc1 cc1, .bool sc2, .slice Ac2 nc2 cc2]), Fact.pairB (.V (((Rat.divInt pa qa) / (Rat.divInt pc qc))).num) (.V ((((Rat.divInt pa qa) / (Rat.divInt pc qc))).den : Int)) true, Fact.pairB (.V (((Rat.divInt pa qa) / (Rat.divInt pc qc))).num) (.V ((((Rat.divInt pa qa) / (Rat.divInt pc qc))).den : Int)) true, Fact.pair (.V (((Rat.divInt pa qa) / (Rat.divInt pc qc))).num) (.V ((((Rat.divInt pa qa) / (Rat.divInt pc qc))).den : Int)), Fact.eq (.bool true), Fact.boxR 26 Rne (.V (((Rat.divInt pa qa) / (Rat.divInt pc qc))).num) (.V ((((Rat.divInt pa qa) / (Rat.divInt pc qc))).den : Int)), Fact.top _, Fact.eq (.bool true)]
                [.val, .val, .val, .val, .val, .val, .alloc 7, .fill 6, .val]
                (fun w' => IntA w' (.agg #[.bool sa1, .slice Aa1 na1 ca1]) (pa) 8 ∧ IntA w' (.agg #[.bool sa2, .slice Aa2 na2 ca2]) (qa) 8 ∧ IntA w' (.agg #[.bool sb1, .slice Ab1 nb1 cb1]) (pb) 8 ∧ IntA w' (.agg #[.bool sb2, .slice Ab2 nb2 cb2]) (qb) 8 ∧ IntA w' (.agg #[.bool sc1, .slice Ac1 nc1 cc1]) (pc) 8 ∧ IntA w' (.agg #[.bool sc2, .slice Ac2 nc2 cc2]) (qc) 8 ∧ Blk w' (w.heap.size) 26 #[.bool sa1, .slice Aa1 na1 ca1, .bool sa2, .slice Aa2 na2 ca2] ∧ Blk w' (w.heap.size + 1) 26 #[.bool sb1, .slice Ab1 nb1 cb1, .bool sb2, .slice Ab2 nb2 cb2] ∧ Blk w' (w.heap.size + 1 + 1) 26 #[.bool sc1, .slice Ac1 nc1 cc1, .bool sc2, .slice Ac2 nc2 cc2] ∧ IntV w' (.agg #[.bool q4051, .slice A4051 n4051 c4051]) ((((Rat.divInt pa qa) * ((Rat.divInt pb qb) + (Rat.divInt pc qc)))).num) ∧ IntV w' (.agg #[.bool q4052, .slice A4052 n4052 c4052]) (((((Rat.divInt pa qa) * ((Rat.divInt pb qb) + (Rat.divInt pc qc)))).den : Int)) ∧ Blk w' (G4_5) 26 #[.bool q4051, .slice A4051 n4051 c4051, .bool q4052, .slice A4052 n4052 c4052] ∧ IntV w' (.agg #[.bool q8071, .slice A8071 n8071 c8071]) (((((Rat.divInt pa qa) * (Rat.divInt pb qb)) + ((Rat.divInt pa qa) * (Rat.divInt pc qc)))).num) ∧ IntV w' (.agg #[.bool q8072, .slice A8072 n8072 c8072]) ((((((Rat.divInt pa qa) * (Rat.divInt pb qb)) + ((Rat.divInt pa qa) * (Rat.divInt pc qc)))).den : Int)) ∧ Blk w' (G8_7) 26 #[.bool q8071, .slice A8071 n8071 c8071, .bool q8072, .slice A8072 n8072 c8072] ∧ Below w.heap.size w w')
                (fun _ _ _ => True) [] (fun _ => 0) (by kernel_rfl)
                ⟨Fa1.out, Fa2.out, Fb1.out, Fb2.out, Fc1.out, Fc2.out, Pa.out, Pb.out, Pc.out, t7_1.out, t7_2.out, Xt7_.out, t8_1.out, t8_2.out, Xt8_.out, HB.out⟩
                (fun w1 w2 ⟨h0, h1, h2, h3, h4, h5, h6, h7, h8, h9, h10, h11, h12, h13, h14, h15⟩ hb => ⟨h0.below hb, h1.below hb, h2.below hb, h3.below hb, h4.below hb, h5.below hb, h6.below hb, h7.below hb, h8.below hb, h9.below hb, h10.below hb, h11.below hb, h12.below hb, h13.below hb, h14.below hb, bw_step h15 hb⟩)
                (fun w1 w2 g ⟨h0, h1, h2, h3, h4, h5, h6, h7, h8, h9, h10, h11, h12, h13, h14, h15⟩ hg hn ho => by
                  have hg' : W16.heap.size ≤ g := hg.elim id (fun ⟨_, h, _⟩ => absurd h (Nat.not_lt_zero _))
                  exact ⟨h0.only hn ho, h1.only hn ho, h2.only hn ho, h3.only hn ho, h4.only hn ho, h5.only hn ho, h6.only ho (by have := Pa.out.lt; have := Pb.out.lt; have := Pc.out.lt; have := Xt7_.out.lt; have := Xt8_.out.lt; omega), h7.only ho (by have := Pa.out.lt; have := Pb.out.lt; have := Pc.out.lt; have := Xt7_.out.lt; have := Xt8_.out.lt; omega), h8.only ho (by have := Pa.out.lt; have := Pb.out.lt; have := Pc.out.lt; have := Xt7_.out.lt; have := Xt8_.out.lt; omega), h9.only hn ho, h10.only hn ho, h11.only ho (by have := Pa.out.lt; have := Pb.out.lt; have := Pc.out.lt; have := Xt7_.out.lt; have := Xt8_.out.lt; omega), h12.only hn ho, h13.only hn ho, h14.only ho (by have := Pa.out.lt; have := Pb.out.lt; have := Pc.out.lt; have := Xt7_.out.lt; have := Xt8_.out.lt; omega), below_only h15 ho (by have := Pa.out.lt; have := Pb.out.lt; have := Pc.out.lt; have := Xt7_.out.lt; have := Xt8_.out.lt; have := HB.out.size; omega)⟩)
                (fun l h => trivial) (fun l b w1 w2 h _ _ => trivial) (fun l b w1 w2 g h _ _ _ _ => trivial) (fun l h => by cases h) (fun l k h => by cases h) ?_ ?_
              · refine ⟨?_, ?_, ?_, ?_, ?_, ?_, ?_, ?_, ?_, trivial⟩ <;> intro L V a1 w1 hf hG hsz hφ hψ hL hdep hcl
                · obtain ⟨Fa1_, Fa2_, Fb1_, Fb2_, Fc1_, Fc2_, Pa_, Pb_, Pc_, t7_1_, t7_2_, Xt7__, t8_1_, t8_2_, Xt8__, HB_⟩ := hG
                  have e3 := old_slot hf 3 (by kernel_rfl)
                  exact ob_pure (ex_loadR rfl e3 Pa_) rfl
                · obtain ⟨Fa1_, Fa2_, Fb1_, Fb2_, Fc1_, Fc2_, Pa_, Pb_, Pc_, t7_1_, t7_2_, Xt7__, t8_1_, t8_2_, Xt8__, HB_⟩ := hG
                  have e5 := old_slot hf 5 (by kernel_rfl)
                  exact ob_pure (ex_loadR rfl e5 Pc_) rfl
                · obtain ⟨Fa1_, Fa2_, Fb1_, Fb2_, Fc1_, Fc2_, Pa_, Pb_, Pc_, t7_1_, t7_2_, Xt7__, t8_1_, t8_2_, Xt8__, HB_⟩ := hG
                  have d0 := dep_of hdep 0 (by kernel_rfl)
                  have e63 := (new_slot hf 0 63 d0 (by kernel_rfl)).trans (show V 0 = .agg #[.bool sa1, .slice Aa1 na1 ca1, .bool sa2, .slice Aa2 na2 ca2] from hφ 0 d0)
                  have d1 := dep_of hdep 1 (by kernel_rfl)
                  have e64 := (new_slot hf 1 64 d1 (by kernel_rfl)).trans (show V 1 = .agg #[.bool sc1, .slice Ac1 nc1 cc1, .bool sc2, .slice Ac2 nc2 cc2] from hφ 1 d1)
                  refine ob_go rfl (vs := #[.agg #[.bool sa1, .slice Aa1 na1 ca1, .bool sa2, .slice Aa2 na2 ca2], .agg #[.bool sc1, .slice Ac1 nc1 cc1, .bool sc2, .slice Ac2 nc2 cc2]]) (by simp only [List.map_toArray, List.map_cons, List.map_nil, e63, e64]) (by kernel_rfl) (quoR_any _ _ _ (Rat.divInt pa qa) (Rat.divInt pc qc) 8 (RatA.of (Pair.mk (a := .A pa 8) (b := .A qa 8) Fa1_ Fa2_)) (RatA.of (Pair.mk (a := .A pc 8) (b := .A qc 8) Fc1_ Fc2_)) (by omega) (by omega) (HZ.out)) ?_
                  rintro e w2 ⟨⟨v, rfl, hv⟩, hb⟩
                  exact ⟨v, rfl, hb, hv⟩
                · obtain ⟨Fa1_, Fa2_, Fb1_, Fb2_, Fc1_, Fc2_, Pa_, Pb_, Pc_, t7_1_, t7_2_, Xt7__, t8_1_, t8_2_, Xt8__, HB_⟩ := hG
                  have d2 := dep_of hdep 2 (by kernel_rfl)
                  have e65 := new_slot hf 2 65 d2 (by kernel_rfl)
                  have p65 : PairB w1 (V 2) (.V (((Rat.divInt pa qa) / (Rat.divInt pc qc))).num) (.V ((((Rat.divInt pa qa) / (Rat.divInt pc qc))).den : Int)) true := hφ 2 d2
                  exact ob_pure (ex_moveV rfl e65) (by exact p65)
                · obtain ⟨Fa1_, Fa2_, Fb1_, Fb2_, Fc1_, Fc2_, Pa_, Pb_, Pc_, t7_1_, t7_2_, Xt7__, t8_1_, t8_2_, Xt8__, HB_⟩ := hG
                  have d3 := dep_of hdep 3 (by kernel_rfl)
                  have e62 := new_slot hf 3 62 d3 (by kernel_rfl)
                  have p62 : PairB w1 (V 3) (.V (((Rat.divInt pa qa) / (Rat.divInt pc qc))).num) (.V ((((Rat.divInt pa qa) / (Rat.divInt pc qc))).den : Int)) true := hφ 3 d3
                  exact ob_pairB0 rfl e62 p62 rfl
                · obtain ⟨Fa1_, Fa2_, Fb1_, Fb2_, Fc1_, Fc2_, Pa_, Pb_, Pc_, t7_1_, t7_2_, Xt7__, t8_1_, t8_2_, Xt8__, HB_⟩ := hG
                  have d3 := dep_of hdep 3 (by kernel_rfl)
                  have e62 := new_slot hf 3 62 d3 (by kernel_rfl)
                  have p62 : PairB w1 (V 3) (.V (((Rat.divInt pa qa) / (Rat.divInt pc qc))).num) (.V ((((Rat.divInt pa qa) / (Rat.divInt pc qc))).den : Int)) true := hφ 3 d3
                  exact ob_pairB1 rfl e62 p62 rfl
                · obtain ⟨Fa1_, Fa2_, Fb1_, Fb2_, Fc1_, Fc2_, Pa_, Pb_, Pc_, t7_1_, t7_2_, Xt7__, t8_1_, t8_2_, Xt8__, HB_⟩ := hG
                  exact ob_allocR rfl hsz rfl
                · obtain ⟨Fa1_, Fa2_, Fb1_, Fb2_, Fc1_, Fc2_, Pa_, Pb_, Pc_, t7_1_, t7_2_, Xt7__, t8_1_, t8_2_, Xt8__, HB_⟩ := hG
                  have d4 := dep_of hdep 4 (by kernel_rfl)
                  have e66 := new_slot hf 4 66 d4 (by kernel_rfl)
                  have p66 : Pair w1 (V 4) (.V (((Rat.divInt pa qa) / (Rat.divInt pc qc))).num) (.V ((((Rat.divInt pa qa) / (Rat.divInt pc qc))).den : Int)) := hφ 4 d4
                  have d6 := dep_of hdep 6 (by kernel_rfl)
                  obtain ⟨g, h1, h2, h3, _⟩ := hφ 6 d6
                  have hz := h3 (show (true && L 7) = false from by have h : L 7 = false := hL; rw [h]; rfl)
                  exact ob_fillR rfl ((new_slot hf 6 9 d6 (by kernel_rfl)).trans h1) e66 h1 h2 hz p66 rfl rfl
                · obtain ⟨Fa1_, Fa2_, Fb1_, Fb2_, Fc1_, Fc2_, Pa_, Pb_, Pc_, t7_1_, t7_2_, Xt7__, t8_1_, t8_2_, Xt8__, HB_⟩ := hG
                  have d5 := dep_of hdep 5 (by kernel_rfl)
                  have e67 := (new_slot hf 5 67 d5 (by kernel_rfl)).trans (show V 5 = .bool true from hφ 5 d5)
                  exact ob_pure (v := .bool true) (ex_assignV rfl e67) rfl
              · intro V W18 hG hsz18 hφ hψ hne
                have hlt18 : W16.heap.size ≤ W18.heap.size := hsz18
                obtain ⟨Fa1_, Fa2_, Fb1_, Fb2_, Fc1_, Fc2_, Pa_, Pb_, Pc_, t7_1_, t7_2_, Xt7__, t8_1_, t8_2_, Xt8__, HB_⟩ := hG
                have Fa1 := hid Fa1_
                have Fa2 := hid Fa2_
                have Fb1 := hid Fb1_
                have Fb2 := hid Fb2_
                have Fc1 := hid Fc1_
                have Fc2 := hid Fc2_
                have Pa := hid Pa_
                have Pb := hid Pb_
                have Pc := hid Pc_
                have t7_1 := hid t7_1_
                have t7_2 := hid t7_2_
                have Xt7_ := hid Xt7__
                have t8_1 := hid t8_1_
                have t8_2 := hid t8_2_
                have Xt8_ := hid Xt8__
                have HB := hid HB_
                have y0 : V 0 = .agg #[.bool sa1, .slice Aa1 na1 ca1, .bool sa2, .slice Aa2 na2 ca2] := hφ 0 (by decide)
                have y1 : V 1 = .agg #[.bool sc1, .slice Ac1 nc1 cc1, .bool sc2, .slice Ac2 nc2 cc2] := hφ 1 (by decide)
                have y5 : V 5 = .bool true := hφ 5 (by decide)
                obtain ⟨G18_6, y6, gb1806, _, hb1806⟩ := hφ 6 (by decide)
                obtain ⟨q18061, A18061, n18061, c18061, q18062, A18062, n18062, c18062, kb1806, va1806, vb1806⟩ := hb1806 rfl
                have Xt9_ := hid kb1806
                have t9_1 : Hid (IntV W18 (.agg #[.bool q18061, .slice A18061 n18061 c18061]) (((Rat.divInt pa qa) / (Rat.divInt pc qc))).num) := hid va1806
                have t9_2 : Hid (IntV W18 (.agg #[.bool q18062, .slice A18062 n18062 c18062]) ((((Rat.divInt pa qa) / (Rat.divInt pc qc))).den : Int)) := hid vb1806
                clear kb1806 va1806 vb1806
                clear hb1806
                have y8 : V 8 = .bool true := hφ 8 (by decide)
                simp only [puts, Act.put, List.setIfInBounds_toArray, List.set_cons_zero, List.set_cons_succ, y0, y1, y5, y6, y8, ptr]
                clear hφ hψ hne y0 y1 y5 y6 y8 Fa1_ Fa2_ Fb1_ Fb2_ Fc1_ Fc2_ Pa_ Pb_ Pc_ t7_1_ t7_2_ Xt7__ t8_1_ t8_2_ Xt8__ HB_ hsz18
                go_wp2_with fail
                have RS20 : Hid (RS 32 (((Rat.divInt pa qa) / (Rat.divInt pc qc)) * (Rat.divInt pc qc))) := hid ((RS17.out).mul (RS.of (Sc1.out) (Sc2.out) (by omega)) (by omega))
                refine wp_region_eachG (by kernel_rfl) 21 88 rfl rfl (by kernel_rfl)
                  [Fact.eq (.bool true), Fact.eq (.agg #[.bool sc1, .slice Ac1 nc1 cc1, .bool sc2, .slice Ac2 nc2 cc2]), Fact.eq (.int .i64 (cm ((Rat.divInt pc qc)).num 0)), Fact.eq (.bool true), Fact.eq (.bool true), Fact.eq (.bool true), Fact.eq (.bool true), Fact.eq (.bool false), Fact.eq (.bool false), Fact.eq (.agg #[.bool q18061, .slice A18061 n18061 c18061, .bool q18062, .slice A18062 n18062 c18062]), Fact.eq (.agg #[.bool sc1, .slice Ac1 nc1 cc1, .bool sc2, .slice Ac2 nc2 cc2]), Fact.pair (.V ((((Rat.divInt pa qa) / (Rat.divInt pc qc)) * (Rat.divInt pc qc))).num) (.V (((((Rat.divInt pa qa) / (Rat.divInt pc qc)) * (Rat.divInt pc qc))).den : Int)), Fact.eq (.agg #[.bool sa1, .slice Aa1 na1 ca1, .bool sa2, .slice Aa2 na2 ca2]), Fact.eq (.int .i64 (cm ((((Rat.divInt pa qa) / (Rat.divInt pc qc)) * (Rat.divInt pc qc)) - (Rat.divInt pa qa)).num 0)), Fact.eq (.bool true), Fact.eq (.bool true), Fact.eq (.bool true), Fact.eq (.bool true), Fact.eq (.bool true), Fact.eq (.bool true), Fact.eq (.bool true)]
                  [.val, .val, .val, .val, .val, .val, .val, .val, .val, .val, .val, .val, .val, .val, .val, .val, .val, .val, .val, .val, .val]
                  (fun w' => IntA w' (.agg #[.bool sa1, .slice Aa1 na1 ca1]) (pa) 8 ∧ IntA w' (.agg #[.bool sa2, .slice Aa2 na2 ca2]) (qa) 8 ∧ IntA w' (.agg #[.bool sb1, .slice Ab1 nb1 cb1]) (pb) 8 ∧ IntA w' (.agg #[.bool sb2, .slice Ab2 nb2 cb2]) (qb) 8 ∧ IntA w' (.agg #[.bool sc1, .slice Ac1 nc1 cc1]) (pc) 8 ∧ IntA w' (.agg #[.bool sc2, .slice Ac2 nc2 cc2]) (qc) 8 ∧ Blk w' (w.heap.size) 26 #[.bool sa1, .slice Aa1 na1 ca1, .bool sa2, .slice Aa2 na2 ca2] ∧ Blk w' (w.heap.size + 1) 26 #[.bool sb1, .slice Ab1 nb1 cb1, .bool sb2, .slice Ab2 nb2 cb2] ∧ Blk w' (w.heap.size + 1 + 1) 26 #[.bool sc1, .slice Ac1 nc1 cc1, .bool sc2, .slice Ac2 nc2 cc2] ∧ IntV w' (.agg #[.bool q4051, .slice A4051 n4051 c4051]) ((((Rat.divInt pa qa) * ((Rat.divInt pb qb) + (Rat.divInt pc qc)))).num) ∧ IntV w' (.agg #[.bool q4052, .slice A4052 n4052 c4052]) (((((Rat.divInt pa qa) * ((Rat.divInt pb qb) + (Rat.divInt pc qc)))).den : Int)) ∧ Blk w' (G4_5) 26 #[.bool q4051, .slice A4051 n4051 c4051, .bool q4052, .slice A4052 n4052 c4052] ∧ IntV w' (.agg #[.bool q8071, .slice A8071 n8071 c8071]) (((((Rat.divInt pa qa) * (Rat.divInt pb qb)) + ((Rat.divInt pa qa) * (Rat.divInt pc qc)))).num) ∧ IntV w' (.agg #[.bool q8072, .slice A8072 n8072 c8072]) ((((((Rat.divInt pa qa) * (Rat.divInt pb qb)) + ((Rat.divInt pa qa) * (Rat.divInt pc qc)))).den : Int)) ∧ Blk w' (G8_7) 26 #[.bool q8071, .slice A8071 n8071 c8071, .bool q8072, .slice A8072 n8072 c8072] ∧ IntV w' (.agg #[.bool q18061, .slice A18061 n18061 c18061]) ((((Rat.divInt pa qa) / (Rat.divInt pc qc))).num) ∧ IntV w' (.agg #[.bool q18062, .slice A18062 n18062 c18062]) (((((Rat.divInt pa qa) / (Rat.divInt pc qc))).den : Int)) ∧ Blk w' (G18_6) 26 #[.bool q18061, .slice A18061 n18061 c18061, .bool q18062, .slice A18062 n18062 c18062] ∧ Below w.heap.size w w')
                  (fun _ _ _ => True) [] (fun _ => 0) (by kernel_rfl)
                  ⟨Fa1.out, Fa2.out, Fb1.out, Fb2.out, Fc1.out, Fc2.out, Pa.out, Pb.out, Pc.out, t7_1.out, t7_2.out, Xt7_.out, t8_1.out, t8_2.out, Xt8_.out, t9_1.out, t9_2.out, Xt9_.out, HB.out⟩
                  (fun w1 w2 ⟨h0, h1, h2, h3, h4, h5, h6, h7, h8, h9, h10, h11, h12, h13, h14, h15, h16, h17, h18⟩ hb => ⟨h0.below hb, h1.below hb, h2.below hb, h3.below hb, h4.below hb, h5.below hb, h6.below hb, h7.below hb, h8.below hb, h9.below hb, h10.below hb, h11.below hb, h12.below hb, h13.below hb, h14.below hb, h15.below hb, h16.below hb, h17.below hb, bw_step h18 hb⟩)
                  (fun w1 w2 g ⟨h0, h1, h2, h3, h4, h5, h6, h7, h8, h9, h10, h11, h12, h13, h14, h15, h16, h17, h18⟩ hg hn ho => by
                    have hg' : W18.heap.size ≤ g := hg.elim id (fun ⟨_, h, _⟩ => absurd h (Nat.not_lt_zero _))
                    exact ⟨h0.only hn ho, h1.only hn ho, h2.only hn ho, h3.only hn ho, h4.only hn ho, h5.only hn ho, h6.only ho (by have := Pa.out.lt; have := Pb.out.lt; have := Pc.out.lt; have := Xt7_.out.lt; have := Xt8_.out.lt; have := Xt9_.out.lt; omega), h7.only ho (by have := Pa.out.lt; have := Pb.out.lt; have := Pc.out.lt; have := Xt7_.out.lt; have := Xt8_.out.lt; have := Xt9_.out.lt; omega), h8.only ho (by have := Pa.out.lt; have := Pb.out.lt; have := Pc.out.lt; have := Xt7_.out.lt; have := Xt8_.out.lt; have := Xt9_.out.lt; omega), h9.only hn ho, h10.only hn ho, h11.only ho (by have := Pa.out.lt; have := Pb.out.lt; have := Pc.out.lt; have := Xt7_.out.lt; have := Xt8_.out.lt; have := Xt9_.out.lt; omega), h12.only hn ho, h13.only hn ho, h14.only ho (by have := Pa.out.lt; have := Pb.out.lt; have := Pc.out.lt; have := Xt7_.out.lt; have := Xt8_.out.lt; have := Xt9_.out.lt; omega), h15.only hn ho, h16.only hn ho, h17.only ho (by have := Pa.out.lt; have := Pb.out.lt; have := Pc.out.lt; have := Xt7_.out.lt; have := Xt8_.out.lt; have := Xt9_.out.lt; omega), below_only h18 ho (by have := Pa.out.lt; have := Pb.out.lt; have := Pc.out.lt; have := Xt7_.out.lt; have := Xt8_.out.lt; have := Xt9_.out.lt; have := HB.out.size; omega)⟩)
                  (fun l h => trivial) (fun l b w1 w2 h _ _ => trivial) (fun l b w1 w2 g h _ _ _ _ => trivial) (fun l h => by cases h) (fun l k h => by cases h) ?_ ?_
                · refine ⟨?_, ?_, ?_, ?_, ?_, ?_, ?_, ?_, ?_, ?_, ?_, ?_, ?_, ?_, ?_, ?_, ?_, ?_, ?_, ?_, ?_, trivial⟩ <;> intro L V a1 w1 hf hG hsz hφ hψ hL hdep hcl
                  · obtain ⟨Fa1_, Fa2_, Fb1_, Fb2_, Fc1_, Fc2_, Pa_, Pb_, Pc_, t7_1_, t7_2_, Xt7__, t8_1_, t8_2_, Xt8__, t9_1_, t9_2_, Xt9__, HB_⟩ := hG
                    refine og_none rfl ?_
                    have e10 := old_slot hf 10 (by kernel_rfl)
                    exact ob_pure (v := .bool true) (ex_moveV rfl e10) rfl
                  · obtain ⟨Fa1_, Fa2_, Fb1_, Fb2_, Fc1_, Fc2_, Pa_, Pb_, Pc_, t7_1_, t7_2_, Xt7__, t8_1_, t8_2_, Xt8__, t9_1_, t9_2_, Xt9__, HB_⟩ := hG
                    refine og_none rfl ?_
                    have e5 := old_slot hf 5 (by kernel_rfl)
                    exact ob_pure (ex_loadR rfl e5 Pc_) rfl
                  · obtain ⟨Fa1_, Fa2_, Fb1_, Fb2_, Fc1_, Fc2_, Pa_, Pb_, Pc_, t7_1_, t7_2_, Xt7__, t8_1_, t8_2_, Xt8__, t9_1_, t9_2_, Xt9__, HB_⟩ := hG
                    refine og_none rfl ?_
                    have d1 := dep_of hdep 1 (by kernel_rfl)
                    have e69 := (new_slot hf 1 69 d1 (by kernel_rfl)).trans (show V 1 = .agg #[.bool sc1, .slice Ac1 nc1 cc1, .bool sc2, .slice Ac2 nc2 cc2] from hφ 1 d1)
                    refine ob_go rfl (vs := #[.agg #[.bool sc1, .slice Ac1 nc1 cc1, .bool sc2, .slice Ac2 nc2 cc2]]) (by simp only [List.map_toArray, List.map_cons, List.map_nil, e69]) (by kernel_rfl) (rsignR_any _ _ (Rat.divInt pc qc) 8 (RatA.of (Pair.mk (a := .A pc 8) (b := .A qc 8) Fc1_ Fc2_)) (by omega) (by omega)) ?_
                    rintro e w2 ⟨he, hb⟩
                    exact ⟨_, he, hb, rfl⟩
                  · obtain ⟨Fa1_, Fa2_, Fb1_, Fb2_, Fc1_, Fc2_, Pa_, Pb_, Pc_, t7_1_, t7_2_, Xt7__, t8_1_, t8_2_, Xt8__, t9_1_, t9_2_, Xt9__, HB_⟩ := hG
                    refine og_none rfl ?_
                    have d2 := dep_of hdep 2 (by kernel_rfl)
                    have e70 := (new_slot hf 2 70 d2 (by kernel_rfl)).trans (show V 2 = .int .i64 (cm ((Rat.divInt pc qc)).num 0) from hφ 2 d2)
                    exact ob_pure (ex_neq_int rfl e70 rfl) (show Value.bool ((cm ((Rat.divInt pc qc)).num 0) != 0) = Value.bool true from by rw [C.out]; rfl)
                  · obtain ⟨Fa1_, Fa2_, Fb1_, Fb2_, Fc1_, Fc2_, Pa_, Pb_, Pc_, t7_1_, t7_2_, Xt7__, t8_1_, t8_2_, Xt8__, t9_1_, t9_2_, Xt9__, HB_⟩ := hG
                    refine og_none rfl ?_
                    have d0 := dep_of hdep 0 (by kernel_rfl)
                    have e68 := (new_slot hf 0 68 d0 (by kernel_rfl)).trans (show V 0 = .bool true from hφ 0 d0)
                    have d3 := dep_of hdep 3 (by kernel_rfl)
                    have e71 := (new_slot hf 3 71 d3 (by kernel_rfl)).trans (show V 3 = .bool true from hφ 3 d3)
                    exact ob_pure (ex_eql_bool rfl e68 e71) (show Value.bool (true == true) = Value.bool true from by simp)
                  · obtain ⟨Fa1_, Fa2_, Fb1_, Fb2_, Fc1_, Fc2_, Pa_, Pb_, Pc_, t7_1_, t7_2_, Xt7__, t8_1_, t8_2_, Xt8__, t9_1_, t9_2_, Xt9__, HB_⟩ := hG
                    refine og_none rfl ?_
                    have d4 := dep_of hdep 4 (by kernel_rfl)
                    have e72 := (new_slot hf 4 72 d4 (by kernel_rfl)).trans (show V 4 = .bool true from hφ 4 d4)
                    exact ob_pure (v := .bool true) (ex_moveV rfl e72) rfl
                  · obtain ⟨Fa1_, Fa2_, Fb1_, Fb2_, Fc1_, Fc2_, Pa_, Pb_, Pc_, t7_1_, t7_2_, Xt7__, t8_1_, t8_2_, Xt8__, t9_1_, t9_2_, Xt9__, HB_⟩ := hG
                    have dg := dep_of hdep 5 (by kernel_rfl)
                    refine og_want rfl (yielded_of hf (n := 88) (by kernel_rfl) rfl 5 73 dg (by kernel_rfl) (show V 5 = .bool true from hφ 5 dg)) ?_
                    have e10 := old_slot hf 10 (by kernel_rfl)
                    exact ob_pure (v := .bool true) (ex_moveV rfl e10) rfl
                  · obtain ⟨Fa1_, Fa2_, Fb1_, Fb2_, Fc1_, Fc2_, Pa_, Pb_, Pc_, t7_1_, t7_2_, Xt7__, t8_1_, t8_2_, Xt8__, t9_1_, t9_2_, Xt9__, HB_⟩ := hG
                    have dg := dep_of hdep 5 (by kernel_rfl)
                    refine og_want rfl (yielded_of hf (n := 88) (by kernel_rfl) rfl 5 73 dg (by kernel_rfl) (show V 5 = .bool true from hφ 5 dg)) ?_
                    have d6 := dep_of hdep 6 (by kernel_rfl)
                    have e74 := (new_slot hf 6 74 d6 (by kernel_rfl)).trans (show V 6 = .bool true from hφ 6 d6)
                    exact ob_pure (ex_not rfl e74) rfl
                  · obtain ⟨Fa1_, Fa2_, Fb1_, Fb2_, Fc1_, Fc2_, Pa_, Pb_, Pc_, t7_1_, t7_2_, Xt7__, t8_1_, t8_2_, Xt8__, t9_1_, t9_2_, Xt9__, HB_⟩ := hG
                    have dg := dep_of hdep 5 (by kernel_rfl)
                    refine og_want rfl (yielded_of hf (n := 88) (by kernel_rfl) rfl 5 73 dg (by kernel_rfl) (show V 5 = .bool true from hφ 5 dg)) ?_
                    have d7 := dep_of hdep 7 (by kernel_rfl)
                    have e75 := (new_slot hf 7 75 d7 (by kernel_rfl)).trans (show V 7 = .bool false from hφ 7 d7)
                    exact ob_pure (v := .bool false) (ex_moveV rfl e75) rfl
                  · obtain ⟨Fa1_, Fa2_, Fb1_, Fb2_, Fc1_, Fc2_, Pa_, Pb_, Pc_, t7_1_, t7_2_, Xt7__, t8_1_, t8_2_, Xt8__, t9_1_, t9_2_, Xt9__, HB_⟩ := hG
                    have dg := dep_of hdep 8 (by kernel_rfl)
                    refine og_want rfl (yielded_of hf (n := 88) (by kernel_rfl) rfl 8 76 dg (by kernel_rfl) (show V 8 = .bool false from hφ 8 dg)) ?_
                    have e9 := old_slot hf 9 (by kernel_rfl)
                    exact ob_pure (ex_loadR rfl e9 Xt9__) rfl
                  · obtain ⟨Fa1_, Fa2_, Fb1_, Fb2_, Fc1_, Fc2_, Pa_, Pb_, Pc_, t7_1_, t7_2_, Xt7__, t8_1_, t8_2_, Xt8__, t9_1_, t9_2_, Xt9__, HB_⟩ := hG
                    have dg := dep_of hdep 8 (by kernel_rfl)
                    refine og_want rfl (yielded_of hf (n := 88) (by kernel_rfl) rfl 8 76 dg (by kernel_rfl) (show V 8 = .bool false from hφ 8 dg)) ?_
                    have e5 := old_slot hf 5 (by kernel_rfl)
                    exact ob_pure (ex_loadR rfl e5 Pc_) rfl
                  · obtain ⟨Fa1_, Fa2_, Fb1_, Fb2_, Fc1_, Fc2_, Pa_, Pb_, Pc_, t7_1_, t7_2_, Xt7__, t8_1_, t8_2_, Xt8__, t9_1_, t9_2_, Xt9__, HB_⟩ := hG
                    have dg := dep_of hdep 8 (by kernel_rfl)
                    refine og_want rfl (yielded_of hf (n := 88) (by kernel_rfl) rfl 8 76 dg (by kernel_rfl) (show V 8 = .bool false from hφ 8 dg)) ?_
                    have d9 := dep_of hdep 9 (by kernel_rfl)
                    have e77 := (new_slot hf 9 77 d9 (by kernel_rfl)).trans (show V 9 = .agg #[.bool q18061, .slice A18061 n18061 c18061, .bool q18062, .slice A18062 n18062 c18062] from hφ 9 d9)
                    have d10 := dep_of hdep 10 (by kernel_rfl)
                    have e78 := (new_slot hf 10 78 d10 (by kernel_rfl)).trans (show V 10 = .agg #[.bool sc1, .slice Ac1 nc1 cc1, .bool sc2, .slice Ac2 nc2 cc2] from hφ 10 d10)
                    refine ob_go rfl (vs := #[.agg #[.bool q18061, .slice A18061 n18061 c18061, .bool q18062, .slice A18062 n18062 c18062], .agg #[.bool sc1, .slice Ac1 nc1 cc1, .bool sc2, .slice Ac2 nc2 cc2]]) (by simp only [List.map_toArray, List.map_cons, List.map_nil, e77, e78]) (by kernel_rfl) (mulR_any _ _ _ ((Rat.divInt pa qa) / (Rat.divInt pc qc)) (Rat.divInt pc qc) 16 (RatV.arg (x := ((Rat.divInt pa qa) / (Rat.divInt pc qc))) (Pair.mk (a := .V (((Rat.divInt pa qa) / (Rat.divInt pc qc))).num) (b := .V ((((Rat.divInt pa qa) / (Rat.divInt pc qc))).den : Int)) t9_1_ t9_2_) ((RS17.out).to (by omega))) (RatA.mono (RatA.of (Pair.mk (a := .A pc 8) (b := .A qc 8) Fc1_ Fc2_)) (by omega)) (by omega) (by omega)) ?_
                    rintro e w2 ⟨⟨v, rfl, hv⟩, hb⟩
                    exact ⟨v, rfl, hb, hv⟩
                  · obtain ⟨Fa1_, Fa2_, Fb1_, Fb2_, Fc1_, Fc2_, Pa_, Pb_, Pc_, t7_1_, t7_2_, Xt7__, t8_1_, t8_2_, Xt8__, t9_1_, t9_2_, Xt9__, HB_⟩ := hG
                    have dg := dep_of hdep 8 (by kernel_rfl)
                    refine og_want rfl (yielded_of hf (n := 88) (by kernel_rfl) rfl 8 76 dg (by kernel_rfl) (show V 8 = .bool false from hφ 8 dg)) ?_
                    have e3 := old_slot hf 3 (by kernel_rfl)
                    exact ob_pure (ex_loadR rfl e3 Pa_) rfl
                  · obtain ⟨Fa1_, Fa2_, Fb1_, Fb2_, Fc1_, Fc2_, Pa_, Pb_, Pc_, t7_1_, t7_2_, Xt7__, t8_1_, t8_2_, Xt8__, t9_1_, t9_2_, Xt9__, HB_⟩ := hG
                    have dg := dep_of hdep 8 (by kernel_rfl)
                    refine og_want rfl (yielded_of hf (n := 88) (by kernel_rfl) rfl 8 76 dg (by kernel_rfl) (show V 8 = .bool false from hφ 8 dg)) ?_
                    have d11 := dep_of hdep 11 (by kernel_rfl)
                    have e79 := new_slot hf 11 79 d11 (by kernel_rfl)
                    have p79 : Pair w1 (V 11) (.V ((((Rat.divInt pa qa) / (Rat.divInt pc qc)) * (Rat.divInt pc qc))).num) (.V (((((Rat.divInt pa qa) / (Rat.divInt pc qc)) * (Rat.divInt pc qc))).den : Int)) := hφ 11 d11
                    have d12 := dep_of hdep 12 (by kernel_rfl)
                    have e80 := (new_slot hf 12 80 d12 (by kernel_rfl)).trans (show V 12 = .agg #[.bool sa1, .slice Aa1 na1 ca1, .bool sa2, .slice Aa2 na2 ca2] from hφ 12 d12)
                    refine ob_go rfl (vs := #[V 11, .agg #[.bool sa1, .slice Aa1 na1 ca1, .bool sa2, .slice Aa2 na2 ca2]]) (by simp only [List.map_toArray, List.map_cons, List.map_nil, e79, e80]) (by kernel_rfl) (cmpR_any _ _ _ (((Rat.divInt pa qa) / (Rat.divInt pc qc)) * (Rat.divInt pc qc)) (Rat.divInt pa qa) 32 (RatV.arg (x := (((Rat.divInt pa qa) / (Rat.divInt pc qc)) * (Rat.divInt pc qc))) p79 ((RS20.out).to (by omega))) (RatA.mono (RatA.of (Pair.mk (a := .A pa 8) (b := .A qa 8) Fa1_ Fa2_)) (by omega)) (by omega) (by omega)) ?_
                    rintro e w2 ⟨he, hb⟩
                    exact ⟨_, he, hb, rfl⟩
                  · obtain ⟨Fa1_, Fa2_, Fb1_, Fb2_, Fc1_, Fc2_, Pa_, Pb_, Pc_, t7_1_, t7_2_, Xt7__, t8_1_, t8_2_, Xt8__, t9_1_, t9_2_, Xt9__, HB_⟩ := hG
                    have dg := dep_of hdep 8 (by kernel_rfl)
                    refine og_want rfl (yielded_of hf (n := 88) (by kernel_rfl) rfl 8 76 dg (by kernel_rfl) (show V 8 = .bool false from hφ 8 dg)) ?_
                    have d13 := dep_of hdep 13 (by kernel_rfl)
                    have e81 := (new_slot hf 13 81 d13 (by kernel_rfl)).trans (show V 13 = .int .i64 (cm ((((Rat.divInt pa qa) / (Rat.divInt pc qc)) * (Rat.divInt pc qc)) - (Rat.divInt pa qa)).num 0) from hφ 13 d13)
                    exact ob_pure (ex_eql_int rfl e81 rfl) (show Value.bool ((cm ((((Rat.divInt pa qa) / (Rat.divInt pc qc)) * (Rat.divInt pc qc)) - (Rat.divInt pa qa)).num 0) == 0) = Value.bool true from by rw [E4.out]; rfl)
                  · obtain ⟨Fa1_, Fa2_, Fb1_, Fb2_, Fc1_, Fc2_, Pa_, Pb_, Pc_, t7_1_, t7_2_, Xt7__, t8_1_, t8_2_, Xt8__, t9_1_, t9_2_, Xt9__, HB_⟩ := hG
                    have dg := dep_of hdep 5 (by kernel_rfl)
                    refine og_want rfl (yielded_of hf (n := 88) (by kernel_rfl) rfl 5 73 dg (by kernel_rfl) (show V 5 = .bool true from hφ 5 dg)) ?_
                    have d8 := dep_of hdep 8 (by kernel_rfl)
                    have e76 := (new_slot hf 8 76 d8 (by kernel_rfl)).trans (show V 8 = .bool false from hφ 8 d8)
                    have d14 := dep_of hdep 14 (by kernel_rfl)
                    have e82 := (new_slot hf 14 82 d14 (by kernel_rfl)).trans (show V 14 = .bool true from hφ 14 d14)
                    exact ob_pure (v := .bool true) (ex_pick_false rfl e76 e82) rfl
                  · obtain ⟨Fa1_, Fa2_, Fb1_, Fb2_, Fc1_, Fc2_, Pa_, Pb_, Pc_, t7_1_, t7_2_, Xt7__, t8_1_, t8_2_, Xt8__, t9_1_, t9_2_, Xt9__, HB_⟩ := hG
                    refine og_none rfl ?_
                    have d5 := dep_of hdep 5 (by kernel_rfl)
                    have e73 := (new_slot hf 5 73 d5 (by kernel_rfl)).trans (show V 5 = .bool true from hφ 5 d5)
                    have d15 := dep_of hdep 15 (by kernel_rfl)
                    have e83 := (new_slot hf 15 83 d15 (by kernel_rfl)).trans (show V 15 = .bool true from hφ 15 d15)
                    exact ob_pure (v := .bool true) (ex_pick_true rfl e73 e83) rfl
                  · obtain ⟨Fa1_, Fa2_, Fb1_, Fb2_, Fc1_, Fc2_, Pa_, Pb_, Pc_, t7_1_, t7_2_, Xt7__, t8_1_, t8_2_, Xt8__, t9_1_, t9_2_, Xt9__, HB_⟩ := hG
                    refine og_none rfl ?_
                    have d16 := dep_of hdep 16 (by kernel_rfl)
                    have e84 := (new_slot hf 16 84 d16 (by kernel_rfl)).trans (show V 16 = .bool true from hφ 16 d16)
                    exact ob_pure (v := .bool true) (ex_moveV rfl e84) rfl
                  · obtain ⟨Fa1_, Fa2_, Fb1_, Fb2_, Fc1_, Fc2_, Pa_, Pb_, Pc_, t7_1_, t7_2_, Xt7__, t8_1_, t8_2_, Xt8__, t9_1_, t9_2_, Xt9__, HB_⟩ := hG
                    have dg := dep_of hdep 17 (by kernel_rfl)
                    refine og_want rfl (yielded_of hf (n := 88) (by kernel_rfl) rfl 17 85 dg (by kernel_rfl) (show V 17 = .bool true from hφ 17 dg)) ?_
                    refine ob_go rfl (vs := #[]) (by simp only [List.map_toArray, List.map_nil]) (by kernel_rfl) (awakeR_any _) ?_
                    rintro e w2 ⟨he, hb⟩
                    exact ⟨_, he, hb, rfl⟩
                  · obtain ⟨Fa1_, Fa2_, Fb1_, Fb2_, Fc1_, Fc2_, Pa_, Pb_, Pc_, t7_1_, t7_2_, Xt7__, t8_1_, t8_2_, Xt8__, t9_1_, t9_2_, Xt9__, HB_⟩ := hG
                    refine og_none rfl ?_
                    have d17 := dep_of hdep 17 (by kernel_rfl)
                    have e85 := (new_slot hf 17 85 d17 (by kernel_rfl)).trans (show V 17 = .bool true from hφ 17 d17)
                    have d18 := dep_of hdep 18 (by kernel_rfl)
                    have e86 := (new_slot hf 18 86 d18 (by kernel_rfl)).trans (show V 18 = .bool true from hφ 18 d18)
                    exact ob_pure (v := .bool true) (ex_pick_true rfl e85 e86) rfl
                  · obtain ⟨Fa1_, Fa2_, Fb1_, Fb2_, Fc1_, Fc2_, Pa_, Pb_, Pc_, t7_1_, t7_2_, Xt7__, t8_1_, t8_2_, Xt8__, t9_1_, t9_2_, Xt9__, HB_⟩ := hG
                    refine og_none rfl ?_
                    have d19 := dep_of hdep 19 (by kernel_rfl)
                    have e87 := (new_slot hf 19 87 d19 (by kernel_rfl)).trans (show V 19 = .bool true from hφ 19 d19)
                    exact ob_pure (v := .bool true) (ex_assignV rfl e87) rfl
                · intro V W22 hG hsz22 hφ hψ hne
                  have hlt22 : W18.heap.size ≤ W22.heap.size := hsz22
                  obtain ⟨Fa1_, Fa2_, Fb1_, Fb2_, Fc1_, Fc2_, Pa_, Pb_, Pc_, t7_1_, t7_2_, Xt7__, t8_1_, t8_2_, Xt8__, t9_1_, t9_2_, Xt9__, HB_⟩ := hG
                  have Fa1 := hid Fa1_
                  have Fa2 := hid Fa2_
                  have Fb1 := hid Fb1_
                  have Fb2 := hid Fb2_
                  have Fc1 := hid Fc1_
                  have Fc2 := hid Fc2_
                  have Pa := hid Pa_
                  have Pb := hid Pb_
                  have Pc := hid Pc_
                  have t7_1 := hid t7_1_
                  have t7_2 := hid t7_2_
                  have Xt7_ := hid Xt7__
                  have t8_1 := hid t8_1_
                  have t8_2 := hid t8_2_
                  have Xt8_ := hid Xt8__
                  have t9_1 := hid t9_1_
                  have t9_2 := hid t9_2_
                  have Xt9_ := hid Xt9__
                  have HB := hid HB_
                  have y0 : V 0 = .bool true := hφ 0 (by decide)
                  have y1 : V 1 = .agg #[.bool sc1, .slice Ac1 nc1 cc1, .bool sc2, .slice Ac2 nc2 cc2] := hφ 1 (by decide)
                  have y2 : V 2 = .int .i64 (cm ((Rat.divInt pc qc)).num 0) := hφ 2 (by decide)
                  have y3 : V 3 = .bool true := hφ 3 (by decide)
                  have y4 : V 4 = .bool true := hφ 4 (by decide)
                  have y5 : V 5 = .bool true := hφ 5 (by decide)
                  have y6 : V 6 = .bool true := hφ 6 (by decide)
                  have y7 : V 7 = .bool false := hφ 7 (by decide)
                  have y8 : V 8 = .bool false := hφ 8 (by decide)
                  have y9 : V 9 = .agg #[.bool q18061, .slice A18061 n18061 c18061, .bool q18062, .slice A18062 n18062 c18062] := hφ 9 (by decide)
                  have y10 : V 10 = .agg #[.bool sc1, .slice Ac1 nc1 cc1, .bool sc2, .slice Ac2 nc2 cc2] := hφ 10 (by decide)
                  have y12 : V 12 = .agg #[.bool sa1, .slice Aa1 na1 ca1, .bool sa2, .slice Aa2 na2 ca2] := hφ 12 (by decide)
                  have y13 : V 13 = .int .i64 (cm ((((Rat.divInt pa qa) / (Rat.divInt pc qc)) * (Rat.divInt pc qc)) - (Rat.divInt pa qa)).num 0) := hφ 13 (by decide)
                  have y14 : V 14 = .bool true := hφ 14 (by decide)
                  have y15 : V 15 = .bool true := hφ 15 (by decide)
                  have y16 : V 16 = .bool true := hφ 16 (by decide)
                  have y17 : V 17 = .bool true := hφ 17 (by decide)
                  have y18 : V 18 = .bool true := hφ 18 (by decide)
                  have y19 : V 19 = .bool true := hφ 19 (by decide)
                  have y20 : V 20 = .bool true := hφ 20 (by decide)
                  simp only [puts, Act.put, List.setIfInBounds_toArray, List.set_cons_zero, List.set_cons_succ, y0, y1, y2, y3, y4, y5, y6, y7, y8, y9, y10, y12, y13, y14, y15, y16, y17, y18, y19, y20]
                  clear hφ hψ hne y0 y1 y2 y3 y4 y5 y6 y7 y8 y9 y10 y12 y13 y14 y15 y16 y17 y18 y19 y20 Fa1_ Fa2_ Fb1_ Fb2_ Fc1_ Fc2_ Pa_ Pb_ Pc_ t7_1_ t7_2_ Xt7__ t8_1_ t8_2_ Xt8__ t9_1_ t9_2_ Xt9__ HB_ hsz22
                  go_wp2
                  go_ret
                  exact ⟨rfl, HB.out⟩
theorem rationalField_walk (w : World) (va : Value) (ha : ArgR w va) (vb : Value) (hb : ArgR w vb) (vc : Value) (hc : ArgR w vc) :
    Calls Try.prog 4 #[va, vb, vc] w fun e w' => e = .returned (.bool true) ∧ Below w.heap.size w w' := by
  obtain ⟨sa1, Aa1, na1, ca1, sa2, Aa2, na2, ca2, rfl, ka⟩ := ha.short
  obtain ⟨sb1, Ab1, nb1, cb1, sb2, Ab2, nb2, cb2, rfl, kb⟩ := hb.short
  obtain ⟨sc1, Ac1, nc1, cc1, sc2, Ac2, nc2, cc2, rfl, kc⟩ := hc.short
  rcases ka 8 (by decide) with ka | ⟨la1, la2, pa, qa, fa1, fa2⟩
  · exact rationalField_long w sa1 Aa1 na1 ca1 sa2 Aa2 na2 ca2 sb1 Ab1 nb1 cb1 sb2 Ab2 nb2 cb2 sc1 Ac1 nc1 cc1 sc2 Ac2 nc2 cc2 (by omega)
  rcases kb 8 (by decide) with kb | ⟨lb1, lb2, pb, qb, fb1, fb2⟩
  · exact rationalField_long w sa1 Aa1 na1 ca1 sa2 Aa2 na2 ca2 sb1 Ab1 nb1 cb1 sb2 Ab2 nb2 cb2 sc1 Ac1 nc1 cc1 sc2 Ac2 nc2 cc2 (by omega)
  rcases kc 8 (by decide) with kc | ⟨lc1, lc2, pc, qc, fc1, fc2⟩
  · exact rationalField_long w sa1 Aa1 na1 ca1 sa2 Aa2 na2 ca2 sb1 Ab1 nb1 cb1 sb2 Ab2 nb2 cb2 sc1 Ac1 nc1 cc1 sc2 Ac2 nc2 cc2 (by omega)
  exact rationalField_short w sa1 Aa1 na1 ca1 sa2 Aa2 na2 ca2 sb1 Ab1 nb1 cb1 sb2 Ab2 nb2 cb2 sc1 Ac1 nc1 cc1 sc2 Ac2 nc2 cc2 ⟨la1, la2⟩ pa qa fa1 fa2 ⟨lb1, lb2⟩ pb qb fb1 fb2 ⟨lc1, lc2⟩ pc qc fc1 fc2
end Go.Proofs.Ytklamiajcdkmnaa

