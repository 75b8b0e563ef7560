/- A part of the proof of the laws of rationals: RSameRaw. -/
import Derived.Test.YtijmjkkjopplbaaPae
import Derived.Test.YtijmjkkjopplbaaPam
import Derived.Test.YtijmjkkjopplbaaPkRationalNormalizesh
import Derived.Test.YtijmjkkjopplbaaPal
import Derived.Test.YtijmjkkjopplbaaPab
import Derived.Test.YtijmjkkjopplbaaPad
import Derived.Test.YtijmjkkjopplbaaPkRationalNormalizesb
import Derived.Test.YtijmjkkjopplbaaPac
import Derived.Test.YtijmjkkjopplbaaPkRationalNormalizesa
import Derived.Test.YtijmjkkjopplbaaPkRationalNormalizesd
import Derived.Test.YtijmjkkjopplbaaPkRationalNormalizesl
import Derived.Test.YtijmjkkjopplbaaPao
import Derived.Test.YtijmjkkjopplbaaPat
import Derived.Test.YtijmjkkjopplbaaPaa
import Derived.Test.YtijmjkkjopplbaaPai
import Derived.Test.YtijmjkkjopplbaaPag
import Derived.Test.YtijmjkkjopplbaaPas
import Derived.Test.YtijmjkkjopplbaaPkRationalNormalizesf
import Derived.Test.YtijmjkkjopplbaaPkRationalNormalizese
import Derived.Test.YtijmjkkjopplbaaPkRationalNormalizesg
import Derived.Test.YtijmjkkjopplbaaPkRationalNormalizesj
import Derived.Test.YtijmjkkjopplbaaPau
import Derived.Test.YtijmjkkjopplbaaPkRationalNormalizesi
import Derived.Test.YtijmjkkjopplbaaPar
import Derived.Test.YtijmjkkjopplbaaPaw
import Derived.Test.YtijmjkkjopplbaaPap
import Derived.Test.YtijmjkkjopplbaaPav
import Derived.Test.YtijmjkkjopplbaaPan
import Derived.Test.YtijmjkkjopplbaaPkRationalNormalizesc
import Derived.Test.YtijmjkkjopplbaaPkRationalNormalizesm
import Derived.Test.YtijmjkkjopplbaaPak
namespace Go.Proofs.Ytijmjkkjopplbaa
open Go.RowKit
set_option linter.unusedVariables false
set_option maxRecDepth 100000

/-- A slice of limbs that lies in a block from B on. -/
def Lo (w : World) (B : Nat) (A : Option Addr) (n : Nat) : Prop := 0 < n → ∃ g o ys, A = some ⟨g, o, none⟩ ∧ B ≤ g ∧ Own w g ys ∧ o + n ≤ ys.length
theorem Lo.of {w : World} {B n c : Nat} {A : Option Addr} {q : Bool} {z : Int} (h : IntV w (.agg #[.bool q, .slice A n c]) z) (hf : FrS w B (.slice A n c)) : Lo w B A n := fun h0 => by
  obtain ⟨g, o, ys, rfl, h1, h2, h3⟩ := hf _ _ _ rfl h0
  refine ⟨g, o, ys, rfl, h1, h2, ?_⟩
  obtain ⟨_, _, zs, e, ⟨_, _, e4, _, hsl⟩, _⟩ := h
  injection e with e
  injection e with e
  simp only [List.cons.injEq, and_true] at e
  obtain ⟨_, e⟩ := e
  rw [e4] at e
  injection e with e1 e2 e3
  subst e1 e2 e3
  obtain ⟨b', o', e5, hcl⟩ := hsl.at h0
  injection e5 with e5
  injection e5 with e6 e7
  subst e6 e7
  have := hcl (zs.length - 1) (by omega)
  rcases Nat.lt_or_ge (o + (zs.length - 1)) ys.length with hlt | hge
  · omega
  · exfalso
    unfold World.cell? at this
    unfold Own at h2
    rw [h2] at this
    simp [List.getElem?_eq_none hge] at this
theorem IntV.lim {w : World} {n c : Nat} {A : Option Addr} {q : Bool} {z : Int} (h : IntV w (.agg #[.bool q, .slice A n c]) z) : n ≤ 1099511627776 := by
  obtain ⟨_, _, zs, e, hsl, _⟩ := h
  injection e with e
  injection e with e
  simp only [List.cons.injEq, and_true] at e
  have := hsl.len
  obtain ⟨_, _, e4, _, _⟩ := hsl
  obtain ⟨_, e⟩ := e
  rw [e4] at e
  injection e with e1 e2 e3
  omega
theorem Lo.set {w : World} {B n : Nat} {A : Option Addr} (h : Lo w B A n) (g o : Nat) (y : Int) : Lo (w.setCell ⟨g, o, none⟩ (.int .u32 y)) B A n := fun h0 => by
  obtain ⟨b, p, ys, h1, h2, h3, h4⟩ := h h0
  by_cases e : b = g
  · subst e
    exact ⟨b, p, ys.set o y, h1, h2, h3.set o y, by rw [List.length_set]; exact h4⟩
  · exact ⟨b, p, ys, h1, h2, Own.far h3 e o _, h4⟩
theorem Lo.below {w w' : World} {B n : Nat} {A : Option Addr} (h : Lo w B A n) (hb : Below w.heap.size w w') : Lo w' B A n := fun h0 => let ⟨g, o, ys, h1, h2, h3, h4⟩ := h h0; ⟨g, o, ys, h1, h2, Own.below h3 hb (Own.lt h3), h4⟩
theorem Lo.only {w w' : World} {B n k : Nat} {A : Option Addr} (h : Lo w B A n) (hn : NumFree w k) (ho : Only w w' k) : Lo w' B A n := fun h0 => by
  obtain ⟨b, o, ys, h1, h2, h3, h4⟩ := h h0
  refine ⟨b, o, ys, h1, h2, ?_, h4⟩
  have hne : b ≠ k := fun e => by
    subst e
    exact hn.1 0 _ (h3.cell (by omega))
  unfold Own at h3 ⊢
  rw [ho.block b hne]; exact h3
theorem blk_far {w : World} {g k : Nat} {T : TypeId} {cs : Array Value} {ys : List Int} (h : Blk w g T cs) (hn : NumFree w g) (hk : Own w k ys) (h0 : 0 < ys.length) (o : Nat) (y : Value) : Blk (w.setCell ⟨k, o, none⟩ y) g T cs := by
  refine h.only (only_set w k o y) (fun e => ?_)
  subst e
  exact hn.1 0 _ (hk.cell h0)
theorem IntR.cells {w : World} {q neg : Bool} {A : Option Addr} {n c : Nat} {xs : List Int} (h : IntR w (.agg #[.bool q, .slice A n c]) neg xs) : neg = q ∧ xs.length = n ∧ SlV w (.slice A n c) xs := by
  obtain ⟨B, d, e, hs⟩ := h
  injection e with e
  injection e with e
  simp only [List.cons.injEq, and_true] at e
  obtain ⟨e1, e2⟩ := e
  injection e1 with e1
  injection e2 with e2 e3 e4
  subst e1 e2 e3 e4
  exact ⟨rfl, rfl, hs⟩
def Bw (W0 w : World) : Prop := Below W0.heap.size W0 w
theorem Bw.below {W0 w w' : World} (h : Bw W0 w) (hb : Below w.heap.size w w') : Bw W0 w' := bw_step h hb
theorem Bw.set {W0 w : World} (h : Bw W0 w) {k o : Nat} (hk : W0.heap.size ≤ k) (v : Value) : Bw W0 (w.setCell ⟨k, o, none⟩ v) := Below.setCell (p := ⟨k, o, none⟩) h hk v
theorem Bw.sz {W0 w : World} (h : Bw W0 w) : W0.heap.size ≤ w.heap.size := h.size
theorem Bw.b {W0 w : World} (h : Bw W0 w) : Below W0.heap.size W0 w := h

set_option maxHeartbeats 4000000 in
theorem rsameR_raw (w : World) (s1 s2 : Bool) (Aa1 Aa2 Ab1 Ab2 : Option Addr) (ca1 ca2 cb1 cb2 : Nat) (x1 x2 : List Int) (l1 : Lb x1) (l2 : Lb x2) (ha1 : SlV w (.slice Aa1 x1.length ca1) x1) (ha2 : SlV w (.slice Aa2 x2.length ca2) x2) (hb1 : SlV w (.slice Ab1 x1.length cb1) x1) (hb2 : SlV w (.slice Ab2 x2.length cb2) x2) :
    Calls Try.prog 18 #[.agg #[.bool s1, .slice Aa1 x1.length ca1, .bool s2, .slice Aa2 x2.length ca2], .agg #[.bool s1, .slice Ab1 x1.length cb1, .bool s2, .slice Ab2 x2.length cb2]] w fun e w' => e = .returned (.bool true) ∧ Below w.heap.size w w' := by
  have L1 := hid l1
  have L2 := hid l2
  have Fa1 := hid ha1
  have Fa2 := hid ha2
  have Fb1 := hid hb1
  have Fb2 := hid hb2
  clear l1 l2 ha1 ha2 hb1 hb2
  have HB := hid (Below.refl w.heap.size w)
  obtain ⟨W, hW⟩ : ∃ W, W = ((w.alloc (.cells #[.bool s1, .slice Aa1 x1.length ca1, .bool s2, .slice Aa2 x2.length ca2] 26)).alloc (.cells #[.bool s1, .slice Ab1 x1.length cb1, .bool s2, .slice Ab2 x2.length cb2] 26)) := ⟨_, rfl⟩
  have hbb : Below w.heap.size w W := by rw [hW]; exact (bw_alloc (bw_alloc (Below.refl _ _) _) _)
  have HB := hid (bw_step HB.out hbb)
  have Fa1 := hid (Fa1.out.below hbb)
  have Fa2 := hid (Fa2.out.below hbb)
  have Fb1 := hid (Fb1.out.below hbb)
  have Fb2 := hid (Fb2.out.below hbb)
  have Pa : Hid (Blk W (w.heap.size) 26 #[.bool s1, .slice Aa1 x1.length ca1, .bool s2, .slice Aa2 x2.length ca2]) := by
    rw [hW]
    have := (Blk.new w 26 #[.bool s1, .slice Aa1 x1.length ca1, .bool s2, .slice Aa2 x2.length ca2]).below (bw_alloc (Below.refl _ _) (.cells #[.bool s1, .slice Ab1 x1.length cb1, .bool s2, .slice Ab2 x2.length cb2] 26))
    exact hid (by simpa only [World.size_alloc] using this)
  have Pb : Hid (Blk W (w.heap.size + 1) 26 #[.bool s1, .slice Ab1 x1.length cb1, .bool s2, .slice Ab2 x2.length cb2]) := by
    rw [hW]
    have := Blk.new (w.alloc (.cells #[.bool s1, .slice Aa1 x1.length ca1, .bool s2, .slice Aa2 x2.length ca2] 26)) 26 #[.bool s1, .slice Ab1 x1.length cb1, .bool s2, .slice Ab2 x2.length cb2]
    exact hid (by simpa only [World.size_alloc] using this)
  clear hbb
  have ua0 := Pa.out.cell 0
  have ua1 := Pa.out.cell 1
  have ua2 := Pa.out.cell 2
  have ua3 := Pa.out.cell 3
  have ub0 := Pb.out.cell 0
  have ub1 := Pb.out.cell 1
  have ub2 := Pb.out.cell 2
  have ub3 := Pb.out.cell 3
  go_enter Try.func18, Try.ntmps18
  go_wp2_with fail
  rw [← hW]
  clear hW
  refine (rsame_raw _ s1 s1 _ _ x1 x1 Fa1.out Fb1.out L1.out L1.out).mono ?_
  rintro e W1 ⟨he, hb1⟩
  rw [decide_eq_true ⟨rfl, rfl⟩] at he
  subst he
  clear ua0 ua1 ua2 ua3 ub0 ub1 ub2 ub3
  have HB := hid (bw_step HB.out hb1)
  have Fa1 := hid (Fa1.out.below hb1)
  have Fa2 := hid (Fa2.out.below hb1)
  have Fb1 := hid (Fb1.out.below hb1)
  have Fb2 := hid (Fb2.out.below hb1)
  have Pa := hid (Pa.out.below hb1)
  have Pb := hid (Pb.out.below hb1)
  clear hb1
  have ua0 := Pa.out.cell 0
  have ua1 := Pa.out.cell 1
  have ua2 := Pa.out.cell 2
  have ua3 := Pa.out.cell 3
  have ub0 := Pb.out.cell 0
  have ub1 := Pb.out.cell 1
  have ub2 := Pb.out.cell 2
  have ub3 := Pb.out.cell 3
  go_wp2_with fail
  refine (rsame_raw _ s2 s2 _ _ x2 x2 Fa2.out Fb2.out L2.out L2.out).mono ?_
  rintro e W2 ⟨he, hb2⟩
  rw [decide_eq_true ⟨rfl, rfl⟩] at he
  subst he
  clear ua0 ua1 ua2 ua3 ub0 ub1 ub2 ub3
  have HB := hid (bw_step HB.out hb2)
  have Fa1 := hid (Fa1.out.below hb2)
  have Fa2 := hid (Fa2.out.below hb2)
  have Fb1 := hid (Fb1.out.below hb2)
  have Fb2 := hid (Fb2.out.below hb2)
  have Pa := hid (Pa.out.below hb2)
  have Pb := hid (Pb.out.below hb2)
  clear hb2
  go_wp2
  go_ret
  exact ⟨rfl, HB.out⟩
end Go.Proofs.Ytijmjkkjopplbaa

