/- A part of the proof of the laws of rationals: Norm, Mul. -/
import Derived.Laws.CopyOwn
import Derived.Test.YtijmjkkjopplbaaPab
import Derived.Test.YtijmjkkjopplbaaPac
import Derived.Test.YtijmjkkjopplbaaPaa
import Derived.Test.YtijmjkkjopplbaaPae
namespace Go.Proofs.Ytijmjkkjopplbaa
open Go.RowKit
set_option linter.unusedVariables false
set_option maxRecDepth 100000

theorem lm_of_getElem? {xs : List Int} {j : Nat} {u : Value} (h : (xs.map (Value.int .u32))[j]? = some u) : j < xs.length ∧ u = .int .u32 (lm xs j) := by
  rw [List.getElem?_map] at h
  rcases Nat.lt_or_ge j xs.length with hj | hj
  · rw [List.getElem?_eq_getElem hj] at h
    simp at h
    exact ⟨hj, by rw [← h, lm_getElem hj]⟩
  · rw [List.getElem?_eq_none hj] at h; cases h

/-- 'copy(out, m)' where out has just m's length. -/
theorem run_copy_all (w : World) (g c : Nat) (v : Value) (xs ys : List Int) (ty : TypeId) (hv : SlV w v xs) (hown : Own w g ys) (hl : ys.length = xs.length) (B : Nat) (hBg : B ≤ g) :
    ∃ w', (Builtin.copy_ #[22, 22] ty #[.slice (some ⟨g, 0, none⟩) xs.length c, v]).run Try.prog w = .ok (.int .i64 (xs.length : Int)) w' ∧ Own w' g xs ∧ Below B w w' := by
  obtain ⟨i, hi, hz0, hz1, hz2⟩ := info_parts u32_info
  have hs1 : (Try.prog.info? 31).map (·.size) = some 1 := by rw [hi]; simp [hz1]
  obtain ⟨A, c', rfl, hc', hsl⟩ := hv
  rcases Nat.eq_zero_or_pos xs.length with h0 | h0
  · obtain rfl := List.eq_nil_of_length_eq_zero h0
    obtain rfl := List.eq_nil_of_length_eq_zero hl
    exact ⟨w, run_copy_none (P := Try.prog) w _ _ ty _ _ _ _ _ _ _ Try.underlying22 hs1 (by simp), hown, Below.refl _ _⟩
  · obtain ⟨b, o, rfl, hcl⟩ := hsl.at h0
    have hrun := run_copy_row (P := Try.prog) w 22 22 ty 31 g 0 xs.length c ⟨b, o, none⟩ xs.length c' (ys.map (Value.int .u32)).toArray 31 (xs.map (Value.int .u32)) Try.underlying22 hs1 hown (by simp)
      (fun j u hu => by
        obtain ⟨hj, rfl⟩ := lm_of_getElem? hu
        have := hcl j hj
        unfold Addr.add
        split
        · rename_i h; subst h; exact this
        · exact this) (by simp [hl]) (fun u hu => by
        obtain ⟨y, _, rfl⟩ := List.mem_map.1 hu
        rfl)
    refine ⟨_, hrun.trans (congrArg (Result.ok · _) (by rw [List.length_map]; rfl)), ?_, (below_setRow (Below.refl B w) hBg _)⟩
    have e := setRow_heap w g (ys.map (Value.int .u32)).toArray (xs.map (Value.int .u32)).toArray 31 (0, 0) hown
    have e2 : ((ys.map (Value.int .u32)).take 0 ++ xs.map (Value.int .u32) ++ (ys.map (Value.int .u32)).drop (0 + xs.length)) = xs.map (Value.int .u32) := by
      rw [List.take_zero, List.nil_append, List.drop_eq_nil_of_le (by simp [hl]), List.append_nil]
    have e3 : (List.map (Value.int .u32) xs).length = xs.length := List.length_map ..
    rw [e3]
    show (w.setRow g _).heap[g]? = _
    rw [show (List.map (Value.int .u32) ys).toArray.toList = List.map (Value.int .u32) ys from rfl, e2]
    exact e

theorem Bx.lower {w w' : World} {g B : Nat} {a b : Value} (h : Bx w g a b) (hb : Below B w w') (hg : g < B) : Bx w' g a b :=
  ⟨by rw [hb.cell hg]; exact h.1, by rw [hb.cell hg]; exact h.2.1, (hb.frozen (p := ⟨g, 0, none⟩) hg).trans h.2.2.1, (hb.frozen (p := ⟨g, 1, none⟩) hg).trans h.2.2.2⟩
theorem Bx.setFar1 {w : World} {g k o : Nat} {a b v : Value} (h : Bx w g a b) (hk : k ≠ g) : Bx (w.setCell ⟨k, o, none⟩ v) g a b := by
  obtain ⟨h1, h2, h3, h4⟩ := h
  refine ⟨?_, ?_, by rw [frozen_set]; exact h3, by rw [frozen_set]; exact h4⟩
  · rw [World.cell?_setCell_other (h := fun e => hk (by injection e))]; exact h1
  · rw [World.cell?_setCell_other (h := fun e => hk (by injection e))]; exact h2

theorem signed_cut (w : World) (s : Value) (neg : Bool) (xs : List Int) (h : SlV w s xs) :
    Calls Try.prog 86 #[.bool neg, s] w fun e w' =>
      ((tr xs = [] ∧ e = .returned (.agg #[.bool false, .slice none 0 0])) ∨ (∃ A c, tr xs ≠ [] ∧ e = .returned (.agg #[.bool neg, .slice A (tr xs).length c]) ∧ Cut s xs (.slice A (tr xs).length c) (tr xs))) ∧ Below w.heap.size w w' := by
  have H := hid h
  go_enter Try.func86, Try.ntmps86
  go_wp2_with (go_at_call 102; (with_reducible refine (trim_any _ _ xs (h.below ((Below.refl _ _).alloc (Nat.le_refl _) _))).mono ?_); rintro e w' ⟨⟨vt, rfl, ht⟩, rfl⟩; obtain ⟨A, c, rfl, hc, _⟩ := ht _ h; have HT := hid ht; clear ht h)
  · have hl : (tr xs).length = 0 := by rename_i hh; simpa using hh
    exact bodyPost_ret (v := .agg #[.bool false, .slice none 0 0]) (by simp [results, Try.results86, go_sem]) rfl ⟨.inl ⟨List.eq_nil_of_length_eq_zero hl, rfl⟩, (Below.refl _ _).alloc (Nat.le_refl _) _⟩
  · have hl : (tr xs).length ≠ 0 := by rename_i hh; simpa using hh
    exact bodyPost_ret (v := .agg #[.bool neg, .slice A (tr xs).length c]) (by simp [results, Try.results86, go_sem]) rfl ⟨.inr ⟨A, c, fun e => hl (by rw [e]; rfl), rfl, HT.out⟩, (Below.refl _ _).alloc (Nat.le_refl _) _⟩

/-- The number's limbs, if it has any, lie in a block that was made behind B. -/
def Fr (w : World) (B : Nat) (v : Value) : Prop := ∃ neg A n c, v = .agg #[.bool neg, .slice A n c] ∧ (0 < n → ∃ g o xs, A = some ⟨g, o, none⟩ ∧ B ≤ g ∧ Own w g xs)

theorem fin_any {w0 w1 : World} {g n0 c0 : Nat} {v : Value} {z : Int} {b0 : Bool} {A0 : Option Addr} (hb : Below w0.heap.size w0 w1) (hg : w0.heap.size ≤ g)
    (k0 : w1.cell? ⟨g, 0, none⟩ = some (.bool b0)) (k1 : w1.cell? ⟨g, 1, none⟩ = some (.slice A0 n0 c0)) (h : IntV w1 v z) (x y : Value) :
    IntV ((w1.setCell ⟨g, 0, none⟩ x).setCell ⟨g, 1, none⟩ y) v z ∧ Below w0.heap.size w0 ((w1.setCell ⟨g, 0, none⟩ x).setCell ⟨g, 1, none⟩ y) :=
  ⟨h.boxed k0 k1 x y, (hb.setCell hg x).setCell hg y⟩
theorem own_set_far {w : World} {g k o : Nat} {xs : List Int} {v : Value} (h : Own w g xs) (hk : k ≠ g) : Own (w.setCell ⟨k, o, none⟩ v) g xs := by
  unfold Own at h ⊢
  unfold World.setCell
  simp only [Array.getElem?_modify]
  rw [if_neg hk]; exact h

theorem normalize_any (w : World) (v : Value) (a : Int) (n : Nat) (ha : IntA w v a n) :
    Calls Try.prog 79 #[v] w fun e w' => (∃ u, e = .returned u ∧ IntV w' u a ∧ Fr w' w.heap.size u) ∧ Below w.heap.size w w' := by
  obtain ⟨na, s, xs, rfl, hs, hl, hxn, rfl⟩ := ha
  obtain ⟨W, hW⟩ : ∃ W, W = (w.alloc (.cells #[.bool na, s] 24)).alloc (.cells #[.bool false, .slice none 0 0] 24) := ⟨_, rfl⟩
  have X := Bx.two w (.bool na) s (.bool false) (.slice none 0 0) 24
  rw [← hW] at X
  obtain ⟨x0, x1⟩ := X
  have HB : Below w.heap.size w W := by rw [hW]; exact bw_alloc (bw_alloc (Below.refl _ _) _) _
  have HS : w.heap.size + 2 ≤ W.heap.size := by rw [hW]; simp
  have S0 := hid (hs.below HB)
  have HL := hid hl
  clear hl hs
  go_enter Try.func79, Try.ntmps79
  go_wp2_with fail
  rw [← hW]
  clear hW
  refine (magnitude_any _ _ s na xs rfl S0.out).mono ?_
  rintro e w1 ⟨⟨s1, rfl, hc1⟩, hb1⟩
  have S1 := hid (hc1 _ (S0.out.below hb1))
  have HB := hid (bw_step HB hb1)
  have HS1 := hid (Nat.le_trans HS hb1.size)
  have x0 := x0.below hb1
  have x1 := x1.below hb1
  have ll := S1.out.len
  clear hb1 hc1 S0 HS
  obtain ⟨A1, c1, rfl, hcc, hsl⟩ := id S1.out
  clear hsl
  have hmk := make_u32 (tr xs).length (by omega)
  go_wp2_with fail
  have hown := Own.made w1 (tr xs).length
  have hb2 := bw_alloc (Below.refl _ w1) (.cells (zs (tr xs).length) 31)
  have S1 := hid (S1.out.below hb2)
  have HB := hid (bw_step HB.out hb2)
  have x0 := x0.below hb2
  have x1 := x1.below hb2
  have G := HS1
  clear hb2 HS1 hmk
  obtain ⟨w3, hcp, ho3, hb3⟩ := run_copy_all _ w1.heap.size (tr xs).length _ (tr xs) _ 3 S1.out hown (by simp) w1.heap.size (Nat.le_refl _)
  have x0 := x0.lower hb3 (by have := G.out; omega)
  have x1 := x1.lower hb3 (by have := G.out; omega)
  clear hown
  obtain ⟨k0, k1, f0, f1⟩ := id x0
  obtain ⟨k2, k3, f2, f3⟩ := id x1
  go_wp2_with fail
  rw [hcp]
  clear hcp
  go_wp2_with fail
  have S3 := hid (ho3.slv (n := (tr xs).length) (c := (tr xs).length) rfl ll (Nat.le_refl _))
  have HB := hid (HB.out.trans (hb3.mono (by have := G.out; omega)))
  clear hb3 S1 hcc
  refine (signed_cut _ _ na (tr xs) S3.out).mono ?_
  rintro e w4 ⟨hres, hb4⟩
  have HB := hid (bw_step HB.out hb4)
  have x0 := x0.below hb4
  have x1 := x1.below hb4
  have O4 := hid (ho3.below hb4 ho3.lt)
  have S4 := hid (S3.out.below hb4)
  clear hb4 S3 k0 k1 f0 f1 k2 k3 f2 f3 ho3
  obtain ⟨k0, k1, f0, f1⟩ := id x0
  obtain ⟨k2, k3, f2, f3⟩ := id x1
  rcases hres with ⟨h0, rfl⟩ | ⟨A, c, h0, rfl, hcut⟩
  · have E := hid (show sg na (nv xs) = 0 by rw [← nv_tr, ← nv_tr, h0]; cases na <;> rfl)
    have F := hid (fin_any HB.out (g := w.heap.size + 1) (by omega) k2 k3 (IntV.zero w4) (.bool false) (.slice none 0 0))
    clear k0 k1 f0 f1 h0
    go_wp2
    refine bodyPost_ret (v := .agg #[.bool false, .slice none 0 0]) (by simp [results, Try.results79, go_sem, k2, k3]) rfl ⟨⟨_, rfl, ?_, ?_⟩, F.out.2⟩
    · rw [E.out]; exact F.out.1
    · exact ⟨false, none, 0, 0, rfl, fun h => absurd h (by decide)⟩
  · have HV := hid (show IntV w4 (.agg #[.bool na, .slice A (tr (tr xs)).length c]) (sg na (nv xs)) from ⟨na, _, tr (tr xs), rfl, hcut _ S4.out, HL.out.tr.tr, Cn.tr _, fun _ => h0, by rw [nv_tr, nv_tr]⟩)
    have F := hid (fin_any HB.out (g := w.heap.size + 1) (by omega) k2 k3 HV.out (.bool na) (.slice A (tr (tr xs)).length c))
    have FR := hid (show Fr ((w4.setCell ⟨w.heap.size + 1, 0, none⟩ (.bool na)).setCell ⟨w.heap.size + 1, 1, none⟩ (.slice A (tr (tr xs)).length c)) w.heap.size (.agg #[.bool na, .slice A (tr (tr xs)).length c]) by
      obtain ⟨A', m, d, e, hm, hA⟩ := Cut.block w hcut rfl (Nat.le_refl _) ll
      injection e with e1 e2 e3
      subst e1 e2 e3
      refine ⟨na, _, _, _, rfl, fun hp => ?_⟩
      obtain ⟨o, rfl⟩ := hA hp
      have hg := G.out
      exact ⟨w1.heap.size, o, tr xs, rfl, by omega, own_set_far (own_set_far O4.out (by omega)) (by omega)⟩)
    clear k0 k1 f0 f1 h0
    go_wp2
    exact bodyPost_ret (v := .agg #[.bool na, .slice A (tr (tr xs)).length c]) (by simp [results, Try.results79, go_sem, k2, k3]) rfl ⟨⟨_, rfl, F.out.1, FR.out⟩, F.out.2⟩
end Go.Proofs.Ytijmjkkjopplbaa

namespace Go.Proofs.Ytijmjkkjopplbaa
open Go.RowKit
set_option linter.unusedVariables false
set_option maxRecDepth 100000

theorem neg_any (w : World) (v : Value) (a : Int) (n : Nat) (ha : IntA w v a n) :
    Calls Try.prog 81 #[v] w fun e w' => RetI w' (-a) e ∧ Below w.heap.size w w' := by
  have HA := hid ha
  obtain ⟨na, s, n1, c1, rfl⟩ := ha.form
  obtain ⟨W, hW⟩ : ∃ W, W = (w.alloc (.cells #[.bool na, .slice s n1 c1] 24)).alloc (.cells #[.bool false, .slice none 0 0] 24) := ⟨_, rfl⟩
  have X := Bx.two w (.bool na) (.slice s n1 c1) (.bool false) (.slice none 0 0) 24
  rw [← hW] at X
  obtain ⟨x0, x1⟩ := X
  have HB : Below w.heap.size w W := by rw [hW]; exact bw_alloc (bw_alloc (Below.refl _ _) _) _
  have HA := hid (HA.out.below HB)
  clear ha
  go_enter Try.func81, Try.ntmps81
  go_wp2_with fail
  rw [← hW]
  clear hW
  refine (normalize_any _ _ a n HA.out).mono ?_
  rintro e w1 ⟨⟨u1, rfl, hv1, _⟩, hb1⟩
  obtain ⟨q, r, xs, rfl, hr, hl, hc, hnz, hz⟩ := hv1
  obtain ⟨A1, c1', rfl, hcc, hsl⟩ := id hr
  have HB := hid (bw_step HB hb1)
  obtain ⟨k0, k1, f0, f1⟩ := x0.below hb1
  have x1 := x1.below hb1
  have hr2 := (hr.setCell k0 (fun _ e => by cases e) (.bool q)).setCell (a := ⟨w.heap.size, 1, none⟩) (u := .slice s n1 c1) (by rw [World.cell?_setCell_other (h := by simp)]; exact k1) (fun _ e => by cases e) (.slice A1 xs.length c1')
  have HR := hid hr2
  have HL := hid hl
  have HZ := hid (show sg (!q) (nv xs) = -a by rw [hz]; cases q <;> simp [sg])
  have x1 := (x1.setFar1 (k := w.heap.size) (o := 0) (v := .bool q) (by omega)).setFar1 (k := w.heap.size) (o := 1) (v := .slice A1 xs.length c1') (by omega)
  have HB := hid ((HB.out.setCell (p := ⟨w.heap.size, 0, none⟩) (Nat.le_refl _) (.bool q)).setCell (p := ⟨w.heap.size, 1, none⟩) (Nat.le_refl _) (.slice A1 xs.length c1'))
  have X1 := hid x1
  clear hb1 hr hr2 hl hc hnz hz hsl x1 x0 HA
  go_wp2_with fail
  refine (signed_any _ _ (!q) xs HR.out HL.out).mono ?_
  rintro e w2 ⟨⟨v, rfl, hv⟩, hb2⟩
  rw [HZ.out] at hv
  have HB := hid (bw_step HB.out hb2)
  clear k0 k1 f0 f1
  obtain ⟨k2, k3, f2, f3⟩ := X1.out.below hb2
  obtain ⟨q4, A4, n4, c4, rfl⟩ := hv.form
  have F := hid (fin_any HB.out (g := w.heap.size + 1) (Nat.le_succ _) k2 k3 hv (.bool q4) (.slice A4 n4 c4))
  clear hb2 hv
  go_wp2
  exact bodyPost_ret (v := .agg #[.bool q4, .slice A4 n4 c4]) (by simp [results, Try.results81, go_sem, k2, k3]) rfl ⟨⟨_, rfl, F.out.1⟩, F.out.2⟩

set_option maxHeartbeats 2000000 in
theorem mul_any (w : World) (v u : Value) (a b : Int) (n m : Nat) (ha : IntA w v a n) (hb : IntA w u b m) (hn : n ≤ 274877906944) (hm : m ≤ 274877906944) :
    Calls Try.prog 88 #[v, u] w fun e w' => RetI w' (a * b) e ∧ Below w.heap.size w w' := by
  obtain ⟨na, s, xs, rfl, hs, hl, hxn, rfl⟩ := ha
  obtain ⟨nb, r, ys, rfl, hr, hk, hyn, rfl⟩ := hb
  obtain ⟨W, hW⟩ : ∃ W, W = ((w.alloc (.cells #[.bool na, s] 24)).alloc (.cells #[.bool nb, r] 24)).alloc (.cells #[.bool false, .slice none 0 0] 24) := ⟨_, rfl⟩
  have X := Bx.three w (.bool na) s (.bool nb) r (.bool false) (.slice none 0 0) 24
  rw [← hW] at X
  obtain ⟨x0, x1, x2⟩ := X
  have HB : Below w.heap.size w W := by rw [hW]; exact bw_alloc (bw_alloc (bw_alloc (Below.refl _ _) _) _) _
  have S0 := hid (hs.below HB)
  have R0 := hid (hr.below HB)
  have HB := hid HB
  have HL := hid hl
  have HK := hid hk
  have lx : (tr xs).length ≤ 274877906944 := by rw [tr_length]; have := tl_le xs; omega
  have ly : (tr ys).length ≤ 274877906944 := by rw [tr_length]; have := tl_le ys; omega
  obtain ⟨nn, hnn⟩ : ∃ nn, (!(na == nb)) = nn := ⟨_, rfl⟩
  have HV := hid (show sg nn (nv (tr xs) * nv (tr ys)) = sg na (nv xs) * sg nb (nv ys) by
    rw [nv_tr, nv_tr, ← hnn]
    cases na <;> cases nb <;> simp [sg, Int.neg_mul, Int.mul_neg])
  obtain ⟨k0, k1, f0, f1⟩ := id x0
  obtain ⟨k2, k3, f2, f3⟩ := id x1
  obtain ⟨k4, k5, f4, f5⟩ := id x2
  have X2 := hid x2
  clear hs hr hl hk
  go_enter Try.func88, Try.ntmps88
  go_wp2_with fail
  rw [← hW]
  clear hW
  go_region_held3 (fun w' => w'.cell? ⟨w.heap.size, 0, none⟩ = some (.bool na) ∧ w'.cell? ⟨w.heap.size, 1, none⟩ = some s ∧ w'.cell? ⟨w.heap.size + 1, 0, none⟩ = some (.bool nb) ∧ w'.cell? ⟨w.heap.size + 1, 1, none⟩ = some r ∧
      w'.cell? ⟨w.heap.size + 1 + 1, 0, none⟩ = some (cv w' ⟨w.heap.size + 1 + 1, 0, none⟩) ∧ w'.cell? ⟨w.heap.size + 1 + 1, 1, none⟩ = some (cv w' ⟨w.heap.size + 1 + 1, 1, none⟩) ∧
      w'.frozen? ⟨w.heap.size + 1 + 1, 0, none⟩ = false ∧ w'.frozen? ⟨w.heap.size + 1 + 1, 1, none⟩ = false)
    (first
      | exact ⟨k0, k1, k2, k3, cvx k4, cvx k5, f4, f5⟩
      | (go_split_ands; exact ⟨cell_below (by assumption) (by assumption), cell_below (by assumption) (by assumption), cell_below (by assumption) (by assumption), cell_below (by assumption) (by assumption), cvb (by assumption) (by assumption), cvb (by assumption) (by assumption), frozen_below (by assumption) (by assumption) (by assumption), frozen_below (by assumption) (by assumption) (by assumption)⟩)
      | (go_split_ands; exact ⟨st_far (by assumption) (by simp) (by simp), st_far (by assumption) (by simp) (by simp), st_far (by assumption) (by simp) (by simp), st_far (by assumption) (by simp) (by simp), st_cv (by assumption), st_cv (by assumption), st_fr (by assumption), st_fr (by assumption)⟩))
    (first
      | (go_at_call 82; (with_reducible refine (magnitude_any _ (.agg #[.bool na, s]) s na xs rfl ?g1).mono ?_); (case g1 => first | exact S0.out.drew 1 | exact (S0.out.drew 1).below hb2 ); rintro e w4 ⟨⟨s1, rfl, hc1⟩, hb1⟩)
      | (go_at_call 82; (with_reducible refine (magnitude_any _ (.agg #[.bool nb, r]) r nb ys rfl ?g2).mono ?_); (case g2 => first | exact R0.out.drew 1 | exact (R0.out.drew 1).below hb1); rintro e w4 ⟨⟨s2, rfl, hc2⟩, hb2⟩)
      | (go_at_call 108; (with_reducible refine (times_any _ _ _ (tr xs) (tr ys) ?g3 ?g4 HL.out.tr HK.out.tr lx ly).mono ?_); (case g3 => first | exact hc1 _ (((S0.out.drew 1).below hb1).below hb2) | exact hc1 _ (((S0.out.drew 1).below hb2).below hb1)); (case g4 => first | exact hc2 _ (((R0.out.drew 1).below hb1).below hb2) | exact hc2 _ (((R0.out.drew 1).below hb2).below hb1)); rintro e w5 ⟨⟨zs, ⟨s3, rfl, hs3⟩, hz1, hz2, hz3⟩, hb5⟩)
      | (go_at_call 86; (with_reducible refine (signed_any _ _ nn zs hs3 hz1).mono ?_); rintro e w6 ⟨⟨v6, rfl, hv6⟩, hb6⟩; obtain ⟨q4, A4, n4, c4, rfl⟩ := hv6.form))
  rename_i hH
  clear hH k0 k1 k2 k3 k4 k5 f0 f1 f2 f3 f4 f5 hnn
  have hW6 : Below W.heap.size W w6 := bw_step (bw_step (bw_step (bw_step (Below.refl _ W).drew hb1) hb2) hb5) hb6
  obtain ⟨k4, k5, f4, f5⟩ := X2.out.below hW6
  rw [hz3, HV.out] at hv6
  have HF := fin_agg (bw_step HB.out hW6) (by omega) k4 k5 hv6
  clear hb1 hb2 hb5 hb6 hs3 hv6 hW6 x0 x1 x2 hc1 hc2 hz1 hz2 hz3
  go_wp2
  exact bodyPost_ret (v := .agg #[.bool q4, .slice A4 n4 c4]) (by simp [results, Try.results88, go_sem, k4, k5]) rfl HF.out
end Go.Proofs.Ytijmjkkjopplbaa

