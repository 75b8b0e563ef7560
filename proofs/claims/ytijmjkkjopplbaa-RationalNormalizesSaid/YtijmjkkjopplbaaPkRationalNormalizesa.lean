/- A part of the proof of the laws of rationals: Walk, IntV, Fresh. -/
import Derived.Test.YtijmjkkjopplbaaProg
import Derived.Test.YtijmjkkjopplbaaPab
import Derived.Test.YtijmjkkjopplbaaPaa
import Derived.Test.YtijmjkkjopplbaaPac
import Derived.Test.YtijmjkkjopplbaaPad
namespace Go.Proofs.Ytijmjkkjopplbaa
open Go.RowKit

theorem u64_or32 {x y : Int} (hx0 : 0 ≤ x) (hx1 : x < 4294967296) (hy0 : 0 ≤ y) (hy1 : y < 4294967296) : bits .or .u64 x (y * 4294967296) = x + y * 4294967296 :=
  (u64_or_high (p := 4294967296) (i := 32) rfl hx0 hx1 hy0 (by omega) (by omega)).1
theorem u64_or_zero {x : Int} (hx0 : 0 ≤ x) (hx1 : x < 18446744073709551616) : bits .or .u64 0 x = x := by
  obtain ⟨a, rfl⟩ := Int.eq_ofNat_of_zero_le hx0
  have := u64_or_nat 0 a (by decide) (by omega)
  rw [Nat.zero_or] at this; exact this
end Go.Proofs.Ytijmjkkjopplbaa

namespace Go.Proofs.Ytijmjkkjopplbaa
open Go.RowKit

theorem bw_two (w : World) (o p : Obj) : Below w.heap.size w ((w.alloc o).alloc p) := bw_alloc (bw_alloc (Below.refl _ _) _) _

end Go.Proofs.Ytijmjkkjopplbaa

namespace Go.Proofs.Ytijmjkkjopplbaa
open Go.RowKit
set_option linter.unusedVariables false
set_option maxRecDepth 100000

/-- A slice without elements, or in a block of limbs from B on. -/
def FrS (w : World) (B : Nat) (v : Value) : Prop := ∀ A n c, v = .slice A n c → 0 < n → ∃ g o ys, A = some ⟨g, o, none⟩ ∧ B ≤ g ∧ Own w g ys ∧ 0 < ys.length
/-- An Int whose limbs lie so. -/
def FrI (w : World) (B : Nat) (v : Value) : Prop := ∀ q A n c, v = .agg #[.bool q, .slice A n c] → FrS w B (.slice A n c)
theorem FrS.mono {w : World} {B C : Nat} {v : Value} (h : FrS w B v) (hc : C ≤ B) : FrS w C v := fun A n c e h0 => let ⟨g, o, ys, h1, h2, h3⟩ := h A n c e h0; ⟨g, o, ys, h1, by omega, h3⟩
theorem FrI.mono {w : World} {B C : Nat} {v : Value} (h : FrI w B v) (hc : C ≤ B) : FrI w C v := fun q A n c e => (h q A n c e).mono hc
theorem FrS.below {w w' : World} {B : Nat} {v : Value} (h : FrS w B v) (hb : Below w.heap.size w w') : FrS w' B v := fun A n c e h0 => let ⟨g, o, ys, h1, h2, h3, h4⟩ := h A n c e h0; ⟨g, o, ys, h1, h2, Own.below h3 hb (Own.lt h3), h4⟩
theorem FrI.below {w w' : World} {B : Nat} {v : Value} (h : FrI w B v) (hb : Below w.heap.size w w') : FrI w' B v := fun q A n c e => (h q A n c e).below hb
theorem FrS.nil (w : World) (B c : Nat) (A : Option Addr) : FrS w B (.slice A 0 c) := fun A' n' c' e h0 => by injection e with _ e2 _; omega
theorem FrS.own {w : World} {B g n c : Nat} {ys : List Int} (h : B ≤ g) (ho : Own w g ys) (hn : ys.length = n) : FrS w B (.slice (some ⟨g, 0, none⟩) n c) := fun A' n' c' e h0 => by
  injection e with e1 e2 _
  exact ⟨g, 0, ys, e1.symm, h, ho, by omega⟩
theorem FrI.of {w : World} {B : Nat} {q : Bool} {A : Option Addr} {n c : Nat} (h : FrS w B (.slice A n c)) : FrI w B (.agg #[.bool q, .slice A n c]) := fun q' A' n' c' e => by
  simp only [Value.agg.injEq, Array.mk.injEq, List.cons.injEq, and_true] at e
  rw [← e.2]; exact h
theorem FrI.s {w : World} {B : Nat} {q : Bool} {A : Option Addr} {n c : Nat} (h : FrI w B (.agg #[.bool q, .slice A n c])) : FrS w B (.slice A n c) := h _ _ _ _ rfl
theorem FrS.setCell {w : World} {B : Nat} {v : Value} (h : FrS w B v) {a : Addr} {u : Value} (hc : w.cell? a = some u) (hu : ∀ n, u ≠ .int .u32 n) (y : Value) : FrS (w.setCell a y) B v := fun A n c e h0 => by
  obtain ⟨g, o, ys, h1, h2, h3, h4⟩ := h A n c e h0
  refine ⟨g, o, ys, h1, h2, ?_, h4⟩
  have hne : a.block ≠ g := fun e => by
    unfold World.cell? at hc
    unfold Own at h3
    rw [e, h3] at hc
    cases hs : a.spot with
    | some s => rw [hs] at hc; simp at hc
    | none =>
      rw [hs] at hc
      simp at hc
      obtain ⟨x, hx, rfl⟩ := hc
      exact hu x rfl
  unfold Own World.setCell at *
  rw [Array.getElem?_modify, if_neg hne]
  exact h3
theorem FrI.boxed {w : World} {B g : Nat} {v : Value} {b0 : Bool} {A0 : Option Addr} {n0 c0 : Nat} (h : FrI w B v) (k0 : w.cell? ⟨g, 0, none⟩ = some (.bool b0)) (k1 : w.cell? ⟨g, 1, none⟩ = some (.slice A0 n0 c0)) (x y : Value) :
    FrI ((w.setCell ⟨g, 0, none⟩ x).setCell ⟨g, 1, none⟩ y) B v := fun q A n c e => by
  have h1 := (h q A n c e).setCell k0 (fun _ => by simp) x
  exact h1.setCell (u := .slice A0 n0 c0) (by rw [World.cell?_setCell_other (h := by simp)]; exact k1) (fun _ => by simp) y
/-- The world with one block alone. -/
def alone (w : World) (g : Nat) : World := { w with heap := w.heap.mapIdx fun i o => if i = g then o else .cells #[] 0 }
theorem alone_at {w : World} {g o : Nat} : (alone w g).cell? ⟨g, o, none⟩ = w.cell? ⟨g, o, none⟩ := by
  unfold World.cell? alone
  simp only [Array.getElem?_mapIdx]
  cases hg : w.heap[g]? with
  | none => rfl
  | some x => simp only [Option.map_some, if_true]
theorem alone_far {w : World} {b g o : Nat} {v : Value} (h : b ≠ g) : (alone w g).cell? ⟨b, o, none⟩ ≠ some v := by
  unfold World.cell? alone
  simp only [Array.getElem?_mapIdx]
  cases hg : w.heap[b]? with
  | none => simp
  | some x => simp only [Option.map_some]; rw [if_neg h]; simp
theorem Cut.fr {w : World} {B : Nat} {s s' : Value} {xs ys : List Int} (h : Cut s xs s' ys) (hs : SlV w s xs) (hf : FrS w B s) : FrS w B s' := by
  obtain ⟨A, c, rfl, hc, hl, hsl⟩ := hs
  rcases Nat.eq_zero_or_pos xs.length with hx | hx
  · obtain rfl := List.eq_nil_of_length_eq_zero hx
    have h1 : SlV { w with heap := #[] } (.slice A 0 c) [] := ⟨A, c, rfl, hc, hl, fun h0 => absurd h0 (by simp)⟩
    obtain ⟨A2, c2, rfl, hc2, hl2, hsl2⟩ := h _ h1
    intro A' n' c' e h0
    injection e with e1 e2 e3
    subst e1 e2 e3
    obtain ⟨b, o, rfl, hcl⟩ := hsl2 h0
    have := hcl 0 h0
    unfold World.cell? at this
    simp at this
  · obtain ⟨g, o, ys0, e, hg, ho, hy⟩ := hf _ _ _ rfl hx
    subst e
    have h1 : SlV (alone w g) (.slice (some ⟨g, o, none⟩) xs.length c) xs := ⟨_, c, rfl, hc, hl, fun h0 => by
      obtain ⟨b, o', e, hcl⟩ := hsl h0
      injection e with e
      injection e with e1 e2 e3
      subst e1 e2
      exact ⟨g, o, rfl, fun j hj => by rw [alone_at]; exact hcl j hj⟩⟩
    obtain ⟨A2, c2, rfl, hc2, hl2, hsl2⟩ := h _ h1
    intro A' n' c' e h0
    injection e with e1 e2 e3
    subst e1 e2 e3
    obtain ⟨b, o2, rfl, hcl⟩ := hsl2 h0
    by_cases hb : b = g
    · subst hb; exact ⟨b, o2, ys0, rfl, hg, ho, hy⟩
    · exact absurd (hcl 0 h0) (alone_far hb)
/-- signed keeps the block. -/
theorem signed_fr (w : World) (s : Value) (neg : Bool) (xs : List Int) (h : SlV w s xs) (hb : Lb xs) (B : Nat) (hf : FrS w B s) :
    Calls Try.prog 86 #[.bool neg, s] w fun e w' => (∃ v, e = .returned v ∧ IntV w' v (sg neg (nv xs)) ∧ FrI w' B v) ∧ Below w.heap.size w w' := by
  have H := hid h
  have HB := hid hb
  have HF := hid hf
  clear hb hf
  go_enter Try.func86, Try.ntmps86
  go_wp2_with (go_at_call 102; (with_reducible refine (trim_any _ _ xs (h.below ((Below.refl _ _).alloc (Nat.le_refl _) _))).mono ?_); rintro e w' ⟨⟨vt, rfl, ht⟩, rfl⟩; obtain ⟨A, c, rfl, hc, _⟩ := ht _ h; have HT := hid ht; clear ht h)
  · have hl : (tr xs).length = 0 := by rename_i hh; simpa using hh
    have hz : nv xs = 0 := by rw [← nv_tr, List.eq_nil_of_length_eq_zero hl]; rfl
    refine bodyPost_ret (v := .agg #[.bool false, .slice none 0 0]) (by simp [results, Try.results86, go_sem]) rfl ⟨⟨_, rfl, ?_, FrI.of (FrS.nil _ _ _ _)⟩, (Below.refl _ _).alloc (Nat.le_refl _) _⟩
    rw [hz]
    cases neg
    · exact IntV.zero _
    · exact IntV.zero _
  · have hl : (tr xs).length ≠ 0 := by rename_i hh; simpa using hh
    refine bodyPost_ret (v := .agg #[.bool neg, .slice A (tr xs).length c]) (by simp [results, Try.results86, go_sem]) rfl ⟨⟨_, rfl, ?_, FrI.of ((HT.out.fr H.out HF.out).below ((Below.refl _ _).alloc (Nat.le_refl _) _))⟩, (Below.refl _ _).alloc (Nat.le_refl _) _⟩
    exact ⟨neg, _, tr xs, rfl, HT.out _ (H.out.below ((Below.refl _ _).alloc (Nat.le_refl _) _)), HB.out.tr, Cn.tr _, (fun _ e => hl (by rw [e]; rfl)), by rw [nv_tr]⟩
def RetNF (w : World) (B : Nat) (z : Int) (e : Ending) : Prop := ∃ v xs, e = .returned v ∧ SlV w v xs ∧ Lb xs ∧ Cn xs ∧ nv xs = z ∧ FrS w B v
theorem plus_fr (w : World) (v u : Value) (xs ys : List Int) (hx : SlV w v xs) (hy : SlV w u ys) (bx : Lb xs) (by_ : Lb ys) (lx : xs.length < 1099511627776) (ly : ys.length < 1099511627776) :
    Calls Try.prog 84 #[v, u] w fun e w' => RetNF w' w.heap.size (nv xs + nv ys) e ∧ Below w.heap.size w w' := by
  have HX := hid hx
  have HY := hid hy
  obtain ⟨A, c, rfl, hcl, hx⟩ := hx
  obtain ⟨B, d, rfl, hdl, hy⟩ := hy
  have HBX := hid bx
  have HBY := hid by_
  clear hx hy bx by_
  have hmax := max_nat xs.length ys.length
  obtain ⟨n, hn⟩ : ∃ n, n = max xs.length ys.length := ⟨_, rfl⟩
  rw [← hn] at hmax
  have h1 : n < 1099511627776 := by omega
  have HN := hid hn
  clear hn
  have hmk := make_u32_succ n (by omega)
  go_enter Try.func84, Try.ntmps84
  go_wp2
  clear hmax hmk
  go_loopw [7, 18] (fun v i wr => ∃ (cy : Int) (k : Nat) (os : List Int), v = .int .u64 cy ∧ i = .int .i64 k ∧ 0 ≤ cy ∧ cy ≤ 1 ∧ k ≤ n ∧ Hid (os.length = n + 1) ∧ Hid (Own wr w.heap.size os) ∧ Hid (Lb os) ∧
      Hid (nv (os.take k) + bp k * cy = nv (xs.take k) + nv (ys.take k)) ∧ Below w.heap.size w wr) (fun _ i _ => n - (intOf i).toNat)
  case atStart => exact ⟨0, 0, List.replicate (n + 1) 0, rfl, rfl, by omega, by omega, by omega, hid (by simp), hid (Own.made w (n + 1)), hid (Lb.replicate _), hid (by simp [nv_nil]), (Below.refl _ _).alloc (Nat.le_refl _) _⟩
  case round =>
    obtain ⟨cy, k, os, rfl, rfl, hc0, hc1, hk, hlen, hown, hlb, hval, hbel⟩ := hrel
    by_cases hlt : k < n
    · have hcell := hown.out.cell (j := k) (by have := hlen.out; omega)
      have hfree := hown.out.free k
      have hbx := HBX.out.lm k
      have hby := HBY.out.lm k
      go_wp2_with (first | (go_at_call_of 107 (Value.slice A xs.length c); (with_reducible refine (limb_any _ _ _ _ (HX.out.below hbel) (by omega) HBX.out).mono ?_); rintro e w' ⟨rfl, rfl⟩) | (go_at_call 107; (with_reducible refine (limb_any _ _ _ _ (HY.out.below hbel) (by omega) HBY.out).mono ?_); rintro e w' ⟨rfl, rfl⟩))
      go_roundw
      case measure => simp [intOf]; omega
      case rel =>
        have hl := hlen.out
        have h2 := Int.emod_nonneg (cy + (lm xs k + lm ys k)) (show (4294967296 : Int) ≠ 0 by decide)
        have h3 := Int.emod_lt_of_pos (cy + (lm xs k + lm ys k)) (show (0 : Int) < 4294967296 by decide)
        refine ⟨_, k + 1, os.set k ((cy + (lm xs k + lm ys k)) % 4294967296), rfl, by go_num, by omega, by omega, by omega, hid (by rw [List.length_set]; exact hl), hid (hown.out.set _ _), hid (hlb.out.set _ h2 h3), hid ?_, hbel.setCell (Nat.le_refl _) _⟩
        rw [nv_take_set_succ (by omega), nv_take_succ, nv_take_succ, bp_succ, plus_step hval.out rfl]
        omega
    · obtain rfl : k = n := by omega
      have hcell := hown.out.cell (j := k) (by have := hlen.out; omega)
      have hfree := hown.out.free k
      have hl := hlen.out
      have HL := hid hl
      clear hlen hl
      go_wp2_with (go_at_call 102; (with_reducible refine (trim_any _ _ (os.set k cy) ((hown.out.set k cy).slv (by rw [List.length_set]; exact HL.out) (by omega) (Nat.le_refl _))).mono ?_); rintro e w' ⟨⟨vt, rfl, ht⟩, rfl⟩)
      go_ret
      refine ⟨⟨_, tr (os.set k cy), rfl, ht _ ((hown.out.set k cy).slv (by rw [List.length_set]; exact HL.out) (by omega) (Nat.le_refl _)), (hlb.out.set _ hc0 (by omega)).tr, Cn.tr _, ?_, ht.fr ((hown.out.set k cy).slv (by rw [List.length_set]; exact HL.out) (by omega) (Nat.le_refl _)) (FrS.own (Nat.le_refl _) (hown.out.set k cy) (by rw [List.length_set]; exact HL.out))⟩, hbel.setCell (Nat.le_refl _) _⟩
      rw [nv_tr, nv_set_last HL.out, hval.out, nv_take_all (by have := HN.out; omega), nv_take_all (by have := HN.out; omega)]


def RetQF (w : World) (B : Nat) (a b : Int) (e : Ending) : Prop := ∃ v qs, e = .returned (.tuple #[v, .int .u32 (a % b)]) ∧ SlV w v qs ∧ Lb qs ∧ Cn qs ∧ nv qs = a / b ∧ FrS w B v
theorem shortDivide_fr (w : World) (v : Value) (xs : List Int) (b : Int) (hx : SlV w v xs) (bx : Lb xs) (hb : 0 < b ∧ b < 4294967296) :
    Calls Try.prog 101 #[v, .int .u32 b] w fun e w' => RetQF w' w.heap.size (nv xs) b e ∧ Below w.heap.size w w' := by
  obtain ⟨A, cap, rfl, hcl, hx⟩ := hx
  have lx := hx.len
  have HX := hid hx
  have HBX := hid bx
  clear hx bx
  obtain ⟨hb0, hb1⟩ := hb
  have hmk := make_u32 xs.length (by omega)
  go_enter Try.func101, Try.ntmps101
  go_wp2
  clear hmk
  go_loopw [7, 8] (fun v i wr => ∃ (r : Int) (k : Nat) (os : List Int), v = .int .u64 r ∧ i = .int .i64 ((k : Int) - 1) ∧ 0 ≤ r ∧ r < b ∧ k ≤ xs.length ∧ Hid (os.length = xs.length) ∧ Hid (Own wr w.heap.size os) ∧ Hid (Lb os) ∧
      Hid (nv (xs.drop k) = nv (os.drop k) * b + r) ∧ Below w.heap.size w wr) (fun _ i _ => (intOf i + 1).toNat)
  case atStart => exact ⟨0, xs.length, List.replicate xs.length 0, rfl, rfl, by omega, by omega, by omega, hid (by simp), hid (Own.made w xs.length), hid (Lb.replicate _), hid (by simp [nv_nil]), (Below.refl _ _).alloc (Nat.le_refl _) _⟩
  case round =>
    obtain ⟨r, k, os, rfl, rfl, hr0, hr1, hk, hlen, hown, hlb, hval, hbel⟩ := hrel
    cases k with
    | succ t =>
      have et : ((t + 1 : Nat) : Int) - 1 = (t : Int) := by omega
      rw [et]
      clear et
      have hcell := hown.out.cell (j := t) (by have := hlen.out; omega)
      have hfree := hown.out.free t
      have hbx := HBX.out.lm t
      obtain ⟨ab, ao, rfl, hcc⟩ := HX.out.at (by omega)
      have c1 := cell_below hbel (hcc t (by omega))
      clear hcc
      obtain ⟨s, hs⟩ : ∃ s, lm xs t + r * 4294967296 = s := ⟨_, rfl⟩
      have hor : bits .or .u64 (r * 4294967296) (lm xs t) = s := by rw [u64_or32' hbx.1 hbx.2 hr0 (by omega), hs]
      have hs0 : 0 ≤ s := by omega
      have hs1 : s < 18446744073709551616 := by omega
      obtain ⟨hq0, hq1⟩ := sdiv_digit hb0 hr0 hr1 hbx hs
      have hm0 := Int.emod_nonneg s (show b ≠ 0 by omega)
      have hm1 := Int.emod_lt_of_pos s hb0
      have HS := hid hs
      clear hs
      go_wp2
      go_roundw
      case measure => simp [intOf]
      case rel =>
        have hl := hlen.out
        refine ⟨_, t, os.set t (s / b), rfl, rfl, hm0, hm1, by omega, hid (by rw [List.length_set]; exact hl), hid (hown.out.set _ _), hid (hlb.out.set _ hq0 hq1), hid ?_, hbel.setCell (Nat.le_refl _) _⟩
        rw [nv_drop_set (by omega), nv_drop_succ (by omega), sdiv_step hval.out HS.out]
    | zero =>
      have HL := hid hlen.out
      go_wp2_with (go_at_call 102; (with_reducible refine (trim_any _ _ os (hown.out.slv hlen.out (by omega) (Nat.le_refl _))).mono ?_); rintro e w' ⟨⟨vt, rfl, ht⟩, rfl⟩)
      go_ret2
      have e := hval.out
      rw [List.drop_zero, List.drop_zero] at e
      obtain ⟨e1, e2⟩ := div_mod_unique e hr0 hr1
      refine ⟨⟨vt, tr os, ?_, ht _ (hown.out.slv hlen.out (by omega) (Nat.le_refl _)), hlb.out.tr, Cn.tr _, ?_, ht.fr (hown.out.slv hlen.out (by omega) (Nat.le_refl _)) (FrS.own (Nat.le_refl _) hown.out hlen.out)⟩, hbel⟩
      · rw [← e2]; rfl
      · rw [nv_tr]; exact e1

end Go.Proofs.Ytijmjkkjopplbaa

