/- Walk: shortDivide. -/
import Derived.Test.YtdbgalohppfkfaaPlus
import Derived.Test.YtdbgalohppfkfaaCut
namespace Go.Proofs.Ytdbgalohppfkfaa
open Go.RowKit
set_option linter.unusedVariables false

/-- The call hands back the quotient's limbs and the remainder. -/
def RetQR (w : World) (a b : Int) (e : Ending) : Prop := ∃ v qs, e = .returned (.tuple #[v, .int .u32 (a % b)]) ∧ SlV w v qs ∧ Lb qs ∧ Cn qs ∧ nv qs = a / b
def RetQT (w : World) (a b : Int) (e : Ending) : Prop := ∃ v qs, e = .returned (.tuple #[v, .int .u32 (a % b)]) ∧ SlV w v qs ∧ Lb qs ∧ Cn qs ∧ nv qs = a / b ∧ Tg w v
theorem shortDivide_tg (w : World) (v : Value) (xs : List Int) (b : Int) (hx : SlV w v xs) (bx : Lb xs) (hb : 0 < b ∧ b < 4294967296) :
    Calls Try.prog 59 #[v, .int .u32 b] w fun e w' => RetQT w' (nv xs) b e ∧ Below w.heap.size w w' := by
  obtain ⟨A, cap, rfl, hcl, hx⟩ := hx
  have lx := hx.len
  have HX := hid hx
  have HBX := hid bx
  clear hx bx
  obtain ⟨hb0, hb1⟩ := hb
  have hmk := make_u32 xs.length (by omega)
  go_enter Try.func59, Try.ntmps59
  go_wp2
  clear hmk
  go_loopw [7, 8] (fun v i wr => ∃ (r : Int) (k : Nat) (os : List Int), v = .int .u64 r ∧ i = .int .i64 ((k : Int) - 1) ∧ 0 ≤ r ∧ r < b ∧ k ≤ xs.length ∧ Hid (os.length = xs.length) ∧ Hid (Own wr w.heap.size os) ∧ Hid (Lb os) ∧
      Hid (nv (xs.drop k) = nv (os.drop k) * b + r) ∧ Below w.heap.size w wr) (fun _ i _ => (intOf i + 1).toNat)
  case atStart => exact ⟨0, xs.length, List.replicate xs.length 0, rfl, rfl, by omega, by omega, by omega, hid (by simp), hid (Own.made w xs.length), hid (Lb.replicate _), hid (by simp [nv_nil]), (Below.refl _ _).alloc (Nat.le_refl _) _⟩
  case round =>
    obtain ⟨r, k, os, rfl, rfl, hr0, hr1, hk, hlen, hown, hlb, hval, hbel⟩ := hrel
    cases k with
    | succ t =>
      have et : ((t + 1 : Nat) : Int) - 1 = (t : Int) := by omega
      rw [et]
      clear et
      have hcell := hown.out.cell (j := t) (by have := hlen.out; omega)
      have hfree := hown.out.free t
      have hbx := HBX.out.lm t
      obtain ⟨ab, ao, rfl, hcc⟩ := HX.out.at (by omega)
      have c1 := cell_below hbel (hcc t (by omega))
      clear hcc
      obtain ⟨s, hs⟩ : ∃ s, lm xs t + r * 4294967296 = s := ⟨_, rfl⟩
      have hor : bits .or .u64 (r * 4294967296) (lm xs t) = s := by rw [u64_or32' hbx.1 hbx.2 hr0 (by omega), hs]
      have hs0 : 0 ≤ s := by omega
      have hs1 : s < 18446744073709551616 := by omega
      obtain ⟨hq0, hq1⟩ := sdiv_digit hb0 hr0 hr1 hbx hs
      have hm0 := Int.emod_nonneg s (show b ≠ 0 by omega)
      have hm1 := Int.emod_lt_of_pos s hb0
      have HS := hid hs
      clear hs
      go_wp2
      go_roundw
      case measure => simp [intOf]
      case rel =>
        have hl := hlen.out
        refine ⟨_, t, os.set t (s / b), rfl, rfl, hm0, hm1, by omega, hid (by rw [List.length_set]; exact hl), hid (hown.out.set _ _), hid (hlb.out.set _ hq0 hq1), hid ?_, hbel.setCell (Nat.le_refl _) _⟩
        rw [nv_drop_set (by omega), nv_drop_succ (by omega), sdiv_step hval.out HS.out]
    | zero =>
      have HL := hid hlen.out
      go_wp2_with (go_at_call 60; (with_reducible refine (trim_any _ _ os (hown.out.slv hlen.out (by omega) (Nat.le_refl _))).mono ?_); rintro e w' ⟨⟨vt, rfl, ht⟩, rfl⟩)
      go_ret2
      have e := hval.out
      rw [List.drop_zero, List.drop_zero] at e
      obtain ⟨e1, e2⟩ := div_mod_unique e hr0 hr1
      refine ⟨⟨vt, tr os, ?_, ht _ (hown.out.slv hlen.out (by omega) (Nat.le_refl _)), hlb.out.tr, Cn.tr _, ?_, ht.tg hlen.out (Nat.le_refl _) (by omega) hown.out⟩, hbel⟩
      · rw [← e2]; rfl
      · rw [nv_tr]; exact e1
theorem shortDivide_any (w : World) (v : Value) (xs : List Int) (b : Int) (hx : SlV w v xs) (bx : Lb xs) (hb : 0 < b ∧ b < 4294967296) :
    Calls Try.prog 59 #[v, .int .u32 b] w fun e w' => RetQR w' (nv xs) b e ∧ Below w.heap.size w w' :=
  (shortDivide_tg w v xs b hx bx hb).mono fun e w' ⟨⟨v, qs, h1, h2, h3, h4, h5, _⟩, h⟩ => ⟨⟨v, qs, h1, h2, h3, h4, h5⟩, h⟩
end Go.Proofs.Ytdbgalohppfkfaa
