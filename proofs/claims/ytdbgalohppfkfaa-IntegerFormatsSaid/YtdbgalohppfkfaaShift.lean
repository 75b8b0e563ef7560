/- Walks: shift, unshift. -/
import Derived.Test.YtdbgalohppfkfaaPlus
import Derived.Test.YtdbgalohppfkfaaIntV
namespace Go.Proofs.Ytdbgalohppfkfaa
open Go.RowKit

theorem u32_or_low {x z p q : Int} {n : Nat} (hp : p = 2 ^ n) (hx0 : 0 ≤ x) (hx1 : x < p) (hz0 : 0 ≤ z) (hz1 : z < q) (e : 4294967296 = p * q) :
    bits .or .u32 x (z * p) = x + z * p ∧ x + z * p < 4294967296 := by
  subst hp
  have h1 : (z + 1) * 2 ^ n ≤ q * 2 ^ n := Int.mul_le_mul_of_nonneg_right (by omega) (Int.le_of_lt (pow_pos2 n))
  rw [Int.add_mul, Int.one_mul, Int.mul_comm q, ← e] at h1
  refine ⟨?_, by omega⟩
  obtain ⟨a, rfl⟩ := Int.eq_ofNat_of_zero_le hx0
  obtain ⟨b, rfl⟩ := Int.eq_ofNat_of_zero_le hz0
  have e2 : ((b : Int) * 2 ^ n) = ((2 ^ n * b : Nat) : Int) := by rw [Nat.mul_comm, Int.natCast_mul, two_pow_int]
  rw [e2] at h1 ⊢
  rw [two_pow_int] at hx1 h1
  have ha : a < 2 ^ n := by omega
  rw [u32_or_nat _ _ (by omega) (by omega), Nat.or_comm, ← Nat.two_pow_add_eq_or_of_lt ha]
  omega

/-- The call hands back a block of its own. -/
def RetOwn (w0 w : World) (zs : List Int) (e : Ending) : Prop := ∃ g, e = .returned (.slice (some ⟨g, 0, none⟩) zs.length zs.length) ∧ Own w g zs ∧ w0.heap.size ≤ g

theorem shift_any (w : World) (v : Value) (xs : List Int) (s : Int) (hx : SlV w v xs) (bx : Lb xs) (hs0 : 0 ≤ s) (hs1 : s < 32) (lx : xs.length < 1099511627776) :
    Calls Try.prog 63 #[v, .int .u64 s] w fun e w' => (∃ zs, RetOwn w w' zs e ∧ zs.length = xs.length + 1 ∧ Lb zs ∧ nv zs = nv xs * 2 ^ s.toNat) ∧ Below w.heap.size w w' := by
  obtain ⟨A, cap, rfl, hcl, hx⟩ := hx
  have HX := hid hx
  have HBX := hid bx
  clear hx bx
  obtain ⟨n, rfl⟩ := Int.eq_ofNat_of_zero_le hs0
  rw [Int.toNat_natCast]
  have hn : n < 32 := by omega
  have hmin : min n 64 = n := by omega
  have hpw : (2 : Int) ^ n = 2 ^ n := rfl
  obtain ⟨p, hp⟩ : ∃ p : Int, p = 2 ^ n := ⟨_, rfl⟩
  rw [← hp]
  have hp0 := pow_pos2 n
  have hp1 := pow_lt32 hn
  obtain ⟨q, hq0, hq⟩ := pow_dvd (show n ≤ 32 by omega)
  rw [← hp] at hp0 hp1 hq
  have hpow : (2 : Int) ^ min n 64 = p := by rw [hmin, hp]
  have hpow2 : (2 : Int) ^ n = p := hp.symm
  have HP := hid hp
  have HQ := hid hq
  clear hp hq hpw hmin
  have hmk := make_u32_succ xs.length (by omega)
  go_enter Try.func63, Try.ntmps63
  go_wp2
  clear hmk
  go_loopw [14] (fun i wr => ∃ (k : Nat) (os : List Int), i = .int .i64 k ∧ k ≤ xs.length ∧ Hid (os.length = xs.length + 1) ∧ Hid (Own wr w.heap.size os) ∧ Hid (Lb os) ∧ lm os k < p ∧
      Hid (nv (os.take k) + bp k * lm os k = nv (xs.take k) * p) ∧ Below w.heap.size w wr) (fun i _ => xs.length - (intOf i).toNat)
  case atStart => exact ⟨0, List.replicate (xs.length + 1) 0, rfl, by omega, hid (by simp), hid (Own.made w (xs.length + 1)), hid (Lb.replicate _), by rw [lm_replicate]; exact hp0, hid (by rw [lm_replicate]; simp [nv_nil]), (Below.refl _ _).alloc (Nat.le_refl _) _⟩
  case round =>
    obtain ⟨k, os, rfl, hk, hlen, hown, hlb, hlow, hval, hbel⟩ := hrel
    by_cases hlt : k < xs.length
    · have hcell := hown.out.cell (j := k) (by have := hlen.out; omega)
      have hfree := hown.out.free k
      have hcell2 := hown.out.cell (j := k + 1) (by have := hlen.out; omega)
      have hfree2 := hown.out.free (k + 1)
      have hbx := HBX.out.lm k
      have hbo := hlb.out.lm k
      obtain ⟨ab, ao, rfl, hcc⟩ := HX.out.at (by omega)
      have c1 := cell_below hbel (hcc k hlt)
      clear hcc
      obtain ⟨m0, m1⟩ := mul_bounds (x := lm xs k) (y := p) (p := 4294967295) (q := 2147483648) hbx.1 (by omega) (by omega) hp1
      have hu := u64_in m0 (by omega)
      obtain ⟨z, hz, hz0, hz1⟩ := low_multiple (x := lm xs k) hp0 HQ.out
      obtain ⟨hor, hlt3⟩ := u32_or_low HP.out hbo.1 hlow hz0 hz1 HQ.out
      rw [← hz] at hor hlt3
      have hzz : 0 ≤ lm xs k * p % 4294967296 := Int.emod_nonneg _ (by decide)
      have HZ := hid hz
      clear hz
      have hhi : lm xs k * p / 4294967296 < p := by
        have : lm xs k * p < 4294967296 * p := Int.mul_lt_mul_of_pos_right hbx.2 hp0
        omega
      go_wp2
      go_roundw
      case measure => simp [intOf]; omega
      case rel =>
        have hl := hlen.out
        refine ⟨k + 1, (os.set k (lm os k + lm xs k * p % 4294967296)).set (k + 1) (lm xs k * p / 4294967296), by go_num, by omega, hid (by rw [List.length_set, List.length_set]; exact hl), hid ((hown.out.set _ _).set _ _), hid ((hlb.out.set _ (by omega) hlt3).set _ (by omega) (by omega)),
          by rw [lm_set_same _ (by rw [List.length_set]; omega)]; exact hhi, hid ?_, (hbel.setCell (Nat.le_refl _) _).setCell (Nat.le_refl _) _⟩
        rw [List.take_set_of_le (Nat.le_refl _), nv_take_set_succ (by omega), lm_set_same _ (by rw [List.length_set]; omega), nv_take_succ, bp_succ, shl_step hval.out rfl]
    · have HK := hid (show k = xs.length by omega)
      go_wp2
      go_ret
      have hl := hlen.out
      refine ⟨⟨os, ⟨w.heap.size, by rw [hl]; rfl, hown.out, Nat.le_refl _⟩, hl, hlb.out, ?_⟩, hbel⟩
      have e := hval.out
      rw [HK.out, nv_take_all (xs := xs) (Nat.le_refl _), ← nv_take_succ, nv_take_all (by omega)] at e
      exact e

/-- The parts of a limb that a shift to the right cuts. -/
theorem shr_digit {x y p q : Int} (hp : 0 < p) (hq : 4294967296 = p * q) (hx : 0 ≤ x ∧ x < 4294967296) (hy : 0 ≤ y ∧ y < 4294967296) :
    p * ((x + y * 4294967296) / p % 4294967296) = x - x % p + 4294967296 * (y % p) ∧ 0 ≤ (x + y * 4294967296) / p := by
  have hq0 : 0 < q := by
    rcases Int.lt_trichotomy q 0 with h | h | h
    · have := Int.mul_neg_of_pos_of_neg hp h; omega
    · subst h; simp at hq
    · exact h
  refine ⟨?_, Int.ediv_nonneg (by omega) (by omega)⟩
  have e1 : (x + y * 4294967296) / p = x / p + y * q := by
    rw [hq, show x + y * (p * q) = x + p * (y * q) from by grind, Int.add_mul_ediv_left _ _ (by omega)]
  have hxp := Int.emod_add_mul_ediv x p
  have hyp := Int.emod_add_mul_ediv y p
  have hx0 := Int.emod_nonneg x (show p ≠ 0 by omega)
  have hy0 := Int.emod_nonneg y (show p ≠ 0 by omega)
  have hy1 := Int.emod_lt_of_pos y hp
  have hd0 := Int.ediv_nonneg hx.1 (show 0 ≤ p by omega)
  have hd1 : x / p < q := Int.ediv_lt_of_lt_mul hp (by rw [Int.mul_comm, ← hq]; exact hx.2)
  rw [e1]
  generalize x % p = xl at *
  generalize x / p = xh at *
  generalize y % p = yl at *
  generalize y / p = yh at *
  have e2 : xh + y * q = (xh + yl * q) + 4294967296 * yh := by rw [hq, ← hyp]; grind
  have h3 : (yl + 1) * q ≤ p * q := Int.mul_le_mul_of_nonneg_right (by omega) (by omega)
  have h4 : 0 ≤ yl * q := Int.mul_nonneg hy0 (by omega)
  rw [Int.add_mul, Int.one_mul, ← hq] at h3
  rw [e2, Int.add_mul_emod_self_left, Int.emod_eq_of_lt (by omega) (by omega)]
  grind

theorem unshift_any (w : World) (v : Value) (xs : List Int) (s : Int) (hx : SlV w v xs) (bx : Lb xs) (hs0 : 0 ≤ s) (hs1 : s < 32) (lx : xs.length < 1099511627776) (hd : nv xs % 2 ^ s.toNat = 0) :
    Calls Try.prog 65 #[v, .int .u64 s] w fun e w' => RetN w' (nv xs / 2 ^ s.toNat) e ∧ Below w.heap.size w w' := by
  have HV := hid hx
  obtain ⟨A, cap, rfl, hcl, hx⟩ := hx
  have HX := hid hx
  have HBX := hid bx
  have HD := hid hd
  clear hx bx hd
  obtain ⟨n, rfl⟩ := Int.eq_ofNat_of_zero_le hs0
  rw [Int.toNat_natCast] at HD ⊢
  have hmin : min n 64 = n := by omega
  obtain ⟨p, hp⟩ : ∃ p : Int, p = 2 ^ n := ⟨_, rfl⟩
  have hp0 := pow_pos2 n
  have hp1 := pow_lt32 (show n < 32 by omega)
  obtain ⟨q, hq0, hq⟩ := pow_dvd (show n ≤ 32 by omega)
  rw [← hp] at hp0 hp1 hq HD ⊢
  have hpow : (2 : Int) ^ min n 64 = p := by rw [hmin, hp]
  have hpow2 : (2 : Int) ^ n = p := hp.symm
  have HQ := hid hq
  clear hp hq hmin
  have hmk := make_u32 xs.length (by omega)
  go_enter Try.func65, Try.ntmps65
  go_wp2
  clear hmk
  go_loopw [12] (fun i wr => ∃ (k : Nat) (os : List Int), i = .int .i64 k ∧ k ≤ xs.length ∧ Hid (os.length = xs.length) ∧ Hid (Own wr w.heap.size os) ∧ Hid (Lb os) ∧
      Hid (p * nv (os.take k) = nv (xs.take k) - lm xs 0 % p + bp k * (lm xs k % p)) ∧ Below w.heap.size w wr) (fun i _ => xs.length - (intOf i).toNat)
  case atStart => exact ⟨0, List.replicate xs.length 0, rfl, by omega, hid (by simp), hid (Own.made w xs.length), hid (Lb.replicate _), hid (by simp [nv_nil, bp_zero]; omega), (Below.refl _ _).alloc (Nat.le_refl _) _⟩
  case round =>
    obtain ⟨k, os, rfl, hk, hlen, hown, hlb, hval, hbel⟩ := hrel
    by_cases hlt : k < xs.length
    · have hcell := hown.out.cell (j := k) (by have := hlen.out; omega)
      have hfree := hown.out.free k
      have hbx := HBX.out.lm k
      have hby := HBX.out.lm (k + 1)
      obtain ⟨ab, ao, rfl, hcc⟩ := HX.out.at (by omega)
      have c1 := cell_below hbel (hcc k hlt)
      have hab : ab ≠ w.heap.size := Nat.ne_of_lt (lt_of_cell (hcc k hlt))
      clear hcc
      obtain ⟨d0, d1⟩ := shr_digit hp0 HQ.out hbx hby
      have hor := u64_or32' hbx.1 hbx.2 hby.1 hby.2
      obtain ⟨D, hD⟩ : ∃ D, D = (lm xs k + lm xs (k + 1) * 4294967296) / p := ⟨_, rfl⟩
      have hDD : (lm xs k + lm xs (k + 1) * 4294967296) / p = D := hD.symm
      rw [← hD] at d0 d1
      have HD0 := hid d0
      clear d0 hD
      have h2 := Int.emod_nonneg D (show (4294967296 : Int) ≠ 0 by decide)
      have h3 := Int.emod_lt_of_pos D (show (0 : Int) < 4294967296 by decide)
      have hw1 : IntKind.i64.wrap ((k : Int) + 1) = (k : Int) + 1 := by rw [IntKind.wrap_i64]; omega
      have hw2 : IntKind.u64.wrap (lm xs (k + 1) * 4294967296) = lm xs (k + 1) * 4294967296 := u64_in (by omega) (by omega)
      have hw3 : IntKind.u64.wrap (lm xs k) = lm xs k := u64_in hbx.1 (by omega)
      have hw4 : IntKind.u32.wrap D = D % 4294967296 := wrap_u32m D
      have ht1 : ((k : Int) + 1).toNat = k + 1 := by omega
      have hk0 : (0 : Int) ≤ k := by omega
      have hk1 : (k : Int) < (xs.length : Int) := by omega
      go_wp2_with fail
      go_region_held3 (fun w' => w'.cell? ⟨ab, ao + k, none⟩ = some (.int .u32 (lm xs k)) ∧ w'.cell? ⟨w.heap.size, k, none⟩ = some (cv w' ⟨w.heap.size, k, none⟩) ∧ w'.frozen? ⟨w.heap.size, k, none⟩ = false)
        (first
          | exact ⟨c1, cvx hcell, hfree⟩
          | (go_split_ands; exact ⟨by assumption, by assumption, by assumption⟩)
          | (go_split_ands; exact ⟨st1_far (by assumption) (fun e => hab (congrArg Addr.block e).symm), st1_cv (by assumption), st1_fr (by assumption)⟩))
        (first
          | (go_at_call 61; (with_reducible refine (limb_any _ _ xs _ ?g1 ?g2 HBX.out).mono ?_); (case g1 => exact (HV.out.below hbel.drew)); (case g2 => omega); rintro e w' ⟨rfl, rfl⟩; rw [ht1]))
      rename_i hH
      clear hH
      go_wp2
      go_roundw
      case measure => simp [intOf]; omega
      case rel =>
        have hl := hlen.out
        refine ⟨k + 1, os.set k (D % 4294967296), by go_num, by omega, hid (by rw [List.length_set]; exact hl), hid (hown.out.set _ _), hid (hlb.out.set _ h2 h3), hid ?_, hbel.drew.setCell (Nat.le_refl _) _⟩
        have e := hval.out
        have e2 := HD0.out
        rw [nv_take_set_succ (by omega), nv_take_succ, bp_succ]
        grind
    · have HK := hid (show k = xs.length by omega)
      go_wp2_with (go_at_call 60; (with_reducible refine (trim_any _ _ os (hown.out.slv hlen.out (by omega) (Nat.le_refl _))).mono ?_); rintro e w' ⟨⟨vt, rfl, ht⟩, rfl⟩)
      go_ret
      refine ⟨⟨tr os, RetSl.of (ht _ (hown.out.slv hlen.out (by omega) (Nat.le_refl _))), hlb.out.tr, Cn.tr _, ?_⟩, hbel⟩
      have e := hval.out
      have e0 := HD.out
      rw [HK.out, nv_take_all (by have := hlen.out; omega), nv_take_all (xs := xs) (Nat.le_refl _), lm_out (Nat.le_refl _)] at e
      have e1 : lm xs 0 % p = 0 := by
        cases xs with
        | nil => rfl
        | cons x xs =>
          rw [nv_cons, HQ.out, Int.mul_assoc, Int.add_mul_emod_self_left] at e0
          exact e0
      rw [e1] at e
      rw [nv_tr, show nv xs = p * nv os from by rw [e]; simp, Int.mul_ediv_cancel_left _ (by omega)]
end Go.Proofs.Ytdbgalohppfkfaa
