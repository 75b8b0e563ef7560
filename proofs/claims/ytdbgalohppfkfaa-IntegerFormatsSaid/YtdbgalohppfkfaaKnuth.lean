/- Plain facts on a long division's estimated digit. No program in sight. -/
import Derived.Test.YtdbgalohppfkfaaPure
namespace Go.Proofs.Ytdbgalohppfkfaa

/-- The limbs from off on, m of them. -/
def win (os : List Int) (off m : Nat) : List Int := (os.drop off).take m
theorem win_length {os : List Int} {off m : Nat} (h : off + m ≤ os.length) : (win os off m).length = m := by unfold win; rw [List.length_take, List.length_drop]; omega
theorem win_lm {os : List Int} {off m k : Nat} (hk : k < m) : lm (win os off m) k = lm os (off + k) := by unfold win; rw [lm_take hk, lm_drop]
theorem win_set {os : List Int} {off m k : Nat} (y : Int) : win (os.set (off + k) y) off m = (win os off m).set k y := by
  unfold win
  rw [List.drop_set, if_neg (by omega), List.take_set, show off + k - off = k from by omega]
theorem Lb.win {os : List Int} (h : Lb os) (off m : Nat) : Lb (win os off m) := (h.drop off).take m

/-- The quotient, by its two bounds. -/
theorem div_of_bounds {U V Q : Int} (h0 : Q * V ≤ U) (h1 : U < (Q + 1) * V) : U / V = Q ∧ U % V = U - Q * V := by
  have e : U = Q * V + (U - Q * V) := by omega
  rw [Int.add_mul, Int.one_mul] at h1
  obtain ⟨a, b⟩ := div_mod_unique e (by omega) (by omega)
  exact ⟨a.symm, b.symm⟩
theorem div_bounds {U V : Int} (hV : 0 < V) : U / V * V ≤ U ∧ U < (U / V + 1) * V := by
  have e := Int.emod_add_mul_ediv U V
  have h0 := Int.emod_nonneg U (show V ≠ 0 by omega)
  have h1 := Int.emod_lt_of_pos U hV
  rw [Int.mul_comm] at e
  rw [Int.add_mul, Int.one_mul]
  omega

/-- What the three greatest limbs of the dividend and the two of the divisor tell of a digit q that is not too great. -/
theorem knuth_test {U V q W T P vl ul : Int} (hP : 0 < P) (hV : V = W * P + vl) (hU : U = T * P + ul) (hvl : 0 ≤ vl) (hul : ul < P) (hq : 0 ≤ q) (h : q * V ≤ U) : q * W ≤ T := by
  have h1 : 0 ≤ q * vl := Int.mul_nonneg hq hvl
  rcases (show T < q * W ∨ q * W ≤ T by omega) with hc | hc
  · have h2 := Int.mul_le_mul_of_nonneg_right (show T + 1 ≤ q * W by omega) (Int.le_of_lt hP)
    rw [Int.add_mul, Int.one_mul] at h2
    rw [hV, Int.mul_add, ← Int.mul_assoc] at h
    omega
  · exact hc
theorem knuth_top {q v1 v0 top u0 : Int} (hv0 : 0 ≤ v0) (hu0 : u0 < 4294967296) (hq : 0 ≤ q) (h : q * (v1 * 4294967296 + v0) ≤ top * 4294967296 + u0) : q * v1 ≤ top := by
  have h1 : 0 ≤ q * v0 := Int.mul_nonneg hq hv0
  rw [Int.mul_add, ← Int.mul_assoc] at h
  omega
/-- A digit that passes the test is at most one too great. -/
theorem knuth_exit {U V q W T P vl ul : Int} (hP : 0 < P) (hV : V = W * P + vl) (hU : U = T * P + ul) (hvl : vl < P) (hul : 0 ≤ ul) (hq : 1 ≤ q) (hqW : q ≤ W + 1) (h : q * W ≤ T) : (q - 1) * V ≤ U := by
  have h1 : (q - 1) * (W * P + vl) ≤ (q - 1) * (W * P + P) := Int.mul_le_mul_of_nonneg_left (by omega) (by omega)
  have h2 : ((q - 1) * (W + 1)) * P ≤ T * P := by
    refine Int.mul_le_mul_of_nonneg_right ?_ (Int.le_of_lt hP)
    have e : (q - 1) * (W + 1) = q * W + q - W - 1 := by grind
    omega
  have e : (q - 1) * (W * P + P) = ((q - 1) * (W + 1)) * P := by grind
  rw [hV, hU]
  omega
/-- The loop's test says that the digit is too great. -/
theorem knuth_down {U V q W T P vl ul v1 v0 top u0 rest : Int} (hP : 0 < P) (hV : V = W * P + vl) (hU : U = T * P + ul) (hvl : 0 ≤ vl) (hul : ul < P) (hVp : 0 < V) (hq : U / V ≤ q) (hq0 : 0 ≤ q)
    (hW : W = v1 * 4294967296 + v0) (hT : T = top * 4294967296 + u0) (hr : rest = top - q * v1) (h : rest * 4294967296 + u0 < q * v0) : U / V ≤ q - 1 := by
  rcases (show U / V < q ∨ q ≤ U / V by omega) with hc | hc
  · omega
  · obtain ⟨b0, b1⟩ := div_bounds (U := U) hVp
    have e : U / V = q := by omega
    rw [e] at b0
    have h1 := knuth_test hP hV hU hvl hul hq0 b0
    rw [hW, hT] at h1
    have e2 : q * (v1 * 4294967296 + v0) = q * v1 * 4294967296 + q * v0 := by grind
    rw [hr, Int.sub_mul] at h
    omega
/-- The loop is left with a digit that passes the test. -/
theorem knuth_left {q W T v1 v0 top u0 rest : Int} (hq0 : 0 ≤ q) (hq1 : q < 4294967296) (hv0 : 0 ≤ v0) (hv1 : v0 < 4294967296) (hu0 : 0 ≤ u0)
    (hW : W = v1 * 4294967296 + v0) (hT : T = top * 4294967296 + u0) (hr : rest = top - q * v1) (h : 4294967296 ≤ rest ∨ q * v0 ≤ rest * 4294967296 + u0) : q * W ≤ T := by
  have e2 : q * (v1 * 4294967296 + v0) = q * v1 * 4294967296 + q * v0 := by grind
  have h3 : q * v0 ≤ 4294967295 * 4294967295 := Int.mul_le_mul (by omega) (by omega) hv0 (by decide)
  rw [hW, hT, e2]
  rcases h with h | h
  · rw [hr] at h
    omega
  · rw [hr, Int.sub_mul] at h
    omega
/-- One place of the subtraction of q times the divisor. -/
theorem ksub_step {a b c d x y q p k s l r t : Int} (h : a = b - q * c + p * (k + d)) (hs : k + q * y = s) (hl : s % 4294967296 = l) (hd : x - l - d = r - 4294967296 * t) :
    a + p * r = (b + p * x) - q * (c + p * y) + 4294967296 * p * (s / 4294967296 + t) := by
  have e := Int.emod_add_mul_ediv s 4294967296
  rw [hl] at e
  generalize s / 4294967296 = z at *
  grind

/-- The divisor by its two greatest limbs, the dividend by its three greatest ones. -/
theorem knuth_parts {os vs : List Int} {off m : Nat} (hlb : Lb os) (hlv : Lb vs) (hoff : off + (m + 3) ≤ os.length) (hvl : m + 2 ≤ vs.length) : ∃ vl ul, nv (vs.take (m + 2)) = (lm vs (m + 1) * 4294967296 + lm vs m) * bp m + vl ∧ 0 ≤ vl ∧ vl < bp m ∧
    nv (win os off (m + 3)) = ((lm os (off + (m + 1)) + lm os (off + (m + 2)) * 4294967296) * 4294967296 + lm os (off + m)) * bp m + ul ∧ 0 ≤ ul ∧ ul < bp m := by
  refine ⟨nv (vs.take m), nv ((os.drop off).take m), ?_, nv_nonneg (hlv.take m), ?_, ?_, nv_nonneg ((hlb.drop off).take m), ?_⟩
  · rw [nv_take_succ, nv_take_succ, bp_succ]; grind
  · have := nv_lt (hlv.take m)
    rwa [List.length_take, Nat.min_eq_left (by omega)] at this
  · unfold win
    rw [nv_take_succ, nv_take_succ, nv_take_succ, lm_drop, lm_drop, lm_drop]; simp only [bp_succ]; grind
  · have := nv_lt ((hlb.drop off).take m)
    rwa [List.length_take, List.length_drop, Nat.min_eq_left (by omega)] at this
/-- The first estimate is not too small, and its rest is small. -/
theorem knuth_start {U V W T P vl ul v1 v0 top u0 u2 u1 q0 : Int} (hP : 0 < P) (hV : V = W * P + vl) (hU : U = T * P + ul) (hvl : 0 ≤ vl ∧ vl < P) (hul : 0 ≤ ul ∧ ul < P) (hW : W = v1 * 4294967296 + v0) (hT : T = top * 4294967296 + u0)
    (htop : top = u1 + u2 * 4294967296) (hv1 : 2147483648 ≤ v1 ∧ v1 < 4294967296) (hv0 : 0 ≤ v0 ∧ v0 < 4294967296) (hu0 : 0 ≤ u0 ∧ u0 < 4294967296) (hu1 : 0 ≤ u1 ∧ u1 < 4294967296) (hu2 : 0 ≤ u2)
    (hlt : U < V * 4294967296) (hq : q0 = min (top / v1) 4294967295) : 0 < V ∧ U / V ≤ q0 ∧ top - q0 * v1 < 8589934592 := by
  have hW1 : 1 ≤ W := by omega
  have hWP := Int.mul_le_mul_of_nonneg_right hW1 (Int.le_of_lt hP)
  have hVp : 0 < V := by omega
  obtain ⟨b0, b1⟩ := div_bounds (U := U) hVp
  have hT0 : 0 ≤ T := by omega
  have hTP : 0 ≤ T * P := Int.mul_nonneg hT0 (Int.le_of_lt hP)
  have hQ0 : 0 ≤ U / V := Int.ediv_nonneg (by omega) (by omega)
  have h1 := knuth_test hP hV hU hvl.1 hul.2 hQ0 b0
  rw [hW, hT] at h1
  have h2 := knuth_top hv0.1 hu0.2 hQ0 h1
  have h3 : U / V ≤ top / v1 := Int.le_ediv_of_mul_le (by omega) h2
  have h4 : U / V < 4294967296 := Int.ediv_lt_of_lt_mul hVp (by rw [Int.mul_comm]; exact hlt)
  refine ⟨hVp, by omega, ?_⟩
  -- the greatest limb of the dividend is at most that of the divisor
  have h5 : u2 ≤ v1 := by
    rcases (show u2 ≤ v1 ∨ v1 + 1 ≤ u2 by omega) with h | h
    · exact h
    · have e1 : (v1 + 1) * 4294967296 * 4294967296 ≤ T := by omega
      have e2 := Int.mul_le_mul_of_nonneg_right e1 (Int.le_of_lt hP)
      have e3 : V * 4294967296 < (v1 + 1) * 4294967296 * 4294967296 * P := by
        have e4 : W + 1 ≤ (v1 + 1) * 4294967296 := by omega
        have e5 := Int.mul_le_mul_of_nonneg_right e4 (Int.le_of_lt hP)
        rw [Int.add_mul, Int.one_mul] at e5
        have e6 : (v1 + 1) * 4294967296 * 4294967296 * P = ((v1 + 1) * 4294967296 * P) * 4294967296 := by grind
        omega
      omega
  have hm := Int.emod_add_mul_ediv top v1
  have hm1 := Int.emod_lt_of_pos top (show 0 < v1 by omega)
  rcases (show q0 = top / v1 ∨ q0 = 4294967295 by omega) with h | h
  · rw [h, Int.mul_comm]; omega
  · rw [h]; omega

theorem nv_win_zero (os : List Int) (off : Nat) : nv (win os off 0) = 0 := by unfold win; simp [nv_nil]
theorem nv_win_succ (os : List Int) (off k : Nat) : nv (win os off (k + 1)) = nv (win os off k) + bp k * lm os (off + k) := by unfold win; rw [nv_take_succ, lm_drop]
theorem win_set_low {os : List Int} {off k : Nat} (y : Int) : win (os.set (off + k) y) off k = win os off k := by
  rw [win_set]; exact List.set_eq_of_length_le (by unfold win; rw [List.length_take]; omega)
theorem nv_win_set {os : List Int} {off k : Nat} (h : off + k < os.length) (y : Int) : nv (win (os.set (off + k) y) off (k + 1)) = nv (win os off k) + bp k * y := by
  rw [nv_win_succ, lm_set_same _ h, win_set_low]
theorem nv_win_lt {os : List Int} (h : Lb os) (off k : Nat) : 0 ≤ nv (win os off k) ∧ nv (win os off k) < bp k := by
  refine ⟨nv_nonneg (h.win _ _), ?_⟩
  have h1 := nv_lt (h.win off k)
  have h2 : (win os off k).length ≤ k := by unfold win; rw [List.length_take]; omega
  have := bp_mono h2
  omega
/-- The digit that the test leaves is at most one too great. -/
theorem knuth_over {U V q W T P vl ul v1 v0 : Int} (hP : 0 < P) (hV : V = W * P + vl) (hU : U = T * P + ul) (hvl : vl < P) (hul : 0 ≤ ul) (hVp : 0 < V) (hq0 : 0 ≤ q) (hq1 : q ≤ 4294967295)
    (hv1 : 2147483648 ≤ v1) (hv0 : 0 ≤ v0) (hW : W = v1 * 4294967296 + v0) (h : q * W ≤ T) : (q - 1) * V ≤ U := by
  rcases (show q = 0 ∨ 1 ≤ q by omega) with e | e
  · subst e
    have hT : 0 ≤ T := by omega
    have := Int.mul_nonneg hT (Int.le_of_lt hP)
    omega
  · exact knuth_exit hP hV hU hvl hul e (by omega) h

/-- Limbs of a number below the power of n places: what stands behind n places is 0. -/
theorem nv_take_of_lt {xs : List Int} (h : Lb xs) {n : Nat} (hn : nv xs < bp n) : nv (xs.take n) = nv xs := by
  rcases Nat.lt_or_ge n xs.length with hl | hl
  · have e := nv_split xs n (Nat.le_of_lt hl)
    have h1 := nv_nonneg (h.take n)
    have h2 := nv_nonneg (h.drop n)
    have h3 := bp_pos n
    rcases (show nv (xs.drop n) = 0 ∨ 1 ≤ nv (xs.drop n) by omega) with h0 | h0
    · rw [e, h0]; omega
    · have := Int.mul_le_mul_of_nonneg_left h0 (Int.le_of_lt h3)
      omega
  · rw [List.take_of_length_le hl]
/-- The divisor, shifted so that its highest bit is set. -/
theorem norm_divisor {ys vs : List Int} {m s : Nat} (hb : Lb ys) (hl : ys.length = m + 2) (hvb : Lb vs) (hvl : vs.length = m + 2 + 1) (hv : nv vs = nv ys * 2 ^ s)
    (h1 : 2147483648 ≤ lm ys (m + 1) * 2 ^ s) (h2 : lm ys (m + 1) * 2 ^ s < 4294967296) (hs : s < 32) :
    nv (vs.take (m + 2)) = nv vs ∧ 2147483648 ≤ lm vs (m + 1) ∧ bp (m + 1) * 2 ^ s ≤ nv vs ∧ nv vs < bp (m + 2) := by
  have hp := pow_pos2 s
  obtain ⟨q, hq0, hq⟩ := pow_dvd (show s ≤ 32 by omega)
  generalize (2 : Int) ^ s = p at *
  have ey := nv_take_succ ys (m + 1)
  rw [show m + 1 + 1 = m + 2 from rfl, List.take_of_length_le (by omega)] at ey
  have hy0 := nv_nonneg (hb.take (m + 1))
  have hy1 := nv_lt (hb.take (m + 1))
  rw [List.length_take, Nat.min_eq_left (by omega)] at hy1
  have hbp := bp_pos (m + 1)
  have htop : lm ys (m + 1) + 1 ≤ q := by
    rcases (show lm ys (m + 1) + 1 ≤ q ∨ q ≤ lm ys (m + 1) by omega) with h | h
    · exact h
    · have := Int.mul_le_mul_of_nonneg_right h (Int.le_of_lt hp)
      rw [Int.mul_comm q p, ← hq] at this
      omega
  have hytop : 1 ≤ lm ys (m + 1) := by
    rcases (show lm ys (m + 1) ≤ 0 ∨ 1 ≤ lm ys (m + 1) by omega) with h | h
    · have := Int.mul_nonpos_of_nonpos_of_nonneg h (Int.le_of_lt hp); omega
    · exact h
  have e1 : nv ys * p = nv (ys.take (m + 1)) * p + bp (m + 1) * (lm ys (m + 1) * p) := by rw [ey]; grind
  have e2 : nv (ys.take (m + 1)) * p < bp (m + 1) * p := Int.mul_lt_mul_of_pos_right hy1 hp
  have e3 : 0 ≤ nv (ys.take (m + 1)) * p := Int.mul_nonneg hy0 (Int.le_of_lt hp)
  have e4 : bp (m + 1) * p + bp (m + 1) * (lm ys (m + 1) * p) ≤ bp (m + 2) := by
    have : (lm ys (m + 1) + 1) * p ≤ q * p := Int.mul_le_mul_of_nonneg_right htop (Int.le_of_lt hp)
    have h5 := Int.mul_le_mul_of_nonneg_left this (Int.le_of_lt hbp)
    rw [Int.mul_comm q p, ← hq, Int.add_mul, Int.one_mul, Int.mul_add] at h5
    have e8 : bp (m + 2) = 4294967296 * bp (m + 1) := bp_succ (m + 1)
    rw [Int.mul_comm (bp (m + 1)) 4294967296] at h5
    omega
  have hlt : nv vs < bp (m + 2) := by omega
  have e5 := Int.mul_le_mul_of_nonneg_left h1 (Int.le_of_lt hbp)
  have e6 : bp (m + 1) * p ≤ nv vs := by
    have : 1 * p ≤ lm ys (m + 1) * p := Int.mul_le_mul_of_nonneg_right hytop (Int.le_of_lt hp)
    have h7 := Int.mul_le_mul_of_nonneg_left this (Int.le_of_lt hbp)
    rw [Int.one_mul] at h7
    omega
  refine ⟨nv_take_of_lt hvb hlt, ?_, e6, hlt⟩
  have ev := nv_take_succ vs (m + 1)
  rw [show m + 1 + 1 = m + 2 from rfl, nv_take_of_lt hvb hlt] at ev
  have hv1 := nv_lt (hvb.take (m + 1))
  rw [List.length_take, Nat.min_eq_left (by omega)] at hv1
  rcases (show 2147483648 ≤ lm vs (m + 1) ∨ lm vs (m + 1) + 1 ≤ 2147483648 by omega) with h | h
  · exact h
  · have := Int.mul_le_mul_of_nonneg_left h (Int.le_of_lt hbp)
    rw [Int.mul_add, Int.mul_one] at this
    omega
/-- The dividend, shifted by the same: its head is less than the divisor. -/
theorem norm_dividend {xs us : List Int} {m t : Nat} {p V : Int} (hb : Lb xs) (hl : xs.length = t + (m + 2)) (hub : Lb us) (hul : us.length = t + (m + 2) + 1) (hu : nv us = nv xs * p) (hp : 0 < p) (hV : bp (m + 1) * p ≤ V) : nv (us.drop (t + 1)) < V := by
  have e := nv_split us (t + 1) (by omega)
  have h1 := nv_nonneg (hub.take (t + 1))
  have h2 := nv_lt hb
  have h3 := Int.mul_lt_mul_of_pos_right h2 hp
  rw [hl, show t + (m + 2) = (t + 1) + (m + 1) from by omega, bp_add, Int.mul_assoc] at h3
  have hbp := bp_pos (t + 1)
  rcases (show nv (us.drop (t + 1)) < bp (m + 1) * p ∨ bp (m + 1) * p ≤ nv (us.drop (t + 1)) by omega) with h | h
  · omega
  · have := Int.mul_le_mul_of_nonneg_left h (Int.le_of_lt hbp)
    omega

/-- A row by a window: what stands ahead of it, the window, what stands behind. -/
theorem nv_window (os : List Int) (i n : Nat) (h : i + n ≤ os.length) : nv os = nv (os.take i) + bp i * (nv (win os i n) + bp n * nv (os.drop (i + n))) := by
  have e1 := nv_split os i (by omega)
  have e2 := nv_split (os.drop i) n (by rw [List.length_drop]; omega)
  rw [List.drop_drop] at e2
  rw [e1, e2]; rfl
theorem long_before {os : List Int} {i m : Nat} {V : Int} (hb : Lb os) (hl : i + (m + 3) ≤ os.length) (hV : V ≤ bp (m + 2)) (hhead : nv (os.drop (i + 1)) < V) :
    nv (win os i (m + 3)) < V * 4294967296 ∧ nv (os.drop (i + (m + 3))) = 0 := by
  have h1 := nv_take_of_lt (hb.drop (i + 1)) (show nv (os.drop (i + 1)) < bp (m + 2) by omega)
  have e1 : nv (win os i (m + 3)) = lm os i + 4294967296 * nv ((os.drop (i + 1)).take (m + 2)) := by
    unfold win
    rw [List.drop_eq_getElem_cons (show i < os.length by omega), List.take_succ_cons, nv_cons, lm_getElem (show i < os.length by omega)]
  have h2 := hb.lm i
  refine ⟨by rw [e1, h1]; omega, ?_⟩
  have e2 := nv_split (os.drop (i + 1)) (m + 2) (by rw [List.length_drop]; omega)
  rw [List.drop_drop, show i + 1 + (m + 2) = i + (m + 3) from by omega, h1] at e2
  have h3 := bp_pos (m + 2)
  have h4 := nv_nonneg (hb.drop (i + (m + 3)))
  rcases (show nv (os.drop (i + (m + 3))) = 0 ∨ 1 ≤ nv (os.drop (i + (m + 3))) by omega) with h | h
  · exact h
  · have := Int.mul_le_mul_of_nonneg_left h (Int.le_of_lt h3)
    omega
theorem long_after {os os' qs : List Int} {i m : Nat} {V U0 : Int} (hVp : 0 < V) (hl : i + (m + 3) ≤ os.length) (hl' : os'.length = os.length) (hz : nv (os.drop (i + (m + 3))) = 0)
    (hsame : ∀ j, j < i ∨ i + (m + 3) ≤ j → lm os' j = lm os j) (hwin : nv (win os' i (m + 3)) = nv (win os i (m + 3)) % V) (hq : i < qs.length)
    (hval : nv os + V * (bp (i + 1) * nv (qs.drop (i + 1))) = U0) :
    nv os' + V * (bp i * nv ((qs.set i (nv (win os i (m + 3)) / V)).drop i)) = U0 ∧ nv (os'.drop i) < V := by
  have e0 : os'.take i = os.take i := ext_lm (by simp; omega) fun j hj => by
    rw [List.length_take] at hj
    rw [lm_take (by omega), lm_take (by omega)]; exact hsame j (by omega)
  have e1 : os'.drop (i + (m + 3)) = os.drop (i + (m + 3)) := ext_lm (by simp; omega) fun j _ => by
    rw [lm_drop, lm_drop]; exact hsame _ (by omega)
  have w0 := nv_window os i (m + 3) hl
  have w1 := nv_window os' i (m + 3) (by omega)
  rw [hz, Int.mul_zero, Int.add_zero] at w0
  rw [e0, e1, hz, Int.mul_zero, Int.add_zero, hwin] at w1
  have em := Int.emod_add_mul_ediv (nv (win os i (m + 3))) V
  have hm1 := Int.emod_lt_of_pos (nv (win os i (m + 3))) hVp
  constructor
  · rw [nv_drop_set hq, ← hval, w0, w1, bp_succ]
    generalize nv (win os i (m + 3)) % V = r at *
    generalize nv (win os i (m + 3)) / V = q at *
    grind
  · have e2 := nv_split (os'.drop i) (m + 3) (by rw [List.length_drop]; omega)
    rw [List.drop_drop, e1, hz, Int.mul_zero, Int.add_zero] at e2
    rw [e2]
    show nv (win os' i (m + 3)) < V
    rw [hwin]; exact hm1
/-- The division of the multiples. -/
theorem div_scaled {a b p q r : Int} (hp : 0 < p) (hr0 : 0 ≤ r) (hr : r < b * p) (h : r + b * p * q = a * p) : q = a / b ∧ r = a % b * p := by
  have h1 : r = p * (a - b * q) := by grind
  have h2 : 0 ≤ a - b * q := by
    rcases (show 0 ≤ a - b * q ∨ a - b * q ≤ -1 by omega) with h | h
    · exact h
    · have := Int.mul_le_mul_of_nonneg_left h (Int.le_of_lt hp); omega
  have h3 : a - b * q < b := by
    rcases (show a - b * q < b ∨ b ≤ a - b * q by omega) with h | h
    · exact h
    · have := Int.mul_le_mul_of_nonneg_left h (Int.le_of_lt hp)
      rw [Int.mul_comm p b] at this
      omega
  obtain ⟨e1, e2⟩ := div_mod_unique (show a = q * b + (a - b * q) by grind) h2 h3
  exact ⟨e1, by rw [h1, e2, Int.mul_comm]⟩
end Go.Proofs.Ytdbgalohppfkfaa
