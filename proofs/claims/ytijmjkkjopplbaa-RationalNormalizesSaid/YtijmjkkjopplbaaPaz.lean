/- A part of the proof of the laws of rationals: TextR. -/
import Derived.Test.YtijmjkkjopplbaaPae
import Derived.Test.YtijmjkkjopplbaaPam
import Derived.Test.YtijmjkkjopplbaaPal
import Derived.Test.YtijmjkkjopplbaaPab
import Derived.Test.YtijmjkkjopplbaaPaf
import Derived.Test.YtijmjkkjopplbaaPad
import Derived.Test.YtijmjkkjopplbaaPac
import Derived.Test.YtijmjkkjopplbaaPav
import Derived.Test.YtijmjkkjopplbaaPay
import Derived.Test.YtijmjkkjopplbaaPao
import Derived.Test.YtijmjkkjopplbaaPat
import Derived.Test.YtijmjkkjopplbaaPaa
import Derived.Test.YtijmjkkjopplbaaPai
import Derived.Test.YtijmjkkjopplbaaPah
import Derived.Test.YtijmjkkjopplbaaPag
import Derived.Test.YtijmjkkjopplbaaPaj
import Derived.Test.YtijmjkkjopplbaaPax
import Derived.Test.YtijmjkkjopplbaaPap
import Derived.Test.YtijmjkkjopplbaaPas
import Derived.Test.YtijmjkkjopplbaaPau
import Derived.Test.YtijmjkkjopplbaaPar
import Derived.Test.YtijmjkkjopplbaaPaw
import Derived.Test.YtijmjkkjopplbaaPan
import Derived.Test.YtijmjkkjopplbaaPaq
import Derived.Test.YtijmjkkjopplbaaPak
namespace Go.Proofs.Ytijmjkkjopplbaa
open Go.RowKit
set_option linter.unusedVariables false
set_option maxRecDepth 100000

theorem cut_app (a b : List UInt8) (h : ∀ x ∈ a, x ≠ 47) : cutF ⟨(a ++ 47 :: b).toArray⟩ 47 = true ∧ cutB ⟨(a ++ 47 :: b).toArray⟩ 47 = ⟨a.toArray⟩ ∧ cutA ⟨(a ++ 47 :: b).toArray⟩ 47 = ⟨b.toArray⟩ := by
  have hi : cutI ⟨(a ++ 47 :: b).toArray⟩ 47 = a.length := indexByte_app a b 47 h
  have h0 : 0 ≤ cutI ⟨(a ++ 47 :: b).toArray⟩ 47 := by omega
  refine ⟨decide_eq_true h0, ?_, ?_⟩
  · unfold cutB
    rw [if_pos h0, hi, Lib.extract_eq]
    simp
  · unfold cutA
    rw [if_pos h0, hi, Lib.extract_eq]
    have e : ByteArray.size ⟨(a ++ 47 :: b).toArray⟩ = a.length + (b.length + 1) := by rw [size_list]; simp
    rw [e]
    congr 2
    show List.take _ (List.drop _ (a ++ 47 :: b)) = b
    rw [Int.toNat_natCast, ← List.drop_drop, List.drop_left]
    show List.take _ b = b
    exact List.take_of_length_le (by omega)
theorem text_no47 (z : Int) : ∀ x ∈ text z, x ≠ 47 := by
  intro x hx e
  subst e
  unfold text at hx
  split at hx
  · simp at hx
  · rw [List.mem_append] at hx
    rcases hx with hx | hx
    · split at hx <;> simp at hx
    · have := digs_all _ _ (List.mem_reverse.1 hx)
      have e47 : (47 : UInt8).toNat = 47 := rfl
      omega
theorem pc_text {n : Nat} {z : Int} (hz : Sm n z) (hn : n ≤ 190) : pc ⟨(text z).toArray⟩ = 0 ∧ pz ⟨(text z).toArray⟩ = z := by
  have h1 := digs_sm hz
  obtain ⟨t1, t2, t3, t4⟩ := text_num z
  have hp : pc ⟨(text z).toArray⟩ = 0 := by
    rcases pc_form ⟨(text z).toArray⟩ with ⟨h, _⟩ | ⟨_, h, _⟩ | ⟨_, _, h⟩
    · exact absurd t1 h
    · omega
    · exact h
  refine ⟨hp, ?_⟩
  unfold pz
  rw [if_pos hp, t2, t3]
theorem rE_frac {n : Nat} {a b : Int} (ha : Sm n a) (hb : Sm n b) (hn : n ≤ 190) (h0 : 0 ≤ b) :
    rE ⟨(text a ++ 47 :: text b).toArray⟩ = rcf 0 0 true false a b ∧ (rcf 0 0 true false a b = 0 → rP ⟨(text a ++ 47 :: text b).toArray⟩ = a ∧ rQ ⟨(text a ++ 47 :: text b).toArray⟩ = b) := by
  obtain ⟨c1, c2, c3⟩ := cut_app (text a) (text b) (text_no47 a)
  obtain ⟨p1, p2⟩ := pc_text ha hn
  obtain ⟨q1, q2⟩ := pc_text hb hn
  have hng : ngB ⟨(text b).toArray⟩ = false := by rw [(text_num b).2.1]; exact decide_eq_false (by omega)
  have e : rE ⟨(text a ++ 47 :: text b).toArray⟩ = rcf 0 0 true false a b := by unfold rE; rw [c1, c2, c3, p1, p2, q1, q2, hng]
  refine ⟨e, fun h => ?_⟩
  unfold rP rQ
  rw [e, if_pos h, if_pos h, c1, c2, c3, p2, q2, if_pos rfl]
  exact ⟨rfl, rfl⟩
theorem ratT_frac {x : Rat} (h : x.den ≠ 1) : ratT x = ⟨(text x.num ++ 47 :: text (x.den : Int)).toArray⟩ := by
  unfold ratT
  rw [if_neg h]
  apply ByteArray.ext
  rw [ByteArray.data_append, ByteArray.data_append]
  simp
theorem digs_one {d : Nat} (h : 0 < d) (h2 : d < 10) : digs d = [dg d] := by
  rw [digs_pos h, show d / 10 = 0 by omega, digs_zero, show d % 10 = d by omega]
theorem text_m3 : text (-3) = [45, 51] := by
  unfold text
  rw [show (-3 : Int).natAbs = 3 from rfl, digs_one (by decide) (by decide)]; rfl
theorem text_m2 : text (-2) = [45, 50] := by
  unfold text
  rw [show (-2 : Int).natAbs = 2 from rfl, digs_one (by decide) (by decide)]; rfl
theorem text_3 : text 3 = [51] := by
  unfold text
  rw [show (3 : Int).natAbs = 3 from rfl, digs_one (by decide) (by decide)]; rfl
theorem text_4 : text 4 = [52] := by
  unfold text
  rw [show (4 : Int).natAbs = 4 from rfl, digs_one (by decide) (by decide)]; rfl
theorem text_6 : text 6 = [54] := by
  unfold text
  rw [show (6 : Int).natAbs = 6 from rfl, digs_one (by decide) (by decide)]; rfl
theorem sm9 {z : Int} (h0 : -10 < z) (h1 : z < 10) : Sm 1 z := Sm.one (by omega) (by omega)
theorem aw1 : rE (ByteArray.mk #[45, 51, 47, 52]) = 0 ∧ rP (ByteArray.mk #[45, 51, 47, 52]) = -3 ∧ rQ (ByteArray.mk #[45, 51, 47, 52]) = 4 := by
  have e : ByteArray.mk #[45, 51, 47, 52] = ⟨(text (-3) ++ 47 :: text 4).toArray⟩ := by rw [text_m3, text_4]; rfl
  obtain ⟨h1, h2⟩ := rE_frac (n := 1) (a := -3) (b := 4) (sm9 (by decide) (by decide)) (sm9 (by decide) (by decide)) (by decide) (by decide)
  rw [e, h1]
  have h3 : rcf 0 0 true false (-3) 4 = 0 := by decide
  exact ⟨h3, h2 h3⟩
theorem aw2 : rE (ByteArray.mk #[54, 47, 52]) = 1 ∧ rP (ByteArray.mk #[54, 47, 52]) = 0 ∧ rQ (ByteArray.mk #[54, 47, 52]) = 0 := by
  have e : ByteArray.mk #[54, 47, 52] = ⟨(text 6 ++ 47 :: text 4).toArray⟩ := by rw [text_6, text_4]; rfl
  obtain ⟨h1, h2⟩ := rE_frac (n := 1) (a := 6) (b := 4) (sm9 (by decide) (by decide)) (sm9 (by decide) (by decide)) (by decide) (by decide)
  have h3 : rE (ByteArray.mk #[54, 47, 52]) = 1 := by rw [e, h1]; decide
  refine ⟨h3, ?_, ?_⟩
  · unfold rP; rw [h3, if_neg (by decide)]
  · unfold rQ; rw [h3, if_neg (by decide)]
theorem aw3n : (Rat.divInt 4 (-6)).num = -2 := by rw [← Rat.neg_divInt_neg, rat_num (by decide)]; decide
theorem aw3d : (Rat.divInt 4 (-6)).den = 3 := by
  have h : ((Rat.divInt 4 (-6)).den : Int) = 3 := by rw [← Rat.neg_divInt_neg, rat_den (by decide)]; decide
  omega
theorem aw3 : ratT (Rat.divInt 4 (-6)) = ByteArray.mk #[45, 50, 47, 51] := by
  rw [ratT_frac (by rw [aw3d]; decide), aw3n, aw3d, show ((3 : Nat) : Int) = 3 from rfl, text_m2, text_3]; rfl
theorem aw4 : (Rat.divInt (-7) 2).floor = -4 := by rw [rat_floor (by decide)]; decide
theorem aw5 : (Rat.divInt (-7) 2 + half).floor = -3 := by
  unfold half
  rw [← add_divInt (by decide) (by decide), rat_floor (by decide)]; decide
end Go.Proofs.Ytijmjkkjopplbaa

