/- Parse reads the text of a number. -/
import Derived.Test.YtnjekacagffelaaParse
import Derived.Test.YtnjekacagffelaaNumText
namespace Go.Proofs.Ytnjekacagffelaa
open Go.RowKit
set_option linter.unusedVariables false

theorem text_len (z : Int) : (text z).length ≤ (digs z.natAbs).length + 1 := by
  unfold text
  split
  · simp
  · rw [List.length_append, List.length_reverse]
    split <;> simp
    omega
theorem digs_sm {z : Int} {n : Nat} (h : Sm n z) : (digs z.natAbs).length ≤ 10 * n := by
  have h1 := digs_len_bp (z := (z.natAbs : Int)) (n := n) (by omega) (by have := h.1; have := h.2; omega)
  rwa [Int.toNat_natCast] at h1
theorem parse_text (w : World) (s : ByteArray) (z : Int) (n : Nat) (hs : s = ⟨(text z).toArray⟩) (hz : Sm n z) (hn : n ≤ 190) :
    Calls Try.prog 30 #[.string s] w fun e w' => (∃ v, e = .returned (.tuple #[v, .int .i64 0]) ∧ IntV w' v z) ∧ Below w.heap.size w w' := by
  have h1 := digs_sm hz
  have h2 := text_len z
  obtain ⟨t1, t2, t3, t4⟩ := text_num z
  rw [← hs] at t1 t2 t3 t4
  refine (parse_any w s (by rw [hs, size_list]; omega)).mono ?_
  rintro e w' ⟨hp, hb⟩
  refine ⟨?_, hb⟩
  rcases hp with ⟨h, _⟩ | ⟨_, h, _⟩ | ⟨_, _, v, rfl, hv⟩
  · exact absurd t1 h
  · omega
  · exact ⟨v, rfl, by rw [t2, t3] at hv; exact hv⟩
end Go.Proofs.Ytnjekacagffelaa
