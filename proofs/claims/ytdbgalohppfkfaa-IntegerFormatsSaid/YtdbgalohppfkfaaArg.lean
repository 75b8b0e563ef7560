/- An argument of a law: too long, or read as limbs. -/
import Derived.Test.YtdbgalohppfkfaaArgI
import Derived.Test.YtdbgalohppfkfaaHelp
namespace Go.Proofs.Ytdbgalohppfkfaa
open Go.RowKit
set_option linter.unusedVariables false

theorem ArgI.parts {w : World} {v : Value} (h : ArgI w v) (k : Nat) (hk : k ≤ 1099511627776) :
    (∃ neg A n c, v = .agg #[.bool neg, .slice A n c] ∧ k < n) ∨
    (∃ neg A c xs, v = .agg #[.bool neg, .slice A xs.length c] ∧ xs.length ≤ k ∧ SlV w (.slice A xs.length c) xs ∧ Lb xs) := by
  obtain ⟨neg, A, n, c, rfl, hn, hx⟩ := h
  rcases Nat.lt_or_ge k n with h | h
  · exact .inl ⟨neg, A, n, c, rfl, h⟩
  · obtain ⟨xs, h1, h2, h3⟩ := hx (by omega)
    subst h1
    exact .inr ⟨neg, A, c, xs, rfl, h, h2, h3⟩
/-- An argument whose shape is known: too long, or a number. -/
theorem ArgI.short {w : World} {s : Bool} {A : Option Addr} {n c : Nat} (h : ArgI w (.agg #[.bool s, .slice A n c])) (k : Nat) (hk : k ≤ 1099511627776) :
    k < n ∨ (n ≤ k ∧ ∃ z, IntA w (.agg #[.bool s, .slice A n c]) z k) := by
  obtain ⟨neg, A', n', c', e, hn, hx⟩ := h
  simp only [Value.agg.injEq, Array.mk.injEq, List.cons.injEq, and_true, Value.bool.injEq, Value.slice.injEq] at e
  obtain ⟨rfl, rfl, rfl, rfl⟩ := e
  rcases Nat.lt_or_ge k n with h | h
  · exact .inl h
  · obtain ⟨xs, h1, h2, h3⟩ := hx (by omega)
    exact .inr ⟨h, _, _, _, xs, rfl, h2, h3, by omega, rfl⟩
end Go.Proofs.Ytdbgalohppfkfaa
