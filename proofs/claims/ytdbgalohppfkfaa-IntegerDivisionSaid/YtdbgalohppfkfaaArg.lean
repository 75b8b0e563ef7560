/- An argument of a law: too long, or read as limbs. -/
import Derived.Test.YtdbgalohppfkfaaArgI
import Derived.Test.YtdbgalohppfkfaaHelp
namespace Go.Proofs.Ytdbgalohppfkfaa
open Go.RowKit
set_option linter.unusedVariables false

theorem ArgI.parts {w : World} {v : Value} (h : ArgI w v) (k : Nat) (hk : k ≤ 1099511627776) :
    (∃ neg A n c, v = .agg #[.bool neg, .slice A n c] ∧ k < n) ∨
    (∃ neg A c xs, v = .agg #[.bool neg, .slice A xs.length c] ∧ xs.length ≤ k ∧ SlV w (.slice A xs.length c) xs ∧ Lb xs) := by
  obtain ⟨neg, A, n, c, rfl, hn, hx⟩ := h
  rcases Nat.lt_or_ge k n with h | h
  · exact .inl ⟨neg, A, n, c, rfl, h⟩
  · obtain ⟨xs, h1, h2, h3⟩ := hx (by omega)
    subst h1
    exact .inr ⟨neg, A, c, xs, rfl, h, h2, h3⟩
end Go.Proofs.Ytdbgalohppfkfaa
