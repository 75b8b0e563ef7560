/- A part of the proof of the laws of rationals: RawR. -/
import Derived.Test.YtijmjkkjopplbaaPam
import Derived.Test.YtijmjkkjopplbaaPal
import Derived.Test.YtijmjkkjopplbaaPab
import Derived.Test.YtijmjkkjopplbaaPad
import Derived.Test.YtijmjkkjopplbaaPkRationalNormalizesb
import Derived.Test.YtijmjkkjopplbaaPac
import Derived.Test.YtijmjkkjopplbaaPkRationalNormalizesa
import Derived.Test.YtijmjkkjopplbaaPaa
import Derived.Test.YtijmjkkjopplbaaPag
import Derived.Test.YtijmjkkjopplbaaPan
import Derived.Test.YtijmjkkjopplbaaPkRationalNormalizesc
import Derived.Test.YtijmjkkjopplbaaPak
namespace Go.Proofs.Ytijmjkkjopplbaa
open Go.RowKit
set_option linter.unusedVariables false
set_option maxRecDepth 100000

theorem IntR.a {w : World} {v : Value} {neg : Bool} {xs : List Int} {n : Nat} (h : IntR w v neg xs) (hl : Lb xs) (hn : xs.length ≤ n) : IntA w v (sg neg (nv xs)) n := let ⟨A, c, h1, h2⟩ := h; ⟨neg, _, xs, h1, h2, hl, hn, rfl⟩
section
variable {o : Oper} {ρ : Operand → Value} {w : World}
theorem ex_fieldAddrI {x : Operand} {g j : Nat} (k : Nat) (hk : k = 0 ∨ k = 1) (ho : o.op = .fieldAddr 24 x k) (hx : ρ x = .pointer (some ⟨g, j, none⟩)) : (execOp ρ o).run Try.prog w = .ok (.value (.pointer (some ⟨g, j + k, none⟩))) w := by
  rcases hk with rfl | rfl <;>
  · simp only [execOp, ho, hx]
    go_simp
theorem ex_load_b {x : Operand} {g k : Nat} {T : TypeId} {cs : Array Value} {q : Bool} (ho : o.op = .load 4 x) (hx : ρ x = .pointer (some ⟨g, k, none⟩)) (hb : Blk w g T cs) (hc : cs[k]? = some (.bool q)) : (execOp ρ o).run Try.prog w = .ok (.value (.bool q)) w := by
  have c0 := hb.cell k
  rw [hc] at c0
  simp only [execOp, ho, hx]
  go_simp
theorem ex_load_s {x : Operand} {g k : Nat} {T : TypeId} {cs : Array Value} {A : Option Addr} {n c : Nat} (ho : o.op = .load 22 x) (hx : ρ x = .pointer (some ⟨g, k, none⟩)) (hb : Blk w g T cs) (hc : cs[k]? = some (.slice A n c)) : (execOp ρ o).run Try.prog w = .ok (.value (.slice A n c)) w := by
  have c0 := hb.cell k
  rw [hc] at c0
  simp only [execOp, ho, hx]
  go_simp
theorem ex_build2 {x y : Operand} {q : Bool} {A : Option Addr} {n c : Nat} (ho : o.op = .build 24 #[(0, x), (1, y)]) (hx : ρ x = .bool q) (hy : ρ y = .slice A n c) : (execOp ρ o).run Try.prog w = .ok (.value (.agg #[.bool q, .slice A n c])) w := by
  simp only [execOp, ho]; go_simp
end
section
variable {Q : Exit → Act → World → Prop} {base : Nat} {fs : List (Fact base)} {ψ : Nat → Bool → World → Prop} {tg : Nat → Nat} {V : Nat → Value} {i : Nat} {o : Oper} {a : Act} {w : World}
theorem ob_copy {x : Operand} {v : Value} {xs : List Int} (ho : o.op = .call { callee := .builtin .append, args := #[.const (.slice none 0 0), x], argTypes := #[22, 22] }) (hx : a.eval x = v) (hv : SlV w v xs)
    (hl : xs.length ≤ 1099511627776) (hf : fs.getD i (Fact.top base) = Fact.slv xs) : Ob Try.prog Q fs ψ tg .val V i o a w := by
  show Oper.wp Try.prog o a w _ Q
  obtain ⟨v', w', e, h1, h2⟩ := run_copy_u32 w v xs o.type hv
  unfold Oper.wp execOp
  have hc : a.eval (.const (.slice none 0 0)) = .slice none 0 0 := rfl
  simp only [ho, resolve, invoke, builtin, Sem.run_bind, Sem.run_pure, Result.andThen_ok, List.map_toArray, List.map_cons, List.map_nil, hx, hc, e]
  exact ⟨v', rfl, h2, by rw [hf]; exact h1.slv hl⟩
theorem ob_buildRaw {x y : Operand} {q : Bool} {v : Value} {xs : List Int} (ho : o.op = .build 24 #[(0, x), (1, y)]) (hx : a.eval x = .bool q) (hy : a.eval y = v) (hv : SlV w v xs) (hf : fs.getD i (Fact.top base) = Fact.num (.R q xs)) : Ob Try.prog Q fs ψ tg .val V i o a w := by
  obtain ⟨A, c, rfl, hc, hs⟩ := id hv
  exact ob_pure (ex_build2 ho hx hy) (by rw [hf]; exact ⟨A, c, rfl, hv⟩)
end
end Go.Proofs.Ytijmjkkjopplbaa

