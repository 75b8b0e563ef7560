/- A part of the proof of the laws of rationals: Ops. -/
import Derived.Test.YtklamiajcdkmnaaPac
import Derived.Test.YtklamiajcdkmnaaPba
import Derived.Test.YtklamiajcdkmnaaPab
import Derived.Test.YtklamiajcdkmnaaPal
import Derived.Test.YtklamiajcdkmnaaPaa
import Derived.Test.YtklamiajcdkmnaaPak
namespace Go.Proofs.Ytklamiajcdkmnaa
open Go.RowKit
set_option linter.unusedVariables false
set_option maxRecDepth 100000

section
variable {P : Program} {Q : Exit → Act → World → Prop} {base : Nat} {fs : List (Fact base)} {ψ : Nat → Bool → World → Prop} {tg : Nat → Nat} {V : Nat → Value} {i : Nat} {o : Oper} {a : Act} {w : World}
end

theorem wp_list_eachG {P : Program} {Q : Exit → Act → World → Prop} {l : List Oper} {a0 : Act} {W : World} (hm : P.follows .mixedOrders = true) (m n : Nat) (hlm : l.length = m) (hn : n = a0.tmps.size) (hs : shapeG l.toArray n = true)
    (fs : List (Fact W.heap.size)) (ro : List Role) (G : World → Prop) (ψ : Nat → Bool → World → Prop) (sT : List Nat) (tg : Nat → Nat) (hro : rolesB l.toArray ro (fs.map Fact.al) sT = true)
    (hG0 : G W) (hG1 : ∀ w w', G w → Below w.heap.size w w' → G w') (hG2 : ∀ w w' g, G w → (W.heap.size ≤ g ∨ ∃ l, l < sT.length ∧ g = tg l) → NumFree w g → Only w w' g → G w')
    (hψ0 : ∀ l, l < sT.length → ψ l false W) (hψ1 : ∀ l b w w', l < sT.length → ψ l b w → Below w.heap.size w w' → ψ l b w') (hψ2 : ∀ l b w w' g, l < sT.length → ψ l b w → g ≠ tg l → NumFree w g → Only w w' g → ψ l b w')
    (htg : ∀ l, l < sT.length → tg l < W.heap.size) (htn : ∀ l k, l < sT.length → k < sT.length → l ≠ k → tg l ≠ tg k)
    (hstep : EachOp (fun i o => ∀ L V a w, FrameOk l.toArray a0 L V a → G w → W.heap.size ≤ w.heap.size → (∀ j, L j = true → (fs.getD j (Fact.top _)).p ((ro.getD j .val).al && L (ro.getD j .val).st) (V j) w) →
      (∀ l, l < sT.length → ψ l (L (sT.getD l 0)) w) → L i = false → (∀ e ∈ o.after, Region.binds .any e = true → L e.on = true) → (∀ j o, L j = true → l.toArray[j]? = some o → ∀ e ∈ o.after, Region.binds .any e = true → L e.on = true) → ObG P l.toArray Q fs ψ tg (ro.getD i .val) V i o a w) 0 l)
    (hend : ∀ V w, G w → W.heap.size ≤ w.heap.size → (∀ j, j < m → (fs.getD j (Fact.top _)).p (ro.getD j .val).al (V j) w) → (∀ l, l < sT.length → ψ l true w) →
      (∀ i j, i ≠ j → (ro.getD i .val).al = true → (ro.getD j .val).al = true → V i ≠ V j) → Q .normal (puts l 0 V a0) w) : wpList P l.toArray Q l a0 W := by
  have h := wp_run_each none hm m n hlm hn hs fs ro G ψ sT tg hro hG0 hG1 hG2 hψ0 hψ1 hψ2 htg htn hstep hend
  exact h
end Go.Proofs.Ytklamiajcdkmnaa

