/- A part of the proof of the laws of rationals: Push. -/
import Derived.Laws.IdiomStrings
import Derived.Lib.BufferRead
import Derived.Test.YtijmjkkjopplbaaPam
import Derived.Test.YtijmjkkjopplbaaPab
import Derived.Test.YtijmjkkjopplbaaPaa
import Derived.Test.YtijmjkkjopplbaaPas
import Derived.Test.YtijmjkkjopplbaaPac
import Derived.Test.YtijmjkkjopplbaaPkRationalNormalizesa
namespace Go.Proofs.Ytijmjkkjopplbaa
open Go.RowKit
set_option linter.unusedVariables false
set_option maxRecDepth 100000

/-- A limb. -/
theorem wp_push_u32 {ops : Array Oper} {rest : List Oper} {o : Oper} {a : Act} {Q : Exit → Act → World → Prop} {w : World} (hgd : o.guard = none) (s x : Operand)
    (ho : o.op = .call { callee := .builtin .append, args := #[s, x], argTypes := #[22, 22] }) (y : Int) (v : Value) (base : Nat) (xs : List Int) (hr : Row w base v xs) (hbase : base ≤ w.heap.size) (hlen : xs.length < 1099511627776)
    (hs : a.eval s = v) (hx : a.eval x = .slice (some ⟨w.heap.size, 0, none⟩) 1 1)
    (h : ∀ v' w', Row w' base v' (xs ++ [y]) → Below base w w' → wpList Try.prog ops Q rest (a.put o.dst v') w') : wpList Try.prog ops Q (o :: rest) a (w.alloc (.cells #[.int .u32 y] 31)) := by
  refine wp_push hgd s x _ _ ho Try.underlying22 (by_ := 4) (by decide) u32_info rfl (.int .u32 y) rfl v xs.length base (xs.map (Value.int .u32)) hr hbase hlen hs hx (fun v' w' h1 h2 _ => h v' w' ?_ h2)
  unfold Row
  rw [List.length_append, List.map_append]
  exact h1

end Go.Proofs.Ytijmjkkjopplbaa

