/- A part of the proof of the laws of rationals: CutStr. -/
import Derived.Lib.Strings
import Derived.Lib.Slices
import Derived.Lib.Walk
import Derived.Lib.Bytealg
import Derived.Test.YtijmjkkjopplbaaPac
import Derived.Test.YtijmjkkjopplbaaPab
import Derived.Test.YtijmjkkjopplbaaPaa
namespace Go.Proofs.Ytijmjkkjopplbaa
open Go.RowKit
set_option linter.unusedVariables false
set_option maxRecDepth 100000

set_option maxHeartbeats 1000000 in
theorem indexByte_any (s : ByteArray) (c : Int) (w : World) :
    Calls Try.prog 112 #[.string s, .int .u8 c] w fun e w' => e = .returned (.int .i64 (Lib.indexByte s.data.toList c.toNat.toUInt8)) ∧ w' = w := by
  go_enter Try.func112, Try.ntmps112
  go_wp2
  rw [run_callFunc_extern Try.func116 (by kernel_rfl) (by kernel_rfl) (by kernel_rfl) (e := Extern.BytealgIndexByte.indexByte) (by kernel_rfl), Lib.run_indexByteString]
  simp only [Result.andThen]
  rw [Oper.upon_value]
  go_wp2
  go_ret
  exact ⟨rfl, rfl⟩
set_option maxHeartbeats 2000000 in
theorem index_one (s : ByteArray) (c : UInt8) (w : World) :
    Calls Try.prog 109 #[.string s, .string ⟨#[c]⟩] w fun e w' => e = .returned (.int .i64 (Lib.indexByte s.data.toList c)) ∧ w' = w := by
  go_enter Try.func109, Try.ntmps109
  go_wp2_with (go_at_call 112; refine (indexByte_any _ _ _).mono ?_; rintro e w' ⟨rfl, rfl⟩)
  · have h : ([c] == s.toList) = true := by assumption
    go_ret
    refine ⟨?_, rfl⟩
    have e : s.data.toList = [c] := by rw [← Lib.toList_data]; exact (beq_iff_eq.1 h).symm
    rw [e]
    simp [Lib.indexByte]
  · go_ret
    exact ⟨rfl, rfl⟩
def cutI (s : ByteArray) (c : UInt8) : Int := Lib.indexByte s.data.toList c
def cutF (s : ByteArray) (c : UInt8) : Bool := decide (0 ≤ cutI s c)
def cutB (s : ByteArray) (c : UInt8) : ByteArray := if 0 ≤ cutI s c then s.extract 0 (cutI s c).toNat else s
def cutA (s : ByteArray) (c : UInt8) : ByteArray := if 0 ≤ cutI s c then s.extract ((cutI s c).toNat + 1) s.size else ByteArray.empty
theorem indexByte_lt : ∀ (l : List UInt8) (c : UInt8), Lib.indexByte l c < l.length
  | [], _ => by simp [Lib.indexByte]
  | b :: l, c => by
    have h := indexByte_lt l c
    have h1 := Lib.indexByte_ge l c
    simp only [Lib.indexByte, List.length_cons]
    split
    · omega
    · split <;> omega
theorem indexByte_app (a b : List UInt8) (c : UInt8) (h : ∀ x ∈ a, x ≠ c) : Lib.indexByte (a ++ c :: b) c = a.length := by
  induction a with
  | nil => simp [Lib.indexByte]
  | cons x a ih =>
    have h1 := ih (fun y hy => h y (List.mem_cons_of_mem _ hy))
    have h2 := h x List.mem_cons_self
    simp only [List.cons_append, Lib.indexByte, h1, List.length_cons]
    rw [if_neg (by simpa using h2), if_neg (by simp)]
    omega
def CutOk (s : ByteArray) (c : UInt8) (e : Ending) : Prop := e = .returned (.tuple #[.string (cutB s c), .string (cutA s c), .bool (cutF s c)])
theorem cutI_lt (s : ByteArray) (c : UInt8) : cutI s c < s.size := indexByte_lt s.data.toList c
theorem cut_lite (s : ByteArray) (c : UInt8) (w : World) (hs : s.size ≤ 9223372036854775807) :
    Calls Try.prog 93 #[.string s, .string ⟨#[c]⟩] w fun e w' => CutOk s c e ∧ Below w.heap.size w w' := by
  have hlt := cutI_lt s c
  by_cases h0 : 0 ≤ cutI s c
  · have hd : decide (0 ≤ cutI s c) = true := decide_eq_true h0
    obtain ⟨k, hk⟩ := Int.eq_ofNat_of_zero_le h0
    have hks : k < s.size := by omega
    go_enter Try.func93, Try.ntmps93
    go_wp2_with (go_at_call 109; refine (index_one _ _ _).mono ?_; rintro e w' ⟨rfl, rfl⟩; rw [show Lib.indexByte s.data.toList c = (k : Int) from hk])
    go_quiet (fail)
    go_wp2
    refine bodyPost_ret (v := .tuple #[.string (s.extract 0 k), .string (s.extract (k + 1) s.size), .bool true]) (by simp [results, Try.results93, go_sem]) rfl ⟨?_, below_drewN (Below.refl _ _) _⟩
    unfold CutOk cutF cutB cutA
    rw [if_pos h0, if_pos h0, hd, hk]
    rfl
  · have hd : decide (0 ≤ cutI s c) = false := decide_eq_false h0
    have h1 : cutI s c = -1 := by have : -1 ≤ cutI s c := Lib.indexByte_ge s.data.toList c; omega
    go_enter Try.func93, Try.ntmps93
    go_wp2_with (go_at_call 109; refine (index_one _ _ _).mono ?_; rintro e w' ⟨rfl, rfl⟩; rw [show Lib.indexByte s.data.toList c = -1 from h1])
    refine bodyPost_ret (v := .tuple #[.string s, .string ⟨#[]⟩, .bool false]) (by simp [results, Try.results93, go_sem]) rfl ⟨?_, Below.refl _ _⟩
    unfold CutOk cutF cutB cutA
    rw [if_neg (by omega), if_neg (by omega), hd]
    rfl
theorem cut_any (s : ByteArray) (c : UInt8) (w : World) (hs : s.size ≤ 9223372036854775807) :
    Calls Try.prog 62 #[.string s, .string ⟨#[c]⟩] w fun e w' => CutOk s c e ∧ Below w.heap.size w w' := by
  go_enter Try.func62, Try.ntmps62
  go_wp2_with (go_at_call 93; refine (cut_lite _ _ _ hs).mono ?_; rintro e w1 ⟨he, hb⟩; subst he)
  refine bodyPost_ret (v := .tuple #[.string (cutB s c), .string (cutA s c), .bool (cutF s c)]) (by simp [results, Try.results62, go_sem]) rfl ⟨rfl, hb⟩
theorem prefix_any (s p : ByteArray) (w : World) :
    Calls Try.prog 64 #[.string s, .string p] w fun e w' => e = .returned (.bool (Lib.hasPrefix s.data.toList p.data.toList)) ∧ w' = w := by
  rw [← Lib.hasPrefix_of_take, ← Lib.size_eq, ← Lib.size_eq]
  go_enter Try.func64, Try.ntmps64
  go_wp2
  · rename_i h
    go_ret
    refine ⟨?_, rfl⟩
    show Ending.returned (Value.bool ((s.extract 0 p.size).toList == p.toList)) = _
    rw [Lib.extract_toList, Lib.toList_data]
    simp [h]
  · rename_i h
    go_ret
    refine ⟨?_, rfl⟩
    show Ending.returned (Value.bool false) = _
    simp [h]
end Go.Proofs.Ytijmjkkjopplbaa

