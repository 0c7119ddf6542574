/- Numbers that wrap, and lists one behind the other: the laws that close conditions. -/
import Derived.Test.YtddilmocngedjaaLaxByt
namespace Go.Proofs.Ytddilmocngedjaa
set_option linter.unusedVariables false
set_option linter.unusedSimpArgs false
open Go.RowKit

abbrev tt : Prop := true = true
abbrev T1 : Prop := True
theorem wrap_u64 {n : Int} (h0 : 0 ≤ n) (h1 : n ≤ 18446744073709551615) : IntKind.u64.wrap n = n := by rw [IntKind.wrap_u64]; omega
theorem wrap_i64 {n : Int} (h0 : -9223372036854775808 ≤ n) (h1 : n ≤ 9223372036854775807) : IntKind.i64.wrap n = n := by rw [IntKind.wrap_i64]; omega
theorem wrap_u32 {n : Int} (h0 : 0 ≤ n) (h1 : n ≤ 4294967295) : IntKind.u32.wrap n = n := by rw [IntKind.wrap_u32]; omega
theorem wrap_u8 {n : Int} (h0 : 0 ≤ n) (h1 : n ≤ 255) : IntKind.u8.wrap n = n := by rw [IntKind.wrap_u8]; omega
theorem catL_length {α : Type} (l m : List α) : (catL l m).length = l.length + m.length := by simp [catL]
theorem cif {b : Bool} {X Y : Prop} : (bif b then X else Y) ↔ (b = true → X) ∧ (b = false → Y) := by cases b <;> simp
theorem catL_nil {α : Type} (l : List α) : catL [] l = l := rfl
theorem catL_eq {α : Type} (l m : List α) : catL l m = l ++ m := rfl
end Go.Proofs.Ytddilmocngedjaa
