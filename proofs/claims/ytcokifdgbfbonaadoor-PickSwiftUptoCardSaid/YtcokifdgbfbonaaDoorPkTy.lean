/- States in a list: what their types say. -/
import Derived.Test.YtcokifdgbfbonaaDoorLaxOpen
import Derived.Test.YtcokifdgbfbonaaDoorLaxPkPkS
namespace Go.Proofs.YtcokifdgbfbonaaDoor
open Go.RowKit
def instTys : List Ty := [.int .i64, .int .i64, .int .i64, .int .u32, .int .u32, .bool, .int .i64, .int .u64, .str, .int .u64, .str, .int .i64, .int .u64, .int .i64, .int .i64, .int .i64, .int .i64, .int .i64, .int .i64, .int .i64, .int .i64, .int .i64]
theorem str_le {B : Nat} {s : List UInt8} (h : HasTy B .str (.str s)) : s.length ≤ B := by
  obtain ⟨l, e, hl⟩ := h.inv_str
  cases e
  exact hl
theorem isInsts_of {xs : List AV} (h : HasTy 1048576 (.sl instTys) (.sl xs .no)) : isInsts xs ∧ xs.length ≤ 9223372036854775807 := by
  refine ⟨fun i hi => ?_, Nat.le_trans h.len (by decide)⟩
  have e := h.elem hi
  have s1 := str_le (e.eta (j := 8) (ty := .str) rfl).2
  have s2 := str_le (e.eta (j := 10) (ty := .str) rfl).2
  exact ⟨h.okElem hi, e.okRead rfl, Nat.le_trans s1 (by decide), Nat.le_trans s2 (by decide)⟩
end Go.Proofs.YtcokifdgbfbonaaDoor
