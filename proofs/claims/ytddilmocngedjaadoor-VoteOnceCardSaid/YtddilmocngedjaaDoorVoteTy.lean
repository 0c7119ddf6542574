/- Messages and attributes in a list: what their types say. -/
import Derived.Test.YtddilmocngedjaaDoorLaxOpen
import Derived.Test.YtddilmocngedjaaDoorLaxPkVoteO
namespace Go.Proofs.YtddilmocngedjaaDoor
open Go.RowKit
def msgTys : List Ty := [.int .i64, .int .i64, .int .i64, .int .i64, .int .i64, .int .u32, .bool, .int .i64, .int .i64, .int .i64, .int .u32, .int .u32, .bool, .int .i64, .int .u64, .str, .int .u64, .str, .int .i64, .int .u64, .int .i64, .int .i64, .int .i64, .int .i64, .int .i64, .int .i64, .int .i64, .int .i64, .int .i64]
theorem str_le {B : Nat} {s : List UInt8} (h : HasTy B .str (.str s)) : s.length ≤ B := by
  obtain ⟨l, e, hl⟩ := h.inv_str
  cases e
  exact hl
theorem isMsgs_of {xs : List AV} (h : HasTy 9223372036854775807 (.sl msgTys) (.sl xs .no)) : isMsgs xs := by
  refine fun i hi => ?_
  have e := h.elem hi
  have s1 := (e.eta (j := 15) (ty := .str) rfl).2
  have s2 := (e.eta (j := 17) (ty := .str) rfl).2
  exact ⟨h.okElem hi, e.okRead rfl, str_le s1, str_le s2⟩
def attTys : List Ty := [.int .i64, .int .i64, .int .i64, .int .i64, .int .i64, .int .i64, .int .i64, .int .i64]
theorem isAtts_of {xs : List AV} (h : HasTy 9223372036854775807 (.sl attTys) (.sl xs .no)) : isAtts xs := fun _ hi => ⟨h.okElem hi, (h.elem hi).okRead rfl⟩
end Go.Proofs.YtddilmocngedjaaDoor
