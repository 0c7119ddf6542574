/- Commands and truths in a list: what their types say. -/
import Derived.Test.YtddilmocngedjaaDoorLaxOpen
import Derived.Test.YtddilmocngedjaaDoorLaxPkClashL
namespace Go.Proofs.YtddilmocngedjaaDoor
set_option linter.unusedVariables false
set_option linter.unusedSimpArgs false
open Go.RowKit
def cmdTys : List Ty := [.int .i64, .int .u64, .str, .int .u64, .str, .int .i64, .int .u64, .int .i64]
theorem str_le {B : Nat} {s : List UInt8} (h : HasTy B .str (.str s)) : s.length ≤ B := by
  obtain ⟨l, e, hl⟩ := h.inv_str
  cases e
  exact hl
theorem isCmds_of {xs : List AV} (h : HasTy 9223372036854775807 (.sl cmdTys) (.sl xs .no)) : isCmds xs := by
  refine fun i hi => ?_
  have e := h.elem hi
  have s1 := (e.eta (j := 2) (ty := .str) rfl).2
  have s2 := (e.eta (j := 4) (ty := .str) rfl).2
  exact ⟨h.okElem hi, e.okRead rfl, str_le s1, str_le s2⟩
theorem isBools_of {xs : List AV} (h : HasTy 9223372036854775807 (.sl [.bool]) (.sl xs .no)) : isBools xs := fun _ hi => ⟨h.okElem hi, (h.elem hi).okRead rfl⟩
end Go.Proofs.YtddilmocngedjaaDoor
