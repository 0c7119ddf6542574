/- A disk's steps in a list: what their types say. -/
import Derived.Test.YtddilmocngedjaaLaxOpen
import Derived.Test.YtddilmocngedjaaLaxPkDiskL
namespace Go.Proofs.Ytddilmocngedjaa
set_option linter.unusedVariables false
set_option linter.unusedSimpArgs false
open Go.RowKit
def opTys : List Ty := [.int .i64, .int .i64, .int .i64, .sl [.int .u8]]
theorem isOps_of {xs : List AV} (h : HasTy 9223372036854775807 (.sl opTys) (.sl xs .no)) : isOps xs := by
  refine fun i hi => ?_
  have e := h.elem hi
  have s2 := (e.eta (j := 2) (ty := .int .i64) rfl).2
  have s3 := (e.eta (j := 3) (ty := .sl [.int .u8]) rfl).2
  have r2 : HasTy 9223372036854775807 (.int .i64) (.int .i64 (stN (elemAt xs i))) := s2
  have r3 : HasTy 9223372036854775807 (.sl [.int .u8]) (.sl (stB (elemAt xs i)) .no) := s3
  have := r2.intR
  exact ⟨h.okElem hi, e.okRead rfl, r3.bytes, r3.len, this.1, this.2⟩
end Go.Proofs.Ytddilmocngedjaa
