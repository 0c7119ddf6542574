/- Contracts by content, and the conditions that their code must meet. -/
import Derived.Test.YtabeffcdklcdeaaDoorLaxCmdASpec
namespace Go.Proofs.YtabeffcdklcdeaaDoor
set_option linter.unusedVariables false
set_option linter.unusedSimpArgs false
open Go.RowKit
def has07F : Con
  | [] => some (True, ⟨.agg hasAV, none, none⟩)
  | _ => none
def gamHas07 : List (Nat × Con) := []
def lpHas070  : Nat → Option LoopPlan := fun _ => none
def inHas070  : Prop := awp [] (lpHas070) (lookΓ gamHas07) Tryd.prog Tryd.f67.ntmps 0 (Tryd.f67.body.getD .skip) (entrySt []) (exitQ Tryd.prog Tryd.f67.results.toList [] ⟨.agg hasAV, none, none⟩)
def OkHas070 : Prop := True → inHas070
def rrightOF : Con
  | [.val (.agg [.int .i64 k, .int .u64 num, .str foot, .int .u64 rq, .str path, .int .i64 mode, .int .u64 n, .int .i64 time])] => some ((k < 0 ∨ 8 < k) ∧ foot.length ≤ 900000 ∧ path.length ≤ 900000, ⟨.bool false, none, none⟩)
  | _ => none
def gamRrightO : List (Nat × Con) := []
def lpRrightO0 (k num : Int) (foot : List UInt8) (rq : Int) (path : List UInt8) (mode n time : Int) : Nat → Option LoopPlan := fun _ => none
def inRrightO0 (k num : Int) (foot : List UInt8) (rq : Int) (path : List UInt8) (mode n time : Int) : Prop := awp [] (lpRrightO0 k num foot rq path mode n time) (lookΓ gamRrightO) Tryd.prog Tryd.f40.ntmps 0 (Tryd.f40.body.getD .skip) (entrySt [.val (.agg [.int .i64 k, .int .u64 num, .str foot, .int .u64 rq, .str path, .int .i64 mode, .int .u64 n, .int .i64 time])]) (exitQ Tryd.prog Tryd.f40.results.toList [] ⟨.bool false, none, none⟩)
def OkRrightO0 : Prop := ∀ (k num : Int) (foot : List UInt8) (rq : Int) (path : List UInt8) (mode n time : Int), (k < 0 ∨ 8 < k) ∧ foot.length ≤ 900000 ∧ path.length ≤ 900000 → inRrightO0 k num foot rq path mode n time
def rrightIF : Con
  | [.val (.agg [.int .i64 k, .int .u64 num, .str foot, .int .u64 rq, .str path, .int .i64 mode, .int .u64 n, .int .i64 time])] => some ((0 ≤ k ∧ k ≤ 8) ∧ foot.length ≤ 900000 ∧ path.length ≤ 900000, ⟨.bool (rightC ⟨k, num, foot, rq, path, mode, n, time⟩), none, none⟩)
  | _ => none
def gamRrightI : List (Nat × Con) := [(67, has07F.orNil), (22, refRightF.orNil)]
def lpRrightI0 (k num : Int) (foot : List UInt8) (rq : Int) (path : List UInt8) (mode n time : Int) : Nat → Option LoopPlan := fun _ => none
def inRrightI0 (k num : Int) (foot : List UInt8) (rq : Int) (path : List UInt8) (mode n time : Int) : Prop := awp [] (lpRrightI0 k num foot rq path mode n time) (lookΓ gamRrightI) Tryd.prog Tryd.f40.ntmps 0 (Tryd.f40.body.getD .skip) (entrySt [.val (.agg [.int .i64 k, .int .u64 num, .str foot, .int .u64 rq, .str path, .int .i64 mode, .int .u64 n, .int .i64 time])]) (exitQ Tryd.prog Tryd.f40.results.toList [] ⟨.bool (rightC ⟨k, num, foot, rq, path, mode, n, time⟩), none, none⟩)
def OkRrightI0 : Prop := ∀ (k num : Int) (foot : List UInt8) (rq : Int) (path : List UInt8) (mode n time : Int), (0 ≤ k ∧ k ≤ 8) ∧ foot.length ≤ 900000 ∧ path.length ≤ 900000 → inRrightI0 k num foot rq path mode n time
def inRrightK0 (num : Int) (foot : List UInt8) (rq : Int) (path : List UInt8) (mode n time : Int) : Prop := inRrightI0 0 num foot rq path mode n time
def inRrightK1 (num : Int) (foot : List UInt8) (rq : Int) (path : List UInt8) (mode n time : Int) : Prop := inRrightI0 1 num foot rq path mode n time
def inRrightK2 (num : Int) (foot : List UInt8) (rq : Int) (path : List UInt8) (mode n time : Int) : Prop := inRrightI0 2 num foot rq path mode n time
def inRrightK3 (num : Int) (foot : List UInt8) (rq : Int) (path : List UInt8) (mode n time : Int) : Prop := inRrightI0 3 num foot rq path mode n time
def inRrightK4 (num : Int) (foot : List UInt8) (rq : Int) (path : List UInt8) (mode n time : Int) : Prop := inRrightI0 4 num foot rq path mode n time
def inRrightK5 (num : Int) (foot : List UInt8) (rq : Int) (path : List UInt8) (mode n time : Int) : Prop := inRrightI0 5 num foot rq path mode n time
def inRrightK6 (num : Int) (foot : List UInt8) (rq : Int) (path : List UInt8) (mode n time : Int) : Prop := inRrightI0 6 num foot rq path mode n time
def inRrightK7 (num : Int) (foot : List UInt8) (rq : Int) (path : List UInt8) (mode n time : Int) : Prop := inRrightI0 7 num foot rq path mode n time
def inRrightK8 (num : Int) (foot : List UInt8) (rq : Int) (path : List UInt8) (mode n time : Int) : Prop := inRrightI0 8 num foot rq path mode n time
end Go.Proofs.YtabeffcdklcdeaaDoor
