/- Contracts by content, and the conditions that their code must meet. -/
import Derived.Test.YtcokifdgbfbonaaDoorLaxPthMeets
namespace Go.Proofs.YtcokifdgbfbonaaDoor
set_option linter.unusedVariables false
set_option linter.unusedSimpArgs false
open Go.RowKit
structure CmdP where
  k : Int
  num : Int
  foot : List UInt8
  rq : Int
  path : List UInt8
  mode : Int
  n : Int
  time : Int
/-- the document's table, kind by kind -/
def hasAV : List AV := [.bool false, .bool false, .bool false, .bool false, .bool false, .bool false, .bool true, .bool true, .bool false, .bool false, .bool true, .bool true, .bool true, .bool true, .bool false, .bool false, .bool false, .bool false, .bool true, .bool true, .bool false, .bool false, .bool false, .bool true, .bool true, .bool true, .bool true, .bool true, .bool false, .bool false, .bool true, .bool true, .bool true, .bool true, .bool false, .bool false, .bool true, .bool true, .bool true, .bool false, .bool false, .bool false, .bool true, .bool true, .bool true, .bool false, .bool true, .bool false, .bool true, .bool false, .bool false, .bool false, .bool false, .bool true]
def hS (k : Int) : Bool := decide (1 ≤ k) && decide (k ≤ 8)
def hR (k : Int) : Bool := decide (1 ≤ k) && decide (k ≤ 7)
def hP (k : Int) : Bool := decide (4 ≤ k) && decide (k ≤ 7)
def hM (k : Int) : Bool := decide (k = 4) || decide (k = 5)
def hN (k : Int) : Bool := decide (k = 1) || decide (k = 7)
def hT (k : Int) : Bool := decide (k = 1) || decide (k = 3) || decide (k = 8)
def okK (k : Int) : Bool := decide (0 ≤ k) && decide (k ≤ 8)
def mostK (k : Int) : Int := if k = 1 then 1048576 else 9223372036854775807
def rightC (c : CmdP) : Bool :=
  okK c.k && (hS c.k || (decide (c.num = 0) && decide (c.foot = []))) && (hR c.k || decide (c.rq = 0)) && (hP c.k || decide (c.path = [])) && (hM c.k || decide (c.mode = 0)) && (hN c.k || decide (c.n = 0)) && (hT c.k || decide (c.time = 0)) &&
  (!hS c.k || rightP c.foot) && (!hR c.k || decide (c.rq ≠ 0)) && (!hP c.k || rightP c.path) && (!hM c.k || decide (c.mode = 1) || decide (c.mode = 2)) && (!hN c.k || (decide (c.n ≠ 0) && decide (c.n ≤ mostK c.k))) && decide (0 ≤ c.time) && decide (c.time ≤ 1099511627776)
def footV (c : CmdP) : List UInt8 := if rightC c then (if hP c.k then c.path else c.foot) else []
def footOK (c : CmdP) : Bool := rightC c && hS c.k
def hadF : Con
  | [.val (.int .i64 k)] => some (True, ⟨.tup [.agg [.bool (hS k), .bool (hR k), .bool (hP k), .bool (hM k), .bool (hN k), .bool (hT k)], .bool (okK k)], none, none⟩)
  | _ => none
def gamHad : List (Nat × Con) := []
def lpHad0 (k : Int) : Nat → Option LoopPlan := fun _ => none
def inHad0 (k : Int) : Prop := awp [] (lpHad0 k) (lookΓ gamHad) Tryd.prog Tryd.f94.ntmps 0 (Tryd.f94.body.getD .skip) (entrySt [.val (.int .i64 k)]) (exitQ Tryd.prog Tryd.f94.results.toList [] ⟨.tup [.agg [.bool (hS k), .bool (hR k), .bool (hP k), .bool (hM k), .bool (hN k), .bool (hT k)], .bool (okK k)], none, none⟩)
def OkHad0 : Prop := ∀ (k : Int), True → inHad0 k
def mostF : Con
  | [.val (.int .i64 k)] => some (True, ⟨.int .u64 (mostK k), none, none⟩)
  | _ => none
def gamMost : List (Nat × Con) := []
def lpMost0 (k : Int) : Nat → Option LoopPlan := fun _ => none
def inMost0 (k : Int) : Prop := awp [] (lpMost0 k) (lookΓ gamMost) Tryd.prog Tryd.f119.ntmps 0 (Tryd.f119.body.getD .skip) (entrySt [.val (.int .i64 k)]) (exitQ Tryd.prog Tryd.f119.results.toList [] ⟨.int .u64 (mostK k), none, none⟩)
def OkMost0 : Prop := ∀ (k : Int), True → inMost0 k
def bareF : Con
  | [.val (.agg [.int .i64 k, .int .u64 num, .str foot, .int .u64 rq, .str path, .int .i64 mode, .int .u64 n, .int .i64 time]), .val (.agg [.bool a, .bool b, .bool c, .bool d, .bool e, .bool f])] => some (True, ⟨.agg [.int .i64 k, .int .u64 (bif a then num else 0), .str (bif a then foot else []), .int .u64 (bif b then rq else 0), .str (bif c then path else []), .int .i64 (bif d then mode else 0), .int .u64 (bif e then n else 0), .int .i64 (bif f then time else 0)], none, none⟩)
  | _ => none
def gamBare : List (Nat × Con) := []
def lpBare0 (k num : Int) (foot : List UInt8) (rq : Int) (path : List UInt8) (mode n time : Int) (a b c d e f : Bool) : Nat → Option LoopPlan := fun _ => none
def inBare0 (k num : Int) (foot : List UInt8) (rq : Int) (path : List UInt8) (mode n time : Int) (a b c d e f : Bool) : Prop := awp [] (lpBare0 k num foot rq path mode n time a b c d e f) (lookΓ gamBare) Tryd.prog Tryd.f118.ntmps 0 (Tryd.f118.body.getD .skip) (entrySt [.val (.agg [.int .i64 k, .int .u64 num, .str foot, .int .u64 rq, .str path, .int .i64 mode, .int .u64 n, .int .i64 time]), .val (.agg [.bool a, .bool b, .bool c, .bool d, .bool e, .bool f])]) (exitQ Tryd.prog Tryd.f118.results.toList [] ⟨.agg [.int .i64 k, .int .u64 (bif a then num else 0), .str (bif a then foot else []), .int .u64 (bif b then rq else 0), .str (bif c then path else []), .int .i64 (bif d then mode else 0), .int .u64 (bif e then n else 0), .int .i64 (bif f then time else 0)], none, none⟩)
def OkBare0 : Prop := ∀ (k num : Int) (foot : List UInt8) (rq : Int) (path : List UInt8) (mode n time : Int) (a b c d e f : Bool), True → inBare0 k num foot rq path mode n time a b c d e f
def crightF : Con
  | [.val (.agg [.int .i64 k, .int .u64 num, .str foot, .int .u64 rq, .str path, .int .i64 mode, .int .u64 n, .int .i64 time])] => some (foot.length ≤ 900000 ∧ path.length ≤ 900000, ⟨.bool (rightC ⟨k, num, foot, rq, path, mode, n, time⟩), none, none⟩)
  | _ => none
def gamCright : List (Nat × Con) := [(94, hadF.orNil), (119, mostF.orNil), (118, bareF.orNil), (67, rightF.orNil)]
def lpCright0 (k num : Int) (foot : List UInt8) (rq : Int) (path : List UInt8) (mode n time : Int) : Nat → Option LoopPlan := fun _ => none
def inCright0 (k num : Int) (foot : List UInt8) (rq : Int) (path : List UInt8) (mode n time : Int) : Prop := awp [] (lpCright0 k num foot rq path mode n time) (lookΓ gamCright) Tryd.prog Tryd.f69.ntmps 0 (Tryd.f69.body.getD .skip) (entrySt [.val (.agg [.int .i64 k, .int .u64 num, .str foot, .int .u64 rq, .str path, .int .i64 mode, .int .u64 n, .int .i64 time])]) (exitQ Tryd.prog Tryd.f69.results.toList [] ⟨.bool (rightC ⟨k, num, foot, rq, path, mode, n, time⟩), none, none⟩)
def OkCright0 : Prop := ∀ (k num : Int) (foot : List UInt8) (rq : Int) (path : List UInt8) (mode n time : Int), foot.length ≤ 900000 ∧ path.length ≤ 900000 → inCright0 k num foot rq path mode n time
end Go.Proofs.YtcokifdgbfbonaaDoor
