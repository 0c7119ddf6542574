/- Contracts by content, their conditions, and that they are met: CmdA. -/
import Derived.Test.YtddilmocngedjaaDoorLaxPkPth
/- Contracts by content, and the conditions that their code must meet. -/
namespace Go.Proofs.YtddilmocngedjaaDoor
set_option linter.unusedVariables false
set_option linter.unusedSimpArgs false
open Go.RowKit
structure CmdP where
  k : Int
  num : Int
  foot : List UInt8
  rq : Int
  path : List UInt8
  mode : Int
  n : Int
  time : Int
def cmdL (c : CmdP) : List AV := [.int .i64 c.k, .int .u64 c.num, .str c.foot, .int .u64 c.rq, .str c.path, .int .i64 c.mode, .int .u64 c.n, .int .i64 c.time]
def eqC (c d : CmdP) : Bool := sameCells (cmdL c) (cmdL d)
def zC : CmdP := ⟨0, 0, [], 0, [], 0, 0, 0⟩
def cmdOf : List AV → Option CmdP
  | [.int .i64 k, .int .u64 num, .str foot, .int .u64 rq, .str path, .int .i64 mode, .int .u64 n, .int .i64 time] => some ⟨k, num, foot, rq, path, mode, n, time⟩
  | _ => none
theorem cmdOf_some {l : List AV} {x : CmdP} (h : cmdOf l = some x) : l = cmdL x := by
  unfold cmdOf at h
  split at h
  · cases h; rfl
  · cases h
def hasAV : List AV := [.bool false, .bool false, .bool false, .bool false, .bool false, .bool false, .bool true, .bool true, .bool false, .bool false, .bool true, .bool true, .bool true, .bool true, .bool false, .bool false, .bool false, .bool false, .bool true, .bool true, .bool false, .bool false, .bool false, .bool true, .bool true, .bool true, .bool true, .bool true, .bool false, .bool false, .bool true, .bool true, .bool true, .bool true, .bool false, .bool false, .bool true, .bool true, .bool true, .bool false, .bool false, .bool false, .bool true, .bool true, .bool true, .bool false, .bool true, .bool false, .bool true, .bool false, .bool false, .bool false, .bool false, .bool true]
def hS (k : Int) : Bool := decide (1 ≤ k) && decide (k ≤ 8)
def hR (k : Int) : Bool := decide (1 ≤ k) && decide (k ≤ 7)
def hP (k : Int) : Bool := decide (4 ≤ k) && decide (k ≤ 7)
def hM (k : Int) : Bool := decide (k = 4) || decide (k = 5)
def hN (k : Int) : Bool := decide (k = 1) || decide (k = 7)
def hT (k : Int) : Bool := decide (k = 1) || decide (k = 3) || decide (k = 8)
def okK (k : Int) : Bool := decide (0 ≤ k) && decide (k ≤ 8)
def mostK (k : Int) : Int := if k = 1 then 1048576 else 9223372036854775807
def rightC (c : CmdP) : Bool :=
  okK c.k && (hS c.k || (decide (c.num = 0) && decide (c.foot = []))) && (hR c.k || decide (c.rq = 0)) && (hP c.k || decide (c.path = [])) && (hM c.k || decide (c.mode = 0)) && (hN c.k || decide (c.n = 0)) && (hT c.k || decide (c.time = 0)) &&
  (!hS c.k || rightP c.foot) && (!hR c.k || decide (c.rq ≠ 0)) && (!hP c.k || rightP c.path) && (!hM c.k || decide (c.mode = 1) || decide (c.mode = 2)) && (!hN c.k || (decide (c.n ≠ 0) && decide (c.n ≤ mostK c.k))) && decide (0 ≤ c.time) && decide (c.time ≤ 1099511627776)
def footV (c : CmdP) : List UInt8 := if rightC c then (if hP c.k then c.path else c.foot) else []
def footOK (c : CmdP) : Bool := rightC c && hS c.k
def hadF : Con
  | [.val (.int .i64 k)] => (some (True, ⟨.tup [.agg [.bool (hS k), .bool (hR k), .bool (hP k), .bool (hM k), .bool (hN k), .bool (hT k)], .bool (okK k)], none, none⟩))
  | _ => none
def gamHad : List (Nat × Con) := []
def lpHad0 (k : Int) : Nat → Option LoopPlan := fun _ => none
def inHad0 (k : Int) : Prop := awp [] (lpHad0 k) (lookΓ gamHad) Tryd.prog Tryd.f77.ntmps 0 (Tryd.f77.body.getD .skip) (entrySt [.val (.int .i64 k)]) (exitQ Tryd.prog Tryd.f77.results.toList [] ⟨.tup [.agg [.bool (hS k), .bool (hR k), .bool (hP k), .bool (hM k), .bool (hN k), .bool (hT k)], .bool (okK k)], none, none⟩)
def OkHad0 : Prop := ∀ (k : Int), True → inHad0 k
def mostF : Con
  | [.val (.int .i64 k)] => (some (True, ⟨.int .u64 (mostK k), none, none⟩))
  | _ => none
def gamMost : List (Nat × Con) := []
def lpMost0 (k : Int) : Nat → Option LoopPlan := fun _ => none
def inMost0 (k : Int) : Prop := awp [] (lpMost0 k) (lookΓ gamMost) Tryd.prog Tryd.f79.ntmps 0 (Tryd.f79.body.getD .skip) (entrySt [.val (.int .i64 k)]) (exitQ Tryd.prog Tryd.f79.results.toList [] ⟨.int .u64 (mostK k), none, none⟩)
def OkMost0 : Prop := ∀ (k : Int), True → inMost0 k
def bareF : Con
  | [.val (.agg [.int .i64 k, .int .u64 num, .str foot, .int .u64 rq, .str path, .int .i64 mode, .int .u64 n, .int .i64 time]), .val (.agg [.bool a, .bool b, .bool c, .bool d, .bool e, .bool f])] => (some (True, ⟨.agg [.int .i64 k, .int .u64 (bif a then num else 0), .str (bif a then foot else []), .int .u64 (bif b then rq else 0), .str (bif c then path else []), .int .i64 (bif d then mode else 0), .int .u64 (bif e then n else 0), .int .i64 (bif f then time else 0)], none, none⟩))
  | _ => none
def gamBare : List (Nat × Con) := []
def lpBare0 (k num : Int) (foot : List UInt8) (rq : Int) (path : List UInt8) (mode n time : Int) (a b c d e f : Bool) : Nat → Option LoopPlan := fun _ => none
def inBare0 (k num : Int) (foot : List UInt8) (rq : Int) (path : List UInt8) (mode n time : Int) (a b c d e f : Bool) : Prop := awp [] (lpBare0 k num foot rq path mode n time a b c d e f) (lookΓ gamBare) Tryd.prog Tryd.f78.ntmps 0 (Tryd.f78.body.getD .skip) (entrySt [.val (.agg [.int .i64 k, .int .u64 num, .str foot, .int .u64 rq, .str path, .int .i64 mode, .int .u64 n, .int .i64 time]), .val (.agg [.bool a, .bool b, .bool c, .bool d, .bool e, .bool f])]) (exitQ Tryd.prog Tryd.f78.results.toList [] ⟨.agg [.int .i64 k, .int .u64 (bif a then num else 0), .str (bif a then foot else []), .int .u64 (bif b then rq else 0), .str (bif c then path else []), .int .i64 (bif d then mode else 0), .int .u64 (bif e then n else 0), .int .i64 (bif f then time else 0)], none, none⟩)
def OkBare0 : Prop := ∀ (k num : Int) (foot : List UInt8) (rq : Int) (path : List UInt8) (mode n time : Int) (a b c d e f : Bool), True → inBare0 k num foot rq path mode n time a b c d e f
def crightF : Con
  | [.val (.agg [.int .i64 k, .int .u64 num, .str foot, .int .u64 rq, .str path, .int .i64 mode, .int .u64 n, .int .i64 time])] => (some (foot.length ≤ 900000 ∧ path.length ≤ 900000, ⟨.bool (rightC ⟨k, num, foot, rq, path, mode, n, time⟩), none, none⟩))
  | _ => none
def gamCright : List (Nat × Con) := [(77, hadF.orNil), (79, mostF.orNil), (78, bareF.orNil), (69, rightF.orNil)]
def lpCright0 (k num : Int) (foot : List UInt8) (rq : Int) (path : List UInt8) (mode n time : Int) : Nat → Option LoopPlan := fun _ => none
def inCright0 (k num : Int) (foot : List UInt8) (rq : Int) (path : List UInt8) (mode n time : Int) : Prop := awp [] (lpCright0 k num foot rq path mode n time) (lookΓ gamCright) Tryd.prog Tryd.f46.ntmps 0 (Tryd.f46.body.getD .skip) (entrySt [.val (.agg [.int .i64 k, .int .u64 num, .str foot, .int .u64 rq, .str path, .int .i64 mode, .int .u64 n, .int .i64 time])]) (exitQ Tryd.prog Tryd.f46.results.toList [] ⟨.bool (rightC ⟨k, num, foot, rq, path, mode, n, time⟩), none, none⟩)
def OkCright0 : Prop := ∀ (k num : Int) (foot : List UInt8) (rq : Int) (path : List UInt8) (mode n time : Int), foot.length ≤ 900000 ∧ path.length ≤ 900000 → inCright0 k num foot rq path mode n time
end Go.Proofs.YtddilmocngedjaaDoor
/- What the verification conditions come to: printed by a program of ours (wip/lax/ex/Norm.lean). -/
namespace Go.Proofs.YtddilmocngedjaaDoor
set_option linter.unusedVariables false
open Go.RowKit
set_option maxRecDepth 100000
theorem vcHad0 (k : Int) (h : let w0_x := (tt ∧ T1 ∧ T1 ∧ (bif (k == 6) then (tt ∧ T1 ∧ tt ∧ T1 ∧ tt ∧ tt ∧ ((hS k) = true ∧ (hR k) = true ∧ (hP k) = true ∧ (hM k) = false ∧ (hN k) = false ∧ (hT k) = false ∧ (okK k) = true ∧ True) ∧ tt) else (tt ∧ T1 ∧ T1 ∧ (bif (k == 7) then (tt ∧ T1 ∧ tt ∧ T1 ∧ tt ∧ tt ∧ ((hS k) = true ∧ (hR k) = true ∧ (hP k) = true ∧ (hM k) = false ∧ (hN k) = true ∧ (hT k) = false ∧ (okK k) = true ∧ True) ∧ tt) else (tt ∧ T1 ∧ T1 ∧ (bif (k == 8) then (tt ∧ T1 ∧ tt ∧ T1 ∧ tt ∧ tt ∧ ((hS k) = true ∧ (hR k) = false ∧ (hP k) = false ∧ (hM k) = false ∧ (hN k) = false ∧ (hT k) = true ∧ (okK k) = true ∧ True) ∧ tt) else (tt ∧ T1 ∧ tt ∧ T1 ∧ tt ∧ tt ∧ ((hS k) = false ∧ (hR k) = false ∧ (hP k) = false ∧ (hM k) = false ∧ (hN k) = false ∧ (hT k) = false ∧ (okK k) = false ∧ True) ∧ tt))))))); let w1_x := (tt ∧ T1 ∧ tt ∧ T1 ∧ tt ∧ tt ∧ ((hS k) = true ∧ (hR k) = true ∧ (hP k) = true ∧ (hM k) = true ∧ (hN k) = false ∧ (hT k) = false ∧ (okK k) = true ∧ True) ∧ tt); (tt ∧ T1 ∧ T1 ∧ tt ∧ T1 ∧ tt ∧ T1 ∧ T1 ∧ (bif (k == 0) then (tt ∧ T1 ∧ tt ∧ T1 ∧ tt ∧ tt ∧ ((hS k) = false ∧ (hR k) = false ∧ (hP k) = false ∧ (hM k) = false ∧ (hN k) = false ∧ (hT k) = false ∧ (okK k) = true ∧ True) ∧ tt) else (tt ∧ T1 ∧ T1 ∧ (bif (k == 1) then (tt ∧ T1 ∧ tt ∧ T1 ∧ tt ∧ tt ∧ ((hS k) = true ∧ (hR k) = true ∧ (hP k) = false ∧ (hM k) = false ∧ (hN k) = true ∧ (hT k) = true ∧ (okK k) = true ∧ True) ∧ tt) else (tt ∧ T1 ∧ T1 ∧ (bif (k == 2) then (tt ∧ T1 ∧ tt ∧ T1 ∧ tt ∧ tt ∧ ((hS k) = true ∧ (hR k) = true ∧ (hP k) = false ∧ (hM k) = false ∧ (hN k) = false ∧ (hT k) = false ∧ (okK k) = true ∧ True) ∧ tt) else (tt ∧ T1 ∧ T1 ∧ (bif (k == 3) then (tt ∧ T1 ∧ tt ∧ T1 ∧ tt ∧ tt ∧ ((hS k) = true ∧ (hR k) = true ∧ (hP k) = false ∧ (hM k) = false ∧ (hN k) = false ∧ (hT k) = true ∧ (okK k) = true ∧ True) ∧ tt) else (tt ∧ T1 ∧ T1 ∧ (bif (k == 4) then (bif (k == 4) then w1_x else w0_x) else (tt ∧ T1 ∧ T1 ∧ (bif (k == 5) then w1_x else w0_x))))))))))))) : inHad0 k :=
  Eq.mp (show _ = _ by kernel_rfl) h
theorem vcMost0 (k : Int) (h : (tt ∧ T1 ∧ tt ∧ T1 ∧ T1 ∧ (bif (k == 1) then (tt ∧ T1 ∧ tt ∧ tt ∧ ((mostK k) = 1048576 ∧ True) ∧ tt) else (tt ∧ T1 ∧ tt ∧ tt ∧ ((mostK k) = 9223372036854775807 ∧ True) ∧ tt)))) : inMost0 k :=
  Eq.mp (show _ = _ by kernel_rfl) h
theorem vcBare0 (k : Int) (num : Int) (foot : (List UInt8)) (rq : Int) (path : (List UInt8)) (mode : Int) (n : Int) (time : Int) (a : Bool) (b : Bool) (c : Bool) (d : Bool) (e : Bool) (f : Bool) (h : let w0_x := (@cond.{1} (List UInt8) a foot (@List.nil.{0} UInt8)); let w1_x := (@cond.{1} (List UInt8) c path (@List.nil.{0} UInt8)); let w2_x := (@cond.{1} Int d mode (0 : Int)); let w3_x := (@cond.{1} Int f time (0 : Int)); let w4_x := (@cond.{1} Int a num (0 : Int)); let w5_x := (@cond.{1} Int b rq (0 : Int)); let w6_x := (@cond.{1} Int e n (0 : Int)); (tt ∧ T1 ∧ T1 ∧ T1 ∧ tt ∧ T1 ∧ tt ∧ T1 ∧ T1 ∧ tt ∧ tt ∧ T1 ∧ tt ∧ (bif a then (tt ∧ T1 ∧ tt ∧ T1 ∧ tt ∧ tt ∧ T1 ∧ tt ∧ (bif b then (tt ∧ T1 ∧ tt ∧ T1 ∧ tt ∧ tt ∧ T1 ∧ tt ∧ (bif c then (tt ∧ T1 ∧ tt ∧ T1 ∧ tt ∧ tt ∧ T1 ∧ tt ∧ (bif d then (tt ∧ T1 ∧ tt ∧ T1 ∧ tt ∧ tt ∧ T1 ∧ tt ∧ (bif e then (tt ∧ T1 ∧ tt ∧ T1 ∧ tt ∧ tt ∧ T1 ∧ tt ∧ (bif f then (tt ∧ T1 ∧ tt ∧ T1 ∧ tt ∧ tt ∧ tt ∧ tt ∧ tt ∧ tt ∧ (k = k ∧ w4_x = num ∧ w0_x = foot ∧ w5_x = rq ∧ w1_x = path ∧ w2_x = mode ∧ w6_x = n ∧ w3_x = time ∧ True) ∧ tt) else (tt ∧ tt ∧ tt ∧ tt ∧ tt ∧ (k = k ∧ w4_x = num ∧ w0_x = foot ∧ w5_x = rq ∧ w1_x = path ∧ w2_x = mode ∧ w6_x = n ∧ w3_x = 0 ∧ True) ∧ tt))) else (tt ∧ T1 ∧ tt ∧ (bif f then (tt ∧ T1 ∧ tt ∧ T1 ∧ tt ∧ tt ∧ tt ∧ tt ∧ tt ∧ tt ∧ (k = k ∧ w4_x = num ∧ w0_x = foot ∧ w5_x = rq ∧ w1_x = path ∧ w2_x = mode ∧ w6_x = 0 ∧ w3_x = time ∧ True) ∧ tt) else (tt ∧ tt ∧ tt ∧ tt ∧ tt ∧ (k = k ∧ w4_x = num ∧ w0_x = foot ∧ w5_x = rq ∧ w1_x = path ∧ w2_x = mode ∧ w6_x = 0 ∧ w3_x = 0 ∧ True) ∧ tt))))) else (tt ∧ T1 ∧ tt ∧ (bif e then (tt ∧ T1 ∧ tt ∧ T1 ∧ tt ∧ tt ∧ T1 ∧ tt ∧ (bif f then (tt ∧ T1 ∧ tt ∧ T1 ∧ tt ∧ tt ∧ tt ∧ tt ∧ tt ∧ tt ∧ (k = k ∧ w4_x = num ∧ w0_x = foot ∧ w5_x = rq ∧ w1_x = path ∧ w2_x = 0 ∧ w6_x = n ∧ w3_x = time ∧ True) ∧ tt) else (tt ∧ tt ∧ tt ∧ tt ∧ tt ∧ (k = k ∧ w4_x = num ∧ w0_x = foot ∧ w5_x = rq ∧ w1_x = path ∧ w2_x = 0 ∧ w6_x = n ∧ w3_x = 0 ∧ True) ∧ tt))) else (tt ∧ T1 ∧ tt ∧ (bif f then (tt ∧ T1 ∧ tt ∧ T1 ∧ tt ∧ tt ∧ tt ∧ tt ∧ tt ∧ tt ∧ (k = k ∧ w4_x = num ∧ w0_x = foot ∧ w5_x = rq ∧ w1_x = path ∧ w2_x = 0 ∧ w6_x = 0 ∧ w3_x = time ∧ True) ∧ tt) else (tt ∧ tt ∧ tt ∧ tt ∧ tt ∧ (k = k ∧ w4_x = num ∧ w0_x = foot ∧ w5_x = rq ∧ w1_x = path ∧ w2_x = 0 ∧ w6_x = 0 ∧ w3_x = 0 ∧ True) ∧ tt))))))) else (tt ∧ T1 ∧ tt ∧ (bif d then (tt ∧ T1 ∧ tt ∧ T1 ∧ tt ∧ tt ∧ T1 ∧ tt ∧ (bif e then (tt ∧ T1 ∧ tt ∧ T1 ∧ tt ∧ tt ∧ T1 ∧ tt ∧ (bif f then (tt ∧ T1 ∧ tt ∧ T1 ∧ tt ∧ tt ∧ tt ∧ tt ∧ tt ∧ tt ∧ (k = k ∧ w4_x = num ∧ w0_x = foot ∧ w5_x = rq ∧ w1_x = [] ∧ w2_x = mode ∧ w6_x = n ∧ w3_x = time ∧ True) ∧ tt) else (tt ∧ tt ∧ tt ∧ tt ∧ tt ∧ (k = k ∧ w4_x = num ∧ w0_x = foot ∧ w5_x = rq ∧ w1_x = [] ∧ w2_x = mode ∧ w6_x = n ∧ w3_x = 0 ∧ True) ∧ tt))) else (tt ∧ T1 ∧ tt ∧ (bif f then (tt ∧ T1 ∧ tt ∧ T1 ∧ tt ∧ tt ∧ tt ∧ tt ∧ tt ∧ tt ∧ (k = k ∧ w4_x = num ∧ w0_x = foot ∧ w5_x = rq ∧ w1_x = [] ∧ w2_x = mode ∧ w6_x = 0 ∧ w3_x = time ∧ True) ∧ tt) else (tt ∧ tt ∧ tt ∧ tt ∧ tt ∧ (k = k ∧ w4_x = num ∧ w0_x = foot ∧ w5_x = rq ∧ w1_x = [] ∧ w2_x = mode ∧ w6_x = 0 ∧ w3_x = 0 ∧ True) ∧ tt))))) else (tt ∧ T1 ∧ tt ∧ (bif e then (tt ∧ T1 ∧ tt ∧ T1 ∧ tt ∧ tt ∧ T1 ∧ tt ∧ (bif f then (tt ∧ T1 ∧ tt ∧ T1 ∧ tt ∧ tt ∧ tt ∧ tt ∧ tt ∧ tt ∧ (k = k ∧ w4_x = num ∧ w0_x = foot ∧ w5_x = rq ∧ w1_x = [] ∧ w2_x = 0 ∧ w6_x = n ∧ w3_x = time ∧ True) ∧ tt) else (tt ∧ tt ∧ tt ∧ tt ∧ tt ∧ (k = k ∧ w4_x = num ∧ w0_x = foot ∧ w5_x = rq ∧ w1_x = [] ∧ w2_x = 0 ∧ w6_x = n ∧ w3_x = 0 ∧ True) ∧ tt))) else (tt ∧ T1 ∧ tt ∧ (bif f then (tt ∧ T1 ∧ tt ∧ T1 ∧ tt ∧ tt ∧ tt ∧ tt ∧ tt ∧ tt ∧ (k = k ∧ w4_x = num ∧ w0_x = foot ∧ w5_x = rq ∧ w1_x = [] ∧ w2_x = 0 ∧ w6_x = 0 ∧ w3_x = time ∧ True) ∧ tt) else (tt ∧ tt ∧ tt ∧ tt ∧ tt ∧ (k = k ∧ w4_x = num ∧ w0_x = foot ∧ w5_x = rq ∧ w1_x = [] ∧ w2_x = 0 ∧ w6_x = 0 ∧ w3_x = 0 ∧ True) ∧ tt))))))))) else (tt ∧ T1 ∧ tt ∧ (bif c then (tt ∧ T1 ∧ tt ∧ T1 ∧ tt ∧ tt ∧ T1 ∧ tt ∧ (bif d then (tt ∧ T1 ∧ tt ∧ T1 ∧ tt ∧ tt ∧ T1 ∧ tt ∧ (bif e then (tt ∧ T1 ∧ tt ∧ T1 ∧ tt ∧ tt ∧ T1 ∧ tt ∧ (bif f then (tt ∧ T1 ∧ tt ∧ T1 ∧ tt ∧ tt ∧ tt ∧ tt ∧ tt ∧ tt ∧ (k = k ∧ w4_x = num ∧ w0_x = foot ∧ w5_x = 0 ∧ w1_x = path ∧ w2_x = mode ∧ w6_x = n ∧ w3_x = time ∧ True) ∧ tt) else (tt ∧ tt ∧ tt ∧ tt ∧ tt ∧ (k = k ∧ w4_x = num ∧ w0_x = foot ∧ w5_x = 0 ∧ w1_x = path ∧ w2_x = mode ∧ w6_x = n ∧ w3_x = 0 ∧ True) ∧ tt))) else (tt ∧ T1 ∧ tt ∧ (bif f then (tt ∧ T1 ∧ tt ∧ T1 ∧ tt ∧ tt ∧ tt ∧ tt ∧ tt ∧ tt ∧ (k = k ∧ w4_x = num ∧ w0_x = foot ∧ w5_x = 0 ∧ w1_x = path ∧ w2_x = mode ∧ w6_x = 0 ∧ w3_x = time ∧ True) ∧ tt) else (tt ∧ tt ∧ tt ∧ tt ∧ tt ∧ (k = k ∧ w4_x = num ∧ w0_x = foot ∧ w5_x = 0 ∧ w1_x = path ∧ w2_x = mode ∧ w6_x = 0 ∧ w3_x = 0 ∧ True) ∧ tt))))) else (tt ∧ T1 ∧ tt ∧ (bif e then (tt ∧ T1 ∧ tt ∧ T1 ∧ tt ∧ tt ∧ T1 ∧ tt ∧ (bif f then (tt ∧ T1 ∧ tt ∧ T1 ∧ tt ∧ tt ∧ tt ∧ tt ∧ tt ∧ tt ∧ (k = k ∧ w4_x = num ∧ w0_x = foot ∧ w5_x = 0 ∧ w1_x = path ∧ w2_x = 0 ∧ w6_x = n ∧ w3_x = time ∧ True) ∧ tt) else (tt ∧ tt ∧ tt ∧ tt ∧ tt ∧ (k = k ∧ w4_x = num ∧ w0_x = foot ∧ w5_x = 0 ∧ w1_x = path ∧ w2_x = 0 ∧ w6_x = n ∧ w3_x = 0 ∧ True) ∧ tt))) else (tt ∧ T1 ∧ tt ∧ (bif f then (tt ∧ T1 ∧ tt ∧ T1 ∧ tt ∧ tt ∧ tt ∧ tt ∧ tt ∧ tt ∧ (k = k ∧ w4_x = num ∧ w0_x = foot ∧ w5_x = 0 ∧ w1_x = path ∧ w2_x = 0 ∧ w6_x = 0 ∧ w3_x = time ∧ True) ∧ tt) else (tt ∧ tt ∧ tt ∧ tt ∧ tt ∧ (k = k ∧ w4_x = num ∧ w0_x = foot ∧ w5_x = 0 ∧ w1_x = path ∧ w2_x = 0 ∧ w6_x = 0 ∧ w3_x = 0 ∧ True) ∧ tt))))))) else (tt ∧ T1 ∧ tt ∧ (bif d then (tt ∧ T1 ∧ tt ∧ T1 ∧ tt ∧ tt ∧ T1 ∧ tt ∧ (bif e then (tt ∧ T1 ∧ tt ∧ T1 ∧ tt ∧ tt ∧ T1 ∧ tt ∧ (bif f then (tt ∧ T1 ∧ tt ∧ T1 ∧ tt ∧ tt ∧ tt ∧ tt ∧ tt ∧ tt ∧ (k = k ∧ w4_x = num ∧ w0_x = foot ∧ w5_x = 0 ∧ w1_x = [] ∧ w2_x = mode ∧ w6_x = n ∧ w3_x = time ∧ True) ∧ tt) else (tt ∧ tt ∧ tt ∧ tt ∧ tt ∧ (k = k ∧ w4_x = num ∧ w0_x = foot ∧ w5_x = 0 ∧ w1_x = [] ∧ w2_x = mode ∧ w6_x = n ∧ w3_x = 0 ∧ True) ∧ tt))) else (tt ∧ T1 ∧ tt ∧ (bif f then (tt ∧ T1 ∧ tt ∧ T1 ∧ tt ∧ tt ∧ tt ∧ tt ∧ tt ∧ tt ∧ (k = k ∧ w4_x = num ∧ w0_x = foot ∧ w5_x = 0 ∧ w1_x = [] ∧ w2_x = mode ∧ w6_x = 0 ∧ w3_x = time ∧ True) ∧ tt) else (tt ∧ tt ∧ tt ∧ tt ∧ tt ∧ (k = k ∧ w4_x = num ∧ w0_x = foot ∧ w5_x = 0 ∧ w1_x = [] ∧ w2_x = mode ∧ w6_x = 0 ∧ w3_x = 0 ∧ True) ∧ tt))))) else (tt ∧ T1 ∧ tt ∧ (bif e then (tt ∧ T1 ∧ tt ∧ T1 ∧ tt ∧ tt ∧ T1 ∧ tt ∧ (bif f then (tt ∧ T1 ∧ tt ∧ T1 ∧ tt ∧ tt ∧ tt ∧ tt ∧ tt ∧ tt ∧ (k = k ∧ w4_x = num ∧ w0_x = foot ∧ w5_x = 0 ∧ w1_x = [] ∧ w2_x = 0 ∧ w6_x = n ∧ w3_x = time ∧ True) ∧ tt) else (tt ∧ tt ∧ tt ∧ tt ∧ tt ∧ (k = k ∧ w4_x = num ∧ w0_x = foot ∧ w5_x = 0 ∧ w1_x = [] ∧ w2_x = 0 ∧ w6_x = n ∧ w3_x = 0 ∧ True) ∧ tt))) else (tt ∧ T1 ∧ tt ∧ (bif f then (tt ∧ T1 ∧ tt ∧ T1 ∧ tt ∧ tt ∧ tt ∧ tt ∧ tt ∧ tt ∧ (k = k ∧ w4_x = num ∧ w0_x = foot ∧ w5_x = 0 ∧ w1_x = [] ∧ w2_x = 0 ∧ w6_x = 0 ∧ w3_x = time ∧ True) ∧ tt) else (tt ∧ tt ∧ tt ∧ tt ∧ tt ∧ (k = k ∧ w4_x = num ∧ w0_x = foot ∧ w5_x = 0 ∧ w1_x = [] ∧ w2_x = 0 ∧ w6_x = 0 ∧ w3_x = 0 ∧ True) ∧ tt))))))))))) else (tt ∧ T1 ∧ tt ∧ (bif b then (tt ∧ T1 ∧ tt ∧ T1 ∧ tt ∧ tt ∧ T1 ∧ tt ∧ (bif c then (tt ∧ T1 ∧ tt ∧ T1 ∧ tt ∧ tt ∧ T1 ∧ tt ∧ (bif d then (tt ∧ T1 ∧ tt ∧ T1 ∧ tt ∧ tt ∧ T1 ∧ tt ∧ (bif e then (tt ∧ T1 ∧ tt ∧ T1 ∧ tt ∧ tt ∧ T1 ∧ tt ∧ (bif f then (tt ∧ T1 ∧ tt ∧ T1 ∧ tt ∧ tt ∧ tt ∧ tt ∧ tt ∧ tt ∧ (k = k ∧ w4_x = 0 ∧ w0_x = [] ∧ w5_x = rq ∧ w1_x = path ∧ w2_x = mode ∧ w6_x = n ∧ w3_x = time ∧ True) ∧ tt) else (tt ∧ tt ∧ tt ∧ tt ∧ tt ∧ (k = k ∧ w4_x = 0 ∧ w0_x = [] ∧ w5_x = rq ∧ w1_x = path ∧ w2_x = mode ∧ w6_x = n ∧ w3_x = 0 ∧ True) ∧ tt))) else (tt ∧ T1 ∧ tt ∧ (bif f then (tt ∧ T1 ∧ tt ∧ T1 ∧ tt ∧ tt ∧ tt ∧ tt ∧ tt ∧ tt ∧ (k = k ∧ w4_x = 0 ∧ w0_x = [] ∧ w5_x = rq ∧ w1_x = path ∧ w2_x = mode ∧ w6_x = 0 ∧ w3_x = time ∧ True) ∧ tt) else (tt ∧ tt ∧ tt ∧ tt ∧ tt ∧ (k = k ∧ w4_x = 0 ∧ w0_x = [] ∧ w5_x = rq ∧ w1_x = path ∧ w2_x = mode ∧ w6_x = 0 ∧ w3_x = 0 ∧ True) ∧ tt))))) else (tt ∧ T1 ∧ tt ∧ (bif e then (tt ∧ T1 ∧ tt ∧ T1 ∧ tt ∧ tt ∧ T1 ∧ tt ∧ (bif f then (tt ∧ T1 ∧ tt ∧ T1 ∧ tt ∧ tt ∧ tt ∧ tt ∧ tt ∧ tt ∧ (k = k ∧ w4_x = 0 ∧ w0_x = [] ∧ w5_x = rq ∧ w1_x = path ∧ w2_x = 0 ∧ w6_x = n ∧ w3_x = time ∧ True) ∧ tt) else (tt ∧ tt ∧ tt ∧ tt ∧ tt ∧ (k = k ∧ w4_x = 0 ∧ w0_x = [] ∧ w5_x = rq ∧ w1_x = path ∧ w2_x = 0 ∧ w6_x = n ∧ w3_x = 0 ∧ True) ∧ tt))) else (tt ∧ T1 ∧ tt ∧ (bif f then (tt ∧ T1 ∧ tt ∧ T1 ∧ tt ∧ tt ∧ tt ∧ tt ∧ tt ∧ tt ∧ (k = k ∧ w4_x = 0 ∧ w0_x = [] ∧ w5_x = rq ∧ w1_x = path ∧ w2_x = 0 ∧ w6_x = 0 ∧ w3_x = time ∧ True) ∧ tt) else (tt ∧ tt ∧ tt ∧ tt ∧ tt ∧ (k = k ∧ w4_x = 0 ∧ w0_x = [] ∧ w5_x = rq ∧ w1_x = path ∧ w2_x = 0 ∧ w6_x = 0 ∧ w3_x = 0 ∧ True) ∧ tt))))))) else (tt ∧ T1 ∧ tt ∧ (bif d then (tt ∧ T1 ∧ tt ∧ T1 ∧ tt ∧ tt ∧ T1 ∧ tt ∧ (bif e then (tt ∧ T1 ∧ tt ∧ T1 ∧ tt ∧ tt ∧ T1 ∧ tt ∧ (bif f then (tt ∧ T1 ∧ tt ∧ T1 ∧ tt ∧ tt ∧ tt ∧ tt ∧ tt ∧ tt ∧ (k = k ∧ w4_x = 0 ∧ w0_x = [] ∧ w5_x = rq ∧ w1_x = [] ∧ w2_x = mode ∧ w6_x = n ∧ w3_x = time ∧ True) ∧ tt) else (tt ∧ tt ∧ tt ∧ tt ∧ tt ∧ (k = k ∧ w4_x = 0 ∧ w0_x = [] ∧ w5_x = rq ∧ w1_x = [] ∧ w2_x = mode ∧ w6_x = n ∧ w3_x = 0 ∧ True) ∧ tt))) else (tt ∧ T1 ∧ tt ∧ (bif f then (tt ∧ T1 ∧ tt ∧ T1 ∧ tt ∧ tt ∧ tt ∧ tt ∧ tt ∧ tt ∧ (k = k ∧ w4_x = 0 ∧ w0_x = [] ∧ w5_x = rq ∧ w1_x = [] ∧ w2_x = mode ∧ w6_x = 0 ∧ w3_x = time ∧ True) ∧ tt) else (tt ∧ tt ∧ tt ∧ tt ∧ tt ∧ (k = k ∧ w4_x = 0 ∧ w0_x = [] ∧ w5_x = rq ∧ w1_x = [] ∧ w2_x = mode ∧ w6_x = 0 ∧ w3_x = 0 ∧ True) ∧ tt))))) else (tt ∧ T1 ∧ tt ∧ (bif e then (tt ∧ T1 ∧ tt ∧ T1 ∧ tt ∧ tt ∧ T1 ∧ tt ∧ (bif f then (tt ∧ T1 ∧ tt ∧ T1 ∧ tt ∧ tt ∧ tt ∧ tt ∧ tt ∧ tt ∧ (k = k ∧ w4_x = 0 ∧ w0_x = [] ∧ w5_x = rq ∧ w1_x = [] ∧ w2_x = 0 ∧ w6_x = n ∧ w3_x = time ∧ True) ∧ tt) else (tt ∧ tt ∧ tt ∧ tt ∧ tt ∧ (k = k ∧ w4_x = 0 ∧ w0_x = [] ∧ w5_x = rq ∧ w1_x = [] ∧ w2_x = 0 ∧ w6_x = n ∧ w3_x = 0 ∧ True) ∧ tt))) else (tt ∧ T1 ∧ tt ∧ (bif f then (tt ∧ T1 ∧ tt ∧ T1 ∧ tt ∧ tt ∧ tt ∧ tt ∧ tt ∧ tt ∧ (k = k ∧ w4_x = 0 ∧ w0_x = [] ∧ w5_x = rq ∧ w1_x = [] ∧ w2_x = 0 ∧ w6_x = 0 ∧ w3_x = time ∧ True) ∧ tt) else (tt ∧ tt ∧ tt ∧ tt ∧ tt ∧ (k = k ∧ w4_x = 0 ∧ w0_x = [] ∧ w5_x = rq ∧ w1_x = [] ∧ w2_x = 0 ∧ w6_x = 0 ∧ w3_x = 0 ∧ True) ∧ tt))))))))) else (tt ∧ T1 ∧ tt ∧ (bif c then (tt ∧ T1 ∧ tt ∧ T1 ∧ tt ∧ tt ∧ T1 ∧ tt ∧ (bif d then (tt ∧ T1 ∧ tt ∧ T1 ∧ tt ∧ tt ∧ T1 ∧ tt ∧ (bif e then (tt ∧ T1 ∧ tt ∧ T1 ∧ tt ∧ tt ∧ T1 ∧ tt ∧ (bif f then (tt ∧ T1 ∧ tt ∧ T1 ∧ tt ∧ tt ∧ tt ∧ tt ∧ tt ∧ tt ∧ (k = k ∧ w4_x = 0 ∧ w0_x = [] ∧ w5_x = 0 ∧ w1_x = path ∧ w2_x = mode ∧ w6_x = n ∧ w3_x = time ∧ True) ∧ tt) else (tt ∧ tt ∧ tt ∧ tt ∧ tt ∧ (k = k ∧ w4_x = 0 ∧ w0_x = [] ∧ w5_x = 0 ∧ w1_x = path ∧ w2_x = mode ∧ w6_x = n ∧ w3_x = 0 ∧ True) ∧ tt))) else (tt ∧ T1 ∧ tt ∧ (bif f then (tt ∧ T1 ∧ tt ∧ T1 ∧ tt ∧ tt ∧ tt ∧ tt ∧ tt ∧ tt ∧ (k = k ∧ w4_x = 0 ∧ w0_x = [] ∧ w5_x = 0 ∧ w1_x = path ∧ w2_x = mode ∧ w6_x = 0 ∧ w3_x = time ∧ True) ∧ tt) else (tt ∧ tt ∧ tt ∧ tt ∧ tt ∧ (k = k ∧ w4_x = 0 ∧ w0_x = [] ∧ w5_x = 0 ∧ w1_x = path ∧ w2_x = mode ∧ w6_x = 0 ∧ w3_x = 0 ∧ True) ∧ tt))))) else (tt ∧ T1 ∧ tt ∧ (bif e then (tt ∧ T1 ∧ tt ∧ T1 ∧ tt ∧ tt ∧ T1 ∧ tt ∧ (bif f then (tt ∧ T1 ∧ tt ∧ T1 ∧ tt ∧ tt ∧ tt ∧ tt ∧ tt ∧ tt ∧ (k = k ∧ w4_x = 0 ∧ w0_x = [] ∧ w5_x = 0 ∧ w1_x = path ∧ w2_x = 0 ∧ w6_x = n ∧ w3_x = time ∧ True) ∧ tt) else (tt ∧ tt ∧ tt ∧ tt ∧ tt ∧ (k = k ∧ w4_x = 0 ∧ w0_x = [] ∧ w5_x = 0 ∧ w1_x = path ∧ w2_x = 0 ∧ w6_x = n ∧ w3_x = 0 ∧ True) ∧ tt))) else (tt ∧ T1 ∧ tt ∧ (bif f then (tt ∧ T1 ∧ tt ∧ T1 ∧ tt ∧ tt ∧ tt ∧ tt ∧ tt ∧ tt ∧ (k = k ∧ w4_x = 0 ∧ w0_x = [] ∧ w5_x = 0 ∧ w1_x = path ∧ w2_x = 0 ∧ w6_x = 0 ∧ w3_x = time ∧ True) ∧ tt) else (tt ∧ tt ∧ tt ∧ tt ∧ tt ∧ (k = k ∧ w4_x = 0 ∧ w0_x = [] ∧ w5_x = 0 ∧ w1_x = path ∧ w2_x = 0 ∧ w6_x = 0 ∧ w3_x = 0 ∧ True) ∧ tt))))))) else (tt ∧ T1 ∧ tt ∧ (bif d then (tt ∧ T1 ∧ tt ∧ T1 ∧ tt ∧ tt ∧ T1 ∧ tt ∧ (bif e then (tt ∧ T1 ∧ tt ∧ T1 ∧ tt ∧ tt ∧ T1 ∧ tt ∧ (bif f then (tt ∧ T1 ∧ tt ∧ T1 ∧ tt ∧ tt ∧ tt ∧ tt ∧ tt ∧ tt ∧ (k = k ∧ w4_x = 0 ∧ w0_x = [] ∧ w5_x = 0 ∧ w1_x = [] ∧ w2_x = mode ∧ w6_x = n ∧ w3_x = time ∧ True) ∧ tt) else (tt ∧ tt ∧ tt ∧ tt ∧ tt ∧ (k = k ∧ w4_x = 0 ∧ w0_x = [] ∧ w5_x = 0 ∧ w1_x = [] ∧ w2_x = mode ∧ w6_x = n ∧ w3_x = 0 ∧ True) ∧ tt))) else (tt ∧ T1 ∧ tt ∧ (bif f then (tt ∧ T1 ∧ tt ∧ T1 ∧ tt ∧ tt ∧ tt ∧ tt ∧ tt ∧ tt ∧ (k = k ∧ w4_x = 0 ∧ w0_x = [] ∧ w5_x = 0 ∧ w1_x = [] ∧ w2_x = mode ∧ w6_x = 0 ∧ w3_x = time ∧ True) ∧ tt) else (tt ∧ tt ∧ tt ∧ tt ∧ tt ∧ (k = k ∧ w4_x = 0 ∧ w0_x = [] ∧ w5_x = 0 ∧ w1_x = [] ∧ w2_x = mode ∧ w6_x = 0 ∧ w3_x = 0 ∧ True) ∧ tt))))) else (tt ∧ T1 ∧ tt ∧ (bif e then (tt ∧ T1 ∧ tt ∧ T1 ∧ tt ∧ tt ∧ T1 ∧ tt ∧ (bif f then (tt ∧ T1 ∧ tt ∧ T1 ∧ tt ∧ tt ∧ tt ∧ tt ∧ tt ∧ tt ∧ (k = k ∧ w4_x = 0 ∧ w0_x = [] ∧ w5_x = 0 ∧ w1_x = [] ∧ w2_x = 0 ∧ w6_x = n ∧ w3_x = time ∧ True) ∧ tt) else (tt ∧ tt ∧ tt ∧ tt ∧ tt ∧ (k = k ∧ w4_x = 0 ∧ w0_x = [] ∧ w5_x = 0 ∧ w1_x = [] ∧ w2_x = 0 ∧ w6_x = n ∧ w3_x = 0 ∧ True) ∧ tt))) else (tt ∧ T1 ∧ tt ∧ (bif f then (tt ∧ T1 ∧ tt ∧ T1 ∧ tt ∧ tt ∧ tt ∧ tt ∧ tt ∧ tt ∧ (k = k ∧ w4_x = 0 ∧ w0_x = [] ∧ w5_x = 0 ∧ w1_x = [] ∧ w2_x = 0 ∧ w6_x = 0 ∧ w3_x = time ∧ True) ∧ tt) else (tt ∧ tt ∧ tt ∧ tt ∧ tt ∧ (k = k ∧ w4_x = 0 ∧ w0_x = [] ∧ w5_x = 0 ∧ w1_x = [] ∧ w2_x = 0 ∧ w6_x = 0 ∧ w3_x = 0 ∧ True) ∧ tt)))))))))))))) : inBare0 k num foot rq path mode n time a b c d e f :=
  Eq.mp (show _ = _ by kernel_rfl) h
theorem vcCright0 (k : Int) (num : Int) (foot : (List UInt8)) (rq : Int) (path : (List UInt8)) (mode : Int) (n : Int) (time : Int) (h : let q0 := (rightC (CmdP.mk k num foot rq path mode n time)); let q1 := (mostK k); let q2 := (Bool.not (rightP path)); let w6_x := (T1 ∧ (List.length path) ≤ 1000000); let w7_x := (q0 = false ∧ True); let w0_x := (bif (decide ((0 : Int) ≤ time)) then (T1 ∧ tt ∧ T1 ∧ T1 ∧ T1 ∧ tt ∧ tt ∧ (q0 = (decide (time ≤ 1099511627776)) ∧ True) ∧ tt) else (false = false ∧ T1 ∧ tt ∧ tt ∧ w7_x ∧ tt)); let w1_x := (tt ∧ T1 ∧ tt ∧ tt ∧ w7_x ∧ tt); let w2_x := (tt ∧ T1 ∧ T1 ∧ tt ∧ tt ∧ T1 ∧ tt ∧ tt ∧ w7_x ∧ tt); let w3_x := (false = false ∧ T1 ∧ tt ∧ tt ∧ T1 ∧ tt ∧ T1 ∧ T1 ∧ w0_x); let w4_x := (tt ∧ T1 ∧ tt ∧ T1 ∧ T1 ∧ w0_x); let w5_x := (bif (mode != 2) then w1_x else w4_x); (tt ∧ T1 ∧ T1 ∧ tt ∧ T1 ∧ tt ∧ (T1 ∧ True) ∧ T1 ∧ T1 ∧ T1 ∧ T1 ∧ tt ∧ T1 ∧ tt ∧ T1 ∧ T1 ∧ T1 ∧ (bif (Bool.not (okK k)) then (tt ∧ T1 ∧ tt ∧ tt ∧ T1 ∧ tt ∧ tt ∧ w7_x ∧ tt) else (tt ∧ tt ∧ tt ∧ (T1 ∧ True) ∧ ∀ v0 : Int, (v0 = k) → ∀ v2 : Int, (v2 = (@cond.{1} Int (hS k) num (0 : Int))) → ∀ v4 : (List UInt8), (v4 = (@cond.{1} (List UInt8) (hS k) foot (@List.nil.{0} UInt8))) → ∀ v6 : Int, (v6 = (@cond.{1} Int (hR k) rq (0 : Int))) → ∀ v8 : (List UInt8), (v8 = (@cond.{1} (List UInt8) (hP k) path (@List.nil.{0} UInt8))) → ∀ v10 : Int, (v10 = (@cond.{1} Int (hM k) mode (0 : Int))) → ∀ v12 : Int, (v12 = (@cond.{1} Int (hN k) n (0 : Int))) → ∀ v14 : Int, (v14 = (@cond.{1} Int (hT k) time (0 : Int))) → T1 ∧ T1 ∧ T1 ∧ tt ∧ (bif (Bool.not (Bool.and (k == v0) (Bool.and (num == v2) (Bool.and (@BEq.beq.{0} (List UInt8) (@List.instBEq.{0} UInt8 (@instBEqOfDecidableEq.{0} UInt8 instDecidableEqUInt8)) foot v4) (Bool.and (rq == v6) (Bool.and (@BEq.beq.{0} (List UInt8) (@List.instBEq.{0} UInt8 (@instBEqOfDecidableEq.{0} UInt8 instDecidableEqUInt8)) path v8) (Bool.and (mode == v10) (Bool.and (n == v12) (Bool.and (time == v14) true))))))))) then w1_x else (tt ∧ T1 ∧ tt ∧ T1 ∧ (bif (hS k) then (T1 ∧ T1 ∧ tt ∧ (T1 ∧ (List.length foot) ≤ 1000000) ∧ T1 ∧ T1 ∧ T1 ∧ (bif (Bool.not (rightP foot)) then (bif (Bool.not (rightP foot)) then w1_x else (tt ∧ T1 ∧ tt ∧ T1 ∧ (bif (hM k) then (T1 ∧ tt ∧ T1 ∧ T1 ∧ T1 ∧ (bif (mode != 1) then (T1 ∧ tt ∧ T1 ∧ T1 ∧ T1 ∧ (bif (mode != 2) then w5_x else (tt ∧ T1 ∧ tt ∧ T1 ∧ (bif (hN k) then (T1 ∧ tt ∧ T1 ∧ T1 ∧ (bif (n == 0) then w2_x else (T1 ∧ tt ∧ T1 ∧ tt ∧ (T1 ∧ True) ∧ ∀ v16 : Int, (v16 = q1) → T1 ∧ T1 ∧ T1 ∧ T1 ∧ tt ∧ (bif (decide (v16 < n)) then w1_x else w4_x)))) else w3_x)))) else (false = false ∧ T1 ∧ tt ∧ T1 ∧ tt ∧ T1 ∧ (bif (hN k) then (T1 ∧ tt ∧ T1 ∧ T1 ∧ (bif (n == 0) then w2_x else (T1 ∧ tt ∧ T1 ∧ tt ∧ (T1 ∧ True) ∧ ∀ v16 : Int, (v16 = q1) → T1 ∧ T1 ∧ T1 ∧ T1 ∧ tt ∧ (bif (decide (v16 < n)) then w1_x else w4_x)))) else w3_x)))) else (false = false ∧ T1 ∧ false = false ∧ T1 ∧ tt ∧ T1 ∧ tt ∧ T1 ∧ (bif (hN k) then (T1 ∧ tt ∧ T1 ∧ T1 ∧ (bif (n == 0) then w2_x else (T1 ∧ tt ∧ T1 ∧ tt ∧ (T1 ∧ True) ∧ ∀ v16 : Int, (v16 = q1) → T1 ∧ T1 ∧ T1 ∧ T1 ∧ tt ∧ (bif (decide (v16 < n)) then w1_x else w4_x)))) else w3_x))))) else (tt ∧ T1 ∧ tt ∧ T1 ∧ (bif (hR k) then (T1 ∧ tt ∧ T1 ∧ T1 ∧ T1 ∧ (bif (rq == 0) then (bif (rq == 0) then w1_x else (tt ∧ T1 ∧ tt ∧ T1 ∧ (bif (hM k) then (T1 ∧ tt ∧ T1 ∧ T1 ∧ T1 ∧ (bif (mode != 1) then (T1 ∧ tt ∧ T1 ∧ T1 ∧ T1 ∧ (bif (mode != 2) then w5_x else (tt ∧ T1 ∧ tt ∧ T1 ∧ (bif (hN k) then (T1 ∧ tt ∧ T1 ∧ T1 ∧ (bif (n == 0) then w2_x else (T1 ∧ tt ∧ T1 ∧ tt ∧ (T1 ∧ True) ∧ ∀ v16 : Int, (v16 = q1) → T1 ∧ T1 ∧ T1 ∧ T1 ∧ tt ∧ (bif (decide (v16 < n)) then w1_x else w4_x)))) else w3_x)))) else (false = false ∧ T1 ∧ tt ∧ T1 ∧ tt ∧ T1 ∧ (bif (hN k) then (T1 ∧ tt ∧ T1 ∧ T1 ∧ (bif (n == 0) then w2_x else (T1 ∧ tt ∧ T1 ∧ tt ∧ (T1 ∧ True) ∧ ∀ v16 : Int, (v16 = q1) → T1 ∧ T1 ∧ T1 ∧ T1 ∧ tt ∧ (bif (decide (v16 < n)) then w1_x else w4_x)))) else w3_x)))) else (false = false ∧ T1 ∧ false = false ∧ T1 ∧ tt ∧ T1 ∧ tt ∧ T1 ∧ (bif (hN k) then (T1 ∧ tt ∧ T1 ∧ T1 ∧ (bif (n == 0) then w2_x else (T1 ∧ tt ∧ T1 ∧ tt ∧ (T1 ∧ True) ∧ ∀ v16 : Int, (v16 = q1) → T1 ∧ T1 ∧ T1 ∧ T1 ∧ tt ∧ (bif (decide (v16 < n)) then w1_x else w4_x)))) else w3_x))))) else (tt ∧ T1 ∧ tt ∧ T1 ∧ (bif (hP k) then (T1 ∧ tt ∧ w6_x ∧ T1 ∧ T1 ∧ T1 ∧ (bif q2 then w1_x else (tt ∧ T1 ∧ tt ∧ T1 ∧ (bif (hM k) then (T1 ∧ tt ∧ T1 ∧ T1 ∧ T1 ∧ (bif (mode != 1) then (T1 ∧ tt ∧ T1 ∧ T1 ∧ T1 ∧ (bif (mode != 2) then w5_x else (tt ∧ T1 ∧ tt ∧ T1 ∧ (bif (hN k) then (T1 ∧ tt ∧ T1 ∧ T1 ∧ (bif (n == 0) then w2_x else (T1 ∧ tt ∧ T1 ∧ tt ∧ (T1 ∧ True) ∧ ∀ v16 : Int, (v16 = q1) → T1 ∧ T1 ∧ T1 ∧ T1 ∧ tt ∧ (bif (decide (v16 < n)) then w1_x else w4_x)))) else w3_x)))) else (false = false ∧ T1 ∧ tt ∧ T1 ∧ tt ∧ T1 ∧ (bif (hN k) then (T1 ∧ tt ∧ T1 ∧ T1 ∧ (bif (n == 0) then w2_x else (T1 ∧ tt ∧ T1 ∧ tt ∧ (T1 ∧ True) ∧ ∀ v16 : Int, (v16 = q1) → T1 ∧ T1 ∧ T1 ∧ T1 ∧ tt ∧ (bif (decide (v16 < n)) then w1_x else w4_x)))) else w3_x)))) else (false = false ∧ T1 ∧ false = false ∧ T1 ∧ tt ∧ T1 ∧ tt ∧ T1 ∧ (bif (hN k) then (T1 ∧ tt ∧ T1 ∧ T1 ∧ (bif (n == 0) then w2_x else (T1 ∧ tt ∧ T1 ∧ tt ∧ (T1 ∧ True) ∧ ∀ v16 : Int, (v16 = q1) → T1 ∧ T1 ∧ T1 ∧ T1 ∧ tt ∧ (bif (decide (v16 < n)) then w1_x else w4_x)))) else w3_x)))))) else (false = false ∧ T1 ∧ tt ∧ T1 ∧ tt ∧ T1 ∧ (bif (hM k) then (T1 ∧ tt ∧ T1 ∧ T1 ∧ T1 ∧ (bif (mode != 1) then (T1 ∧ tt ∧ T1 ∧ T1 ∧ T1 ∧ (bif (mode != 2) then w5_x else (tt ∧ T1 ∧ tt ∧ T1 ∧ (bif (hN k) then (T1 ∧ tt ∧ T1 ∧ T1 ∧ (bif (n == 0) then w2_x else (T1 ∧ tt ∧ T1 ∧ tt ∧ (T1 ∧ True) ∧ ∀ v16 : Int, (v16 = q1) → T1 ∧ T1 ∧ T1 ∧ T1 ∧ tt ∧ (bif (decide (v16 < n)) then w1_x else w4_x)))) else w3_x)))) else (false = false ∧ T1 ∧ tt ∧ T1 ∧ tt ∧ T1 ∧ (bif (hN k) then (T1 ∧ tt ∧ T1 ∧ T1 ∧ (bif (n == 0) then w2_x else (T1 ∧ tt ∧ T1 ∧ tt ∧ (T1 ∧ True) ∧ ∀ v16 : Int, (v16 = q1) → T1 ∧ T1 ∧ T1 ∧ T1 ∧ tt ∧ (bif (decide (v16 < n)) then w1_x else w4_x)))) else w3_x)))) else (false = false ∧ T1 ∧ false = false ∧ T1 ∧ tt ∧ T1 ∧ tt ∧ T1 ∧ (bif (hN k) then (T1 ∧ tt ∧ T1 ∧ T1 ∧ (bif (n == 0) then w2_x else (T1 ∧ tt ∧ T1 ∧ tt ∧ (T1 ∧ True) ∧ ∀ v16 : Int, (v16 = q1) → T1 ∧ T1 ∧ T1 ∧ T1 ∧ tt ∧ (bif (decide (v16 < n)) then w1_x else w4_x)))) else w3_x)))))))) else (false = false ∧ T1 ∧ tt ∧ T1 ∧ tt ∧ T1 ∧ (bif (hP k) then (T1 ∧ tt ∧ w6_x ∧ T1 ∧ T1 ∧ T1 ∧ (bif q2 then w1_x else (tt ∧ T1 ∧ tt ∧ T1 ∧ (bif (hM k) then (T1 ∧ tt ∧ T1 ∧ T1 ∧ T1 ∧ (bif (mode != 1) then (T1 ∧ tt ∧ T1 ∧ T1 ∧ T1 ∧ (bif (mode != 2) then w5_x else (tt ∧ T1 ∧ tt ∧ T1 ∧ (bif (hN k) then (T1 ∧ tt ∧ T1 ∧ T1 ∧ (bif (n == 0) then w2_x else (T1 ∧ tt ∧ T1 ∧ tt ∧ (T1 ∧ True) ∧ ∀ v16 : Int, (v16 = q1) → T1 ∧ T1 ∧ T1 ∧ T1 ∧ tt ∧ (bif (decide (v16 < n)) then w1_x else w4_x)))) else w3_x)))) else (false = false ∧ T1 ∧ tt ∧ T1 ∧ tt ∧ T1 ∧ (bif (hN k) then (T1 ∧ tt ∧ T1 ∧ T1 ∧ (bif (n == 0) then w2_x else (T1 ∧ tt ∧ T1 ∧ tt ∧ (T1 ∧ True) ∧ ∀ v16 : Int, (v16 = q1) → T1 ∧ T1 ∧ T1 ∧ T1 ∧ tt ∧ (bif (decide (v16 < n)) then w1_x else w4_x)))) else w3_x)))) else (false = false ∧ T1 ∧ false = false ∧ T1 ∧ tt ∧ T1 ∧ tt ∧ T1 ∧ (bif (hN k) then (T1 ∧ tt ∧ T1 ∧ T1 ∧ (bif (n == 0) then w2_x else (T1 ∧ tt ∧ T1 ∧ tt ∧ (T1 ∧ True) ∧ ∀ v16 : Int, (v16 = q1) → T1 ∧ T1 ∧ T1 ∧ T1 ∧ tt ∧ (bif (decide (v16 < n)) then w1_x else w4_x)))) else w3_x)))))) else (false = false ∧ T1 ∧ tt ∧ T1 ∧ tt ∧ T1 ∧ (bif (hM k) then (T1 ∧ tt ∧ T1 ∧ T1 ∧ T1 ∧ (bif (mode != 1) then (T1 ∧ tt ∧ T1 ∧ T1 ∧ T1 ∧ (bif (mode != 2) then w5_x else (tt ∧ T1 ∧ tt ∧ T1 ∧ (bif (hN k) then (T1 ∧ tt ∧ T1 ∧ T1 ∧ (bif (n == 0) then w2_x else (T1 ∧ tt ∧ T1 ∧ tt ∧ (T1 ∧ True) ∧ ∀ v16 : Int, (v16 = q1) → T1 ∧ T1 ∧ T1 ∧ T1 ∧ tt ∧ (bif (decide (v16 < n)) then w1_x else w4_x)))) else w3_x)))) else (false = false ∧ T1 ∧ tt ∧ T1 ∧ tt ∧ T1 ∧ (bif (hN k) then (T1 ∧ tt ∧ T1 ∧ T1 ∧ (bif (n == 0) then w2_x else (T1 ∧ tt ∧ T1 ∧ tt ∧ (T1 ∧ True) ∧ ∀ v16 : Int, (v16 = q1) → T1 ∧ T1 ∧ T1 ∧ T1 ∧ tt ∧ (bif (decide (v16 < n)) then w1_x else w4_x)))) else w3_x)))) else (false = false ∧ T1 ∧ false = false ∧ T1 ∧ tt ∧ T1 ∧ tt ∧ T1 ∧ (bif (hN k) then (T1 ∧ tt ∧ T1 ∧ T1 ∧ (bif (n == 0) then w2_x else (T1 ∧ tt ∧ T1 ∧ tt ∧ (T1 ∧ True) ∧ ∀ v16 : Int, (v16 = q1) → T1 ∧ T1 ∧ T1 ∧ T1 ∧ tt ∧ (bif (decide (v16 < n)) then w1_x else w4_x)))) else w3_x)))))))))) else (false = false ∧ T1 ∧ tt ∧ T1 ∧ tt ∧ T1 ∧ (bif (hR k) then (T1 ∧ tt ∧ T1 ∧ T1 ∧ T1 ∧ (bif (rq == 0) then (bif (rq == 0) then w1_x else (tt ∧ T1 ∧ tt ∧ T1 ∧ (bif (hM k) then (T1 ∧ tt ∧ T1 ∧ T1 ∧ T1 ∧ (bif (mode != 1) then (T1 ∧ tt ∧ T1 ∧ T1 ∧ T1 ∧ (bif (mode != 2) then w5_x else (tt ∧ T1 ∧ tt ∧ T1 ∧ (bif (hN k) then (T1 ∧ tt ∧ T1 ∧ T1 ∧ (bif (n == 0) then w2_x else (T1 ∧ tt ∧ T1 ∧ tt ∧ (T1 ∧ True) ∧ ∀ v16 : Int, (v16 = q1) → T1 ∧ T1 ∧ T1 ∧ T1 ∧ tt ∧ (bif (decide (v16 < n)) then w1_x else w4_x)))) else w3_x)))) else (false = false ∧ T1 ∧ tt ∧ T1 ∧ tt ∧ T1 ∧ (bif (hN k) then (T1 ∧ tt ∧ T1 ∧ T1 ∧ (bif (n == 0) then w2_x else (T1 ∧ tt ∧ T1 ∧ tt ∧ (T1 ∧ True) ∧ ∀ v16 : Int, (v16 = q1) → T1 ∧ T1 ∧ T1 ∧ T1 ∧ tt ∧ (bif (decide (v16 < n)) then w1_x else w4_x)))) else w3_x)))) else (false = false ∧ T1 ∧ false = false ∧ T1 ∧ tt ∧ T1 ∧ tt ∧ T1 ∧ (bif (hN k) then (T1 ∧ tt ∧ T1 ∧ T1 ∧ (bif (n == 0) then w2_x else (T1 ∧ tt ∧ T1 ∧ tt ∧ (T1 ∧ True) ∧ ∀ v16 : Int, (v16 = q1) → T1 ∧ T1 ∧ T1 ∧ T1 ∧ tt ∧ (bif (decide (v16 < n)) then w1_x else w4_x)))) else w3_x))))) else (tt ∧ T1 ∧ tt ∧ T1 ∧ (bif (hP k) then (T1 ∧ tt ∧ w6_x ∧ T1 ∧ T1 ∧ T1 ∧ (bif q2 then w1_x else (tt ∧ T1 ∧ tt ∧ T1 ∧ (bif (hM k) then (T1 ∧ tt ∧ T1 ∧ T1 ∧ T1 ∧ (bif (mode != 1) then (T1 ∧ tt ∧ T1 ∧ T1 ∧ T1 ∧ (bif (mode != 2) then w5_x else (tt ∧ T1 ∧ tt ∧ T1 ∧ (bif (hN k) then (T1 ∧ tt ∧ T1 ∧ T1 ∧ (bif (n == 0) then w2_x else (T1 ∧ tt ∧ T1 ∧ tt ∧ (T1 ∧ True) ∧ ∀ v16 : Int, (v16 = q1) → T1 ∧ T1 ∧ T1 ∧ T1 ∧ tt ∧ (bif (decide (v16 < n)) then w1_x else w4_x)))) else w3_x)))) else (false = false ∧ T1 ∧ tt ∧ T1 ∧ tt ∧ T1 ∧ (bif (hN k) then (T1 ∧ tt ∧ T1 ∧ T1 ∧ (bif (n == 0) then w2_x else (T1 ∧ tt ∧ T1 ∧ tt ∧ (T1 ∧ True) ∧ ∀ v16 : Int, (v16 = q1) → T1 ∧ T1 ∧ T1 ∧ T1 ∧ tt ∧ (bif (decide (v16 < n)) then w1_x else w4_x)))) else w3_x)))) else (false = false ∧ T1 ∧ false = false ∧ T1 ∧ tt ∧ T1 ∧ tt ∧ T1 ∧ (bif (hN k) then (T1 ∧ tt ∧ T1 ∧ T1 ∧ (bif (n == 0) then w2_x else (T1 ∧ tt ∧ T1 ∧ tt ∧ (T1 ∧ True) ∧ ∀ v16 : Int, (v16 = q1) → T1 ∧ T1 ∧ T1 ∧ T1 ∧ tt ∧ (bif (decide (v16 < n)) then w1_x else w4_x)))) else w3_x)))))) else (false = false ∧ T1 ∧ tt ∧ T1 ∧ tt ∧ T1 ∧ (bif (hM k) then (T1 ∧ tt ∧ T1 ∧ T1 ∧ T1 ∧ (bif (mode != 1) then (T1 ∧ tt ∧ T1 ∧ T1 ∧ T1 ∧ (bif (mode != 2) then w5_x else (tt ∧ T1 ∧ tt ∧ T1 ∧ (bif (hN k) then (T1 ∧ tt ∧ T1 ∧ T1 ∧ (bif (n == 0) then w2_x else (T1 ∧ tt ∧ T1 ∧ tt ∧ (T1 ∧ True) ∧ ∀ v16 : Int, (v16 = q1) → T1 ∧ T1 ∧ T1 ∧ T1 ∧ tt ∧ (bif (decide (v16 < n)) then w1_x else w4_x)))) else w3_x)))) else (false = false ∧ T1 ∧ tt ∧ T1 ∧ tt ∧ T1 ∧ (bif (hN k) then (T1 ∧ tt ∧ T1 ∧ T1 ∧ (bif (n == 0) then w2_x else (T1 ∧ tt ∧ T1 ∧ tt ∧ (T1 ∧ True) ∧ ∀ v16 : Int, (v16 = q1) → T1 ∧ T1 ∧ T1 ∧ T1 ∧ tt ∧ (bif (decide (v16 < n)) then w1_x else w4_x)))) else w3_x)))) else (false = false ∧ T1 ∧ false = false ∧ T1 ∧ tt ∧ T1 ∧ tt ∧ T1 ∧ (bif (hN k) then (T1 ∧ tt ∧ T1 ∧ T1 ∧ (bif (n == 0) then w2_x else (T1 ∧ tt ∧ T1 ∧ tt ∧ (T1 ∧ True) ∧ ∀ v16 : Int, (v16 = q1) → T1 ∧ T1 ∧ T1 ∧ T1 ∧ tt ∧ (bif (decide (v16 < n)) then w1_x else w4_x)))) else w3_x)))))))) else (false = false ∧ T1 ∧ tt ∧ T1 ∧ tt ∧ T1 ∧ (bif (hP k) then (T1 ∧ tt ∧ w6_x ∧ T1 ∧ T1 ∧ T1 ∧ (bif q2 then w1_x else (tt ∧ T1 ∧ tt ∧ T1 ∧ (bif (hM k) then (T1 ∧ tt ∧ T1 ∧ T1 ∧ T1 ∧ (bif (mode != 1) then (T1 ∧ tt ∧ T1 ∧ T1 ∧ T1 ∧ (bif (mode != 2) then w5_x else (tt ∧ T1 ∧ tt ∧ T1 ∧ (bif (hN k) then (T1 ∧ tt ∧ T1 ∧ T1 ∧ (bif (n == 0) then w2_x else (T1 ∧ tt ∧ T1 ∧ tt ∧ (T1 ∧ True) ∧ ∀ v16 : Int, (v16 = q1) → T1 ∧ T1 ∧ T1 ∧ T1 ∧ tt ∧ (bif (decide (v16 < n)) then w1_x else w4_x)))) else w3_x)))) else (false = false ∧ T1 ∧ tt ∧ T1 ∧ tt ∧ T1 ∧ (bif (hN k) then (T1 ∧ tt ∧ T1 ∧ T1 ∧ (bif (n == 0) then w2_x else (T1 ∧ tt ∧ T1 ∧ tt ∧ (T1 ∧ True) ∧ ∀ v16 : Int, (v16 = q1) → T1 ∧ T1 ∧ T1 ∧ T1 ∧ tt ∧ (bif (decide (v16 < n)) then w1_x else w4_x)))) else w3_x)))) else (false = false ∧ T1 ∧ false = false ∧ T1 ∧ tt ∧ T1 ∧ tt ∧ T1 ∧ (bif (hN k) then (T1 ∧ tt ∧ T1 ∧ T1 ∧ (bif (n == 0) then w2_x else (T1 ∧ tt ∧ T1 ∧ tt ∧ (T1 ∧ True) ∧ ∀ v16 : Int, (v16 = q1) → T1 ∧ T1 ∧ T1 ∧ T1 ∧ tt ∧ (bif (decide (v16 < n)) then w1_x else w4_x)))) else w3_x)))))) else (false = false ∧ T1 ∧ tt ∧ T1 ∧ tt ∧ T1 ∧ (bif (hM k) then (T1 ∧ tt ∧ T1 ∧ T1 ∧ T1 ∧ (bif (mode != 1) then (T1 ∧ tt ∧ T1 ∧ T1 ∧ T1 ∧ (bif (mode != 2) then w5_x else (tt ∧ T1 ∧ tt ∧ T1 ∧ (bif (hN k) then (T1 ∧ tt ∧ T1 ∧ T1 ∧ (bif (n == 0) then w2_x else (T1 ∧ tt ∧ T1 ∧ tt ∧ (T1 ∧ True) ∧ ∀ v16 : Int, (v16 = q1) → T1 ∧ T1 ∧ T1 ∧ T1 ∧ tt ∧ (bif (decide (v16 < n)) then w1_x else w4_x)))) else w3_x)))) else (false = false ∧ T1 ∧ tt ∧ T1 ∧ tt ∧ T1 ∧ (bif (hN k) then (T1 ∧ tt ∧ T1 ∧ T1 ∧ (bif (n == 0) then w2_x else (T1 ∧ tt ∧ T1 ∧ tt ∧ (T1 ∧ True) ∧ ∀ v16 : Int, (v16 = q1) → T1 ∧ T1 ∧ T1 ∧ T1 ∧ tt ∧ (bif (decide (v16 < n)) then w1_x else w4_x)))) else w3_x)))) else (false = false ∧ T1 ∧ false = false ∧ T1 ∧ tt ∧ T1 ∧ tt ∧ T1 ∧ (bif (hN k) then (T1 ∧ tt ∧ T1 ∧ T1 ∧ (bif (n == 0) then w2_x else (T1 ∧ tt ∧ T1 ∧ tt ∧ (T1 ∧ True) ∧ ∀ v16 : Int, (v16 = q1) → T1 ∧ T1 ∧ T1 ∧ T1 ∧ tt ∧ (bif (decide (v16 < n)) then w1_x else w4_x)))) else w3_x))))))))))))))) : inCright0 k num foot rq path mode n time :=
  Eq.mp (show _ = _ by kernel_rfl) h
end Go.Proofs.YtddilmocngedjaaDoor
/- The conditions of commands hold. -/
namespace Go.Proofs.YtddilmocngedjaaDoor
set_option linter.unusedVariables false
set_option linter.unusedSimpArgs false
open Go.RowKit
set_option maxRecDepth 100000

theorem okMost0 : OkMost0 := by
  intro k hq
  refine vcMost0 k ?_
  simp [mostK, cif]
theorem okHad0 : OkHad0 := by
  intro k hq
  refine vcHad0 k ?_
  simp only [true_and, and_true, forall_eq, eq_self, not_true, not_false_eq_true, if_true]
  simp [okK, hS, hR, hP, hM, hN, hT, cif]
  repeat' split
  all_goals (first | (subst_vars; simp; done) | (refine ⟨?_, ?_⟩ <;> omega) | omega | trace_state)
theorem okBare0 : OkBare0 := by
  intro k num foot rq path mode n time a b c d e f hq
  refine vcBare0 k num foot rq path mode n time a b c d e f ?_
  cases a <;> cases b <;> cases c <;> cases d <;> cases e <;> cases f <;> simp
theorem beq_cif {α : Type} [BEq α] [LawfulBEq α] {b : Bool} {x y : α} : (x == bif b then x else y) = (b || x == y) := by cases b <;> simp
theorem okCright0 : OkCright0 := by
  intro k num foot rq path mode n time hq
  obtain ⟨h1, h2⟩ := hq
  have h1' : foot.length ≤ 1000000 := by omega
  have h2' : path.length ≤ 1000000 := by omega
  refine vcCright0 k num foot rq path mode n time ?_
  simp only [true_and, and_true, forall_eq, eq_self, h1', h2', beq_cif, beq_self_eq_true, Bool.true_and, Bool.and_true]
  have e0 : rightC ⟨k, num, foot, rq, path, mode, n, time⟩ = (okK k && ((hS k || num == 0) && ((hS k || foot == []) && ((hR k || rq == 0) && ((hP k || path == []) && ((hM k || mode == 0) && ((hN k || n == 0) && (hT k || time == 0))))))) &&
      ((!hS k || rightP foot) && (!hR k || !(rq == 0)) && (!hP k || rightP path) && (!hM k || !(mode != 1) || !(mode != 2)) && (!hN k || (!(n == 0) && !decide (mostK k < n))) && decide (0 ≤ time) && decide (time ≤ 1099511627776))) := by
    have a1 : (num == 0) = decide (num = 0) := rfl
    have a2 : (foot == []) = decide (foot = []) := by rw [Bool.eq_iff_iff]; simp
    have a3 : (rq == 0) = decide (rq = 0) := rfl
    have a4 : (path == []) = decide (path = []) := by rw [Bool.eq_iff_iff]; simp
    have a5 : (mode == 0) = decide (mode = 0) := rfl
    have a6 : (n == 0) = decide (n = 0) := rfl
    have a7 : (time == 0) = decide (time = 0) := rfl
    have a8 : (mode != 1) = !decide (mode = 1) := rfl
    have a9 : (mode != 2) = !decide (mode = 2) := rfl
    have b1 : decide (rq ≠ 0) = !decide (rq = 0) := decide_not
    have b2 : decide (n ≠ 0) = !decide (n = 0) := decide_not
    have b3 : decide (n ≤ mostK k) = !decide (mostK k < n) := by rw [Bool.eq_iff_iff]; simp
    unfold rightC
    simp only [a1, a2, a3, a4, a5, a6, a7, a8, a9, b1, b2, b3, Bool.not_not, Bool.or_and_distrib_left, Bool.and_assoc, Bool.or_assoc]
  rw [e0]
  generalize ((hS k || num == 0) && ((hS k || foot == []) && ((hR k || rq == 0) && ((hP k || path == []) && ((hM k || mode == 0) && ((hN k || n == 0) && (hT k || time == 0))))))) = E
  generalize okK k = a
  cases a
  · simp
  cases E
  · simp
  simp only [Bool.true_and, Bool.not_true, cond_false]
  generalize hS k = hs
  generalize rightP foot = rf
  generalize hR k = hr
  generalize (rq == 0) = z
  generalize hP k = hp
  generalize rightP path = rp
  generalize hM k = hm
  generalize (mode != 1) = m1
  generalize (mode != 2) = m2
  generalize hN k = hn
  generalize (n == 0) = n0
  generalize decide (mostK k < n) = mn
  generalize decide (0 ≤ time) = t0
  generalize decide (time ≤ 1099511627776) = t1
  cases hs <;> cases rf <;> cases hr <;> cases z <;> cases hp <;> cases rp <;> simp only [cond_true, cond_false, Bool.not_true, Bool.not_false, Bool.true_or, Bool.false_or, Bool.or_true, Bool.or_false, Bool.true_and, Bool.false_and, Bool.and_true, Bool.and_false]
  all_goals (cases hm <;> cases m1 <;> cases m2 <;> cases hn <;> cases n0 <;> cases mn <;> cases t0 <;> cases t1 <;> rfl)
end Go.Proofs.YtddilmocngedjaaDoor
/- The contracts are met. -/
namespace Go.Proofs.YtddilmocngedjaaDoor
set_option linter.unusedVariables false
set_option linter.unusedSimpArgs false
open Go.RowKit
theorem sndHad : Sound Tryd.prog (lookΓ gamHad) := sound_of _ fun p hp => by
  simp [gamHad] at hp
set_option maxHeartbeats 4000000 in
theorem meetsHad : Meets Tryd.prog 77 hadF := by
  refine meets_of_awp (Γ := lookΓ gamHad) (L := fun _ _ => none) sndHad mixedOrders Tryd.func77 rfl Tryd.call77 ?_
  intro args q r hF hq ho
  unfold hadF at hF
  split at hF
  · cases hF
    exact ⟨by simp only [List.length_cons, List.length_nil]; decide, okHad0 _ hq⟩
  · cases hF
theorem sndMost : Sound Tryd.prog (lookΓ gamMost) := sound_of _ fun p hp => by
  simp [gamMost] at hp
set_option maxHeartbeats 4000000 in
theorem meetsMost : Meets Tryd.prog 79 mostF := by
  refine meets_of_awp (Γ := lookΓ gamMost) (L := fun _ _ => none) sndMost mixedOrders Tryd.func79 rfl Tryd.call79 ?_
  intro args q r hF hq ho
  unfold mostF at hF
  split at hF
  · cases hF
    exact ⟨by simp only [List.length_cons, List.length_nil]; decide, okMost0 _ hq⟩
  · cases hF
theorem sndBare : Sound Tryd.prog (lookΓ gamBare) := sound_of _ fun p hp => by
  simp [gamBare] at hp
set_option maxHeartbeats 4000000 in
theorem meetsBare : Meets Tryd.prog 78 bareF := by
  refine meets_of_awp (Γ := lookΓ gamBare) (L := fun _ _ => none) sndBare mixedOrders Tryd.func78 rfl Tryd.call78 ?_
  intro args q r hF hq ho
  unfold bareF at hF
  split at hF
  · cases hF
    exact ⟨by simp only [List.length_cons, List.length_nil]; decide, okBare0 _ _ _ _ _ _ _ _ _ _ _ _ _ _ hq⟩
  · cases hF
theorem sndCright : Sound Tryd.prog (lookΓ gamCright) := sound_of _ fun p hp => by
  simp only [gamCright, List.mem_cons, List.not_mem_nil, or_false] at hp
  rcases hp with rfl | rfl | rfl | rfl
  · exact meetsHad.orNil
  · exact meetsMost.orNil
  · exact meetsBare.orNil
  · exact meetsRight.orNil
set_option maxHeartbeats 4000000 in
theorem meetsCright : Meets Tryd.prog 46 crightF := by
  refine meets_of_awp (Γ := lookΓ gamCright) (L := fun _ _ => none) sndCright mixedOrders Tryd.func46 rfl Tryd.call46 ?_
  intro args q r hF hq ho
  unfold crightF at hF
  split at hF
  · cases hF
    exact ⟨by simp only [List.length_cons, List.length_nil]; decide, okCright0 _ _ _ _ _ _ _ _ hq⟩
  · cases hF
end Go.Proofs.YtddilmocngedjaaDoor
