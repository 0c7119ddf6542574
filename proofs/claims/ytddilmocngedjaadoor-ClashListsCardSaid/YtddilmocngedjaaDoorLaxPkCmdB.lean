/- Contracts by content, their conditions, and that they are met: CmdB. -/
import Derived.Test.YtddilmocngedjaaDoorLaxPkCmdA
/- Contracts by content, and the conditions that their code must meet. -/
namespace Go.Proofs.YtddilmocngedjaaDoor
set_option linter.unusedVariables false
set_option linter.unusedSimpArgs false
open Go.RowKit
def has07F : Con
  | [] => (some (True, ⟨.agg hasAV, none, none⟩))
  | _ => none
def gamHas07 : List (Nat × Con) := []
def lpHas070  : Nat → Option LoopPlan := fun _ => none
def inHas070  : Prop := awp [] (lpHas070) (lookΓ gamHas07) Tryd.prog Tryd.f60.ntmps 0 (Tryd.f60.body.getD .skip) (entrySt []) (exitQ Tryd.prog Tryd.f60.results.toList [] ⟨.agg hasAV, none, none⟩)
def OkHas070 : Prop := True → inHas070
def rrightOF : Con
  | [.val (.agg [.int .i64 k, .int .u64 num, .str foot, .int .u64 rq, .str path, .int .i64 mode, .int .u64 n, .int .i64 time])] => (some ((k < 0 ∨ 8 < k) ∧ foot.length ≤ 900000 ∧ path.length ≤ 900000, ⟨.bool false, none, none⟩))
  | _ => none
def gamRrightO : List (Nat × Con) := []
def lpRrightO0 (k num : Int) (foot : List UInt8) (rq : Int) (path : List UInt8) (mode n time : Int) : Nat → Option LoopPlan := fun _ => none
def inRrightO0 (k num : Int) (foot : List UInt8) (rq : Int) (path : List UInt8) (mode n time : Int) : Prop := awp [] (lpRrightO0 k num foot rq path mode n time) (lookΓ gamRrightO) Tryd.prog Tryd.f59.ntmps 0 (Tryd.f59.body.getD .skip) (entrySt [.val (.agg [.int .i64 k, .int .u64 num, .str foot, .int .u64 rq, .str path, .int .i64 mode, .int .u64 n, .int .i64 time])]) (exitQ Tryd.prog Tryd.f59.results.toList [] ⟨.bool false, none, none⟩)
def OkRrightO0 : Prop := ∀ (k num : Int) (foot : List UInt8) (rq : Int) (path : List UInt8) (mode n time : Int), (k < 0 ∨ 8 < k) ∧ foot.length ≤ 900000 ∧ path.length ≤ 900000 → inRrightO0 k num foot rq path mode n time
def rrightIF : Con
  | [.val (.agg [.int .i64 k, .int .u64 num, .str foot, .int .u64 rq, .str path, .int .i64 mode, .int .u64 n, .int .i64 time])] => (some ((0 ≤ k ∧ k ≤ 8) ∧ foot.length ≤ 900000 ∧ path.length ≤ 900000, ⟨.bool (rightC ⟨k, num, foot, rq, path, mode, n, time⟩), none, none⟩))
  | _ => none
def gamRrightI : List (Nat × Con) := [(60, has07F.orNil), (15, refRightF.orNil)]
def lpRrightI0 (k num : Int) (foot : List UInt8) (rq : Int) (path : List UInt8) (mode n time : Int) : Nat → Option LoopPlan := fun _ => none
def inRrightI0 (k num : Int) (foot : List UInt8) (rq : Int) (path : List UInt8) (mode n time : Int) : Prop := awp [] (lpRrightI0 k num foot rq path mode n time) (lookΓ gamRrightI) Tryd.prog Tryd.f59.ntmps 0 (Tryd.f59.body.getD .skip) (entrySt [.val (.agg [.int .i64 k, .int .u64 num, .str foot, .int .u64 rq, .str path, .int .i64 mode, .int .u64 n, .int .i64 time])]) (exitQ Tryd.prog Tryd.f59.results.toList [] ⟨.bool (rightC ⟨k, num, foot, rq, path, mode, n, time⟩), none, none⟩)
def OkRrightI0 : Prop := ∀ (k num : Int) (foot : List UInt8) (rq : Int) (path : List UInt8) (mode n time : Int), (0 ≤ k ∧ k ≤ 8) ∧ foot.length ≤ 900000 ∧ path.length ≤ 900000 → inRrightI0 k num foot rq path mode n time
def inRrightK0 (num : Int) (foot : List UInt8) (rq : Int) (path : List UInt8) (mode n time : Int) : Prop := inRrightI0 0 num foot rq path mode n time
def inRrightK1 (num : Int) (foot : List UInt8) (rq : Int) (path : List UInt8) (mode n time : Int) : Prop := inRrightI0 1 num foot rq path mode n time
def inRrightK2 (num : Int) (foot : List UInt8) (rq : Int) (path : List UInt8) (mode n time : Int) : Prop := inRrightI0 2 num foot rq path mode n time
def inRrightK3 (num : Int) (foot : List UInt8) (rq : Int) (path : List UInt8) (mode n time : Int) : Prop := inRrightI0 3 num foot rq path mode n time
def inRrightK4 (num : Int) (foot : List UInt8) (rq : Int) (path : List UInt8) (mode n time : Int) : Prop := inRrightI0 4 num foot rq path mode n time
def inRrightK5 (num : Int) (foot : List UInt8) (rq : Int) (path : List UInt8) (mode n time : Int) : Prop := inRrightI0 5 num foot rq path mode n time
def inRrightK6 (num : Int) (foot : List UInt8) (rq : Int) (path : List UInt8) (mode n time : Int) : Prop := inRrightI0 6 num foot rq path mode n time
def inRrightK7 (num : Int) (foot : List UInt8) (rq : Int) (path : List UInt8) (mode n time : Int) : Prop := inRrightI0 7 num foot rq path mode n time
def inRrightK8 (num : Int) (foot : List UInt8) (rq : Int) (path : List UInt8) (mode n time : Int) : Prop := inRrightI0 8 num foot rq path mode n time
end Go.Proofs.YtddilmocngedjaaDoor
/- What the verification conditions come to: printed by a program of ours (wip/lax/ex/Norm.lean). -/
namespace Go.Proofs.YtddilmocngedjaaDoor
set_option linter.unusedVariables false
open Go.RowKit
set_option maxRecDepth 100000
theorem vcHas070 (h : (tt ∧ T1 ∧ tt ∧ T1 ∧ T1 ∧ T1 ∧ T1 ∧ T1 ∧ T1 ∧ T1 ∧ T1 ∧ T1 ∧ T1 ∧ tt ∧ tt ∧ tt ∧ (false = false ∧ false = false ∧ false = false ∧ false = false ∧ false = false ∧ false = false ∧ tt ∧ tt ∧ false = false ∧ false = false ∧ tt ∧ tt ∧ tt ∧ tt ∧ false = false ∧ false = false ∧ false = false ∧ false = false ∧ tt ∧ tt ∧ false = false ∧ false = false ∧ false = false ∧ tt ∧ tt ∧ tt ∧ tt ∧ tt ∧ false = false ∧ false = false ∧ tt ∧ tt ∧ tt ∧ tt ∧ false = false ∧ false = false ∧ tt ∧ tt ∧ tt ∧ false = false ∧ false = false ∧ false = false ∧ tt ∧ tt ∧ tt ∧ false = false ∧ tt ∧ false = false ∧ tt ∧ false = false ∧ false = false ∧ false = false ∧ false = false ∧ tt ∧ True) ∧ tt)) : inHas070 :=
  Eq.mp (show _ = _ by kernel_rfl) h
theorem vcRrightO0 (k : Int) (num : Int) (foot : (List UInt8)) (rq : Int) (path : (List UInt8)) (mode : Int) (n : Int) (time : Int) (h : (tt ∧ T1 ∧ T1 ∧ tt ∧ T1 ∧ tt ∧ T1 ∧ T1 ∧ (bif (decide (k < 0)) then (tt ∧ tt ∧ T1 ∧ tt ∧ tt ∧ (false = false ∧ True) ∧ tt) else (T1 ∧ tt ∧ T1 ∧ T1 ∧ (bif (decide ((8 : Int) < k)) then (tt ∧ T1 ∧ tt ∧ tt ∧ (false = false ∧ True) ∧ tt) else (tt ∧ False)))))) : inRrightO0 k num foot rq path mode n time :=
  Eq.mp (show _ = _ by kernel_rfl) h
theorem vcRrightK0 (num : Int) (foot : (List UInt8)) (rq : Int) (path : (List UInt8)) (mode : Int) (n : Int) (time : Int) (h : let q0 := (rightC (CmdP.mk 0 num foot rq path mode n time)); let w0_x := ((0 : Int) ≤ (4 : Int) ∧ (4 : Int) < (6 : Int)); let w1_x := (q0 = false ∧ True); let w2_x := ((0 : Int) ≤ (0 : Int) ∧ (0 : Int) < (6 : Int)); let w3_x := ((0 : Int) ≤ (1 : Int) ∧ (1 : Int) < (6 : Int)); let w4_x := ((0 : Int) ≤ (2 : Int) ∧ (2 : Int) < (6 : Int)); let w5_x := ((0 : Int) ≤ (3 : Int) ∧ (3 : Int) < (6 : Int)); (tt ∧ T1 ∧ T1 ∧ tt ∧ T1 ∧ tt ∧ T1 ∧ T1 ∧ T1 ∧ tt ∧ T1 ∧ T1 ∧ tt ∧ (T1 ∧ True) ∧ T1 ∧ tt ∧ ((0 : Int) ≤ (0 : Int) ∧ (0 : Int) < (9 : Int) ∧ 6 ≤ 54 ∧ (okRead [Kd.bool, Kd.bool, Kd.bool, Kd.bool, Kd.bool, Kd.bool] (AV.agg hasAV) 0)) ∧ T1 ∧ tt ∧ tt ∧ tt ∧ w2_x ∧ tt ∧ T1 ∧ T1 ∧ T1 ∧ tt ∧ T1 ∧ T1 ∧ (bif (num != 0) then (tt ∧ T1 ∧ T1 ∧ tt ∧ T1 ∧ tt ∧ T1 ∧ tt ∧ T1 ∧ tt ∧ T1 ∧ tt ∧ tt ∧ T1 ∧ tt ∧ tt ∧ w1_x ∧ tt) else (T1 ∧ tt ∧ T1 ∧ T1 ∧ T1 ∧ T1 ∧ (bif (Bool.not (@BEq.beq.{0} (List UInt8) (@List.instBEq.{0} UInt8 (@instBEqOfDecidableEq.{0} UInt8 instDecidableEqUInt8)) foot (@List.nil.{0} UInt8))) then (tt ∧ T1 ∧ tt ∧ T1 ∧ tt ∧ T1 ∧ tt ∧ T1 ∧ tt ∧ tt ∧ T1 ∧ tt ∧ tt ∧ w1_x ∧ tt) else (w3_x ∧ tt ∧ T1 ∧ T1 ∧ T1 ∧ tt ∧ T1 ∧ T1 ∧ T1 ∧ T1 ∧ (bif (rq != 0) then (tt ∧ T1 ∧ tt ∧ T1 ∧ tt ∧ T1 ∧ tt ∧ tt ∧ T1 ∧ tt ∧ tt ∧ w1_x ∧ tt) else (w4_x ∧ tt ∧ T1 ∧ T1 ∧ T1 ∧ tt ∧ T1 ∧ T1 ∧ T1 ∧ T1 ∧ (bif (Bool.not (@BEq.beq.{0} (List UInt8) (@List.instBEq.{0} UInt8 (@instBEqOfDecidableEq.{0} UInt8 instDecidableEqUInt8)) path (@List.nil.{0} UInt8))) then (tt ∧ T1 ∧ tt ∧ T1 ∧ tt ∧ tt ∧ T1 ∧ tt ∧ tt ∧ w1_x ∧ tt) else (w5_x ∧ tt ∧ T1 ∧ T1 ∧ T1 ∧ tt ∧ T1 ∧ T1 ∧ T1 ∧ T1 ∧ (bif (mode != 0) then (tt ∧ T1 ∧ tt ∧ tt ∧ T1 ∧ tt ∧ tt ∧ w1_x ∧ tt) else (w0_x ∧ tt ∧ T1 ∧ T1 ∧ T1 ∧ tt ∧ T1 ∧ T1 ∧ T1 ∧ T1 ∧ (bif (n != 0) then (tt ∧ tt ∧ T1 ∧ tt ∧ tt ∧ w1_x ∧ tt) else (((0 : Int) ≤ (5 : Int) ∧ (5 : Int) < (6 : Int)) ∧ tt ∧ T1 ∧ T1 ∧ T1 ∧ tt ∧ T1 ∧ T1 ∧ T1 ∧ (bif (time != 0) then (tt ∧ T1 ∧ tt ∧ tt ∧ w1_x ∧ tt) else (tt ∧ w2_x ∧ tt ∧ T1 ∧ false = false ∧ T1 ∧ w3_x ∧ tt ∧ T1 ∧ false = false ∧ T1 ∧ T1 ∧ w4_x ∧ tt ∧ T1 ∧ false = false ∧ T1 ∧ tt ∧ w5_x ∧ tt ∧ T1 ∧ false = false ∧ T1 ∧ w0_x ∧ tt ∧ T1 ∧ false = false ∧ T1 ∧ T1 ∧ w0_x ∧ tt ∧ T1 ∧ false = false ∧ T1 ∧ false = false ∧ T1 ∧ T1 ∧ w0_x ∧ tt ∧ T1 ∧ false = false ∧ T1 ∧ tt ∧ T1 ∧ tt ∧ T1 ∧ T1 ∧ (bif (decide ((0 : Int) ≤ time)) then (T1 ∧ tt ∧ T1 ∧ T1 ∧ T1 ∧ tt ∧ tt ∧ (q0 = (decide (time ≤ 1099511627776)) ∧ True) ∧ tt) else (false = false ∧ T1 ∧ tt ∧ tt ∧ w1_x ∧ tt)))))))))))))))))) : inRrightK0 num foot rq path mode n time :=
  Eq.mp (show _ = _ by kernel_rfl) h
theorem vcRrightK1 (num : Int) (foot : (List UInt8)) (rq : Int) (path : (List UInt8)) (mode : Int) (n : Int) (time : Int) (h : let q0 := (rightC (CmdP.mk 1 num foot rq path mode n time)); let w1_x := ((0 : Int) ≤ (4 : Int) ∧ (4 : Int) < (6 : Int)); let w3_x := (q0 = false ∧ True); let w0_x := (tt ∧ T1 ∧ tt ∧ tt ∧ T1 ∧ tt ∧ tt ∧ w3_x ∧ tt); let w2_x := (tt ∧ tt ∧ T1 ∧ tt ∧ tt ∧ w3_x ∧ tt); let w4_x := ((0 : Int) ≤ (0 : Int) ∧ (0 : Int) < (6 : Int)); let w5_x := ((0 : Int) ≤ (1 : Int) ∧ (1 : Int) < (6 : Int)); let w6_x := ((0 : Int) ≤ (2 : Int) ∧ (2 : Int) < (6 : Int)); let w7_x := ((0 : Int) ≤ (3 : Int) ∧ (3 : Int) < (6 : Int)); (tt ∧ T1 ∧ T1 ∧ tt ∧ T1 ∧ tt ∧ T1 ∧ T1 ∧ T1 ∧ tt ∧ T1 ∧ T1 ∧ tt ∧ (T1 ∧ True) ∧ T1 ∧ tt ∧ ((0 : Int) ≤ (1 : Int) ∧ (1 : Int) < (9 : Int) ∧ 12 ≤ 54 ∧ (okRead [Kd.bool, Kd.bool, Kd.bool, Kd.bool, Kd.bool, Kd.bool] (AV.agg hasAV) 6)) ∧ T1 ∧ tt ∧ tt ∧ tt ∧ w4_x ∧ tt ∧ T1 ∧ T1 ∧ false = false ∧ T1 ∧ w5_x ∧ tt ∧ T1 ∧ T1 ∧ false = false ∧ T1 ∧ T1 ∧ w6_x ∧ tt ∧ T1 ∧ T1 ∧ T1 ∧ tt ∧ T1 ∧ T1 ∧ T1 ∧ T1 ∧ (bif (Bool.not (@BEq.beq.{0} (List UInt8) (@List.instBEq.{0} UInt8 (@instBEqOfDecidableEq.{0} UInt8 instDecidableEqUInt8)) path (@List.nil.{0} UInt8))) then (tt ∧ T1 ∧ tt ∧ T1 ∧ tt ∧ tt ∧ T1 ∧ tt ∧ tt ∧ w3_x ∧ tt) else (w7_x ∧ tt ∧ T1 ∧ T1 ∧ T1 ∧ tt ∧ T1 ∧ T1 ∧ T1 ∧ T1 ∧ (bif (mode != 0) then w0_x else (w1_x ∧ tt ∧ T1 ∧ T1 ∧ false = false ∧ T1 ∧ T1 ∧ ((0 : Int) ≤ (5 : Int) ∧ (5 : Int) < (6 : Int)) ∧ tt ∧ T1 ∧ T1 ∧ false = false ∧ T1 ∧ tt ∧ w4_x ∧ tt ∧ T1 ∧ T1 ∧ tt ∧ (T1 ∧ (List.length foot) ≤ 900000) ∧ T1 ∧ T1 ∧ T1 ∧ (bif (Bool.not (rightP foot)) then w0_x else (w5_x ∧ tt ∧ T1 ∧ T1 ∧ tt ∧ T1 ∧ T1 ∧ T1 ∧ T1 ∧ (bif (rq == 0) then w2_x else (w6_x ∧ tt ∧ T1 ∧ false = false ∧ T1 ∧ tt ∧ w7_x ∧ tt ∧ T1 ∧ false = false ∧ T1 ∧ w1_x ∧ tt ∧ T1 ∧ T1 ∧ tt ∧ T1 ∧ T1 ∧ T1 ∧ T1 ∧ (bif (n == 0) then w0_x else (w1_x ∧ tt ∧ T1 ∧ T1 ∧ tt ∧ T1 ∧ T1 ∧ T1 ∧ T1 ∧ tt ∧ T1 ∧ T1 ∧ T1 ∧ T1 ∧ (bif (decide ((1048576 : Int) < n)) then w2_x else (w1_x ∧ tt ∧ T1 ∧ T1 ∧ tt ∧ T1 ∧ T1 ∧ T1 ∧ (bif (decide ((9223372036854775807 : Int) < n)) then (tt ∧ T1 ∧ tt ∧ tt ∧ w3_x ∧ tt) else (tt ∧ T1 ∧ tt ∧ T1 ∧ T1 ∧ (bif (decide ((0 : Int) ≤ time)) then (T1 ∧ tt ∧ T1 ∧ T1 ∧ T1 ∧ tt ∧ tt ∧ (q0 = (decide (time ≤ 1099511627776)) ∧ True) ∧ tt) else (false = false ∧ T1 ∧ tt ∧ tt ∧ w3_x ∧ tt)))))))))))))))))) : inRrightK1 num foot rq path mode n time :=
  Eq.mp (show _ = _ by kernel_rfl) h
theorem vcRrightK2 (num : Int) (foot : (List UInt8)) (rq : Int) (path : (List UInt8)) (mode : Int) (n : Int) (time : Int) (h : let q0 := (rightC (CmdP.mk 2 num foot rq path mode n time)); let w0_x := ((0 : Int) ≤ (4 : Int) ∧ (4 : Int) < (6 : Int)); let w3_x := (q0 = false ∧ True); let w1_x := (tt ∧ T1 ∧ tt ∧ tt ∧ T1 ∧ tt ∧ tt ∧ w3_x ∧ tt); let w2_x := (tt ∧ tt ∧ T1 ∧ tt ∧ tt ∧ w3_x ∧ tt); let w4_x := ((0 : Int) ≤ (0 : Int) ∧ (0 : Int) < (6 : Int)); let w5_x := ((0 : Int) ≤ (1 : Int) ∧ (1 : Int) < (6 : Int)); let w6_x := ((0 : Int) ≤ (2 : Int) ∧ (2 : Int) < (6 : Int)); let w7_x := ((0 : Int) ≤ (3 : Int) ∧ (3 : Int) < (6 : Int)); (tt ∧ T1 ∧ T1 ∧ tt ∧ T1 ∧ tt ∧ T1 ∧ T1 ∧ T1 ∧ tt ∧ T1 ∧ T1 ∧ tt ∧ (T1 ∧ True) ∧ T1 ∧ tt ∧ ((0 : Int) ≤ (2 : Int) ∧ (2 : Int) < (9 : Int) ∧ 18 ≤ 54 ∧ (okRead [Kd.bool, Kd.bool, Kd.bool, Kd.bool, Kd.bool, Kd.bool] (AV.agg hasAV) 12)) ∧ T1 ∧ tt ∧ tt ∧ tt ∧ w4_x ∧ tt ∧ T1 ∧ T1 ∧ false = false ∧ T1 ∧ w5_x ∧ tt ∧ T1 ∧ T1 ∧ false = false ∧ T1 ∧ T1 ∧ w6_x ∧ tt ∧ T1 ∧ T1 ∧ T1 ∧ tt ∧ T1 ∧ T1 ∧ T1 ∧ T1 ∧ (bif (Bool.not (@BEq.beq.{0} (List UInt8) (@List.instBEq.{0} UInt8 (@instBEqOfDecidableEq.{0} UInt8 instDecidableEqUInt8)) path (@List.nil.{0} UInt8))) then (tt ∧ T1 ∧ tt ∧ T1 ∧ tt ∧ tt ∧ T1 ∧ tt ∧ tt ∧ w3_x ∧ tt) else (w7_x ∧ tt ∧ T1 ∧ T1 ∧ T1 ∧ tt ∧ T1 ∧ T1 ∧ T1 ∧ T1 ∧ (bif (mode != 0) then w1_x else (w0_x ∧ tt ∧ T1 ∧ T1 ∧ T1 ∧ tt ∧ T1 ∧ T1 ∧ T1 ∧ T1 ∧ (bif (n != 0) then w2_x else (((0 : Int) ≤ (5 : Int) ∧ (5 : Int) < (6 : Int)) ∧ tt ∧ T1 ∧ T1 ∧ T1 ∧ tt ∧ T1 ∧ T1 ∧ T1 ∧ (bif (time != 0) then (tt ∧ T1 ∧ tt ∧ tt ∧ w3_x ∧ tt) else (tt ∧ w4_x ∧ tt ∧ T1 ∧ T1 ∧ tt ∧ (T1 ∧ (List.length foot) ≤ 900000) ∧ T1 ∧ T1 ∧ T1 ∧ (bif (Bool.not (rightP foot)) then w1_x else (w5_x ∧ tt ∧ T1 ∧ T1 ∧ tt ∧ T1 ∧ T1 ∧ T1 ∧ T1 ∧ (bif (rq == 0) then w2_x else (w6_x ∧ tt ∧ T1 ∧ false = false ∧ T1 ∧ tt ∧ w7_x ∧ tt ∧ T1 ∧ false = false ∧ T1 ∧ w0_x ∧ tt ∧ T1 ∧ false = false ∧ T1 ∧ T1 ∧ w0_x ∧ tt ∧ T1 ∧ false = false ∧ T1 ∧ false = false ∧ T1 ∧ T1 ∧ w0_x ∧ tt ∧ T1 ∧ false = false ∧ T1 ∧ tt ∧ T1 ∧ tt ∧ T1 ∧ T1 ∧ (bif (decide ((0 : Int) ≤ time)) then (T1 ∧ tt ∧ T1 ∧ T1 ∧ T1 ∧ tt ∧ tt ∧ (q0 = (decide (time ≤ 1099511627776)) ∧ True) ∧ tt) else (false = false ∧ T1 ∧ tt ∧ tt ∧ w3_x ∧ tt)))))))))))))))) : inRrightK2 num foot rq path mode n time :=
  Eq.mp (show _ = _ by kernel_rfl) h
theorem vcRrightK3 (num : Int) (foot : (List UInt8)) (rq : Int) (path : (List UInt8)) (mode : Int) (n : Int) (time : Int) (h : let q0 := (rightC (CmdP.mk 3 num foot rq path mode n time)); let w0_x := ((0 : Int) ≤ (4 : Int) ∧ (4 : Int) < (6 : Int)); let w3_x := (q0 = false ∧ True); let w1_x := (tt ∧ T1 ∧ tt ∧ tt ∧ T1 ∧ tt ∧ tt ∧ w3_x ∧ tt); let w2_x := (tt ∧ tt ∧ T1 ∧ tt ∧ tt ∧ w3_x ∧ tt); let w4_x := ((0 : Int) ≤ (0 : Int) ∧ (0 : Int) < (6 : Int)); let w5_x := ((0 : Int) ≤ (1 : Int) ∧ (1 : Int) < (6 : Int)); let w6_x := ((0 : Int) ≤ (2 : Int) ∧ (2 : Int) < (6 : Int)); let w7_x := ((0 : Int) ≤ (3 : Int) ∧ (3 : Int) < (6 : Int)); (tt ∧ T1 ∧ T1 ∧ tt ∧ T1 ∧ tt ∧ T1 ∧ T1 ∧ T1 ∧ tt ∧ T1 ∧ T1 ∧ tt ∧ (T1 ∧ True) ∧ T1 ∧ tt ∧ ((0 : Int) ≤ (3 : Int) ∧ (3 : Int) < (9 : Int) ∧ 24 ≤ 54 ∧ (okRead [Kd.bool, Kd.bool, Kd.bool, Kd.bool, Kd.bool, Kd.bool] (AV.agg hasAV) 18)) ∧ T1 ∧ tt ∧ tt ∧ tt ∧ w4_x ∧ tt ∧ T1 ∧ T1 ∧ false = false ∧ T1 ∧ w5_x ∧ tt ∧ T1 ∧ T1 ∧ false = false ∧ T1 ∧ T1 ∧ w6_x ∧ tt ∧ T1 ∧ T1 ∧ T1 ∧ tt ∧ T1 ∧ T1 ∧ T1 ∧ T1 ∧ (bif (Bool.not (@BEq.beq.{0} (List UInt8) (@List.instBEq.{0} UInt8 (@instBEqOfDecidableEq.{0} UInt8 instDecidableEqUInt8)) path (@List.nil.{0} UInt8))) then (tt ∧ T1 ∧ tt ∧ T1 ∧ tt ∧ tt ∧ T1 ∧ tt ∧ tt ∧ w3_x ∧ tt) else (w7_x ∧ tt ∧ T1 ∧ T1 ∧ T1 ∧ tt ∧ T1 ∧ T1 ∧ T1 ∧ T1 ∧ (bif (mode != 0) then w1_x else (w0_x ∧ tt ∧ T1 ∧ T1 ∧ T1 ∧ tt ∧ T1 ∧ T1 ∧ T1 ∧ T1 ∧ (bif (n != 0) then w2_x else (((0 : Int) ≤ (5 : Int) ∧ (5 : Int) < (6 : Int)) ∧ tt ∧ T1 ∧ T1 ∧ false = false ∧ T1 ∧ tt ∧ w4_x ∧ tt ∧ T1 ∧ T1 ∧ tt ∧ (T1 ∧ (List.length foot) ≤ 900000) ∧ T1 ∧ T1 ∧ T1 ∧ (bif (Bool.not (rightP foot)) then w1_x else (w5_x ∧ tt ∧ T1 ∧ T1 ∧ tt ∧ T1 ∧ T1 ∧ T1 ∧ T1 ∧ (bif (rq == 0) then w2_x else (w6_x ∧ tt ∧ T1 ∧ false = false ∧ T1 ∧ tt ∧ w7_x ∧ tt ∧ T1 ∧ false = false ∧ T1 ∧ w0_x ∧ tt ∧ T1 ∧ false = false ∧ T1 ∧ T1 ∧ w0_x ∧ tt ∧ T1 ∧ false = false ∧ T1 ∧ false = false ∧ T1 ∧ T1 ∧ w0_x ∧ tt ∧ T1 ∧ false = false ∧ T1 ∧ tt ∧ T1 ∧ tt ∧ T1 ∧ T1 ∧ (bif (decide ((0 : Int) ≤ time)) then (T1 ∧ tt ∧ T1 ∧ T1 ∧ T1 ∧ tt ∧ tt ∧ (q0 = (decide (time ≤ 1099511627776)) ∧ True) ∧ tt) else (false = false ∧ T1 ∧ tt ∧ tt ∧ w3_x ∧ tt)))))))))))))) : inRrightK3 num foot rq path mode n time :=
  Eq.mp (show _ = _ by kernel_rfl) h
theorem vcRrightK4 (num : Int) (foot : (List UInt8)) (rq : Int) (path : (List UInt8)) (mode : Int) (n : Int) (time : Int) (h : let q0 := (rightC (CmdP.mk 4 num foot rq path mode n time)); let w0_x := ((0 : Int) ≤ (4 : Int) ∧ (4 : Int) < (6 : Int)); let w1_x := (q0 = false ∧ True); let w2_x := (tt ∧ tt ∧ T1 ∧ tt ∧ tt ∧ w1_x ∧ tt); let w3_x := (tt ∧ T1 ∧ tt ∧ tt ∧ w1_x ∧ tt); let w4_x := ((0 : Int) ≤ (0 : Int) ∧ (0 : Int) < (6 : Int)); let w5_x := ((0 : Int) ≤ (1 : Int) ∧ (1 : Int) < (6 : Int)); let w6_x := ((0 : Int) ≤ (2 : Int) ∧ (2 : Int) < (6 : Int)); let w7_x := ((0 : Int) ≤ (3 : Int) ∧ (3 : Int) < (6 : Int)); (tt ∧ T1 ∧ T1 ∧ tt ∧ T1 ∧ tt ∧ T1 ∧ T1 ∧ T1 ∧ tt ∧ T1 ∧ T1 ∧ tt ∧ (T1 ∧ True) ∧ T1 ∧ tt ∧ ((0 : Int) ≤ (4 : Int) ∧ (4 : Int) < (9 : Int) ∧ 30 ≤ 54 ∧ (okRead [Kd.bool, Kd.bool, Kd.bool, Kd.bool, Kd.bool, Kd.bool] (AV.agg hasAV) 24)) ∧ T1 ∧ tt ∧ tt ∧ tt ∧ w4_x ∧ tt ∧ T1 ∧ T1 ∧ false = false ∧ T1 ∧ w5_x ∧ tt ∧ T1 ∧ T1 ∧ false = false ∧ T1 ∧ T1 ∧ w6_x ∧ tt ∧ T1 ∧ T1 ∧ false = false ∧ T1 ∧ T1 ∧ w7_x ∧ tt ∧ T1 ∧ T1 ∧ false = false ∧ T1 ∧ T1 ∧ w0_x ∧ tt ∧ T1 ∧ T1 ∧ T1 ∧ tt ∧ T1 ∧ T1 ∧ T1 ∧ T1 ∧ (bif (n != 0) then w2_x else (((0 : Int) ≤ (5 : Int) ∧ (5 : Int) < (6 : Int)) ∧ tt ∧ T1 ∧ T1 ∧ T1 ∧ tt ∧ T1 ∧ T1 ∧ T1 ∧ (bif (time != 0) then w3_x else (tt ∧ w4_x ∧ tt ∧ T1 ∧ T1 ∧ tt ∧ (T1 ∧ (List.length foot) ≤ 900000) ∧ T1 ∧ T1 ∧ T1 ∧ (bif (Bool.not (rightP foot)) then (tt ∧ T1 ∧ tt ∧ tt ∧ T1 ∧ tt ∧ tt ∧ w1_x ∧ tt) else (w5_x ∧ tt ∧ T1 ∧ T1 ∧ tt ∧ T1 ∧ T1 ∧ T1 ∧ T1 ∧ (bif (rq == 0) then w2_x else (w6_x ∧ tt ∧ T1 ∧ T1 ∧ tt ∧ (T1 ∧ (List.length path) ≤ 900000) ∧ T1 ∧ T1 ∧ T1 ∧ (bif (Bool.not (rightP path)) then w3_x else (tt ∧ w7_x ∧ tt ∧ T1 ∧ T1 ∧ tt ∧ T1 ∧ T1 ∧ (bif (decide (mode < 1)) then (tt ∧ T1 ∧ T1 ∧ tt ∧ T1 ∧ tt ∧ T1 ∧ tt ∧ tt ∧ T1 ∧ tt ∧ tt ∧ w1_x ∧ tt) else (T1 ∧ tt ∧ T1 ∧ T1 ∧ T1 ∧ T1 ∧ (bif (decide ((2 : Int) < mode)) then (tt ∧ T1 ∧ tt ∧ T1 ∧ tt ∧ tt ∧ T1 ∧ tt ∧ tt ∧ w1_x ∧ tt) else (w0_x ∧ tt ∧ T1 ∧ false = false ∧ T1 ∧ T1 ∧ w0_x ∧ tt ∧ T1 ∧ false = false ∧ T1 ∧ false = false ∧ T1 ∧ T1 ∧ w0_x ∧ tt ∧ T1 ∧ false = false ∧ T1 ∧ tt ∧ T1 ∧ tt ∧ T1 ∧ T1 ∧ (bif (decide ((0 : Int) ≤ time)) then (T1 ∧ tt ∧ T1 ∧ T1 ∧ T1 ∧ tt ∧ tt ∧ (q0 = (decide (time ≤ 1099511627776)) ∧ True) ∧ tt) else (false = false ∧ T1 ∧ tt ∧ tt ∧ w1_x ∧ tt)))))))))))))))))) : inRrightK4 num foot rq path mode n time :=
  Eq.mp (show _ = _ by kernel_rfl) h
theorem vcRrightK5 (num : Int) (foot : (List UInt8)) (rq : Int) (path : (List UInt8)) (mode : Int) (n : Int) (time : Int) (h : let q0 := (rightC (CmdP.mk 5 num foot rq path mode n time)); let w0_x := ((0 : Int) ≤ (4 : Int) ∧ (4 : Int) < (6 : Int)); let w1_x := (q0 = false ∧ True); let w2_x := (tt ∧ tt ∧ T1 ∧ tt ∧ tt ∧ w1_x ∧ tt); let w3_x := (tt ∧ T1 ∧ tt ∧ tt ∧ w1_x ∧ tt); let w4_x := ((0 : Int) ≤ (0 : Int) ∧ (0 : Int) < (6 : Int)); let w5_x := ((0 : Int) ≤ (1 : Int) ∧ (1 : Int) < (6 : Int)); let w6_x := ((0 : Int) ≤ (2 : Int) ∧ (2 : Int) < (6 : Int)); let w7_x := ((0 : Int) ≤ (3 : Int) ∧ (3 : Int) < (6 : Int)); (tt ∧ T1 ∧ T1 ∧ tt ∧ T1 ∧ tt ∧ T1 ∧ T1 ∧ T1 ∧ tt ∧ T1 ∧ T1 ∧ tt ∧ (T1 ∧ True) ∧ T1 ∧ tt ∧ ((0 : Int) ≤ (5 : Int) ∧ (5 : Int) < (9 : Int) ∧ 36 ≤ 54 ∧ (okRead [Kd.bool, Kd.bool, Kd.bool, Kd.bool, Kd.bool, Kd.bool] (AV.agg hasAV) 30)) ∧ T1 ∧ tt ∧ tt ∧ tt ∧ w4_x ∧ tt ∧ T1 ∧ T1 ∧ false = false ∧ T1 ∧ w5_x ∧ tt ∧ T1 ∧ T1 ∧ false = false ∧ T1 ∧ T1 ∧ w6_x ∧ tt ∧ T1 ∧ T1 ∧ false = false ∧ T1 ∧ T1 ∧ w7_x ∧ tt ∧ T1 ∧ T1 ∧ false = false ∧ T1 ∧ T1 ∧ w0_x ∧ tt ∧ T1 ∧ T1 ∧ T1 ∧ tt ∧ T1 ∧ T1 ∧ T1 ∧ T1 ∧ (bif (n != 0) then w2_x else (((0 : Int) ≤ (5 : Int) ∧ (5 : Int) < (6 : Int)) ∧ tt ∧ T1 ∧ T1 ∧ T1 ∧ tt ∧ T1 ∧ T1 ∧ T1 ∧ (bif (time != 0) then w3_x else (tt ∧ w4_x ∧ tt ∧ T1 ∧ T1 ∧ tt ∧ (T1 ∧ (List.length foot) ≤ 900000) ∧ T1 ∧ T1 ∧ T1 ∧ (bif (Bool.not (rightP foot)) then (tt ∧ T1 ∧ tt ∧ tt ∧ T1 ∧ tt ∧ tt ∧ w1_x ∧ tt) else (w5_x ∧ tt ∧ T1 ∧ T1 ∧ tt ∧ T1 ∧ T1 ∧ T1 ∧ T1 ∧ (bif (rq == 0) then w2_x else (w6_x ∧ tt ∧ T1 ∧ T1 ∧ tt ∧ (T1 ∧ (List.length path) ≤ 900000) ∧ T1 ∧ T1 ∧ T1 ∧ (bif (Bool.not (rightP path)) then w3_x else (tt ∧ w7_x ∧ tt ∧ T1 ∧ T1 ∧ tt ∧ T1 ∧ T1 ∧ (bif (decide (mode < 1)) then (tt ∧ T1 ∧ T1 ∧ tt ∧ T1 ∧ tt ∧ T1 ∧ tt ∧ tt ∧ T1 ∧ tt ∧ tt ∧ w1_x ∧ tt) else (T1 ∧ tt ∧ T1 ∧ T1 ∧ T1 ∧ T1 ∧ (bif (decide ((2 : Int) < mode)) then (tt ∧ T1 ∧ tt ∧ T1 ∧ tt ∧ tt ∧ T1 ∧ tt ∧ tt ∧ w1_x ∧ tt) else (w0_x ∧ tt ∧ T1 ∧ false = false ∧ T1 ∧ T1 ∧ w0_x ∧ tt ∧ T1 ∧ false = false ∧ T1 ∧ false = false ∧ T1 ∧ T1 ∧ w0_x ∧ tt ∧ T1 ∧ false = false ∧ T1 ∧ tt ∧ T1 ∧ tt ∧ T1 ∧ T1 ∧ (bif (decide ((0 : Int) ≤ time)) then (T1 ∧ tt ∧ T1 ∧ T1 ∧ T1 ∧ tt ∧ tt ∧ (q0 = (decide (time ≤ 1099511627776)) ∧ True) ∧ tt) else (false = false ∧ T1 ∧ tt ∧ tt ∧ w1_x ∧ tt)))))))))))))))))) : inRrightK5 num foot rq path mode n time :=
  Eq.mp (show _ = _ by kernel_rfl) h
theorem vcRrightK6 (num : Int) (foot : (List UInt8)) (rq : Int) (path : (List UInt8)) (mode : Int) (n : Int) (time : Int) (h : let q0 := (rightC (CmdP.mk 6 num foot rq path mode n time)); let w0_x := ((0 : Int) ≤ (4 : Int) ∧ (4 : Int) < (6 : Int)); let w4_x := (q0 = false ∧ True); let w1_x := (tt ∧ T1 ∧ tt ∧ tt ∧ T1 ∧ tt ∧ tt ∧ w4_x ∧ tt); let w2_x := (tt ∧ tt ∧ T1 ∧ tt ∧ tt ∧ w4_x ∧ tt); let w3_x := (tt ∧ T1 ∧ tt ∧ tt ∧ w4_x ∧ tt); let w5_x := ((0 : Int) ≤ (0 : Int) ∧ (0 : Int) < (6 : Int)); let w6_x := ((0 : Int) ≤ (1 : Int) ∧ (1 : Int) < (6 : Int)); let w7_x := ((0 : Int) ≤ (2 : Int) ∧ (2 : Int) < (6 : Int)); let w8_x := ((0 : Int) ≤ (3 : Int) ∧ (3 : Int) < (6 : Int)); (tt ∧ T1 ∧ T1 ∧ tt ∧ T1 ∧ tt ∧ T1 ∧ T1 ∧ T1 ∧ tt ∧ T1 ∧ T1 ∧ tt ∧ (T1 ∧ True) ∧ T1 ∧ tt ∧ ((0 : Int) ≤ (6 : Int) ∧ (6 : Int) < (9 : Int) ∧ 42 ≤ 54 ∧ (okRead [Kd.bool, Kd.bool, Kd.bool, Kd.bool, Kd.bool, Kd.bool] (AV.agg hasAV) 36)) ∧ T1 ∧ tt ∧ tt ∧ tt ∧ w5_x ∧ tt ∧ T1 ∧ T1 ∧ false = false ∧ T1 ∧ w6_x ∧ tt ∧ T1 ∧ T1 ∧ false = false ∧ T1 ∧ T1 ∧ w7_x ∧ tt ∧ T1 ∧ T1 ∧ false = false ∧ T1 ∧ T1 ∧ w8_x ∧ tt ∧ T1 ∧ T1 ∧ T1 ∧ tt ∧ T1 ∧ T1 ∧ T1 ∧ T1 ∧ (bif (mode != 0) then w1_x else (w0_x ∧ tt ∧ T1 ∧ T1 ∧ T1 ∧ tt ∧ T1 ∧ T1 ∧ T1 ∧ T1 ∧ (bif (n != 0) then w2_x else (((0 : Int) ≤ (5 : Int) ∧ (5 : Int) < (6 : Int)) ∧ tt ∧ T1 ∧ T1 ∧ T1 ∧ tt ∧ T1 ∧ T1 ∧ T1 ∧ (bif (time != 0) then w3_x else (tt ∧ w5_x ∧ tt ∧ T1 ∧ T1 ∧ tt ∧ (T1 ∧ (List.length foot) ≤ 900000) ∧ T1 ∧ T1 ∧ T1 ∧ (bif (Bool.not (rightP foot)) then w1_x else (w6_x ∧ tt ∧ T1 ∧ T1 ∧ tt ∧ T1 ∧ T1 ∧ T1 ∧ T1 ∧ (bif (rq == 0) then w2_x else (w7_x ∧ tt ∧ T1 ∧ T1 ∧ tt ∧ (T1 ∧ (List.length path) ≤ 900000) ∧ T1 ∧ T1 ∧ T1 ∧ (bif (Bool.not (rightP path)) then w3_x else (tt ∧ w8_x ∧ tt ∧ T1 ∧ false = false ∧ T1 ∧ w0_x ∧ tt ∧ T1 ∧ false = false ∧ T1 ∧ T1 ∧ w0_x ∧ tt ∧ T1 ∧ false = false ∧ T1 ∧ false = false ∧ T1 ∧ T1 ∧ w0_x ∧ tt ∧ T1 ∧ false = false ∧ T1 ∧ tt ∧ T1 ∧ tt ∧ T1 ∧ T1 ∧ (bif (decide ((0 : Int) ≤ time)) then (T1 ∧ tt ∧ T1 ∧ T1 ∧ T1 ∧ tt ∧ tt ∧ (q0 = (decide (time ≤ 1099511627776)) ∧ True) ∧ tt) else (false = false ∧ T1 ∧ tt ∧ tt ∧ w4_x ∧ tt)))))))))))))))) : inRrightK6 num foot rq path mode n time :=
  Eq.mp (show _ = _ by kernel_rfl) h
theorem vcRrightK7 (num : Int) (foot : (List UInt8)) (rq : Int) (path : (List UInt8)) (mode : Int) (n : Int) (time : Int) (h : let q0 := (rightC (CmdP.mk 7 num foot rq path mode n time)); let w2_x := ((0 : Int) ≤ (4 : Int) ∧ (4 : Int) < (6 : Int)); let w3_x := (q0 = false ∧ True); let w0_x := (tt ∧ T1 ∧ tt ∧ tt ∧ T1 ∧ tt ∧ tt ∧ w3_x ∧ tt); let w1_x := (tt ∧ T1 ∧ tt ∧ tt ∧ w3_x ∧ tt); let w4_x := ((0 : Int) ≤ (0 : Int) ∧ (0 : Int) < (6 : Int)); let w5_x := ((0 : Int) ≤ (1 : Int) ∧ (1 : Int) < (6 : Int)); let w6_x := ((0 : Int) ≤ (2 : Int) ∧ (2 : Int) < (6 : Int)); let w7_x := ((0 : Int) ≤ (3 : Int) ∧ (3 : Int) < (6 : Int)); (tt ∧ T1 ∧ T1 ∧ tt ∧ T1 ∧ tt ∧ T1 ∧ T1 ∧ T1 ∧ tt ∧ T1 ∧ T1 ∧ tt ∧ (T1 ∧ True) ∧ T1 ∧ tt ∧ ((0 : Int) ≤ (7 : Int) ∧ (7 : Int) < (9 : Int) ∧ 48 ≤ 54 ∧ (okRead [Kd.bool, Kd.bool, Kd.bool, Kd.bool, Kd.bool, Kd.bool] (AV.agg hasAV) 42)) ∧ T1 ∧ tt ∧ tt ∧ tt ∧ w4_x ∧ tt ∧ T1 ∧ T1 ∧ false = false ∧ T1 ∧ w5_x ∧ tt ∧ T1 ∧ T1 ∧ false = false ∧ T1 ∧ T1 ∧ w6_x ∧ tt ∧ T1 ∧ T1 ∧ false = false ∧ T1 ∧ T1 ∧ w7_x ∧ tt ∧ T1 ∧ T1 ∧ T1 ∧ tt ∧ T1 ∧ T1 ∧ T1 ∧ T1 ∧ (bif (mode != 0) then w0_x else (w2_x ∧ tt ∧ T1 ∧ T1 ∧ false = false ∧ T1 ∧ T1 ∧ ((0 : Int) ≤ (5 : Int) ∧ (5 : Int) < (6 : Int)) ∧ tt ∧ T1 ∧ T1 ∧ T1 ∧ tt ∧ T1 ∧ T1 ∧ T1 ∧ (bif (time != 0) then w1_x else (tt ∧ w4_x ∧ tt ∧ T1 ∧ T1 ∧ tt ∧ (T1 ∧ (List.length foot) ≤ 900000) ∧ T1 ∧ T1 ∧ T1 ∧ (bif (Bool.not (rightP foot)) then w0_x else (w5_x ∧ tt ∧ T1 ∧ T1 ∧ tt ∧ T1 ∧ T1 ∧ T1 ∧ T1 ∧ (bif (rq == 0) then (tt ∧ tt ∧ T1 ∧ tt ∧ tt ∧ w3_x ∧ tt) else (w6_x ∧ tt ∧ T1 ∧ T1 ∧ tt ∧ (T1 ∧ (List.length path) ≤ 900000) ∧ T1 ∧ T1 ∧ T1 ∧ (bif (Bool.not (rightP path)) then w1_x else (tt ∧ w7_x ∧ tt ∧ T1 ∧ false = false ∧ T1 ∧ w2_x ∧ tt ∧ T1 ∧ T1 ∧ tt ∧ T1 ∧ T1 ∧ T1 ∧ T1 ∧ (bif (n == 0) then w0_x else (w2_x ∧ tt ∧ T1 ∧ T1 ∧ tt ∧ T1 ∧ T1 ∧ T1 ∧ false = false ∧ T1 ∧ T1 ∧ w2_x ∧ tt ∧ T1 ∧ T1 ∧ tt ∧ T1 ∧ T1 ∧ T1 ∧ (bif (decide ((9223372036854775807 : Int) < n)) then w1_x else (tt ∧ T1 ∧ tt ∧ T1 ∧ T1 ∧ (bif (decide ((0 : Int) ≤ time)) then (T1 ∧ tt ∧ T1 ∧ T1 ∧ T1 ∧ tt ∧ tt ∧ (q0 = (decide (time ≤ 1099511627776)) ∧ True) ∧ tt) else (false = false ∧ T1 ∧ tt ∧ tt ∧ w3_x ∧ tt)))))))))))))))))) : inRrightK7 num foot rq path mode n time :=
  Eq.mp (show _ = _ by kernel_rfl) h
theorem vcRrightK8 (num : Int) (foot : (List UInt8)) (rq : Int) (path : (List UInt8)) (mode : Int) (n : Int) (time : Int) (h : let q0 := (rightC (CmdP.mk 8 num foot rq path mode n time)); let w0_x := ((0 : Int) ≤ (4 : Int) ∧ (4 : Int) < (6 : Int)); let w2_x := (q0 = false ∧ True); let w1_x := (tt ∧ T1 ∧ tt ∧ tt ∧ T1 ∧ tt ∧ tt ∧ w2_x ∧ tt); let w3_x := ((0 : Int) ≤ (0 : Int) ∧ (0 : Int) < (6 : Int)); let w4_x := ((0 : Int) ≤ (1 : Int) ∧ (1 : Int) < (6 : Int)); let w5_x := ((0 : Int) ≤ (2 : Int) ∧ (2 : Int) < (6 : Int)); let w6_x := ((0 : Int) ≤ (3 : Int) ∧ (3 : Int) < (6 : Int)); (tt ∧ T1 ∧ T1 ∧ tt ∧ T1 ∧ tt ∧ T1 ∧ T1 ∧ T1 ∧ tt ∧ T1 ∧ T1 ∧ tt ∧ (T1 ∧ True) ∧ T1 ∧ tt ∧ ((0 : Int) ≤ (8 : Int) ∧ (8 : Int) < (9 : Int) ∧ 54 ≤ 54 ∧ (okRead [Kd.bool, Kd.bool, Kd.bool, Kd.bool, Kd.bool, Kd.bool] (AV.agg hasAV) 48)) ∧ T1 ∧ tt ∧ tt ∧ tt ∧ w3_x ∧ tt ∧ T1 ∧ T1 ∧ false = false ∧ T1 ∧ w4_x ∧ tt ∧ T1 ∧ T1 ∧ T1 ∧ tt ∧ T1 ∧ T1 ∧ T1 ∧ T1 ∧ (bif (rq != 0) then (tt ∧ T1 ∧ tt ∧ T1 ∧ tt ∧ T1 ∧ tt ∧ tt ∧ T1 ∧ tt ∧ tt ∧ w2_x ∧ tt) else (w5_x ∧ tt ∧ T1 ∧ T1 ∧ T1 ∧ tt ∧ T1 ∧ T1 ∧ T1 ∧ T1 ∧ (bif (Bool.not (@BEq.beq.{0} (List UInt8) (@List.instBEq.{0} UInt8 (@instBEqOfDecidableEq.{0} UInt8 instDecidableEqUInt8)) path (@List.nil.{0} UInt8))) then (tt ∧ T1 ∧ tt ∧ T1 ∧ tt ∧ tt ∧ T1 ∧ tt ∧ tt ∧ w2_x ∧ tt) else (w6_x ∧ tt ∧ T1 ∧ T1 ∧ T1 ∧ tt ∧ T1 ∧ T1 ∧ T1 ∧ T1 ∧ (bif (mode != 0) then w1_x else (w0_x ∧ tt ∧ T1 ∧ T1 ∧ T1 ∧ tt ∧ T1 ∧ T1 ∧ T1 ∧ T1 ∧ (bif (n != 0) then (tt ∧ tt ∧ T1 ∧ tt ∧ tt ∧ w2_x ∧ tt) else (((0 : Int) ≤ (5 : Int) ∧ (5 : Int) < (6 : Int)) ∧ tt ∧ T1 ∧ T1 ∧ false = false ∧ T1 ∧ tt ∧ w3_x ∧ tt ∧ T1 ∧ T1 ∧ tt ∧ (T1 ∧ (List.length foot) ≤ 900000) ∧ T1 ∧ T1 ∧ T1 ∧ (bif (Bool.not (rightP foot)) then w1_x else (w4_x ∧ tt ∧ T1 ∧ false = false ∧ T1 ∧ T1 ∧ w5_x ∧ tt ∧ T1 ∧ false = false ∧ T1 ∧ tt ∧ w6_x ∧ tt ∧ T1 ∧ false = false ∧ T1 ∧ w0_x ∧ tt ∧ T1 ∧ false = false ∧ T1 ∧ T1 ∧ w0_x ∧ tt ∧ T1 ∧ false = false ∧ T1 ∧ false = false ∧ T1 ∧ T1 ∧ w0_x ∧ tt ∧ T1 ∧ false = false ∧ T1 ∧ tt ∧ T1 ∧ tt ∧ T1 ∧ T1 ∧ (bif (decide ((0 : Int) ≤ time)) then (T1 ∧ tt ∧ T1 ∧ T1 ∧ T1 ∧ tt ∧ tt ∧ (q0 = (decide (time ≤ 1099511627776)) ∧ True) ∧ tt) else (false = false ∧ T1 ∧ tt ∧ tt ∧ w2_x ∧ tt)))))))))))))) : inRrightK8 num foot rq path mode n time :=
  Eq.mp (show _ = _ by kernel_rfl) h
end Go.Proofs.YtddilmocngedjaaDoor
/- The conditions of the document's table of commands hold. -/
namespace Go.Proofs.YtddilmocngedjaaDoor
set_option linter.unusedVariables false
set_option linter.unusedSimpArgs false
open Go.RowKit
set_option maxRecDepth 100000

theorem okHas070 : OkHas070 := by
  intro hq
  refine vcHas070 ?_
  simp only [true_and, and_true, forall_eq, eq_self, not_true, not_false_eq_true, if_true]
theorem okRrightO0 : OkRrightO0 := by
  intro k num foot rq path mode n time hq
  refine vcRrightO0 k num foot rq path mode n time ?_
  simp only [true_and, and_true, forall_eq, eq_self, not_true, not_false_eq_true, if_true]
  exact cond_prop (fun _ => trivial) fun h => cond_prop (fun _ => trivial) fun h2 => by
    simp only [decide_eq_false_iff_not] at h h2
    have := hq.1
    omega
theorem tab_read (j : Nat) (hj : j = 0 ∨ j = 6 ∨ j = 12 ∨ j = 18 ∨ j = 24 ∨ j = 30 ∨ j = 36 ∨ j = 42 ∨ j = 48) : okRead [.bool, .bool, .bool, .bool, .bool, .bool] (.agg hasAV) j := by
  intro i kd h
  rcases hj with rfl | rfl | rfl | rfl | rfl | rfl | rfl | rfl | rfl
  all_goals
    rcases i with _ | _ | _ | _ | _ | _ | i
    all_goals first | (cases h; rfl) | (simp at h)
theorem rrightK0 (num : Int) (foot : List UInt8) (rq : Int) (path : List UInt8) (mode n time : Int) (h1 : foot.length ≤ 900000) (h2 : path.length ≤ 900000) : inRrightK0 num foot rq path mode n time := by
  refine vcRrightK0 num foot rq path mode n time ?_
  simp only [true_and, and_true, forall_eq, eq_self, not_true, not_false_eq_true, if_true]
  refine ⟨⟨by omega, by omega, by omega, tab_read _ (by omega)⟩, ?_⟩
  simp [rightC, okK, hS, hR, hP, hM, hN, hT, mostK, cif, h1, h2]
  repeat' split
  all_goals (intros; first | omega | contradiction | (simp_all; done) | (simp_all; omega))
theorem rrightK1 (num : Int) (foot : List UInt8) (rq : Int) (path : List UInt8) (mode n time : Int) (h1 : foot.length ≤ 900000) (h2 : path.length ≤ 900000) : inRrightK1 num foot rq path mode n time := by
  refine vcRrightK1 num foot rq path mode n time ?_
  simp only [true_and, and_true, forall_eq, eq_self, not_true, not_false_eq_true, if_true]
  refine ⟨⟨by omega, by omega, by omega, tab_read _ (by omega)⟩, ?_⟩
  simp [rightC, okK, hS, hR, hP, hM, hN, hT, mostK, cif, h1, h2]
  repeat' split
  all_goals (intros; first | omega | contradiction | (simp_all; done) | (simp_all; omega))
theorem rrightK2 (num : Int) (foot : List UInt8) (rq : Int) (path : List UInt8) (mode n time : Int) (h1 : foot.length ≤ 900000) (h2 : path.length ≤ 900000) : inRrightK2 num foot rq path mode n time := by
  refine vcRrightK2 num foot rq path mode n time ?_
  simp only [true_and, and_true, forall_eq, eq_self, not_true, not_false_eq_true, if_true]
  refine ⟨⟨by omega, by omega, by omega, tab_read _ (by omega)⟩, ?_⟩
  simp [rightC, okK, hS, hR, hP, hM, hN, hT, mostK, cif, h1, h2]
  repeat' split
  all_goals (intros; first | omega | contradiction | (simp_all; done) | (simp_all; omega))
theorem rrightK3 (num : Int) (foot : List UInt8) (rq : Int) (path : List UInt8) (mode n time : Int) (h1 : foot.length ≤ 900000) (h2 : path.length ≤ 900000) : inRrightK3 num foot rq path mode n time := by
  refine vcRrightK3 num foot rq path mode n time ?_
  simp only [true_and, and_true, forall_eq, eq_self, not_true, not_false_eq_true, if_true]
  refine ⟨⟨by omega, by omega, by omega, tab_read _ (by omega)⟩, ?_⟩
  simp [rightC, okK, hS, hR, hP, hM, hN, hT, mostK, cif, h1, h2]
  repeat' split
  all_goals (intros; first | omega | contradiction | (simp_all; done) | (simp_all; omega))
theorem rrightK4 (num : Int) (foot : List UInt8) (rq : Int) (path : List UInt8) (mode n time : Int) (h1 : foot.length ≤ 900000) (h2 : path.length ≤ 900000) : inRrightK4 num foot rq path mode n time := by
  refine vcRrightK4 num foot rq path mode n time ?_
  simp only [true_and, and_true, forall_eq, eq_self, not_true, not_false_eq_true, if_true]
  refine ⟨⟨by omega, by omega, by omega, tab_read _ (by omega)⟩, ?_⟩
  simp [rightC, okK, hS, hR, hP, hM, hN, hT, mostK, cif, h1, h2]
  repeat' split
  all_goals (intros; first | omega | contradiction | (simp_all; done) | (simp_all; omega))
theorem rrightK5 (num : Int) (foot : List UInt8) (rq : Int) (path : List UInt8) (mode n time : Int) (h1 : foot.length ≤ 900000) (h2 : path.length ≤ 900000) : inRrightK5 num foot rq path mode n time := by
  refine vcRrightK5 num foot rq path mode n time ?_
  simp only [true_and, and_true, forall_eq, eq_self, not_true, not_false_eq_true, if_true]
  refine ⟨⟨by omega, by omega, by omega, tab_read _ (by omega)⟩, ?_⟩
  simp [rightC, okK, hS, hR, hP, hM, hN, hT, mostK, cif, h1, h2]
  repeat' split
  all_goals (intros; first | omega | contradiction | (simp_all; done) | (simp_all; omega))
theorem rrightK6 (num : Int) (foot : List UInt8) (rq : Int) (path : List UInt8) (mode n time : Int) (h1 : foot.length ≤ 900000) (h2 : path.length ≤ 900000) : inRrightK6 num foot rq path mode n time := by
  refine vcRrightK6 num foot rq path mode n time ?_
  simp only [true_and, and_true, forall_eq, eq_self, not_true, not_false_eq_true, if_true]
  refine ⟨⟨by omega, by omega, by omega, tab_read _ (by omega)⟩, ?_⟩
  simp [rightC, okK, hS, hR, hP, hM, hN, hT, mostK, cif, h1, h2]
  repeat' split
  all_goals (intros; first | omega | contradiction | (simp_all; done) | (simp_all; omega))
theorem rrightK7 (num : Int) (foot : List UInt8) (rq : Int) (path : List UInt8) (mode n time : Int) (h1 : foot.length ≤ 900000) (h2 : path.length ≤ 900000) : inRrightK7 num foot rq path mode n time := by
  refine vcRrightK7 num foot rq path mode n time ?_
  simp only [true_and, and_true, forall_eq, eq_self, not_true, not_false_eq_true, if_true]
  refine ⟨⟨by omega, by omega, by omega, tab_read _ (by omega)⟩, ?_⟩
  simp [rightC, okK, hS, hR, hP, hM, hN, hT, mostK, cif, h1, h2]
  repeat' split
  all_goals (intros; first | omega | contradiction | (simp_all; done) | (simp_all; omega))
theorem rrightK8 (num : Int) (foot : List UInt8) (rq : Int) (path : List UInt8) (mode n time : Int) (h1 : foot.length ≤ 900000) (h2 : path.length ≤ 900000) : inRrightK8 num foot rq path mode n time := by
  refine vcRrightK8 num foot rq path mode n time ?_
  simp only [true_and, and_true, forall_eq, eq_self, not_true, not_false_eq_true, if_true]
  refine ⟨⟨by omega, by omega, by omega, tab_read _ (by omega)⟩, ?_⟩
  simp [rightC, okK, hS, hR, hP, hM, hN, hT, mostK, cif, h1, h2]
  repeat' split
  all_goals (intros; first | omega | contradiction | (simp_all; done) | (simp_all; omega))
theorem okRrightI0 : OkRrightI0 := by
  intro k num foot rq path mode n time hq
  obtain ⟨⟨a, b⟩, h1, h2⟩ := hq
  have hk : k = 0 ∨ k = 1 ∨ k = 2 ∨ k = 3 ∨ k = 4 ∨ k = 5 ∨ k = 6 ∨ k = 7 ∨ k = 8 := by omega
  rcases hk with rfl | rfl | rfl | rfl | rfl | rfl | rfl | rfl | rfl
  · exact rrightK0 num foot rq path mode n time h1 h2
  · exact rrightK1 num foot rq path mode n time h1 h2
  · exact rrightK2 num foot rq path mode n time h1 h2
  · exact rrightK3 num foot rq path mode n time h1 h2
  · exact rrightK4 num foot rq path mode n time h1 h2
  · exact rrightK5 num foot rq path mode n time h1 h2
  · exact rrightK6 num foot rq path mode n time h1 h2
  · exact rrightK7 num foot rq path mode n time h1 h2
  · exact rrightK8 num foot rq path mode n time h1 h2
end Go.Proofs.YtddilmocngedjaaDoor
/- The contracts are met. -/
namespace Go.Proofs.YtddilmocngedjaaDoor
set_option linter.unusedVariables false
set_option linter.unusedSimpArgs false
open Go.RowKit
theorem sndHas07 : Sound Tryd.prog (lookΓ gamHas07) := sound_of _ fun p hp => by
  simp [gamHas07] at hp
set_option maxHeartbeats 4000000 in
theorem meetsHas07 : Meets Tryd.prog 60 has07F := by
  refine meets_of_awp (Γ := lookΓ gamHas07) (L := fun _ _ => none) sndHas07 mixedOrders Tryd.func60 rfl Tryd.call60 ?_
  intro args q r hF hq ho
  unfold has07F at hF
  split at hF
  · cases hF
    exact ⟨by simp only [List.length_cons, List.length_nil]; decide, okHas070 hq⟩
  · cases hF
theorem sndRrightO : Sound Tryd.prog (lookΓ gamRrightO) := sound_of _ fun p hp => by
  simp [gamRrightO] at hp
set_option maxHeartbeats 4000000 in
theorem meetsRrightO : Meets Tryd.prog 59 rrightOF := by
  refine meets_of_awp (Γ := lookΓ gamRrightO) (L := fun _ _ => none) sndRrightO mixedOrders Tryd.func59 rfl Tryd.call59 ?_
  intro args q r hF hq ho
  unfold rrightOF at hF
  split at hF
  · cases hF
    exact ⟨by simp only [List.length_cons, List.length_nil]; decide, okRrightO0 _ _ _ _ _ _ _ _ hq⟩
  · cases hF
theorem sndRrightI : Sound Tryd.prog (lookΓ gamRrightI) := sound_of _ fun p hp => by
  simp only [gamRrightI, List.mem_cons, List.not_mem_nil, or_false] at hp
  rcases hp with rfl | rfl
  · exact meetsHas07.orNil
  · exact meetsRefRight.orNil
set_option maxHeartbeats 4000000 in
theorem meetsRrightI : Meets Tryd.prog 59 rrightIF := by
  refine meets_of_awp (Γ := lookΓ gamRrightI) (L := fun _ _ => none) sndRrightI mixedOrders Tryd.func59 rfl Tryd.call59 ?_
  intro args q r hF hq ho
  unfold rrightIF at hF
  split at hF
  · cases hF
    exact ⟨by simp only [List.length_cons, List.length_nil]; decide, okRrightI0 _ _ _ _ _ _ _ _ hq⟩
  · cases hF
end Go.Proofs.YtddilmocngedjaaDoor
