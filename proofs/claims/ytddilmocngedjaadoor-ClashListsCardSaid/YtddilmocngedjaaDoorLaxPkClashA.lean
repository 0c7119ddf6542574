/- Contracts by content, their conditions, and that they are met: ClashA. -/
import Derived.Test.YtddilmocngedjaaDoorLaxCmdC
import Derived.Test.YtddilmocngedjaaDoorLaxPkPthO
import Derived.Test.YtddilmocngedjaaDoorLaxPkCmdB
/- Contracts by content, and the conditions that their code must meet. -/
namespace Go.Proofs.YtddilmocngedjaaDoor
set_option linter.unusedVariables false
set_option linter.unusedSimpArgs false
open Go.RowKit
def overP (p q : List UInt8) : Bool := refAboveP p q || refAboveP q p
def clashC (a b : CmdP) : Bool := footOK a && footOK b && (decide (a.num = b.num) || overP (footV a) (footV b))
def cfootF : Con
  | [.val (.agg zcc)] => (match cmdOf zcc with | some c => some (c.foot.length ≤ 900000 ∧ c.path.length ≤ 900000, ⟨.tup [.str (footV c), .bool (footOK c)], none, none⟩) | _ => none)
  | _ => none
def gamCfoot : List (Nat × Con) := [(77, hadF.orNil), (46, crightF.orNil)]
def lpCfoot0 (c : CmdP) : Nat → Option LoopPlan := fun _ => none
def inCfoot0 (c : CmdP) : Prop := awp [] (lpCfoot0 c) (lookΓ gamCfoot) Tryd.prog Tryd.f83.ntmps 0 (Tryd.f83.body.getD .skip) (entrySt [.val (.agg (cmdL c))]) (exitQ Tryd.prog Tryd.f83.results.toList [] ⟨.tup [.str (footV c), .bool (footOK c)], none, none⟩)
def OkCfoot0 : Prop := ∀ (c : CmdP), c.foot.length ≤ 900000 ∧ c.path.length ≤ 900000 → inCfoot0 c
def rfootF : Con
  | [.val (.agg [.int .i64 k, .int .u64 num, .str foot, .int .u64 rq, .str path, .int .i64 mode, .int .u64 n, .int .i64 time])] => (some (foot.length ≤ 900000 ∧ path.length ≤ 900000, ⟨.tup [.str (footV ⟨k, num, foot, rq, path, mode, n, time⟩), .bool (footOK ⟨k, num, foot, rq, path, mode, n, time⟩)], none, none⟩))
  | _ => none
def gamRfoot : List (Nat × Con) := [(60, has07F.orNil), (59, rrightF.orNil)]
def lpRfoot0 (k num : Int) (foot : List UInt8) (rq : Int) (path : List UInt8) (mode n time : Int) : Nat → Option LoopPlan := fun _ => none
def inRfoot0 (k num : Int) (foot : List UInt8) (rq : Int) (path : List UInt8) (mode n time : Int) : Prop := awp [] (lpRfoot0 k num foot rq path mode n time) (lookΓ gamRfoot) Tryd.prog Tryd.f28.ntmps 0 (Tryd.f28.body.getD .skip) (entrySt [.val (.agg [.int .i64 k, .int .u64 num, .str foot, .int .u64 rq, .str path, .int .i64 mode, .int .u64 n, .int .i64 time])]) (exitQ Tryd.prog Tryd.f28.results.toList [] ⟨.tup [.str (footV ⟨k, num, foot, rq, path, mode, n, time⟩), .bool (footOK ⟨k, num, foot, rq, path, mode, n, time⟩)], none, none⟩)
def OkRfoot0 : Prop := ∀ (k num : Int) (foot : List UInt8) (rq : Int) (path : List UInt8) (mode n time : Int), foot.length ≤ 900000 ∧ path.length ≤ 900000 → inRfoot0 k num foot rq path mode n time
def rclashF : Con
  | [.val (.agg [.int .i64 k, .int .u64 num, .str foot, .int .u64 rq, .str path, .int .i64 mode, .int .u64 n, .int .i64 time]), .val (.agg [.int .i64 k2, .int .u64 num2, .str foot2, .int .u64 rq2, .str path2, .int .i64 mode2, .int .u64 n2, .int .i64 time2])] => (some (foot.length ≤ 900000 ∧ path.length ≤ 900000 ∧ foot2.length ≤ 900000 ∧ path2.length ≤ 900000, ⟨.bool (clashC ⟨k, num, foot, rq, path, mode, n, time⟩ ⟨k2, num2, foot2, rq2, path2, mode2, n2, time2⟩), none, none⟩))
  | _ => none
def gamRclash : List (Nat × Con) := [(28, rfootF.orNil), (29, refOverlapF.orNil)]
def lpRclash0 (k num : Int) (foot : List UInt8) (rq : Int) (path : List UInt8) (mode n time : Int) (k2 num2 : Int) (foot2 : List UInt8) (rq2 : Int) (path2 : List UInt8) (mode2 n2 time2 : Int) : Nat → Option LoopPlan := fun _ => none
def inRclash0 (k num : Int) (foot : List UInt8) (rq : Int) (path : List UInt8) (mode n time : Int) (k2 num2 : Int) (foot2 : List UInt8) (rq2 : Int) (path2 : List UInt8) (mode2 n2 time2 : Int) : Prop := awp [] (lpRclash0 k num foot rq path mode n time k2 num2 foot2 rq2 path2 mode2 n2 time2) (lookΓ gamRclash) Tryd.prog Tryd.f9.ntmps 0 (Tryd.f9.body.getD .skip) (entrySt [.val (.agg [.int .i64 k, .int .u64 num, .str foot, .int .u64 rq, .str path, .int .i64 mode, .int .u64 n, .int .i64 time]), .val (.agg [.int .i64 k2, .int .u64 num2, .str foot2, .int .u64 rq2, .str path2, .int .i64 mode2, .int .u64 n2, .int .i64 time2])]) (exitQ Tryd.prog Tryd.f9.results.toList [] ⟨.bool (clashC ⟨k, num, foot, rq, path, mode, n, time⟩ ⟨k2, num2, foot2, rq2, path2, mode2, n2, time2⟩), none, none⟩)
def OkRclash0 : Prop := ∀ (k num : Int) (foot : List UInt8) (rq : Int) (path : List UInt8) (mode n time : Int) (k2 num2 : Int) (foot2 : List UInt8) (rq2 : Int) (path2 : List UInt8) (mode2 n2 time2 : Int), foot.length ≤ 900000 ∧ path.length ≤ 900000 ∧ foot2.length ≤ 900000 ∧ path2.length ≤ 900000 → inRclash0 k num foot rq path mode n time k2 num2 foot2 rq2 path2 mode2 n2 time2
def of08F : Con
  | [.val (.agg [.int .i64 k, .int .u64 num, .str foot, .int .u64 rq, .str path, .int .i64 mode, .int .u64 n, .int .i64 time])] => (some (True, ⟨.agg [.int .i64 k, .int .u64 num, .str foot, .int .u64 rq, .str path, .int .i64 mode, .int .u64 n, .int .i64 time], none, none⟩))
  | _ => none
def gamOf08 : List (Nat × Con) := []
def lpOf080 (k num : Int) (foot : List UInt8) (rq : Int) (path : List UInt8) (mode n time : Int) : Nat → Option LoopPlan := fun _ => none
def inOf080 (k num : Int) (foot : List UInt8) (rq : Int) (path : List UInt8) (mode n time : Int) : Prop := awp [] (lpOf080 k num foot rq path mode n time) (lookΓ gamOf08) Tryd.prog Tryd.f10.ntmps 0 (Tryd.f10.body.getD .skip) (entrySt [.val (.agg [.int .i64 k, .int .u64 num, .str foot, .int .u64 rq, .str path, .int .i64 mode, .int .u64 n, .int .i64 time])]) (exitQ Tryd.prog Tryd.f10.results.toList [] ⟨.agg [.int .i64 k, .int .u64 num, .str foot, .int .u64 rq, .str path, .int .i64 mode, .int .u64 n, .int .i64 time], none, none⟩)
def OkOf080 : Prop := ∀ (k num : Int) (foot : List UInt8) (rq : Int) (path : List UInt8) (mode n time : Int), True → inOf080 k num foot rq path mode n time
def small08F : Con
  | [.val (.agg [.int .i64 k, .int .u64 num, .str foot, .int .u64 rq, .str path, .int .i64 mode, .int .u64 n, .int .i64 time])] => (some (foot.length ≤ 9223372036854775807 ∧ path.length ≤ 9223372036854775807, ⟨.bool (decide (path.length < 200) && decide (foot.length < 200)), none, none⟩))
  | _ => none
def gamSmall08 : List (Nat × Con) := []
def lpSmall080 (k num : Int) (foot : List UInt8) (rq : Int) (path : List UInt8) (mode n time : Int) : Nat → Option LoopPlan := fun _ => none
def inSmall080 (k num : Int) (foot : List UInt8) (rq : Int) (path : List UInt8) (mode n time : Int) : Prop := awp [] (lpSmall080 k num foot rq path mode n time) (lookΓ gamSmall08) Tryd.prog Tryd.f7.ntmps 0 (Tryd.f7.body.getD .skip) (entrySt [.val (.agg [.int .i64 k, .int .u64 num, .str foot, .int .u64 rq, .str path, .int .i64 mode, .int .u64 n, .int .i64 time])]) (exitQ Tryd.prog Tryd.f7.results.toList [] ⟨.bool (decide (path.length < 200) && decide (foot.length < 200)), none, none⟩)
def OkSmall080 : Prop := ∀ (k num : Int) (foot : List UInt8) (rq : Int) (path : List UInt8) (mode n time : Int), foot.length ≤ 9223372036854775807 ∧ path.length ≤ 9223372036854775807 → inSmall080 k num foot rq path mode n time
def keyOfF : Con
  | [.val (.agg [.int .i64 k, .int .u64 num, .str foot, .int .u64 rq, .str path, .int .i64 mode, .int .u64 n, .int .i64 time])] => (some (foot.length ≤ 900000 ∧ path.length ≤ 900000, ⟨.tup [.agg [.str (bif footOK ⟨k, num, foot, rq, path, mode, n, time⟩ then footV ⟨k, num, foot, rq, path, mode, n, time⟩ else []), .int .u64 (bif footOK ⟨k, num, foot, rq, path, mode, n, time⟩ then num else 0)], .bool (footOK ⟨k, num, foot, rq, path, mode, n, time⟩)], none, none⟩))
  | _ => none
def gamKeyOf : List (Nat × Con) := [(83, cfootF.orNil)]
def lpKeyOf0 (k num : Int) (foot : List UInt8) (rq : Int) (path : List UInt8) (mode n time : Int) : Nat → Option LoopPlan := fun _ => none
def inKeyOf0 (k num : Int) (foot : List UInt8) (rq : Int) (path : List UInt8) (mode n time : Int) : Prop := awp [] (lpKeyOf0 k num foot rq path mode n time) (lookΓ gamKeyOf) Tryd.prog Tryd.f57.ntmps 0 (Tryd.f57.body.getD .skip) (entrySt [.val (.agg [.int .i64 k, .int .u64 num, .str foot, .int .u64 rq, .str path, .int .i64 mode, .int .u64 n, .int .i64 time])]) (exitQ Tryd.prog Tryd.f57.results.toList [] ⟨.tup [.agg [.str (bif footOK ⟨k, num, foot, rq, path, mode, n, time⟩ then footV ⟨k, num, foot, rq, path, mode, n, time⟩ else []), .int .u64 (bif footOK ⟨k, num, foot, rq, path, mode, n, time⟩ then num else 0)], .bool (footOK ⟨k, num, foot, rq, path, mode, n, time⟩)], none, none⟩)
def OkKeyOf0 : Prop := ∀ (k num : Int) (foot : List UInt8) (rq : Int) (path : List UInt8) (mode n time : Int), foot.length ≤ 900000 ∧ path.length ≤ 900000 → inKeyOf0 k num foot rq path mode n time
def keyClashF : Con
  | [.val (.agg [.str p, .int .u64 a]), .val (.agg [.str q, .int .u64 b])] => (some (p.length ≤ 900000 ∧ q.length ≤ 900000, ⟨.bool (decide (a = b) || overP p q), none, none⟩))
  | _ => none
def gamKeyClash : List (Nat × Con) := [(32, overlapF.orNil)]
def lpKeyClash0 (p : List UInt8) (a : Int) (q : List UInt8) (b : Int) : Nat → Option LoopPlan := fun _ => none
def inKeyClash0 (p : List UInt8) (a : Int) (q : List UInt8) (b : Int) : Prop := awp [] (lpKeyClash0 p a q b) (lookΓ gamKeyClash) Tryd.prog Tryd.f58.ntmps 0 (Tryd.f58.body.getD .skip) (entrySt [.val (.agg [.str p, .int .u64 a]), .val (.agg [.str q, .int .u64 b])]) (exitQ Tryd.prog Tryd.f58.results.toList [] ⟨.bool (decide (a = b) || overP p q), none, none⟩)
def OkKeyClash0 : Prop := ∀ (p : List UInt8) (a : Int) (q : List UInt8) (b : Int), p.length ≤ 900000 ∧ q.length ≤ 900000 → inKeyClash0 p a q b
def clashF : Con
  | [.val (.agg [.int .i64 k, .int .u64 num, .str foot, .int .u64 rq, .str path, .int .i64 mode, .int .u64 n, .int .i64 time]), .val (.agg [.int .i64 k2, .int .u64 num2, .str foot2, .int .u64 rq2, .str path2, .int .i64 mode2, .int .u64 n2, .int .i64 time2])] => (some (foot.length ≤ 900000 ∧ path.length ≤ 900000 ∧ foot2.length ≤ 900000 ∧ path2.length ≤ 900000, ⟨.bool (clashC ⟨k, num, foot, rq, path, mode, n, time⟩ ⟨k2, num2, foot2, rq2, path2, mode2, n2, time2⟩), none, none⟩))
  | _ => none
def gamClash : List (Nat × Con) := [(57, keyOfF.orNil), (58, keyClashF.orNil)]
def lpClash0 (k num : Int) (foot : List UInt8) (rq : Int) (path : List UInt8) (mode n time : Int) (k2 num2 : Int) (foot2 : List UInt8) (rq2 : Int) (path2 : List UInt8) (mode2 n2 time2 : Int) : Nat → Option LoopPlan := fun _ => none
def inClash0 (k num : Int) (foot : List UInt8) (rq : Int) (path : List UInt8) (mode n time : Int) (k2 num2 : Int) (foot2 : List UInt8) (rq2 : Int) (path2 : List UInt8) (mode2 n2 time2 : Int) : Prop := awp [] (lpClash0 k num foot rq path mode n time k2 num2 foot2 rq2 path2 mode2 n2 time2) (lookΓ gamClash) Tryd.prog Tryd.f27.ntmps 0 (Tryd.f27.body.getD .skip) (entrySt [.val (.agg [.int .i64 k, .int .u64 num, .str foot, .int .u64 rq, .str path, .int .i64 mode, .int .u64 n, .int .i64 time]), .val (.agg [.int .i64 k2, .int .u64 num2, .str foot2, .int .u64 rq2, .str path2, .int .i64 mode2, .int .u64 n2, .int .i64 time2])]) (exitQ Tryd.prog Tryd.f27.results.toList [] ⟨.bool (clashC ⟨k, num, foot, rq, path, mode, n, time⟩ ⟨k2, num2, foot2, rq2, path2, mode2, n2, time2⟩), none, none⟩)
def OkClash0 : Prop := ∀ (k num : Int) (foot : List UInt8) (rq : Int) (path : List UInt8) (mode n time : Int) (k2 num2 : Int) (foot2 : List UInt8) (rq2 : Int) (path2 : List UInt8) (mode2 n2 time2 : Int), foot.length ≤ 900000 ∧ path.length ≤ 900000 ∧ foot2.length ≤ 900000 ∧ path2.length ≤ 900000 → inClash0 k num foot rq path mode n time k2 num2 foot2 rq2 path2 mode2 n2 time2
def anchor08F : Con
  | [] => (some (True, ⟨.bool true, none, none⟩))
  | _ => none
def gamAnchor08 : List (Nat × Con) := [(27, clashF.orNil)]
def lpAnchor080  : Nat → Option LoopPlan := fun _ => none
def inAnchor080  : Prop := awp [] (lpAnchor080) (lookΓ gamAnchor08) Tryd.prog Tryd.f6.ntmps 0 (Tryd.f6.body.getD .skip) (entrySt []) (exitQ Tryd.prog Tryd.f6.results.toList [] ⟨.bool true, none, none⟩)
def OkAnchor080 : Prop := True → inAnchor080
end Go.Proofs.YtddilmocngedjaaDoor
/- What the verification conditions come to: printed by a program of ours (wip/lax/ex/Norm.lean). -/
namespace Go.Proofs.YtddilmocngedjaaDoor
set_option linter.unusedVariables false
open Go.RowKit
set_option maxRecDepth 100000
theorem vcCfoot0 (c : CmdP) (h : (tt ∧ T1 ∧ T1 ∧ T1 ∧ tt ∧ T1 ∧ tt ∧ (T1 ∧ True) ∧ T1 ∧ T1 ∧ T1 ∧ T1 ∧ tt ∧ T1 ∧ tt ∧ tt ∧ (T1 ∧ (List.length c.foot) ≤ 900000 ∧ (List.length c.path) ≤ 900000) ∧ T1 ∧ T1 ∧ (bif (Bool.not (rightC c)) then (tt ∧ T1 ∧ T1 ∧ tt ∧ tt ∧ ((footV c) = [] ∧ (footOK c) = false ∧ True) ∧ tt) else (tt ∧ T1 ∧ tt ∧ T1 ∧ (bif (hP c.k) then (tt ∧ T1 ∧ tt ∧ T1 ∧ T1 ∧ tt ∧ tt ∧ ((footV c) = c.path ∧ (footOK c) = true ∧ True) ∧ tt) else (tt ∧ T1 ∧ T1 ∧ tt ∧ T1 ∧ tt ∧ T1 ∧ T1 ∧ tt ∧ tt ∧ tt ∧ ((footV c) = c.foot ∧ (footOK c) = (hS c.k) ∧ True) ∧ tt)))))) : inCfoot0 c :=
  Eq.mp (show _ = _ by kernel_rfl) h
theorem vcRfoot0 (k : Int) (num : Int) (foot : (List UInt8)) (rq : Int) (path : (List UInt8)) (mode : Int) (n : Int) (time : Int) (h : let q0 := (CmdP.mk k num foot rq path mode n time); (tt ∧ T1 ∧ T1 ∧ T1 ∧ tt ∧ tt ∧ (T1 ∧ (List.length foot) ≤ 900000 ∧ (List.length path) ≤ 900000) ∧ T1 ∧ T1 ∧ (bif (Bool.not (rightC q0)) then (tt ∧ tt ∧ T1 ∧ T1 ∧ tt ∧ tt ∧ ((footV q0) = [] ∧ (footOK q0) = false ∧ True) ∧ tt) else (T1 ∧ tt ∧ T1 ∧ T1 ∧ (bif (k == 0) then (tt ∧ T1 ∧ T1 ∧ tt ∧ tt ∧ ((footV q0) = [] ∧ (footOK q0) = false ∧ True) ∧ tt) else (tt ∧ (T1 ∧ True) ∧ T1 ∧ tt ∧ ((0 : Int) ≤ k ∧ k < 9 ∧ (((Int.toNat k) * 6) + 6) ≤ 54 ∧ (okRead [Kd.bool, Kd.bool, Kd.bool, Kd.bool, Kd.bool, Kd.bool] (AV.agg hasAV) ((Int.toNat k) * 6))) ∧ ((0 : Int) ≤ (2 : Int) ∧ (2 : Int) < (6 : Int) ∧ 3 ≤ 6) ∧ tt ∧ (bif (rdBool (AV.agg hasAV) ((((Int.toNat k) * 6) + 1) + 1)) then (tt ∧ T1 ∧ tt ∧ T1 ∧ T1 ∧ tt ∧ tt ∧ ((footV q0) = path ∧ (footOK q0) = true ∧ True) ∧ tt) else (tt ∧ T1 ∧ tt ∧ T1 ∧ T1 ∧ tt ∧ tt ∧ ((footV q0) = foot ∧ (footOK q0) = true ∧ True) ∧ tt)))))))) : inRfoot0 k num foot rq path mode n time :=
  Eq.mp (show _ = _ by kernel_rfl) h
theorem vcRclash0 (k : Int) (num : Int) (foot : (List UInt8)) (rq : Int) (path : (List UInt8)) (mode : Int) (n : Int) (time : Int) (k2 : Int) (num2 : Int) (foot2 : (List UInt8)) (rq2 : Int) (path2 : (List UInt8)) (mode2 : Int) (n2 : Int) (time2 : Int) (h : let q0 := (clashC (CmdP.mk k num foot rq path mode n time) (CmdP.mk k2 num2 foot2 rq2 path2 mode2 n2 time2)); (tt ∧ T1 ∧ T1 ∧ T1 ∧ tt ∧ tt ∧ (T1 ∧ (List.length foot) ≤ 900000 ∧ (List.length path) ≤ 900000) ∧ ∀ v0 : (List UInt8), (v0 = (footV (CmdP.mk k num foot rq path mode n time))) → T1 ∧ T1 ∧ T1 ∧ T1 ∧ T1 ∧ tt ∧ tt ∧ (T1 ∧ (List.length foot2) ≤ 900000 ∧ (List.length path2) ≤ 900000) ∧ ∀ v2 : (List UInt8), (v2 = (footV (CmdP.mk k2 num2 foot2 rq2 path2 mode2 n2 time2))) → T1 ∧ T1 ∧ T1 ∧ T1 ∧ T1 ∧ tt ∧ T1 ∧ T1 ∧ T1 ∧ (bif (Bool.not (footOK (CmdP.mk k num foot rq path mode n time))) then (tt ∧ tt ∧ T1 ∧ tt ∧ tt ∧ (q0 = false ∧ True) ∧ tt) else (T1 ∧ T1 ∧ T1 ∧ (bif (Bool.not (footOK (CmdP.mk k2 num2 foot2 rq2 path2 mode2 n2 time2))) then (tt ∧ T1 ∧ tt ∧ tt ∧ (q0 = false ∧ True) ∧ tt) else (tt ∧ T1 ∧ tt ∧ T1 ∧ tt ∧ T1 ∧ T1 ∧ (bif (num == num2) then (tt ∧ T1 ∧ tt ∧ tt ∧ (q0 = true ∧ True) ∧ tt) else (T1 ∧ T1 ∧ (T1 ∧ (List.length v0) ≤ 900000 ∧ (List.length v2) ≤ 900000) ∧ T1 ∧ T1 ∧ tt ∧ tt ∧ (q0 = (Bool.or (refAboveP v0 v2) (refAboveP v2 v0)) ∧ True) ∧ tt)))))))) : inRclash0 k num foot rq path mode n time k2 num2 foot2 rq2 path2 mode2 n2 time2 :=
  Eq.mp (show _ = _ by kernel_rfl) h
theorem vcOf080 (k : Int) (num : Int) (foot : (List UInt8)) (rq : Int) (path : (List UInt8)) (mode : Int) (n : Int) (time : Int) (h : (tt ∧ T1 ∧ T1 ∧ tt ∧ T1 ∧ tt ∧ T1 ∧ T1 ∧ tt ∧ T1 ∧ T1 ∧ tt ∧ T1 ∧ tt ∧ T1 ∧ tt ∧ T1 ∧ tt ∧ T1 ∧ tt ∧ T1 ∧ tt ∧ T1 ∧ tt ∧ tt ∧ tt ∧ (k = k ∧ num = num ∧ foot = foot ∧ rq = rq ∧ path = path ∧ mode = mode ∧ n = n ∧ time = time ∧ True) ∧ tt)) : inOf080 k num foot rq path mode n time :=
  Eq.mp (show _ = _ by kernel_rfl) h
theorem vcSmall080 (k : Int) (num : Int) (foot : (List UInt8)) (rq : Int) (path : (List UInt8)) (mode : Int) (n : Int) (time : Int) (h : let w0_x := (Bool.and (decide ((List.length path) < 200)) (decide ((List.length foot) < 200))); (tt ∧ T1 ∧ T1 ∧ tt ∧ T1 ∧ tt ∧ T1 ∧ T1 ∧ T1 ∧ (bif (decide (((List.length path) : Int) < 200)) then (T1 ∧ T1 ∧ tt ∧ T1 ∧ T1 ∧ T1 ∧ T1 ∧ tt ∧ tt ∧ (w0_x = (decide (((List.length foot) : Int) < 200)) ∧ True) ∧ tt) else (false = false ∧ T1 ∧ tt ∧ tt ∧ (w0_x = false ∧ True) ∧ tt)))) : inSmall080 k num foot rq path mode n time :=
  Eq.mp (show _ = _ by kernel_rfl) h
theorem vcKeyOf0 (k : Int) (num : Int) (foot : (List UInt8)) (rq : Int) (path : (List UInt8)) (mode : Int) (n : Int) (time : Int) (h : let q0 := (CmdP.mk k num foot rq path mode n time); let q1 := (footOK q0); let w0_x := (@cond.{1} (List UInt8) q1 (footV q0) (@List.nil.{0} UInt8)); (tt ∧ T1 ∧ T1 ∧ T1 ∧ tt ∧ tt ∧ (T1 ∧ (List.length foot) ≤ 900000 ∧ (List.length path) ≤ 900000) ∧ ∀ v0 : (List UInt8), (v0 = (footV q0)) → T1 ∧ T1 ∧ T1 ∧ T1 ∧ T1 ∧ tt ∧ T1 ∧ T1 ∧ (bif (Bool.not q1) then (tt ∧ T1 ∧ tt ∧ T1 ∧ tt ∧ tt ∧ (w0_x = [] ∧ (@cond.{1} Int q1 num (0 : Int)) = 0 ∧ q1 = false ∧ True) ∧ tt) else (tt ∧ T1 ∧ T1 ∧ T1 ∧ tt ∧ T1 ∧ tt ∧ T1 ∧ tt ∧ tt ∧ (w0_x = v0 ∧ (@cond.{1} Int q1 num (0 : Int)) = num ∧ q1 = true ∧ True) ∧ tt)))) : inKeyOf0 k num foot rq path mode n time :=
  Eq.mp (show _ = _ by kernel_rfl) h
theorem vcKeyClash0 (p : (List UInt8)) (a : Int) (q : (List UInt8)) (b : Int) (h : (tt ∧ T1 ∧ T1 ∧ T1 ∧ tt ∧ T1 ∧ tt ∧ T1 ∧ tt ∧ T1 ∧ T1 ∧ (bif (a == b) then (tt ∧ T1 ∧ tt ∧ tt ∧ ((Bool.or (decide (a = b)) (overP p q)) = true ∧ True) ∧ tt) else (T1 ∧ tt ∧ T1 ∧ tt ∧ (T1 ∧ (List.length p) ≤ 1000000 ∧ (List.length q) ≤ 1000000) ∧ T1 ∧ T1 ∧ tt ∧ tt ∧ ((Bool.or (decide (a = b)) (overP p q)) = (Bool.or (aboveP p q) (aboveP q p)) ∧ True) ∧ tt)))) : inKeyClash0 p a q b :=
  Eq.mp (show _ = _ by kernel_rfl) h
theorem vcClash0 (k : Int) (num : Int) (foot : (List UInt8)) (rq : Int) (path : (List UInt8)) (mode : Int) (n : Int) (time : Int) (k2 : Int) (num2 : Int) (foot2 : (List UInt8)) (rq2 : Int) (path2 : (List UInt8)) (mode2 : Int) (n2 : Int) (time2 : Int) (h : let q0 := (CmdP.mk k2 num2 foot2 rq2 path2 mode2 n2 time2); let q1 := (CmdP.mk k num foot rq path mode n time); (tt ∧ T1 ∧ T1 ∧ T1 ∧ tt ∧ tt ∧ (T1 ∧ (List.length foot) ≤ 900000 ∧ (List.length path) ≤ 900000) ∧ ∀ v0 : (List UInt8), (v0 = (@cond.{1} (List UInt8) (footOK q1) (footV q1) (@List.nil.{0} UInt8))) → ∀ v2 : Int, (v2 = (@cond.{1} Int (footOK q1) num (0 : Int))) → T1 ∧ T1 ∧ T1 ∧ T1 ∧ tt ∧ T1 ∧ tt ∧ tt ∧ (T1 ∧ (List.length foot2) ≤ 900000 ∧ (List.length path2) ≤ 900000) ∧ ∀ v4 : (List UInt8), (v4 = (@cond.{1} (List UInt8) (footOK q0) (footV q0) (@List.nil.{0} UInt8))) → ∀ v6 : Int, (v6 = (@cond.{1} Int (footOK q0) num2 (0 : Int))) → T1 ∧ T1 ∧ T1 ∧ T1 ∧ tt ∧ T1 ∧ tt ∧ T1 ∧ T1 ∧ (bif (footOK q1) then (T1 ∧ T1 ∧ T1 ∧ (bif (footOK q0) then (tt ∧ tt ∧ (T1 ∧ (List.length v0) ≤ 900000 ∧ (List.length v4) ≤ 900000) ∧ T1 ∧ T1 ∧ tt ∧ tt ∧ ((clashC q1 q0) = (Bool.or (decide (v2 = v6)) (overP v0 v4)) ∧ True) ∧ tt) else (false = false ∧ T1 ∧ tt ∧ tt ∧ ((clashC q1 q0) = false ∧ True) ∧ tt))) else (false = false ∧ T1 ∧ false = false ∧ T1 ∧ tt ∧ tt ∧ ((clashC q1 q0) = false ∧ True) ∧ tt)))) : inClash0 k num foot rq path mode n time k2 num2 foot2 rq2 path2 mode2 n2 time2 :=
  Eq.mp (show _ = _ by kernel_rfl) h
theorem vcAnchor080 (h : (tt ∧ T1 ∧ tt ∧ T1 ∧ T1 ∧ T1 ∧ tt ∧ tt ∧ T1 ∧ T1 ∧ T1 ∧ tt ∧ tt ∧ T1 ∧ T1 ∧ T1 ∧ tt ∧ tt ∧ tt ∧ tt ∧ (T1 ∧ 1 ≤ 900000 ∧ 0 ≤ 900000 ∧ 3 ≤ 900000 ∧ 3 ≤ 900000) ∧ T1 ∧ (bif (clashC (CmdP.mk 2 1 [(97 : UInt8)] 1 [] 0 0 0) (CmdP.mk 4 2 [(97 : UInt8), 47, 98] 1 [(97 : UInt8), 47, 98] 2 0 0)) then (tt ∧ tt ∧ (T1 ∧ 3 ≤ 900000 ∧ 3 ≤ 900000 ∧ 1 ≤ 900000 ∧ 0 ≤ 900000) ∧ T1 ∧ T1 ∧ T1 ∧ tt ∧ tt ∧ (tt ∧ True) ∧ tt) else (false = false ∧ T1 ∧ tt ∧ tt ∧ (true = false ∧ True) ∧ tt)))) : inAnchor080 :=
  Eq.mp (show _ = _ by kernel_rfl) h
end Go.Proofs.YtddilmocngedjaaDoor
/- The conditions of clashes hold. -/
namespace Go.Proofs.YtddilmocngedjaaDoor
set_option linter.unusedVariables false
set_option linter.unusedSimpArgs false
open Go.RowKit
set_option maxRecDepth 100000

theorem footV_len {c : CmdP} (h : c.foot.length ≤ 900000 ∧ c.path.length ≤ 900000) : (footV c).length ≤ 900000 := by
  unfold footV
  split
  · split
    · exact h.2
    · exact h.1
  · simp
theorem overP_comm (p q : List UInt8) : overP p q = overP q p := by unfold overP; exact Bool.or_comm _ _
theorem clashC_comm (a b : CmdP) : clashC a b = clashC b a := by
  unfold clashC
  rw [overP_comm (footV a) (footV b), Bool.and_comm (footOK a) (footOK b)]
  have : decide (a.num = b.num) = decide (b.num = a.num) := by rw [Bool.eq_iff_iff]; simp [eq_comm]
  rw [this]
theorem clashC_self (a : CmdP) : clashC a a = footOK a := by
  unfold clashC
  simp
theorem right_facts {c : CmdP} (h : rightC c = true) : okK c.k = true ∧ (hP c.k = true ∨ c.path = []) ∧ (hP c.k = true → rightP c.path = true) ∧ (hS c.k = true → rightP c.foot = true) := by
  unfold rightC at h
  simp only [Bool.and_eq_true, Bool.or_eq_true, Bool.not_eq_true', decide_eq_true_eq] at h
  obtain ⟨⟨⟨⟨⟨⟨⟨⟨⟨⟨⟨⟨⟨a1, a2⟩, a3⟩, a4⟩, a5⟩, a6⟩, a7⟩, a8⟩, a9⟩, b1⟩, b2⟩, b3⟩, b4⟩, b5⟩ := h
  refine ⟨a1, a4, fun h => ?_, fun h => ?_⟩
  · rcases b1 with h' | h'
    · rw [h] at h'; cases h'
    · exact h'
  · rcases a8 with h' | h'
    · rw [h] at h'; cases h'
    · exact h'
theorem footOK_right {c : CmdP} (h : rightC c = true) : footOK c = (c.k != 0) := by
  have h1 := (right_facts h).1
  unfold footOK
  rw [h, Bool.true_and, Bool.eq_iff_iff]
  unfold hS
  unfold okK at h1
  simp only [Bool.and_eq_true, decide_eq_true_eq] at h1
  simp only [Bool.and_eq_true, decide_eq_true_eq, bne_iff_ne, ne_eq]
  omega
theorem footOK_wrong {c : CmdP} (h : rightC c = false) : footOK c = false := by unfold footOK; rw [h]; rfl
theorem over_above (p q : List UInt8) : (aboveP p q || aboveP q p) = overP p q := by unfold overP; rw [above_ref, above_ref]
theorem tab_path (k : Int) (h : 0 ≤ k ∧ k ≤ 8) : rdBool (.agg hasAV) (k.toNat * 6 + 1 + 1) = hP k := by
  have hk : k = 0 ∨ k = 1 ∨ k = 2 ∨ k = 3 ∨ k = 4 ∨ k = 5 ∨ k = 6 ∨ k = 7 ∨ k = 8 := by omega
  rcases hk with rfl | rfl | rfl | rfl | rfl | rfl | rfl | rfl | rfl <;> rfl
theorem okCfoot0 : OkCfoot0 := by
  intro c hq
  refine vcCfoot0 c ?_
  simp only [true_and, and_true, forall_eq, eq_self]
  have e1 : footV c = if rightC c then (if hP c.k then c.path else c.foot) else [] := rfl
  have e2 : footOK c = (rightC c && hS c.k) := rfl
  have e3 : hP c.k = true → hS c.k = true := by unfold hP hS; simp only [Bool.and_eq_true, decide_eq_true_eq]; omega
  refine ⟨hq, ?_⟩
  rw [e1, e2]
  cases rightC c <;> cases hp : hP c.k <;> simp
  exact e3 hp
theorem okRfoot0 : OkRfoot0 := by
  intro k num foot rq path mode n time hq
  refine vcRfoot0 k num foot rq path mode n time ?_
  simp only [true_and, and_true, forall_eq, eq_self]
  have e1 : footV ⟨k, num, foot, rq, path, mode, n, time⟩ = if rightC ⟨k, num, foot, rq, path, mode, n, time⟩ then (if hP k then path else foot) else [] := rfl
  refine ⟨hq, cond_prop (fun h => ?_) fun h => ?_⟩
  · have h' : rightC ⟨k, num, foot, rq, path, mode, n, time⟩ = false := by simpa using h
    rw [e1, h', footOK_wrong h']; exact ⟨rfl, rfl⟩
  have h' : rightC ⟨k, num, foot, rq, path, mode, n, time⟩ = true := by simpa using h
  have f := right_facts h'
  have e2 := footOK_right h'
  have hk : 0 ≤ k ∧ k ≤ 8 := by
    have := f.1
    unfold okK at this
    simpa using this
  rw [e1, h', e2]
  refine cond_prop (fun h0 => ?_) fun h0 => ?_
  · have hk0 : k = 0 := by simpa using h0
    subst hk0
    have hf : foot = [] := by
      unfold rightC at h'
      simp only [Bool.and_eq_true] at h'
      have := h'.1.1.1.1.1.1.1.1.1.1.1.1.2
      simp [hS] at this
      exact this.2
    rw [hf]; exact ⟨rfl, rfl⟩
  · have hk0 : ¬ k = 0 := by simpa using h0
    refine ⟨⟨by omega, by omega, by omega, tab_read _ (by omega)⟩, ⟨by omega, by omega, by omega⟩, ?_⟩
    have hn : (k != 0) = true := by simp [hk0]
    have tp := tab_path k hk
    refine cond_prop (fun h3 => ?_) fun h3 => ?_
    · have h4 : hP k = true := tp.symm.trans h3
      simp [h4, hk0]
    · have h4 : hP k = false := tp.symm.trans h3
      simp [h4, hk0]
theorem okRclash0 : OkRclash0 := by
  intro k num foot rq path mode n time k2 num2 foot2 rq2 path2 mode2 n2 time2 hq
  refine vcRclash0 k num foot rq path mode n time k2 num2 foot2 rq2 path2 mode2 n2 time2 ?_
  simp only [true_and, and_true, forall_eq, eq_self]
  have fa := footV_len (c := ⟨k, num, foot, rq, path, mode, n, time⟩) ⟨hq.1, hq.2.1⟩
  have fb := footV_len (c := ⟨k2, num2, foot2, rq2, path2, mode2, n2, time2⟩) ⟨hq.2.2.1, hq.2.2.2⟩
  have e : clashC ⟨k, num, foot, rq, path, mode, n, time⟩ ⟨k2, num2, foot2, rq2, path2, mode2, n2, time2⟩ = (footOK ⟨k, num, foot, rq, path, mode, n, time⟩ && footOK ⟨k2, num2, foot2, rq2, path2, mode2, n2, time2⟩ && (decide (num = num2) || overP (footV ⟨k, num, foot, rq, path, mode, n, time⟩) (footV ⟨k2, num2, foot2, rq2, path2, mode2, n2, time2⟩))) := rfl
  rw [e]
  generalize (⟨k, num, foot, rq, path, mode, n, time⟩ : CmdP) = A at *
  generalize (⟨k2, num2, foot2, rq2, path2, mode2, n2, time2⟩ : CmdP) = B at *
  refine ⟨⟨hq.1, hq.2.1⟩, ⟨hq.2.2.1, hq.2.2.2⟩, cond_prop (fun h => ?_) fun h => cond_prop (fun h2 => ?_) fun h2 => cond_prop (fun h3 => ?_) fun h3 => ⟨⟨fa, fb⟩, ?_⟩⟩
  · simp at h; simp [h]
  · simp at h2; simp [h2]
  · simp at h h2 h3; simp [h, h2, h3]
  · simp at h h2 h3; simp [h, h2, h3, overP]
theorem okOf080 : OkOf080 := by
  intro k num foot rq path mode n time hq
  refine vcOf080 k num foot rq path mode n time ?_
  simp only [true_and, and_true, forall_eq, eq_self]
theorem okSmall080 : OkSmall080 := by
  intro k num foot rq path mode n time hq
  refine vcSmall080 k num foot rq path mode n time ?_
  simp only [true_and, and_true, forall_eq, eq_self]
  have e1 : decide ((path.length : Int) < 200) = decide (path.length < 200) := by rw [Bool.eq_iff_iff]; simp; omega
  have e2 : decide ((foot.length : Int) < 200) = decide (foot.length < 200) := by rw [Bool.eq_iff_iff]; simp; omega
  rw [e1, e2]
  exact cond_prop (fun h => by rw [h, Bool.true_and]) fun h => by rw [h, Bool.false_and]
theorem okKeyOf0 : OkKeyOf0 := by
  intro k num foot rq path mode n time hq
  refine vcKeyOf0 k num foot rq path mode n time ?_
  simp only [true_and, and_true, forall_eq, eq_self]
  generalize (⟨k, num, foot, rq, path, mode, n, time⟩ : CmdP) = A at *
  refine ⟨hq, ?_⟩
  cases footOK A <;> simp
theorem okKeyClash0 : OkKeyClash0 := by
  intro p a q b hq
  refine vcKeyClash0 p a q b ?_
  simp only [true_and, and_true, forall_eq, eq_self, over_above]
  refine cond_prop (fun h => ?_) fun h => ⟨⟨by omega, by omega⟩, ?_⟩
  · simp at h; simp [h]
  · simp at h; simp [h]
theorem okClash0 : OkClash0 := by
  intro k num foot rq path mode n time k2 num2 foot2 rq2 path2 mode2 n2 time2 hq
  refine vcClash0 k num foot rq path mode n time k2 num2 foot2 rq2 path2 mode2 n2 time2 ?_
  simp only [true_and, and_true, forall_eq, eq_self]
  have fa := footV_len (c := ⟨k, num, foot, rq, path, mode, n, time⟩) ⟨hq.1, hq.2.1⟩
  have fb := footV_len (c := ⟨k2, num2, foot2, rq2, path2, mode2, n2, time2⟩) ⟨hq.2.2.1, hq.2.2.2⟩
  have e : clashC ⟨k, num, foot, rq, path, mode, n, time⟩ ⟨k2, num2, foot2, rq2, path2, mode2, n2, time2⟩ = (footOK ⟨k, num, foot, rq, path, mode, n, time⟩ && footOK ⟨k2, num2, foot2, rq2, path2, mode2, n2, time2⟩ && (decide (num = num2) || overP (footV ⟨k, num, foot, rq, path, mode, n, time⟩) (footV ⟨k2, num2, foot2, rq2, path2, mode2, n2, time2⟩))) := rfl
  rw [e]
  generalize (⟨k, num, foot, rq, path, mode, n, time⟩ : CmdP) = A at *
  generalize (⟨k2, num2, foot2, rq2, path2, mode2, n2, time2⟩ : CmdP) = B at *
  refine ⟨⟨hq.1, hq.2.1⟩, ⟨hq.2.2.1, hq.2.2.2⟩, ?_⟩
  cases hA : footOK A <;> cases hB : footOK B <;> simp [fa, fb]
theorem okAnchor080 : OkAnchor080 := by
  intro hq
  refine vcAnchor080 ?_
  have e1 : clashC ⟨2, 1, [97], 1, [], 0, 0, 0⟩ ⟨4, 2, [97, 47, 98], 1, [97, 47, 98], 2, 0, 0⟩ = true := by decide +kernel
  have e2 : clashC ⟨4, 2, [97, 47, 98], 1, [97, 47, 98], 2, 0, 0⟩ ⟨2, 3, [98], 1, [], 0, 0, 0⟩ = false := by decide +kernel
  simp only [true_and, and_true, forall_eq, eq_self, e1, e2, cond_true, Bool.not_false]
  omega
end Go.Proofs.YtddilmocngedjaaDoor
/- The contracts are met. -/
namespace Go.Proofs.YtddilmocngedjaaDoor
set_option linter.unusedVariables false
set_option linter.unusedSimpArgs false
open Go.RowKit
theorem sndCfoot : Sound Tryd.prog (lookΓ gamCfoot) := sound_of _ fun p hp => by
  simp only [gamCfoot, List.mem_cons, List.not_mem_nil, or_false] at hp
  rcases hp with rfl | rfl
  · exact meetsHad.orNil
  · exact meetsCright.orNil
set_option maxHeartbeats 4000000 in
theorem meetsCfoot : Meets Tryd.prog 83 cfootF := by
  refine meets_of_awp (Γ := lookΓ gamCfoot) (L := fun _ _ => none) sndCfoot mixedOrders Tryd.func83 rfl Tryd.call83 ?_
  intro args q r hF hq ho
  unfold cfootF at hF
  split at hF
  · split at hF
    · rename_i c hzc
      obtain rfl := cmdOf_some hzc
      cases hF
      exact ⟨by simp only [List.length_cons, List.length_nil]; decide, okCfoot0 _ hq⟩
    · cases hF
  · cases hF
theorem sndRfoot : Sound Tryd.prog (lookΓ gamRfoot) := sound_of _ fun p hp => by
  simp only [gamRfoot, List.mem_cons, List.not_mem_nil, or_false] at hp
  rcases hp with rfl | rfl
  · exact meetsHas07.orNil
  · exact meetsRright.orNil
set_option maxHeartbeats 4000000 in
theorem meetsRfoot : Meets Tryd.prog 28 rfootF := by
  refine meets_of_awp (Γ := lookΓ gamRfoot) (L := fun _ _ => none) sndRfoot mixedOrders Tryd.func28 rfl Tryd.call28 ?_
  intro args q r hF hq ho
  unfold rfootF at hF
  split at hF
  · cases hF
    exact ⟨by simp only [List.length_cons, List.length_nil]; decide, okRfoot0 _ _ _ _ _ _ _ _ hq⟩
  · cases hF
theorem sndRclash : Sound Tryd.prog (lookΓ gamRclash) := sound_of _ fun p hp => by
  simp only [gamRclash, List.mem_cons, List.not_mem_nil, or_false] at hp
  rcases hp with rfl | rfl
  · exact meetsRfoot.orNil
  · exact meetsRefOverlap.orNil
set_option maxHeartbeats 4000000 in
theorem meetsRclash : Meets Tryd.prog 9 rclashF := by
  refine meets_of_awp (Γ := lookΓ gamRclash) (L := fun _ _ => none) sndRclash mixedOrders Tryd.func9 rfl Tryd.call9 ?_
  intro args q r hF hq ho
  unfold rclashF at hF
  split at hF
  · cases hF
    exact ⟨by simp only [List.length_cons, List.length_nil]; decide, okRclash0 _ _ _ _ _ _ _ _ _ _ _ _ _ _ _ _ hq⟩
  · cases hF
theorem sndOf08 : Sound Tryd.prog (lookΓ gamOf08) := sound_of _ fun p hp => by
  simp [gamOf08] at hp
set_option maxHeartbeats 4000000 in
theorem meetsOf08 : Meets Tryd.prog 10 of08F := by
  refine meets_of_awp (Γ := lookΓ gamOf08) (L := fun _ _ => none) sndOf08 mixedOrders Tryd.func10 rfl Tryd.call10 ?_
  intro args q r hF hq ho
  unfold of08F at hF
  split at hF
  · cases hF
    exact ⟨by simp only [List.length_cons, List.length_nil]; decide, okOf080 _ _ _ _ _ _ _ _ hq⟩
  · cases hF
theorem sndSmall08 : Sound Tryd.prog (lookΓ gamSmall08) := sound_of _ fun p hp => by
  simp [gamSmall08] at hp
set_option maxHeartbeats 4000000 in
theorem meetsSmall08 : Meets Tryd.prog 7 small08F := by
  refine meets_of_awp (Γ := lookΓ gamSmall08) (L := fun _ _ => none) sndSmall08 mixedOrders Tryd.func7 rfl Tryd.call7 ?_
  intro args q r hF hq ho
  unfold small08F at hF
  split at hF
  · cases hF
    exact ⟨by simp only [List.length_cons, List.length_nil]; decide, okSmall080 _ _ _ _ _ _ _ _ hq⟩
  · cases hF
theorem sndKeyOf : Sound Tryd.prog (lookΓ gamKeyOf) := sound_of _ fun p hp => by
  simp only [gamKeyOf, List.mem_cons, List.not_mem_nil, or_false] at hp
  subst hp
  exact meetsCfoot.orNil
set_option maxHeartbeats 4000000 in
theorem meetsKeyOf : Meets Tryd.prog 57 keyOfF := by
  refine meets_of_awp (Γ := lookΓ gamKeyOf) (L := fun _ _ => none) sndKeyOf mixedOrders Tryd.func57 rfl Tryd.call57 ?_
  intro args q r hF hq ho
  unfold keyOfF at hF
  split at hF
  · cases hF
    exact ⟨by simp only [List.length_cons, List.length_nil]; decide, okKeyOf0 _ _ _ _ _ _ _ _ hq⟩
  · cases hF
theorem sndKeyClash : Sound Tryd.prog (lookΓ gamKeyClash) := sound_of _ fun p hp => by
  simp only [gamKeyClash, List.mem_cons, List.not_mem_nil, or_false] at hp
  subst hp
  exact meetsOverlap.orNil
set_option maxHeartbeats 4000000 in
theorem meetsKeyClash : Meets Tryd.prog 58 keyClashF := by
  refine meets_of_awp (Γ := lookΓ gamKeyClash) (L := fun _ _ => none) sndKeyClash mixedOrders Tryd.func58 rfl Tryd.call58 ?_
  intro args q r hF hq ho
  unfold keyClashF at hF
  split at hF
  · cases hF
    exact ⟨by simp only [List.length_cons, List.length_nil]; decide, okKeyClash0 _ _ _ _ hq⟩
  · cases hF
theorem sndClash : Sound Tryd.prog (lookΓ gamClash) := sound_of _ fun p hp => by
  simp only [gamClash, List.mem_cons, List.not_mem_nil, or_false] at hp
  rcases hp with rfl | rfl
  · exact meetsKeyOf.orNil
  · exact meetsKeyClash.orNil
set_option maxHeartbeats 4000000 in
theorem meetsClash : Meets Tryd.prog 27 clashF := by
  refine meets_of_awp (Γ := lookΓ gamClash) (L := fun _ _ => none) sndClash mixedOrders Tryd.func27 rfl Tryd.call27 ?_
  intro args q r hF hq ho
  unfold clashF at hF
  split at hF
  · cases hF
    exact ⟨by simp only [List.length_cons, List.length_nil]; decide, okClash0 _ _ _ _ _ _ _ _ _ _ _ _ _ _ _ _ hq⟩
  · cases hF
theorem sndAnchor08 : Sound Tryd.prog (lookΓ gamAnchor08) := sound_of _ fun p hp => by
  simp only [gamAnchor08, List.mem_cons, List.not_mem_nil, or_false] at hp
  subst hp
  exact meetsClash.orNil
set_option maxHeartbeats 4000000 in
theorem meetsAnchor08 : Meets Tryd.prog 6 anchor08F := by
  refine meets_of_awp (Γ := lookΓ gamAnchor08) (L := fun _ _ => none) sndAnchor08 mixedOrders Tryd.func6 rfl Tryd.call6 ?_
  intro args q r hF hq ho
  unfold anchor08F at hF
  split at hF
  · cases hF
    exact ⟨by simp only [List.length_cons, List.length_nil]; decide, okAnchor080 hq⟩
  · cases hF
end Go.Proofs.YtddilmocngedjaaDoor
