/- Contracts by content, their conditions, and that they are met: MsgY. -/
import Derived.Test.YtfoabkkkdcicgaaGreatDoorLaxPkMsgX
/- Contracts by content, and the conditions that their code must meet. -/
namespace Go.Proofs.YtfoabkkkdcicgaaGreatDoor
set_option linter.unusedVariables false
set_option linter.unusedSimpArgs false
open Go.RowKit
def refMTF : Con
  | [.val (.agg zcm)] => (match msgOf zcm with | some m => some (smallX m.x ∧ rightM m = true, ⟨.bool true, none, none⟩) | _ => none)
  | _ => none
def refMNF : Con
  | [.val (.agg zcm)] => (match msgOf zcm with | some m => some (smallX m.x ∧ rightM m = false, ⟨.bool false, none, none⟩) | _ => none)
  | _ => none
theorem meetsRefMT : Meets Tryz.prog 17 refMTF := meetsRefM.weak fun args q r hF hq => by
  unfold refMTF at hF
  split at hF
  · split at hF
    · rename_i m hz
      obtain rfl := msgOf_some hz
      cases hF
      exact ⟨_, congrArg (fun b => some (smallX m.x, (⟨.bool b, none, none⟩ : Res))) hq.2, hq.1⟩
    · cases hF
  · cases hF
theorem meetsRefMN : Meets Tryz.prog 17 refMNF := meetsRefM.weak fun args q r hF hq => by
  unfold refMNF at hF
  split at hF
  · split at hF
    · rename_i m hz
      obtain rfl := msgOf_some hz
      cases hF
      exact ⟨_, congrArg (fun b => some (smallX m.x, (⟨.bool b, none, none⟩ : Res))) hq.2, hq.1⟩
    · cases hF
  · cases hF
def lawFramesTF : Con
  | [.val (.agg zcm)] => (match msgOf zcm with | some m => some (maxX m.x ∧ rightM m = true, ⟨.bool true, none, none⟩) | _ => none)
  | _ => none
def gamLawFramesT : List (Nat × Con) := [(14, anchor11F.orNil), (15, small11F.orNil), (16, of11F.orNil), (17, refMTF.orNil), (18, mframeTF.orNil), (19, mrightTF.orNil), (20, mopenF.orNil)]
def lpLawFramesT0 (m : MsgP) : Nat → Option LoopPlan := fun _ => none
def inLawFramesT0 (m : MsgP) : Prop := awp [] (lpLawFramesT0 m) (lookΓ gamLawFramesT) Tryz.prog Tryz.f4.ntmps 0 (Tryz.f4.body.getD .skip) (entrySt [.val (.agg (msgL m))]) (exitQ Tryz.prog Tryz.f4.results.toList [] ⟨.bool true, none, none⟩)
def OkLawFramesT0 : Prop := ∀ (m : MsgP), maxX m.x ∧ rightM m = true → (rangeM m) → inLawFramesT0 m
def lawFramesNF : Con
  | [.val (.agg zcm)] => (match msgOf zcm with | some m => some (maxX m.x ∧ rightM m = false, ⟨.bool true, none, none⟩) | _ => none)
  | _ => none
def gamLawFramesN : List (Nat × Con) := [(14, anchor11F.orNil), (15, small11F.orNil), (16, of11F.orNil), (17, refMNF.orNil), (18, mframeNF.orNil), (19, mrightNF.orNil), (20, mopenF.orNil)]
def lpLawFramesN0 (m : MsgP) : Nat → Option LoopPlan := fun _ => none
def inLawFramesN0 (m : MsgP) : Prop := awp [] (lpLawFramesN0 m) (lookΓ gamLawFramesN) Tryz.prog Tryz.f4.ntmps 0 (Tryz.f4.body.getD .skip) (entrySt [.val (.agg (msgL m))]) (exitQ Tryz.prog Tryz.f4.results.toList [] ⟨.bool true, none, none⟩)
def OkLawFramesN0 : Prop := ∀ (m : MsgP), maxX m.x ∧ rightM m = false → inLawFramesN0 m
def lawAsksF : Con
  | [.val (.int .i64 k), .val (.int .i64 src), .val (.int .i64 dst), .val (.int .u32 b), .val (.agg zcx), .val (.agg zcy), .val (.bool ok)] => (match instOf zcx, instOf zcy with | some x, some y => some (maxX x ∧ maxX y, ⟨.bool true, none, none⟩) | _, _ => none)
  | _ => none
def gamLawAsks : List (Nat × Con) := [(14, anchor11F.orNil), (21, irightF.orNil), (22, balRightF.orNil), (23, askF.orNil), (16, of11F.orNil), (17, refMF.orNil), (19, mrightF.orNil), (24, alikeF.orNil), (25, replyF.orNil)]
def lpLawAsks0 (k src dst b : Int) (x y : InstP) (ok : Bool) : Nat → Option LoopPlan := fun _ => none
def inLawAsks0 (k src dst b : Int) (x y : InstP) (ok : Bool) : Prop := awp [] (lpLawAsks0 k src dst b x y ok) (lookΓ gamLawAsks) Tryz.prog Tryz.f6.ntmps 0 (Tryz.f6.body.getD .skip) (entrySt [.val (.int .i64 k), .val (.int .i64 src), .val (.int .i64 dst), .val (.int .u32 b), .val (.agg (instL x)), .val (.agg (instL y)), .val (.bool ok)]) (exitQ Tryz.prog Tryz.f6.results.toList [] ⟨.bool true, none, none⟩)
def OkLawAsks0 : Prop := ∀ (k src dst b : Int) (x y : InstP) (ok : Bool), maxX x ∧ maxX y → (0 ≤ b ∧ b ≤ 4294967295) → inLawAsks0 k src dst b x y ok
end Go.Proofs.YtfoabkkkdcicgaaGreatDoor
/- What the verification conditions come to: printed by a program of ours (wip/lax/ex/Norm.lean). -/
namespace Go.Proofs.YtfoabkkkdcicgaaGreatDoor
set_option linter.unusedVariables false
open Go.RowKit
set_option maxRecDepth 100000
theorem vcLawFramesT0 (m : MsgP) (h : (tt ∧ T1 ∧ T1 ∧ tt ∧ (T1 ∧ True) ∧ T1 ∧ tt ∧ tt ∧ (T1 ∧ (maxX m.x)) ∧ T1 ∧ (bif (Bool.not (smallB m.x 200)) then (tt ∧ T1 ∧ tt ∧ tt ∧ (tt ∧ True) ∧ tt) else (tt ∧ tt ∧ (T1 ∧ True) ∧ (T1 ∧ (smallX m.x) ∧ (rightM m) = true) ∧ T1 ∧ tt ∧ tt ∧ (T1 ∧ (smallX m.x) ∧ (rightM m) = true) ∧ ∀ v0 : (List AV), (v0 = (bytesAV (frameM m))) → ∀ v2 : Nat, (v2 = (List.length (bytesAV (frameM m)))) → T1 ∧ tt ∧ tt ∧ (T1 ∧ (smallX m.x) ∧ (rightM m) = true) ∧ T1 ∧ T1 ∧ T1 ∧ T1 ∧ T1 ∧ T1 ∧ tt ∧ T1 ∧ (T1 ∧ (isBytes v0) ∧ (List.length v0) ≤ 140737488355100) ∧ T1 ∧ T1 ∧ T1 ∧ T1 ∧ tt ∧ T1 ∧ tt ∧ T1 ∧ T1 ∧ T1 ∧ (bif ((mopenE (bytesL v0)) == 0) then (tt ∧ tt ∧ T1 ∧ T1 ∧ T1 ∧ (bif (Bool.and ((mopenX (bytesL v0)).k == m.k) (Bool.and ((mopenX (bytesL v0)).src == m.src) (Bool.and ((mopenX (bytesL v0)).dst == m.dst) (Bool.and ((mopenX (bytesL v0)).r == m.r) (Bool.and ((mopenX (bytesL v0)).s == m.s) (Bool.and ((mopenX (bytesL v0)).b == m.b) (Bool.and (@BEq.beq.{0} Bool (@instBEqOfDecidableEq.{0} Bool instDecidableEqBool) (mopenX (bytesL v0)).ok m.ok) (Bool.and ((mopenX (bytesL v0)).x.r == m.x.r) (Bool.and ((mopenX (bytesL v0)).x.sl == m.x.sl) (Bool.and ((mopenX (bytesL v0)).x.st == m.x.st) (Bool.and ((mopenX (bytesL v0)).x.bal == m.x.bal) (Bool.and ((mopenX (bytesL v0)).x.vote == m.x.vote) (Bool.and (@BEq.beq.{0} Bool (@instBEqOfDecidableEq.{0} Bool instDecidableEqBool) (mopenX (bytesL v0)).x.same m.x.same) (Bool.and ((mopenX (bytesL v0)).x.c.k == m.x.c.k) (Bool.and ((mopenX (bytesL v0)).x.c.num == m.x.c.num) (Bool.and (@BEq.beq.{0} (List UInt8) (@List.instBEq.{0} UInt8 (@instBEqOfDecidableEq.{0} UInt8 instDecidableEqUInt8)) (mopenX (bytesL v0)).x.c.foot m.x.c.foot) (Bool.and ((mopenX (bytesL v0)).x.c.rq == m.x.c.rq) (Bool.and (@BEq.beq.{0} (List UInt8) (@List.instBEq.{0} UInt8 (@instBEqOfDecidableEq.{0} UInt8 instDecidableEqUInt8)) (mopenX (bytesL v0)).x.c.path m.x.c.path) (Bool.and ((mopenX (bytesL v0)).x.c.mode == m.x.c.mode) (Bool.and ((mopenX (bytesL v0)).x.c.n == m.x.c.n) (Bool.and ((mopenX (bytesL v0)).x.c.time == m.x.c.time) (Bool.and ((mopenX (bytesL v0)).x.a.s == m.x.a.s) (Bool.and ((mopenX (bytesL v0)).x.a.d0 == m.x.a.d0) (Bool.and ((mopenX (bytesL v0)).x.a.d1 == m.x.a.d1) (Bool.and ((mopenX (bytesL v0)).x.a.d2 == m.x.a.d2) (Bool.and ((mopenX (bytesL v0)).x.a.d3 == m.x.a.d3) (Bool.and ((mopenX (bytesL v0)).x.a.d4 == m.x.a.d4) (Bool.and ((mopenX (bytesL v0)).x.a.d5 == m.x.a.d5) (Bool.and ((mopenX (bytesL v0)).x.a.d6 == m.x.a.d6) true))))))))))))))))))))))))))))) then (T1 ∧ T1 ∧ T1 ∧ T1 ∧ T1 ∧ tt ∧ tt ∧ (true = (decide (((List.length v0) : Int) ≤ 512)) ∧ True) ∧ tt) else (false = false ∧ T1 ∧ tt ∧ tt ∧ (true = false ∧ True) ∧ tt))) else (false = false ∧ T1 ∧ false = false ∧ T1 ∧ tt ∧ tt ∧ (true = false ∧ True) ∧ tt)))))) : inLawFramesT0 m :=
  Eq.mp (show _ = _ by kernel_rfl) h
theorem vcLawFramesN0 (m : MsgP) (h : (tt ∧ T1 ∧ T1 ∧ tt ∧ (T1 ∧ True) ∧ T1 ∧ tt ∧ tt ∧ (T1 ∧ (maxX m.x)) ∧ T1 ∧ (bif (Bool.not (smallB m.x 200)) then (tt ∧ T1 ∧ tt ∧ tt ∧ (tt ∧ True) ∧ tt) else (tt ∧ tt ∧ (T1 ∧ True) ∧ (T1 ∧ (smallX m.x) ∧ (rightM m) = false) ∧ T1 ∧ tt ∧ tt ∧ (T1 ∧ (smallX m.x) ∧ (rightM m) = false) ∧ ∀ v0 : (List AV), (v0 = []) → T1 ∧ tt ∧ tt ∧ (T1 ∧ (smallX m.x) ∧ (rightM m) = false) ∧ T1 ∧ T1 ∧ T1 ∧ T1 ∧ T1 ∧ T1 ∧ tt ∧ tt ∧ (T1 ∧ (smallX m.x) ∧ (rightM m) = false) ∧ T1 ∧ T1 ∧ T1 ∧ T1 ∧ T1 ∧ T1 ∧ T1 ∧ T1 ∧ tt ∧ tt ∧ (true = (((List.length v0) : Int) == 0) ∧ True) ∧ tt)))) : inLawFramesN0 m :=
  Eq.mp (show _ = _ by kernel_rfl) h
theorem vcLawAsks0 (k : Int) (src : Int) (dst : Int) (b : Int) (x : InstP) (y : InstP) (ok : Bool) (h : let q0 := (replyM (askM k src dst b x) ok y); let q1 := (askM k src dst b x); let q2 := (Bool.not (Bool.and (eqC q1.x.c x.c) (eqA q1.x.a x.a))); let q3 := (Bool.not (rightM q1)); let q4 := (smallX q1.x); let q5 := (smallX q0.x); let q6 := (rightM q0); let q7 := (List.length x.c.path); let q8 := (List.length x.c.foot); let q9 := (List.length y.c.path); let q10 := (List.length y.c.foot); (tt ∧ T1 ∧ T1 ∧ T1 ∧ tt ∧ (T1 ∧ True) ∧ T1 ∧ tt ∧ T1 ∧ T1 ∧ T1 ∧ (bif (k != 1) then (T1 ∧ T1 ∧ T1 ∧ T1 ∧ (bif (k != 3) then (T1 ∧ T1 ∧ T1 ∧ T1 ∧ (bif (k != 5) then (T1 ∧ T1 ∧ T1 ∧ T1 ∧ (bif (k != 6) then (tt ∧ T1 ∧ tt ∧ T1 ∧ tt ∧ T1 ∧ tt ∧ T1 ∧ tt ∧ tt ∧ T1 ∧ tt ∧ tt ∧ (tt ∧ True) ∧ tt) else (T1 ∧ T1 ∧ T1 ∧ T1 ∧ (bif (decide (src < 0)) then (tt ∧ T1 ∧ tt ∧ T1 ∧ tt ∧ T1 ∧ tt ∧ tt ∧ T1 ∧ tt ∧ tt ∧ (tt ∧ True) ∧ tt) else (T1 ∧ T1 ∧ T1 ∧ T1 ∧ (bif (decide ((6 : Int) < src)) then (tt ∧ T1 ∧ tt ∧ T1 ∧ tt ∧ tt ∧ T1 ∧ tt ∧ tt ∧ (tt ∧ True) ∧ tt) else (T1 ∧ T1 ∧ T1 ∧ T1 ∧ (bif (decide (dst < 0)) then (tt ∧ T1 ∧ tt ∧ tt ∧ T1 ∧ tt ∧ tt ∧ (tt ∧ True) ∧ tt) else (T1 ∧ T1 ∧ T1 ∧ T1 ∧ (bif (decide ((6 : Int) < dst)) then (tt ∧ tt ∧ T1 ∧ tt ∧ tt ∧ (tt ∧ True) ∧ tt) else (T1 ∧ T1 ∧ T1 ∧ T1 ∧ (bif (src == dst) then (tt ∧ T1 ∧ tt ∧ tt ∧ (tt ∧ True) ∧ tt) else (tt ∧ T1 ∧ T1 ∧ tt ∧ T1 ∧ T1 ∧ T1 ∧ (bif (decide ((200 : Int) < (q7 : Int))) then (tt ∧ T1 ∧ tt ∧ T1 ∧ tt ∧ T1 ∧ tt ∧ T1 ∧ tt ∧ T1 ∧ tt ∧ T1 ∧ tt ∧ tt ∧ T1 ∧ tt ∧ tt ∧ (tt ∧ True) ∧ tt) else (T1 ∧ T1 ∧ T1 ∧ tt ∧ T1 ∧ T1 ∧ T1 ∧ T1 ∧ (bif (decide ((200 : Int) < (q8 : Int))) then (tt ∧ T1 ∧ tt ∧ T1 ∧ tt ∧ T1 ∧ tt ∧ T1 ∧ tt ∧ T1 ∧ tt ∧ tt ∧ T1 ∧ tt ∧ tt ∧ (tt ∧ True) ∧ tt) else (T1 ∧ T1 ∧ tt ∧ T1 ∧ T1 ∧ T1 ∧ T1 ∧ (bif (decide ((200 : Int) < (q9 : Int))) then (tt ∧ T1 ∧ tt ∧ T1 ∧ tt ∧ T1 ∧ tt ∧ T1 ∧ tt ∧ tt ∧ T1 ∧ tt ∧ tt ∧ (tt ∧ True) ∧ tt) else (T1 ∧ T1 ∧ T1 ∧ tt ∧ T1 ∧ T1 ∧ T1 ∧ T1 ∧ (bif (decide ((200 : Int) < (q10 : Int))) then (tt ∧ T1 ∧ tt ∧ T1 ∧ tt ∧ T1 ∧ tt ∧ tt ∧ T1 ∧ tt ∧ tt ∧ (tt ∧ True) ∧ tt) else (tt ∧ (T1 ∧ (smallX x)) ∧ T1 ∧ T1 ∧ T1 ∧ (bif (Bool.not (rightI x)) then (tt ∧ T1 ∧ tt ∧ T1 ∧ tt ∧ tt ∧ T1 ∧ tt ∧ tt ∧ (tt ∧ True) ∧ tt) else (tt ∧ (T1 ∧ (smallX y)) ∧ T1 ∧ T1 ∧ T1 ∧ (bif (Bool.not (rightI y)) then (tt ∧ T1 ∧ tt ∧ tt ∧ T1 ∧ tt ∧ tt ∧ (tt ∧ True) ∧ tt) else (T1 ∧ (T1 ∧ True) ∧ T1 ∧ T1 ∧ T1 ∧ (bif (Bool.not (balOK b)) then (tt ∧ tt ∧ T1 ∧ tt ∧ tt ∧ (tt ∧ True) ∧ tt) else (T1 ∧ tt ∧ T1 ∧ T1 ∧ (bif (x.st == 0) then (tt ∧ T1 ∧ tt ∧ tt ∧ (tt ∧ True) ∧ tt) else (tt ∧ T1 ∧ T1 ∧ T1 ∧ T1 ∧ tt ∧ (T1 ∧ True) ∧ T1 ∧ tt ∧ tt ∧ tt ∧ (T1 ∧ True) ∧ (T1 ∧ q4) ∧ T1 ∧ T1 ∧ (bif q3 then (tt ∧ T1 ∧ tt ∧ T1 ∧ tt ∧ T1 ∧ tt ∧ tt ∧ T1 ∧ tt ∧ tt ∧ (true = false ∧ True) ∧ tt) else (tt ∧ (T1 ∧ q4) ∧ T1 ∧ T1 ∧ T1 ∧ (bif q3 then (tt ∧ T1 ∧ tt ∧ T1 ∧ tt ∧ tt ∧ T1 ∧ tt ∧ tt ∧ (true = false ∧ True) ∧ tt) else (T1 ∧ tt ∧ T1 ∧ tt ∧ T1 ∧ T1 ∧ T1 ∧ (bif (Bool.not (Bool.and (q1.r == x.r) (Bool.and (q1.s == x.sl) true))) then (tt ∧ T1 ∧ tt ∧ tt ∧ T1 ∧ tt ∧ tt ∧ (true = false ∧ True) ∧ tt) else (T1 ∧ tt ∧ T1 ∧ T1 ∧ T1 ∧ T1 ∧ (bif (q1.b != b) then (tt ∧ tt ∧ T1 ∧ tt ∧ tt ∧ (true = false ∧ True) ∧ tt) else (T1 ∧ T1 ∧ T1 ∧ (bif (k != 6) then (T1 ∧ tt ∧ tt ∧ (T1 ∧ True) ∧ T1 ∧ T1 ∧ T1 ∧ (bif q2 then (tt ∧ T1 ∧ tt ∧ tt ∧ (true = false ∧ True) ∧ tt) else (tt ∧ T1 ∧ T1 ∧ T1 ∧ (bif (k == 5) then (tt ∧ tt ∧ T1 ∧ tt ∧ tt ∧ (tt ∧ True) ∧ tt) else (T1 ∧ tt ∧ T1 ∧ tt ∧ T1 ∧ T1 ∧ (bif (Bool.not (Bool.and (y.r == x.r) (Bool.and (y.sl == x.sl) true))) then (tt ∧ T1 ∧ tt ∧ tt ∧ (tt ∧ True) ∧ tt) else (tt ∧ tt ∧ T1 ∧ tt ∧ (T1 ∧ True) ∧ T1 ∧ tt ∧ tt ∧ tt ∧ (T1 ∧ True) ∧ (T1 ∧ q5) ∧ T1 ∧ (bif q6 then (T1 ∧ tt ∧ T1 ∧ T1 ∧ T1 ∧ T1 ∧ (bif (q0.src == dst) then (T1 ∧ tt ∧ T1 ∧ T1 ∧ T1 ∧ T1 ∧ (bif (q0.dst == src) then (T1 ∧ tt ∧ T1 ∧ T1 ∧ T1 ∧ T1 ∧ T1 ∧ (bif (q0.k == (IntKind.wrap IntKind.i64 (k + (1 : Int)))) then (T1 ∧ tt ∧ T1 ∧ tt ∧ T1 ∧ T1 ∧ T1 ∧ (bif (Bool.and (q0.r == x.r) (Bool.and (q0.s == x.sl) true)) then (T1 ∧ tt ∧ T1 ∧ T1 ∧ T1 ∧ T1 ∧ (bif (q0.b == b) then (T1 ∧ tt ∧ T1 ∧ T1 ∧ T1 ∧ T1 ∧ (bif (@BEq.beq.{0} Bool (@instBEqOfDecidableEq.{0} Bool instDecidableEqBool) q0.ok ok) then (T1 ∧ tt ∧ tt ∧ T1 ∧ T1 ∧ T1 ∧ tt ∧ tt ∧ (true = (Bool.and (q0.x.r == y.r) (Bool.and (q0.x.sl == y.sl) (Bool.and (q0.x.st == y.st) (Bool.and (q0.x.bal == y.bal) (Bool.and (q0.x.vote == y.vote) (Bool.and (@BEq.beq.{0} Bool (@instBEqOfDecidableEq.{0} Bool instDecidableEqBool) q0.x.same y.same) (Bool.and (q0.x.c.k == y.c.k) (Bool.and (q0.x.c.num == y.c.num) (Bool.and (@BEq.beq.{0} (List UInt8) (@List.instBEq.{0} UInt8 (@instBEqOfDecidableEq.{0} UInt8 instDecidableEqUInt8)) q0.x.c.foot y.c.foot) (Bool.and (q0.x.c.rq == y.c.rq) (Bool.and (@BEq.beq.{0} (List UInt8) (@List.instBEq.{0} UInt8 (@instBEqOfDecidableEq.{0} UInt8 instDecidableEqUInt8)) q0.x.c.path y.c.path) (Bool.and (q0.x.c.mode == y.c.mode) (Bool.and (q0.x.c.n == y.c.n) (Bool.and (q0.x.c.time == y.c.time) (Bool.and (q0.x.a.s == y.a.s) (Bool.and (q0.x.a.d0 == y.a.d0) (Bool.and (q0.x.a.d1 == y.a.d1) (Bool.and (q0.x.a.d2 == y.a.d2) (Bool.and (q0.x.a.d3 == y.a.d3) (Bool.and (q0.x.a.d4 == y.a.d4) (Bool.and (q0.x.a.d5 == y.a.d5) (Bool.and (q0.x.a.d6 == y.a.d6) true)))))))))))))))))))))) ∧ True) ∧ tt) else (false = false ∧ T1 ∧ tt ∧ tt ∧ (true = false ∧ True) ∧ tt))) else (false = false ∧ T1 ∧ false = false ∧ T1 ∧ tt ∧ tt ∧ (true = false ∧ True) ∧ tt))) else (false = false ∧ T1 ∧ false = false ∧ T1 ∧ false = false ∧ T1 ∧ tt ∧ tt ∧ (true = false ∧ True) ∧ tt))) else (false = false ∧ T1 ∧ false = false ∧ T1 ∧ false = false ∧ T1 ∧ false = false ∧ T1 ∧ tt ∧ tt ∧ (true = false ∧ True) ∧ tt))) else (false = false ∧ T1 ∧ false = false ∧ T1 ∧ false = false ∧ T1 ∧ false = false ∧ T1 ∧ false = false ∧ T1 ∧ tt ∧ tt ∧ (true = false ∧ True) ∧ tt))) else (false = false ∧ T1 ∧ false = false ∧ T1 ∧ false = false ∧ T1 ∧ false = false ∧ T1 ∧ false = false ∧ T1 ∧ false = false ∧ T1 ∧ tt ∧ tt ∧ (true = false ∧ True) ∧ tt))) else (false = false ∧ T1 ∧ false = false ∧ T1 ∧ false = false ∧ T1 ∧ false = false ∧ T1 ∧ false = false ∧ T1 ∧ false = false ∧ T1 ∧ false = false ∧ T1 ∧ tt ∧ tt ∧ (true = false ∧ True) ∧ tt))))))))) else (false = false ∧ T1 ∧ tt ∧ T1 ∧ T1 ∧ T1 ∧ (bif (k == 5) then (tt ∧ tt ∧ T1 ∧ tt ∧ tt ∧ (tt ∧ True) ∧ tt) else (T1 ∧ tt ∧ T1 ∧ tt ∧ T1 ∧ T1 ∧ (bif (Bool.not (Bool.and (y.r == x.r) (Bool.and (y.sl == x.sl) true))) then (tt ∧ T1 ∧ tt ∧ tt ∧ (tt ∧ True) ∧ tt) else (tt ∧ tt ∧ T1 ∧ tt ∧ (T1 ∧ True) ∧ T1 ∧ tt ∧ tt ∧ tt ∧ (T1 ∧ True) ∧ (T1 ∧ q5) ∧ T1 ∧ (bif q6 then (T1 ∧ tt ∧ T1 ∧ T1 ∧ T1 ∧ T1 ∧ (bif (q0.src == dst) then (T1 ∧ tt ∧ T1 ∧ T1 ∧ T1 ∧ T1 ∧ (bif (q0.dst == src) then (T1 ∧ tt ∧ T1 ∧ T1 ∧ T1 ∧ T1 ∧ T1 ∧ (bif (q0.k == (IntKind.wrap IntKind.i64 (k + (1 : Int)))) then (T1 ∧ tt ∧ T1 ∧ tt ∧ T1 ∧ T1 ∧ T1 ∧ (bif (Bool.and (q0.r == x.r) (Bool.and (q0.s == x.sl) true)) then (T1 ∧ tt ∧ T1 ∧ T1 ∧ T1 ∧ T1 ∧ (bif (q0.b == b) then (T1 ∧ tt ∧ T1 ∧ T1 ∧ T1 ∧ T1 ∧ (bif (@BEq.beq.{0} Bool (@instBEqOfDecidableEq.{0} Bool instDecidableEqBool) q0.ok ok) then (T1 ∧ tt ∧ tt ∧ T1 ∧ T1 ∧ T1 ∧ tt ∧ tt ∧ (true = (Bool.and (q0.x.r == y.r) (Bool.and (q0.x.sl == y.sl) (Bool.and (q0.x.st == y.st) (Bool.and (q0.x.bal == y.bal) (Bool.and (q0.x.vote == y.vote) (Bool.and (@BEq.beq.{0} Bool (@instBEqOfDecidableEq.{0} Bool instDecidableEqBool) q0.x.same y.same) (Bool.and (q0.x.c.k == y.c.k) (Bool.and (q0.x.c.num == y.c.num) (Bool.and (@BEq.beq.{0} (List UInt8) (@List.instBEq.{0} UInt8 (@instBEqOfDecidableEq.{0} UInt8 instDecidableEqUInt8)) q0.x.c.foot y.c.foot) (Bool.and (q0.x.c.rq == y.c.rq) (Bool.and (@BEq.beq.{0} (List UInt8) (@List.instBEq.{0} UInt8 (@instBEqOfDecidableEq.{0} UInt8 instDecidableEqUInt8)) q0.x.c.path y.c.path) (Bool.and (q0.x.c.mode == y.c.mode) (Bool.and (q0.x.c.n == y.c.n) (Bool.and (q0.x.c.time == y.c.time) (Bool.and (q0.x.a.s == y.a.s) (Bool.and (q0.x.a.d0 == y.a.d0) (Bool.and (q0.x.a.d1 == y.a.d1) (Bool.and (q0.x.a.d2 == y.a.d2) (Bool.and (q0.x.a.d3 == y.a.d3) (Bool.and (q0.x.a.d4 == y.a.d4) (Bool.and (q0.x.a.d5 == y.a.d5) (Bool.and (q0.x.a.d6 == y.a.d6) true)))))))))))))))))))))) ∧ True) ∧ tt) else (false = false ∧ T1 ∧ tt ∧ tt ∧ (true = false ∧ True) ∧ tt))) else (false = false ∧ T1 ∧ false = false ∧ T1 ∧ tt ∧ tt ∧ (true = false ∧ True) ∧ tt))) else (false = false ∧ T1 ∧ false = false ∧ T1 ∧ false = false ∧ T1 ∧ tt ∧ tt ∧ (true = false ∧ True) ∧ tt))) else (false = false ∧ T1 ∧ false = false ∧ T1 ∧ false = false ∧ T1 ∧ false = false ∧ T1 ∧ tt ∧ tt ∧ (true = false ∧ True) ∧ tt))) else (false = false ∧ T1 ∧ false = false ∧ T1 ∧ false = false ∧ T1 ∧ false = false ∧ T1 ∧ false = false ∧ T1 ∧ tt ∧ tt ∧ (true = false ∧ True) ∧ tt))) else (false = false ∧ T1 ∧ false = false ∧ T1 ∧ false = false ∧ T1 ∧ false = false ∧ T1 ∧ false = false ∧ T1 ∧ false = false ∧ T1 ∧ tt ∧ tt ∧ (true = false ∧ True) ∧ tt))) else (false = false ∧ T1 ∧ false = false ∧ T1 ∧ false = false ∧ T1 ∧ false = false ∧ T1 ∧ false = false ∧ T1 ∧ false = false ∧ T1 ∧ false = false ∧ T1 ∧ tt ∧ tt ∧ (true = false ∧ True) ∧ tt))))))))))))))))))))))))))))))))))))))))))))) else (false = false ∧ T1 ∧ T1 ∧ T1 ∧ T1 ∧ T1 ∧ (bif (decide (src < 0)) then (tt ∧ T1 ∧ tt ∧ T1 ∧ tt ∧ T1 ∧ tt ∧ tt ∧ T1 ∧ tt ∧ tt ∧ (tt ∧ True) ∧ tt) else (T1 ∧ T1 ∧ T1 ∧ T1 ∧ (bif (decide ((6 : Int) < src)) then (tt ∧ T1 ∧ tt ∧ T1 ∧ tt ∧ tt ∧ T1 ∧ tt ∧ tt ∧ (tt ∧ True) ∧ tt) else (T1 ∧ T1 ∧ T1 ∧ T1 ∧ (bif (decide (dst < 0)) then (tt ∧ T1 ∧ tt ∧ tt ∧ T1 ∧ tt ∧ tt ∧ (tt ∧ True) ∧ tt) else (T1 ∧ T1 ∧ T1 ∧ T1 ∧ (bif (decide ((6 : Int) < dst)) then (tt ∧ tt ∧ T1 ∧ tt ∧ tt ∧ (tt ∧ True) ∧ tt) else (T1 ∧ T1 ∧ T1 ∧ T1 ∧ (bif (src == dst) then (tt ∧ T1 ∧ tt ∧ tt ∧ (tt ∧ True) ∧ tt) else (tt ∧ T1 ∧ T1 ∧ tt ∧ T1 ∧ T1 ∧ T1 ∧ (bif (decide ((200 : Int) < (q7 : Int))) then (tt ∧ T1 ∧ tt ∧ T1 ∧ tt ∧ T1 ∧ tt ∧ T1 ∧ tt ∧ T1 ∧ tt ∧ T1 ∧ tt ∧ tt ∧ T1 ∧ tt ∧ tt ∧ (tt ∧ True) ∧ tt) else (T1 ∧ T1 ∧ T1 ∧ tt ∧ T1 ∧ T1 ∧ T1 ∧ T1 ∧ (bif (decide ((200 : Int) < (q8 : Int))) then (tt ∧ T1 ∧ tt ∧ T1 ∧ tt ∧ T1 ∧ tt ∧ T1 ∧ tt ∧ T1 ∧ tt ∧ tt ∧ T1 ∧ tt ∧ tt ∧ (tt ∧ True) ∧ tt) else (T1 ∧ T1 ∧ tt ∧ T1 ∧ T1 ∧ T1 ∧ T1 ∧ (bif (decide ((200 : Int) < (q9 : Int))) then (tt ∧ T1 ∧ tt ∧ T1 ∧ tt ∧ T1 ∧ tt ∧ T1 ∧ tt ∧ tt ∧ T1 ∧ tt ∧ tt ∧ (tt ∧ True) ∧ tt) else (T1 ∧ T1 ∧ T1 ∧ tt ∧ T1 ∧ T1 ∧ T1 ∧ T1 ∧ (bif (decide ((200 : Int) < (q10 : Int))) then (tt ∧ T1 ∧ tt ∧ T1 ∧ tt ∧ T1 ∧ tt ∧ tt ∧ T1 ∧ tt ∧ tt ∧ (tt ∧ True) ∧ tt) else (tt ∧ (T1 ∧ (smallX x)) ∧ T1 ∧ T1 ∧ T1 ∧ (bif (Bool.not (rightI x)) then (tt ∧ T1 ∧ tt ∧ T1 ∧ tt ∧ tt ∧ T1 ∧ tt ∧ tt ∧ (tt ∧ True) ∧ tt) else (tt ∧ (T1 ∧ (smallX y)) ∧ T1 ∧ T1 ∧ T1 ∧ (bif (Bool.not (rightI y)) then (tt ∧ T1 ∧ tt ∧ tt ∧ T1 ∧ tt ∧ tt ∧ (tt ∧ True) ∧ tt) else (T1 ∧ (T1 ∧ True) ∧ T1 ∧ T1 ∧ T1 ∧ (bif (Bool.not (balOK b)) then (tt ∧ tt ∧ T1 ∧ tt ∧ tt ∧ (tt ∧ True) ∧ tt) else (T1 ∧ tt ∧ T1 ∧ T1 ∧ (bif (x.st == 0) then (tt ∧ T1 ∧ tt ∧ tt ∧ (tt ∧ True) ∧ tt) else (tt ∧ T1 ∧ T1 ∧ T1 ∧ T1 ∧ tt ∧ (T1 ∧ True) ∧ T1 ∧ tt ∧ tt ∧ tt ∧ (T1 ∧ True) ∧ (T1 ∧ q4) ∧ T1 ∧ T1 ∧ (bif q3 then (tt ∧ T1 ∧ tt ∧ T1 ∧ tt ∧ T1 ∧ tt ∧ tt ∧ T1 ∧ tt ∧ tt ∧ (true = false ∧ True) ∧ tt) else (tt ∧ (T1 ∧ q4) ∧ T1 ∧ T1 ∧ T1 ∧ (bif q3 then (tt ∧ T1 ∧ tt ∧ T1 ∧ tt ∧ tt ∧ T1 ∧ tt ∧ tt ∧ (true = false ∧ True) ∧ tt) else (T1 ∧ tt ∧ T1 ∧ tt ∧ T1 ∧ T1 ∧ T1 ∧ (bif (Bool.not (Bool.and (q1.r == x.r) (Bool.and (q1.s == x.sl) true))) then (tt ∧ T1 ∧ tt ∧ tt ∧ T1 ∧ tt ∧ tt ∧ (true = false ∧ True) ∧ tt) else (T1 ∧ tt ∧ T1 ∧ T1 ∧ T1 ∧ T1 ∧ (bif (q1.b != b) then (tt ∧ tt ∧ T1 ∧ tt ∧ tt ∧ (true = false ∧ True) ∧ tt) else (T1 ∧ T1 ∧ T1 ∧ (bif (k != 6) then (T1 ∧ tt ∧ tt ∧ (T1 ∧ True) ∧ T1 ∧ T1 ∧ T1 ∧ (bif q2 then (tt ∧ T1 ∧ tt ∧ tt ∧ (true = false ∧ True) ∧ tt) else (tt ∧ T1 ∧ T1 ∧ T1 ∧ (bif (k == 5) then (tt ∧ tt ∧ T1 ∧ tt ∧ tt ∧ (tt ∧ True) ∧ tt) else (T1 ∧ tt ∧ T1 ∧ tt ∧ T1 ∧ T1 ∧ (bif (Bool.not (Bool.and (y.r == x.r) (Bool.and (y.sl == x.sl) true))) then (tt ∧ T1 ∧ tt ∧ tt ∧ (tt ∧ True) ∧ tt) else (tt ∧ tt ∧ T1 ∧ tt ∧ (T1 ∧ True) ∧ T1 ∧ tt ∧ tt ∧ tt ∧ (T1 ∧ True) ∧ (T1 ∧ q5) ∧ T1 ∧ (bif q6 then (T1 ∧ tt ∧ T1 ∧ T1 ∧ T1 ∧ T1 ∧ (bif (q0.src == dst) then (T1 ∧ tt ∧ T1 ∧ T1 ∧ T1 ∧ T1 ∧ (bif (q0.dst == src) then (T1 ∧ tt ∧ T1 ∧ T1 ∧ T1 ∧ T1 ∧ T1 ∧ (bif (q0.k == (IntKind.wrap IntKind.i64 (k + (1 : Int)))) then (T1 ∧ tt ∧ T1 ∧ tt ∧ T1 ∧ T1 ∧ T1 ∧ (bif (Bool.and (q0.r == x.r) (Bool.and (q0.s == x.sl) true)) then (T1 ∧ tt ∧ T1 ∧ T1 ∧ T1 ∧ T1 ∧ (bif (q0.b == b) then (T1 ∧ tt ∧ T1 ∧ T1 ∧ T1 ∧ T1 ∧ (bif (@BEq.beq.{0} Bool (@instBEqOfDecidableEq.{0} Bool instDecidableEqBool) q0.ok ok) then (T1 ∧ tt ∧ tt ∧ T1 ∧ T1 ∧ T1 ∧ tt ∧ tt ∧ (true = (Bool.and (q0.x.r == y.r) (Bool.and (q0.x.sl == y.sl) (Bool.and (q0.x.st == y.st) (Bool.and (q0.x.bal == y.bal) (Bool.and (q0.x.vote == y.vote) (Bool.and (@BEq.beq.{0} Bool (@instBEqOfDecidableEq.{0} Bool instDecidableEqBool) q0.x.same y.same) (Bool.and (q0.x.c.k == y.c.k) (Bool.and (q0.x.c.num == y.c.num) (Bool.and (@BEq.beq.{0} (List UInt8) (@List.instBEq.{0} UInt8 (@instBEqOfDecidableEq.{0} UInt8 instDecidableEqUInt8)) q0.x.c.foot y.c.foot) (Bool.and (q0.x.c.rq == y.c.rq) (Bool.and (@BEq.beq.{0} (List UInt8) (@List.instBEq.{0} UInt8 (@instBEqOfDecidableEq.{0} UInt8 instDecidableEqUInt8)) q0.x.c.path y.c.path) (Bool.and (q0.x.c.mode == y.c.mode) (Bool.and (q0.x.c.n == y.c.n) (Bool.and (q0.x.c.time == y.c.time) (Bool.and (q0.x.a.s == y.a.s) (Bool.and (q0.x.a.d0 == y.a.d0) (Bool.and (q0.x.a.d1 == y.a.d1) (Bool.and (q0.x.a.d2 == y.a.d2) (Bool.and (q0.x.a.d3 == y.a.d3) (Bool.and (q0.x.a.d4 == y.a.d4) (Bool.and (q0.x.a.d5 == y.a.d5) (Bool.and (q0.x.a.d6 == y.a.d6) true)))))))))))))))))))))) ∧ True) ∧ tt) else (false = false ∧ T1 ∧ tt ∧ tt ∧ (true = false ∧ True) ∧ tt))) else (false = false ∧ T1 ∧ false = false ∧ T1 ∧ tt ∧ tt ∧ (true = false ∧ True) ∧ tt))) else (false = false ∧ T1 ∧ false = false ∧ T1 ∧ false = false ∧ T1 ∧ tt ∧ tt ∧ (true = false ∧ True) ∧ tt))) else (false = false ∧ T1 ∧ false = false ∧ T1 ∧ false = false ∧ T1 ∧ false = false ∧ T1 ∧ tt ∧ tt ∧ (true = false ∧ True) ∧ tt))) else (false = false ∧ T1 ∧ false = false ∧ T1 ∧ false = false ∧ T1 ∧ false = false ∧ T1 ∧ false = false ∧ T1 ∧ tt ∧ tt ∧ (true = false ∧ True) ∧ tt))) else (false = false ∧ T1 ∧ false = false ∧ T1 ∧ false = false ∧ T1 ∧ false = false ∧ T1 ∧ false = false ∧ T1 ∧ false = false ∧ T1 ∧ tt ∧ tt ∧ (true = false ∧ True) ∧ tt))) else (false = false ∧ T1 ∧ false = false ∧ T1 ∧ false = false ∧ T1 ∧ false = false ∧ T1 ∧ false = false ∧ T1 ∧ false = false ∧ T1 ∧ false = false ∧ T1 ∧ tt ∧ tt ∧ (true = false ∧ True) ∧ tt))))))))) else (false = false ∧ T1 ∧ tt ∧ T1 ∧ T1 ∧ T1 ∧ (bif (k == 5) then (tt ∧ tt ∧ T1 ∧ tt ∧ tt ∧ (tt ∧ True) ∧ tt) else (T1 ∧ tt ∧ T1 ∧ tt ∧ T1 ∧ T1 ∧ (bif (Bool.not (Bool.and (y.r == x.r) (Bool.and (y.sl == x.sl) true))) then (tt ∧ T1 ∧ tt ∧ tt ∧ (tt ∧ True) ∧ tt) else (tt ∧ tt ∧ T1 ∧ tt ∧ (T1 ∧ True) ∧ T1 ∧ tt ∧ tt ∧ tt ∧ (T1 ∧ True) ∧ (T1 ∧ q5) ∧ T1 ∧ (bif q6 then (T1 ∧ tt ∧ T1 ∧ T1 ∧ T1 ∧ T1 ∧ (bif (q0.src == dst) then (T1 ∧ tt ∧ T1 ∧ T1 ∧ T1 ∧ T1 ∧ (bif (q0.dst == src) then (T1 ∧ tt ∧ T1 ∧ T1 ∧ T1 ∧ T1 ∧ T1 ∧ (bif (q0.k == (IntKind.wrap IntKind.i64 (k + (1 : Int)))) then (T1 ∧ tt ∧ T1 ∧ tt ∧ T1 ∧ T1 ∧ T1 ∧ (bif (Bool.and (q0.r == x.r) (Bool.and (q0.s == x.sl) true)) then (T1 ∧ tt ∧ T1 ∧ T1 ∧ T1 ∧ T1 ∧ (bif (q0.b == b) then (T1 ∧ tt ∧ T1 ∧ T1 ∧ T1 ∧ T1 ∧ (bif (@BEq.beq.{0} Bool (@instBEqOfDecidableEq.{0} Bool instDecidableEqBool) q0.ok ok) then (T1 ∧ tt ∧ tt ∧ T1 ∧ T1 ∧ T1 ∧ tt ∧ tt ∧ (true = (Bool.and (q0.x.r == y.r) (Bool.and (q0.x.sl == y.sl) (Bool.and (q0.x.st == y.st) (Bool.and (q0.x.bal == y.bal) (Bool.and (q0.x.vote == y.vote) (Bool.and (@BEq.beq.{0} Bool (@instBEqOfDecidableEq.{0} Bool instDecidableEqBool) q0.x.same y.same) (Bool.and (q0.x.c.k == y.c.k) (Bool.and (q0.x.c.num == y.c.num) (Bool.and (@BEq.beq.{0} (List UInt8) (@List.instBEq.{0} UInt8 (@instBEqOfDecidableEq.{0} UInt8 instDecidableEqUInt8)) q0.x.c.foot y.c.foot) (Bool.and (q0.x.c.rq == y.c.rq) (Bool.and (@BEq.beq.{0} (List UInt8) (@List.instBEq.{0} UInt8 (@instBEqOfDecidableEq.{0} UInt8 instDecidableEqUInt8)) q0.x.c.path y.c.path) (Bool.and (q0.x.c.mode == y.c.mode) (Bool.and (q0.x.c.n == y.c.n) (Bool.and (q0.x.c.time == y.c.time) (Bool.and (q0.x.a.s == y.a.s) (Bool.and (q0.x.a.d0 == y.a.d0) (Bool.and (q0.x.a.d1 == y.a.d1) (Bool.and (q0.x.a.d2 == y.a.d2) (Bool.and (q0.x.a.d3 == y.a.d3) (Bool.and (q0.x.a.d4 == y.a.d4) (Bool.and (q0.x.a.d5 == y.a.d5) (Bool.and (q0.x.a.d6 == y.a.d6) true)))))))))))))))))))))) ∧ True) ∧ tt) else (false = false ∧ T1 ∧ tt ∧ tt ∧ (true = false ∧ True) ∧ tt))) else (false = false ∧ T1 ∧ false = false ∧ T1 ∧ tt ∧ tt ∧ (true = false ∧ True) ∧ tt))) else (false = false ∧ T1 ∧ false = false ∧ T1 ∧ false = false ∧ T1 ∧ tt ∧ tt ∧ (true = false ∧ True) ∧ tt))) else (false = false ∧ T1 ∧ false = false ∧ T1 ∧ false = false ∧ T1 ∧ false = false ∧ T1 ∧ tt ∧ tt ∧ (true = false ∧ True) ∧ tt))) else (false = false ∧ T1 ∧ false = false ∧ T1 ∧ false = false ∧ T1 ∧ false = false ∧ T1 ∧ false = false ∧ T1 ∧ tt ∧ tt ∧ (true = false ∧ True) ∧ tt))) else (false = false ∧ T1 ∧ false = false ∧ T1 ∧ false = false ∧ T1 ∧ false = false ∧ T1 ∧ false = false ∧ T1 ∧ false = false ∧ T1 ∧ tt ∧ tt ∧ (true = false ∧ True) ∧ tt))) else (false = false ∧ T1 ∧ false = false ∧ T1 ∧ false = false ∧ T1 ∧ false = false ∧ T1 ∧ false = false ∧ T1 ∧ false = false ∧ T1 ∧ false = false ∧ T1 ∧ tt ∧ tt ∧ (true = false ∧ True) ∧ tt))))))))))))))))))))))))))))))))))))))))))))) else (false = false ∧ T1 ∧ false = false ∧ T1 ∧ T1 ∧ T1 ∧ T1 ∧ T1 ∧ (bif (decide (src < 0)) then (tt ∧ T1 ∧ tt ∧ T1 ∧ tt ∧ T1 ∧ tt ∧ tt ∧ T1 ∧ tt ∧ tt ∧ (tt ∧ True) ∧ tt) else (T1 ∧ T1 ∧ T1 ∧ T1 ∧ (bif (decide ((6 : Int) < src)) then (tt ∧ T1 ∧ tt ∧ T1 ∧ tt ∧ tt ∧ T1 ∧ tt ∧ tt ∧ (tt ∧ True) ∧ tt) else (T1 ∧ T1 ∧ T1 ∧ T1 ∧ (bif (decide (dst < 0)) then (tt ∧ T1 ∧ tt ∧ tt ∧ T1 ∧ tt ∧ tt ∧ (tt ∧ True) ∧ tt) else (T1 ∧ T1 ∧ T1 ∧ T1 ∧ (bif (decide ((6 : Int) < dst)) then (tt ∧ tt ∧ T1 ∧ tt ∧ tt ∧ (tt ∧ True) ∧ tt) else (T1 ∧ T1 ∧ T1 ∧ T1 ∧ (bif (src == dst) then (tt ∧ T1 ∧ tt ∧ tt ∧ (tt ∧ True) ∧ tt) else (tt ∧ T1 ∧ T1 ∧ tt ∧ T1 ∧ T1 ∧ T1 ∧ (bif (decide ((200 : Int) < (q7 : Int))) then (tt ∧ T1 ∧ tt ∧ T1 ∧ tt ∧ T1 ∧ tt ∧ T1 ∧ tt ∧ T1 ∧ tt ∧ T1 ∧ tt ∧ tt ∧ T1 ∧ tt ∧ tt ∧ (tt ∧ True) ∧ tt) else (T1 ∧ T1 ∧ T1 ∧ tt ∧ T1 ∧ T1 ∧ T1 ∧ T1 ∧ (bif (decide ((200 : Int) < (q8 : Int))) then (tt ∧ T1 ∧ tt ∧ T1 ∧ tt ∧ T1 ∧ tt ∧ T1 ∧ tt ∧ T1 ∧ tt ∧ tt ∧ T1 ∧ tt ∧ tt ∧ (tt ∧ True) ∧ tt) else (T1 ∧ T1 ∧ tt ∧ T1 ∧ T1 ∧ T1 ∧ T1 ∧ (bif (decide ((200 : Int) < (q9 : Int))) then (tt ∧ T1 ∧ tt ∧ T1 ∧ tt ∧ T1 ∧ tt ∧ T1 ∧ tt ∧ tt ∧ T1 ∧ tt ∧ tt ∧ (tt ∧ True) ∧ tt) else (T1 ∧ T1 ∧ T1 ∧ tt ∧ T1 ∧ T1 ∧ T1 ∧ T1 ∧ (bif (decide ((200 : Int) < (q10 : Int))) then (tt ∧ T1 ∧ tt ∧ T1 ∧ tt ∧ T1 ∧ tt ∧ tt ∧ T1 ∧ tt ∧ tt ∧ (tt ∧ True) ∧ tt) else (tt ∧ (T1 ∧ (smallX x)) ∧ T1 ∧ T1 ∧ T1 ∧ (bif (Bool.not (rightI x)) then (tt ∧ T1 ∧ tt ∧ T1 ∧ tt ∧ tt ∧ T1 ∧ tt ∧ tt ∧ (tt ∧ True) ∧ tt) else (tt ∧ (T1 ∧ (smallX y)) ∧ T1 ∧ T1 ∧ T1 ∧ (bif (Bool.not (rightI y)) then (tt ∧ T1 ∧ tt ∧ tt ∧ T1 ∧ tt ∧ tt ∧ (tt ∧ True) ∧ tt) else (T1 ∧ (T1 ∧ True) ∧ T1 ∧ T1 ∧ T1 ∧ (bif (Bool.not (balOK b)) then (tt ∧ tt ∧ T1 ∧ tt ∧ tt ∧ (tt ∧ True) ∧ tt) else (T1 ∧ tt ∧ T1 ∧ T1 ∧ (bif (x.st == 0) then (tt ∧ T1 ∧ tt ∧ tt ∧ (tt ∧ True) ∧ tt) else (tt ∧ T1 ∧ T1 ∧ T1 ∧ T1 ∧ tt ∧ (T1 ∧ True) ∧ T1 ∧ tt ∧ tt ∧ tt ∧ (T1 ∧ True) ∧ (T1 ∧ q4) ∧ T1 ∧ T1 ∧ (bif q3 then (tt ∧ T1 ∧ tt ∧ T1 ∧ tt ∧ T1 ∧ tt ∧ tt ∧ T1 ∧ tt ∧ tt ∧ (true = false ∧ True) ∧ tt) else (tt ∧ (T1 ∧ q4) ∧ T1 ∧ T1 ∧ T1 ∧ (bif q3 then (tt ∧ T1 ∧ tt ∧ T1 ∧ tt ∧ tt ∧ T1 ∧ tt ∧ tt ∧ (true = false ∧ True) ∧ tt) else (T1 ∧ tt ∧ T1 ∧ tt ∧ T1 ∧ T1 ∧ T1 ∧ (bif (Bool.not (Bool.and (q1.r == x.r) (Bool.and (q1.s == x.sl) true))) then (tt ∧ T1 ∧ tt ∧ tt ∧ T1 ∧ tt ∧ tt ∧ (true = false ∧ True) ∧ tt) else (T1 ∧ tt ∧ T1 ∧ T1 ∧ T1 ∧ T1 ∧ (bif (q1.b != b) then (tt ∧ tt ∧ T1 ∧ tt ∧ tt ∧ (true = false ∧ True) ∧ tt) else (T1 ∧ T1 ∧ T1 ∧ (bif (k != 6) then (T1 ∧ tt ∧ tt ∧ (T1 ∧ True) ∧ T1 ∧ T1 ∧ T1 ∧ (bif q2 then (tt ∧ T1 ∧ tt ∧ tt ∧ (true = false ∧ True) ∧ tt) else (tt ∧ T1 ∧ T1 ∧ T1 ∧ (bif (k == 5) then (tt ∧ tt ∧ T1 ∧ tt ∧ tt ∧ (tt ∧ True) ∧ tt) else (T1 ∧ tt ∧ T1 ∧ tt ∧ T1 ∧ T1 ∧ (bif (Bool.not (Bool.and (y.r == x.r) (Bool.and (y.sl == x.sl) true))) then (tt ∧ T1 ∧ tt ∧ tt ∧ (tt ∧ True) ∧ tt) else (tt ∧ tt ∧ T1 ∧ tt ∧ (T1 ∧ True) ∧ T1 ∧ tt ∧ tt ∧ tt ∧ (T1 ∧ True) ∧ (T1 ∧ q5) ∧ T1 ∧ (bif q6 then (T1 ∧ tt ∧ T1 ∧ T1 ∧ T1 ∧ T1 ∧ (bif (q0.src == dst) then (T1 ∧ tt ∧ T1 ∧ T1 ∧ T1 ∧ T1 ∧ (bif (q0.dst == src) then (T1 ∧ tt ∧ T1 ∧ T1 ∧ T1 ∧ T1 ∧ T1 ∧ (bif (q0.k == (IntKind.wrap IntKind.i64 (k + (1 : Int)))) then (T1 ∧ tt ∧ T1 ∧ tt ∧ T1 ∧ T1 ∧ T1 ∧ (bif (Bool.and (q0.r == x.r) (Bool.and (q0.s == x.sl) true)) then (T1 ∧ tt ∧ T1 ∧ T1 ∧ T1 ∧ T1 ∧ (bif (q0.b == b) then (T1 ∧ tt ∧ T1 ∧ T1 ∧ T1 ∧ T1 ∧ (bif (@BEq.beq.{0} Bool (@instBEqOfDecidableEq.{0} Bool instDecidableEqBool) q0.ok ok) then (T1 ∧ tt ∧ tt ∧ T1 ∧ T1 ∧ T1 ∧ tt ∧ tt ∧ (true = (Bool.and (q0.x.r == y.r) (Bool.and (q0.x.sl == y.sl) (Bool.and (q0.x.st == y.st) (Bool.and (q0.x.bal == y.bal) (Bool.and (q0.x.vote == y.vote) (Bool.and (@BEq.beq.{0} Bool (@instBEqOfDecidableEq.{0} Bool instDecidableEqBool) q0.x.same y.same) (Bool.and (q0.x.c.k == y.c.k) (Bool.and (q0.x.c.num == y.c.num) (Bool.and (@BEq.beq.{0} (List UInt8) (@List.instBEq.{0} UInt8 (@instBEqOfDecidableEq.{0} UInt8 instDecidableEqUInt8)) q0.x.c.foot y.c.foot) (Bool.and (q0.x.c.rq == y.c.rq) (Bool.and (@BEq.beq.{0} (List UInt8) (@List.instBEq.{0} UInt8 (@instBEqOfDecidableEq.{0} UInt8 instDecidableEqUInt8)) q0.x.c.path y.c.path) (Bool.and (q0.x.c.mode == y.c.mode) (Bool.and (q0.x.c.n == y.c.n) (Bool.and (q0.x.c.time == y.c.time) (Bool.and (q0.x.a.s == y.a.s) (Bool.and (q0.x.a.d0 == y.a.d0) (Bool.and (q0.x.a.d1 == y.a.d1) (Bool.and (q0.x.a.d2 == y.a.d2) (Bool.and (q0.x.a.d3 == y.a.d3) (Bool.and (q0.x.a.d4 == y.a.d4) (Bool.and (q0.x.a.d5 == y.a.d5) (Bool.and (q0.x.a.d6 == y.a.d6) true)))))))))))))))))))))) ∧ True) ∧ tt) else (false = false ∧ T1 ∧ tt ∧ tt ∧ (true = false ∧ True) ∧ tt))) else (false = false ∧ T1 ∧ false = false ∧ T1 ∧ tt ∧ tt ∧ (true = false ∧ True) ∧ tt))) else (false = false ∧ T1 ∧ false = false ∧ T1 ∧ false = false ∧ T1 ∧ tt ∧ tt ∧ (true = false ∧ True) ∧ tt))) else (false = false ∧ T1 ∧ false = false ∧ T1 ∧ false = false ∧ T1 ∧ false = false ∧ T1 ∧ tt ∧ tt ∧ (true = false ∧ True) ∧ tt))) else (false = false ∧ T1 ∧ false = false ∧ T1 ∧ false = false ∧ T1 ∧ false = false ∧ T1 ∧ false = false ∧ T1 ∧ tt ∧ tt ∧ (true = false ∧ True) ∧ tt))) else (false = false ∧ T1 ∧ false = false ∧ T1 ∧ false = false ∧ T1 ∧ false = false ∧ T1 ∧ false = false ∧ T1 ∧ false = false ∧ T1 ∧ tt ∧ tt ∧ (true = false ∧ True) ∧ tt))) else (false = false ∧ T1 ∧ false = false ∧ T1 ∧ false = false ∧ T1 ∧ false = false ∧ T1 ∧ false = false ∧ T1 ∧ false = false ∧ T1 ∧ false = false ∧ T1 ∧ tt ∧ tt ∧ (true = false ∧ True) ∧ tt))))))))) else (false = false ∧ T1 ∧ tt ∧ T1 ∧ T1 ∧ T1 ∧ (bif (k == 5) then (tt ∧ tt ∧ T1 ∧ tt ∧ tt ∧ (tt ∧ True) ∧ tt) else (T1 ∧ tt ∧ T1 ∧ tt ∧ T1 ∧ T1 ∧ (bif (Bool.not (Bool.and (y.r == x.r) (Bool.and (y.sl == x.sl) true))) then (tt ∧ T1 ∧ tt ∧ tt ∧ (tt ∧ True) ∧ tt) else (tt ∧ tt ∧ T1 ∧ tt ∧ (T1 ∧ True) ∧ T1 ∧ tt ∧ tt ∧ tt ∧ (T1 ∧ True) ∧ (T1 ∧ q5) ∧ T1 ∧ (bif q6 then (T1 ∧ tt ∧ T1 ∧ T1 ∧ T1 ∧ T1 ∧ (bif (q0.src == dst) then (T1 ∧ tt ∧ T1 ∧ T1 ∧ T1 ∧ T1 ∧ (bif (q0.dst == src) then (T1 ∧ tt ∧ T1 ∧ T1 ∧ T1 ∧ T1 ∧ T1 ∧ (bif (q0.k == (IntKind.wrap IntKind.i64 (k + (1 : Int)))) then (T1 ∧ tt ∧ T1 ∧ tt ∧ T1 ∧ T1 ∧ T1 ∧ (bif (Bool.and (q0.r == x.r) (Bool.and (q0.s == x.sl) true)) then (T1 ∧ tt ∧ T1 ∧ T1 ∧ T1 ∧ T1 ∧ (bif (q0.b == b) then (T1 ∧ tt ∧ T1 ∧ T1 ∧ T1 ∧ T1 ∧ (bif (@BEq.beq.{0} Bool (@instBEqOfDecidableEq.{0} Bool instDecidableEqBool) q0.ok ok) then (T1 ∧ tt ∧ tt ∧ T1 ∧ T1 ∧ T1 ∧ tt ∧ tt ∧ (true = (Bool.and (q0.x.r == y.r) (Bool.and (q0.x.sl == y.sl) (Bool.and (q0.x.st == y.st) (Bool.and (q0.x.bal == y.bal) (Bool.and (q0.x.vote == y.vote) (Bool.and (@BEq.beq.{0} Bool (@instBEqOfDecidableEq.{0} Bool instDecidableEqBool) q0.x.same y.same) (Bool.and (q0.x.c.k == y.c.k) (Bool.and (q0.x.c.num == y.c.num) (Bool.and (@BEq.beq.{0} (List UInt8) (@List.instBEq.{0} UInt8 (@instBEqOfDecidableEq.{0} UInt8 instDecidableEqUInt8)) q0.x.c.foot y.c.foot) (Bool.and (q0.x.c.rq == y.c.rq) (Bool.and (@BEq.beq.{0} (List UInt8) (@List.instBEq.{0} UInt8 (@instBEqOfDecidableEq.{0} UInt8 instDecidableEqUInt8)) q0.x.c.path y.c.path) (Bool.and (q0.x.c.mode == y.c.mode) (Bool.and (q0.x.c.n == y.c.n) (Bool.and (q0.x.c.time == y.c.time) (Bool.and (q0.x.a.s == y.a.s) (Bool.and (q0.x.a.d0 == y.a.d0) (Bool.and (q0.x.a.d1 == y.a.d1) (Bool.and (q0.x.a.d2 == y.a.d2) (Bool.and (q0.x.a.d3 == y.a.d3) (Bool.and (q0.x.a.d4 == y.a.d4) (Bool.and (q0.x.a.d5 == y.a.d5) (Bool.and (q0.x.a.d6 == y.a.d6) true)))))))))))))))))))))) ∧ True) ∧ tt) else (false = false ∧ T1 ∧ tt ∧ tt ∧ (true = false ∧ True) ∧ tt))) else (false = false ∧ T1 ∧ false = false ∧ T1 ∧ tt ∧ tt ∧ (true = false ∧ True) ∧ tt))) else (false = false ∧ T1 ∧ false = false ∧ T1 ∧ false = false ∧ T1 ∧ tt ∧ tt ∧ (true = false ∧ True) ∧ tt))) else (false = false ∧ T1 ∧ false = false ∧ T1 ∧ false = false ∧ T1 ∧ false = false ∧ T1 ∧ tt ∧ tt ∧ (true = false ∧ True) ∧ tt))) else (false = false ∧ T1 ∧ false = false ∧ T1 ∧ false = false ∧ T1 ∧ false = false ∧ T1 ∧ false = false ∧ T1 ∧ tt ∧ tt ∧ (true = false ∧ True) ∧ tt))) else (false = false ∧ T1 ∧ false = false ∧ T1 ∧ false = false ∧ T1 ∧ false = false ∧ T1 ∧ false = false ∧ T1 ∧ false = false ∧ T1 ∧ tt ∧ tt ∧ (true = false ∧ True) ∧ tt))) else (false = false ∧ T1 ∧ false = false ∧ T1 ∧ false = false ∧ T1 ∧ false = false ∧ T1 ∧ false = false ∧ T1 ∧ false = false ∧ T1 ∧ false = false ∧ T1 ∧ tt ∧ tt ∧ (true = false ∧ True) ∧ tt))))))))))))))))))))))))))))))))))))))))))))) else (false = false ∧ T1 ∧ false = false ∧ T1 ∧ false = false ∧ T1 ∧ T1 ∧ T1 ∧ T1 ∧ T1 ∧ (bif (decide (src < 0)) then (tt ∧ T1 ∧ tt ∧ T1 ∧ tt ∧ T1 ∧ tt ∧ tt ∧ T1 ∧ tt ∧ tt ∧ (tt ∧ True) ∧ tt) else (T1 ∧ T1 ∧ T1 ∧ T1 ∧ (bif (decide ((6 : Int) < src)) then (tt ∧ T1 ∧ tt ∧ T1 ∧ tt ∧ tt ∧ T1 ∧ tt ∧ tt ∧ (tt ∧ True) ∧ tt) else (T1 ∧ T1 ∧ T1 ∧ T1 ∧ (bif (decide (dst < 0)) then (tt ∧ T1 ∧ tt ∧ tt ∧ T1 ∧ tt ∧ tt ∧ (tt ∧ True) ∧ tt) else (T1 ∧ T1 ∧ T1 ∧ T1 ∧ (bif (decide ((6 : Int) < dst)) then (tt ∧ tt ∧ T1 ∧ tt ∧ tt ∧ (tt ∧ True) ∧ tt) else (T1 ∧ T1 ∧ T1 ∧ T1 ∧ (bif (src == dst) then (tt ∧ T1 ∧ tt ∧ tt ∧ (tt ∧ True) ∧ tt) else (tt ∧ T1 ∧ T1 ∧ tt ∧ T1 ∧ T1 ∧ T1 ∧ (bif (decide ((200 : Int) < (q7 : Int))) then (tt ∧ T1 ∧ tt ∧ T1 ∧ tt ∧ T1 ∧ tt ∧ T1 ∧ tt ∧ T1 ∧ tt ∧ T1 ∧ tt ∧ tt ∧ T1 ∧ tt ∧ tt ∧ (tt ∧ True) ∧ tt) else (T1 ∧ T1 ∧ T1 ∧ tt ∧ T1 ∧ T1 ∧ T1 ∧ T1 ∧ (bif (decide ((200 : Int) < (q8 : Int))) then (tt ∧ T1 ∧ tt ∧ T1 ∧ tt ∧ T1 ∧ tt ∧ T1 ∧ tt ∧ T1 ∧ tt ∧ tt ∧ T1 ∧ tt ∧ tt ∧ (tt ∧ True) ∧ tt) else (T1 ∧ T1 ∧ tt ∧ T1 ∧ T1 ∧ T1 ∧ T1 ∧ (bif (decide ((200 : Int) < (q9 : Int))) then (tt ∧ T1 ∧ tt ∧ T1 ∧ tt ∧ T1 ∧ tt ∧ T1 ∧ tt ∧ tt ∧ T1 ∧ tt ∧ tt ∧ (tt ∧ True) ∧ tt) else (T1 ∧ T1 ∧ T1 ∧ tt ∧ T1 ∧ T1 ∧ T1 ∧ T1 ∧ (bif (decide ((200 : Int) < (q10 : Int))) then (tt ∧ T1 ∧ tt ∧ T1 ∧ tt ∧ T1 ∧ tt ∧ tt ∧ T1 ∧ tt ∧ tt ∧ (tt ∧ True) ∧ tt) else (tt ∧ (T1 ∧ (smallX x)) ∧ T1 ∧ T1 ∧ T1 ∧ (bif (Bool.not (rightI x)) then (tt ∧ T1 ∧ tt ∧ T1 ∧ tt ∧ tt ∧ T1 ∧ tt ∧ tt ∧ (tt ∧ True) ∧ tt) else (tt ∧ (T1 ∧ (smallX y)) ∧ T1 ∧ T1 ∧ T1 ∧ (bif (Bool.not (rightI y)) then (tt ∧ T1 ∧ tt ∧ tt ∧ T1 ∧ tt ∧ tt ∧ (tt ∧ True) ∧ tt) else (T1 ∧ (T1 ∧ True) ∧ T1 ∧ T1 ∧ T1 ∧ (bif (Bool.not (balOK b)) then (tt ∧ tt ∧ T1 ∧ tt ∧ tt ∧ (tt ∧ True) ∧ tt) else (T1 ∧ tt ∧ T1 ∧ T1 ∧ (bif (x.st == 0) then (tt ∧ T1 ∧ tt ∧ tt ∧ (tt ∧ True) ∧ tt) else (tt ∧ T1 ∧ T1 ∧ T1 ∧ T1 ∧ tt ∧ (T1 ∧ True) ∧ T1 ∧ tt ∧ tt ∧ tt ∧ (T1 ∧ True) ∧ (T1 ∧ q4) ∧ T1 ∧ T1 ∧ (bif q3 then (tt ∧ T1 ∧ tt ∧ T1 ∧ tt ∧ T1 ∧ tt ∧ tt ∧ T1 ∧ tt ∧ tt ∧ (true = false ∧ True) ∧ tt) else (tt ∧ (T1 ∧ q4) ∧ T1 ∧ T1 ∧ T1 ∧ (bif q3 then (tt ∧ T1 ∧ tt ∧ T1 ∧ tt ∧ tt ∧ T1 ∧ tt ∧ tt ∧ (true = false ∧ True) ∧ tt) else (T1 ∧ tt ∧ T1 ∧ tt ∧ T1 ∧ T1 ∧ T1 ∧ (bif (Bool.not (Bool.and (q1.r == x.r) (Bool.and (q1.s == x.sl) true))) then (tt ∧ T1 ∧ tt ∧ tt ∧ T1 ∧ tt ∧ tt ∧ (true = false ∧ True) ∧ tt) else (T1 ∧ tt ∧ T1 ∧ T1 ∧ T1 ∧ T1 ∧ (bif (q1.b != b) then (tt ∧ tt ∧ T1 ∧ tt ∧ tt ∧ (true = false ∧ True) ∧ tt) else (T1 ∧ T1 ∧ T1 ∧ (bif (k != 6) then (T1 ∧ tt ∧ tt ∧ (T1 ∧ True) ∧ T1 ∧ T1 ∧ T1 ∧ (bif q2 then (tt ∧ T1 ∧ tt ∧ tt ∧ (true = false ∧ True) ∧ tt) else (tt ∧ T1 ∧ T1 ∧ T1 ∧ (bif (k == 5) then (tt ∧ tt ∧ T1 ∧ tt ∧ tt ∧ (tt ∧ True) ∧ tt) else (T1 ∧ tt ∧ T1 ∧ tt ∧ T1 ∧ T1 ∧ (bif (Bool.not (Bool.and (y.r == x.r) (Bool.and (y.sl == x.sl) true))) then (tt ∧ T1 ∧ tt ∧ tt ∧ (tt ∧ True) ∧ tt) else (tt ∧ tt ∧ T1 ∧ tt ∧ (T1 ∧ True) ∧ T1 ∧ tt ∧ tt ∧ tt ∧ (T1 ∧ True) ∧ (T1 ∧ q5) ∧ T1 ∧ (bif q6 then (T1 ∧ tt ∧ T1 ∧ T1 ∧ T1 ∧ T1 ∧ (bif (q0.src == dst) then (T1 ∧ tt ∧ T1 ∧ T1 ∧ T1 ∧ T1 ∧ (bif (q0.dst == src) then (T1 ∧ tt ∧ T1 ∧ T1 ∧ T1 ∧ T1 ∧ T1 ∧ (bif (q0.k == (IntKind.wrap IntKind.i64 (k + (1 : Int)))) then (T1 ∧ tt ∧ T1 ∧ tt ∧ T1 ∧ T1 ∧ T1 ∧ (bif (Bool.and (q0.r == x.r) (Bool.and (q0.s == x.sl) true)) then (T1 ∧ tt ∧ T1 ∧ T1 ∧ T1 ∧ T1 ∧ (bif (q0.b == b) then (T1 ∧ tt ∧ T1 ∧ T1 ∧ T1 ∧ T1 ∧ (bif (@BEq.beq.{0} Bool (@instBEqOfDecidableEq.{0} Bool instDecidableEqBool) q0.ok ok) then (T1 ∧ tt ∧ tt ∧ T1 ∧ T1 ∧ T1 ∧ tt ∧ tt ∧ (true = (Bool.and (q0.x.r == y.r) (Bool.and (q0.x.sl == y.sl) (Bool.and (q0.x.st == y.st) (Bool.and (q0.x.bal == y.bal) (Bool.and (q0.x.vote == y.vote) (Bool.and (@BEq.beq.{0} Bool (@instBEqOfDecidableEq.{0} Bool instDecidableEqBool) q0.x.same y.same) (Bool.and (q0.x.c.k == y.c.k) (Bool.and (q0.x.c.num == y.c.num) (Bool.and (@BEq.beq.{0} (List UInt8) (@List.instBEq.{0} UInt8 (@instBEqOfDecidableEq.{0} UInt8 instDecidableEqUInt8)) q0.x.c.foot y.c.foot) (Bool.and (q0.x.c.rq == y.c.rq) (Bool.and (@BEq.beq.{0} (List UInt8) (@List.instBEq.{0} UInt8 (@instBEqOfDecidableEq.{0} UInt8 instDecidableEqUInt8)) q0.x.c.path y.c.path) (Bool.and (q0.x.c.mode == y.c.mode) (Bool.and (q0.x.c.n == y.c.n) (Bool.and (q0.x.c.time == y.c.time) (Bool.and (q0.x.a.s == y.a.s) (Bool.and (q0.x.a.d0 == y.a.d0) (Bool.and (q0.x.a.d1 == y.a.d1) (Bool.and (q0.x.a.d2 == y.a.d2) (Bool.and (q0.x.a.d3 == y.a.d3) (Bool.and (q0.x.a.d4 == y.a.d4) (Bool.and (q0.x.a.d5 == y.a.d5) (Bool.and (q0.x.a.d6 == y.a.d6) true)))))))))))))))))))))) ∧ True) ∧ tt) else (false = false ∧ T1 ∧ tt ∧ tt ∧ (true = false ∧ True) ∧ tt))) else (false = false ∧ T1 ∧ false = false ∧ T1 ∧ tt ∧ tt ∧ (true = false ∧ True) ∧ tt))) else (false = false ∧ T1 ∧ false = false ∧ T1 ∧ false = false ∧ T1 ∧ tt ∧ tt ∧ (true = false ∧ True) ∧ tt))) else (false = false ∧ T1 ∧ false = false ∧ T1 ∧ false = false ∧ T1 ∧ false = false ∧ T1 ∧ tt ∧ tt ∧ (true = false ∧ True) ∧ tt))) else (false = false ∧ T1 ∧ false = false ∧ T1 ∧ false = false ∧ T1 ∧ false = false ∧ T1 ∧ false = false ∧ T1 ∧ tt ∧ tt ∧ (true = false ∧ True) ∧ tt))) else (false = false ∧ T1 ∧ false = false ∧ T1 ∧ false = false ∧ T1 ∧ false = false ∧ T1 ∧ false = false ∧ T1 ∧ false = false ∧ T1 ∧ tt ∧ tt ∧ (true = false ∧ True) ∧ tt))) else (false = false ∧ T1 ∧ false = false ∧ T1 ∧ false = false ∧ T1 ∧ false = false ∧ T1 ∧ false = false ∧ T1 ∧ false = false ∧ T1 ∧ false = false ∧ T1 ∧ tt ∧ tt ∧ (true = false ∧ True) ∧ tt))))))))) else (false = false ∧ T1 ∧ tt ∧ T1 ∧ T1 ∧ T1 ∧ (bif (k == 5) then (tt ∧ tt ∧ T1 ∧ tt ∧ tt ∧ (tt ∧ True) ∧ tt) else (T1 ∧ tt ∧ T1 ∧ tt ∧ T1 ∧ T1 ∧ (bif (Bool.not (Bool.and (y.r == x.r) (Bool.and (y.sl == x.sl) true))) then (tt ∧ T1 ∧ tt ∧ tt ∧ (tt ∧ True) ∧ tt) else (tt ∧ tt ∧ T1 ∧ tt ∧ (T1 ∧ True) ∧ T1 ∧ tt ∧ tt ∧ tt ∧ (T1 ∧ True) ∧ (T1 ∧ q5) ∧ T1 ∧ (bif q6 then (T1 ∧ tt ∧ T1 ∧ T1 ∧ T1 ∧ T1 ∧ (bif (q0.src == dst) then (T1 ∧ tt ∧ T1 ∧ T1 ∧ T1 ∧ T1 ∧ (bif (q0.dst == src) then (T1 ∧ tt ∧ T1 ∧ T1 ∧ T1 ∧ T1 ∧ T1 ∧ (bif (q0.k == (IntKind.wrap IntKind.i64 (k + (1 : Int)))) then (T1 ∧ tt ∧ T1 ∧ tt ∧ T1 ∧ T1 ∧ T1 ∧ (bif (Bool.and (q0.r == x.r) (Bool.and (q0.s == x.sl) true)) then (T1 ∧ tt ∧ T1 ∧ T1 ∧ T1 ∧ T1 ∧ (bif (q0.b == b) then (T1 ∧ tt ∧ T1 ∧ T1 ∧ T1 ∧ T1 ∧ (bif (@BEq.beq.{0} Bool (@instBEqOfDecidableEq.{0} Bool instDecidableEqBool) q0.ok ok) then (T1 ∧ tt ∧ tt ∧ T1 ∧ T1 ∧ T1 ∧ tt ∧ tt ∧ (true = (Bool.and (q0.x.r == y.r) (Bool.and (q0.x.sl == y.sl) (Bool.and (q0.x.st == y.st) (Bool.and (q0.x.bal == y.bal) (Bool.and (q0.x.vote == y.vote) (Bool.and (@BEq.beq.{0} Bool (@instBEqOfDecidableEq.{0} Bool instDecidableEqBool) q0.x.same y.same) (Bool.and (q0.x.c.k == y.c.k) (Bool.and (q0.x.c.num == y.c.num) (Bool.and (@BEq.beq.{0} (List UInt8) (@List.instBEq.{0} UInt8 (@instBEqOfDecidableEq.{0} UInt8 instDecidableEqUInt8)) q0.x.c.foot y.c.foot) (Bool.and (q0.x.c.rq == y.c.rq) (Bool.and (@BEq.beq.{0} (List UInt8) (@List.instBEq.{0} UInt8 (@instBEqOfDecidableEq.{0} UInt8 instDecidableEqUInt8)) q0.x.c.path y.c.path) (Bool.and (q0.x.c.mode == y.c.mode) (Bool.and (q0.x.c.n == y.c.n) (Bool.and (q0.x.c.time == y.c.time) (Bool.and (q0.x.a.s == y.a.s) (Bool.and (q0.x.a.d0 == y.a.d0) (Bool.and (q0.x.a.d1 == y.a.d1) (Bool.and (q0.x.a.d2 == y.a.d2) (Bool.and (q0.x.a.d3 == y.a.d3) (Bool.and (q0.x.a.d4 == y.a.d4) (Bool.and (q0.x.a.d5 == y.a.d5) (Bool.and (q0.x.a.d6 == y.a.d6) true)))))))))))))))))))))) ∧ True) ∧ tt) else (false = false ∧ T1 ∧ tt ∧ tt ∧ (true = false ∧ True) ∧ tt))) else (false = false ∧ T1 ∧ false = false ∧ T1 ∧ tt ∧ tt ∧ (true = false ∧ True) ∧ tt))) else (false = false ∧ T1 ∧ false = false ∧ T1 ∧ false = false ∧ T1 ∧ tt ∧ tt ∧ (true = false ∧ True) ∧ tt))) else (false = false ∧ T1 ∧ false = false ∧ T1 ∧ false = false ∧ T1 ∧ false = false ∧ T1 ∧ tt ∧ tt ∧ (true = false ∧ True) ∧ tt))) else (false = false ∧ T1 ∧ false = false ∧ T1 ∧ false = false ∧ T1 ∧ false = false ∧ T1 ∧ false = false ∧ T1 ∧ tt ∧ tt ∧ (true = false ∧ True) ∧ tt))) else (false = false ∧ T1 ∧ false = false ∧ T1 ∧ false = false ∧ T1 ∧ false = false ∧ T1 ∧ false = false ∧ T1 ∧ false = false ∧ T1 ∧ tt ∧ tt ∧ (true = false ∧ True) ∧ tt))) else (false = false ∧ T1 ∧ false = false ∧ T1 ∧ false = false ∧ T1 ∧ false = false ∧ T1 ∧ false = false ∧ T1 ∧ false = false ∧ T1 ∧ false = false ∧ T1 ∧ tt ∧ tt ∧ (true = false ∧ True) ∧ tt)))))))))))))))))))))))))))))))))))))))))))))) : inLawAsks0 k src dst b x y ok :=
  Eq.mp (show _ = _ by kernel_rfl) h
end Go.Proofs.YtfoabkkkdcicgaaGreatDoor
/- The conditions hold: frames, and what is asked and told. -/
namespace Go.Proofs.YtfoabkkkdcicgaaGreatDoor
set_option linter.unusedVariables false
set_option linter.unusedSimpArgs false
open Go.RowKit
set_option maxRecDepth 100000

theorem smallB_small {x : InstP} (h : (!smallB x 200) = false) : smallX x := by
  simp [smallB] at h; unfold smallX; omega
theorem okLawFramesT0 : OkLawFramesT0 := by
  intro m hq hb
  refine vcLawFramesT0 m ?_
  simp only [true_and, and_true, forall_eq, eq_self, bytesL_bytesAV, isBytes_bytesAV, length_bytesAV]
  refine ⟨hq.1, cond_prop (fun _ => trivial) fun h => ?_⟩
  have hs := smallB_small h
  obtain ⟨f1, f2, f3⟩ := frame_opens hs hq.2 hb
  rw [f1, f2]
  refine ⟨⟨hs, hq.2⟩, ⟨hs, hq.2⟩, ⟨hs, hq.2⟩, by omega, ?_⟩
  simp
  omega
theorem okLawFramesN0 : OkLawFramesN0 := by
  intro m hq
  refine vcLawFramesN0 m ?_
  simp only [true_and, and_true, forall_eq, eq_self, bytesL_bytesAV, isBytes_bytesAV, length_bytesAV]
  refine ⟨hq.1, cond_prop (fun _ => trivial) fun h => ?_⟩
  have hs := smallB_small h
  exact ⟨⟨hs, hq.2⟩, ⟨hs, hq.2⟩, ⟨hs, hq.2⟩, ⟨hs, hq.2⟩, rfl⟩
theorem rightI_value {x : InstP} {k b : Int} (h : rightI x = true) (h0 : x.st ≠ 0) (hb : balOK b = true) (hk : k = 1 ∨ k = 3 ∨ k = 5) : rightI (valueI k b x) = true := by
  unfold rightI at h ⊢
  by_cases h1 : (rightId x.r x.sl && balOK x.bal && balOK x.vote && decide (x.vote ≤ x.bal)) = true
  · rw [if_pos h1, if_neg h0] at h
    by_cases h2 : x.st < 0 ∨ 3 < x.st ∨ x.same = true ∧ (x.st ≠ 1 ∨ x.vote ≠ 0)
    · rw [if_pos h2] at h; cases h
    · rw [if_neg h2] at h
      simp only [Bool.and_eq_true] at h1
      have e : ownsI (valueI k b x) = ownsI x := rfl
      have ec : (valueI k b x).c = x.c := rfl
      have es : (valueI k b x).same = false := rfl
      have est : (valueI k b x).st = statusK k := rfl
      have ebal : (valueI k b x).bal = b := rfl
      have evote : (valueI k b x).vote = b := rfl
      have er : (valueI k b x).r = x.r := rfl
      have esl : (valueI k b x).sl = x.sl := rfl
      rw [e, ec, es, est, ebal, evote, er, esl, h1.1.1.1, hb]
      have hst : statusK k = 1 ∨ statusK k = 2 ∨ statusK k = 3 := by
        rcases hk with rfl | rfl | rfl
        · exact .inl (by decide)
        · exact .inr (.inl (by decide))
        · exact .inr (.inr (by decide))
      rw [if_pos (by simp), if_neg (by omega), if_neg (by simp; omega)]
      exact h
  · rw [if_neg h1] at h; cases h
theorem eqI_self (x : InstP) : eqI x x = true := by simp [eqI, instL, sameCells, AV.same]
theorem ask_right {k src dst b : Int} {x : InstP} (hk : k = 1 ∨ k = 3 ∨ k = 5 ∨ k = 6) (h1 : 0 ≤ src ∧ src ≤ 6) (h2 : 0 ≤ dst ∧ dst ≤ 6) (h3 : src ≠ dst) (hx : rightI x = true) (h0 : x.st ≠ 0) (hb : balOK b = true) : rightM (askM k src dst b x) = true := by
  have hid := (rightI_parts hx).1
  rw [rightM_yes (m := askM k src dst b x) ⟨by show 1 ≤ k; omega, by show k ≤ 7; omega, by show repOK src = true; simp [repOK]; omega, by show repOK dst = true; simp [repOK]; omega, h3, hid, hb⟩]
  by_cases h6 : k = 6
  · have e : (askM k src dst b x).k = 6 := h6
    rw [if_pos e]
    have e2 : (askM k src dst b x).x = zI := by show (if k = 6 then zI else valueI k b x) = zI; rw [if_pos h6]
    rw [e2, eqI_self]; rfl
  · have e : ¬ (askM k src dst b x).k = 6 := h6
    rw [if_neg e]
    have e2 : (askM k src dst b x).x = valueI k b x := by show (if k = 6 then zI else valueI k b x) = _; rw [if_neg h6]
    rw [e2, if_pos ⟨rightI_value hx h0 hb (by omega), rfl, rfl⟩]
    have e3 : valueI (askM k src dst b x).k (askM k src dst b x).b (valueI k b x) = valueI k b x := rfl
    have e4 : (askM k src dst b x).ok = false := rfl
    rw [e3, eqI_self, e4]
    simp
theorem reply_right {k src dst b : Int} {x y : InstP} {ok : Bool} (hk : k = 1 ∨ k = 3 ∨ k = 6) (h1 : 0 ≤ src ∧ src ≤ 6) (h2 : 0 ≤ dst ∧ dst ≤ 6) (h3 : src ≠ dst) (hx : rightI x = true) (hb : balOK b = true) (hy : rightI y = true) (hr : y.r = x.r) (hs : y.sl = x.sl) : rightM (replyM (askM k src dst b x) ok y) = true := by
  have hid := (rightI_parts hx).1
  have e0 : (replyM (askM k src dst b x) ok y).k = IntKind.i64.wrap (k + 1) := rfl
  have w : IntKind.i64.wrap (k + 1) = k + 1 := wrap_i64 (by omega) (by omega)
  rw [w] at e0
  rw [rightM_yes (m := replyM (askM k src dst b x) ok y) ⟨by rw [e0]; omega, by rw [e0]; omega, by show repOK dst = true; simp [repOK]; omega, by show repOK src = true; simp [repOK]; omega, fun h => h3 h.symm, hid, hb⟩]
  rw [if_neg (by rw [e0]; omega), if_pos ⟨hy, hr, hs⟩, e0]
  have : asksK (k + 1) = false := by unfold asksK; simp; omega
  rw [this]; rfl
set_option maxHeartbeats 1000000 in
theorem okLawAsks0 : OkLawAsks0 := by
  intro k src dst b x y ok hq hb
  refine vcLawAsks0 k src dst b x y ok ?_
  simp only [true_and, and_true, forall_eq, eq_self]
  refine cond_prop (fun g1 => cond_prop (fun g2 => cond_prop (fun g3 => cond_prop (fun g4 => trivial) fun g4 => ?_) fun g3 => ?_) fun g2 => ?_) fun g1 => ?_
  all_goals
    have hk : k = 1 ∨ k = 3 ∨ k = 5 ∨ k = 6 := by simp at *; omega
    refine cond_prop (fun _ => trivial) fun s1 => cond_prop (fun _ => trivial) fun s2 => cond_prop (fun _ => trivial) fun s3 => cond_prop (fun _ => trivial) fun s4 => cond_prop (fun _ => trivial) fun s5 => ?_
    refine cond_prop (fun _ => trivial) fun l1 => cond_prop (fun _ => trivial) fun l2 => cond_prop (fun _ => trivial) fun l3 => cond_prop (fun _ => trivial) fun l4 => ?_
    have s1 := of_decide_eq_false s1
    have s2 := of_decide_eq_false s2
    have s3 := of_decide_eq_false s3
    have s4 := of_decide_eq_false s4
    have s5 : src ≠ dst := by simpa using s5
    have l1 := of_decide_eq_false l1
    have l2 := of_decide_eq_false l2
    have l3 := of_decide_eq_false l3
    have l4 := of_decide_eq_false l4
    have sx : smallX x := ⟨by omega, by omega⟩
    have sy : smallX y := ⟨by omega, by omega⟩
    refine ⟨sx, cond_prop (fun _ => trivial) fun rx => ⟨sy, cond_prop (fun _ => trivial) fun ry => cond_prop (fun _ => trivial) fun rb => cond_prop (fun _ => trivial) fun st => ?_⟩⟩
    have rx : rightI x = true := by simpa using rx
    have ry : rightI y = true := by simpa using ry
    have rb : balOK b = true := by simpa using rb
    have st : x.st ≠ 0 := by simpa using st
    have am := ask_right hk ⟨by omega, by omega⟩ ⟨by omega, by omega⟩ s5 rx st rb
    have sq : smallX (askM k src dst b x).x := by
      show smallX (if k = 6 then zI else valueI k b x)
      split
      · exact ⟨by decide, by decide⟩
      · exact sx
    have fin : k ≠ 5 → ∀ Z : Prop, Z → Z := fun _ _ h => h
    rw [am]
    refine ⟨sq, cond_prop (fun h => by cases h) fun _ => ⟨sq, cond_prop (fun h => by cases h) fun _ => ?_⟩⟩
    refine cond_prop (fun h => by simp [askM] at h) fun _ => cond_prop (fun h => by simp [askM] at h) fun _ => ?_
    refine cond_prop (fun h6 => cond_prop (fun h => ?_) fun _ => ?_) fun h6 => ?_
    · exfalso
      have h6' : k ≠ 6 := by simpa using h6
      have e2 : (askM k src dst b x).x = valueI k b x := by show (if k = 6 then zI else valueI k b x) = _; rw [if_neg h6']
      rw [e2] at h
      have e3 : eqC (valueI k b x).c x.c = true := by simp [valueI, eqC, cmdL, sameCells, AV.same]
      have e4 : eqA (valueI k b x).a x.a = true := by simp [valueI, eqA, attL, sameCells, AV.same]
      rw [e3, e4] at h; cases h
    all_goals
      refine cond_prop (fun _ => trivial) fun h5 => cond_prop (fun _ => trivial) fun hy => ?_
      have h5 : k ≠ 5 := by simpa using h5
      have hy : y.r = x.r ∧ y.sl = x.sl := by simpa using hy
      have rm := reply_right (ok := ok) (k := k) (by omega) ⟨by omega, by omega⟩ ⟨by omega, by omega⟩ s5 rx rb ry hy.1 hy.2
      refine ⟨sy, ?_⟩
      rw [rm]
      simp [replyM, askM]
end Go.Proofs.YtfoabkkkdcicgaaGreatDoor
/- The contracts are met. -/
namespace Go.Proofs.YtfoabkkkdcicgaaGreatDoor
set_option linter.unusedVariables false
set_option linter.unusedSimpArgs false
open Go.RowKit
theorem sndLawFramesT : Sound Tryz.prog (lookΓ gamLawFramesT) := sound_of _ fun p hp => by
  simp only [gamLawFramesT, List.mem_cons, List.not_mem_nil, or_false] at hp
  rcases hp with rfl | rfl | rfl | rfl | rfl | rfl | rfl
  · exact meetsAnchor11.orNil
  · exact meetsSmall11.orNil
  · exact meetsOf11.orNil
  · exact meetsRefMT.orNil
  · exact meetsMframeT.orNil
  · exact meetsMrightT.orNil
  · exact meetsMopen.orNil
set_option maxHeartbeats 4000000 in
theorem meetsLawFramesT : Meets Tryz.prog 4 lawFramesTF := by
  refine meets_of_awp (Γ := lookΓ gamLawFramesT) (L := fun _ _ => none) sndLawFramesT mixedOrders Tryz.func4 rfl Tryz.call4 ?_
  intro args q r hF hq ho
  unfold lawFramesTF at hF
  split at hF
  · split at hF
    · rename_i m hzm
      obtain rfl := msgOf_some hzm
      cases hF
      exact ⟨by simp only [List.length_cons, List.length_nil]; decide, okLawFramesT0 _ hq (⟨okay_u32 (argA 0 5 ho rfl rfl), okay_u32 (argA 0 10 ho rfl rfl), okay_u32 (argA 0 11 ho rfl rfl), okay_u64 (argA 0 14 ho rfl rfl), okay_u64 (argA 0 16 ho rfl rfl), okay_u64 (argA 0 19 ho rfl rfl)⟩)⟩
    · cases hF
  · cases hF
theorem sndLawFramesN : Sound Tryz.prog (lookΓ gamLawFramesN) := sound_of _ fun p hp => by
  simp only [gamLawFramesN, List.mem_cons, List.not_mem_nil, or_false] at hp
  rcases hp with rfl | rfl | rfl | rfl | rfl | rfl | rfl
  · exact meetsAnchor11.orNil
  · exact meetsSmall11.orNil
  · exact meetsOf11.orNil
  · exact meetsRefMN.orNil
  · exact meetsMframeN.orNil
  · exact meetsMrightN.orNil
  · exact meetsMopen.orNil
set_option maxHeartbeats 4000000 in
theorem meetsLawFramesN : Meets Tryz.prog 4 lawFramesNF := by
  refine meets_of_awp (Γ := lookΓ gamLawFramesN) (L := fun _ _ => none) sndLawFramesN mixedOrders Tryz.func4 rfl Tryz.call4 ?_
  intro args q r hF hq ho
  unfold lawFramesNF at hF
  split at hF
  · split at hF
    · rename_i m hzm
      obtain rfl := msgOf_some hzm
      cases hF
      exact ⟨by simp only [List.length_cons, List.length_nil]; decide, okLawFramesN0 _ hq⟩
    · cases hF
  · cases hF
theorem sndLawAsks : Sound Tryz.prog (lookΓ gamLawAsks) := sound_of _ fun p hp => by
  simp only [gamLawAsks, List.mem_cons, List.not_mem_nil, or_false] at hp
  rcases hp with rfl | rfl | rfl | rfl | rfl | rfl | rfl | rfl | rfl
  · exact meetsAnchor11.orNil
  · exact meetsIright.orNil
  · exact meetsBalRight.orNil
  · exact meetsAsk.orNil
  · exact meetsOf11.orNil
  · exact meetsRefM.orNil
  · exact meetsMright.orNil
  · exact meetsAlike.orNil
  · exact meetsReply.orNil
set_option maxHeartbeats 4000000 in
theorem meetsLawAsks : Meets Tryz.prog 6 lawAsksF := by
  refine meets_of_awp (Γ := lookΓ gamLawAsks) (L := fun _ _ => none) sndLawAsks mixedOrders Tryz.func6 rfl Tryz.call6 ?_
  intro args q r hF hq ho
  unfold lawAsksF at hF
  split at hF
  · split at hF
    · rename_i x y hzx hzy
      obtain rfl := instOf_some hzx
      obtain rfl := instOf_some hzy
      cases hF
      exact ⟨by simp only [List.length_cons, List.length_nil]; decide, okLawAsks0 _ _ _ _ _ _ _ hq (okay_u32 (argI 3 ho rfl rfl))⟩
    · cases hF
  · cases hF
end Go.Proofs.YtfoabkkkdcicgaaGreatDoor
