/- Contracts by content, their conditions, and that they are met: CmdX. -/
import Derived.Test.YtcokifdgbfbonaaDoorLaxCmdRound
import Derived.Test.YtcokifdgbfbonaaDoorLaxCmdV
import Derived.Test.YtcokifdgbfbonaaDoorLaxCmdC
/- Contracts by content, and the conditions that their code must meet. -/
namespace Go.Proofs.YtcokifdgbfbonaaDoor
set_option linter.unusedVariables false
set_option linter.unusedSimpArgs false
open Go.RowKit
def smallC (c : CmdP) : Prop := c.foot.length ≤ 900000 ∧ c.path.length ≤ 900000
abbrev maxC (c : CmdP) : Prop := c.foot.length ≤ 9223372036854775807 ∧ c.path.length ≤ 9223372036854775807
def smallCB (c : CmdP) : Bool := decide (c.path.length < 200) && decide (c.foot.length < 200)
abbrev rangeC (c : CmdP) : Prop := (0 ≤ c.num ∧ c.num ≤ 18446744073709551615) ∧ (0 ≤ c.rq ∧ c.rq ≤ 18446744073709551615) ∧ (0 ≤ c.n ∧ c.n ≤ 18446744073709551615)
def parseE (l : List UInt8) : Int := inEnd (ctR l 0) (ctE l 0)
def parseC (l : List UInt8) : CmdP := if parseE l = 0 then ctC l 0 else zC
def loopUnlike (c d : CmdP) : LoopInv :=
  { V := Nat
    T := fun i => [(2, .ptr 2 0), (3, .ptr 3 0), (5, .sl (bytesAV (encP c)) .no), (6, .sl (bytesAV (encP d)) .no), (7, .int .i64 (i : Int))]
    B := fun i => [(2, cmdL c), (3, cmdL d)]
    R := fun i => []
    inv := fun i => i ≤ (encP c).length ∧ i ≤ (encP d).length ∧ (encP c).take i = (encP d).take i
    mu := fun i => (encP c).length - i }
def ctakeF : Con
  | [.box [.sl xs .no, .int .i64 e]] => (some (isBytes xs, ⟨.agg (cmdL (ctC (bytesL xs) e)), (some [.sl (bytesAV (ctR (bytesL xs) e)) .no, .int .i64 (ctE (bytesL xs) e)]), none⟩))
  | _ => none
def gamCtake : List (Nat × Con) := [(93, inByteF.orNil), (94, hadF.orNil), (95, inFailF.orNil), (96, fieldsIF.orNil), (69, crightF.orNil), (97, inFailedF.orNil)]
def lpCtake0 (xs : List AV) (e : Int) : Nat → Option LoopPlan := fun _ => none
def inCtake0 (xs : List AV) (e : Int) : Prop := awp [0] (lpCtake0 xs e) (lookΓ gamCtake) Tryd.prog Tryd.f50.ntmps 0 (Tryd.f50.body.getD .skip) (entrySt [.box [.sl xs .no, .int .i64 e]]) (exitQ Tryd.prog Tryd.f50.results.toList [0] ⟨.agg (cmdL (ctC (bytesL xs) e)), (some [.sl (bytesAV (ctR (bytesL xs) e)) .no, .int .i64 (ctE (bytesL xs) e)]), none⟩)
def OkCtake0 : Prop := ∀ (xs : List AV) (e : Int), isBytes xs → inCtake0 xs e
def cbytesF : Con
  | [.val (.agg zcc)] => (match cmdOf zcc with | some c => some (smallC c, ⟨.sl (bytesAV (encP c)) .no, none, none⟩) | _ => none)
  | _ => none
def gamCbytes : List (Nat × Con) := [(71, cputF.orNil), (72, outBytesF.orNil)]
def lpCbytes0 (c : CmdP) : Nat → Option LoopPlan := fun _ => none
def inCbytes0 (c : CmdP) : Prop := awp [] (lpCbytes0 c) (lookΓ gamCbytes) Tryd.prog Tryd.f23.ntmps 0 (Tryd.f23.body.getD .skip) (entrySt [.val (.agg (cmdL c))]) (exitQ Tryd.prog Tryd.f23.results.toList [] ⟨.sl (bytesAV (encP c)) .no, none, none⟩)
def OkCbytes0 : Prop := ∀ (c : CmdP), smallC c → (rangeC c) → inCbytes0 c
def cparseF : Con
  | [.val (.sl xs .no)] => (some (isBytes xs ∧ xs.length ≤ 140737488355328, ⟨.tup [.agg (cmdL (parseC (bytesL xs))), .int .i64 (parseE (bytesL xs))], none, none⟩))
  | _ => none
def gamCparse : List (Nat × Con) := [(49, newInF.orNil), (50, ctakeF.orNil), (91, inEndF.orNil)]
def lpCparse0 (xs : List AV) : Nat → Option LoopPlan := fun _ => none
def inCparse0 (xs : List AV) : Prop := awp [] (lpCparse0 xs) (lookΓ gamCparse) Tryd.prog Tryd.f48.ntmps 0 (Tryd.f48.body.getD .skip) (entrySt [.val (.sl xs .no)]) (exitQ Tryd.prog Tryd.f48.results.toList [] ⟨.tup [.agg (cmdL (parseC (bytesL xs))), .int .i64 (parseE (bytesL xs))], none, none⟩)
def OkCparse0 : Prop := ∀ (xs : List AV), isBytes xs ∧ xs.length ≤ 140737488355328 → inCparse0 xs
def anchor07F : Con
  | [] => (some (True, ⟨.bool true, none, none⟩))
  | _ => none
def gamAnchor07 : List (Nat × Con) := [(23, cbytesF.orNil), (69, crightF.orNil)]
def lpAnchor070  : Nat → Option LoopPlan := fun _ => none
def inAnchor070  : Prop := awp [] (lpAnchor070) (lookΓ gamAnchor07) Tryd.prog Tryd.f19.ntmps 0 (Tryd.f19.body.getD .skip) (entrySt []) (exitQ Tryd.prog Tryd.f19.results.toList [] ⟨.bool true, none, none⟩)
def OkAnchor070 : Prop := True → inAnchor070
def of07F : Con
  | [.val (.agg zcc)] => (match cmdOf zcc with | some c => some (True, ⟨.agg (cmdL c), none, none⟩) | _ => none)
  | _ => none
def gamOf07 : List (Nat × Con) := []
def lpOf070 (c : CmdP) : Nat → Option LoopPlan := fun _ => none
def inOf070 (c : CmdP) : Prop := awp [] (lpOf070 c) (lookΓ gamOf07) Tryd.prog Tryd.f21.ntmps 0 (Tryd.f21.body.getD .skip) (entrySt [.val (.agg (cmdL c))]) (exitQ Tryd.prog Tryd.f21.results.toList [] ⟨.agg (cmdL c), none, none⟩)
def OkOf070 : Prop := ∀ (c : CmdP), True → inOf070 c
def small07F : Con
  | [.val (.agg zcc)] => (match cmdOf zcc with | some c => some (maxC c, ⟨.bool (smallCB c), none, none⟩) | _ => none)
  | _ => none
def gamSmall07 : List (Nat × Con) := []
def lpSmall070 (c : CmdP) : Nat → Option LoopPlan := fun _ => none
def inSmall070 (c : CmdP) : Prop := awp [] (lpSmall070 c) (lookΓ gamSmall07) Tryd.prog Tryd.f20.ntmps 0 (Tryd.f20.body.getD .skip) (entrySt [.val (.agg (cmdL c))]) (exitQ Tryd.prog Tryd.f20.results.toList [] ⟨.bool (smallCB c), none, none⟩)
def OkSmall070 : Prop := ∀ (c : CmdP), maxC c → inSmall070 c
def lawBytesF : Con
  | [.val (.agg zcc), .val (.sl ms .no)] => (match cmdOf zcc with | some c => some (maxC c ∧ isBytes ms ∧ ms.length ≤ 70368744177664, ⟨.bool true, none, none⟩) | _ => none)
  | _ => none
def gamLawBytes : List (Nat × Con) := [(19, anchor07F.orNil), (20, small07F.orNil), (21, of07F.orNil), (22, rrightF.orNil), (23, cbytesF.orNil), (48, cparseF.orNil), (49, newInF.orNil), (50, ctakeF.orNil), (51, inLeftF.orNil)]
def lpLawBytes0 (c : CmdP) (ms : List AV) : Nat → Option LoopPlan := fun _ => none
def inLawBytes0 (c : CmdP) (ms : List AV) : Prop := awp [] (lpLawBytes0 c ms) (lookΓ gamLawBytes) Tryd.prog Tryd.f10.ntmps 0 (Tryd.f10.body.getD .skip) (entrySt [.val (.agg (cmdL c)), .val (.sl ms .no)]) (exitQ Tryd.prog Tryd.f10.results.toList [] ⟨.bool true, none, none⟩)
def OkLawBytes0 : Prop := ∀ (c : CmdP) (ms : List AV), maxC c ∧ isBytes ms ∧ ms.length ≤ 70368744177664 → (rangeC c) → inLawBytes0 c ms
def lawUnlikeF : Con
  | [.val (.agg zcc), .val (.agg zcd)] => (match cmdOf zcc, cmdOf zcd with | some c, some d => some (maxC c ∧ maxC d, ⟨.bool true, none, none⟩) | _, _ => none)
  | _ => none
def gamLawUnlike : List (Nat × Con) := [(19, anchor07F.orNil), (20, small07F.orNil), (21, of07F.orNil), (22, rrightF.orNil), (23, cbytesF.orNil)]
def lpLawUnlike0 (c d : CmdP) : Nat → Option LoopPlan := fun b => bif Nat.beq b 0 then some (.inv [] (loopUnlike c d)) else none
def inLawUnlike0 (c d : CmdP) : Prop := awp [] (lpLawUnlike0 c d) (lookΓ gamLawUnlike) Tryd.prog Tryd.f4.ntmps 0 (Tryd.f4.body.getD .skip) (entrySt [.val (.agg (cmdL c)), .val (.agg (cmdL d))]) (exitQ Tryd.prog Tryd.f4.results.toList [] ⟨.bool true, none, none⟩)
def OkLawUnlike0 : Prop := ∀ (c d : CmdP), maxC c ∧ maxC d → (rangeC c) → (rangeC d) → inLawUnlike0 c d
end Go.Proofs.YtcokifdgbfbonaaDoor
/- What the verification conditions come to: printed by a program of ours (wip/lax/ex/Norm.lean). -/
namespace Go.Proofs.YtcokifdgbfbonaaDoor
set_option linter.unusedVariables false
open Go.RowKit
set_option maxRecDepth 100000
theorem vcCtake0 (xs : (@List.{0} AV)) (e : Int) (h : (tt ∧ T1 ∧ tt ∧ T1 ∧ (T1 ∧ (isBytes xs)) ∧ (∀ (v0 : Int), (∀ (v1 : (v0 = (inByteV (bytesL xs) e))), (∀ (v2 : (@List.{0} AV)), (∀ (v3 : (v2 = (bytesAV (tkRest (bytesL xs) e (1 : Int))))), (∀ (v4 : Int), (∀ (v5 : (v4 = (tkErr (List.length (bytesL xs)) e (1 : Int)))), (T1 ∧ T1 ∧ tt ∧ T1 ∧ (T1 ∧ True) ∧ T1 ∧ T1 ∧ T1 ∧ T1 ∧ tt ∧ T1 ∧ tt ∧ T1 ∧ T1 ∧ (bif (Bool.not (okK (Go.IntKind.wrap Go.IntKind.i64 v0))) then (tt ∧ T1 ∧ (T1 ∧ True) ∧ (∀ (v6 : (@List.{0} AV)), (∀ (v7 : (v6 = v2)), (∀ (v8 : Int), (∀ (v9 : (v8 = (inFail v4 (22 : Int)))), (tt ∧ T1 ∧ T1 ∧ tt ∧ (T1 ∧ (isBytes v6) ∧ ((hS (Go.IntKind.wrap Go.IntKind.i64 v0)) = (hS (Go.IntKind.wrap Go.IntKind.i64 v0))) ∧ ((hR (Go.IntKind.wrap Go.IntKind.i64 v0)) = (hR (Go.IntKind.wrap Go.IntKind.i64 v0))) ∧ ((hP (Go.IntKind.wrap Go.IntKind.i64 v0)) = (hP (Go.IntKind.wrap Go.IntKind.i64 v0))) ∧ ((hM (Go.IntKind.wrap Go.IntKind.i64 v0)) = (hM (Go.IntKind.wrap Go.IntKind.i64 v0))) ∧ ((hN (Go.IntKind.wrap Go.IntKind.i64 v0)) = (hN (Go.IntKind.wrap Go.IntKind.i64 v0))) ∧ ((hT (Go.IntKind.wrap Go.IntKind.i64 v0)) = (hT (Go.IntKind.wrap Go.IntKind.i64 v0)))) ∧ T1 ∧ tt ∧ tt ∧ tt ∧ (T1 ∧ ((List.length (vFoot (bytesL v6) v8 (Go.IntKind.wrap Go.IntKind.i64 v0))) ≤ 900000) ∧ ((List.length (vPath (bytesL v6) v8 (Go.IntKind.wrap Go.IntKind.i64 v0))) ≤ 900000)) ∧ T1 ∧ (bif (Bool.not (rightC (CmdP.mk (Go.IntKind.wrap Go.IntKind.i64 v0) (vNum (bytesL v6) v8 (Go.IntKind.wrap Go.IntKind.i64 v0)) (vFoot (bytesL v6) v8 (Go.IntKind.wrap Go.IntKind.i64 v0)) (vRq (bytesL v6) v8 (Go.IntKind.wrap Go.IntKind.i64 v0)) (vPath (bytesL v6) v8 (Go.IntKind.wrap Go.IntKind.i64 v0)) (vMode (bytesL v6) v8 (Go.IntKind.wrap Go.IntKind.i64 v0)) (vN (bytesL v6) v8 (Go.IntKind.wrap Go.IntKind.i64 v0)) (vTime (bytesL v6) v8 (Go.IntKind.wrap Go.IntKind.i64 v0))))) then (tt ∧ T1 ∧ (T1 ∧ True) ∧ (∀ (v10 : (@List.{0} AV)), (∀ (v11 : (v10 = (bytesAV (fR (bytesL v6) v8 (Go.IntKind.wrap Go.IntKind.i64 v0))))), (∀ (v12 : Int), (∀ (v13 : (v12 = (inFail (fE (bytesL v6) v8 (Go.IntKind.wrap Go.IntKind.i64 v0)) (10 : Int)))), (tt ∧ T1 ∧ (T1 ∧ True) ∧ (∀ (v14 : (@List.{0} AV)), (∀ (v15 : (v14 = v10)), (∀ (v16 : Int), (∀ (v17 : (v16 = v12)), (bif (@Decidable.decide (@Ne.{1} Int v12 (0 : Int)) (@instDecidableNot (v12 = (0 : Int)) (@Int.instDecidableEq v12 (0 : Int)))) then (tt ∧ T1 ∧ tt ∧ tt ∧ tt ∧ (((bytesAV (ctR (bytesL xs) e)) = v14) ∧ ((ctE (bytesL xs) e) = v16) ∧ ((CmdP.k (ctC (bytesL xs) e)) = (0 : Int)) ∧ ((CmdP.num (ctC (bytesL xs) e)) = (0 : Int)) ∧ ((CmdP.foot (ctC (bytesL xs) e)) = (@List.nil.{0} UInt8)) ∧ ((CmdP.rq (ctC (bytesL xs) e)) = (0 : Int)) ∧ ((CmdP.path (ctC (bytesL xs) e)) = (@List.nil.{0} UInt8)) ∧ ((CmdP.mode (ctC (bytesL xs) e)) = (0 : Int)) ∧ ((CmdP.n (ctC (bytesL xs) e)) = (0 : Int)) ∧ ((CmdP.time (ctC (bytesL xs) e)) = (0 : Int)) ∧ True) ∧ tt) else (tt ∧ tt ∧ tt ∧ tt ∧ tt ∧ (((bytesAV (ctR (bytesL xs) e)) = v14) ∧ ((ctE (bytesL xs) e) = v16) ∧ ((CmdP.k (ctC (bytesL xs) e)) = (Go.IntKind.wrap Go.IntKind.i64 v0)) ∧ ((CmdP.num (ctC (bytesL xs) e)) = (vNum (bytesL v6) v8 (Go.IntKind.wrap Go.IntKind.i64 v0))) ∧ ((CmdP.foot (ctC (bytesL xs) e)) = (vFoot (bytesL v6) v8 (Go.IntKind.wrap Go.IntKind.i64 v0))) ∧ ((CmdP.rq (ctC (bytesL xs) e)) = (vRq (bytesL v6) v8 (Go.IntKind.wrap Go.IntKind.i64 v0))) ∧ ((CmdP.path (ctC (bytesL xs) e)) = (vPath (bytesL v6) v8 (Go.IntKind.wrap Go.IntKind.i64 v0))) ∧ ((CmdP.mode (ctC (bytesL xs) e)) = (vMode (bytesL v6) v8 (Go.IntKind.wrap Go.IntKind.i64 v0))) ∧ ((CmdP.n (ctC (bytesL xs) e)) = (vN (bytesL v6) v8 (Go.IntKind.wrap Go.IntKind.i64 v0))) ∧ ((CmdP.time (ctC (bytesL xs) e)) = (vTime (bytesL v6) v8 (Go.IntKind.wrap Go.IntKind.i64 v0))) ∧ True) ∧ tt)))))))))))) else (tt ∧ T1 ∧ (T1 ∧ True) ∧ (∀ (v10 : (@List.{0} AV)), (∀ (v11 : (v10 = (bytesAV (fR (bytesL v6) v8 (Go.IntKind.wrap Go.IntKind.i64 v0))))), (∀ (v12 : Int), (∀ (v13 : (v12 = (fE (bytesL v6) v8 (Go.IntKind.wrap Go.IntKind.i64 v0)))), (bif (@Decidable.decide (@Ne.{1} Int (fE (bytesL v6) v8 (Go.IntKind.wrap Go.IntKind.i64 v0)) (0 : Int)) (@instDecidableNot ((fE (bytesL v6) v8 (Go.IntKind.wrap Go.IntKind.i64 v0)) = (0 : Int)) (@Int.instDecidableEq (fE (bytesL v6) v8 (Go.IntKind.wrap Go.IntKind.i64 v0)) (0 : Int)))) then (tt ∧ T1 ∧ tt ∧ tt ∧ tt ∧ (((bytesAV (ctR (bytesL xs) e)) = v10) ∧ ((ctE (bytesL xs) e) = v12) ∧ ((CmdP.k (ctC (bytesL xs) e)) = (0 : Int)) ∧ ((CmdP.num (ctC (bytesL xs) e)) = (0 : Int)) ∧ ((CmdP.foot (ctC (bytesL xs) e)) = (@List.nil.{0} UInt8)) ∧ ((CmdP.rq (ctC (bytesL xs) e)) = (0 : Int)) ∧ ((CmdP.path (ctC (bytesL xs) e)) = (@List.nil.{0} UInt8)) ∧ ((CmdP.mode (ctC (bytesL xs) e)) = (0 : Int)) ∧ ((CmdP.n (ctC (bytesL xs) e)) = (0 : Int)) ∧ ((CmdP.time (ctC (bytesL xs) e)) = (0 : Int)) ∧ True) ∧ tt) else (tt ∧ tt ∧ tt ∧ tt ∧ tt ∧ (((bytesAV (ctR (bytesL xs) e)) = v10) ∧ ((ctE (bytesL xs) e) = v12) ∧ ((CmdP.k (ctC (bytesL xs) e)) = (Go.IntKind.wrap Go.IntKind.i64 v0)) ∧ ((CmdP.num (ctC (bytesL xs) e)) = (vNum (bytesL v6) v8 (Go.IntKind.wrap Go.IntKind.i64 v0))) ∧ ((CmdP.foot (ctC (bytesL xs) e)) = (vFoot (bytesL v6) v8 (Go.IntKind.wrap Go.IntKind.i64 v0))) ∧ ((CmdP.rq (ctC (bytesL xs) e)) = (vRq (bytesL v6) v8 (Go.IntKind.wrap Go.IntKind.i64 v0))) ∧ ((CmdP.path (ctC (bytesL xs) e)) = (vPath (bytesL v6) v8 (Go.IntKind.wrap Go.IntKind.i64 v0))) ∧ ((CmdP.mode (ctC (bytesL xs) e)) = (vMode (bytesL v6) v8 (Go.IntKind.wrap Go.IntKind.i64 v0))) ∧ ((CmdP.n (ctC (bytesL xs) e)) = (vN (bytesL v6) v8 (Go.IntKind.wrap Go.IntKind.i64 v0))) ∧ ((CmdP.time (ctC (bytesL xs) e)) = (vTime (bytesL v6) v8 (Go.IntKind.wrap Go.IntKind.i64 v0))) ∧ True) ∧ tt)))))))))))))) else (tt ∧ T1 ∧ T1 ∧ tt ∧ (T1 ∧ (isBytes v2) ∧ ((hS (Go.IntKind.wrap Go.IntKind.i64 v0)) = (hS (Go.IntKind.wrap Go.IntKind.i64 v0))) ∧ ((hR (Go.IntKind.wrap Go.IntKind.i64 v0)) = (hR (Go.IntKind.wrap Go.IntKind.i64 v0))) ∧ ((hP (Go.IntKind.wrap Go.IntKind.i64 v0)) = (hP (Go.IntKind.wrap Go.IntKind.i64 v0))) ∧ ((hM (Go.IntKind.wrap Go.IntKind.i64 v0)) = (hM (Go.IntKind.wrap Go.IntKind.i64 v0))) ∧ ((hN (Go.IntKind.wrap Go.IntKind.i64 v0)) = (hN (Go.IntKind.wrap Go.IntKind.i64 v0))) ∧ ((hT (Go.IntKind.wrap Go.IntKind.i64 v0)) = (hT (Go.IntKind.wrap Go.IntKind.i64 v0)))) ∧ T1 ∧ tt ∧ tt ∧ tt ∧ (T1 ∧ ((List.length (vFoot (bytesL v2) v4 (Go.IntKind.wrap Go.IntKind.i64 v0))) ≤ 900000) ∧ ((List.length (vPath (bytesL v2) v4 (Go.IntKind.wrap Go.IntKind.i64 v0))) ≤ 900000)) ∧ T1 ∧ (bif (Bool.not (rightC (CmdP.mk (Go.IntKind.wrap Go.IntKind.i64 v0) (vNum (bytesL v2) v4 (Go.IntKind.wrap Go.IntKind.i64 v0)) (vFoot (bytesL v2) v4 (Go.IntKind.wrap Go.IntKind.i64 v0)) (vRq (bytesL v2) v4 (Go.IntKind.wrap Go.IntKind.i64 v0)) (vPath (bytesL v2) v4 (Go.IntKind.wrap Go.IntKind.i64 v0)) (vMode (bytesL v2) v4 (Go.IntKind.wrap Go.IntKind.i64 v0)) (vN (bytesL v2) v4 (Go.IntKind.wrap Go.IntKind.i64 v0)) (vTime (bytesL v2) v4 (Go.IntKind.wrap Go.IntKind.i64 v0))))) then (tt ∧ T1 ∧ (T1 ∧ True) ∧ (∀ (v6 : (@List.{0} AV)), (∀ (v7 : (v6 = (bytesAV (fR (bytesL v2) v4 (Go.IntKind.wrap Go.IntKind.i64 v0))))), (∀ (v8 : Int), (∀ (v9 : (v8 = (inFail (fE (bytesL v2) v4 (Go.IntKind.wrap Go.IntKind.i64 v0)) (10 : Int)))), (tt ∧ T1 ∧ (T1 ∧ True) ∧ (∀ (v10 : (@List.{0} AV)), (∀ (v11 : (v10 = v6)), (∀ (v12 : Int), (∀ (v13 : (v12 = v8)), (bif (@Decidable.decide (@Ne.{1} Int v8 (0 : Int)) (@instDecidableNot (v8 = (0 : Int)) (@Int.instDecidableEq v8 (0 : Int)))) then (tt ∧ T1 ∧ tt ∧ tt ∧ tt ∧ (((bytesAV (ctR (bytesL xs) e)) = v10) ∧ ((ctE (bytesL xs) e) = v12) ∧ ((CmdP.k (ctC (bytesL xs) e)) = (0 : Int)) ∧ ((CmdP.num (ctC (bytesL xs) e)) = (0 : Int)) ∧ ((CmdP.foot (ctC (bytesL xs) e)) = (@List.nil.{0} UInt8)) ∧ ((CmdP.rq (ctC (bytesL xs) e)) = (0 : Int)) ∧ ((CmdP.path (ctC (bytesL xs) e)) = (@List.nil.{0} UInt8)) ∧ ((CmdP.mode (ctC (bytesL xs) e)) = (0 : Int)) ∧ ((CmdP.n (ctC (bytesL xs) e)) = (0 : Int)) ∧ ((CmdP.time (ctC (bytesL xs) e)) = (0 : Int)) ∧ True) ∧ tt) else (tt ∧ tt ∧ tt ∧ tt ∧ tt ∧ (((bytesAV (ctR (bytesL xs) e)) = v10) ∧ ((ctE (bytesL xs) e) = v12) ∧ ((CmdP.k (ctC (bytesL xs) e)) = (Go.IntKind.wrap Go.IntKind.i64 v0)) ∧ ((CmdP.num (ctC (bytesL xs) e)) = (vNum (bytesL v2) v4 (Go.IntKind.wrap Go.IntKind.i64 v0))) ∧ ((CmdP.foot (ctC (bytesL xs) e)) = (vFoot (bytesL v2) v4 (Go.IntKind.wrap Go.IntKind.i64 v0))) ∧ ((CmdP.rq (ctC (bytesL xs) e)) = (vRq (bytesL v2) v4 (Go.IntKind.wrap Go.IntKind.i64 v0))) ∧ ((CmdP.path (ctC (bytesL xs) e)) = (vPath (bytesL v2) v4 (Go.IntKind.wrap Go.IntKind.i64 v0))) ∧ ((CmdP.mode (ctC (bytesL xs) e)) = (vMode (bytesL v2) v4 (Go.IntKind.wrap Go.IntKind.i64 v0))) ∧ ((CmdP.n (ctC (bytesL xs) e)) = (vN (bytesL v2) v4 (Go.IntKind.wrap Go.IntKind.i64 v0))) ∧ ((CmdP.time (ctC (bytesL xs) e)) = (vTime (bytesL v2) v4 (Go.IntKind.wrap Go.IntKind.i64 v0))) ∧ True) ∧ tt)))))))))))) else (tt ∧ T1 ∧ (T1 ∧ True) ∧ (∀ (v6 : (@List.{0} AV)), (∀ (v7 : (v6 = (bytesAV (fR (bytesL v2) v4 (Go.IntKind.wrap Go.IntKind.i64 v0))))), (∀ (v8 : Int), (∀ (v9 : (v8 = (fE (bytesL v2) v4 (Go.IntKind.wrap Go.IntKind.i64 v0)))), (bif (@Decidable.decide (@Ne.{1} Int (fE (bytesL v2) v4 (Go.IntKind.wrap Go.IntKind.i64 v0)) (0 : Int)) (@instDecidableNot ((fE (bytesL v2) v4 (Go.IntKind.wrap Go.IntKind.i64 v0)) = (0 : Int)) (@Int.instDecidableEq (fE (bytesL v2) v4 (Go.IntKind.wrap Go.IntKind.i64 v0)) (0 : Int)))) then (tt ∧ T1 ∧ tt ∧ tt ∧ tt ∧ (((bytesAV (ctR (bytesL xs) e)) = v6) ∧ ((ctE (bytesL xs) e) = v8) ∧ ((CmdP.k (ctC (bytesL xs) e)) = (0 : Int)) ∧ ((CmdP.num (ctC (bytesL xs) e)) = (0 : Int)) ∧ ((CmdP.foot (ctC (bytesL xs) e)) = (@List.nil.{0} UInt8)) ∧ ((CmdP.rq (ctC (bytesL xs) e)) = (0 : Int)) ∧ ((CmdP.path (ctC (bytesL xs) e)) = (@List.nil.{0} UInt8)) ∧ ((CmdP.mode (ctC (bytesL xs) e)) = (0 : Int)) ∧ ((CmdP.n (ctC (bytesL xs) e)) = (0 : Int)) ∧ ((CmdP.time (ctC (bytesL xs) e)) = (0 : Int)) ∧ True) ∧ tt) else (tt ∧ tt ∧ tt ∧ tt ∧ tt ∧ (((bytesAV (ctR (bytesL xs) e)) = v6) ∧ ((ctE (bytesL xs) e) = v8) ∧ ((CmdP.k (ctC (bytesL xs) e)) = (Go.IntKind.wrap Go.IntKind.i64 v0)) ∧ ((CmdP.num (ctC (bytesL xs) e)) = (vNum (bytesL v2) v4 (Go.IntKind.wrap Go.IntKind.i64 v0))) ∧ ((CmdP.foot (ctC (bytesL xs) e)) = (vFoot (bytesL v2) v4 (Go.IntKind.wrap Go.IntKind.i64 v0))) ∧ ((CmdP.rq (ctC (bytesL xs) e)) = (vRq (bytesL v2) v4 (Go.IntKind.wrap Go.IntKind.i64 v0))) ∧ ((CmdP.path (ctC (bytesL xs) e)) = (vPath (bytesL v2) v4 (Go.IntKind.wrap Go.IntKind.i64 v0))) ∧ ((CmdP.mode (ctC (bytesL xs) e)) = (vMode (bytesL v2) v4 (Go.IntKind.wrap Go.IntKind.i64 v0))) ∧ ((CmdP.n (ctC (bytesL xs) e)) = (vN (bytesL v2) v4 (Go.IntKind.wrap Go.IntKind.i64 v0))) ∧ ((CmdP.time (ctC (bytesL xs) e)) = (vTime (bytesL v2) v4 (Go.IntKind.wrap Go.IntKind.i64 v0))) ∧ True) ∧ tt))))))))))))))))))) : inCtake0 xs e :=
  Eq.mp (show _ = _ by kernel_rfl) h
theorem vcCbytes0 (c : CmdP) (h : (tt ∧ T1 ∧ T1 ∧ tt ∧ T1 ∧ T1 ∧ T1 ∧ tt ∧ tt ∧ T1 ∧ (((@Eq.{1} Nat 0 0) ∧ True) ∧ (((List.length (CmdP.foot c)) ≤ 900000) ∧ ((List.length (CmdP.path c)) ≤ 900000)) ∧ (isBytes (@List.nil.{0} AV)) ∧ (2000000 ≤ 140737488355328)) ∧ (∀ (v0 : (@List.{0} AV)), (∀ (v1 : (v0 = (bytesAV (@catL UInt8 (@List.nil.{0} UInt8) (encP c))))), (∀ (v2 : Nat), (∀ (v3 : (v2 = (List.length (bytesAV (@catL UInt8 (@List.nil.{0} UInt8) (encP c)))))), (tt ∧ T1 ∧ (((v2 = (List.length v0)) ∧ True) ∧ (isBytes v0) ∧ ((List.length v0) ≤ 140737488355328)) ∧ (∀ (v4 : (@List.{0} AV)), (∀ (v5 : (v4 = v0)), (∀ (v6 : (@List.{0} AV)), (∀ (v7 : (v6 = v0)), (∀ (v8 : Nat), (∀ (v9 : (v8 = (List.length v0))), (T1 ∧ tt ∧ tt ∧ (((bytesAV (encP c)) = v4) ∧ True) ∧ tt)))))))))))))) : inCbytes0 c :=
  Eq.mp (show _ = _ by kernel_rfl) h
theorem vcCparse0 (xs : (@List.{0} AV)) (h : (tt ∧ T1 ∧ T1 ∧ tt ∧ T1 ∧ (T1 ∧ (isBytes xs) ∧ ((List.length xs) ≤ 140737488355328)) ∧ (∀ (v0 : (@List.{0} AV)), (∀ (v1 : (v0 = xs)), (∀ (v2 : Int), (∀ (v3 : (v2 = (0 : Int))), (T1 ∧ tt ∧ T1 ∧ (T1 ∧ (isBytes v0)) ∧ T1 ∧ tt ∧ tt ∧ T1 ∧ (T1 ∧ (isBytes (bytesAV (ctR (bytesL v0) v2)))) ∧ (∀ (v4 : Int), (∀ (v5 : (v4 = (inEnd (bytesL (bytesAV (ctR (bytesL v0) v2))) (ctE (bytesL v0) v2)))), (∀ (v6 : (@List.{0} AV)), (∀ (v7 : (v6 = (bytesAV (ctR (bytesL v0) v2)))), (∀ (v8 : Int), (∀ (v9 : (v8 = (ctE (bytesL v0) v2))), (T1 ∧ tt ∧ T1 ∧ T1 ∧ (bif (v4 != (0 : Int)) then (tt ∧ T1 ∧ T1 ∧ tt ∧ T1 ∧ tt ∧ tt ∧ (((CmdP.k (parseC (bytesL xs))) = (0 : Int)) ∧ ((CmdP.num (parseC (bytesL xs))) = (0 : Int)) ∧ ((CmdP.foot (parseC (bytesL xs))) = (@List.nil.{0} UInt8)) ∧ ((CmdP.rq (parseC (bytesL xs))) = (0 : Int)) ∧ ((CmdP.path (parseC (bytesL xs))) = (@List.nil.{0} UInt8)) ∧ ((CmdP.mode (parseC (bytesL xs))) = (0 : Int)) ∧ ((CmdP.n (parseC (bytesL xs))) = (0 : Int)) ∧ ((CmdP.time (parseC (bytesL xs))) = (0 : Int)) ∧ ((parseE (bytesL xs)) = v4) ∧ True) ∧ tt) else (tt ∧ tt ∧ tt ∧ T1 ∧ tt ∧ tt ∧ (((CmdP.k (parseC (bytesL xs))) = (CmdP.k (ctC (bytesL v0) v2))) ∧ ((CmdP.num (parseC (bytesL xs))) = (CmdP.num (ctC (bytesL v0) v2))) ∧ ((CmdP.foot (parseC (bytesL xs))) = (CmdP.foot (ctC (bytesL v0) v2))) ∧ ((CmdP.rq (parseC (bytesL xs))) = (CmdP.rq (ctC (bytesL v0) v2))) ∧ ((CmdP.path (parseC (bytesL xs))) = (CmdP.path (ctC (bytesL v0) v2))) ∧ ((CmdP.mode (parseC (bytesL xs))) = (CmdP.mode (ctC (bytesL v0) v2))) ∧ ((CmdP.n (parseC (bytesL xs))) = (CmdP.n (ctC (bytesL v0) v2))) ∧ ((CmdP.time (parseC (bytesL xs))) = (CmdP.time (ctC (bytesL v0) v2))) ∧ ((parseE (bytesL xs)) = (0 : Int)) ∧ True) ∧ tt)))))))))))))))) : inCparse0 xs :=
  Eq.mp (show _ = _ by kernel_rfl) h
theorem vcAnchor070 (h : (tt ∧ T1 ∧ tt ∧ T1 ∧ (T1 ∧ (smallC (CmdP.mk (0 : Int) (0 : Int) (@List.nil.{0} UInt8) (0 : Int) (@List.nil.{0} UInt8) (0 : Int) (0 : Int) (0 : Int)))) ∧ (∀ (v0 : (@List.{0} AV)), (∀ (v1 : (v0 = (bytesAV (encP (CmdP.mk (0 : Int) (0 : Int) (@List.nil.{0} UInt8) (0 : Int) (@List.nil.{0} UInt8) (0 : Int) (0 : Int) (0 : Int)))))), (T1 ∧ tt ∧ T1 ∧ T1 ∧ T1 ∧ T1 ∧ (bif ((@Nat.cast Int _ (List.length v0)) == (1 : Int)) then (T1 ∧ (((0 : Int) ≤ (0 : Int)) ∧ ((0 : Int) < (@Nat.cast Int _ (List.length v0))) ∧ (okElem 1 v0 0)) ∧ (okRead [(Kd.int Go.IntKind.u8)] (elemAt v0 0) 0) ∧ T1 ∧ T1 ∧ T1 ∧ (bif ((rdInt (elemAt v0 0) 0) == (0 : Int)) then (T1 ∧ (T1 ∧ (0 ≤ 900000) ∧ (0 ≤ 900000)) ∧ T1 ∧ T1 ∧ T1 ∧ (T1 ∧ (0 ≤ 900000) ∧ (0 ≤ 900000)) ∧ T1 ∧ T1 ∧ T1 ∧ tt ∧ tt ∧ (tt ∧ True) ∧ tt) else ((false = false) ∧ T1 ∧ (false = false) ∧ T1 ∧ tt ∧ tt ∧ ((true = false) ∧ True) ∧ tt))) else ((false = false) ∧ T1 ∧ (false = false) ∧ T1 ∧ (false = false) ∧ T1 ∧ tt ∧ tt ∧ ((true = false) ∧ True) ∧ tt))))))) : inAnchor070 :=
  Eq.mp (show _ = _ by kernel_rfl) h
theorem vcOf070 (c : CmdP) (h : (tt ∧ T1 ∧ T1 ∧ tt ∧ T1 ∧ tt ∧ T1 ∧ T1 ∧ tt ∧ T1 ∧ T1 ∧ tt ∧ T1 ∧ tt ∧ T1 ∧ tt ∧ T1 ∧ tt ∧ T1 ∧ tt ∧ T1 ∧ tt ∧ T1 ∧ tt ∧ tt ∧ tt ∧ (((CmdP.k c) = (CmdP.k c)) ∧ ((CmdP.num c) = (CmdP.num c)) ∧ ((CmdP.foot c) = (CmdP.foot c)) ∧ ((CmdP.rq c) = (CmdP.rq c)) ∧ ((CmdP.path c) = (CmdP.path c)) ∧ ((CmdP.mode c) = (CmdP.mode c)) ∧ ((CmdP.n c) = (CmdP.n c)) ∧ ((CmdP.time c) = (CmdP.time c)) ∧ True) ∧ tt)) : inOf070 c :=
  Eq.mp (show _ = _ by kernel_rfl) h
theorem vcSmall070 (c : CmdP) (h : (tt ∧ T1 ∧ T1 ∧ tt ∧ T1 ∧ tt ∧ T1 ∧ T1 ∧ T1 ∧ (bif (decide ((@Nat.cast Int _ (List.length (CmdP.path c))) < (200 : Int))) then (T1 ∧ T1 ∧ tt ∧ T1 ∧ T1 ∧ T1 ∧ T1 ∧ tt ∧ tt ∧ (((smallCB c) = (decide ((@Nat.cast Int _ (List.length (CmdP.foot c))) < (200 : Int)))) ∧ True) ∧ tt) else ((false = false) ∧ T1 ∧ tt ∧ tt ∧ (((smallCB c) = false) ∧ True) ∧ tt)))) : inSmall070 c :=
  Eq.mp (show _ = _ by kernel_rfl) h
theorem vcLawBytes0 (c : CmdP) (ms : (@List.{0} AV)) (h : (tt ∧ T1 ∧ T1 ∧ tt ∧ (T1 ∧ True) ∧ T1 ∧ tt ∧ tt ∧ (T1 ∧ (maxC c)) ∧ T1 ∧ (bif (Bool.not (smallCB c)) then (tt ∧ T1 ∧ tt ∧ tt ∧ (tt ∧ True) ∧ tt) else (tt ∧ tt ∧ T1 ∧ tt ∧ tt ∧ tt ∧ (T1 ∧ True) ∧ (T1 ∧ ((List.length (CmdP.foot c)) ≤ 900000) ∧ ((List.length (CmdP.path c)) ≤ 900000)) ∧ T1 ∧ (bif (Bool.not (rightC c)) then (tt ∧ T1 ∧ tt ∧ tt ∧ tt ∧ (T1 ∧ (smallC c)) ∧ (∀ (v0 : (@List.{0} AV)), (∀ (v1 : (v0 = (bytesAV (encP c)))), (T1 ∧ tt ∧ T1 ∧ (T1 ∧ (isBytes v0) ∧ ((List.length v0) ≤ 140737488355328)) ∧ T1 ∧ T1 ∧ T1 ∧ T1 ∧ tt ∧ T1 ∧ tt ∧ T1 ∧ T1 ∧ ((@Eq.{1} Nat 0 0) ∧ (((0 + (List.length v0)) * 1) ≤ 140737488355328) ∧ ((0 + (List.length v0)) ≤ 9223372036854775807) ∧ (okWidth 1 (@List.nil.{0} AV)) ∧ (okWidth 1 v0)) ∧ T1 ∧ (((0 + (List.length v0)) = (List.length (@catL AV (@List.nil.{0} AV) v0))) ∧ ((((List.length (@catL AV (@List.nil.{0} AV) v0)) + (List.length ms)) * 1) ≤ 140737488355328) ∧ (((List.length (@catL AV (@List.nil.{0} AV) v0)) + (List.length ms)) ≤ 9223372036854775807) ∧ (okWidth 1 (@catL AV (@List.nil.{0} AV) v0)) ∧ (okWidth 1 ms)) ∧ (T1 ∧ (isBytes (@catL AV (@catL AV (@List.nil.{0} AV) v0) ms)) ∧ ((List.length (@catL AV (@catL AV (@List.nil.{0} AV) v0) ms)) ≤ 140737488355328)) ∧ (∀ (v2 : (@List.{0} AV)), (∀ (v3 : (v2 = (@catL AV (@catL AV (@List.nil.{0} AV) v0) ms))), (∀ (v4 : Int), (∀ (v5 : (v4 = (0 : Int))), (T1 ∧ tt ∧ T1 ∧ T1 ∧ T1 ∧ (bif ((parseE (bytesL v0)) == (0 : Int)) then (tt ∧ tt ∧ T1 ∧ T1 ∧ T1 ∧ (bif (Bool.and ((CmdP.k (parseC (bytesL v0))) == (0 : Int)) (Bool.and ((CmdP.num (parseC (bytesL v0))) == (0 : Int)) (Bool.and (@BEq.beq.{0} (List UInt8) (@List.instBEq.{0} UInt8 (@instBEqOfDecidableEq.{0} UInt8 instDecidableEqUInt8)) (CmdP.foot (parseC (bytesL v0))) (@List.nil.{0} UInt8)) (Bool.and ((CmdP.rq (parseC (bytesL v0))) == (0 : Int)) (Bool.and (@BEq.beq.{0} (List UInt8) (@List.instBEq.{0} UInt8 (@instBEqOfDecidableEq.{0} UInt8 instDecidableEqUInt8)) (CmdP.path (parseC (bytesL v0))) (@List.nil.{0} UInt8)) (Bool.and ((CmdP.mode (parseC (bytesL v0))) == (0 : Int)) (Bool.and ((CmdP.n (parseC (bytesL v0))) == (0 : Int)) (Bool.and ((CmdP.time (parseC (bytesL v0))) == (0 : Int)) true)))))))) then (T1 ∧ (T1 ∧ (isBytes v2)) ∧ tt ∧ T1 ∧ T1 ∧ T1 ∧ (bif (Bool.and ((CmdP.k (ctC (bytesL v2) v4)) == (0 : Int)) (Bool.and ((CmdP.num (ctC (bytesL v2) v4)) == (0 : Int)) (Bool.and (@BEq.beq.{0} (List UInt8) (@List.instBEq.{0} UInt8 (@instBEqOfDecidableEq.{0} UInt8 instDecidableEqUInt8)) (CmdP.foot (ctC (bytesL v2) v4)) (@List.nil.{0} UInt8)) (Bool.and ((CmdP.rq (ctC (bytesL v2) v4)) == (0 : Int)) (Bool.and (@BEq.beq.{0} (List UInt8) (@List.instBEq.{0} UInt8 (@instBEqOfDecidableEq.{0} UInt8 instDecidableEqUInt8)) (CmdP.path (ctC (bytesL v2) v4)) (@List.nil.{0} UInt8)) (Bool.and ((CmdP.mode (ctC (bytesL v2) v4)) == (0 : Int)) (Bool.and ((CmdP.n (ctC (bytesL v2) v4)) == (0 : Int)) (Bool.and ((CmdP.time (ctC (bytesL v2) v4)) == (0 : Int)) true)))))))) then (T1 ∧ (T1 ∧ (isBytes (bytesAV (ctR (bytesL v2) v4)))) ∧ (∀ (v6 : Int), (∀ (v7 : (v6 = (inLeft (bytesL (bytesAV (ctR (bytesL v2) v4))) (ctE (bytesL v2) v4)))), (∀ (v8 : (@List.{0} AV)), (∀ (v9 : (v8 = (bytesAV (ctR (bytesL v2) v4)))), (∀ (v10 : Int), (∀ (v11 : (v10 = (ctE (bytesL v2) v4))), (T1 ∧ T1 ∧ T1 ∧ T1 ∧ T1 ∧ tt ∧ tt ∧ tt ∧ ((true = (v6 == (@Nat.cast Int _ (List.length ms)))) ∧ True) ∧ tt)))))))) else ((false = false) ∧ T1 ∧ tt ∧ tt ∧ tt ∧ ((true = false) ∧ True) ∧ tt))) else ((false = false) ∧ T1 ∧ (false = false) ∧ T1 ∧ tt ∧ tt ∧ tt ∧ ((true = false) ∧ True) ∧ tt))) else ((false = false) ∧ T1 ∧ (false = false) ∧ T1 ∧ (false = false) ∧ T1 ∧ tt ∧ tt ∧ tt ∧ ((true = false) ∧ True) ∧ tt))))))))))) else (tt ∧ tt ∧ (T1 ∧ (smallC c)) ∧ (∀ (v0 : (@List.{0} AV)), (∀ (v1 : (v0 = (bytesAV (encP c)))), (T1 ∧ tt ∧ T1 ∧ (T1 ∧ (isBytes v0) ∧ ((List.length v0) ≤ 140737488355328)) ∧ T1 ∧ T1 ∧ T1 ∧ T1 ∧ tt ∧ T1 ∧ tt ∧ T1 ∧ T1 ∧ ((@Eq.{1} Nat 0 0) ∧ (((0 + (List.length v0)) * 1) ≤ 140737488355328) ∧ ((0 + (List.length v0)) ≤ 9223372036854775807) ∧ (okWidth 1 (@List.nil.{0} AV)) ∧ (okWidth 1 v0)) ∧ T1 ∧ (((0 + (List.length v0)) = (List.length (@catL AV (@List.nil.{0} AV) v0))) ∧ ((((List.length (@catL AV (@List.nil.{0} AV) v0)) + (List.length ms)) * 1) ≤ 140737488355328) ∧ (((List.length (@catL AV (@List.nil.{0} AV) v0)) + (List.length ms)) ≤ 9223372036854775807) ∧ (okWidth 1 (@catL AV (@List.nil.{0} AV) v0)) ∧ (okWidth 1 ms)) ∧ (T1 ∧ (isBytes (@catL AV (@catL AV (@List.nil.{0} AV) v0) ms)) ∧ ((List.length (@catL AV (@catL AV (@List.nil.{0} AV) v0) ms)) ≤ 140737488355328)) ∧ (∀ (v2 : (@List.{0} AV)), (∀ (v3 : (v2 = (@catL AV (@catL AV (@List.nil.{0} AV) v0) ms))), (∀ (v4 : Int), (∀ (v5 : (v4 = (0 : Int))), (T1 ∧ tt ∧ T1 ∧ T1 ∧ T1 ∧ (bif ((parseE (bytesL v0)) == (0 : Int)) then (tt ∧ tt ∧ T1 ∧ T1 ∧ T1 ∧ (bif (Bool.and ((CmdP.k (parseC (bytesL v0))) == (CmdP.k c)) (Bool.and ((CmdP.num (parseC (bytesL v0))) == (CmdP.num c)) (Bool.and (@BEq.beq.{0} (List UInt8) (@List.instBEq.{0} UInt8 (@instBEqOfDecidableEq.{0} UInt8 instDecidableEqUInt8)) (CmdP.foot (parseC (bytesL v0))) (CmdP.foot c)) (Bool.and ((CmdP.rq (parseC (bytesL v0))) == (CmdP.rq c)) (Bool.and (@BEq.beq.{0} (List UInt8) (@List.instBEq.{0} UInt8 (@instBEqOfDecidableEq.{0} UInt8 instDecidableEqUInt8)) (CmdP.path (parseC (bytesL v0))) (CmdP.path c)) (Bool.and ((CmdP.mode (parseC (bytesL v0))) == (CmdP.mode c)) (Bool.and ((CmdP.n (parseC (bytesL v0))) == (CmdP.n c)) (Bool.and ((CmdP.time (parseC (bytesL v0))) == (CmdP.time c)) true)))))))) then (T1 ∧ (T1 ∧ (isBytes v2)) ∧ tt ∧ T1 ∧ T1 ∧ T1 ∧ (bif (Bool.and ((CmdP.k (ctC (bytesL v2) v4)) == (CmdP.k c)) (Bool.and ((CmdP.num (ctC (bytesL v2) v4)) == (CmdP.num c)) (Bool.and (@BEq.beq.{0} (List UInt8) (@List.instBEq.{0} UInt8 (@instBEqOfDecidableEq.{0} UInt8 instDecidableEqUInt8)) (CmdP.foot (ctC (bytesL v2) v4)) (CmdP.foot c)) (Bool.and ((CmdP.rq (ctC (bytesL v2) v4)) == (CmdP.rq c)) (Bool.and (@BEq.beq.{0} (List UInt8) (@List.instBEq.{0} UInt8 (@instBEqOfDecidableEq.{0} UInt8 instDecidableEqUInt8)) (CmdP.path (ctC (bytesL v2) v4)) (CmdP.path c)) (Bool.and ((CmdP.mode (ctC (bytesL v2) v4)) == (CmdP.mode c)) (Bool.and ((CmdP.n (ctC (bytesL v2) v4)) == (CmdP.n c)) (Bool.and ((CmdP.time (ctC (bytesL v2) v4)) == (CmdP.time c)) true)))))))) then (T1 ∧ (T1 ∧ (isBytes (bytesAV (ctR (bytesL v2) v4)))) ∧ (∀ (v6 : Int), (∀ (v7 : (v6 = (inLeft (bytesL (bytesAV (ctR (bytesL v2) v4))) (ctE (bytesL v2) v4)))), (∀ (v8 : (@List.{0} AV)), (∀ (v9 : (v8 = (bytesAV (ctR (bytesL v2) v4)))), (∀ (v10 : Int), (∀ (v11 : (v10 = (ctE (bytesL v2) v4))), (T1 ∧ T1 ∧ T1 ∧ T1 ∧ T1 ∧ tt ∧ tt ∧ tt ∧ ((true = (v6 == (@Nat.cast Int _ (List.length ms)))) ∧ True) ∧ tt)))))))) else ((false = false) ∧ T1 ∧ tt ∧ tt ∧ tt ∧ ((true = false) ∧ True) ∧ tt))) else ((false = false) ∧ T1 ∧ (false = false) ∧ T1 ∧ tt ∧ tt ∧ tt ∧ ((true = false) ∧ True) ∧ tt))) else ((false = false) ∧ T1 ∧ (false = false) ∧ T1 ∧ (false = false) ∧ T1 ∧ tt ∧ tt ∧ tt ∧ ((true = false) ∧ True) ∧ tt)))))))))))))))) : inLawBytes0 c ms :=
  Eq.mp (show _ = _ by kernel_rfl) h
theorem vcLawUnlike0 (c : CmdP) (d : CmdP) (h : (tt ∧ T1 ∧ T1 ∧ T1 ∧ tt ∧ (T1 ∧ True) ∧ T1 ∧ tt ∧ tt ∧ (T1 ∧ (maxC c)) ∧ T1 ∧ T1 ∧ (bif (Bool.not (smallCB c)) then (tt ∧ T1 ∧ tt ∧ T1 ∧ tt ∧ tt ∧ T1 ∧ tt ∧ tt ∧ (tt ∧ True) ∧ tt) else (tt ∧ (T1 ∧ (maxC d)) ∧ T1 ∧ T1 ∧ T1 ∧ (bif (Bool.not (smallCB d)) then (tt ∧ T1 ∧ tt ∧ tt ∧ T1 ∧ tt ∧ tt ∧ (tt ∧ True) ∧ tt) else (tt ∧ (T1 ∧ True) ∧ (T1 ∧ ((List.length (CmdP.foot c)) ≤ 900000) ∧ ((List.length (CmdP.path c)) ≤ 900000)) ∧ T1 ∧ T1 ∧ T1 ∧ (bif (Bool.not (rightC c)) then (tt ∧ tt ∧ T1 ∧ tt ∧ tt ∧ (tt ∧ True) ∧ tt) else (tt ∧ (T1 ∧ True) ∧ (T1 ∧ ((List.length (CmdP.foot d)) ≤ 900000) ∧ ((List.length (CmdP.path d)) ≤ 900000)) ∧ T1 ∧ T1 ∧ (bif (Bool.not (rightC d)) then (tt ∧ T1 ∧ tt ∧ tt ∧ (tt ∧ True) ∧ tt) else (tt ∧ tt ∧ (T1 ∧ (smallC c)) ∧ (∀ (v0 : (@List.{0} AV)), (∀ (v1 : (v0 = (bytesAV (encP c)))), (tt ∧ (T1 ∧ (smallC d)) ∧ (∀ (v2 : (@List.{0} AV)), (∀ (v3 : (v2 = (bytesAV (encP d)))), (T1 ∧ T1 ∧ tt ∧ tt ∧ T1 ∧ (@Exists.{1} (LoopInv.V (loopUnlike c d)) (fun (v4 : Nat) => (((((AV.ptr 2 0) = (AV.ptr 2 0)) ∧ ((AV.ptr 3 0) = (AV.ptr 3 0)) ∧ ((AV.sl v0 Own.no) = (AV.sl (bytesAV (encP c)) Own.no)) ∧ ((AV.sl v2 Own.no) = (AV.sl (bytesAV (encP d)) Own.no)) ∧ ((AV.int Go.IntKind.i64 (0 : Int)) = (AV.int Go.IntKind.i64 (@Nat.cast Int _ v4))) ∧ True) ∧ (((@Option.some.{0} (@List.{0} AV) [(AV.int Go.IntKind.i64 (CmdP.k c)), (AV.int Go.IntKind.u64 (CmdP.num c)), (AV.str (CmdP.foot c)), (AV.int Go.IntKind.u64 (CmdP.rq c)), (AV.str (CmdP.path c)), (AV.int Go.IntKind.i64 (CmdP.mode c)), (AV.int Go.IntKind.u64 (CmdP.n c)), (AV.int Go.IntKind.i64 (CmdP.time c))]) = (@Option.some.{0} (@List.{0} AV) [(AV.int Go.IntKind.i64 (CmdP.k c)), (AV.int Go.IntKind.u64 (CmdP.num c)), (AV.str (CmdP.foot c)), (AV.int Go.IntKind.u64 (CmdP.rq c)), (AV.str (CmdP.path c)), (AV.int Go.IntKind.i64 (CmdP.mode c)), (AV.int Go.IntKind.u64 (CmdP.n c)), (AV.int Go.IntKind.i64 (CmdP.time c))])) ∧ ((@Option.some.{0} (@List.{0} AV) [(AV.int Go.IntKind.i64 (CmdP.k d)), (AV.int Go.IntKind.u64 (CmdP.num d)), (AV.str (CmdP.foot d)), (AV.int Go.IntKind.u64 (CmdP.rq d)), (AV.str (CmdP.path d)), (AV.int Go.IntKind.i64 (CmdP.mode d)), (AV.int Go.IntKind.u64 (CmdP.n d)), (AV.int Go.IntKind.i64 (CmdP.time d))]) = (@Option.some.{0} (@List.{0} AV) [(AV.int Go.IntKind.i64 (CmdP.k d)), (AV.int Go.IntKind.u64 (CmdP.num d)), (AV.str (CmdP.foot d)), (AV.int Go.IntKind.u64 (CmdP.rq d)), (AV.str (CmdP.path d)), (AV.int Go.IntKind.i64 (CmdP.mode d)), (AV.int Go.IntKind.u64 (CmdP.n d)), (AV.int Go.IntKind.i64 (CmdP.time d))])) ∧ True) ∧ T1 ∧ tt ∧ tt) ∧ (v4 ≤ (List.length (encP c))) ∧ (v4 ≤ (List.length (encP d))) ∧ ((@List.take.{0} UInt8 v4 (encP c)) = (@List.take.{0} UInt8 v4 (encP d)))))) ∧ (∀ (v4 : Nat), (∀ (v5 : ((v4 ≤ (List.length (encP c))) ∧ (v4 ≤ (List.length (encP d))) ∧ ((@List.take.{0} UInt8 v4 (encP c)) = (@List.take.{0} UInt8 v4 (encP d))))), (tt ∧ T1 ∧ T1 ∧ T1 ∧ T1 ∧ T1 ∧ (bif (decide ((@Nat.cast Int _ v4) < (@Nat.cast Int _ (List.length (bytesAV (encP c)))))) then (T1 ∧ T1 ∧ T1 ∧ T1 ∧ T1 ∧ T1 ∧ (bif (decide ((@Nat.cast Int _ v4) < (@Nat.cast Int _ (List.length (bytesAV (encP d)))))) then (T1 ∧ T1 ∧ (((0 : Int) ≤ (@Nat.cast Int _ v4)) ∧ ((@Nat.cast Int _ v4) < (@Nat.cast Int _ (List.length (bytesAV (encP c))))) ∧ (okElem 1 (bytesAV (encP c)) (Int.toNat (@Nat.cast Int _ v4)))) ∧ (okRead [(Kd.int Go.IntKind.u8)] (elemAt (bytesAV (encP c)) (Int.toNat (@Nat.cast Int _ v4))) 0) ∧ T1 ∧ T1 ∧ (((0 : Int) ≤ (@Nat.cast Int _ v4)) ∧ ((@Nat.cast Int _ v4) < (@Nat.cast Int _ (List.length (bytesAV (encP d))))) ∧ (okElem 1 (bytesAV (encP d)) (Int.toNat (@Nat.cast Int _ v4)))) ∧ (okRead [(Kd.int Go.IntKind.u8)] (elemAt (bytesAV (encP d)) (Int.toNat (@Nat.cast Int _ v4))) 0) ∧ T1 ∧ T1 ∧ tt ∧ (bif ((rdInt (elemAt (bytesAV (encP c)) (Int.toNat (@Nat.cast Int _ v4))) 0) == (rdInt (elemAt (bytesAV (encP d)) (Int.toNat (@Nat.cast Int _ v4))) 0)) then (tt ∧ T1 ∧ T1 ∧ T1 ∧ (@Exists.{1} (LoopInv.V (loopUnlike c d)) (fun (v6 : Nat) => (((((AV.ptr 2 0) = (AV.ptr 2 0)) ∧ ((AV.ptr 3 0) = (AV.ptr 3 0)) ∧ ((AV.sl (bytesAV (encP c)) Own.no) = (AV.sl (bytesAV (encP c)) Own.no)) ∧ ((AV.sl (bytesAV (encP d)) Own.no) = (AV.sl (bytesAV (encP d)) Own.no)) ∧ ((AV.int Go.IntKind.i64 (Go.IntKind.wrap Go.IntKind.i64 ((@Nat.cast Int _ v4) + (1 : Int)))) = (AV.int Go.IntKind.i64 (@Nat.cast Int _ v6))) ∧ True) ∧ (((@Option.some.{0} (@List.{0} AV) [(AV.int Go.IntKind.i64 (CmdP.k c)), (AV.int Go.IntKind.u64 (CmdP.num c)), (AV.str (CmdP.foot c)), (AV.int Go.IntKind.u64 (CmdP.rq c)), (AV.str (CmdP.path c)), (AV.int Go.IntKind.i64 (CmdP.mode c)), (AV.int Go.IntKind.u64 (CmdP.n c)), (AV.int Go.IntKind.i64 (CmdP.time c))]) = (@Option.some.{0} (@List.{0} AV) [(AV.int Go.IntKind.i64 (CmdP.k c)), (AV.int Go.IntKind.u64 (CmdP.num c)), (AV.str (CmdP.foot c)), (AV.int Go.IntKind.u64 (CmdP.rq c)), (AV.str (CmdP.path c)), (AV.int Go.IntKind.i64 (CmdP.mode c)), (AV.int Go.IntKind.u64 (CmdP.n c)), (AV.int Go.IntKind.i64 (CmdP.time c))])) ∧ ((@Option.some.{0} (@List.{0} AV) [(AV.int Go.IntKind.i64 (CmdP.k d)), (AV.int Go.IntKind.u64 (CmdP.num d)), (AV.str (CmdP.foot d)), (AV.int Go.IntKind.u64 (CmdP.rq d)), (AV.str (CmdP.path d)), (AV.int Go.IntKind.i64 (CmdP.mode d)), (AV.int Go.IntKind.u64 (CmdP.n d)), (AV.int Go.IntKind.i64 (CmdP.time d))]) = (@Option.some.{0} (@List.{0} AV) [(AV.int Go.IntKind.i64 (CmdP.k d)), (AV.int Go.IntKind.u64 (CmdP.num d)), (AV.str (CmdP.foot d)), (AV.int Go.IntKind.u64 (CmdP.rq d)), (AV.str (CmdP.path d)), (AV.int Go.IntKind.i64 (CmdP.mode d)), (AV.int Go.IntKind.u64 (CmdP.n d)), (AV.int Go.IntKind.i64 (CmdP.time d))])) ∧ True) ∧ T1 ∧ tt ∧ tt) ∧ ((v6 ≤ (List.length (encP c))) ∧ (v6 ≤ (List.length (encP d))) ∧ ((@List.take.{0} UInt8 v6 (encP c)) = (@List.take.{0} UInt8 v6 (encP d)))) ∧ (((List.length (encP c)) - v6) < ((List.length (encP c)) - v4)))))) else (tt ∧ T1 ∧ T1 ∧ T1 ∧ T1 ∧ T1 ∧ (bif ((@Nat.cast Int _ v4) == (@Nat.cast Int _ (List.length (bytesAV (encP c))))) then (tt ∧ tt ∧ tt ∧ T1 ∧ T1 ∧ T1 ∧ tt ∧ tt ∧ ((true = (@BEq.beq.{0} Bool (@instBEqOfDecidableEq.{0} Bool instDecidableEqBool) true (Bool.and ((CmdP.k c) == (CmdP.k d)) (Bool.and ((CmdP.num c) == (CmdP.num d)) (Bool.and (@BEq.beq.{0} (List UInt8) (@List.instBEq.{0} UInt8 (@instBEqOfDecidableEq.{0} UInt8 instDecidableEqUInt8)) (CmdP.foot c) (CmdP.foot d)) (Bool.and ((CmdP.rq c) == (CmdP.rq d)) (Bool.and (@BEq.beq.{0} (List UInt8) (@List.instBEq.{0} UInt8 (@instBEqOfDecidableEq.{0} UInt8 instDecidableEqUInt8)) (CmdP.path c) (CmdP.path d)) (Bool.and ((CmdP.mode c) == (CmdP.mode d)) (Bool.and ((CmdP.n c) == (CmdP.n d)) (Bool.and ((CmdP.time c) == (CmdP.time d)) true)))))))))) ∧ True) ∧ tt) else (T1 ∧ T1 ∧ T1 ∧ T1 ∧ T1 ∧ tt ∧ tt ∧ T1 ∧ T1 ∧ T1 ∧ tt ∧ tt ∧ ((true = (@BEq.beq.{0} Bool (@instBEqOfDecidableEq.{0} Bool instDecidableEqBool) ((@Nat.cast Int _ v4) == (@Nat.cast Int _ (List.length (bytesAV (encP d))))) (Bool.and ((CmdP.k c) == (CmdP.k d)) (Bool.and ((CmdP.num c) == (CmdP.num d)) (Bool.and (@BEq.beq.{0} (List UInt8) (@List.instBEq.{0} UInt8 (@instBEqOfDecidableEq.{0} UInt8 instDecidableEqUInt8)) (CmdP.foot c) (CmdP.foot d)) (Bool.and ((CmdP.rq c) == (CmdP.rq d)) (Bool.and (@BEq.beq.{0} (List UInt8) (@List.instBEq.{0} UInt8 (@instBEqOfDecidableEq.{0} UInt8 instDecidableEqUInt8)) (CmdP.path c) (CmdP.path d)) (Bool.and ((CmdP.mode c) == (CmdP.mode d)) (Bool.and ((CmdP.n c) == (CmdP.n d)) (Bool.and ((CmdP.time c) == (CmdP.time d)) true)))))))))) ∧ True) ∧ tt))))) else ((false = false) ∧ tt ∧ tt ∧ T1 ∧ T1 ∧ T1 ∧ T1 ∧ T1 ∧ (bif ((@Nat.cast Int _ v4) == (@Nat.cast Int _ (List.length (bytesAV (encP c))))) then (tt ∧ tt ∧ tt ∧ T1 ∧ T1 ∧ T1 ∧ tt ∧ tt ∧ ((true = (@BEq.beq.{0} Bool (@instBEqOfDecidableEq.{0} Bool instDecidableEqBool) true (Bool.and ((CmdP.k c) == (CmdP.k d)) (Bool.and ((CmdP.num c) == (CmdP.num d)) (Bool.and (@BEq.beq.{0} (List UInt8) (@List.instBEq.{0} UInt8 (@instBEqOfDecidableEq.{0} UInt8 instDecidableEqUInt8)) (CmdP.foot c) (CmdP.foot d)) (Bool.and ((CmdP.rq c) == (CmdP.rq d)) (Bool.and (@BEq.beq.{0} (List UInt8) (@List.instBEq.{0} UInt8 (@instBEqOfDecidableEq.{0} UInt8 instDecidableEqUInt8)) (CmdP.path c) (CmdP.path d)) (Bool.and ((CmdP.mode c) == (CmdP.mode d)) (Bool.and ((CmdP.n c) == (CmdP.n d)) (Bool.and ((CmdP.time c) == (CmdP.time d)) true)))))))))) ∧ True) ∧ tt) else (T1 ∧ T1 ∧ T1 ∧ T1 ∧ T1 ∧ tt ∧ tt ∧ T1 ∧ T1 ∧ T1 ∧ tt ∧ tt ∧ ((true = (@BEq.beq.{0} Bool (@instBEqOfDecidableEq.{0} Bool instDecidableEqBool) ((@Nat.cast Int _ v4) == (@Nat.cast Int _ (List.length (bytesAV (encP d))))) (Bool.and ((CmdP.k c) == (CmdP.k d)) (Bool.and ((CmdP.num c) == (CmdP.num d)) (Bool.and (@BEq.beq.{0} (List UInt8) (@List.instBEq.{0} UInt8 (@instBEqOfDecidableEq.{0} UInt8 instDecidableEqUInt8)) (CmdP.foot c) (CmdP.foot d)) (Bool.and ((CmdP.rq c) == (CmdP.rq d)) (Bool.and (@BEq.beq.{0} (List UInt8) (@List.instBEq.{0} UInt8 (@instBEqOfDecidableEq.{0} UInt8 instDecidableEqUInt8)) (CmdP.path c) (CmdP.path d)) (Bool.and ((CmdP.mode c) == (CmdP.mode d)) (Bool.and ((CmdP.n c) == (CmdP.n d)) (Bool.and ((CmdP.time c) == (CmdP.time d)) true)))))))))) ∧ True) ∧ tt))))) else ((false = false) ∧ T1 ∧ (false = false) ∧ tt ∧ tt ∧ T1 ∧ T1 ∧ T1 ∧ T1 ∧ T1 ∧ (bif ((@Nat.cast Int _ v4) == (@Nat.cast Int _ (List.length (bytesAV (encP c))))) then (tt ∧ tt ∧ tt ∧ T1 ∧ T1 ∧ T1 ∧ tt ∧ tt ∧ ((true = (@BEq.beq.{0} Bool (@instBEqOfDecidableEq.{0} Bool instDecidableEqBool) true (Bool.and ((CmdP.k c) == (CmdP.k d)) (Bool.and ((CmdP.num c) == (CmdP.num d)) (Bool.and (@BEq.beq.{0} (List UInt8) (@List.instBEq.{0} UInt8 (@instBEqOfDecidableEq.{0} UInt8 instDecidableEqUInt8)) (CmdP.foot c) (CmdP.foot d)) (Bool.and ((CmdP.rq c) == (CmdP.rq d)) (Bool.and (@BEq.beq.{0} (List UInt8) (@List.instBEq.{0} UInt8 (@instBEqOfDecidableEq.{0} UInt8 instDecidableEqUInt8)) (CmdP.path c) (CmdP.path d)) (Bool.and ((CmdP.mode c) == (CmdP.mode d)) (Bool.and ((CmdP.n c) == (CmdP.n d)) (Bool.and ((CmdP.time c) == (CmdP.time d)) true)))))))))) ∧ True) ∧ tt) else (T1 ∧ T1 ∧ T1 ∧ T1 ∧ T1 ∧ tt ∧ tt ∧ T1 ∧ T1 ∧ T1 ∧ tt ∧ tt ∧ ((true = (@BEq.beq.{0} Bool (@instBEqOfDecidableEq.{0} Bool instDecidableEqBool) ((@Nat.cast Int _ v4) == (@Nat.cast Int _ (List.length (bytesAV (encP d))))) (Bool.and ((CmdP.k c) == (CmdP.k d)) (Bool.and ((CmdP.num c) == (CmdP.num d)) (Bool.and (@BEq.beq.{0} (List UInt8) (@List.instBEq.{0} UInt8 (@instBEqOfDecidableEq.{0} UInt8 instDecidableEqUInt8)) (CmdP.foot c) (CmdP.foot d)) (Bool.and ((CmdP.rq c) == (CmdP.rq d)) (Bool.and (@BEq.beq.{0} (List UInt8) (@List.instBEq.{0} UInt8 (@instBEqOfDecidableEq.{0} UInt8 instDecidableEqUInt8)) (CmdP.path c) (CmdP.path d)) (Bool.and ((CmdP.mode c) == (CmdP.mode d)) (Bool.and ((CmdP.n c) == (CmdP.n d)) (Bool.and ((CmdP.time c) == (CmdP.time d)) true)))))))))) ∧ True) ∧ tt))))))))))))))))))))))) : inLawUnlike0 c d :=
  Eq.mp (show _ = _ by kernel_rfl) h
end Go.Proofs.YtcokifdgbfbonaaDoor
/- The conditions hold: commands in bytes. -/
namespace Go.Proofs.YtcokifdgbfbonaaDoor
set_option linter.unusedVariables false
set_option linter.unusedSimpArgs false
open Go.RowKit
set_option maxRecDepth 100000

theorem tkOut_len (l : List UInt8) (e k : Int) : (tkOut l e k).length ≤ k.toNat := by
  unfold tkOut
  split
  · rw [List.length_take]; omega
  · simp
theorem inTextV_len (l : List UInt8) (e : Int) : (inTextV l e 64).length ≤ 64 := by
  unfold inTextV
  have h := tkOut_len (shRest l e (most0 64)) (shErr l e (most0 64)) (shV l e (most0 64))
  have h2 : most0 64 = 64 := by decide
  have := shV_range l e (most0 64) (by omega)
  omega
theorem vFoot_len (l : List UInt8) (e k : Int) : (vFoot l e k).length ≤ 900000 := by
  unfold vFoot
  split
  · have := inTextV_len (f1 l e k).1 (f1 l e k).2; omega
  · simp
theorem vPath_len (l : List UInt8) (e k : Int) : (vPath l e k).length ≤ 900000 := by
  unfold vPath
  split
  · have := inTextV_len (f3 l e k).1 (f3 l e k).2; omega
  · simp
theorem ct_right {l : List UInt8} {e : Int} (h : rightC (fC (tkRest l e 1) (ctK l e) (inByteV l e)) = true) : ctE l e = fE (tkRest l e 1) (ctK l e) (inByteV l e) := by unfold ctE; rw [if_pos h]
theorem ct_wrong {l : List UInt8} {e : Int} (h : rightC (fC (tkRest l e 1) (ctK l e) (inByteV l e)) = false) : ctE l e = inFail (fE (tkRest l e 1) (ctK l e) (inByteV l e)) 10 := by unfold ctE; rw [if_neg (by simp [h])]
theorem ctC_ok {l : List UInt8} {e : Int} (h : ctE l e = 0) : ctC l e = fC (tkRest l e 1) (ctK l e) (inByteV l e) := by unfold ctC; rw [if_pos h]
theorem ctC_no {l : List UInt8} {e : Int} (h : ¬ ctE l e = 0) : ctC l e = zC := by unfold ctC; rw [if_neg h]
theorem okCtake0 : OkCtake0 := by
  intro xs e hq
  refine vcCtake0 xs e ?_
  obtain ⟨l, rfl⟩ := hq.get
  simp only [true_and, and_true, forall_eq, eq_self, bytesL_bytesAV, isBytes_bytesAV, length_bytesAV, byW, vFoot_len, vPath_len]
  refine cond_prop (fun h => ?_) fun h => ?_
  · have e1 : ctK l e = inFail (tkErr l.length e 1) 22 := by unfold ctK; rw [if_neg (by simpa using h)]
    rw [← e1]
    refine cond_prop (fun g => ?_) fun g => ?_
    · have E := ct_wrong (l := l) (e := e) (by rw [Bool.not_eq_true'] at g; exact g)
      rw [← E]
      refine cond_prop (fun g2 => ?_) fun g2 => ?_
      · rw [ctC_no (by simpa using g2)]; and_intros <;> rfl
      · rw [ctC_ok (by simpa using g2)]; and_intros <;> rfl
    · have E := ct_right (l := l) (e := e) (by rw [Bool.not_eq_false'] at g; exact g)
      rw [← E]
      refine cond_prop (fun g2 => ?_) fun g2 => ?_
      · rw [ctC_no (by simpa using g2)]; and_intros <;> rfl
      · rw [ctC_ok (by simpa using g2)]; and_intros <;> rfl
  · have e1 : ctK l e = tkErr l.length e 1 := by unfold ctK; rw [if_pos (by simpa using h)]
    rw [← e1]
    refine cond_prop (fun g => ?_) fun g => ?_
    · have E := ct_wrong (l := l) (e := e) (by rw [Bool.not_eq_true'] at g; exact g)
      rw [← E]
      refine cond_prop (fun g2 => ?_) fun g2 => ?_
      · rw [ctC_no (by simpa using g2)]; and_intros <;> rfl
      · rw [ctC_ok (by simpa using g2)]; and_intros <;> rfl
    · have E := ct_right (l := l) (e := e) (by rw [Bool.not_eq_false'] at g; exact g)
      rw [← E]
      refine cond_prop (fun g2 => ?_) fun g2 => ?_
      · rw [ctC_no (by simpa using g2)]; and_intros <;> rfl
      · rw [ctC_ok (by simpa using g2)]; and_intros <;> rfl
theorem short10 {v : Int} (h : 0 ≤ v ∧ v ≤ 18446744073709551615) : (short v.toNat).length ≤ 10 := short_le10 h.1 h.2
theorem encC_len {c : CmdP} (hs : smallC c) (hr : rangeC c) : (encC c).length ≤ c.foot.length + c.path.length + 100 := by
  have s1 := short10 hr.2.1
  have s2 := short10 hr.2.2
  have s3 := short10 (u64_range c.time)
  have s4 := encText_len hs.1
  have s5 := encText_len hs.2
  unfold encC
  simp only [catL_length, encByte_len]
  have b : ∀ (p : Bool) (l : List UInt8), (if p = true then l else []).length ≤ l.length := by intro p l; cases p <;> simp
  have c1 := b (hS c.k) (catL (bytesOf c.num (cap8 8)) (encText c.foot))
  have c2 := b (hR c.k) (short c.rq.toNat)
  have c3 := b (hP c.k) (encText c.path)
  have c4 := b (hM c.k) (encByte (IntKind.u8.wrap c.mode))
  have c5 := b (hN c.k) (short c.n.toNat)
  have c6 := b (hT c.k) (short (IntKind.u64.wrap c.time).toNat)
  rw [catL_length, fix_len] at c1
  rw [encByte_len] at c4
  omega
theorem encP_len {c : CmdP} (hs : smallC c) (hr : rangeC c) : (encP c).length ≤ c.foot.length + c.path.length + 100 := by
  unfold encP
  split
  · exact encC_len hs hr
  · rw [encByte_len]; omega
theorem okCbytes0 : OkCbytes0 := by
  intro c hq hr
  refine vcCbytes0 c ?_
  have h := encP_len hq hr
  have h1 := hq.1
  have h2 := hq.2
  have e : catL [] (encP c) = encP c := rfl
  simp only [true_and, and_true, forall_eq, eq_self, bytesL_bytesAV, isBytes_bytesAV, length_bytesAV, e]
  exact ⟨⟨⟨h1, h2⟩, isBytes_nil, by omega⟩, by omega⟩
theorem okCparse0 : OkCparse0 := by
  intro xs hq
  refine vcCparse0 xs ?_
  obtain ⟨hb, hl⟩ := hq
  obtain ⟨l, rfl⟩ := hb.get
  simp only [true_and, and_true, forall_eq, eq_self, bytesL_bytesAV, isBytes_bytesAV, length_bytesAV] at hl ⊢
  have e : inEnd (ctR l 0) (ctE l 0) = parseE l := rfl
  rw [e]
  refine ⟨hl, cond_prop (fun h => ?_) fun h => ?_⟩
  · have : parseC l = zC := by unfold parseC; rw [if_neg (by simpa using h)]
    rw [this]; and_intros <;> rfl
  · have h0 : parseE l = 0 := by simpa using h
    have : parseC l = ctC l 0 := by unfold parseC; rw [if_pos h0]
    rw [this, h0]; and_intros <;> rfl
theorem okAnchor070 : OkAnchor070 := by
  intro hq
  refine vcAnchor070 ?_
  have e : encP ⟨0, 0, [], 0, [], 0, 0, 0⟩ = [0] := by decide +kernel
  simp only [true_and, and_true, forall_eq, eq_self, e, length_bytesAV]
  have o : okElem 1 (bytesAV [0]) 0 := okElem_bytes (by decide)
  have r : okRead [Kd.int .u8] (elemAt (bytesAV [0]) 0) 0 := okRead_bytes (by decide)
  have i0 : rdInt (elemAt (bytesAV [0]) 0) 0 = 0 := rfl
  simp [i0, o, r, smallC]
theorem okOf070 : OkOf070 := by
  intro c hq
  refine vcOf070 c ?_
  simp only [true_and, and_true, forall_eq, eq_self]
theorem okSmall070 : OkSmall070 := by
  intro c hq
  refine vcSmall070 c ?_
  simp only [true_and, and_true, forall_eq, eq_self]
  refine cond_prop (fun h => ?_) fun h => ?_
  all_goals (unfold smallCB; rw [Bool.eq_iff_iff]; simp at h ⊢; omega)
theorem smallCB_small {c : CmdP} (h : (!smallCB c) = false) : smallC c := by
  simp [smallCB] at h; unfold smallC; omega
theorem eqC_iff {c d : CmdP} : eqC c d = true ↔ c = d := by
  obtain ⟨a1, a2, a3, a4, a5, a6, a7, a8⟩ := c
  obtain ⟨b1, b2, b3, b4, b5, b6, b7, b8⟩ := d
  simp [eqC, cmdL, sameCells, AV.same]
/-- two right commands of which the one's bytes begin the other's are the same -/
theorem enc_unlike {c d : CmdP} (hc : rightC c = true) (hd : rightC d = true) (rc : rangeC c) (rd : rangeC d) {n : Nat} (h1 : n ≤ (encC c).length) (h2 : n ≤ (encC d).length) (h : (encC c).take n = (encC d).take n) (he : n = (encC c).length ∨ n = (encC d).length) : c = d := by
  have key : ∀ {c d : CmdP}, rightC c = true → rightC d = true → rangeC c → rangeC d → (encC c) <+: (encC d) → c = d := by
    intro c d hc hd rc rd hp
    obtain ⟨t, ht⟩ := hp
    have t1 := (take_enc hc rc t).1
    have t2 := (take_enc hd rd []).1
    rw [List.append_nil, ← ht, t1] at t2
    exact t2
  rcases he with he | he
  · refine key hc hd rc rd ?_
    rw [he, List.take_length] at h
    rw [h]; exact List.take_prefix _ _
  · refine (key hd hc rd rc ?_).symm
    rw [he, List.take_length] at h
    rw [← h]; exact List.take_prefix _ _
theorem take_next {a b : List UInt8} {i : Nat} (h : a.take i = b.take i) (h1 : i < a.length) (h2 : i < b.length) (g : ((a.getD i 0).toNat : Int) = ((b.getD i 0).toNat : Int)) : a.take (i + 1) = b.take (i + 1) := by
  have g' : a.getD i 0 = b.getD i 0 := UInt8.toNat_inj.1 (by omega)
  rw [List.getD_eq_getElem?_getD, List.getD_eq_getElem?_getD, List.getElem?_eq_getElem h1, List.getElem?_eq_getElem h2] at g'
  rw [List.take_add_one, List.take_add_one, h, List.getElem?_eq_getElem h1, List.getElem?_eq_getElem h2]
  simp only [Option.getD_some] at g'
  rw [g']
theorem okLawUnlike0 : OkLawUnlike0 := by
  intro c d hq rc rd
  refine vcLawUnlike0 c d ?_
  simp only [true_and, and_true, forall_eq, eq_self, length_bytesAV, Int.toNat_natCast]
  refine ⟨hq.1, cond_prop (fun _ => trivial) fun h1 => ⟨hq.2, cond_prop (fun _ => trivial) fun h2 => ?_⟩⟩
  have s1 := smallCB_small h1
  have s2 := smallCB_small h2
  refine ⟨⟨s1.1, s1.2⟩, cond_prop (fun _ => trivial) fun g1 => ⟨⟨s2.1, s2.2⟩, cond_prop (fun _ => trivial) fun g2 => ⟨s1, s2, ⟨(0 : Nat), rfl, Nat.zero_le _, Nat.zero_le _, rfl⟩, fun i hi => ?_⟩⟩⟩
  have r1 : rightC c = true := by simpa using g1
  have r2 : rightC d = true := by simpa using g2
  have p1 : encP c = encC c := by unfold encP; rw [if_pos r1]
  have p2 : encP d = encC d := by unfold encP; rw [if_pos r2]
  have L1 := encP_len s1 rc
  have L2 := encP_len s2 rd
  have B1 := s1.1
  have B2 := s1.2
  have B3 := s2.1
  have B4 := s2.2
  obtain ⟨i1, i2, i3⟩ := hi
  have fin : (i = (encP c).length ∨ i = (encP d).length) → c = d := by
    intro h; rw [p1, p2] at i3 h; rw [p1] at i1; rw [p2] at i2
    exact enc_unlike r1 r2 rc rd i1 i2 i3 h
  have ch : (c.k == d.k && (c.num == d.num && (c.foot == d.foot && (c.rq == d.rq && (c.path == d.path && (c.mode == d.mode && (c.n == d.n && (c.time == d.time && true)))))))) = eqC c d := rfl
  rw [ch]
  have yes : (i = (encP c).length ∨ i = (encP d).length) → eqC c d = true := fun h => eqC_iff.2 (fin h)
  refine cond_prop (fun h => cond_prop (fun h' => ?_) fun h' => ?_) fun h => ?_
  · have l1 : i < (encP c).length := by simpa using h
    have l2 : i < (encP d).length := by simpa using h'
    refine ⟨⟨by omega, by omega, okElem_bytes l1⟩, okRead_bytes l1, ⟨by omega, by omega, okElem_bytes l2⟩, okRead_bytes l2, cond_prop (fun g => ?_) fun g => ?_⟩
    · refine ⟨i + 1, ?_, ⟨l1, l2, ?_⟩, by omega⟩
      · rw [wrap_i64 (by omega) (by omega)]; rfl
      · rw [rdInt_bytes, rdInt_bytes] at g
        exact take_next i3 l1 l2 (beq_iff_eq.1 g)
    · have ne : eqC c d = false := by
        cases hb : eqC c d
        · rfl
        · rw [eqC_iff.1 hb] at g; simp at g
      have b1 : ((i : Int) == ((encP c).length : Int)) = false := by simp; omega
      have b2 : ((i : Int) == ((encP d).length : Int)) = false := by simp; omega
      rw [b1, b2, ne]; rfl
  · have l2 : i = (encP d).length := by simp at h'; omega
    have e := yes (.inr l2)
    have b2 : ((i : Int) == ((encP d).length : Int)) = true := by simp; omega
    rw [e, b2]
    exact cond_prop (fun _ => rfl) fun _ => rfl
  · have l1 : i = (encP c).length := by simp at h; omega
    have e := yes (.inl l1)
    have b1 : ((i : Int) == ((encP c).length : Int)) = true := by simp; omega
    rw [e, b1]; rfl
theorem parse_encP {c : CmdP} (rc : rangeC c) : parseE (encP c) = 0 ∧ parseC (encP c) = if rightC c then c else zC := by
  have h := take_encP rc []
  rw [List.append_nil] at h
  have e : parseE (encP c) = 0 := by
    unfold parseE inEnd inLeft
    rw [h.2.1, h.2.2]; simp
  refine ⟨e, ?_⟩
  unfold parseC
  rw [if_pos e]; exact h.1
theorem okLawBytes0 : OkLawBytes0 := by
  intro c ms hq rc
  refine vcLawBytes0 c ms ?_
  obtain ⟨hm, hb, hl⟩ := hq
  obtain ⟨m, rfl⟩ := hb.get
  have cn : ∀ x : List AV, catL [] x = x := fun x => rfl
  have cb : catL (bytesAV (encP c)) (bytesAV m) = bytesAV (encP c ++ m) := by rw [catL_bytes']; rfl
  have t := take_encP rc m
  have p := parse_encP rc
  have il : inLeft m 0 = m.length := by simp [inLeft]
  simp only [true_and, and_true, forall_eq, eq_self, length_bytesAV, List.length_nil, Nat.zero_add, cn, cb, bytesL_bytesAV, isBytes_bytesAV, t.1, t.2.1, t.2.2, p.1, p.2, il, Nat.mul_one, okWidth_bytes, beq_self_eq_true, cond_true, List.length_append] at hl ⊢
  refine ⟨hm, cond_prop (fun _ => trivial) fun h1 => ?_⟩
  have s1 := smallCB_small h1
  have L1 := encP_len s1 rc
  have B1 := s1.1
  have B2 := s1.2
  have ow0 : okWidth 1 [] := fun x hx => by simp at hx
  refine ⟨⟨B1, B2⟩, cond_prop (fun h => ?_) fun h => ?_⟩
  · have hr : rightC c = false := by simpa using h
    have ef : (if rightC c = true then c else zC) = zC := by rw [hr]; rfl
    rw [ef]
    exact ⟨s1, by omega, ⟨by omega, by omega, ow0⟩, ⟨by omega, by omega⟩, by omega, by simp [zC]⟩
  · have hr : rightC c = true := by simpa using h
    have ef : (if rightC c = true then c else zC) = c := by rw [hr]; rfl
    rw [ef]
    simp only [beq_self_eq_true, Bool.and_self, cond_true, and_true]
    exact ⟨s1, by omega, ⟨by omega, by omega, ow0⟩, ⟨by omega, by omega⟩, by omega⟩
end Go.Proofs.YtcokifdgbfbonaaDoor
/- The contracts are met. -/
namespace Go.Proofs.YtcokifdgbfbonaaDoor
set_option linter.unusedVariables false
set_option linter.unusedSimpArgs false
open Go.RowKit
theorem sndCtake : Sound Tryd.prog (lookΓ gamCtake) := sound_of _ fun p hp => by
  simp only [gamCtake, List.mem_cons, List.not_mem_nil, or_false] at hp
  rcases hp with rfl | rfl | rfl | rfl | rfl | rfl
  · exact meetsInByte.orNil
  · exact meetsHad.orNil
  · exact meetsInFail.orNil
  · exact meetsFieldsI.orNil
  · exact meetsCright.orNil
  · exact meetsInFailed.orNil
set_option maxHeartbeats 4000000 in
theorem meetsCtake : Meets Tryd.prog 50 ctakeF := by
  refine meets_of_awp (Γ := lookΓ gamCtake) (L := fun _ _ => none) sndCtake mixedOrders Tryd.func50 rfl Tryd.call50 ?_
  intro args q r hF hq ho
  unfold ctakeF at hF
  split at hF
  · cases hF
    exact ⟨by simp only [List.length_cons, List.length_nil]; decide, okCtake0 _ _ hq⟩
  · cases hF
theorem sndCbytes : Sound Tryd.prog (lookΓ gamCbytes) := sound_of _ fun p hp => by
  simp only [gamCbytes, List.mem_cons, List.not_mem_nil, or_false] at hp
  rcases hp with rfl | rfl
  · exact meetsCput.orNil
  · exact meetsOutBytes.orNil
set_option maxHeartbeats 4000000 in
theorem meetsCbytes : Meets Tryd.prog 23 cbytesF := by
  refine meets_of_awp (Γ := lookΓ gamCbytes) (L := fun _ _ => none) sndCbytes mixedOrders Tryd.func23 rfl Tryd.call23 ?_
  intro args q r hF hq ho
  unfold cbytesF at hF
  split at hF
  · split at hF
    · rename_i c hzc
      obtain rfl := cmdOf_some hzc
      cases hF
      exact ⟨by simp only [List.length_cons, List.length_nil]; decide, okCbytes0 _ hq (⟨okay_u64 (argA 0 1 ho rfl rfl), okay_u64 (argA 0 3 ho rfl rfl), okay_u64 (argA 0 6 ho rfl rfl)⟩)⟩
    · cases hF
  · cases hF
theorem sndCparse : Sound Tryd.prog (lookΓ gamCparse) := sound_of _ fun p hp => by
  simp only [gamCparse, List.mem_cons, List.not_mem_nil, or_false] at hp
  rcases hp with rfl | rfl | rfl
  · exact meetsNewIn.orNil
  · exact meetsCtake.orNil
  · exact meetsInEnd.orNil
set_option maxHeartbeats 4000000 in
theorem meetsCparse : Meets Tryd.prog 48 cparseF := by
  refine meets_of_awp (Γ := lookΓ gamCparse) (L := fun _ _ => none) sndCparse mixedOrders Tryd.func48 rfl Tryd.call48 ?_
  intro args q r hF hq ho
  unfold cparseF at hF
  split at hF
  · cases hF
    exact ⟨by simp only [List.length_cons, List.length_nil]; decide, okCparse0 _ hq⟩
  · cases hF
theorem sndAnchor07 : Sound Tryd.prog (lookΓ gamAnchor07) := sound_of _ fun p hp => by
  simp only [gamAnchor07, List.mem_cons, List.not_mem_nil, or_false] at hp
  rcases hp with rfl | rfl
  · exact meetsCbytes.orNil
  · exact meetsCright.orNil
set_option maxHeartbeats 4000000 in
theorem meetsAnchor07 : Meets Tryd.prog 19 anchor07F := by
  refine meets_of_awp (Γ := lookΓ gamAnchor07) (L := fun _ _ => none) sndAnchor07 mixedOrders Tryd.func19 rfl Tryd.call19 ?_
  intro args q r hF hq ho
  unfold anchor07F at hF
  split at hF
  · cases hF
    exact ⟨by simp only [List.length_cons, List.length_nil]; decide, okAnchor070 hq⟩
  · cases hF
theorem sndOf07 : Sound Tryd.prog (lookΓ gamOf07) := sound_of _ fun p hp => by
  simp [gamOf07] at hp
set_option maxHeartbeats 4000000 in
theorem meetsOf07 : Meets Tryd.prog 21 of07F := by
  refine meets_of_awp (Γ := lookΓ gamOf07) (L := fun _ _ => none) sndOf07 mixedOrders Tryd.func21 rfl Tryd.call21 ?_
  intro args q r hF hq ho
  unfold of07F at hF
  split at hF
  · split at hF
    · rename_i c hzc
      obtain rfl := cmdOf_some hzc
      cases hF
      exact ⟨by simp only [List.length_cons, List.length_nil]; decide, okOf070 _ hq⟩
    · cases hF
  · cases hF
theorem sndSmall07 : Sound Tryd.prog (lookΓ gamSmall07) := sound_of _ fun p hp => by
  simp [gamSmall07] at hp
set_option maxHeartbeats 4000000 in
theorem meetsSmall07 : Meets Tryd.prog 20 small07F := by
  refine meets_of_awp (Γ := lookΓ gamSmall07) (L := fun _ _ => none) sndSmall07 mixedOrders Tryd.func20 rfl Tryd.call20 ?_
  intro args q r hF hq ho
  unfold small07F at hF
  split at hF
  · split at hF
    · rename_i c hzc
      obtain rfl := cmdOf_some hzc
      cases hF
      exact ⟨by simp only [List.length_cons, List.length_nil]; decide, okSmall070 _ hq⟩
    · cases hF
  · cases hF
theorem sndLawBytes : Sound Tryd.prog (lookΓ gamLawBytes) := sound_of _ fun p hp => by
  simp only [gamLawBytes, List.mem_cons, List.not_mem_nil, or_false] at hp
  rcases hp with rfl | rfl | rfl | rfl | rfl | rfl | rfl | rfl | rfl
  · exact meetsAnchor07.orNil
  · exact meetsSmall07.orNil
  · exact meetsOf07.orNil
  · exact meetsRright.orNil
  · exact meetsCbytes.orNil
  · exact meetsCparse.orNil
  · exact meetsNewIn.orNil
  · exact meetsCtake.orNil
  · exact meetsInLeft.orNil
set_option maxHeartbeats 4000000 in
theorem meetsLawBytes : Meets Tryd.prog 10 lawBytesF := by
  refine meets_of_awp (Γ := lookΓ gamLawBytes) (L := fun _ _ => none) sndLawBytes mixedOrders Tryd.func10 rfl Tryd.call10 ?_
  intro args q r hF hq ho
  unfold lawBytesF at hF
  split at hF
  · split at hF
    · rename_i c hzc
      obtain rfl := cmdOf_some hzc
      cases hF
      exact ⟨by simp only [List.length_cons, List.length_nil]; decide, okLawBytes0 _ _ hq (⟨okay_u64 (argA 0 1 ho rfl rfl), okay_u64 (argA 0 3 ho rfl rfl), okay_u64 (argA 0 6 ho rfl rfl)⟩)⟩
    · cases hF
  · cases hF
theorem sndLawUnlike : Sound Tryd.prog (lookΓ gamLawUnlike) := sound_of _ fun p hp => by
  simp only [gamLawUnlike, List.mem_cons, List.not_mem_nil, or_false] at hp
  rcases hp with rfl | rfl | rfl | rfl | rfl
  · exact meetsAnchor07.orNil
  · exact meetsSmall07.orNil
  · exact meetsOf07.orNil
  · exact meetsRright.orNil
  · exact meetsCbytes.orNil
set_option maxHeartbeats 4000000 in
theorem meetsLawUnlike : Meets Tryd.prog 4 lawUnlikeF := by
  refine meets_of_awp (Γ := lookΓ gamLawUnlike) (L := fun args => match args with | [.val (.agg zcc), .val (.agg zcd)] => (match cmdOf zcc, cmdOf zcd with | some c, some d => lpLawUnlike0 c d | _, _ => fun _ => none) | _ => fun _ => none) sndLawUnlike mixedOrders Tryd.func4 rfl Tryd.call4 ?_
  intro args q r hF hq ho
  unfold lawUnlikeF at hF
  split at hF
  · split at hF
    · rename_i c d hzc hzd
      obtain rfl := cmdOf_some hzc
      obtain rfl := cmdOf_some hzd
      cases hF
      exact ⟨by simp only [List.length_cons, List.length_nil]; decide, okLawUnlike0 _ _ hq (⟨okay_u64 (argA 0 1 ho rfl rfl), okay_u64 (argA 0 3 ho rfl rfl), okay_u64 (argA 0 6 ho rfl rfl)⟩) (⟨okay_u64 (argA 1 1 ho rfl rfl), okay_u64 (argA 1 3 ho rfl rfl), okay_u64 (argA 1 6 ho rfl rfl)⟩)⟩
    · cases hF
  · cases hF
end Go.Proofs.YtcokifdgbfbonaaDoor
