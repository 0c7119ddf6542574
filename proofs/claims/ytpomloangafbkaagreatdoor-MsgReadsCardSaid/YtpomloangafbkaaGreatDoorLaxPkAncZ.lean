/- Contracts by content, their conditions, and that they are met: AncZ. -/
import Derived.Test.YtpomloangafbkaaGreatDoorLaxPkMsgA
import Derived.Test.YtpomloangafbkaaGreatDoorLaxPkInstU
import Derived.Test.YtpomloangafbkaaGreatDoorLaxPkSumW
/- Contracts by content, and the conditions that their code must meet. -/
namespace Go.Proofs.YtpomloangafbkaaGreatDoor
set_option linter.unusedVariables false
set_option linter.unusedSimpArgs false
open Go.RowKit
def hdB (l : List UInt8) : Int := ((l.getD 0 0).toNat : Int)
def mZ : MsgP := ⟨6, 2, 0, 1, 9, 10, false, zI⟩
def msgZ : List UInt8 := [6, 2, 0, 1, 9, 10, 0]
def takeZF : Con
  | [.box [.sl xs .no, .int .i64 e], .val (.int .i64 k)] => (some (e = 0 ∧ k = 1 ∧ isBytes xs ∧ 1 ≤ xs.length, ⟨.sl (bytesAV (List.take 1 (bytesL xs))) .no, (some [.sl (bytesAV (List.drop 1 (bytesL xs))) .no, .int .i64 0]), none⟩))
  | _ => none
def gamTakeZ : List (Nat × Con) := []
def lpTakeZ0 (xs : List AV) (e k : Int) : Nat → Option LoopPlan := fun _ => none
def inTakeZ0 (xs : List AV) (e k : Int) : Prop := awp [0] (lpTakeZ0 xs e k) (lookΓ gamTakeZ) Tryz.prog Tryz.f146.ntmps 0 (Tryz.f146.body.getD .skip) (entrySt [.box [.sl xs .no, .int .i64 e], .val (.int .i64 k)]) (exitQ Tryz.prog Tryz.f146.results.toList [0] ⟨.sl (bytesAV (List.take 1 (bytesL xs))) .no, (some [.sl (bytesAV (List.drop 1 (bytesL xs))) .no, .int .i64 0]), none⟩)
def OkTakeZ0 : Prop := ∀ (xs : List AV) (e k : Int), e = 0 ∧ k = 1 ∧ isBytes xs ∧ 1 ≤ xs.length → inTakeZ0 xs e k
def byteZF : Con
  | [.box [.sl xs .no, .int .i64 e]] => (some (e = 0 ∧ isBytes xs ∧ 1 ≤ xs.length, ⟨.int .u8 (hdB (bytesL xs)), (some [.sl (bytesAV (List.drop 1 (bytesL xs))) .no, .int .i64 0]), none⟩))
  | _ => none
def gamByteZ : List (Nat × Con) := [(146, takeZF.orNil)]
def lpByteZ0 (xs : List AV) (e : Int) : Nat → Option LoopPlan := fun _ => none
def inByteZ0 (xs : List AV) (e : Int) : Prop := awp [0] (lpByteZ0 xs e) (lookΓ gamByteZ) Tryz.prog Tryz.f113.ntmps 0 (Tryz.f113.body.getD .skip) (entrySt [.box [.sl xs .no, .int .i64 e]]) (exitQ Tryz.prog Tryz.f113.results.toList [0] ⟨.int .u8 (hdB (bytesL xs)), (some [.sl (bytesAV (List.drop 1 (bytesL xs))) .no, .int .i64 0]), none⟩)
def OkByteZ0 : Prop := ∀ (xs : List AV) (e : Int), e = 0 ∧ isBytes xs ∧ 1 ≤ xs.length → inByteZ0 xs e
def truthZF : Con
  | [.box [.sl xs .no, .int .i64 e]] => (some (e = 0 ∧ isBytes xs ∧ 1 ≤ xs.length ∧ hdB (bytesL xs) = 0, ⟨.bool false, (some [.sl (bytesAV (List.drop 1 (bytesL xs))) .no, .int .i64 0]), none⟩))
  | _ => none
def gamTruthZ : List (Nat × Con) := [(113, byteZF.orNil)]
def lpTruthZ0 (xs : List AV) (e : Int) : Nat → Option LoopPlan := fun _ => none
def inTruthZ0 (xs : List AV) (e : Int) : Prop := awp [0] (lpTruthZ0 xs e) (lookΓ gamTruthZ) Tryz.prog Tryz.f117.ntmps 0 (Tryz.f117.body.getD .skip) (entrySt [.box [.sl xs .no, .int .i64 e]]) (exitQ Tryz.prog Tryz.f117.results.toList [0] ⟨.bool false, (some [.sl (bytesAV (List.drop 1 (bytesL xs))) .no, .int .i64 0]), none⟩)
def OkTruthZ0 : Prop := ∀ (xs : List AV) (e : Int), e = 0 ∧ isBytes xs ∧ 1 ≤ xs.length ∧ hdB (bytesL xs) = 0 → inTruthZ0 xs e
def readShortZF : Con
  | [.val (.sl xs .no)] => (some (isBytes xs ∧ 1 ≤ xs.length ∧ hdB (bytesL xs) < 128, ⟨.tup [.int .u64 (hdB (bytesL xs)), .int .i64 1, .int .i64 0], none, none⟩))
  | _ => none
def gamReadShortZ : List (Nat × Con) := []
def lpReadShortZ0 (xs : List AV) : Nat → Option LoopPlan := fun b => bif Nat.beq b 0 then some (.unroll [] 2) else none
def inReadShortZ0 (xs : List AV) : Prop := awp [] (lpReadShortZ0 xs) (lookΓ gamReadShortZ) Tryz.prog Tryz.f168.ntmps 0 (Tryz.f168.body.getD .skip) (entrySt [.val (.sl xs .no)]) (exitQ Tryz.prog Tryz.f168.results.toList [] ⟨.tup [.int .u64 (hdB (bytesL xs)), .int .i64 1, .int .i64 0], none, none⟩)
def OkReadShortZ0 : Prop := ∀ (xs : List AV), isBytes xs ∧ 1 ≤ xs.length ∧ hdB (bytesL xs) < 128 → inReadShortZ0 xs
def shortZF : Con
  | [.box [.sl xs .no, .int .i64 e], .val (.int .u64 m)] => (some (e = 0 ∧ isBytes xs ∧ 1 ≤ xs.length ∧ hdB (bytesL xs) < 128 ∧ hdB (bytesL xs) ≤ m, ⟨.int .u64 (hdB (bytesL xs)), (some [.sl (bytesAV (List.drop 1 (bytesL xs))) .no, .int .i64 0]), none⟩))
  | _ => none
def gamShortZ : List (Nat × Con) := [(168, readShortZF.orNil), (146, takeZF.orNil)]
def lpShortZ0 (xs : List AV) (e m : Int) : Nat → Option LoopPlan := fun _ => none
def inShortZ0 (xs : List AV) (e m : Int) : Prop := awp [0] (lpShortZ0 xs e m) (lookΓ gamShortZ) Tryz.prog Tryz.f147.ntmps 0 (Tryz.f147.body.getD .skip) (entrySt [.box [.sl xs .no, .int .i64 e], .val (.int .u64 m)]) (exitQ Tryz.prog Tryz.f147.results.toList [0] ⟨.int .u64 (hdB (bytesL xs)), (some [.sl (bytesAV (List.drop 1 (bytesL xs))) .no, .int .i64 0]), none⟩)
def OkShortZ0 : Prop := ∀ (xs : List AV) (e m : Int), e = 0 ∧ isBytes xs ∧ 1 ≤ xs.length ∧ hdB (bytesL xs) < 128 ∧ hdB (bytesL xs) ≤ m → inShortZ0 xs e m
def failedZF : Con
  | [.box [.sl xs .no, .int .i64 e]] => (some (e = 0, ⟨.bool false, (some [.sl xs .no, .int .i64 0]), none⟩))
  | _ => none
def gamFailedZ : List (Nat × Con) := []
def lpFailedZ0 (xs : List AV) (e : Int) : Nat → Option LoopPlan := fun _ => none
def inFailedZ0 (xs : List AV) (e : Int) : Prop := awp [0] (lpFailedZ0 xs e) (lookΓ gamFailedZ) Tryz.prog Tryz.f148.ntmps 0 (Tryz.f148.body.getD .skip) (entrySt [.box [.sl xs .no, .int .i64 e]]) (exitQ Tryz.prog Tryz.f148.results.toList [0] ⟨.bool false, (some [.sl xs .no, .int .i64 0]), none⟩)
def OkFailedZ0 : Prop := ∀ (xs : List AV) (e : Int), e = 0 → inFailedZ0 xs e
def leftZF : Con
  | [.box [.sl xs .no, .int .i64 e]] => (some (e = 0 ∧ xs = [], ⟨.int .i64 0, (some [.sl xs .no, .int .i64 0]), none⟩))
  | _ => none
def gamLeftZ : List (Nat × Con) := []
def lpLeftZ0 (xs : List AV) (e : Int) : Nat → Option LoopPlan := fun _ => none
def inLeftZ0 (xs : List AV) (e : Int) : Prop := awp [0] (lpLeftZ0 xs e) (lookΓ gamLeftZ) Tryz.prog Tryz.f119.ntmps 0 (Tryz.f119.body.getD .skip) (entrySt [.box [.sl xs .no, .int .i64 e]]) (exitQ Tryz.prog Tryz.f119.results.toList [0] ⟨.int .i64 0, (some [.sl xs .no, .int .i64 0]), none⟩)
def OkLeftZ0 : Prop := ∀ (xs : List AV) (e : Int), e = 0 ∧ xs = [] → inLeftZ0 xs e
def endZF : Con
  | [.box [.sl xs .no, .int .i64 e]] => (some (e = 0 ∧ xs = [], ⟨.int .i64 0, (some [.sl xs .no, .int .i64 0]), none⟩))
  | _ => none
def gamEndZ : List (Nat × Con) := [(119, leftZF.orNil)]
def lpEndZ0 (xs : List AV) (e : Int) : Nat → Option LoopPlan := fun _ => none
def inEndZ0 (xs : List AV) (e : Int) : Prop := awp [0] (lpEndZ0 xs e) (lookΓ gamEndZ) Tryz.prog Tryz.f88.ntmps 0 (Tryz.f88.body.getD .skip) (entrySt [.box [.sl xs .no, .int .i64 e]]) (exitQ Tryz.prog Tryz.f88.results.toList [0] ⟨.int .i64 0, (some [.sl xs .no, .int .i64 0]), none⟩)
def OkEndZ0 : Prop := ∀ (xs : List AV) (e : Int), e = 0 ∧ xs = [] → inEndZ0 xs e
def newInF : Con
  | [.val (.sl xs .no)] => (some (isBytes xs ∧ xs.length ≤ 140737488355328, ⟨.ptr 2000 0, none, (some [.sl xs .no, .int .i64 0])⟩))
  | _ => none
def gamNewIn : List (Nat × Con) := [(97, cloneF.orNil)]
def lpNewIn0 (xs : List AV) : Nat → Option LoopPlan := fun _ => none
def inNewIn0 (xs : List AV) : Prop := awp [] (lpNewIn0 xs) (lookΓ gamNewIn) Tryz.prog Tryz.f86.ntmps 0 (Tryz.f86.body.getD .skip) (entrySt [.val (.sl xs .no)]) (exitQ Tryz.prog Tryz.f86.results.toList [] ⟨.ptr 2000 0, none, (some [.sl xs .no, .int .i64 0])⟩)
def OkNewIn0 : Prop := ∀ (xs : List AV), isBytes xs ∧ xs.length ≤ 140737488355328 → inNewIn0 xs
def takeIDZF : Con
  | [.box [.sl xs .no, .int .i64 e]] => (some (e = 0 ∧ isBytes xs ∧ 2 ≤ xs.length ∧ hdB (bytesL xs) ≤ 6 ∧ hdB (List.drop 1 (bytesL xs)) < 128, ⟨.agg [.int .i64 (hdB (bytesL xs)), .int .i64 (hdB (List.drop 1 (bytesL xs)))], (some [.sl (bytesAV (List.drop 2 (bytesL xs))) .no, .int .i64 0]), none⟩))
  | _ => none
def gamTakeIDZ : List (Nat × Con) := [(113, byteZF.orNil), (147, shortZF.orNil), (148, failedZF.orNil)]
def lpTakeIDZ0 (xs : List AV) (e : Int) : Nat → Option LoopPlan := fun _ => none
def inTakeIDZ0 (xs : List AV) (e : Int) : Prop := awp [0] (lpTakeIDZ0 xs e) (lookΓ gamTakeIDZ) Tryz.prog Tryz.f115.ntmps 0 (Tryz.f115.body.getD .skip) (entrySt [.box [.sl xs .no, .int .i64 e]]) (exitQ Tryz.prog Tryz.f115.results.toList [0] ⟨.agg [.int .i64 (hdB (bytesL xs)), .int .i64 (hdB (List.drop 1 (bytesL xs)))], (some [.sl (bytesAV (List.drop 2 (bytesL xs))) .no, .int .i64 0]), none⟩)
def OkTakeIDZ0 : Prop := ∀ (xs : List AV) (e : Int), e = 0 ∧ isBytes xs ∧ 2 ≤ xs.length ∧ hdB (bytesL xs) ≤ 6 ∧ hdB (List.drop 1 (bytesL xs)) < 128 → inTakeIDZ0 xs e
def takeBalZF : Con
  | [.box [.sl xs .no, .int .i64 e]] => (some (e = 0 ∧ isBytes xs ∧ 1 ≤ xs.length ∧ hdB (bytesL xs) < 128 ∧ balOK (hdB (bytesL xs)) = true, ⟨.int .u32 (hdB (bytesL xs)), (some [.sl (bytesAV (List.drop 1 (bytesL xs))) .no, .int .i64 0]), none⟩))
  | _ => none
def gamTakeBalZ : List (Nat × Con) := [(147, shortZF.orNil), (59, balRightF.orNil)]
def lpTakeBalZ0 (xs : List AV) (e : Int) : Nat → Option LoopPlan := fun _ => none
def inTakeBalZ0 (xs : List AV) (e : Int) : Prop := awp [0] (lpTakeBalZ0 xs e) (lookΓ gamTakeBalZ) Tryz.prog Tryz.f116.ntmps 0 (Tryz.f116.body.getD .skip) (entrySt [.box [.sl xs .no, .int .i64 e]]) (exitQ Tryz.prog Tryz.f116.results.toList [0] ⟨.int .u32 (hdB (bytesL xs)), (some [.sl (bytesAV (List.drop 1 (bytesL xs))) .no, .int .i64 0]), none⟩)
def OkTakeBalZ0 : Prop := ∀ (xs : List AV) (e : Int), e = 0 ∧ isBytes xs ∧ 1 ≤ xs.length ∧ hdB (bytesL xs) < 128 ∧ balOK (hdB (bytesL xs)) = true → inTakeBalZ0 xs e
def mtakeZF : Con
  | [.box [.sl xs .no, .int .i64 e]] => (some (e = 0 ∧ xs = bytesAV msgZ, ⟨.agg (msgL mZ), (some [.sl [] .no, .int .i64 0]), none⟩))
  | _ => none
def gamMtakeZ : List (Nat × Con) := [(113, byteZF.orNil), (115, takeIDZF.orNil), (116, takeBalZF.orNil), (117, truthZF.orNil), (89, replicaF.orNil)]
def lpMtakeZ0 (xs : List AV) (e : Int) : Nat → Option LoopPlan := fun _ => none
def inMtakeZ0 (xs : List AV) (e : Int) : Prop := awp [0] (lpMtakeZ0 xs e) (lookΓ gamMtakeZ) Tryz.prog Tryz.f87.ntmps 0 (Tryz.f87.body.getD .skip) (entrySt [.box [.sl xs .no, .int .i64 e]]) (exitQ Tryz.prog Tryz.f87.results.toList [0] ⟨.agg (msgL mZ), (some [.sl [] .no, .int .i64 0]), none⟩)
def OkMtakeZ0 : Prop := ∀ (xs : List AV) (e : Int), e = 0 ∧ xs = bytesAV msgZ → inMtakeZ0 xs e
def mopenZF : Con
  | [.val (.sl xs .no)] => (some (xs = bytesAV (sealL msgZ), ⟨.tup [.agg (msgL mZ), .int .i64 0], none, none⟩))
  | _ => none
def gamMopenZ : List (Nat × Con) := [(85, openF.orNil), (86, newInF.orNil), (87, mtakeZF.orNil), (88, endZF.orNil), (48, mrightF.orNil)]
def lpMopenZ0 (xs : List AV) : Nat → Option LoopPlan := fun _ => none
def inMopenZ0 (xs : List AV) : Prop := awp [] (lpMopenZ0 xs) (lookΓ gamMopenZ) Tryz.prog Tryz.f47.ntmps 0 (Tryz.f47.body.getD .skip) (entrySt [.val (.sl xs .no)]) (exitQ Tryz.prog Tryz.f47.results.toList [] ⟨.tup [.agg (msgL mZ), .int .i64 0], none, none⟩)
def OkMopenZ0 : Prop := ∀ (xs : List AV), xs = bytesAV (sealL msgZ) → inMopenZ0 xs
def outTruthZF : Con
  | [.box [.sl xs (.row p q te0)], .val (.bool t)] => (if te0 = 5 then some (isBytes xs ∧ xs.length + 1 ≤ 140737488355328 ∧ t = false, ⟨.ptr 0 0, (some [.sl (bytesAV (catL (bytesL xs) (encByte 0))) (.row 0 0 5)]), none⟩) else none)
  | _ => none
def gamOutTruthZ : List (Nat × Con) := [(80, outByteF.orNil)]
def lpOutTruthZ0 (xs : List AV) (p q : Nat) (t : Bool) : Nat → Option LoopPlan := fun _ => none
def inOutTruthZ0 (xs : List AV) (p q : Nat) (t : Bool) : Prop := awp [0] (lpOutTruthZ0 xs p q t) (lookΓ gamOutTruthZ) Tryz.prog Tryz.f83.ntmps 0 (Tryz.f83.body.getD .skip) (entrySt [.box [.sl xs (.row p q 5)], .val (.bool t)]) (exitQ Tryz.prog Tryz.f83.results.toList [0] ⟨.ptr 0 0, (some [.sl (bytesAV (catL (bytesL xs) (encByte 0))) (.row 0 0 5)]), none⟩)
def OkOutTruthZ0 : Prop := ∀ (xs : List AV) (p q : Nat) (t : Bool), isBytes xs ∧ xs.length + 1 ≤ 140737488355328 ∧ t = false → inOutTruthZ0 xs p q t
def mframeZF : Con
  | [.val (.agg zcm)] => (match msgOf zcm with | some m => some (m = mZ, ⟨.sl (bytesAV (sealL msgZ)) .no, none, none⟩) | _ => none)
  | _ => none
def gamMframeZ : List (Nat × Con) := [(48, mrightF.orNil), (80, outByteF.orNil), (81, idPut7F.orNil), (82, balPut7F.orNil), (83, outTruthZF.orNil), (57, outBytesF.orNil), (84, sealF.orNil)]
def lpMframeZ0 (m : MsgP) : Nat → Option LoopPlan := fun _ => none
def inMframeZ0 (m : MsgP) : Prop := awp [] (lpMframeZ0 m) (lookΓ gamMframeZ) Tryz.prog Tryz.f46.ntmps 0 (Tryz.f46.body.getD .skip) (entrySt [.val (.agg (msgL m))]) (exitQ Tryz.prog Tryz.f46.results.toList [] ⟨.sl (bytesAV (sealL msgZ)) .no, none, none⟩)
def OkMframeZ0 : Prop := ∀ (m : MsgP), m = mZ → inMframeZ0 m
def anchor11F : Con
  | [] => (some (True, ⟨.bool true, none, none⟩))
  | _ => none
def gamAnchor11 : List (Nat × Con) := [(22, inewF.orNil), (45, askF.orNil), (46, mframeZF.orNil), (47, mopenZF.orNil), (48, mrightF.orNil)]
def lpAnchor110  : Nat → Option LoopPlan := fun _ => none
def inAnchor110  : Prop := awp [] (lpAnchor110) (lookΓ gamAnchor11) Tryz.prog Tryz.f15.ntmps 0 (Tryz.f15.body.getD .skip) (entrySt []) (exitQ Tryz.prog Tryz.f15.results.toList [] ⟨.bool true, none, none⟩)
def OkAnchor110 : Prop := True → inAnchor110
end Go.Proofs.YtpomloangafbkaaGreatDoor
/- What the verification conditions come to: printed by a program of ours (wip/lax/ex/Norm.lean). -/
namespace Go.Proofs.YtpomloangafbkaaGreatDoor
set_option linter.unusedVariables false
open Go.RowKit
set_option maxRecDepth 100000
theorem vcTakeZ0 (xs : (List AV)) (e : Int) (k : Int) (h : (tt ∧ T1 ∧ tt ∧ T1 ∧ T1 ∧ T1 ∧ tt ∧ T1 ∧ T1 ∧ (bif (e != 0) then (tt ∧ tt ∧ T1 ∧ False) else (T1 ∧ T1 ∧ T1 ∧ T1 ∧ tt ∧ T1 ∧ T1 ∧ T1 ∧ (bif (decide (((List.length xs) : Int) < k)) then (tt ∧ T1 ∧ False) else (tt ∧ T1 ∧ T1 ∧ T1 ∧ tt ∧ T1 ∧ T1 ∧ (((0 : Int) ≤ k ∧ k ≤ k ∧ k ≤ ((List.length xs) : Int)) ∧ (okWidth 1 xs)) ∧ T1 ∧ tt ∧ T1 ∧ T1 ∧ T1 ∧ T1 ∧ tt ∧ T1 ∧ (((0 : Int) ≤ k ∧ k ≤ ((List.length xs) : Int)) ∧ (okWidth 1 xs)) ∧ T1 ∧ T1 ∧ tt ∧ tt ∧ T1 ∧ T1 ∧ tt ∧ tt ∧ ((bytesAV (@List.drop.{0} UInt8 1 (bytesL xs))) = (@cutL AV xs (Int.toNat k) (List.length xs)) ∧ (0 : Int) = e ∧ (bytesAV (@List.take.{0} UInt8 1 (bytesL xs))) = (@cutL AV xs 0 (Int.toNat k)) ∧ True) ∧ tt)))))) : inTakeZ0 xs e k :=
  Eq.mp (show _ = _ by kernel_rfl) h
theorem vcByteZ0 (xs : (List AV)) (e : Int) (h : (tt ∧ T1 ∧ tt ∧ T1 ∧ (T1 ∧ e = 0 ∧ (1 : Int) = 1 ∧ (isBytes xs) ∧ 1 ≤ (List.length xs)) ∧ ∀ v0 : (List AV), (v0 = (bytesAV (@List.take.{0} UInt8 1 (bytesL xs)))) → ∀ v2 : (List AV), (v2 = (bytesAV (@List.drop.{0} UInt8 1 (bytesL xs)))) → ∀ v4 : Int, (v4 = 0) → T1 ∧ tt ∧ T1 ∧ T1 ∧ T1 ∧ (bif (((List.length v0) : Int) == 0) then (tt ∧ T1 ∧ tt ∧ tt ∧ ((bytesAV (@List.drop.{0} UInt8 1 (bytesL xs))) = v2 ∧ (0 : Int) = v4 ∧ (hdB (bytesL xs)) = 0 ∧ True) ∧ tt) else (tt ∧ T1 ∧ ((0 : Int) ≤ (0 : Int) ∧ (0 : Int) < ((List.length v0) : Int) ∧ (okElem 1 v0 0)) ∧ (okRead [(Kd.int IntKind.u8)] (elemAt v0 0) 0) ∧ T1 ∧ tt ∧ tt ∧ ((bytesAV (@List.drop.{0} UInt8 1 (bytesL xs))) = v2 ∧ (0 : Int) = v4 ∧ (hdB (bytesL xs)) = (rdInt (elemAt v0 0) 0) ∧ True) ∧ tt)))) : inByteZ0 xs e :=
  Eq.mp (show _ = _ by kernel_rfl) h
theorem vcTruthZ0 (xs : (List AV)) (e : Int) (h : (tt ∧ T1 ∧ tt ∧ T1 ∧ (T1 ∧ e = 0 ∧ (isBytes xs) ∧ 1 ≤ (List.length xs)) ∧ ∀ v0 : Int, (v0 = (hdB (bytesL xs))) → ∀ v2 : (List AV), (v2 = (bytesAV (@List.drop.{0} UInt8 1 (bytesL xs)))) → ∀ v4 : Int, (v4 = 0) → T1 ∧ tt ∧ T1 ∧ T1 ∧ (bif (decide ((1 : Int) < v0)) then (tt ∧ T1 ∧ False) else (tt ∧ T1 ∧ T1 ∧ T1 ∧ tt ∧ T1 ∧ T1 ∧ (bif (v4 == 0) then (T1 ∧ T1 ∧ T1 ∧ T1 ∧ tt ∧ tt ∧ ((bytesAV (@List.drop.{0} UInt8 1 (bytesL xs))) = v2 ∧ (0 : Int) = v4 ∧ false = (v0 == 1) ∧ True) ∧ tt) else (false = false ∧ T1 ∧ tt ∧ tt ∧ ((bytesAV (@List.drop.{0} UInt8 1 (bytesL xs))) = v2 ∧ (0 : Int) = v4 ∧ false = false ∧ True) ∧ tt)))))) : inTruthZ0 xs e :=
  Eq.mp (show _ = _ by kernel_rfl) h
theorem vcReadShortZ0 (xs : (List AV)) (h : let q0 := (IntKind.wrap IntKind.u64 (intBits Go.BinOp.and IntKind.u8 (rdInt (elemAt xs 0) 0) 127)); let q1 := (List.length xs); let q2 := (okRead [(Kd.int IntKind.u8)] (elemAt xs 0) 0); let q3 := (okRead [(Kd.int IntKind.u8)] (elemAt xs 1) 0); let q4 := (hdB (bytesL xs)); let w0_x := (intBits Go.BinOp.or IntKind.u64 0 (IntKind.wrap IntKind.u64 (q0 * (1 : Int)))); let w1_x := (tt ∧ T1 ∧ T1 ∧ T1 ∧ tt ∧ tt ∧ (q4 = 0 ∧ (1 : Int) = 0 ∧ (0 : Int) = 20 ∧ True) ∧ tt); let w2_x := (q4 = w0_x ∧ (1 : Int) = 1 ∧ (0 : Int) = 0 ∧ True); (tt ∧ T1 ∧ T1 ∧ T1 ∧ tt ∧ T1 ∧ (tt ∧ tt) ∧ tt ∧ T1 ∧ tt ∧ T1 ∧ T1 ∧ tt ∧ T1 ∧ T1 ∧ T1 ∧ T1 ∧ T1 ∧ (bif (decide ((q1 : Int) ≤ 0)) then w1_x else (tt ∧ T1 ∧ T1 ∧ T1 ∧ false = false ∧ T1 ∧ tt ∧ T1 ∧ T1 ∧ T1 ∧ ((0 : Int) ≤ (0 : Int) ∧ (0 : Int) < (q1 : Int) ∧ (okElem 1 xs 0)) ∧ q2 ∧ T1 ∧ T1 ∧ T1 ∧ T1 ∧ T1 ∧ (0 : Int) ≤ (0 : Int) ∧ T1 ∧ T1 ∧ tt ∧ T1 ∧ T1 ∧ ((0 : Int) ≤ (0 : Int) ∧ (0 : Int) < (q1 : Int) ∧ (okElem 1 xs 0)) ∧ q2 ∧ T1 ∧ (bif (decide ((rdInt (elemAt xs 0) 0) < 128)) then (tt ∧ T1 ∧ T1 ∧ ((0 : Int) ≤ (0 : Int) ∧ (0 : Int) < (q1 : Int) ∧ (okElem 1 xs 0)) ∧ q2 ∧ T1 ∧ T1 ∧ (bif ((rdInt (elemAt xs 0) 0) == 0) then (T1 ∧ T1 ∧ T1 ∧ tt ∧ T1 ∧ T1 ∧ T1 ∧ T1 ∧ T1 ∧ T1 ∧ tt ∧ tt ∧ w2_x ∧ tt) else (false = false ∧ tt ∧ T1 ∧ T1 ∧ T1 ∧ T1 ∧ T1 ∧ T1 ∧ tt ∧ tt ∧ w2_x ∧ tt))) else (tt ∧ T1 ∧ T1 ∧ (tt ∧ tt) ∧ tt ∧ T1 ∧ tt ∧ T1 ∧ T1 ∧ tt ∧ T1 ∧ T1 ∧ T1 ∧ T1 ∧ T1 ∧ (bif (decide ((q1 : Int) ≤ 1)) then w1_x else (tt ∧ T1 ∧ T1 ∧ T1 ∧ false = false ∧ T1 ∧ tt ∧ T1 ∧ T1 ∧ T1 ∧ ((0 : Int) ≤ (1 : Int) ∧ (1 : Int) < (q1 : Int) ∧ (okElem 1 xs 1)) ∧ q3 ∧ T1 ∧ T1 ∧ T1 ∧ T1 ∧ T1 ∧ (0 : Int) ≤ (7 : Int) ∧ T1 ∧ T1 ∧ tt ∧ T1 ∧ T1 ∧ ((0 : Int) ≤ (1 : Int) ∧ (1 : Int) < (q1 : Int) ∧ (okElem 1 xs 1)) ∧ q3 ∧ T1 ∧ (bif (decide ((rdInt (elemAt xs 1) 0) < 128)) then (tt ∧ T1 ∧ T1 ∧ ((0 : Int) ≤ (1 : Int) ∧ (1 : Int) < (q1 : Int) ∧ (okElem 1 xs 1)) ∧ q3 ∧ T1 ∧ T1 ∧ (bif ((rdInt (elemAt xs 1) 0) == 0) then (T1 ∧ T1 ∧ T1 ∧ tt ∧ T1 ∧ T1 ∧ T1 ∧ tt ∧ tt ∧ (q4 = 0 ∧ (1 : Int) = 0 ∧ (0 : Int) = 10 ∧ True) ∧ tt) else (false = false ∧ tt ∧ T1 ∧ T1 ∧ T1 ∧ T1 ∧ T1 ∧ T1 ∧ tt ∧ tt ∧ (q4 = (intBits Go.BinOp.or IntKind.u64 w0_x (IntKind.wrap IntKind.u64 ((IntKind.wrap IntKind.u64 (intBits Go.BinOp.and IntKind.u8 (rdInt (elemAt xs 1) 0) 127)) * (128 : Int)))) ∧ (1 : Int) = 2 ∧ (0 : Int) = 0 ∧ True) ∧ tt))) else (tt ∧ T1 ∧ T1 ∧ False)))))))))) : inReadShortZ0 xs :=
  Eq.mp (show _ = _ by kernel_rfl) h
theorem vcShortZ0 (xs : (List AV)) (e : Int) (m : Int) (h : let q0 := (bytesL xs); (tt ∧ T1 ∧ tt ∧ T1 ∧ T1 ∧ T1 ∧ tt ∧ T1 ∧ (bif (e != 0) then (tt ∧ T1 ∧ tt ∧ tt ∧ ((bytesAV (@List.drop.{0} UInt8 1 q0)) = xs ∧ (0 : Int) = e ∧ (hdB q0) = 0 ∧ True) ∧ tt) else (tt ∧ T1 ∧ T1 ∧ T1 ∧ tt ∧ (T1 ∧ (isBytes xs) ∧ 1 ≤ (List.length xs) ∧ (hdB q0) < 128) ∧ ∀ v0 : Int, (v0 = (hdB q0)) → ∀ v2 : Int, (v2 = 1) → ∀ v4 : Int, (v4 = 0) → T1 ∧ T1 ∧ T1 ∧ T1 ∧ T1 ∧ T1 ∧ T1 ∧ tt ∧ T1 ∧ T1 ∧ T1 ∧ (bif (v4 != 0) then (tt ∧ T1 ∧ T1 ∧ False) else (tt ∧ T1 ∧ T1 ∧ T1 ∧ T1 ∧ (bif (decide (m < v0)) then (tt ∧ T1 ∧ False) else (tt ∧ T1 ∧ T1 ∧ (T1 ∧ e = 0 ∧ v2 = 1 ∧ (isBytes xs) ∧ 1 ≤ (List.length xs)) ∧ ∀ v6 : (List AV), (v6 = (bytesAV (@List.take.{0} UInt8 1 q0))) → ∀ v8 : (List AV), (v8 = (bytesAV (@List.drop.{0} UInt8 1 q0))) → ∀ v10 : Int, (v10 = 0) → tt ∧ T1 ∧ T1 ∧ tt ∧ tt ∧ ((bytesAV (@List.drop.{0} UInt8 1 q0)) = v8 ∧ (0 : Int) = v10 ∧ (hdB q0) = v0 ∧ True) ∧ tt)))))))) : inShortZ0 xs e m :=
  Eq.mp (show _ = _ by kernel_rfl) h
theorem vcFailedZ0 (xs : (List AV)) (e : Int) (h : (tt ∧ T1 ∧ tt ∧ T1 ∧ T1 ∧ T1 ∧ tt ∧ T1 ∧ T1 ∧ tt ∧ tt ∧ (xs = xs ∧ (0 : Int) = e ∧ false = (e != 0) ∧ True) ∧ tt)) : inFailedZ0 xs e :=
  Eq.mp (show _ = _ by kernel_rfl) h
theorem vcLeftZ0 (xs : (List AV)) (e : Int) (h : (tt ∧ T1 ∧ tt ∧ T1 ∧ T1 ∧ T1 ∧ tt ∧ T1 ∧ (bif (e != 0) then (tt ∧ T1 ∧ tt ∧ tt ∧ (xs = xs ∧ (0 : Int) = e ∧ (0 : Int) = 0 ∧ True) ∧ tt) else (tt ∧ T1 ∧ T1 ∧ T1 ∧ tt ∧ T1 ∧ T1 ∧ tt ∧ tt ∧ (xs = xs ∧ (0 : Int) = e ∧ (0 : Int) = ((List.length xs) : Int) ∧ True) ∧ tt)))) : inLeftZ0 xs e :=
  Eq.mp (show _ = _ by kernel_rfl) h
theorem vcEndZ0 (xs : (List AV)) (e : Int) (h : (tt ∧ T1 ∧ tt ∧ T1 ∧ (T1 ∧ e = 0 ∧ xs = []) ∧ ∀ v0 : Int, (v0 = 0) → ∀ v2 : (List AV), (v2 = xs) → ∀ v4 : Int, (v4 = 0) → T1 ∧ (bif (decide ((0 : Int) < v0)) then (tt ∧ T1 ∧ tt ∧ tt ∧ (xs = v2 ∧ (0 : Int) = v4 ∧ (0 : Int) = 21 ∧ True) ∧ tt) else (tt ∧ T1 ∧ T1 ∧ T1 ∧ tt ∧ T1 ∧ tt ∧ tt ∧ (xs = v2 ∧ (0 : Int) = v4 ∧ (0 : Int) = v4 ∧ True) ∧ tt)))) : inEndZ0 xs e :=
  Eq.mp (show _ = _ by kernel_rfl) h
theorem vcNewIn0 (xs : (List AV)) (h : (tt ∧ T1 ∧ tt ∧ T1 ∧ (T1 ∧ (isBytes xs) ∧ (List.length xs) ≤ 140737488355328) ∧ ∀ v0 : (List AV), (v0 = xs) → ∀ v2 : Nat, (v2 = (List.length xs)) → T1 ∧ T1 ∧ T1 ∧ tt ∧ tt ∧ (xs = v0 ∧ (0 : Int) = 0 ∧ T1 ∧ True) ∧ tt)) : inNewIn0 xs :=
  Eq.mp (show _ = _ by kernel_rfl) h
theorem vcTakeIDZ0 (xs : (List AV)) (e : Int) (h : (tt ∧ T1 ∧ tt ∧ T1 ∧ (T1 ∧ e = 0 ∧ (isBytes xs) ∧ 1 ≤ (List.length xs)) ∧ ∀ v0 : Int, (v0 = (hdB (bytesL xs))) → ∀ v2 : (List AV), (v2 = (bytesAV (@List.drop.{0} UInt8 1 (bytesL xs)))) → ∀ v4 : Int, (v4 = 0) → T1 ∧ tt ∧ T1 ∧ T1 ∧ (bif (decide ((6 : Int) < v0)) then (tt ∧ T1 ∧ False) else (tt ∧ T1 ∧ (T1 ∧ v4 = 0 ∧ (isBytes v2) ∧ 1 ≤ (List.length v2) ∧ (hdB (bytesL v2)) < 128 ∧ (hdB (bytesL v2)) ≤ 1023) ∧ ∀ v6 : Int, (v6 = (hdB (bytesL v2))) → ∀ v8 : (List AV), (v8 = (bytesAV (@List.drop.{0} UInt8 1 (bytesL v2)))) → ∀ v10 : Int, (v10 = 0) → T1 ∧ tt ∧ T1 ∧ (T1 ∧ v10 = 0) ∧ ∀ v12 : (List AV), (v12 = v8) → ∀ v14 : Int, (v14 = 0) → tt ∧ T1 ∧ T1 ∧ T1 ∧ T1 ∧ T1 ∧ tt ∧ tt ∧ tt ∧ ((bytesAV (@List.drop.{0} UInt8 2 (bytesL xs))) = v12 ∧ (0 : Int) = v14 ∧ (hdB (bytesL xs)) = (IntKind.wrap IntKind.i64 v0) ∧ (hdB (@List.drop.{0} UInt8 1 (bytesL xs))) = (IntKind.wrap IntKind.i64 v6) ∧ True) ∧ tt)))) : inTakeIDZ0 xs e :=
  Eq.mp (show _ = _ by kernel_rfl) h
theorem vcTakeBalZ0 (xs : (List AV)) (e : Int) (h : (tt ∧ T1 ∧ tt ∧ T1 ∧ (T1 ∧ e = 0 ∧ (isBytes xs) ∧ 1 ≤ (List.length xs) ∧ (hdB (bytesL xs)) < 128 ∧ (hdB (bytesL xs)) ≤ 4294967295) ∧ ∀ v0 : Int, (v0 = (hdB (bytesL xs))) → ∀ v2 : (List AV), (v2 = (bytesAV (@List.drop.{0} UInt8 1 (bytesL xs)))) → ∀ v4 : Int, (v4 = 0) → T1 ∧ T1 ∧ tt ∧ T1 ∧ (T1 ∧ True) ∧ T1 ∧ (bif (Bool.not (balOK (IntKind.wrap IntKind.u32 v0))) then (tt ∧ T1 ∧ False) else (tt ∧ T1 ∧ T1 ∧ tt ∧ tt ∧ ((bytesAV (@List.drop.{0} UInt8 1 (bytesL xs))) = v2 ∧ (0 : Int) = v4 ∧ (hdB (bytesL xs)) = (IntKind.wrap IntKind.u32 v0) ∧ True) ∧ tt)))) : inTakeBalZ0 xs e :=
  Eq.mp (show _ = _ by kernel_rfl) h
theorem vcMtakeZ0 (xs : (List AV)) (e : Int) (h : let w1_x := (tt ∧ T1 ∧ False); (tt ∧ T1 ∧ tt ∧ T1 ∧ (T1 ∧ e = 0 ∧ (isBytes xs) ∧ 1 ≤ (List.length xs)) ∧ ∀ v0 : Int, let w0_0 := (IntKind.wrap IntKind.i64 v0); (v0 = (hdB (bytesL xs))) → ∀ v2 : (List AV), (v2 = (bytesAV (@List.drop.{0} UInt8 1 (bytesL xs)))) → ∀ v4 : Int, (v4 = 0) → T1 ∧ T1 ∧ T1 ∧ tt ∧ tt ∧ T1 ∧ tt ∧ T1 ∧ T1 ∧ (bif (decide (w0_0 < 1)) then (tt ∧ tt ∧ T1 ∧ False) else (T1 ∧ tt ∧ T1 ∧ T1 ∧ (bif (decide ((7 : Int) < w0_0)) then w1_x else (tt ∧ T1 ∧ (T1 ∧ v4 = 0 ∧ (isBytes v2) ∧ 1 ≤ (List.length v2)) ∧ ∀ v6 : Int, (v6 = (hdB (bytesL v2))) → ∀ v8 : (List AV), (v8 = (bytesAV (@List.drop.{0} UInt8 1 (bytesL v2)))) → ∀ v10 : Int, (v10 = 0) → T1 ∧ T1 ∧ (T1 ∧ v10 = 0 ∧ (isBytes v8) ∧ 1 ≤ (List.length v8)) ∧ ∀ v12 : Int, (v12 = (hdB (bytesL v8))) → ∀ v14 : (List AV), (v14 = (bytesAV (@List.drop.{0} UInt8 1 (bytesL v8)))) → ∀ v16 : Int, (v16 = 0) → T1 ∧ T1 ∧ tt ∧ T1 ∧ tt ∧ tt ∧ T1 ∧ tt ∧ (T1 ∧ True) ∧ T1 ∧ T1 ∧ (bif (Bool.not (repOK (IntKind.wrap IntKind.i64 v6))) then (tt ∧ tt ∧ T1 ∧ False) else (T1 ∧ tt ∧ (T1 ∧ True) ∧ T1 ∧ T1 ∧ (bif (Bool.not (repOK (IntKind.wrap IntKind.i64 v12))) then w1_x else (tt ∧ T1 ∧ (T1 ∧ v16 = 0 ∧ (isBytes v14) ∧ 2 ≤ (List.length v14) ∧ (hdB (bytesL v14)) ≤ 6 ∧ (hdB (@List.drop.{0} UInt8 1 (bytesL v14))) < 128) ∧ ∀ v18 : Int, (v18 = (hdB (bytesL v14))) → ∀ v20 : Int, (v20 = (hdB (@List.drop.{0} UInt8 1 (bytesL v14)))) → ∀ v22 : (List AV), (v22 = (bytesAV (@List.drop.{0} UInt8 2 (bytesL v14)))) → ∀ v24 : Int, (v24 = 0) → T1 ∧ tt ∧ tt ∧ T1 ∧ (T1 ∧ v24 = 0 ∧ (isBytes v22) ∧ 1 ≤ (List.length v22) ∧ (hdB (bytesL v22)) < 128 ∧ (balOK (hdB (bytesL v22))) = true) ∧ ∀ v26 : Int, (v26 = (hdB (bytesL v22))) → ∀ v28 : (List AV), (v28 = (bytesAV (@List.drop.{0} UInt8 1 (bytesL v22)))) → ∀ v30 : Int, (v30 = 0) → T1 ∧ tt ∧ tt ∧ T1 ∧ (T1 ∧ v30 = 0 ∧ (isBytes v28) ∧ 1 ≤ (List.length v28) ∧ (hdB (bytesL v28)) = 0) ∧ ∀ v32 : (List AV), (v32 = (bytesAV (@List.drop.{0} UInt8 1 (bytesL v28)))) → ∀ v34 : Int, (v34 = 0) → T1 ∧ tt ∧ tt ∧ T1 ∧ tt ∧ T1 ∧ (bif (w0_0 != 6) then w1_x else (tt ∧ tt ∧ tt ∧ tt ∧ tt ∧ ((@List.nil.{0} AV) = v32 ∧ (0 : Int) = v34 ∧ (6 : Int) = w0_0 ∧ (2 : Int) = (IntKind.wrap IntKind.i64 v6) ∧ (0 : Int) = (IntKind.wrap IntKind.i64 v12) ∧ (1 : Int) = v18 ∧ (9 : Int) = v20 ∧ (10 : Int) = v26 ∧ false = false ∧ (0 : Int) = 0 ∧ (0 : Int) = 0 ∧ (0 : Int) = 0 ∧ (0 : Int) = 0 ∧ (0 : Int) = 0 ∧ false = false ∧ (0 : Int) = 0 ∧ (0 : Int) = 0 ∧ (@List.nil.{0} UInt8) = [] ∧ (0 : Int) = 0 ∧ (@List.nil.{0} UInt8) = [] ∧ (0 : Int) = 0 ∧ (0 : Int) = 0 ∧ (0 : Int) = 0 ∧ (0 : Int) = 0 ∧ (0 : Int) = 0 ∧ (0 : Int) = 0 ∧ (0 : Int) = 0 ∧ (0 : Int) = 0 ∧ (0 : Int) = 0 ∧ (0 : Int) = 0 ∧ (0 : Int) = 0 ∧ True) ∧ tt)))))))))))) : inMtakeZ0 xs e :=
  Eq.mp (show _ = _ by kernel_rfl) h
theorem vcMopenZ0 (xs : (List AV)) (h : let w0_x := (@List.nil.{0} UInt8); (tt ∧ T1 ∧ T1 ∧ tt ∧ T1 ∧ T1 ∧ T1 ∧ (bif (decide ((512 : Int) < ((List.length xs) : Int))) then (tt ∧ T1 ∧ tt ∧ T1 ∧ tt ∧ tt ∧ ((6 : Int) = 0 ∧ (2 : Int) = 0 ∧ (0 : Int) = 0 ∧ (1 : Int) = 0 ∧ (9 : Int) = 0 ∧ (10 : Int) = 0 ∧ false = false ∧ (0 : Int) = 0 ∧ (0 : Int) = 0 ∧ (0 : Int) = 0 ∧ (0 : Int) = 0 ∧ (0 : Int) = 0 ∧ false = false ∧ (0 : Int) = 0 ∧ (0 : Int) = 0 ∧ w0_x = [] ∧ (0 : Int) = 0 ∧ w0_x = [] ∧ (0 : Int) = 0 ∧ (0 : Int) = 0 ∧ (0 : Int) = 0 ∧ (0 : Int) = 0 ∧ (0 : Int) = 0 ∧ (0 : Int) = 0 ∧ (0 : Int) = 0 ∧ (0 : Int) = 0 ∧ (0 : Int) = 0 ∧ (0 : Int) = 0 ∧ (0 : Int) = 0 ∧ (0 : Int) = 11 ∧ True) ∧ tt) else (tt ∧ T1 ∧ (T1 ∧ (isBytes xs) ∧ (List.length xs) ≤ 140737488355100) ∧ ∀ v0 : (List AV), (v0 = (bytesAV (openV (bytesL xs)))) → ∀ v2 : Int, (v2 = (openE (bytesL xs))) → T1 ∧ T1 ∧ T1 ∧ T1 ∧ T1 ∧ tt ∧ T1 ∧ T1 ∧ (bif (v2 != 0) then (tt ∧ T1 ∧ T1 ∧ tt ∧ T1 ∧ tt ∧ tt ∧ ((6 : Int) = 0 ∧ (2 : Int) = 0 ∧ (0 : Int) = 0 ∧ (1 : Int) = 0 ∧ (9 : Int) = 0 ∧ (10 : Int) = 0 ∧ false = false ∧ (0 : Int) = 0 ∧ (0 : Int) = 0 ∧ (0 : Int) = 0 ∧ (0 : Int) = 0 ∧ (0 : Int) = 0 ∧ false = false ∧ (0 : Int) = 0 ∧ (0 : Int) = 0 ∧ w0_x = [] ∧ (0 : Int) = 0 ∧ w0_x = [] ∧ (0 : Int) = 0 ∧ (0 : Int) = 0 ∧ (0 : Int) = 0 ∧ (0 : Int) = 0 ∧ (0 : Int) = 0 ∧ (0 : Int) = 0 ∧ (0 : Int) = 0 ∧ (0 : Int) = 0 ∧ (0 : Int) = 0 ∧ (0 : Int) = 0 ∧ (0 : Int) = 0 ∧ (0 : Int) = v2 ∧ True) ∧ tt) else (tt ∧ T1 ∧ (T1 ∧ (isBytes v0) ∧ (List.length v0) ≤ 140737488355328) ∧ ∀ v4 : (List AV), (v4 = v0) → ∀ v6 : Int, (v6 = 0) → T1 ∧ tt ∧ T1 ∧ (T1 ∧ v6 = 0 ∧ v4 = (bytesAV msgZ)) ∧ T1 ∧ tt ∧ tt ∧ T1 ∧ (T1 ∧ (0 : Int) = 0 ∧ (@List.nil.{0} AV) = []) ∧ ∀ v8 : Int, (v8 = 0) → ∀ v10 : (List AV), (v10 = []) → ∀ v12 : Int, (v12 = 0) → T1 ∧ tt ∧ T1 ∧ T1 ∧ (bif (v8 != 0) then (tt ∧ T1 ∧ T1 ∧ tt ∧ T1 ∧ tt ∧ tt ∧ ((6 : Int) = 0 ∧ (2 : Int) = 0 ∧ (0 : Int) = 0 ∧ (1 : Int) = 0 ∧ (9 : Int) = 0 ∧ (10 : Int) = 0 ∧ false = false ∧ (0 : Int) = 0 ∧ (0 : Int) = 0 ∧ (0 : Int) = 0 ∧ (0 : Int) = 0 ∧ (0 : Int) = 0 ∧ false = false ∧ (0 : Int) = 0 ∧ (0 : Int) = 0 ∧ w0_x = [] ∧ (0 : Int) = 0 ∧ w0_x = [] ∧ (0 : Int) = 0 ∧ (0 : Int) = 0 ∧ (0 : Int) = 0 ∧ (0 : Int) = 0 ∧ (0 : Int) = 0 ∧ (0 : Int) = 0 ∧ (0 : Int) = 0 ∧ (0 : Int) = 0 ∧ (0 : Int) = 0 ∧ (0 : Int) = 0 ∧ (0 : Int) = 0 ∧ (0 : Int) = v8 ∧ True) ∧ tt) else (tt ∧ tt ∧ (T1 ∧ (smallX (InstP.mk 0 0 0 0 0 false (CmdP.mk 0 0 [] 0 [] 0 0 0) (AttP.mk 0 0 0 0 0 0 0 0)))) ∧ T1 ∧ tt ∧ tt ∧ tt ∧ T1 ∧ tt ∧ tt ∧ ((6 : Int) = 6 ∧ (2 : Int) = 2 ∧ (0 : Int) = 0 ∧ (1 : Int) = 1 ∧ (9 : Int) = 9 ∧ (10 : Int) = 10 ∧ false = false ∧ (0 : Int) = 0 ∧ (0 : Int) = 0 ∧ (0 : Int) = 0 ∧ (0 : Int) = 0 ∧ (0 : Int) = 0 ∧ false = false ∧ (0 : Int) = 0 ∧ (0 : Int) = 0 ∧ w0_x = [] ∧ (0 : Int) = 0 ∧ w0_x = [] ∧ (0 : Int) = 0 ∧ (0 : Int) = 0 ∧ (0 : Int) = 0 ∧ (0 : Int) = 0 ∧ (0 : Int) = 0 ∧ (0 : Int) = 0 ∧ (0 : Int) = 0 ∧ (0 : Int) = 0 ∧ (0 : Int) = 0 ∧ (0 : Int) = 0 ∧ (0 : Int) = 0 ∧ (0 : Int) = 0 ∧ True) ∧ tt)))))))) : inMopenZ0 xs :=
  Eq.mp (show _ = _ by kernel_rfl) h
theorem vcOutTruthZ0 (xs : (List AV)) (p : Nat) (q : Nat) (t : Bool) (h : let q0 := (List.length xs); let w0_x := (bytesAV (@catL UInt8 (bytesL xs) (encByte 0))); let w1_x := ((q0 = q0 ∧ True) ∧ (isBytes xs) ∧ (q0 + 1) ≤ 140737488355328); (tt ∧ T1 ∧ tt ∧ T1 ∧ (bif t then (tt ∧ T1 ∧ w1_x ∧ ∀ v0 : (List AV), (v0 = (bytesAV (@catL UInt8 (bytesL xs) (encByte 1)))) → ∀ v2 : Nat, (v2 = (List.length (bytesAV (@catL UInt8 (bytesL xs) (encByte 1))))) → T1 ∧ tt ∧ tt ∧ ((0 < 1 ∧ w0_x = v0 ∧ v2 = (List.length v0)) ∧ T1 ∧ True) ∧ tt) else (tt ∧ T1 ∧ w1_x ∧ ∀ v0 : (List AV), (v0 = w0_x) → ∀ v2 : Nat, (v2 = (List.length w0_x)) → T1 ∧ tt ∧ tt ∧ ((0 < 1 ∧ w0_x = v0 ∧ v2 = (List.length v0)) ∧ T1 ∧ True) ∧ tt)))) : inOutTruthZ0 xs p q t :=
  Eq.mp (show _ = _ by kernel_rfl) h
theorem vcMframeZ0 (m : MsgP) (h : let w0_x := (bytesAV (@catL UInt8 (@List.nil.{0} UInt8) (encByte (IntKind.wrap IntKind.u8 m.k)))); (tt ∧ T1 ∧ T1 ∧ tt ∧ tt ∧ (T1 ∧ (smallX m.x)) ∧ T1 ∧ (bif (Bool.not (rightM m)) then (tt ∧ T1 ∧ tt ∧ tt ∧ ((bytesAV (sealL msgZ)) = [] ∧ True) ∧ tt) else (tt ∧ T1 ∧ T1 ∧ T1 ∧ tt ∧ T1 ∧ T1 ∧ tt ∧ T1 ∧ ((@Eq.{1} Nat 0 0 ∧ True) ∧ (isBytes []) ∧ 1 ≤ 140737488355328) ∧ ∀ v0 : (List AV), let w1_0 := (bytesAV (@catL UInt8 (bytesL v0) (encByte (IntKind.wrap IntKind.u8 m.src)))); (v0 = w0_x) → ∀ v2 : Nat, (v2 = (List.length w0_x)) → T1 ∧ tt ∧ T1 ∧ ((v2 = (List.length v0) ∧ True) ∧ (isBytes v0) ∧ ((List.length v0) + 1) ≤ 140737488355328) ∧ ∀ v4 : (List AV), let w2_4 := (bytesAV (@catL UInt8 (bytesL v4) (encByte (IntKind.wrap IntKind.u8 m.dst)))); (v4 = w1_0) → ∀ v6 : Nat, (v6 = (List.length w1_0)) → T1 ∧ tt ∧ T1 ∧ ((v6 = (List.length v4) ∧ True) ∧ (isBytes v4) ∧ ((List.length v4) + 1) ≤ 140737488355328) ∧ ∀ v8 : (List AV), let w3_8 := (bytesAV (@catL UInt8 (@catL UInt8 (bytesL v8) (encByte m.r)) (encByte m.s))); (v8 = w2_4) → ∀ v10 : Nat, (v10 = (List.length w2_4)) → tt ∧ tt ∧ T1 ∧ tt ∧ T1 ∧ ((v10 = (List.length v8) ∧ True) ∧ (isBytes v8) ∧ ((List.length v8) + 2) ≤ 140737488355328 ∧ ((0 : Int) ≤ m.r ∧ m.r < 128) ∧ (0 : Int) ≤ m.s ∧ m.s < 128) ∧ ∀ v12 : (List AV), (v12 = w3_8) → ∀ v14 : Nat, (v14 = (List.length w3_8)) → tt ∧ T1 ∧ tt ∧ T1 ∧ ((v14 = (List.length v12) ∧ True) ∧ (isBytes v12) ∧ ((List.length v12) + 1) ≤ 140737488355328 ∧ (0 : Int) ≤ m.b ∧ m.b < 128) ∧ ∀ v16 : (List AV), (v16 = (bytesAV (@catL UInt8 (bytesL v12) (encByte m.b)))) → ∀ v18 : Nat, (v18 = (List.length (bytesAV (@catL UInt8 (bytesL v12) (encByte m.b))))) → tt ∧ T1 ∧ T1 ∧ tt ∧ ((v18 = (List.length v16) ∧ True) ∧ (isBytes v16) ∧ ((List.length v16) + 1) ≤ 140737488355328 ∧ m.ok = false) ∧ ∀ v20 : (List AV), (v20 = (bytesAV (@catL UInt8 (bytesL v16) (encByte 0)))) → ∀ v22 : Nat, (v22 = (List.length (bytesAV (@catL UInt8 (bytesL v16) (encByte 0))))) → tt ∧ T1 ∧ tt ∧ T1 ∧ (bif (m.k != 6) then (tt ∧ T1 ∧ tt ∧ T1 ∧ False) else (tt ∧ T1 ∧ ((v22 = (List.length v20) ∧ True) ∧ (isBytes v20) ∧ (List.length v20) ≤ 140737488355328) ∧ ∀ v24 : (List AV), (v24 = v20) → ∀ v26 : (List AV), (v26 = v20) → ∀ v28 : Nat, (v28 = (List.length v20)) → (T1 ∧ (isBytes v24) ∧ (List.length v24) ≤ 140737488355000) ∧ ∀ v30 : (List AV), (v30 = (bytesAV (sealL (bytesL v24)))) → ∀ v32 : Nat, (v32 = (List.length (bytesAV (sealL (bytesL v24))))) → T1 ∧ tt ∧ tt ∧ ((bytesAV (sealL msgZ)) = v30 ∧ True) ∧ tt)))))) : inMframeZ0 m :=
  Eq.mp (show _ = _ by kernel_rfl) h
theorem vcAnchor110 (h : let q0 := (InstP.mk 0 0 0 0 0 false (CmdP.mk 0 0 [] 0 [] 0 0 0) (AttP.mk 0 0 0 0 0 0 0 0)); (tt ∧ T1 ∧ tt ∧ T1 ∧ (T1 ∧ True) ∧ (T1 ∧ True) ∧ T1 ∧ tt ∧ tt ∧ tt ∧ (T1 ∧ (MsgP.mk 6 2 0 1 9 10 false q0) = mZ) ∧ ∀ v0 : (List AV), (v0 = (bytesAV (sealL msgZ))) → T1 ∧ tt ∧ T1 ∧ (T1 ∧ v0 = (bytesAV (sealL msgZ))) ∧ T1 ∧ T1 ∧ T1 ∧ T1 ∧ tt ∧ T1 ∧ tt ∧ tt ∧ (T1 ∧ (smallX q0)) ∧ T1 ∧ (bif (rightM (MsgP.mk 6 2 0 1 9 10 false q0)) then (T1 ∧ T1 ∧ T1 ∧ T1 ∧ T1 ∧ (bif (((List.length v0) : Int) == 11) then (tt ∧ tt ∧ T1 ∧ T1 ∧ T1 ∧ T1 ∧ T1 ∧ T1 ∧ T1 ∧ tt ∧ tt ∧ (tt ∧ True) ∧ tt) else (false = false ∧ T1 ∧ false = false ∧ T1 ∧ tt ∧ tt ∧ (true = false ∧ True) ∧ tt))) else (false = false ∧ T1 ∧ false = false ∧ T1 ∧ false = false ∧ T1 ∧ tt ∧ tt ∧ (true = false ∧ True) ∧ tt)))) : inAnchor110 :=
  Eq.mp (show _ = _ by kernel_rfl) h
end Go.Proofs.YtpomloangafbkaaGreatDoor
/- The document's example of a message: the conditions hold. -/
namespace Go.Proofs.YtpomloangafbkaaGreatDoor
set_option linter.unusedVariables false
set_option linter.unusedSimpArgs false
open Go.RowKit
set_option maxRecDepth 100000
theorem cutL_to {α : Type} (l : List α) (k : Nat) : cutL l 0 k = l.take k := by simp [cutL]
theorem cutL_from {α : Type} (l : List α) (k : Nat) : cutL l k l.length = l.drop k := by simp [cutL]
theorem hdB_range (l : List UInt8) : 0 ≤ hdB l ∧ hdB l ≤ 255 := by
  have := (l.getD 0 0).toNat_lt
  unfold hdB; omega
theorem hd_rd {l : List UInt8} (h : 1 ≤ l.length) : rdInt (elemAt (bytesAV l) 0) 0 = hdB l := by
  rw [rdInt_bytes]; rfl
theorem okTakeZ0 : OkTakeZ0 := by
  intro xs e k hq
  obtain ⟨rfl, rfl, hb, hl⟩ := hq
  refine vcTakeZ0 xs 0 1 ?_
  obtain ⟨l, rfl⟩ := hb.get
  rw [length_bytesAV] at hl
  have e1 : (1 : Int).toNat = 1 := rfl
  simp only [true_and, and_true, forall_eq, eq_self, bytesL_bytesAV, length_bytesAV, cutL_bytes, e1, cutL_to, cutL_from]
  refine cond_prop (fun h => by simp at h) fun _ => cond_prop (fun h => by have := of_decide_eq_true h; omega) fun _ => ?_
  and_intros
  all_goals first | omega | exact okWidth_bytes l | simp [bytesAV]
theorem okByteZ0 : OkByteZ0 := by
  intro xs e hq
  obtain ⟨rfl, hb, hl⟩ := hq
  refine vcByteZ0 xs 0 ?_
  obtain ⟨l, rfl⟩ := hb.get
  rw [length_bytesAV] at hl
  have h1 : (l.take 1).length = 1 := by simp; omega
  have hr : rdInt (elemAt (bytesAV (l.take 1)) 0) 0 = hdB l := by
    rw [rdInt_bytes]
    unfold hdB
    cases l with
    | nil => simp at hl
    | cons a r => rfl
  simp only [true_and, and_true, forall_eq, eq_self, bytesL_bytesAV, length_bytesAV, isBytes_bytesAV, h1, hr]
  refine ⟨by omega, cond_prop (fun h => by simp at h) fun _ => ⟨⟨by omega, by omega, okElem_bytes (by omega)⟩, okRead_bytes (by omega)⟩⟩
theorem okTruthZ0 : OkTruthZ0 := by
  intro xs e hq
  obtain ⟨rfl, hb, hl, hh⟩ := hq
  refine vcTruthZ0 xs 0 ?_
  simp only [true_and, and_true, forall_eq, eq_self, hh]
  exact ⟨⟨hb, hl⟩, cond_prop (fun h => by simp at h) fun _ => cond_prop (fun _ => by decide) fun h => by simp at h⟩
theorem short_one : ∀ b : Fin 128, intBits .or .u64 0 (IntKind.u64.wrap (IntKind.u64.wrap (intBits .and .u8 (b.val : Int) 127) * 1)) = (b.val : Int) := by decide +kernel
theorem okReadShortZ0 : OkReadShortZ0 := by
  intro xs hq
  obtain ⟨hb, hl, hh⟩ := hq
  refine vcReadShortZ0 xs ?_
  obtain ⟨l, rfl⟩ := hb.get
  rw [length_bytesAV] at hl
  rw [bytesL_bytesAV] at hh
  have h0 := (hdB_range l).1
  have hs : intBits .or .u64 0 (IntKind.u64.wrap (IntKind.u64.wrap (intBits .and .u8 (hdB l) 127) * 1)) = hdB l := by
    have := short_one ⟨(hdB l).toNat, by omega⟩
    have e : (((hdB l).toNat : Nat) : Int) = hdB l := by omega
    simp only [e] at this
    exact this
  simp only [true_and, and_true, forall_eq, eq_self, bytesL_bytesAV, length_bytesAV, hd_rd hl, hs]
  refine cond_prop (fun h => by have := of_decide_eq_true h; omega) fun _ => ?_
  have o : okElem 1 (bytesAV l) 0 := okElem_bytes (by omega)
  have r : okRead [Kd.int .u8] (elemAt (bytesAV l) 0) 0 := okRead_bytes (by omega)
  refine ⟨⟨by omega, by omega, o⟩, r, by omega, ⟨by omega, by omega, o⟩, r, cond_prop (fun _ => ⟨⟨by omega, by omega, o⟩, r, ?_⟩) fun h => by have := of_decide_eq_false h; omega⟩
  exact cond_prop (fun _ => trivial) fun _ => trivial
theorem okShortZ0 : OkShortZ0 := by
  intro xs e m hq
  obtain ⟨rfl, hb, hl, hh, hm⟩ := hq
  refine vcShortZ0 xs 0 m ?_
  simp only [true_and, and_true, forall_eq, eq_self]
  refine cond_prop (fun h => by simp at h) fun _ => ⟨⟨hb, hl, hh⟩, cond_prop (fun h => by simp at h) fun _ => cond_prop (fun h => by have := of_decide_eq_true h; omega) fun _ => ?_⟩
  exact ⟨hb, hl⟩
theorem okFailedZ0 : OkFailedZ0 := by
  intro xs e hq
  cases hq
  refine vcFailedZ0 xs 0 ?_
  simp
theorem okLeftZ0 : OkLeftZ0 := by
  intro xs e hq
  obtain ⟨rfl, rfl⟩ := hq
  refine vcLeftZ0 [] 0 ?_
  simp
theorem okEndZ0 : OkEndZ0 := by
  intro xs e hq
  obtain ⟨rfl, rfl⟩ := hq
  refine vcEndZ0 [] 0 ?_
  simp
theorem okNewIn0 : OkNewIn0 := by
  intro xs hq
  refine vcNewIn0 xs ?_
  simp only [true_and, and_true, forall_eq, eq_self]
  exact hq
theorem okTakeIDZ0 : OkTakeIDZ0 := by
  intro xs e hq
  obtain ⟨rfl, hb, hl, hh, hm⟩ := hq
  refine vcTakeIDZ0 xs 0 ?_
  obtain ⟨l, rfl⟩ := hb.get
  rw [length_bytesAV] at hl
  rw [bytesL_bytesAV] at hh hm
  have r1 := hdB_range l
  have r2 := hdB_range (l.drop 1)
  have hd2 : List.drop 1 (List.drop 1 l) = List.drop 2 l := by rw [List.drop_drop]
  have hl1 : (l.drop 1).length = l.length - 1 := by simp
  simp only [true_and, and_true, forall_eq, eq_self, bytesL_bytesAV, length_bytesAV, isBytes_bytesAV, hd2, hl1]
  refine ⟨by omega, cond_prop (fun h => by have := of_decide_eq_true h; omega) fun _ => ⟨⟨by omega, by omega, by omega⟩, ?_⟩⟩
  rw [wrap_i64 (n := hdB l) (by omega) (by omega), wrap_i64 (n := hdB (l.drop 1)) (by omega) (by omega)]
  exact ⟨rfl, rfl⟩
theorem okTakeBalZ0 : OkTakeBalZ0 := by
  intro xs e hq
  obtain ⟨rfl, hb, hl, hh, hm⟩ := hq
  refine vcTakeBalZ0 xs 0 ?_
  have r1 := hdB_range (bytesL xs)
  have w : IntKind.u32.wrap (hdB (bytesL xs)) = hdB (bytesL xs) := by rw [IntKind.wrap_u32]; omega
  simp only [true_and, and_true, forall_eq, eq_self, w]
  exact ⟨⟨hb, hl, hh, by omega⟩, cond_prop (fun h => by rw [hm] at h; simp at h) fun _ => trivial⟩
theorem okOutTruthZ0 : OkOutTruthZ0 := by
  intro xs p q t hq
  obtain ⟨hb, hl, rfl⟩ := hq
  refine vcOutTruthZ0 xs p q false ?_
  simp only [true_and, and_true, forall_eq, eq_self, cond_false]
  exact ⟨⟨hb, hl⟩, by omega⟩
theorem okMtakeZ0 : OkMtakeZ0 := by
  intro xs e hq
  obtain ⟨rfl, rfl⟩ := hq
  refine vcMtakeZ0 _ 0 ?_
  have d0 : List.drop 1 msgZ = [2, 0, 1, 9, 10, 0] := rfl
  have d1 : List.drop 1 ([2, 0, 1, 9, 10, 0] : List UInt8) = [0, 1, 9, 10, 0] := rfl
  have d2 : List.drop 1 ([0, 1, 9, 10, 0] : List UInt8) = [1, 9, 10, 0] := rfl
  have d3 : List.drop 2 ([1, 9, 10, 0] : List UInt8) = [10, 0] := rfl
  have d4 : List.drop 1 ([1, 9, 10, 0] : List UInt8) = [9, 10, 0] := rfl
  have d5 : List.drop 1 ([10, 0] : List UInt8) = [0] := rfl
  have d6 : List.drop 1 ([0] : List UInt8) = [] := rfl
  have h0 : hdB msgZ = 6 := rfl
  have h1 : hdB [2, 0, 1, 9, 10, 0] = 2 := rfl
  have h2 : hdB [0, 1, 9, 10, 0] = 0 := rfl
  have h3 : hdB [1, 9, 10, 0] = 1 := rfl
  have h4 : hdB [9, 10, 0] = 9 := rfl
  have h5 : hdB [10, 0] = 10 := rfl
  have h6 : hdB [0] = 0 := rfl
  have w0 : IntKind.i64.wrap 6 = 6 := by decide
  have w1 : IntKind.i64.wrap 2 = 2 := by decide
  have w2 : IntKind.i64.wrap 0 = 0 := by decide
  have l0 : msgZ.length = 7 := rfl
  simp only [true_and, and_true, forall_eq, eq_self, bytesL_bytesAV, length_bytesAV, isBytes_bytesAV, d0, d1, d2, d3, d4, d5, d6, h0, h1, h2, h3, h4, h5, h6, w0, w1, w2, l0, List.length_cons, List.length_nil]
  have b : balOK 10 = true := by decide
  have p1 : repOK 2 = true := by decide
  have p2 : repOK 0 = true := by decide
  simp [b, p1, p2, bytesAV]
theorem open_sealZ (l : List UInt8) : openV (sealL l) = l ∧ openE (sealL l) = 0 := by
  have hl : (sealL l).length = l.length + 4 := seal_len l
  have hb : bodyL (sealL l) = l := by
    unfold bodyL
    rw [hl, Nat.add_sub_cancel]
    unfold sealL
    simp
  have ho : openOK (sealL l) = true := by
    unfold openOK
    rw [hb, hl, Nat.add_sub_cancel]
    unfold sealL
    simp
  exact ⟨by unfold openV; rw [ho, hb]; rfl, by unfold openE; rw [if_neg (by omega), ho]; rfl⟩
theorem okMopenZ0 : OkMopenZ0 := by
  intro xs hq
  cases hq
  refine vcMopenZ0 _ ?_
  have hl : (sealL msgZ).length = 11 := seal_len msgZ
  have l0 : msgZ.length = 7 := rfl
  simp only [true_and, and_true, forall_eq, eq_self, bytesL_bytesAV, length_bytesAV, isBytes_bytesAV, hl, (open_sealZ msgZ).1, (open_sealZ msgZ).2, l0]
  refine cond_prop (fun h => by simp at h) fun _ => ⟨by omega, cond_prop (fun h => by simp at h) fun _ => ⟨by omega, cond_prop (fun h => by simp at h) fun _ => ?_⟩⟩
  exact ⟨by simp, by simp⟩
theorem okMframeZ0 : OkMframeZ0 := by
  intro m hq
  cases hq
  refine vcMframeZ0 mZ ?_
  have e0 : IntKind.u8.wrap mZ.k = 6 := by decide
  have e1 : IntKind.u8.wrap mZ.src = 2 := by decide
  have e2 : IntKind.u8.wrap mZ.dst = 0 := by decide
  have hr : rightM mZ = true := by decide
  have ef : catL (catL (catL (catL (catL (catL (catL [] (encByte 6)) (encByte 2)) (encByte 0)) (encByte mZ.r)) (encByte mZ.s)) (encByte mZ.b)) (encByte 0) = msgZ := rfl
  have l1 : ∀ v, (encByte v).length = 1 := fun v => rfl
  simp only [true_and, and_true, forall_eq, eq_self, bytesL_bytesAV, length_bytesAV, isBytes_bytesAV, e0, e1, e2, hr, catL_length, l1, List.length_nil, ef, Bool.not_true, cond_false]
  have s0 : smallX mZ.x := ⟨by show ([] : List UInt8).length ≤ 900000; simp, by show ([] : List UInt8).length ≤ 900000; simp⟩
  have k0 : (mZ.k != 6) = false := rfl
  rw [k0]
  refine ⟨s0, ?_⟩
  and_intros
  all_goals first | exact isBytes_nil | decide | omega | trivial | exact rfl
theorem okAnchor110 : OkAnchor110 := by
  intro hq
  refine vcAnchor110 ?_
  have hl : (sealL msgZ).length = 11 := seal_len msgZ
  have s0 : smallX (InstP.mk 0 0 0 0 0 false (CmdP.mk 0 0 [] 0 [] 0 0 0) (AttP.mk 0 0 0 0 0 0 0 0)) := ⟨by show ([] : List UInt8).length ≤ 900000; simp, by show ([] : List UInt8).length ≤ 900000; simp⟩
  have hr : rightM (MsgP.mk 6 2 0 1 9 10 false (InstP.mk 0 0 0 0 0 false (CmdP.mk 0 0 [] 0 [] 0 0 0) (AttP.mk 0 0 0 0 0 0 0 0))) = true := by decide
  simp only [true_and, and_true, forall_eq, eq_self, length_bytesAV, hl, hr, s0, cond_true]
  exact ⟨rfl, cond_prop (fun _ => trivial) fun h => by simp at h⟩
end Go.Proofs.YtpomloangafbkaaGreatDoor
/- The contracts are met. -/
namespace Go.Proofs.YtpomloangafbkaaGreatDoor
set_option linter.unusedVariables false
set_option linter.unusedSimpArgs false
open Go.RowKit
theorem sndTakeZ : Sound Tryz.prog (lookΓ gamTakeZ) := sound_of _ fun p hp => by
  simp [gamTakeZ] at hp
set_option maxHeartbeats 4000000 in
theorem meetsTakeZ : Meets Tryz.prog 146 takeZF := by
  refine meets_of_awp (Γ := lookΓ gamTakeZ) (L := fun _ _ => none) sndTakeZ mixedOrders Tryz.func146 rfl Tryz.call146 ?_
  intro args q r hF hq ho
  unfold takeZF at hF
  split at hF
  · cases hF
    exact ⟨by simp only [List.length_cons, List.length_nil]; decide, okTakeZ0 _ _ _ hq⟩
  · cases hF
theorem sndByteZ : Sound Tryz.prog (lookΓ gamByteZ) := sound_of _ fun p hp => by
  simp only [gamByteZ, List.mem_cons, List.not_mem_nil, or_false] at hp
  subst hp
  exact meetsTakeZ.orNil
set_option maxHeartbeats 4000000 in
theorem meetsByteZ : Meets Tryz.prog 113 byteZF := by
  refine meets_of_awp (Γ := lookΓ gamByteZ) (L := fun _ _ => none) sndByteZ mixedOrders Tryz.func113 rfl Tryz.call113 ?_
  intro args q r hF hq ho
  unfold byteZF at hF
  split at hF
  · cases hF
    exact ⟨by simp only [List.length_cons, List.length_nil]; decide, okByteZ0 _ _ hq⟩
  · cases hF
theorem sndTruthZ : Sound Tryz.prog (lookΓ gamTruthZ) := sound_of _ fun p hp => by
  simp only [gamTruthZ, List.mem_cons, List.not_mem_nil, or_false] at hp
  subst hp
  exact meetsByteZ.orNil
set_option maxHeartbeats 4000000 in
theorem meetsTruthZ : Meets Tryz.prog 117 truthZF := by
  refine meets_of_awp (Γ := lookΓ gamTruthZ) (L := fun _ _ => none) sndTruthZ mixedOrders Tryz.func117 rfl Tryz.call117 ?_
  intro args q r hF hq ho
  unfold truthZF at hF
  split at hF
  · cases hF
    exact ⟨by simp only [List.length_cons, List.length_nil]; decide, okTruthZ0 _ _ hq⟩
  · cases hF
theorem sndReadShortZ : Sound Tryz.prog (lookΓ gamReadShortZ) := sound_of _ fun p hp => by
  simp [gamReadShortZ] at hp
set_option maxHeartbeats 4000000 in
theorem meetsReadShortZ : Meets Tryz.prog 168 readShortZF := by
  refine meets_of_awp (Γ := lookΓ gamReadShortZ) (L := fun args => match args with | [.val (.sl xs .no)] => lpReadShortZ0 xs | _ => fun _ => none) sndReadShortZ mixedOrders Tryz.func168 rfl Tryz.call168 ?_
  intro args q r hF hq ho
  unfold readShortZF at hF
  split at hF
  · cases hF
    exact ⟨by simp only [List.length_cons, List.length_nil]; decide, okReadShortZ0 _ hq⟩
  · cases hF
theorem sndShortZ : Sound Tryz.prog (lookΓ gamShortZ) := sound_of _ fun p hp => by
  simp only [gamShortZ, List.mem_cons, List.not_mem_nil, or_false] at hp
  rcases hp with rfl | rfl
  · exact meetsReadShortZ.orNil
  · exact meetsTakeZ.orNil
set_option maxHeartbeats 4000000 in
theorem meetsShortZ : Meets Tryz.prog 147 shortZF := by
  refine meets_of_awp (Γ := lookΓ gamShortZ) (L := fun _ _ => none) sndShortZ mixedOrders Tryz.func147 rfl Tryz.call147 ?_
  intro args q r hF hq ho
  unfold shortZF at hF
  split at hF
  · cases hF
    exact ⟨by simp only [List.length_cons, List.length_nil]; decide, okShortZ0 _ _ _ hq⟩
  · cases hF
theorem sndFailedZ : Sound Tryz.prog (lookΓ gamFailedZ) := sound_of _ fun p hp => by
  simp [gamFailedZ] at hp
set_option maxHeartbeats 4000000 in
theorem meetsFailedZ : Meets Tryz.prog 148 failedZF := by
  refine meets_of_awp (Γ := lookΓ gamFailedZ) (L := fun _ _ => none) sndFailedZ mixedOrders Tryz.func148 rfl Tryz.call148 ?_
  intro args q r hF hq ho
  unfold failedZF at hF
  split at hF
  · cases hF
    exact ⟨by simp only [List.length_cons, List.length_nil]; decide, okFailedZ0 _ _ hq⟩
  · cases hF
theorem sndLeftZ : Sound Tryz.prog (lookΓ gamLeftZ) := sound_of _ fun p hp => by
  simp [gamLeftZ] at hp
set_option maxHeartbeats 4000000 in
theorem meetsLeftZ : Meets Tryz.prog 119 leftZF := by
  refine meets_of_awp (Γ := lookΓ gamLeftZ) (L := fun _ _ => none) sndLeftZ mixedOrders Tryz.func119 rfl Tryz.call119 ?_
  intro args q r hF hq ho
  unfold leftZF at hF
  split at hF
  · cases hF
    exact ⟨by simp only [List.length_cons, List.length_nil]; decide, okLeftZ0 _ _ hq⟩
  · cases hF
theorem sndEndZ : Sound Tryz.prog (lookΓ gamEndZ) := sound_of _ fun p hp => by
  simp only [gamEndZ, List.mem_cons, List.not_mem_nil, or_false] at hp
  subst hp
  exact meetsLeftZ.orNil
set_option maxHeartbeats 4000000 in
theorem meetsEndZ : Meets Tryz.prog 88 endZF := by
  refine meets_of_awp (Γ := lookΓ gamEndZ) (L := fun _ _ => none) sndEndZ mixedOrders Tryz.func88 rfl Tryz.call88 ?_
  intro args q r hF hq ho
  unfold endZF at hF
  split at hF
  · cases hF
    exact ⟨by simp only [List.length_cons, List.length_nil]; decide, okEndZ0 _ _ hq⟩
  · cases hF
theorem sndNewIn : Sound Tryz.prog (lookΓ gamNewIn) := sound_of _ fun p hp => by
  simp only [gamNewIn, List.mem_cons, List.not_mem_nil, or_false] at hp
  subst hp
  exact meetsClone.orNil
set_option maxHeartbeats 4000000 in
theorem meetsNewIn : Meets Tryz.prog 86 newInF := by
  refine meets_of_awp (Γ := lookΓ gamNewIn) (L := fun _ _ => none) sndNewIn mixedOrders Tryz.func86 rfl Tryz.call86 ?_
  intro args q r hF hq ho
  unfold newInF at hF
  split at hF
  · cases hF
    exact ⟨by simp only [List.length_cons, List.length_nil]; decide, okNewIn0 _ hq⟩
  · cases hF
theorem sndTakeIDZ : Sound Tryz.prog (lookΓ gamTakeIDZ) := sound_of _ fun p hp => by
  simp only [gamTakeIDZ, List.mem_cons, List.not_mem_nil, or_false] at hp
  rcases hp with rfl | rfl | rfl
  · exact meetsByteZ.orNil
  · exact meetsShortZ.orNil
  · exact meetsFailedZ.orNil
set_option maxHeartbeats 4000000 in
theorem meetsTakeIDZ : Meets Tryz.prog 115 takeIDZF := by
  refine meets_of_awp (Γ := lookΓ gamTakeIDZ) (L := fun _ _ => none) sndTakeIDZ mixedOrders Tryz.func115 rfl Tryz.call115 ?_
  intro args q r hF hq ho
  unfold takeIDZF at hF
  split at hF
  · cases hF
    exact ⟨by simp only [List.length_cons, List.length_nil]; decide, okTakeIDZ0 _ _ hq⟩
  · cases hF
theorem sndTakeBalZ : Sound Tryz.prog (lookΓ gamTakeBalZ) := sound_of _ fun p hp => by
  simp only [gamTakeBalZ, List.mem_cons, List.not_mem_nil, or_false] at hp
  rcases hp with rfl | rfl
  · exact meetsShortZ.orNil
  · exact meetsBalRight.orNil
set_option maxHeartbeats 4000000 in
theorem meetsTakeBalZ : Meets Tryz.prog 116 takeBalZF := by
  refine meets_of_awp (Γ := lookΓ gamTakeBalZ) (L := fun _ _ => none) sndTakeBalZ mixedOrders Tryz.func116 rfl Tryz.call116 ?_
  intro args q r hF hq ho
  unfold takeBalZF at hF
  split at hF
  · cases hF
    exact ⟨by simp only [List.length_cons, List.length_nil]; decide, okTakeBalZ0 _ _ hq⟩
  · cases hF
theorem sndMtakeZ : Sound Tryz.prog (lookΓ gamMtakeZ) := sound_of _ fun p hp => by
  simp only [gamMtakeZ, List.mem_cons, List.not_mem_nil, or_false] at hp
  rcases hp with rfl | rfl | rfl | rfl | rfl
  · exact meetsByteZ.orNil
  · exact meetsTakeIDZ.orNil
  · exact meetsTakeBalZ.orNil
  · exact meetsTruthZ.orNil
  · exact meetsReplica.orNil
set_option maxHeartbeats 4000000 in
theorem meetsMtakeZ : Meets Tryz.prog 87 mtakeZF := by
  refine meets_of_awp (Γ := lookΓ gamMtakeZ) (L := fun _ _ => none) sndMtakeZ mixedOrders Tryz.func87 rfl Tryz.call87 ?_
  intro args q r hF hq ho
  unfold mtakeZF at hF
  split at hF
  · cases hF
    exact ⟨by simp only [List.length_cons, List.length_nil]; decide, okMtakeZ0 _ _ hq⟩
  · cases hF
theorem sndMopenZ : Sound Tryz.prog (lookΓ gamMopenZ) := sound_of _ fun p hp => by
  simp only [gamMopenZ, List.mem_cons, List.not_mem_nil, or_false] at hp
  rcases hp with rfl | rfl | rfl | rfl | rfl
  · exact meetsOpen.orNil
  · exact meetsNewIn.orNil
  · exact meetsMtakeZ.orNil
  · exact meetsEndZ.orNil
  · exact meetsMright.orNil
set_option maxHeartbeats 4000000 in
theorem meetsMopenZ : Meets Tryz.prog 47 mopenZF := by
  refine meets_of_awp (Γ := lookΓ gamMopenZ) (L := fun _ _ => none) sndMopenZ mixedOrders Tryz.func47 rfl Tryz.call47 ?_
  intro args q r hF hq ho
  unfold mopenZF at hF
  split at hF
  · cases hF
    exact ⟨by simp only [List.length_cons, List.length_nil]; decide, okMopenZ0 _ hq⟩
  · cases hF
theorem sndOutTruthZ : Sound Tryz.prog (lookΓ gamOutTruthZ) := sound_of _ fun p hp => by
  simp only [gamOutTruthZ, List.mem_cons, List.not_mem_nil, or_false] at hp
  subst hp
  exact meetsOutByte.orNil
set_option maxHeartbeats 4000000 in
theorem meetsOutTruthZ : Meets Tryz.prog 83 outTruthZF := by
  refine meets_of_awp (Γ := lookΓ gamOutTruthZ) (L := fun _ _ => none) sndOutTruthZ mixedOrders Tryz.func83 rfl Tryz.call83 ?_
  intro args q r hF hq ho
  unfold outTruthZF at hF
  split at hF
  · split at hF
    · rename_i hte
      subst hte
      cases hF
      exact ⟨by simp only [List.length_cons, List.length_nil]; decide, okOutTruthZ0 _ _ _ _ hq⟩
    · cases hF
  · cases hF
theorem sndMframeZ : Sound Tryz.prog (lookΓ gamMframeZ) := sound_of _ fun p hp => by
  simp only [gamMframeZ, List.mem_cons, List.not_mem_nil, or_false] at hp
  rcases hp with rfl | rfl | rfl | rfl | rfl | rfl | rfl
  · exact meetsMright.orNil
  · exact meetsOutByte.orNil
  · exact meetsIdPut7.orNil
  · exact meetsBalPut7.orNil
  · exact meetsOutTruthZ.orNil
  · exact meetsOutBytes.orNil
  · exact meetsSeal.orNil
set_option maxHeartbeats 4000000 in
theorem meetsMframeZ : Meets Tryz.prog 46 mframeZF := by
  refine meets_of_awp (Γ := lookΓ gamMframeZ) (L := fun _ _ => none) sndMframeZ mixedOrders Tryz.func46 rfl Tryz.call46 ?_
  intro args q r hF hq ho
  unfold mframeZF at hF
  split at hF
  · split at hF
    · rename_i m hzm
      obtain rfl := msgOf_some hzm
      cases hF
      exact ⟨by simp only [List.length_cons, List.length_nil]; decide, okMframeZ0 _ hq⟩
    · cases hF
  · cases hF
theorem sndAnchor11 : Sound Tryz.prog (lookΓ gamAnchor11) := sound_of _ fun p hp => by
  simp only [gamAnchor11, List.mem_cons, List.not_mem_nil, or_false] at hp
  rcases hp with rfl | rfl | rfl | rfl | rfl
  · exact meetsInew.orNil
  · exact meetsAsk.orNil
  · exact meetsMframeZ.orNil
  · exact meetsMopenZ.orNil
  · exact meetsMright.orNil
set_option maxHeartbeats 4000000 in
theorem meetsAnchor11 : Meets Tryz.prog 15 anchor11F := by
  refine meets_of_awp (Γ := lookΓ gamAnchor11) (L := fun _ _ => none) sndAnchor11 mixedOrders Tryz.func15 rfl Tryz.call15 ?_
  intro args q r hF hq ho
  unfold anchor11F at hF
  split at hF
  · cases hF
    exact ⟨by simp only [List.length_cons, List.length_nil]; decide, okAnchor110 hq⟩
  · cases hF
end Go.Proofs.YtpomloangafbkaaGreatDoor
