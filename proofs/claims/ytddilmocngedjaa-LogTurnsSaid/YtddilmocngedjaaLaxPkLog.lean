/- Contracts by content, their conditions, and that they are met: Log. -/
import Derived.Test.YtddilmocngedjaaGrow
import Derived.Test.YtddilmocngedjaaLaxWrap
/- Contracts by content, and the conditions that their code must meet. -/
namespace Go.Proofs.Ytddilmocngedjaa
set_option linter.unusedVariables false
set_option linter.unusedSimpArgs false
open Go.RowKit
def sealL (l : List UInt8) : List UInt8 := l ++ tailL (crcI l)
def bodyL (l : List UInt8) : List UInt8 := l.take (l.length - 4)
def openOK (l : List UInt8) : Bool := decide (4 ≤ l.length ∧ l.drop (l.length - 4) = tailL (crcI (bodyL l)))
def openV (l : List UInt8) : List UInt8 := if openOK l then bodyL l else []
def openE (l : List UInt8) : Int := if l.length < 4 then 20 else if openOK l then 0 else 23
def frameL (l : List UInt8) : List UInt8 := short (l.length + 4) ++ sealL l
def frV (l : List UInt8) : List UInt8 := if 16384 < l.length then [] else frameL l
def frE (n : Nat) : Int := if 16384 < n then 11 else 0
def sizeL (n : Nat) : Int := if 16384 < n then 0 else ((short (n + 4)).length : Int) + n + 4
def equalF : Con
  | [.val (.sl xs .no), .val (.sl ys .no)] => (some (isBytes xs ∧ isBytes ys, ⟨.bool (decide (bytesL xs = bytesL ys)), none, none⟩))
  | _ => none
def gamEqual : List (Nat × Con) := []
def lpEqual0 (xs ys : List AV) : Nat → Option LoopPlan := fun _ => none
def inEqual0 (xs ys : List AV) : Prop := awp [] (lpEqual0 xs ys) (lookΓ gamEqual) Try.prog Try.f37.ntmps 0 (Try.f37.body.getD .skip) (entrySt [.val (.sl xs .no), .val (.sl ys .no)]) (exitQ Try.prog Try.f37.results.toList [] ⟨.bool (decide (bytesL xs = bytesL ys)), none, none⟩)
def OkEqual0 : Prop := ∀ (xs ys : List AV), isBytes xs ∧ isBytes ys → inEqual0 xs ys
def sealF : Con
  | [.val (.sl xs .no)] => (some (isBytes xs ∧ xs.length ≤ 140737488355000, ⟨.sl (bytesAV (sealL (bytesL xs))) .no, none, none⟩))
  | _ => none
def gamSeal : List (Nat × Con) := [(35, cloneF.orNil), (34, sumOfF.orNil), (36, tailF.orNil)]
def lpSeal0 (xs : List AV) : Nat → Option LoopPlan := fun _ => none
def inSeal0 (xs : List AV) : Prop := awp [] (lpSeal0 xs) (lookΓ gamSeal) Try.prog Try.f10.ntmps 0 (Try.f10.body.getD .skip) (entrySt [.val (.sl xs .no)]) (exitQ Try.prog Try.f10.results.toList [] ⟨.sl (bytesAV (sealL (bytesL xs))) .no, none, none⟩)
def OkSeal0 : Prop := ∀ (xs : List AV), isBytes xs ∧ xs.length ≤ 140737488355000 → inSeal0 xs
def openF : Con
  | [.val (.sl xs .no)] => (some (isBytes xs ∧ xs.length ≤ 140737488355100, ⟨.tup [.sl (bytesAV (openV (bytesL xs))) .no, .int .i64 (openE (bytesL xs))], none, none⟩))
  | _ => none
def gamOpen : List (Nat × Con) := [(35, cloneF.orNil), (34, sumOfF.orNil), (36, tailF.orNil), (37, equalF.orNil)]
def lpOpen0 (xs : List AV) : Nat → Option LoopPlan := fun _ => none
def inOpen0 (xs : List AV) : Prop := awp [] (lpOpen0 xs) (lookΓ gamOpen) Try.prog Try.f11.ntmps 0 (Try.f11.body.getD .skip) (entrySt [.val (.sl xs .no)]) (exitQ Try.prog Try.f11.results.toList [] ⟨.tup [.sl (bytesAV (openV (bytesL xs))) .no, .int .i64 (openE (bytesL xs))], none, none⟩)
def OkOpen0 : Prop := ∀ (xs : List AV), isBytes xs ∧ xs.length ≤ 140737488355100 → inOpen0 xs
def sizeF : Con
  | [.val (.sl xs .no)] => (some (xs.length ≤ 9223372036854775807, ⟨.int .i64 (sizeL xs.length), none, none⟩))
  | _ => none
def gamSize : List (Nat × Con) := [(50, numShortF.orNil)]
def lpSize0 (xs : List AV) : Nat → Option LoopPlan := fun _ => none
def inSize0 (xs : List AV) : Prop := awp [] (lpSize0 xs) (lookΓ gamSize) Try.prog Try.f33.ntmps 0 (Try.f33.body.getD .skip) (entrySt [.val (.sl xs .no)]) (exitQ Try.prog Try.f33.results.toList [] ⟨.int .i64 (sizeL xs.length), none, none⟩)
def OkSize0 : Prop := ∀ (xs : List AV), xs.length ≤ 9223372036854775807 → inSize0 xs
def concat2F : Con
  | [.val (.sl [.sl xs .no, .sl ys .no] .no)] => (some (isBytes xs ∧ isBytes ys ∧ xs.length + ys.length ≤ 140737488355328, ⟨.sl (catL xs ys) .no, none, none⟩))
  | _ => none
def gamConcat2 : List (Nat × Con) := [(59, growF.orNil)]
def lpConcat20 (xs ys : List AV) : Nat → Option LoopPlan := fun b => bif Nat.beq b 0 then some (.unroll [] 4) else bif Nat.beq b 2 then some (.unroll [] 4) else none
def inConcat20 (xs ys : List AV) : Prop := awp [] (lpConcat20 xs ys) (lookΓ gamConcat2) Try.prog Try.f49.ntmps 0 (Try.f49.body.getD .skip) (entrySt [.val (.sl [.sl xs .no, .sl ys .no] .no)]) (exitQ Try.prog Try.f49.results.toList [] ⟨.sl (catL xs ys) .no, none, none⟩)
def OkConcat20 : Prop := ∀ (xs ys : List AV), isBytes xs ∧ isBytes ys ∧ xs.length + ys.length ≤ 140737488355328 → inConcat20 xs ys
def frameF : Con
  | [.val (.sl xs .no)] => (some (isBytes xs ∧ xs.length ≤ 9223372036854775807, ⟨.tup [.sl (bytesAV (frV (bytesL xs))) .no, .int .i64 (frE (bytesL xs).length)], none, none⟩))
  | _ => none
def gamFrame : List (Nat × Con) := [(50, numShortF.orNil), (10, sealF.orNil), (49, concat2F.orNil)]
def lpFrame0 (xs : List AV) : Nat → Option LoopPlan := fun _ => none
def inFrame0 (xs : List AV) : Prop := awp [] (lpFrame0 xs) (lookΓ gamFrame) Try.prog Try.f32.ntmps 0 (Try.f32.body.getD .skip) (entrySt [.val (.sl xs .no)]) (exitQ Try.prog Try.f32.results.toList [] ⟨.tup [.sl (bytesAV (frV (bytesL xs))) .no, .int .i64 (frE (bytesL xs).length)], none, none⟩)
def OkFrame0 : Prop := ∀ (xs : List AV), isBytes xs ∧ xs.length ≤ 9223372036854775807 → inFrame0 xs
def refFrameF : Con
  | [.val (.sl xs .no)] => (some (isBytes xs ∧ xs.length ≤ 100000, ⟨.sl (bytesAV (frameL (bytesL xs))) .no, none, none⟩))
  | _ => none
def gamRefFrame : List (Nat × Con) := [(57, numShortF.orNil), (58, refOfF.orNil)]
def lpRefFrame0 (xs : List AV) : Nat → Option LoopPlan := fun b => bif Nat.beq b 0 then some (.unroll [.kill 24 0] 6) else none
def inRefFrame0 (xs : List AV) : Prop := awp [] (lpRefFrame0 xs) (lookΓ gamRefFrame) Try.prog Try.f48.ntmps 0 (Try.f48.body.getD .skip) (entrySt [.val (.sl xs .no)]) (exitQ Try.prog Try.f48.results.toList [] ⟨.sl (bytesAV (frameL (bytesL xs))) .no, none, none⟩)
def OkRefFrame0 : Prop := ∀ (xs : List AV), isBytes xs ∧ xs.length ≤ 100000 → inRefFrame0 xs
def anchor14F : Con
  | [] => (some (True, ⟨.bool true, none, none⟩))
  | _ => none
def gamAnchor14 : List (Nat × Con) := [(32, frameF.orNil)]
def lpAnchor140  : Nat → Option LoopPlan := fun _ => none
def inAnchor140  : Prop := awp [] (lpAnchor140) (lookΓ gamAnchor14) Try.prog Try.f27.ntmps 0 (Try.f27.body.getD .skip) (entrySt []) (exitQ Try.prog Try.f27.results.toList [] ⟨.bool true, none, none⟩)
def OkAnchor140 : Prop := True → inAnchor140
end Go.Proofs.Ytddilmocngedjaa
/- What the verification conditions come to: printed by a program of ours (wip/lax/ex/Norm.lean). -/
namespace Go.Proofs.Ytddilmocngedjaa
set_option linter.unusedVariables false
open Go.RowKit
set_option maxRecDepth 100000
theorem vcEqual0 (xs : (List AV)) (ys : (List AV)) (h : (tt ∧ T1 ∧ tt ∧ T1 ∧ (isBytes xs) ∧ T1 ∧ (isBytes ys) ∧ T1 ∧ T1 ∧ tt ∧ tt ∧ ((@Decidable.decide ((bytesL xs) = (bytesL ys)) (@instDecidableEqList.{0} UInt8 instDecidableEqUInt8 (bytesL xs) (bytesL ys))) = (@BEq.beq.{0} (List UInt8) (@List.instBEq.{0} UInt8 (@instBEqOfDecidableEq.{0} UInt8 instDecidableEqUInt8)) (bytesL xs) (bytesL ys)) ∧ True) ∧ tt)) : inEqual0 xs ys :=
  Eq.mp (show _ = _ by kernel_rfl) h
theorem vcSeal0 (xs : (List AV)) (h : (tt ∧ T1 ∧ tt ∧ T1 ∧ (T1 ∧ (isBytes xs) ∧ (List.length xs) ≤ 140737488355328) ∧ ∀ v0 : (List AV), (v0 = xs) → ∀ v2 : Nat, (v2 = (List.length xs)) → T1 ∧ T1 ∧ (T1 ∧ (isParts [(AV.sl xs Own.no)])) ∧ ∀ v4 : Int, (v4 = (crcI (flatL [(AV.sl xs Own.no)]))) → (T1 ∧ True) ∧ ∀ v6 : (List AV), (v6 = (bytesAV (tailL v4))) → ∀ v8 : Nat, (v8 = (List.length (bytesAV (tailL v4)))) → (v2 = (List.length v0) ∧ (((List.length v0) + (List.length v6)) * 1) ≤ 140737488355328 ∧ ((List.length v0) + (List.length v6)) ≤ 9223372036854775807 ∧ (okWidth 1 v0) ∧ (okWidth 1 v6)) ∧ T1 ∧ tt ∧ tt ∧ ((bytesAV (sealL (bytesL xs))) = (@catL AV v0 v6) ∧ True) ∧ tt)) : inSeal0 xs :=
  Eq.mp (show _ = _ by kernel_rfl) h
theorem vcOpen0 (xs : (List AV)) (h : let q0 := (List.length xs); let q1 := (bytesAV (openV (bytesL xs))); (tt ∧ T1 ∧ T1 ∧ tt ∧ T1 ∧ T1 ∧ T1 ∧ (bif (decide ((q0 : Int) < 4)) then (tt ∧ T1 ∧ T1 ∧ tt ∧ tt ∧ (q1 = [] ∧ (openE (bytesL xs)) = 20 ∧ True) ∧ tt) else (tt ∧ T1 ∧ T1 ∧ T1 ∧ T1 ∧ tt ∧ T1 ∧ T1 ∧ (((0 : Int) ≤ (IntKind.wrap IntKind.i64 ((q0 : Int) - (4 : Int))) ∧ (IntKind.wrap IntKind.i64 ((q0 : Int) - (4 : Int))) ≤ (q0 : Int)) ∧ (okWidth 1 xs)) ∧ T1 ∧ T1 ∧ (((0 : Int) ≤ (IntKind.wrap IntKind.i64 ((q0 : Int) - (4 : Int))) ∧ (IntKind.wrap IntKind.i64 ((q0 : Int) - (4 : Int))) ≤ (q0 : Int)) ∧ (okWidth 1 xs)) ∧ T1 ∧ (T1 ∧ (isParts [(AV.sl (@cutL AV xs 0 (Int.toNat (IntKind.wrap IntKind.i64 ((q0 : Int) - (4 : Int))))) Own.no)])) ∧ ∀ v0 : Int, (v0 = (crcI (flatL [(AV.sl (@cutL AV xs 0 (Int.toNat (IntKind.wrap IntKind.i64 ((q0 : Int) - (4 : Int))))) Own.no)]))) → (T1 ∧ True) ∧ ∀ v2 : (List AV), (v2 = (bytesAV (tailL v0))) → ∀ v4 : Nat, (v4 = (List.length (bytesAV (tailL v0)))) → (T1 ∧ (isBytes (@cutL AV xs (Int.toNat (IntKind.wrap IntKind.i64 ((q0 : Int) - (4 : Int)))) q0)) ∧ (isBytes v2)) ∧ T1 ∧ tt ∧ (bif (Bool.not (@Decidable.decide ((bytesL (@cutL AV xs (Int.toNat (IntKind.wrap IntKind.i64 ((q0 : Int) - (4 : Int)))) q0)) = (bytesL v2)) (@instDecidableEqList.{0} UInt8 instDecidableEqUInt8 (bytesL (@cutL AV xs (Int.toNat (IntKind.wrap IntKind.i64 ((q0 : Int) - (4 : Int)))) q0)) (bytesL v2)))) then (tt ∧ T1 ∧ T1 ∧ tt ∧ tt ∧ (q1 = [] ∧ (openE (bytesL xs)) = 23 ∧ True) ∧ tt) else (tt ∧ T1 ∧ T1 ∧ (((0 : Int) ≤ (IntKind.wrap IntKind.i64 ((q0 : Int) - (4 : Int))) ∧ (IntKind.wrap IntKind.i64 ((q0 : Int) - (4 : Int))) ≤ (q0 : Int)) ∧ (okWidth 1 xs)) ∧ (T1 ∧ (isBytes (@cutL AV xs 0 (Int.toNat (IntKind.wrap IntKind.i64 ((q0 : Int) - (4 : Int)))))) ∧ (List.length (@cutL AV xs 0 (Int.toNat (IntKind.wrap IntKind.i64 ((q0 : Int) - (4 : Int)))))) ≤ 140737488355328) ∧ ∀ v6 : (List AV), (v6 = (@cutL AV xs 0 (Int.toNat (IntKind.wrap IntKind.i64 ((q0 : Int) - (4 : Int)))))) → ∀ v8 : Nat, (v8 = (List.length (@cutL AV xs 0 (Int.toNat (IntKind.wrap IntKind.i64 ((q0 : Int) - (4 : Int))))))) → T1 ∧ T1 ∧ tt ∧ tt ∧ (q1 = v6 ∧ (openE (bytesL xs)) = 0 ∧ True) ∧ tt)))))) : inOpen0 xs :=
  Eq.mp (show _ = _ by kernel_rfl) h
theorem vcSize0 (xs : (List AV)) (h : let q0 := (List.length xs); (tt ∧ T1 ∧ tt ∧ T1 ∧ T1 ∧ T1 ∧ (bif (decide ((16384 : Int) < (q0 : Int))) then (tt ∧ T1 ∧ tt ∧ tt ∧ ((sizeL q0) = 0 ∧ True) ∧ tt) else (tt ∧ T1 ∧ T1 ∧ T1 ∧ T1 ∧ tt ∧ T1 ∧ T1 ∧ (T1 ∧ True) ∧ ∀ v0 : (List AV), (v0 = (bytesAV (short (Int.toNat (IntKind.wrap IntKind.u64 (IntKind.wrap IntKind.i64 ((q0 : Int) + (4 : Int)))))))) → ∀ v2 : Nat, (v2 = (List.length (bytesAV (short (Int.toNat (IntKind.wrap IntKind.u64 (IntKind.wrap IntKind.i64 ((q0 : Int) + (4 : Int))))))))) → T1 ∧ T1 ∧ T1 ∧ T1 ∧ tt ∧ tt ∧ ((sizeL q0) = (IntKind.wrap IntKind.i64 (((List.length v0) : Int) + (IntKind.wrap IntKind.i64 ((q0 : Int) + (4 : Int))))) ∧ True) ∧ tt)))) : inSize0 xs :=
  Eq.mp (show _ = _ by kernel_rfl) h
theorem vcConcat20 (xs : (List AV)) (ys : (List AV)) (h : let q0 := (rdList (elemAt [(AV.sl xs Own.no), (AV.sl ys Own.no)] 0) 0); let q1 := (elemAt [(AV.sl xs Own.no), (AV.sl ys Own.no)] 1); let q2 := (List.length (rdList q1 0)); let q3 := (List.length q0); let q4 := (okRead [Kd.sl] (elemAt [(AV.sl xs Own.no), (AV.sl ys Own.no)] 0) 0); (tt ∧ T1 ∧ tt ∧ T1 ∧ tt ∧ T1 ∧ T1 ∧ T1 ∧ (tt ∧ tt) ∧ tt ∧ T1 ∧ tt ∧ ((0 : Int) ≤ (0 : Int) ∧ (0 : Int) < (2 : Int) ∧ (okElem 1 [(AV.sl xs Own.no), (AV.sl ys Own.no)] 0)) ∧ q4 ∧ T1 ∧ tt ∧ T1 ∧ T1 ∧ T1 ∧ T1 ∧ T1 ∧ tt ∧ T1 ∧ T1 ∧ (bif (decide ((IntKind.wrap IntKind.i64 ((0 : Int) + (q3 : Int))) < 0)) then (tt ∧ False) else (tt ∧ T1 ∧ T1 ∧ (tt ∧ tt) ∧ tt ∧ T1 ∧ tt ∧ ((0 : Int) ≤ (1 : Int) ∧ (1 : Int) < (2 : Int) ∧ (okElem 1 [(AV.sl xs Own.no), (AV.sl ys Own.no)] 1)) ∧ (okRead [Kd.sl] q1 0) ∧ T1 ∧ tt ∧ T1 ∧ T1 ∧ T1 ∧ T1 ∧ T1 ∧ tt ∧ T1 ∧ T1 ∧ (bif (decide ((IntKind.wrap IntKind.i64 ((IntKind.wrap IntKind.i64 ((0 : Int) + (q3 : Int))) + (q2 : Int))) < 0)) then (tt ∧ False) else (tt ∧ T1 ∧ T1 ∧ (tt ∧ tt) ∧ tt ∧ T1 ∧ tt ∧ T1 ∧ (T1 ∧ (@List.nil.{0} AV) = [] ∧ (0 : Int) ≤ (IntKind.wrap IntKind.i64 ((IntKind.wrap IntKind.i64 ((0 : Int) + (q3 : Int))) + (q2 : Int))) ∧ (IntKind.wrap IntKind.i64 ((IntKind.wrap IntKind.i64 ((0 : Int) + (q3 : Int))) + (q2 : Int))) ≤ 140737488355328) ∧ ∀ v0 : (List AV), (v0 = []) → ∀ v2 : Nat, (v2 = 0) → T1 ∧ tt ∧ T1 ∧ T1 ∧ T1 ∧ (tt ∧ tt) ∧ tt ∧ T1 ∧ tt ∧ ((0 : Int) ≤ (0 : Int) ∧ (0 : Int) < (2 : Int) ∧ (okElem 1 [(AV.sl xs Own.no), (AV.sl ys Own.no)] 0)) ∧ q4 ∧ T1 ∧ tt ∧ T1 ∧ T1 ∧ (v2 = (List.length v0) ∧ (((List.length v0) + q3) * 1) ≤ 140737488355328 ∧ ((List.length v0) + q3) ≤ 9223372036854775807 ∧ (okWidth 1 v0) ∧ (okWidth 1 q0)) ∧ T1 ∧ tt ∧ T1 ∧ T1 ∧ (tt ∧ tt) ∧ tt ∧ T1 ∧ tt ∧ ((0 : Int) ≤ (1 : Int) ∧ (1 : Int) < (2 : Int) ∧ (okElem 1 [(AV.sl xs Own.no), (AV.sl ys Own.no)] 1)) ∧ (okRead [Kd.sl] q1 0) ∧ T1 ∧ tt ∧ T1 ∧ T1 ∧ (((List.length v0) + q3) = (List.length (@catL AV v0 q0)) ∧ (((List.length (@catL AV v0 q0)) + q2) * 1) ≤ 140737488355328 ∧ ((List.length (@catL AV v0 q0)) + q2) ≤ 9223372036854775807 ∧ (okWidth 1 (@catL AV v0 q0)) ∧ (okWidth 1 (rdList q1 0))) ∧ T1 ∧ tt ∧ T1 ∧ T1 ∧ (tt ∧ tt) ∧ tt ∧ T1 ∧ tt ∧ T1 ∧ T1 ∧ tt ∧ tt ∧ ((@catL AV xs ys) = (@catL AV (@catL AV v0 q0) (rdList q1 0)) ∧ True) ∧ tt)))))) : inConcat20 xs ys :=
  Eq.mp (show _ = _ by kernel_rfl) h
theorem vcFrame0 (xs : (List AV)) (h : (tt ∧ T1 ∧ T1 ∧ tt ∧ T1 ∧ T1 ∧ T1 ∧ (bif (decide ((16384 : Int) < ((List.length xs) : Int))) then (tt ∧ T1 ∧ T1 ∧ tt ∧ tt ∧ ((bytesAV (frV (bytesL xs))) = [] ∧ (frE (List.length (bytesL xs))) = 11 ∧ True) ∧ tt) else (tt ∧ T1 ∧ T1 ∧ T1 ∧ T1 ∧ (T1 ∧ True) ∧ ∀ v0 : (List AV), (v0 = (bytesAV (short (Int.toNat (IntKind.wrap IntKind.u64 (IntKind.wrap IntKind.i64 (((List.length xs) : Int) + (4 : Int)))))))) → ∀ v2 : Nat, (v2 = (List.length (bytesAV (short (Int.toNat (IntKind.wrap IntKind.u64 (IntKind.wrap IntKind.i64 (((List.length xs) : Int) + (4 : Int))))))))) → T1 ∧ (T1 ∧ (isBytes xs) ∧ (List.length xs) ≤ 140737488355000) ∧ ∀ v4 : (List AV), (v4 = (bytesAV (sealL (bytesL xs)))) → T1 ∧ (T1 ∧ (isBytes v0) ∧ (isBytes v4) ∧ ((List.length v0) + (List.length v4)) ≤ 140737488355328) ∧ ∀ v6 : (List AV), (v6 = (@catL AV v0 v4)) → T1 ∧ T1 ∧ tt ∧ tt ∧ ((bytesAV (frV (bytesL xs))) = v6 ∧ (frE (List.length (bytesL xs))) = 0 ∧ True) ∧ tt)))) : inFrame0 xs :=
  Eq.mp (show _ = _ by kernel_rfl) h
theorem vcRefFrame0 (xs : (List AV)) (h : let q0 := (List.length xs); (tt ∧ T1 ∧ tt ∧ T1 ∧ T1 ∧ T1 ∧ T1 ∧ (T1 ∧ True) ∧ ∀ v0 : (List AV), (v0 = (bytesAV (short (Int.toNat (IntKind.wrap IntKind.u64 (IntKind.wrap IntKind.i64 ((q0 : Int) + (4 : Int)))))))) → ∀ v2 : Nat, (v2 = (List.length (bytesAV (short (Int.toNat (IntKind.wrap IntKind.u64 (IntKind.wrap IntKind.i64 ((q0 : Int) + (4 : Int))))))))) → T1 ∧ tt ∧ T1 ∧ T1 ∧ (v2 = (List.length v0) ∧ (((List.length v0) + q0) * 1) ≤ 140737488355328 ∧ ((List.length v0) + q0) ≤ 9223372036854775807 ∧ (okWidth 1 v0) ∧ (okWidth 1 xs)) ∧ T1 ∧ tt ∧ T1 ∧ (T1 ∧ (isBytes xs)) ∧ ∀ v4 : Int, (v4 = (crcI (bytesL xs))) → T1 ∧ tt ∧ T1 ∧ (tt ∧ tt) ∧ tt ∧ T1 ∧ T1 ∧ tt ∧ T1 ∧ T1 ∧ (@Ne.{1} Int (256 : Int) (0 : Int)) ∧ T1 ∧ T1 ∧ (((List.length v0) + q0) = (List.length (@catL AV v0 xs)) ∧ (((List.length (@catL AV v0 xs)) + 1) * 1) ≤ 140737488355328 ∧ ((List.length (@catL AV v0 xs)) + 1) ≤ 9223372036854775807 ∧ (okWidth 1 (@catL AV v0 xs)) ∧ (okWidth 1 [(AV.int IntKind.u8 (IntKind.wrap IntKind.u8 (Int.tmod v4 256)))])) ∧ T1 ∧ tt ∧ T1 ∧ (@Ne.{1} Int (256 : Int) (0 : Int)) ∧ T1 ∧ tt ∧ T1 ∧ T1 ∧ T1 ∧ (tt ∧ tt) ∧ tt ∧ T1 ∧ T1 ∧ tt ∧ T1 ∧ T1 ∧ (@Ne.{1} Int (256 : Int) (0 : Int)) ∧ T1 ∧ T1 ∧ (((List.length (@catL AV v0 xs)) + 1) = (List.length (@catL AV (@catL AV v0 xs) [(AV.int IntKind.u8 (IntKind.wrap IntKind.u8 (Int.tmod v4 256)))])) ∧ (((List.length (@catL AV (@catL AV v0 xs) [(AV.int IntKind.u8 (IntKind.wrap IntKind.u8 (Int.tmod v4 256)))])) + 1) * 1) ≤ 140737488355328 ∧ ((List.length (@catL AV (@catL AV v0 xs) [(AV.int IntKind.u8 (IntKind.wrap IntKind.u8 (Int.tmod v4 256)))])) + 1) ≤ 9223372036854775807 ∧ (okWidth 1 (@catL AV (@catL AV v0 xs) [(AV.int IntKind.u8 (IntKind.wrap IntKind.u8 (Int.tmod v4 256)))])) ∧ (okWidth 1 [(AV.int IntKind.u8 (IntKind.wrap IntKind.u8 (Int.tmod (IntKind.wrap IntKind.u32 (Int.tdiv v4 256)) 256)))])) ∧ T1 ∧ tt ∧ T1 ∧ (@Ne.{1} Int (256 : Int) (0 : Int)) ∧ T1 ∧ tt ∧ T1 ∧ T1 ∧ T1 ∧ (tt ∧ tt) ∧ tt ∧ T1 ∧ T1 ∧ tt ∧ T1 ∧ T1 ∧ (@Ne.{1} Int (256 : Int) (0 : Int)) ∧ T1 ∧ T1 ∧ (((List.length (@catL AV (@catL AV v0 xs) [(AV.int IntKind.u8 (IntKind.wrap IntKind.u8 (Int.tmod v4 256)))])) + 1) = (List.length (@catL AV (@catL AV (@catL AV v0 xs) [(AV.int IntKind.u8 (IntKind.wrap IntKind.u8 (Int.tmod v4 256)))]) [(AV.int IntKind.u8 (IntKind.wrap IntKind.u8 (Int.tmod (IntKind.wrap IntKind.u32 (Int.tdiv v4 256)) 256)))])) ∧ (((List.length (@catL AV (@catL AV (@catL AV v0 xs) [(AV.int IntKind.u8 (IntKind.wrap IntKind.u8 (Int.tmod v4 256)))]) [(AV.int IntKind.u8 (IntKind.wrap IntKind.u8 (Int.tmod (IntKind.wrap IntKind.u32 (Int.tdiv v4 256)) 256)))])) + 1) * 1) ≤ 140737488355328 ∧ ((List.length (@catL AV (@catL AV (@catL AV v0 xs) [(AV.int IntKind.u8 (IntKind.wrap IntKind.u8 (Int.tmod v4 256)))]) [(AV.int IntKind.u8 (IntKind.wrap IntKind.u8 (Int.tmod (IntKind.wrap IntKind.u32 (Int.tdiv v4 256)) 256)))])) + 1) ≤ 9223372036854775807 ∧ (okWidth 1 (@catL AV (@catL AV (@catL AV v0 xs) [(AV.int IntKind.u8 (IntKind.wrap IntKind.u8 (Int.tmod v4 256)))]) [(AV.int IntKind.u8 (IntKind.wrap IntKind.u8 (Int.tmod (IntKind.wrap IntKind.u32 (Int.tdiv v4 256)) 256)))])) ∧ (okWidth 1 [(AV.int IntKind.u8 (IntKind.wrap IntKind.u8 (Int.tmod (IntKind.wrap IntKind.u32 (Int.tdiv (IntKind.wrap IntKind.u32 (Int.tdiv v4 256)) 256)) 256)))])) ∧ T1 ∧ tt ∧ T1 ∧ (@Ne.{1} Int (256 : Int) (0 : Int)) ∧ T1 ∧ tt ∧ T1 ∧ T1 ∧ T1 ∧ (tt ∧ tt) ∧ tt ∧ T1 ∧ T1 ∧ tt ∧ T1 ∧ T1 ∧ (@Ne.{1} Int (256 : Int) (0 : Int)) ∧ T1 ∧ T1 ∧ (((List.length (@catL AV (@catL AV (@catL AV v0 xs) [(AV.int IntKind.u8 (IntKind.wrap IntKind.u8 (Int.tmod v4 256)))]) [(AV.int IntKind.u8 (IntKind.wrap IntKind.u8 (Int.tmod (IntKind.wrap IntKind.u32 (Int.tdiv v4 256)) 256)))])) + 1) = (List.length (@catL AV (@catL AV (@catL AV (@catL AV v0 xs) [(AV.int IntKind.u8 (IntKind.wrap IntKind.u8 (Int.tmod v4 256)))]) [(AV.int IntKind.u8 (IntKind.wrap IntKind.u8 (Int.tmod (IntKind.wrap IntKind.u32 (Int.tdiv v4 256)) 256)))]) [(AV.int IntKind.u8 (IntKind.wrap IntKind.u8 (Int.tmod (IntKind.wrap IntKind.u32 (Int.tdiv (IntKind.wrap IntKind.u32 (Int.tdiv v4 256)) 256)) 256)))])) ∧ (((List.length (@catL AV (@catL AV (@catL AV (@catL AV v0 xs) [(AV.int IntKind.u8 (IntKind.wrap IntKind.u8 (Int.tmod v4 256)))]) [(AV.int IntKind.u8 (IntKind.wrap IntKind.u8 (Int.tmod (IntKind.wrap IntKind.u32 (Int.tdiv v4 256)) 256)))]) [(AV.int IntKind.u8 (IntKind.wrap IntKind.u8 (Int.tmod (IntKind.wrap IntKind.u32 (Int.tdiv (IntKind.wrap IntKind.u32 (Int.tdiv v4 256)) 256)) 256)))])) + 1) * 1) ≤ 140737488355328 ∧ ((List.length (@catL AV (@catL AV (@catL AV (@catL AV v0 xs) [(AV.int IntKind.u8 (IntKind.wrap IntKind.u8 (Int.tmod v4 256)))]) [(AV.int IntKind.u8 (IntKind.wrap IntKind.u8 (Int.tmod (IntKind.wrap IntKind.u32 (Int.tdiv v4 256)) 256)))]) [(AV.int IntKind.u8 (IntKind.wrap IntKind.u8 (Int.tmod (IntKind.wrap IntKind.u32 (Int.tdiv (IntKind.wrap IntKind.u32 (Int.tdiv v4 256)) 256)) 256)))])) + 1) ≤ 9223372036854775807 ∧ (okWidth 1 (@catL AV (@catL AV (@catL AV (@catL AV v0 xs) [(AV.int IntKind.u8 (IntKind.wrap IntKind.u8 (Int.tmod v4 256)))]) [(AV.int IntKind.u8 (IntKind.wrap IntKind.u8 (Int.tmod (IntKind.wrap IntKind.u32 (Int.tdiv v4 256)) 256)))]) [(AV.int IntKind.u8 (IntKind.wrap IntKind.u8 (Int.tmod (IntKind.wrap IntKind.u32 (Int.tdiv (IntKind.wrap IntKind.u32 (Int.tdiv v4 256)) 256)) 256)))])) ∧ (okWidth 1 [(AV.int IntKind.u8 (IntKind.wrap IntKind.u8 (Int.tmod (IntKind.wrap IntKind.u32 (Int.tdiv (IntKind.wrap IntKind.u32 (Int.tdiv (IntKind.wrap IntKind.u32 (Int.tdiv v4 256)) 256)) 256)) 256)))])) ∧ T1 ∧ tt ∧ T1 ∧ (@Ne.{1} Int (256 : Int) (0 : Int)) ∧ T1 ∧ tt ∧ T1 ∧ T1 ∧ T1 ∧ (tt ∧ tt) ∧ tt ∧ T1 ∧ T1 ∧ tt ∧ T1 ∧ T1 ∧ tt ∧ tt ∧ ((bytesAV (frameL (bytesL xs))) = (@catL AV (@catL AV (@catL AV (@catL AV (@catL AV v0 xs) [(AV.int IntKind.u8 (IntKind.wrap IntKind.u8 (Int.tmod v4 256)))]) [(AV.int IntKind.u8 (IntKind.wrap IntKind.u8 (Int.tmod (IntKind.wrap IntKind.u32 (Int.tdiv v4 256)) 256)))]) [(AV.int IntKind.u8 (IntKind.wrap IntKind.u8 (Int.tmod (IntKind.wrap IntKind.u32 (Int.tdiv (IntKind.wrap IntKind.u32 (Int.tdiv v4 256)) 256)) 256)))]) [(AV.int IntKind.u8 (IntKind.wrap IntKind.u8 (Int.tmod (IntKind.wrap IntKind.u32 (Int.tdiv (IntKind.wrap IntKind.u32 (Int.tdiv (IntKind.wrap IntKind.u32 (Int.tdiv v4 256)) 256)) 256)) 256)))]) ∧ True) ∧ tt)) : inRefFrame0 xs :=
  Eq.mp (show _ = _ by kernel_rfl) h
theorem vcAnchor140 (h : (tt ∧ T1 ∧ tt ∧ (T1 ∧ (isBytes []) ∧ 0 ≤ 9223372036854775807) ∧ ∀ v0 : (List AV), (v0 = (bytesAV (frV []))) → ∀ v2 : Int, (v2 = 0) → T1 ∧ T1 ∧ T1 ∧ T1 ∧ T1 ∧ tt ∧ T1 ∧ T1 ∧ T1 ∧ (bif (v2 == 0) then (T1 ∧ T1 ∧ T1 ∧ T1 ∧ T1 ∧ (bif (((List.length v0) : Int) == 5) then (T1 ∧ ((0 : Int) ≤ (0 : Int) ∧ (0 : Int) < ((List.length v0) : Int) ∧ (okElem 1 v0 0)) ∧ (okRead [(Kd.int IntKind.u8)] (elemAt v0 0) 0) ∧ T1 ∧ T1 ∧ T1 ∧ (bif ((rdInt (elemAt v0 0) 0) == 4) then (T1 ∧ ((0 : Int) ≤ (1 : Int) ∧ (1 : Int) < ((List.length v0) : Int) ∧ (okElem 1 v0 1)) ∧ (okRead [(Kd.int IntKind.u8)] (elemAt v0 1) 0) ∧ T1 ∧ T1 ∧ T1 ∧ (bif ((rdInt (elemAt v0 1) 0) == 0) then (T1 ∧ ((0 : Int) ≤ (4 : Int) ∧ (4 : Int) < ((List.length v0) : Int) ∧ (okElem 1 v0 4)) ∧ (okRead [(Kd.int IntKind.u8)] (elemAt v0 4) 0) ∧ T1 ∧ T1 ∧ T1 ∧ tt ∧ tt ∧ (true = ((rdInt (elemAt v0 4) 0) == 0) ∧ True) ∧ tt) else (false = false ∧ T1 ∧ tt ∧ tt ∧ (true = false ∧ True) ∧ tt))) else (false = false ∧ T1 ∧ false = false ∧ T1 ∧ tt ∧ tt ∧ (true = false ∧ True) ∧ tt))) else (false = false ∧ T1 ∧ false = false ∧ T1 ∧ false = false ∧ T1 ∧ tt ∧ tt ∧ (true = false ∧ True) ∧ tt))) else (false = false ∧ T1 ∧ false = false ∧ T1 ∧ false = false ∧ T1 ∧ false = false ∧ T1 ∧ tt ∧ tt ∧ (true = false ∧ True) ∧ tt)))) : inAnchor140 :=
  Eq.mp (show _ = _ by kernel_rfl) h
end Go.Proofs.Ytddilmocngedjaa
/- The conditions of the log's frames hold. -/
namespace Go.Proofs.Ytddilmocngedjaa
set_option linter.unusedVariables false
set_option linter.unusedSimpArgs false
open Go.RowKit
set_option maxRecDepth 100000

theorem short_le10 {v : Int} (h0 : 0 ≤ v) (h1 : v ≤ 18446744073709551615) : (short v.toNat).length ≤ 10 := short_len64 _ (by omega)
theorem okEqual0 : OkEqual0 := by
  intro xs ys hq
  refine vcEqual0 xs ys ?_
  simp only [true_and, and_true, forall_eq, eq_self]
  exact ⟨hq.1, hq.2, by by_cases h : bytesL xs = bytesL ys <;> simp [h]⟩
theorem flat_one (l : List UInt8) : flatL [AV.sl (bytesAV l) Own.no] = l := by
  have : partL (AV.sl (bytesAV l) Own.no) = l := bytesL_bytesAV l
  simp [flatL, this]
theorem parts_one (l : List UInt8) : isParts [AV.sl (bytesAV l) Own.no] := by
  intro x hx; simp at hx; subst hx; exact ⟨l, _, rfl⟩
theorem tailL_len (v : Int) : (tailL v).length = 4 := rfl
theorem okSeal0 : OkSeal0 := by
  intro xs hq
  refine vcSeal0 xs ?_
  obtain ⟨hb, hl⟩ := hq
  obtain ⟨l, rfl⟩ := hb.get
  simp only [true_and, and_true, forall_eq, eq_self, bytesL_bytesAV, isBytes_bytesAV, length_bytesAV, flat_one, tailL_len] at hl ⊢
  exact ⟨by omega, parts_one l, ⟨by omega, by omega, by first | exact ⟨okWidth_bytes _, okWidth_bytes _⟩ | exact okWidth_bytes _⟩, by rw [catL_bytes]; rfl⟩
theorem cutS (l : List UInt8) (a b : Nat) : cutL (bytesAV l) a b = bytesAV (cutL l a b) := by simp [cutL, bytesAV]
theorem okOpen0 : OkOpen0 := by
  intro xs hq
  refine vcOpen0 xs ?_
  obtain ⟨hb, hl⟩ := hq
  obtain ⟨l, rfl⟩ := hb.get
  simp only [true_and, and_true, forall_eq, eq_self, bytesL_bytesAV, isBytes_bytesAV, length_bytesAV, cutS, flat_one] at hl ⊢
  refine cond_prop (fun h => ?_) fun h => ?_
  · have h' : l.length < 4 := by simp at h; omega
    have ho : openOK l = false := by simp [openOK]; omega
    exact ⟨by simp [openV, ho, bytesAV], by simp [openE, h']⟩
  · have h4 : 4 ≤ l.length := by simp at h; omega
    have ew : IntKind.i64.wrap ((l.length : Int) - 4) = (l.length : Int) - 4 := wrap_i64 (by omega) (by omega)
    rw [ew]
    have et : ((l.length : Int) - 4).toNat = l.length - 4 := by omega
    rw [et]
    have c1 : cutL l 0 (l.length - 4) = bodyL l := by simp [cutL, bodyL]
    have c2 : cutL l (l.length - 4) l.length = l.drop (l.length - 4) := by simp [cutL]
    have hbl : (bodyL l).length ≤ l.length := by simp [bodyL]
    rw [c1, c2]
    refine ⟨⟨⟨by omega, by omega⟩, okWidth_bytes _⟩, ⟨⟨by omega, by omega⟩, okWidth_bytes _⟩, parts_one _, cond_prop (fun h => ?_) fun h => ?_⟩
    · have h2 : ¬ (l.drop (l.length - 4) = tailL (crcI (bodyL l))) := by simpa using h
      have ho : openOK l = false := by simp [openOK, h2]
      have h5 : ¬ l.length < 4 := by omega
      exact ⟨by simp [openV, ho, bytesAV], by simp [openE, h5, ho]⟩
    · have h2 : l.drop (l.length - 4) = tailL (crcI (bodyL l)) := by simpa using h
      have ho : openOK l = true := by simp [openOK, h2, h4]
      have h5 : ¬ l.length < 4 := by omega
      exact ⟨⟨⟨by omega, by omega⟩, okWidth_bytes _⟩, by omega, by simp [openV, ho], by simp [openE, h5, ho]⟩
theorem wrap4 {n : Nat} (h : n ≤ 100000000) : (IntKind.u64.wrap (IntKind.i64.wrap ((n : Int) + 4))).toNat = n + 4 := by
  rw [wrap_i64 (by omega) (by omega), wrap_u64 (by omega) (by omega)]; omega
theorem short_le10' (n : Nat) (h : n ≤ 18446744073709551615) : (short n).length ≤ 10 := short_len64 _ (by omega)
theorem okSize0 : OkSize0 := by
  intro xs hq
  refine vcSize0 xs ?_
  simp only [true_and, and_true, forall_eq, eq_self, bytesL_bytesAV, length_bytesAV]
  refine cond_prop (fun h => ?_) fun h => ?_
  · have h' : 16384 < xs.length := by simp at h; omega
    simp [sizeL, h']
  · have h' : ¬ 16384 < xs.length := by simp at h; omega
    have h10 := short_le10' (xs.length + 4) (by omega)
    rw [wrap4 (by omega), wrap_i64 (n := (xs.length : Int) + 4) (by omega) (by omega), wrap_i64 (by omega) (by omega)]
    simp only [sizeL, if_neg h']; omega
theorem okConcat20 : OkConcat20 := by
  intro xs ys hq
  refine vcConcat20 xs ys ?_
  obtain ⟨hb, hb', hl⟩ := hq
  obtain ⟨l, rfl⟩ := hb.get
  obtain ⟨m, rfl⟩ := hb'.get
  have e0 : rdList (elemAt [AV.sl (bytesAV l) Own.no, AV.sl (bytesAV m) Own.no] 0) 0 = bytesAV l := rfl
  have e1 : rdList (elemAt [AV.sl (bytesAV l) Own.no, AV.sl (bytesAV m) Own.no] 1) 0 = bytesAV m := rfl
  have r0 : okRead [Kd.sl] (elemAt [AV.sl (bytesAV l) Own.no, AV.sl (bytesAV m) Own.no] 0) 0 := by
    intro i kd h
    match i, h with
    | 0, h => simp at h; subst h; rfl
    | i + 1, h => simp at h
  have r1 : okRead [Kd.sl] (elemAt [AV.sl (bytesAV l) Own.no, AV.sl (bytesAV m) Own.no] 1) 0 := by
    intro i kd h
    match i, h with
    | 0, h => simp at h; subst h; rfl
    | i + 1, h => simp at h
  simp only [length_bytesAV] at hl
  simp only [true_and, and_true, forall_eq, eq_self, bytesL_bytesAV, length_bytesAV, isBytes_bytesAV, e0, e1, r0, r1, catL_nil, Int.zero_add, catL_length, List.length_nil, Nat.zero_add]
  have w1 : IntKind.i64.wrap (l.length : Int) = l.length := wrap_i64 (by omega) (by omega)
  have w2 : IntKind.i64.wrap ((l.length : Int) + m.length) = (l.length : Int) + m.length := wrap_i64 (by omega) (by omega)
  simp only [w1, w2]
  refine ⟨⟨by omega, by omega, rfl⟩, cond_prop (fun h => by simp at h; omega) fun _ => ⟨⟨by omega, by omega, rfl⟩, cond_prop (fun h => by simp at h; omega) fun _ => ⟨⟨by omega, by omega⟩, ⟨by omega, by omega, rfl⟩, ⟨by omega, by omega, okWidth_nil _, okWidth_bytes _⟩, ⟨by omega, by omega, rfl⟩, ⟨by omega, by omega, okWidth_bytes _, okWidth_bytes _⟩⟩⟩⟩
theorem seal_len (l : List UInt8) : (sealL l).length = l.length + 4 := by simp [sealL, tailL_len]
theorem okFrame0 : OkFrame0 := by
  intro xs hq
  refine vcFrame0 xs ?_
  obtain ⟨hb, hl⟩ := hq
  obtain ⟨l, rfl⟩ := hb.get
  simp only [true_and, and_true, forall_eq, eq_self, bytesL_bytesAV, length_bytesAV, isBytes_bytesAV, seal_len] at hl ⊢
  refine cond_prop (fun h => ?_) fun h => ?_
  · have h' : 16384 < l.length := by simp at h; omega
    simp [frV, frE, h', bytesAV]
  · have h' : ¬ 16384 < l.length := by simp at h; omega
    have h10 := short_le10' (l.length + 4) (by omega)
    rw [wrap4 (by omega)]
    refine ⟨by omega, by omega, ?_, by simp [frE, h']⟩
    rw [catL_bytes]
    simp [frV, h', frameL]
theorem crcI_range (l : List UInt8) : 0 ≤ crcI l ∧ crcI l ≤ 4294967295 := by
  unfold crcI
  have := (crc l).isLt
  omega
theorem tail_byte (v : Int) (h0 : 0 ≤ v) (k : Nat) : (((v / 256 ^ k).toNat % 256 : Nat) : Int) = v / 256 ^ k % 256 := by
  have hp : (0 : Int) < 256 ^ k := Int.pow_pos (by omega)
  have hd : 0 ≤ v / 256 ^ k := Int.ediv_nonneg h0 (by omega)
  omega
theorem byteAt_int (v : Int) (h0 : 0 ≤ v) (k : Nat) : AV.int .u8 (v / 256 ^ k % 256) = byteAV (byteAt v k) := by
  unfold byteAV byteAt
  have := tail_byte v h0 k
  rw [UInt8.toNat_ofNat']
  congr 1
  omega
theorem okRefFrame0 : OkRefFrame0 := by
  intro xs hq
  refine vcRefFrame0 xs ?_
  obtain ⟨hb, hl⟩ := hq
  obtain ⟨l, rfl⟩ := hb.get
  obtain ⟨c, hc⟩ : ∃ c, c = crcI l := ⟨_, rfl⟩
  have h0 : 0 ≤ c := by rw [hc]; exact (crcI_range l).1
  have h1 : c ≤ 4294967295 := by rw [hc]; exact (crcI_range l).2
  simp only [length_bytesAV] at hl
  have h10 := short_le10' (l.length + 4) (by omega)
  have o : ∀ x : Int, okWidth 1 [AV.int .u8 x] := fun x => okWidth_cons rfl (okWidth_nil _)
  have q1 : c.tdiv 256 = c / 256 := Int.tdiv_eq_ediv_of_nonneg h0
  have q2 : (c / 256).tdiv 256 = c / 256 / 256 := Int.tdiv_eq_ediv_of_nonneg (by omega)
  have q3 : (c / 256 / 256).tdiv 256 = c / 256 / 256 / 256 := Int.tdiv_eq_ediv_of_nonneg (by omega)
  have w1 : IntKind.u32.wrap (c / 256) = c / 256 := wrap_u32 (by omega) (by omega)
  have w2 : IntKind.u32.wrap (c / 256 / 256) = c / 256 / 256 := wrap_u32 (by omega) (by omega)
  have w3 : IntKind.u32.wrap (c / 256 / 256 / 256) = c / 256 / 256 / 256 := wrap_u32 (by omega) (by omega)
  have m0 : ∀ x : Int, 0 ≤ x → IntKind.u8.wrap (x.tmod 256) = x % 256 := fun x hx => by rw [Int.tmod_eq_emod_of_nonneg hx]; exact wrap_u8 (by omega) (by omega)
  have b0 : [AV.int .u8 (c % 256)] = bytesAV [byteAt c 0] := by have := byteAt_int c h0 0; simp at this; rw [this]; rfl
  have b1 : [AV.int .u8 (c / 256 % 256)] = bytesAV [byteAt c 1] := by have := byteAt_int c h0 1; simp at this; rw [this]; rfl
  have b2 : [AV.int .u8 (c / 256 / 256 % 256)] = bytesAV [byteAt c 2] := by
    have := byteAt_int c h0 2
    rw [show (256 : Int) ^ 2 = 256 * 256 from rfl, ← Int.ediv_ediv_of_nonneg (by omega)] at this
    rw [this]; rfl
  have b3 : [AV.int .u8 (c / 256 / 256 / 256 % 256)] = bytesAV [byteAt c 3] := by
    have := byteAt_int c h0 3
    rw [show (256 : Int) ^ 3 = 256 * 256 * 256 from rfl, ← Int.ediv_ediv_of_nonneg (by omega), ← Int.ediv_ediv_of_nonneg (by omega)] at this
    rw [this]; rfl
  simp only [true_and, and_true, forall_eq, eq_self, bytesL_bytesAV, length_bytesAV, isBytes_bytesAV, wrap4 (show l.length ≤ 100000000 by omega), ← hc, q1, q2, q3, w1, w2, w3, m0 c h0, m0 (c / 256) (by omega), m0 (c / 256 / 256) (by omega), m0 (c / 256 / 256 / 256) (by omega), b0, b1, b2, b3, catL_bytes, okWidth_bytes, List.length_append, List.length_cons, List.length_nil, ne_eq]
  refine ⟨⟨by omega, by omega⟩, by decide, ⟨by omega, by omega⟩, by decide, by decide, ⟨by omega, by omega⟩, by decide, by decide, ⟨by omega, by omega⟩, by decide, by decide, ⟨by omega, by omega⟩, by decide, ?_⟩
  simp [frameL, sealL, tailL, hc]
theorem okAnchor140 : OkAnchor140 := by
  intro hq
  refine vcAnchor140 ?_
  have e : frV [] = [4, 0, 0, 0, 0] := by decide +kernel
  simp only [true_and, and_true, forall_eq, eq_self, bytesL_bytesAV, length_bytesAV, isBytes_bytesAV, e, bytesL_nil, isBytes_nil, List.length_nil, List.length_cons]
  have o : ∀ i, i < 5 → okElem 1 (bytesAV [4, 0, 0, 0, 0]) i := fun i h => okElem_bytes h
  have r : ∀ i, i < 5 → okRead [Kd.int .u8] (elemAt (bytesAV [4, 0, 0, 0, 0]) i) 0 := fun i h => okRead_bytes h
  have i0 : rdInt (elemAt (bytesAV [4, 0, 0, 0, 0]) (Int.toNat 0)) 0 = 4 := rfl
  have i1 : rdInt (elemAt (bytesAV [4, 0, 0, 0, 0]) (Int.toNat 1)) 0 = 0 := rfl
  have i4 : rdInt (elemAt (bytesAV [4, 0, 0, 0, 0]) (Int.toNat 4)) 0 = 0 := rfl
  simp only [i0, i1, i4, beq_self_eq_true, cond_true]
  refine ⟨by omega, cond_prop (fun _ => ⟨⟨by omega, by omega, o _ (by decide)⟩, r _ (by decide), ⟨by omega, by omega, o _ (by decide)⟩, r _ (by decide), ⟨by omega, by omega, o 4 (by decide)⟩, r 4 (by decide), rfl⟩) fun h => by simp at h⟩
end Go.Proofs.Ytddilmocngedjaa
/- The contracts are met. -/
namespace Go.Proofs.Ytddilmocngedjaa
set_option linter.unusedVariables false
set_option linter.unusedSimpArgs false
open Go.RowKit
theorem sndEqual : Sound Try.prog (lookΓ gamEqual) := sound_of _ fun p hp => by
  simp [gamEqual] at hp
set_option maxHeartbeats 4000000 in
theorem meetsEqual : Meets Try.prog 37 equalF := by
  refine meets_of_awp (Γ := lookΓ gamEqual) (L := fun _ _ => none) sndEqual mixedOrders Try.func37 rfl Try.call37 ?_
  intro args q r hF hq ho
  unfold equalF at hF
  split at hF
  · cases hF
    exact ⟨by simp only [List.length_cons, List.length_nil]; decide, okEqual0 _ _ hq⟩
  · cases hF
theorem sndSeal : Sound Try.prog (lookΓ gamSeal) := sound_of _ fun p hp => by
  simp only [gamSeal, List.mem_cons, List.not_mem_nil, or_false] at hp
  rcases hp with rfl | rfl | rfl
  · exact meetsClone.orNil
  · exact meetsSumOf.orNil
  · exact meetsTail.orNil
set_option maxHeartbeats 4000000 in
theorem meetsSeal : Meets Try.prog 10 sealF := by
  refine meets_of_awp (Γ := lookΓ gamSeal) (L := fun _ _ => none) sndSeal mixedOrders Try.func10 rfl Try.call10 ?_
  intro args q r hF hq ho
  unfold sealF at hF
  split at hF
  · cases hF
    exact ⟨by simp only [List.length_cons, List.length_nil]; decide, okSeal0 _ hq⟩
  · cases hF
theorem sndOpen : Sound Try.prog (lookΓ gamOpen) := sound_of _ fun p hp => by
  simp only [gamOpen, List.mem_cons, List.not_mem_nil, or_false] at hp
  rcases hp with rfl | rfl | rfl | rfl
  · exact meetsClone.orNil
  · exact meetsSumOf.orNil
  · exact meetsTail.orNil
  · exact meetsEqual.orNil
set_option maxHeartbeats 4000000 in
theorem meetsOpen : Meets Try.prog 11 openF := by
  refine meets_of_awp (Γ := lookΓ gamOpen) (L := fun _ _ => none) sndOpen mixedOrders Try.func11 rfl Try.call11 ?_
  intro args q r hF hq ho
  unfold openF at hF
  split at hF
  · cases hF
    exact ⟨by simp only [List.length_cons, List.length_nil]; decide, okOpen0 _ hq⟩
  · cases hF
theorem sndSize : Sound Try.prog (lookΓ gamSize) := sound_of _ fun p hp => by
  simp only [gamSize, List.mem_cons, List.not_mem_nil, or_false] at hp
  subst hp
  exact meetsNumShort.orNil
set_option maxHeartbeats 4000000 in
theorem meetsSize : Meets Try.prog 33 sizeF := by
  refine meets_of_awp (Γ := lookΓ gamSize) (L := fun _ _ => none) sndSize mixedOrders Try.func33 rfl Try.call33 ?_
  intro args q r hF hq ho
  unfold sizeF at hF
  split at hF
  · cases hF
    exact ⟨by simp only [List.length_cons, List.length_nil]; decide, okSize0 _ hq⟩
  · cases hF
theorem sndConcat2 : Sound Try.prog (lookΓ gamConcat2) := sound_of _ fun p hp => by
  simp only [gamConcat2, List.mem_cons, List.not_mem_nil, or_false] at hp
  subst hp
  exact meetsGrow.orNil
set_option maxHeartbeats 4000000 in
theorem meetsConcat2 : Meets Try.prog 49 concat2F := by
  refine meets_of_awp (Γ := lookΓ gamConcat2) (L := fun args => match args with | [.val (.sl [.sl xs .no, .sl ys .no] .no)] => lpConcat20 xs ys | _ => fun _ => none) sndConcat2 mixedOrders Try.func49 rfl Try.call49 ?_
  intro args q r hF hq ho
  unfold concat2F at hF
  split at hF
  · cases hF
    exact ⟨by simp only [List.length_cons, List.length_nil]; decide, okConcat20 _ _ hq⟩
  · cases hF
theorem sndFrame : Sound Try.prog (lookΓ gamFrame) := sound_of _ fun p hp => by
  simp only [gamFrame, List.mem_cons, List.not_mem_nil, or_false] at hp
  rcases hp with rfl | rfl | rfl
  · exact meetsNumShort.orNil
  · exact meetsSeal.orNil
  · exact meetsConcat2.orNil
set_option maxHeartbeats 4000000 in
theorem meetsFrame : Meets Try.prog 32 frameF := by
  refine meets_of_awp (Γ := lookΓ gamFrame) (L := fun _ _ => none) sndFrame mixedOrders Try.func32 rfl Try.call32 ?_
  intro args q r hF hq ho
  unfold frameF at hF
  split at hF
  · cases hF
    exact ⟨by simp only [List.length_cons, List.length_nil]; decide, okFrame0 _ hq⟩
  · cases hF
theorem sndRefFrame : Sound Try.prog (lookΓ gamRefFrame) := sound_of _ fun p hp => by
  simp only [gamRefFrame, List.mem_cons, List.not_mem_nil, or_false] at hp
  rcases hp with rfl | rfl
  · exact meetsRefShort.orNil
  · exact meetsRefOf.orNil
set_option maxHeartbeats 4000000 in
theorem meetsRefFrame : Meets Try.prog 48 refFrameF := by
  refine meets_of_awp (Γ := lookΓ gamRefFrame) (L := fun args => match args with | [.val (.sl xs .no)] => lpRefFrame0 xs | _ => fun _ => none) sndRefFrame mixedOrders Try.func48 rfl Try.call48 ?_
  intro args q r hF hq ho
  unfold refFrameF at hF
  split at hF
  · cases hF
    exact ⟨by simp only [List.length_cons, List.length_nil]; decide, okRefFrame0 _ hq⟩
  · cases hF
theorem sndAnchor14 : Sound Try.prog (lookΓ gamAnchor14) := sound_of _ fun p hp => by
  simp only [gamAnchor14, List.mem_cons, List.not_mem_nil, or_false] at hp
  subst hp
  exact meetsFrame.orNil
set_option maxHeartbeats 4000000 in
theorem meetsAnchor14 : Meets Try.prog 27 anchor14F := by
  refine meets_of_awp (Γ := lookΓ gamAnchor14) (L := fun _ _ => none) sndAnchor14 mixedOrders Try.func27 rfl Try.call27 ?_
  intro args q r hF hq ho
  unfold anchor14F at hF
  split at hF
  · cases hF
    exact ⟨by simp only [List.length_cons, List.length_nil]; decide, okAnchor140 hq⟩
  · cases hF
end Go.Proofs.Ytddilmocngedjaa
