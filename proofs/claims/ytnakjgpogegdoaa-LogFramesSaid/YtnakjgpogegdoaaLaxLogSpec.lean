/- Contracts by content, and the conditions that their code must meet. -/
import Derived.Test.YtnakjgpogegdoaaGrow
namespace Go.Proofs.Ytnakjgpogegdoaa
set_option linter.unusedVariables false
set_option linter.unusedSimpArgs false
open Go.RowKit
def sealL (l : List UInt8) : List UInt8 := l ++ tailL (crcI l)
def bodyL (l : List UInt8) : List UInt8 := l.take (l.length - 4)
def openOK (l : List UInt8) : Bool := decide (4 ≤ l.length ∧ l.drop (l.length - 4) = tailL (crcI (bodyL l)))
def openV (l : List UInt8) : List UInt8 := if openOK l then bodyL l else []
def openE (l : List UInt8) : Int := if l.length < 4 then 20 else if openOK l then 0 else 23
def frameL (l : List UInt8) : List UInt8 := short (l.length + 4) ++ sealL l
def frV (l : List UInt8) : List UInt8 := if 16384 < l.length then [] else frameL l
def frE (n : Nat) : Int := if 16384 < n then 11 else 0
def sizeL (n : Nat) : Int := if 16384 < n then 0 else ((short (n + 4)).length : Int) + n + 4
def equalF : Con
  | [.val (.sl xs .no), .val (.sl ys .no)] => some (isBytes xs ∧ isBytes ys, ⟨.bool (decide (bytesL xs = bytesL ys)), none, none⟩)
  | _ => none
def gamEqual : List (Nat × Con) := []
def lpEqual0 (xs ys : List AV) : Nat → Option LoopPlan := fun _ => none
def inEqual0 (xs ys : List AV) : Prop := awp [] (lpEqual0 xs ys) (lookΓ gamEqual) Try.prog Try.f59.ntmps 0 (Try.f59.body.getD .skip) (entrySt [.val (.sl xs .no), .val (.sl ys .no)]) (exitQ Try.prog Try.f59.results.toList [] ⟨.bool (decide (bytesL xs = bytesL ys)), none, none⟩)
def OkEqual0 : Prop := ∀ (xs ys : List AV), isBytes xs ∧ isBytes ys → inEqual0 xs ys
def sealF : Con
  | [.val (.sl xs .no)] => some (isBytes xs ∧ xs.length ≤ 140737488355000, ⟨.sl (bytesAV (sealL (bytesL xs))) .no, none, none⟩)
  | _ => none
def gamSeal : List (Nat × Con) := [(36, cloneF.orNil), (52, sumOfF.orNil), (51, tailF.orNil)]
def lpSeal0 (xs : List AV) : Nat → Option LoopPlan := fun _ => none
def inSeal0 (xs : List AV) : Prop := awp [] (lpSeal0 xs) (lookΓ gamSeal) Try.prog Try.f43.ntmps 0 (Try.f43.body.getD .skip) (entrySt [.val (.sl xs .no)]) (exitQ Try.prog Try.f43.results.toList [] ⟨.sl (bytesAV (sealL (bytesL xs))) .no, none, none⟩)
def OkSeal0 : Prop := ∀ (xs : List AV), isBytes xs ∧ xs.length ≤ 140737488355000 → inSeal0 xs
def openF : Con
  | [.val (.sl xs .no)] => some (isBytes xs ∧ xs.length ≤ 140737488355100, ⟨.tup [.sl (bytesAV (openV (bytesL xs))) .no, .int .i64 (openE (bytesL xs))], none, none⟩)
  | _ => none
def gamOpen : List (Nat × Con) := [(36, cloneF.orNil), (52, sumOfF.orNil), (51, tailF.orNil), (59, equalF.orNil)]
def lpOpen0 (xs : List AV) : Nat → Option LoopPlan := fun _ => none
def inOpen0 (xs : List AV) : Prop := awp [] (lpOpen0 xs) (lookΓ gamOpen) Try.prog Try.f55.ntmps 0 (Try.f55.body.getD .skip) (entrySt [.val (.sl xs .no)]) (exitQ Try.prog Try.f55.results.toList [] ⟨.tup [.sl (bytesAV (openV (bytesL xs))) .no, .int .i64 (openE (bytesL xs))], none, none⟩)
def OkOpen0 : Prop := ∀ (xs : List AV), isBytes xs ∧ xs.length ≤ 140737488355100 → inOpen0 xs
def sizeF : Con
  | [.val (.sl xs .no)] => some (xs.length ≤ 9223372036854775807, ⟨.int .i64 (sizeL xs.length), none, none⟩)
  | _ => none
def gamSize : List (Nat × Con) := [(42, numShortF.orNil)]
def lpSize0 (xs : List AV) : Nat → Option LoopPlan := fun _ => none
def inSize0 (xs : List AV) : Prop := awp [] (lpSize0 xs) (lookΓ gamSize) Try.prog Try.f26.ntmps 0 (Try.f26.body.getD .skip) (entrySt [.val (.sl xs .no)]) (exitQ Try.prog Try.f26.results.toList [] ⟨.int .i64 (sizeL xs.length), none, none⟩)
def OkSize0 : Prop := ∀ (xs : List AV), xs.length ≤ 9223372036854775807 → inSize0 xs
def concat2F : Con
  | [.val (.sl [.sl xs .no, .sl ys .no] .no)] => some (isBytes xs ∧ isBytes ys ∧ xs.length + ys.length ≤ 140737488355328, ⟨.sl (catL xs ys) .no, none, none⟩)
  | _ => none
def gamConcat2 : List (Nat × Con) := [(50, growF.orNil)]
def lpConcat20 (xs ys : List AV) : Nat → Option LoopPlan := fun b => bif Nat.beq b 0 then some (.unroll [] 4) else bif Nat.beq b 2 then some (.unroll [] 4) else none
def inConcat20 (xs ys : List AV) : Prop := awp [] (lpConcat20 xs ys) (lookΓ gamConcat2) Try.prog Try.f41.ntmps 0 (Try.f41.body.getD .skip) (entrySt [.val (.sl [.sl xs .no, .sl ys .no] .no)]) (exitQ Try.prog Try.f41.results.toList [] ⟨.sl (catL xs ys) .no, none, none⟩)
def OkConcat20 : Prop := ∀ (xs ys : List AV), isBytes xs ∧ isBytes ys ∧ xs.length + ys.length ≤ 140737488355328 → inConcat20 xs ys
def frameF : Con
  | [.val (.sl xs .no)] => some (isBytes xs ∧ xs.length ≤ 9223372036854775807, ⟨.tup [.sl (bytesAV (frV (bytesL xs))) .no, .int .i64 (frE (bytesL xs).length)], none, none⟩)
  | _ => none
def gamFrame : List (Nat × Con) := [(42, numShortF.orNil), (43, sealF.orNil), (41, concat2F.orNil)]
def lpFrame0 (xs : List AV) : Nat → Option LoopPlan := fun _ => none
def inFrame0 (xs : List AV) : Prop := awp [] (lpFrame0 xs) (lookΓ gamFrame) Try.prog Try.f25.ntmps 0 (Try.f25.body.getD .skip) (entrySt [.val (.sl xs .no)]) (exitQ Try.prog Try.f25.results.toList [] ⟨.tup [.sl (bytesAV (frV (bytesL xs))) .no, .int .i64 (frE (bytesL xs).length)], none, none⟩)
def OkFrame0 : Prop := ∀ (xs : List AV), isBytes xs ∧ xs.length ≤ 9223372036854775807 → inFrame0 xs
def refFrameF : Con
  | [.val (.sl xs .no)] => some (isBytes xs ∧ xs.length ≤ 100000, ⟨.sl (bytesAV (frameL (bytesL xs))) .no, none, none⟩)
  | _ => none
def gamRefFrame : List (Nat × Con) := [(44, numShortF.orNil), (45, refOfF.orNil)]
def lpRefFrame0 (xs : List AV) : Nat → Option LoopPlan := fun b => bif Nat.beq b 0 then some (.unroll [.kill 24 0] 6) else none
def inRefFrame0 (xs : List AV) : Prop := awp [] (lpRefFrame0 xs) (lookΓ gamRefFrame) Try.prog Try.f27.ntmps 0 (Try.f27.body.getD .skip) (entrySt [.val (.sl xs .no)]) (exitQ Try.prog Try.f27.results.toList [] ⟨.sl (bytesAV (frameL (bytesL xs))) .no, none, none⟩)
def OkRefFrame0 : Prop := ∀ (xs : List AV), isBytes xs ∧ xs.length ≤ 100000 → inRefFrame0 xs
def anchor14F : Con
  | [] => some (True, ⟨.bool true, none, none⟩)
  | _ => none
def gamAnchor14 : List (Nat × Con) := [(25, frameF.orNil)]
def lpAnchor140  : Nat → Option LoopPlan := fun _ => none
def inAnchor140  : Prop := awp [] (lpAnchor140) (lookΓ gamAnchor14) Try.prog Try.f24.ntmps 0 (Try.f24.body.getD .skip) (entrySt []) (exitQ Try.prog Try.f24.results.toList [] ⟨.bool true, none, none⟩)
def OkAnchor140 : Prop := True → inAnchor140
def lawFramesF : Con
  | [.val (.sl xs .no)] => some (isBytes xs ∧ xs.length ≤ 9223372036854775807, ⟨.bool true, none, none⟩)
  | _ => none
def gamLawFrames : List (Nat × Con) := [(24, anchor14F.orNil), (25, frameF.orNil), (26, sizeF.orNil), (27, refFrameF.orNil), (16, sameBF.orNil)]
def lpLawFrames0 (xs : List AV) : Nat → Option LoopPlan := fun _ => none
def inLawFrames0 (xs : List AV) : Prop := awp [] (lpLawFrames0 xs) (lookΓ gamLawFrames) Try.prog Try.f5.ntmps 0 (Try.f5.body.getD .skip) (entrySt [.val (.sl xs .no)]) (exitQ Try.prog Try.f5.results.toList [] ⟨.bool true, none, none⟩)
def OkLawFrames0 : Prop := ∀ (xs : List AV), isBytes xs ∧ xs.length ≤ 9223372036854775807 → inLawFrames0 xs
end Go.Proofs.Ytnakjgpogegdoaa
