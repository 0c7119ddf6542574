/- Contracts by content, and the conditions that their code must meet. -/
import Derived.Test.YtnhfjdbnkpbbkabLaxSeal
namespace Go.Proofs.Ytnhfjdbnkpbbkab
set_option linter.unusedVariables false
set_option linter.unusedSimpArgs false
open Go.RowKit
def sealL (l : List UInt8) : List UInt8 := l ++ tailL (crcI l)
def bodyL (l : List UInt8) : List UInt8 := l.take (l.length - 4)
def openOK (l : List UInt8) : Prop := 4 ≤ l.length ∧ l.drop (l.length - 4) = tailL (crcI (bodyL l))
def loopSame (xs : List AV) : LoopInv :=
  { V := Nat
    T := fun i => [(0, .sl xs .no), (1, .sl xs .no), (5, .int .i64 (i : Int))]
    B := fun i => []
    R := fun i => []
    inv := fun i => i ≤ xs.length
    mu := fun i => xs.length - i }
def sameF : Con
  | [.val (.sl xs .no), .val (.sl ys .no)] => some (isBytes xs ∧ xs.length ≤ 140737488355328 ∧ ys = xs, ⟨.bool true, none, none⟩)
  | _ => none
def gamSame : List (Nat × Con) := []
def lpSame0 (xs ys : List AV) : Nat → Option LoopPlan := fun b => bif Nat.beq b 0 then some (.inv [] (loopSame xs)) else none
def inSame0 (xs ys : List AV) : Prop := awp [] (lpSame0 xs ys) (lookΓ gamSame) Try.prog Try.f19.ntmps 0 (Try.f19.body.getD .skip) (entrySt [.val (.sl xs .no), .val (.sl ys .no)]) (exitQ Try.prog Try.f19.results.toList [] ⟨.bool true, none, none⟩)
def OkSame0 : Prop := ∀ (xs ys : List AV), isBytes xs ∧ xs.length ≤ 140737488355328 ∧ ys = xs → inSame0 xs ys
def equalF : Con
  | [.val (.sl xs .no), .val (.sl ys .no)] => some (isBytes xs ∧ isBytes ys, ⟨.bool (decide (bytesL xs = bytesL ys)), none, none⟩)
  | _ => none
def gamEqual : List (Nat × Con) := []
def lpEqual0 (xs ys : List AV) : Nat → Option LoopPlan := fun _ => none
def inEqual0 (xs ys : List AV) : Prop := awp [] (lpEqual0 xs ys) (lookΓ gamEqual) Try.prog Try.f38.ntmps 0 (Try.f38.body.getD .skip) (entrySt [.val (.sl xs .no), .val (.sl ys .no)]) (exitQ Try.prog Try.f38.results.toList [] ⟨.bool (decide (bytesL xs = bytesL ys)), none, none⟩)
def OkEqual0 : Prop := ∀ (xs ys : List AV), isBytes xs ∧ isBytes ys → inEqual0 xs ys
def sealF : Con
  | [.val (.sl xs .no)] => some (isBytes xs ∧ xs.length ≤ 140737488355000, ⟨.sl (bytesAV (sealL (bytesL xs))) .no, none, none⟩)
  | _ => none
def gamSeal : List (Nat × Con) := [(36, cloneF), (35, sumOfF), (37, tailF)]
def lpSeal0 (xs : List AV) : Nat → Option LoopPlan := fun _ => none
def inSeal0 (xs : List AV) : Prop := awp [] (lpSeal0 xs) (lookΓ gamSeal) Try.prog Try.f24.ntmps 0 (Try.f24.body.getD .skip) (entrySt [.val (.sl xs .no)]) (exitQ Try.prog Try.f24.results.toList [] ⟨.sl (bytesAV (sealL (bytesL xs))) .no, none, none⟩)
def OkSeal0 : Prop := ∀ (xs : List AV), isBytes xs ∧ xs.length ≤ 140737488355000 → inSeal0 xs
def openF : Con
  | [.val (.sl xs .no)] => some (isBytes xs ∧ xs.length ≤ 140737488355100 ∧ openOK (bytesL xs), ⟨.tup [.sl (bytesAV (bodyL (bytesL xs))) .no, .int .i64 0], none, none⟩)
  | _ => none
def gamOpen : List (Nat × Con) := [(36, cloneF), (35, sumOfF), (37, tailF), (38, equalF)]
def lpOpen0 (xs : List AV) : Nat → Option LoopPlan := fun _ => none
def inOpen0 (xs : List AV) : Prop := awp [] (lpOpen0 xs) (lookΓ gamOpen) Try.prog Try.f25.ntmps 0 (Try.f25.body.getD .skip) (entrySt [.val (.sl xs .no)]) (exitQ Try.prog Try.f25.results.toList [] ⟨.tup [.sl (bytesAV (bodyL (bytesL xs))) .no, .int .i64 0], none, none⟩)
def OkOpen0 : Prop := ∀ (xs : List AV), isBytes xs ∧ xs.length ≤ 140737488355100 ∧ openOK (bytesL xs) → inOpen0 xs
def lawSealsF : Con
  | [.val (.sl xs .no)] => some (isBytes xs ∧ xs.length ≤ 140737488351232, ⟨.bool true, none, none⟩)
  | _ => none
def gamLawSeals : List (Nat × Con) := [(23, anchor2F), (24, sealF), (25, openF), (19, sameF)]
def lpLawSeals0 (xs : List AV) : Nat → Option LoopPlan := fun _ => none
def inLawSeals0 (xs : List AV) : Prop := awp [] (lpLawSeals0 xs) (lookΓ gamLawSeals) Try.prog Try.f6.ntmps 0 (Try.f6.body.getD .skip) (entrySt [.val (.sl xs .no)]) (exitQ Try.prog Try.f6.results.toList [] ⟨.bool true, none, none⟩)
def OkLawSeals0 : Prop := ∀ (xs : List AV), isBytes xs ∧ xs.length ≤ 140737488351232 → inLawSeals0 xs
end Go.Proofs.Ytnhfjdbnkpbbkab
