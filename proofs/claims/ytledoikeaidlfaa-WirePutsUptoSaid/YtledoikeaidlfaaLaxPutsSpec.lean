/- Contracts by content, and the conditions that their code must meet. -/
import Derived.Test.YtledoikeaidlfaaLaxLaw3Meets
namespace Go.Proofs.Ytledoikeaidlfaa
set_option linter.unusedVariables false
set_option linter.unusedSimpArgs false
open Go.RowKit
def OpsB (xs : List AV) : Prop := HasTy 1048576 (.sl [.int .i64, .int .u64, .str]) (.sl xs .no)
/-- what an operation puts -/
def encOp (k n : Int) (s : List UInt8) : List UInt8 :=
  if k = 1 then encByte (IntKind.u8.wrap n) else if k = 2 then encTruth (n.tmod 2 == 1) else if k = 3 then short n.toNat else if k = 4 then bytesOf n (cap8 8) else if k = 5 then encText s else []
def encAt (xs : List AV) (i : Nat) : List UInt8 := encOp (rdInt (elemAt xs i) 0) (rdInt (elemAt xs i) 1) (rdStr (elemAt xs i) 2)
def encN (xs : List AV) : Nat → List UInt8
  | 0 => []
  | i + 1 => catL (encN xs i) (encAt xs i)
def restN (xs : List AV) (i : Nat) : List UInt8 := ((List.range xs.length).drop i).flatMap (encAt xs)
def loopPut (ops : List AV) : LoopInv :=
  { V := Nat
    T := fun i => [(0, .sl ops .no), (3, .ptr 17 0), (18, .sl ops .no), (19, .int .i64 (ops.length : Int)), (20, .int .i64 (i : Int))]
    B := fun i => [(17, [.sl (bytesAV (encN ops i)) (.row 17 0 5)])]
    R := fun i => [((17, 0), (encN ops i).length)]
    inv := fun i => i ≤ ops.length
    mu := fun i => ops.length - i }
def loopGet (ops : List AV) : LoopInv :=
  { V := Nat
    T := fun i => [(3, .ptr 17 0), (6, .sl (bytesAV (encN ops ops.length)) .no), (7, .ptr 63 0), (64, .sl ops .no), (65, .int .i64 (ops.length : Int)), (66, .int .i64 (i : Int))]
    B := fun i => [(17, [.sl (bytesAV (encN ops ops.length)) (.row 17 0 5)]), (63, [.sl (bytesAV (restN ops i)) .no, .int .i64 0])]
    R := fun i => [((17, 0), (encN ops ops.length).length)]
    inv := fun i => i ≤ ops.length
    mu := fun i => ops.length - i }
def loopSame (xs : List AV) : LoopInv :=
  { V := Nat
    T := fun i => [(0, .sl xs .no), (1, .sl xs .no), (5, .int .i64 (i : Int))]
    B := fun i => []
    R := fun i => []
    inv := fun i => i ≤ xs.length
    mu := fun i => xs.length - i }
def sameF : Con
  | [.val (.sl xs .no), .val (.sl ys .no)] => some (isBytes xs ∧ xs.length ≤ 140737488355328 ∧ ys = xs, ⟨.bool true, none, none⟩)
  | _ => none
def gamSame : List (Nat × Con) := []
def lpSame0 (xs ys : List AV) : Nat → Option LoopPlan := fun b => bif Nat.beq b 0 then some (.inv [] (loopSame xs)) else none
def inSame0 (xs ys : List AV) : Prop := awp [] (lpSame0 xs ys) (lookΓ gamSame) Try.prog Try.f39.ntmps 0 (Try.f39.body.getD .skip) (entrySt [.val (.sl xs .no), .val (.sl ys .no)]) (exitQ Try.prog Try.f39.results.toList [] ⟨.bool true, none, none⟩)
def OkSame0 : Prop := ∀ (xs ys : List AV), isBytes xs ∧ xs.length ≤ 140737488355328 ∧ ys = xs → inSame0 xs ys
def lawPutsF : Con
  | [.val (.sl ops .no)] => some (OpsB ops, ⟨.bool true, none, none⟩)
  | _ => none
def gamLawPuts : List (Nat × Con) := [(25, anchor3F), (29, outByteF), (30, outTruthF), (31, outShortF), (32, outFixedF), (33, outTextF), (14, outBytesF), (8, newInF), (34, inByteF), (35, inTruthF), (36, inShortF), (37, inFixedF), (38, inTextF), (11, inEndF), (39, sameF)]
def lpLawPuts0 (ops : List AV) : Nat → Option LoopPlan := fun b => bif Nat.beq b 0 then some (.inv [] (loopPut ops)) else bif Nat.beq b 3 then some (.inv [] (loopGet ops)) else none
def inLawPuts0 (ops : List AV) : Prop := awp [] (lpLawPuts0 ops) (lookΓ gamLawPuts) Try.prog Try.f6.ntmps 0 (Try.f6.body.getD .skip) (entrySt [.val (.sl ops .no)]) (exitQ Try.prog Try.f6.results.toList [] ⟨.bool true, none, none⟩)
def OkLawPuts0 : Prop := ∀ (ops : List AV), OpsB ops → inLawPuts0 ops
end Go.Proofs.Ytledoikeaidlfaa
