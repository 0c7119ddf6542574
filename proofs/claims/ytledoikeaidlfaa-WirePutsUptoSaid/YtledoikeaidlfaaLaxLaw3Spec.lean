/- Contracts by content, and the conditions that their code must meet. -/
import Derived.Test.YtledoikeaidlfaaLaxIoMeets
import Derived.Test.YtledoikeaidlfaaLaxOpen
namespace Go.Proofs.Ytledoikeaidlfaa
set_option linter.unusedVariables false
set_option linter.unusedSimpArgs false
open Go.RowKit
def OpsTy (xs : List AV) : Prop := HasTy 9223372036854775807 (.sl [.int .i64, .int .u64, .str]) (.sl xs .no)
def opRest (l : List UInt8) (e kind n : Int) : List UInt8 :=
  if kind = 1 then tkRest l e 1 else if kind = 2 then tkRest l e 1 else if kind = 3 then shRest l e n else if kind = 4 then tkRest l e 8 else if kind = 5 then inTextR l e (n % 1000) else l
def opErr (l : List UInt8) (e kind n : Int) : Int :=
  if kind = 1 then tkErr l.length e 1 else if kind = 2 then inTruthE l e else if kind = 3 then shErr l e n else if kind = 4 then tkErr l.length e 8 else if kind = 5 then inTextE l e (n % 1000) else if kind = 6 then inFail e 22 else e
def loopTakes (xs ops : List AV) : LoopInv :=
  { V := Nat × List UInt8 × Int
    T := fun v => [(0, .sl xs .no), (5, .ptr 17 0), (6, .ptr 6 0), (20, .sl ops .no), (21, .int .i64 (ops.length : Int)), (22, .int .i64 (v.1 : Int))]
    B := fun v => [(17, [.sl (bytesAV v.2.1) .no, .int .i64 v.2.2]), (6, [.sl xs .no, .int .i64 (refAt (bytesL xs) v.2.1), .int .i64 v.2.2])]
    R := fun v => []
    inv := fun v => v.1 ≤ ops.length ∧ v.2.1 <:+ bytesL xs
    mu := fun v => ops.length - v.1 }
def refTruthF : Con
  | [.val (.agg [.sl xs .no, .int .i64 at', .int .i64 e])] => some (isBytes xs ∧ 0 ≤ at' ∧ at' ≤ xs.length, ⟨.tup [.agg [.sl xs .no, .int .i64 (refAt (bytesL xs) (tkRest (refL (bytesL xs) at') e 1)), .int .i64 (inTruthE (refL (bytesL xs) at') e)], .bool (inTruthV (refL (bytesL xs) at') e)], none, none⟩)
  | _ => none
def gamRefTruth : List (Nat × Con) := [(46, refByteF), (61, refBadF)]
def lpRefTruth0 (xs : List AV) (at' e : Int) : Nat → Option LoopPlan := fun _ => none
def inRefTruth0 (xs : List AV) (at' e : Int) : Prop := awp [] (lpRefTruth0 xs at' e) (lookΓ gamRefTruth) Try.prog Try.f51.ntmps 0 (Try.f51.body.getD .skip) (entrySt [.val (.agg [.sl xs .no, .int .i64 at', .int .i64 e])]) (exitQ Try.prog Try.f51.results.toList [] ⟨.tup [.agg [.sl xs .no, .int .i64 (refAt (bytesL xs) (tkRest (refL (bytesL xs) at') e 1)), .int .i64 (inTruthE (refL (bytesL xs) at') e)], .bool (inTruthV (refL (bytesL xs) at') e)], none, none⟩)
def OkRefTruth0 : Prop := ∀ (xs : List AV) (at' e : Int), isBytes xs ∧ 0 ≤ at' ∧ at' ≤ xs.length → inRefTruth0 xs at' e
def refFixedF : Con
  | [.val (.agg [.sl xs .no, .int .i64 at', .int .i64 e])] => some (isBytes xs ∧ 0 ≤ at' ∧ at' ≤ xs.length, ⟨.tup [.agg [.sl xs .no, .int .i64 (refAt (bytesL xs) (tkRest (refL (bytesL xs) at') e 8)), .int .i64 (tkErr (refL (bytesL xs) at').length e 8)], .int .u64 (val8 (tkOut (refL (bytesL xs) at') e 8))], none, none⟩)
  | _ => none
def gamRefFixed : List (Nat × Con) := [(61, refBadF)]
def lpRefFixed0 (xs : List AV) (at' e : Int) : Nat → Option LoopPlan := fun b => bif Nat.beq b 0 then some (.unroll [] 10) else none
def inRefFixed0 (xs : List AV) (at' e : Int) : Prop := awp [] (lpRefFixed0 xs at' e) (lookΓ gamRefFixed) Try.prog Try.f52.ntmps 0 (Try.f52.body.getD .skip) (entrySt [.val (.agg [.sl xs .no, .int .i64 at', .int .i64 e])]) (exitQ Try.prog Try.f52.results.toList [] ⟨.tup [.agg [.sl xs .no, .int .i64 (refAt (bytesL xs) (tkRest (refL (bytesL xs) at') e 8)), .int .i64 (tkErr (refL (bytesL xs) at').length e 8)], .int .u64 (val8 (tkOut (refL (bytesL xs) at') e 8))], none, none⟩)
def OkRefFixed0 : Prop := ∀ (xs : List AV) (at' e : Int), isBytes xs ∧ 0 ≤ at' ∧ at' ≤ xs.length → (xs.length ≤ 9223372036854775807) → inRefFixed0 xs at' e
def refTextF : Con
  | [.val (.agg [.sl xs .no, .int .i64 at', .int .i64 e]), .val (.int .i64 m)] => some (isBytes xs ∧ 0 ≤ at' ∧ at' ≤ xs.length, ⟨.tup [.agg [.sl xs .no, .int .i64 (refAt (bytesL xs) (inTextR (refL (bytesL xs) at') e m)), .int .i64 (inTextE (refL (bytesL xs) at') e m)], .str (inTextV (refL (bytesL xs) at') e m)], none, none⟩)
  | _ => none
def gamRefText : List (Nat × Con) := [(43, refShortF), (61, refBadF)]
def lpRefText0 (xs : List AV) (at' e m : Int) : Nat → Option LoopPlan := fun _ => none
def inRefText0 (xs : List AV) (at' e m : Int) : Prop := awp [] (lpRefText0 xs at' e m) (lookΓ gamRefText) Try.prog Try.f53.ntmps 0 (Try.f53.body.getD .skip) (entrySt [.val (.agg [.sl xs .no, .int .i64 at', .int .i64 e]), .val (.int .i64 m)]) (exitQ Try.prog Try.f53.results.toList [] ⟨.tup [.agg [.sl xs .no, .int .i64 (refAt (bytesL xs) (inTextR (refL (bytesL xs) at') e m)), .int .i64 (inTextE (refL (bytesL xs) at') e m)], .str (inTextV (refL (bytesL xs) at') e m)], none, none⟩)
def OkRefText0 : Prop := ∀ (xs : List AV) (at' e m : Int), isBytes xs ∧ 0 ≤ at' ∧ at' ≤ xs.length → (xs.length ≤ 9223372036854775807) → (-9223372036854775808 ≤ m ∧ m ≤ 9223372036854775807) → inRefText0 xs at' e m
def anchor3F : Con
  | [] => some (True, ⟨.bool true, none, none⟩)
  | _ => none
def gamAnchor3 : List (Nat × Con) := [(30, outTruthF), (33, outTextF), (14, outBytesF)]
def lpAnchor30  : Nat → Option LoopPlan := fun _ => none
def inAnchor30  : Prop := awp [] (lpAnchor30) (lookΓ gamAnchor3) Try.prog Try.f25.ntmps 0 (Try.f25.body.getD .skip) (entrySt []) (exitQ Try.prog Try.f25.results.toList [] ⟨.bool true, none, none⟩)
def OkAnchor30 : Prop := True → inAnchor30
def opTakeF : Con
  | [.box [.sl xs .no, .int .i64 e], .val (.agg [.sl ys .no, .int .i64 at', .int .i64 e']), .val (.agg [.int .i64 kind, .int .u64 n, .str tx])] => some (isBytes ys ∧ 0 ≤ at' ∧ at' ≤ ys.length ∧ xs = bytesAV (refL (bytesL ys) at') ∧ e' = e, ⟨.tup [.agg [.sl ys .no, .int .i64 (refAt (bytesL ys) (opRest (refL (bytesL ys) at') e kind n)), .int .i64 (opErr (refL (bytesL ys) at') e kind n)], .bool true], (some [.sl (bytesAV (opRest (refL (bytesL ys) at') e kind n)) .no, .int .i64 (opErr (refL (bytesL ys) at') e kind n)]), none⟩)
  | _ => none
def gamOpTake : List (Nat × Con) := [(46, refByteF), (34, inByteF), (51, refTruthF), (35, inTruthF), (43, refShortF), (36, inShortF), (52, refFixedF), (37, inFixedF), (53, refTextF), (38, inTextF), (47, inFailF)]
def lpOpTake0 (xs : List AV) (e : Int) (ys : List AV) (at' e' kind n : Int) (tx : List UInt8) : Nat → Option LoopPlan := fun _ => none
def inOpTake0 (xs : List AV) (e : Int) (ys : List AV) (at' e' kind n : Int) (tx : List UInt8) : Prop := awp [0] (lpOpTake0 xs e ys at' e' kind n tx) (lookΓ gamOpTake) Try.prog Try.f26.ntmps 0 (Try.f26.body.getD .skip) (entrySt [.box [.sl xs .no, .int .i64 e], .val (.agg [.sl ys .no, .int .i64 at', .int .i64 e']), .val (.agg [.int .i64 kind, .int .u64 n, .str tx])]) (exitQ Try.prog Try.f26.results.toList [0] ⟨.tup [.agg [.sl ys .no, .int .i64 (refAt (bytesL ys) (opRest (refL (bytesL ys) at') e kind n)), .int .i64 (opErr (refL (bytesL ys) at') e kind n)], .bool true], (some [.sl (bytesAV (opRest (refL (bytesL ys) at') e kind n)) .no, .int .i64 (opErr (refL (bytesL ys) at') e kind n)]), none⟩)
def OkOpTake0 : Prop := ∀ (xs : List AV) (e : Int) (ys : List AV) (at' e' kind n : Int) (tx : List UInt8), isBytes ys ∧ 0 ≤ at' ∧ at' ≤ ys.length ∧ xs = bytesAV (refL (bytesL ys) at') ∧ e' = e → (0 ≤ n ∧ n ≤ 18446744073709551615) → inOpTake0 xs e ys at' e' kind n tx
def lawTakesF : Con
  | [.val (.sl xs .no), .val (.sl ops .no)] => some (isBytes xs ∧ xs.length ≤ 140737488355328 ∧ OpsTy ops, ⟨.bool true, none, none⟩)
  | _ => none
def gamLawTakes : List (Nat × Con) := [(25, anchor3F), (8, newInF), (26, opTakeF), (27, inLeftF), (11, inEndF), (12, refEndF), (28, inFailedF)]
def lpLawTakes0 (xs ops : List AV) : Nat → Option LoopPlan := fun b => bif Nat.beq b 0 then some (.inv [] (loopTakes xs ops)) else none
def inLawTakes0 (xs ops : List AV) : Prop := awp [] (lpLawTakes0 xs ops) (lookΓ gamLawTakes) Try.prog Try.f5.ntmps 0 (Try.f5.body.getD .skip) (entrySt [.val (.sl xs .no), .val (.sl ops .no)]) (exitQ Try.prog Try.f5.results.toList [] ⟨.bool true, none, none⟩)
def OkLawTakes0 : Prop := ∀ (xs ops : List AV), isBytes xs ∧ xs.length ≤ 140737488355328 ∧ OpsTy ops → inLawTakes0 xs ops
end Go.Proofs.Ytledoikeaidlfaa
