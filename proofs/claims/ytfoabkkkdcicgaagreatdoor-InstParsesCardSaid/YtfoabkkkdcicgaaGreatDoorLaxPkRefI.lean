/- Contracts by content, their conditions, and that they are met: RefI. -/
import Derived.Test.YtfoabkkkdcicgaaGreatDoorLaxPkIoB
import Derived.Test.YtfoabkkkdcicgaaGreatDoorLaxRefRead
/- Contracts by content, and the conditions that their code must meet. -/
namespace Go.Proofs.YtfoabkkkdcicgaaGreatDoor
set_option linter.unusedVariables false
set_option linter.unusedSimpArgs false
open Go.RowKit
def refL (l : List UInt8) (a : Int) : List UInt8 := l.drop a.toNat
def refAt (l rest : List UInt8) : Int := ((l.length - rest.length : Nat) : Int)
def refBadF : Con
  | [.val (.agg [.sl xs .no, .int .i64 at', .int .i64 e]), .val (.int .i64 c)] => (some (True, ⟨.agg [.sl xs .no, .int .i64 at', .int .i64 (inFail e c)], none, none⟩))
  | _ => none
def gamRefBad : List (Nat × Con) := []
def lpRefBad0 (xs : List AV) (at' e c : Int) : Nat → Option LoopPlan := fun _ => none
def inRefBad0 (xs : List AV) (at' e c : Int) : Prop := awp [] (lpRefBad0 xs at' e c) (lookΓ gamRefBad) Tryz.prog Tryz.f67.ntmps 0 (Tryz.f67.body.getD .skip) (entrySt [.val (.agg [.sl xs .no, .int .i64 at', .int .i64 e]), .val (.int .i64 c)]) (exitQ Tryz.prog Tryz.f67.results.toList [] ⟨.agg [.sl xs .no, .int .i64 at', .int .i64 (inFail e c)], none, none⟩)
def OkRefBad0 : Prop := ∀ (xs : List AV) (at' e c : Int), True → inRefBad0 xs at' e c
def refByteF : Con
  | [.val (.agg [.sl xs .no, .int .i64 at', .int .i64 e])] => (some (isBytes xs ∧ 0 ≤ at' ∧ at' ≤ xs.length, ⟨.tup [.agg [.sl xs .no, .int .i64 (refAt (bytesL xs) (tkRest (refL (bytesL xs) at') e 1)), .int .i64 (tkErr (refL (bytesL xs) at').length e 1)], .int .u8 (inByteV (refL (bytesL xs) at') e)], none, none⟩))
  | _ => none
def gamRefByte : List (Nat × Con) := [(67, refBadF.orNil)]
def lpRefByte0 (xs : List AV) (at' e : Int) : Nat → Option LoopPlan := fun _ => none
def inRefByte0 (xs : List AV) (at' e : Int) : Prop := awp [] (lpRefByte0 xs at' e) (lookΓ gamRefByte) Tryz.prog Tryz.f32.ntmps 0 (Tryz.f32.body.getD .skip) (entrySt [.val (.agg [.sl xs .no, .int .i64 at', .int .i64 e])]) (exitQ Tryz.prog Tryz.f32.results.toList [] ⟨.tup [.agg [.sl xs .no, .int .i64 (refAt (bytesL xs) (tkRest (refL (bytesL xs) at') e 1)), .int .i64 (tkErr (refL (bytesL xs) at').length e 1)], .int .u8 (inByteV (refL (bytesL xs) at') e)], none, none⟩)
def OkRefByte0 : Prop := ∀ (xs : List AV) (at' e : Int), isBytes xs ∧ 0 ≤ at' ∧ at' ≤ xs.length → (xs.length ≤ 9223372036854775807) → inRefByte0 xs at' e
def refShortF : Con
  | [.val (.agg [.sl xs .no, .int .i64 at', .int .i64 e]), .val (.int .u64 m)] => (some (isBytes xs ∧ 0 ≤ at' ∧ at' ≤ xs.length, ⟨.tup [.agg [.sl xs .no, .int .i64 (refAt (bytesL xs) (shRest (refL (bytesL xs) at') e m)), .int .i64 (shErr (refL (bytesL xs) at') e m)], .int .u64 (shV (refL (bytesL xs) at') e m)], none, none⟩))
  | _ => none
def gamRefShort : List (Nat × Con) := [(89, readShortF.orNil), (67, refBadF.orNil)]
def lpRefShort0 (xs : List AV) (at' e m : Int) : Nat → Option LoopPlan := fun _ => none
def inRefShort0 (xs : List AV) (at' e m : Int) : Prop := awp [] (lpRefShort0 xs at' e m) (lookΓ gamRefShort) Tryz.prog Tryz.f66.ntmps 0 (Tryz.f66.body.getD .skip) (entrySt [.val (.agg [.sl xs .no, .int .i64 at', .int .i64 e]), .val (.int .u64 m)]) (exitQ Tryz.prog Tryz.f66.results.toList [] ⟨.tup [.agg [.sl xs .no, .int .i64 (refAt (bytesL xs) (shRest (refL (bytesL xs) at') e m)), .int .i64 (shErr (refL (bytesL xs) at') e m)], .int .u64 (shV (refL (bytesL xs) at') e m)], none, none⟩)
def OkRefShort0 : Prop := ∀ (xs : List AV) (at' e m : Int), isBytes xs ∧ 0 ≤ at' ∧ at' ≤ xs.length → (xs.length ≤ 9223372036854775807) → inRefShort0 xs at' e m
def refEndF : Con
  | [.val (.agg [.sl xs .no, .int .i64 at', .int .i64 e])] => (some (isBytes xs ∧ 0 ≤ at' ∧ at' ≤ xs.length, ⟨.int .i64 (inEnd (refL (bytesL xs) at') e), none, none⟩))
  | _ => none
def gamRefEnd : List (Nat × Con) := []
def lpRefEnd0 (xs : List AV) (at' e : Int) : Nat → Option LoopPlan := fun _ => none
def inRefEnd0 (xs : List AV) (at' e : Int) : Prop := awp [] (lpRefEnd0 xs at' e) (lookΓ gamRefEnd) Tryz.prog Tryz.f10.ntmps 0 (Tryz.f10.body.getD .skip) (entrySt [.val (.agg [.sl xs .no, .int .i64 at', .int .i64 e])]) (exitQ Tryz.prog Tryz.f10.results.toList [] ⟨.int .i64 (inEnd (refL (bytesL xs) at') e), none, none⟩)
def OkRefEnd0 : Prop := ∀ (xs : List AV) (at' e : Int), isBytes xs ∧ 0 ≤ at' ∧ at' ≤ xs.length → inRefEnd0 xs at' e
def refTruthF : Con
  | [.val (.agg [.sl xs .no, .int .i64 at', .int .i64 e])] => (some (isBytes xs ∧ 0 ≤ at' ∧ at' ≤ xs.length, ⟨.tup [.agg [.sl xs .no, .int .i64 (refAt (bytesL xs) (tkRest (refL (bytesL xs) at') e 1)), .int .i64 (inTruthE (refL (bytesL xs) at') e)], .bool (inTruthV (refL (bytesL xs) at') e)], none, none⟩))
  | _ => none
def gamRefTruth : List (Nat × Con) := [(32, refByteF.orNil), (67, refBadF.orNil)]
def lpRefTruth0 (xs : List AV) (at' e : Int) : Nat → Option LoopPlan := fun _ => none
def inRefTruth0 (xs : List AV) (at' e : Int) : Prop := awp [] (lpRefTruth0 xs at' e) (lookΓ gamRefTruth) Tryz.prog Tryz.f33.ntmps 0 (Tryz.f33.body.getD .skip) (entrySt [.val (.agg [.sl xs .no, .int .i64 at', .int .i64 e])]) (exitQ Tryz.prog Tryz.f33.results.toList [] ⟨.tup [.agg [.sl xs .no, .int .i64 (refAt (bytesL xs) (tkRest (refL (bytesL xs) at') e 1)), .int .i64 (inTruthE (refL (bytesL xs) at') e)], .bool (inTruthV (refL (bytesL xs) at') e)], none, none⟩)
def OkRefTruth0 : Prop := ∀ (xs : List AV) (at' e : Int), isBytes xs ∧ 0 ≤ at' ∧ at' ≤ xs.length → inRefTruth0 xs at' e
def refFixedF : Con
  | [.val (.agg [.sl xs .no, .int .i64 at', .int .i64 e])] => (some (isBytes xs ∧ 0 ≤ at' ∧ at' ≤ xs.length, ⟨.tup [.agg [.sl xs .no, .int .i64 (refAt (bytesL xs) (tkRest (refL (bytesL xs) at') e 8)), .int .i64 (tkErr (refL (bytesL xs) at').length e 8)], .int .u64 (val8 (tkOut (refL (bytesL xs) at') e 8))], none, none⟩))
  | _ => none
def gamRefFixed : List (Nat × Con) := [(67, refBadF.orNil)]
def lpRefFixed0 (xs : List AV) (at' e : Int) : Nat → Option LoopPlan := fun b => bif Nat.beq b 0 then some (.unroll [] 10) else none
def inRefFixed0 (xs : List AV) (at' e : Int) : Prop := awp [] (lpRefFixed0 xs at' e) (lookΓ gamRefFixed) Tryz.prog Tryz.f69.ntmps 0 (Tryz.f69.body.getD .skip) (entrySt [.val (.agg [.sl xs .no, .int .i64 at', .int .i64 e])]) (exitQ Tryz.prog Tryz.f69.results.toList [] ⟨.tup [.agg [.sl xs .no, .int .i64 (refAt (bytesL xs) (tkRest (refL (bytesL xs) at') e 8)), .int .i64 (tkErr (refL (bytesL xs) at').length e 8)], .int .u64 (val8 (tkOut (refL (bytesL xs) at') e 8))], none, none⟩)
def OkRefFixed0 : Prop := ∀ (xs : List AV) (at' e : Int), isBytes xs ∧ 0 ≤ at' ∧ at' ≤ xs.length → (xs.length ≤ 9223372036854775807) → inRefFixed0 xs at' e
def refTextF : Con
  | [.val (.agg [.sl xs .no, .int .i64 at', .int .i64 e]), .val (.int .i64 m)] => (some (isBytes xs ∧ 0 ≤ at' ∧ at' ≤ xs.length, ⟨.tup [.agg [.sl xs .no, .int .i64 (refAt (bytesL xs) (inTextR (refL (bytesL xs) at') e m)), .int .i64 (inTextE (refL (bytesL xs) at') e m)], .str (inTextV (refL (bytesL xs) at') e m)], none, none⟩))
  | _ => none
def gamRefText : List (Nat × Con) := [(66, refShortF.orNil), (67, refBadF.orNil)]
def lpRefText0 (xs : List AV) (at' e m : Int) : Nat → Option LoopPlan := fun _ => none
def inRefText0 (xs : List AV) (at' e m : Int) : Prop := awp [] (lpRefText0 xs at' e m) (lookΓ gamRefText) Tryz.prog Tryz.f70.ntmps 0 (Tryz.f70.body.getD .skip) (entrySt [.val (.agg [.sl xs .no, .int .i64 at', .int .i64 e]), .val (.int .i64 m)]) (exitQ Tryz.prog Tryz.f70.results.toList [] ⟨.tup [.agg [.sl xs .no, .int .i64 (refAt (bytesL xs) (inTextR (refL (bytesL xs) at') e m)), .int .i64 (inTextE (refL (bytesL xs) at') e m)], .str (inTextV (refL (bytesL xs) at') e m)], none, none⟩)
def OkRefText0 : Prop := ∀ (xs : List AV) (at' e m : Int), isBytes xs ∧ 0 ≤ at' ∧ at' ≤ xs.length → (xs.length ≤ 9223372036854775807) → (-9223372036854775808 ≤ m ∧ m ≤ 9223372036854775807) → inRefText0 xs at' e m
def refTakeIDF : Con
  | [.val (.agg [.sl xs .no, .int .i64 at', .int .i64 e])] => (some (isBytes xs ∧ 0 ≤ at' ∧ at' ≤ xs.length, ⟨.tup [.agg [.sl xs .no, .int .i64 (refAt (bytesL xs) (idRest (refL (bytesL xs) at') e)), .int .i64 (idErr (refL (bytesL xs) at') e)], .agg [.int .i64 (idR (refL (bytesL xs) at') e), .int .i64 (idS (refL (bytesL xs) at') e)]], none, none⟩))
  | _ => none
def gamRefTakeID : List (Nat × Con) := [(32, refByteF.orNil), (66, refShortF.orNil)]
def lpRefTakeID0 (xs : List AV) (at' e : Int) : Nat → Option LoopPlan := fun _ => none
def inRefTakeID0 (xs : List AV) (at' e : Int) : Prop := awp [] (lpRefTakeID0 xs at' e) (lookΓ gamRefTakeID) Tryz.prog Tryz.f30.ntmps 0 (Tryz.f30.body.getD .skip) (entrySt [.val (.agg [.sl xs .no, .int .i64 at', .int .i64 e])]) (exitQ Tryz.prog Tryz.f30.results.toList [] ⟨.tup [.agg [.sl xs .no, .int .i64 (refAt (bytesL xs) (idRest (refL (bytesL xs) at') e)), .int .i64 (idErr (refL (bytesL xs) at') e)], .agg [.int .i64 (idR (refL (bytesL xs) at') e), .int .i64 (idS (refL (bytesL xs) at') e)]], none, none⟩)
def OkRefTakeID0 : Prop := ∀ (xs : List AV) (at' e : Int), isBytes xs ∧ 0 ≤ at' ∧ at' ≤ xs.length → inRefTakeID0 xs at' e
def refTakeBalF : Con
  | [.val (.agg [.sl xs .no, .int .i64 at', .int .i64 e])] => (some (isBytes xs ∧ 0 ≤ at' ∧ at' ≤ xs.length, ⟨.tup [.agg [.sl xs .no, .int .i64 (refAt (bytesL xs) (shRest (refL (bytesL xs) at') e 4294967295)), .int .i64 (balE (refL (bytesL xs) at') e)], .int .u32 (balV (refL (bytesL xs) at') e)], none, none⟩))
  | _ => none
def gamRefTakeBal : List (Nat × Con) := [(66, refShortF.orNil), (40, refBalF.orNil)]
def lpRefTakeBal0 (xs : List AV) (at' e : Int) : Nat → Option LoopPlan := fun _ => none
def inRefTakeBal0 (xs : List AV) (at' e : Int) : Prop := awp [] (lpRefTakeBal0 xs at' e) (lookΓ gamRefTakeBal) Tryz.prog Tryz.f31.ntmps 0 (Tryz.f31.body.getD .skip) (entrySt [.val (.agg [.sl xs .no, .int .i64 at', .int .i64 e])]) (exitQ Tryz.prog Tryz.f31.results.toList [] ⟨.tup [.agg [.sl xs .no, .int .i64 (refAt (bytesL xs) (shRest (refL (bytesL xs) at') e 4294967295)), .int .i64 (balE (refL (bytesL xs) at') e)], .int .u32 (balV (refL (bytesL xs) at') e)], none, none⟩)
def OkRefTakeBal0 : Prop := ∀ (xs : List AV) (at' e : Int), isBytes xs ∧ 0 ≤ at' ∧ at' ≤ xs.length → inRefTakeBal0 xs at' e
def refATakeF : Con
  | [.val (.agg [.sl xs .no, .int .i64 at', .int .i64 e])] => (some (isBytes xs ∧ 0 ≤ at' ∧ at' ≤ xs.length, ⟨.tup [.agg [.sl xs .no, .int .i64 (refAt (bytesL xs) (atS (refL (bytesL xs) at') e 7).1), .int .i64 (atS (refL (bytesL xs) at') e 7).2], .agg [.int .i64 (atZ (refL (bytesL xs) at') e (shV (refL (bytesL xs) at') e 1073741824)), .int .i64 (atZ (refL (bytesL xs) at') e (atV (refL (bytesL xs) at') e 0)), .int .i64 (atZ (refL (bytesL xs) at') e (atV (refL (bytesL xs) at') e 1)), .int .i64 (atZ (refL (bytesL xs) at') e (atV (refL (bytesL xs) at') e 2)), .int .i64 (atZ (refL (bytesL xs) at') e (atV (refL (bytesL xs) at') e 3)), .int .i64 (atZ (refL (bytesL xs) at') e (atV (refL (bytesL xs) at') e 4)), .int .i64 (atZ (refL (bytesL xs) at') e (atV (refL (bytesL xs) at') e 5)), .int .i64 (atZ (refL (bytesL xs) at') e (atV (refL (bytesL xs) at') e 6))]], none, none⟩))
  | _ => none
def gamRefATake : List (Nat × Con) := [(66, refShortF.orNil)]
def lpRefATake0 (xs : List AV) (at' e : Int) : Nat → Option LoopPlan := fun b => bif Nat.beq b 0 then some (.unroll [] 9) else none
def inRefATake0 (xs : List AV) (at' e : Int) : Prop := awp [] (lpRefATake0 xs at' e) (lookΓ gamRefATake) Tryz.prog Tryz.f35.ntmps 0 (Tryz.f35.body.getD .skip) (entrySt [.val (.agg [.sl xs .no, .int .i64 at', .int .i64 e])]) (exitQ Tryz.prog Tryz.f35.results.toList [] ⟨.tup [.agg [.sl xs .no, .int .i64 (refAt (bytesL xs) (atS (refL (bytesL xs) at') e 7).1), .int .i64 (atS (refL (bytesL xs) at') e 7).2], .agg [.int .i64 (atZ (refL (bytesL xs) at') e (shV (refL (bytesL xs) at') e 1073741824)), .int .i64 (atZ (refL (bytesL xs) at') e (atV (refL (bytesL xs) at') e 0)), .int .i64 (atZ (refL (bytesL xs) at') e (atV (refL (bytesL xs) at') e 1)), .int .i64 (atZ (refL (bytesL xs) at') e (atV (refL (bytesL xs) at') e 2)), .int .i64 (atZ (refL (bytesL xs) at') e (atV (refL (bytesL xs) at') e 3)), .int .i64 (atZ (refL (bytesL xs) at') e (atV (refL (bytesL xs) at') e 4)), .int .i64 (atZ (refL (bytesL xs) at') e (atV (refL (bytesL xs) at') e 5)), .int .i64 (atZ (refL (bytesL xs) at') e (atV (refL (bytesL xs) at') e 6))]], none, none⟩)
def OkRefATake0 : Prop := ∀ (xs : List AV) (at' e : Int), isBytes xs ∧ 0 ≤ at' ∧ at' ≤ xs.length → inRefATake0 xs at' e
end Go.Proofs.YtfoabkkkdcicgaaGreatDoor
/- What the verification conditions come to: printed by a program of ours (wip/lax/ex/Norm.lean). -/
namespace Go.Proofs.YtfoabkkkdcicgaaGreatDoor
set_option linter.unusedVariables false
open Go.RowKit
set_option maxRecDepth 100000
theorem vcRefBad0 (xs : (List AV)) (at' : Int) (e : Int) (c : Int) (h : (tt ∧ T1 ∧ T1 ∧ tt ∧ T1 ∧ tt ∧ T1 ∧ (bif (e == 0) then (tt ∧ T1 ∧ T1 ∧ tt ∧ tt ∧ tt ∧ tt ∧ tt ∧ tt ∧ (xs = xs ∧ at' = at' ∧ (inFail e c) = c ∧ True) ∧ tt) else (tt ∧ tt ∧ tt ∧ tt ∧ tt ∧ (xs = xs ∧ at' = at' ∧ (inFail e c) = e ∧ True) ∧ tt)))) : inRefBad0 xs at' e c :=
  Eq.mp (show _ = _ by kernel_rfl) h
theorem vcRefByte0 (xs : (List AV)) (at' : Int) (e : Int) (h : let q0 := (refL (bytesL xs) at'); let q1 := (refAt (bytesL xs) (tkRest q0 e 1)); (tt ∧ T1 ∧ T1 ∧ T1 ∧ tt ∧ T1 ∧ tt ∧ T1 ∧ T1 ∧ (bif (e != 0) then (tt ∧ tt ∧ tt ∧ (T1 ∧ True) ∧ ∀ v0 : (List AV), (v0 = xs) → ∀ v2 : Int, (v2 = at') → ∀ v4 : Int, (v4 = (inFail e 20)) → tt ∧ T1 ∧ tt ∧ tt ∧ (xs = v0 ∧ q1 = v2 ∧ (tkErr (List.length q0) e 1) = v4 ∧ (inByteV q0 e) = 0 ∧ True) ∧ tt) else (T1 ∧ tt ∧ T1 ∧ tt ∧ T1 ∧ T1 ∧ T1 ∧ (bif (decide (((List.length xs) : Int) ≤ at')) then (tt ∧ tt ∧ (T1 ∧ True) ∧ ∀ v0 : (List AV), (v0 = xs) → ∀ v2 : Int, (v2 = at') → ∀ v4 : Int, (v4 = (inFail e 20)) → tt ∧ T1 ∧ tt ∧ tt ∧ (xs = v0 ∧ q1 = v2 ∧ (tkErr (List.length q0) e 1) = v4 ∧ (inByteV q0 e) = 0 ∧ True) ∧ tt) else (tt ∧ T1 ∧ tt ∧ T1 ∧ tt ∧ ((0 : Int) ≤ at' ∧ at' < ((List.length xs) : Int) ∧ (okElem 1 xs (Int.toNat at'))) ∧ (okRead [(Kd.int IntKind.u8)] (elemAt xs (Int.toNat at')) 0) ∧ T1 ∧ tt ∧ T1 ∧ tt ∧ T1 ∧ T1 ∧ tt ∧ tt ∧ tt ∧ T1 ∧ tt ∧ T1 ∧ tt ∧ tt ∧ (xs = xs ∧ q1 = (IntKind.wrap IntKind.i64 (at' + (1 : Int))) ∧ (tkErr (List.length q0) e 1) = e ∧ (inByteV q0 e) = (rdInt (elemAt xs (Int.toNat at')) 0) ∧ True) ∧ tt)))))) : inRefByte0 xs at' e :=
  Eq.mp (show _ = _ by kernel_rfl) h
theorem vcRefShort0 (xs : (List AV)) (at' : Int) (e : Int) (m : Int) (h : let q0 := (refL (bytesL xs) at'); let q1 := (@cutL AV xs (Int.toNat at') (List.length xs)); let q2 := (refAt (bytesL xs) (shRest q0 e m)); (tt ∧ T1 ∧ T1 ∧ T1 ∧ tt ∧ T1 ∧ tt ∧ T1 ∧ (bif (e != 0) then (tt ∧ tt ∧ tt ∧ T1 ∧ tt ∧ tt ∧ (xs = xs ∧ q2 = at' ∧ (shErr q0 e m) = e ∧ (shV q0 e m) = 0 ∧ True) ∧ tt) else (tt ∧ T1 ∧ tt ∧ T1 ∧ tt ∧ (((0 : Int) ≤ at' ∧ at' ≤ ((List.length xs) : Int)) ∧ (okWidth 1 xs)) ∧ (T1 ∧ (isBytes q1)) ∧ ∀ v0 : Int, (v0 = ((rShort (bytesL q1)).1 : Int)) → ∀ v2 : Int, (v2 = ((rShort (bytesL q1)).2.1 : Int)) → ∀ v4 : Int, (v4 = ((rShort (bytesL q1)).2.2 : Int)) → T1 ∧ T1 ∧ T1 ∧ T1 ∧ T1 ∧ T1 ∧ T1 ∧ tt ∧ T1 ∧ T1 ∧ (bif (v4 != 0) then (tt ∧ tt ∧ T1 ∧ (T1 ∧ True) ∧ ∀ v6 : (List AV), (v6 = xs) → ∀ v8 : Int, (v8 = at') → ∀ v10 : Int, (v10 = (inFail e v4)) → tt ∧ T1 ∧ tt ∧ tt ∧ (xs = v6 ∧ q2 = v8 ∧ (shErr q0 e m) = v10 ∧ (shV q0 e m) = 0 ∧ True) ∧ tt) else (tt ∧ T1 ∧ T1 ∧ T1 ∧ (bif (decide (m < v0)) then (tt ∧ tt ∧ (T1 ∧ True) ∧ ∀ v6 : (List AV), (v6 = xs) → ∀ v8 : Int, (v8 = at') → ∀ v10 : Int, (v10 = (inFail e 12)) → tt ∧ T1 ∧ tt ∧ tt ∧ (xs = v6 ∧ q2 = v8 ∧ (shErr q0 e m) = v10 ∧ (shV q0 e m) = 0 ∧ True) ∧ tt) else (tt ∧ T1 ∧ tt ∧ T1 ∧ T1 ∧ T1 ∧ tt ∧ tt ∧ tt ∧ T1 ∧ tt ∧ T1 ∧ tt ∧ tt ∧ (xs = xs ∧ q2 = (IntKind.wrap IntKind.i64 (at' + v2)) ∧ (shErr q0 e m) = e ∧ (shV q0 e m) = v0 ∧ True) ∧ tt)))))))) : inRefShort0 xs at' e m :=
  Eq.mp (show _ = _ by kernel_rfl) h
theorem vcRefEnd0 (xs : (List AV)) (at' : Int) (e : Int) (h : let q0 := (inEnd (refL (bytesL xs) at') e); (tt ∧ T1 ∧ T1 ∧ tt ∧ T1 ∧ tt ∧ T1 ∧ T1 ∧ (bif (e == 0) then (T1 ∧ tt ∧ T1 ∧ tt ∧ T1 ∧ T1 ∧ T1 ∧ (bif (decide (at' < ((List.length xs) : Int))) then (tt ∧ T1 ∧ tt ∧ tt ∧ (q0 = 21 ∧ True) ∧ tt) else (tt ∧ T1 ∧ tt ∧ T1 ∧ tt ∧ tt ∧ (q0 = e ∧ True) ∧ tt))) else (false = false ∧ tt ∧ T1 ∧ tt ∧ T1 ∧ tt ∧ tt ∧ (q0 = e ∧ True) ∧ tt)))) : inRefEnd0 xs at' e :=
  Eq.mp (show _ = _ by kernel_rfl) h
theorem vcRefTruth0 (xs : (List AV)) (at' : Int) (e : Int) (h : let q0 := (refL (bytesL xs) at'); let q1 := (refAt (bytesL xs) (tkRest q0 e 1)); (tt ∧ T1 ∧ T1 ∧ T1 ∧ tt ∧ tt ∧ (T1 ∧ (isBytes xs) ∧ (0 : Int) ≤ at' ∧ at' ≤ ((List.length xs) : Int)) ∧ ∀ v0 : (List AV), (v0 = xs) → ∀ v2 : Int, (v2 = q1) → ∀ v4 : Int, (v4 = (tkErr (List.length q0) e 1)) → ∀ v6 : Int, (v6 = (inByteV q0 e)) → T1 ∧ T1 ∧ T1 ∧ tt ∧ T1 ∧ tt ∧ T1 ∧ T1 ∧ (bif (decide ((1 : Int) < v6)) then (tt ∧ tt ∧ (T1 ∧ True) ∧ ∀ v8 : (List AV), (v8 = v0) → ∀ v10 : Int, (v10 = v2) → ∀ v12 : Int, (v12 = (inFail v4 10)) → tt ∧ T1 ∧ tt ∧ tt ∧ (xs = v8 ∧ q1 = v10 ∧ (inTruthE q0 e) = v12 ∧ (inTruthV q0 e) = false ∧ True) ∧ tt) else (tt ∧ tt ∧ T1 ∧ tt ∧ T1 ∧ T1 ∧ (bif (v4 == 0) then (T1 ∧ T1 ∧ T1 ∧ tt ∧ T1 ∧ tt ∧ tt ∧ (xs = v0 ∧ q1 = v2 ∧ (inTruthE q0 e) = v4 ∧ (inTruthV q0 e) = (v6 == 1) ∧ True) ∧ tt) else (false = false ∧ tt ∧ T1 ∧ tt ∧ tt ∧ (xs = v0 ∧ q1 = v2 ∧ (inTruthE q0 e) = v4 ∧ (inTruthV q0 e) = false ∧ True) ∧ tt)))))) : inRefTruth0 xs at' e :=
  Eq.mp (show _ = _ by kernel_rfl) h
theorem vcRefFixed0 (xs : (List AV)) (at' : Int) (e : Int) (h : let q0 := (refL (bytesL xs) at'); let q1 := (List.length xs); let q2 := (refAt (bytesL xs) (tkRest q0 e 8)); (tt ∧ T1 ∧ T1 ∧ T1 ∧ tt ∧ T1 ∧ tt ∧ T1 ∧ T1 ∧ (bif (e != 0) then (tt ∧ tt ∧ tt ∧ (T1 ∧ True) ∧ ∀ v0 : (List AV), (v0 = xs) → ∀ v2 : Int, (v2 = at') → ∀ v4 : Int, (v4 = (inFail e 20)) → tt ∧ T1 ∧ tt ∧ tt ∧ (xs = v0 ∧ q2 = v2 ∧ (tkErr (List.length q0) e 8) = v4 ∧ ((val8 (tkOut q0 e 8)) : Int) = 0 ∧ True) ∧ tt) else (T1 ∧ tt ∧ T1 ∧ T1 ∧ tt ∧ T1 ∧ T1 ∧ T1 ∧ (bif (decide ((IntKind.wrap IntKind.i64 ((q1 : Int) - at')) < 8)) then (tt ∧ tt ∧ (T1 ∧ True) ∧ ∀ v0 : (List AV), (v0 = xs) → ∀ v2 : Int, (v2 = at') → ∀ v4 : Int, (v4 = (inFail e 20)) → tt ∧ T1 ∧ tt ∧ tt ∧ (xs = v0 ∧ q2 = v2 ∧ (tkErr (List.length q0) e 8) = v4 ∧ ((val8 (tkOut q0 e 8)) : Int) = 0 ∧ True) ∧ tt) else (tt ∧ T1 ∧ tt ∧ T1 ∧ (tt ∧ tt) ∧ tt ∧ T1 ∧ T1 ∧ tt ∧ T1 ∧ T1 ∧ T1 ∧ tt ∧ T1 ∧ tt ∧ T1 ∧ T1 ∧ ((0 : Int) ≤ (IntKind.wrap IntKind.i64 (at' + (0 : Int))) ∧ (IntKind.wrap IntKind.i64 (at' + (0 : Int))) < (q1 : Int) ∧ (okElem 1 xs (Int.toNat (IntKind.wrap IntKind.i64 (at' + (0 : Int)))))) ∧ (okRead [(Kd.int IntKind.u8)] (elemAt xs (Int.toNat (IntKind.wrap IntKind.i64 (at' + (0 : Int))))) 0) ∧ T1 ∧ T1 ∧ T1 ∧ tt ∧ T1 ∧ T1 ∧ T1 ∧ (tt ∧ tt) ∧ tt ∧ T1 ∧ T1 ∧ tt ∧ T1 ∧ T1 ∧ T1 ∧ tt ∧ T1 ∧ tt ∧ T1 ∧ T1 ∧ ((0 : Int) ≤ (IntKind.wrap IntKind.i64 (at' + (1 : Int))) ∧ (IntKind.wrap IntKind.i64 (at' + (1 : Int))) < (q1 : Int) ∧ (okElem 1 xs (Int.toNat (IntKind.wrap IntKind.i64 (at' + (1 : Int)))))) ∧ (okRead [(Kd.int IntKind.u8)] (elemAt xs (Int.toNat (IntKind.wrap IntKind.i64 (at' + (1 : Int))))) 0) ∧ T1 ∧ T1 ∧ T1 ∧ tt ∧ T1 ∧ T1 ∧ T1 ∧ (tt ∧ tt) ∧ tt ∧ T1 ∧ T1 ∧ tt ∧ T1 ∧ T1 ∧ T1 ∧ tt ∧ T1 ∧ tt ∧ T1 ∧ T1 ∧ ((0 : Int) ≤ (IntKind.wrap IntKind.i64 (at' + (2 : Int))) ∧ (IntKind.wrap IntKind.i64 (at' + (2 : Int))) < (q1 : Int) ∧ (okElem 1 xs (Int.toNat (IntKind.wrap IntKind.i64 (at' + (2 : Int)))))) ∧ (okRead [(Kd.int IntKind.u8)] (elemAt xs (Int.toNat (IntKind.wrap IntKind.i64 (at' + (2 : Int))))) 0) ∧ T1 ∧ T1 ∧ T1 ∧ tt ∧ T1 ∧ T1 ∧ T1 ∧ (tt ∧ tt) ∧ tt ∧ T1 ∧ T1 ∧ tt ∧ T1 ∧ T1 ∧ T1 ∧ tt ∧ T1 ∧ tt ∧ T1 ∧ T1 ∧ ((0 : Int) ≤ (IntKind.wrap IntKind.i64 (at' + (3 : Int))) ∧ (IntKind.wrap IntKind.i64 (at' + (3 : Int))) < (q1 : Int) ∧ (okElem 1 xs (Int.toNat (IntKind.wrap IntKind.i64 (at' + (3 : Int)))))) ∧ (okRead [(Kd.int IntKind.u8)] (elemAt xs (Int.toNat (IntKind.wrap IntKind.i64 (at' + (3 : Int))))) 0) ∧ T1 ∧ T1 ∧ T1 ∧ tt ∧ T1 ∧ T1 ∧ T1 ∧ (tt ∧ tt) ∧ tt ∧ T1 ∧ T1 ∧ tt ∧ T1 ∧ T1 ∧ T1 ∧ tt ∧ T1 ∧ tt ∧ T1 ∧ T1 ∧ ((0 : Int) ≤ (IntKind.wrap IntKind.i64 (at' + (4 : Int))) ∧ (IntKind.wrap IntKind.i64 (at' + (4 : Int))) < (q1 : Int) ∧ (okElem 1 xs (Int.toNat (IntKind.wrap IntKind.i64 (at' + (4 : Int)))))) ∧ (okRead [(Kd.int IntKind.u8)] (elemAt xs (Int.toNat (IntKind.wrap IntKind.i64 (at' + (4 : Int))))) 0) ∧ T1 ∧ T1 ∧ T1 ∧ tt ∧ T1 ∧ T1 ∧ T1 ∧ (tt ∧ tt) ∧ tt ∧ T1 ∧ T1 ∧ tt ∧ T1 ∧ T1 ∧ T1 ∧ tt ∧ T1 ∧ tt ∧ T1 ∧ T1 ∧ ((0 : Int) ≤ (IntKind.wrap IntKind.i64 (at' + (5 : Int))) ∧ (IntKind.wrap IntKind.i64 (at' + (5 : Int))) < (q1 : Int) ∧ (okElem 1 xs (Int.toNat (IntKind.wrap IntKind.i64 (at' + (5 : Int)))))) ∧ (okRead [(Kd.int IntKind.u8)] (elemAt xs (Int.toNat (IntKind.wrap IntKind.i64 (at' + (5 : Int))))) 0) ∧ T1 ∧ T1 ∧ T1 ∧ tt ∧ T1 ∧ T1 ∧ T1 ∧ (tt ∧ tt) ∧ tt ∧ T1 ∧ T1 ∧ tt ∧ T1 ∧ T1 ∧ T1 ∧ tt ∧ T1 ∧ tt ∧ T1 ∧ T1 ∧ ((0 : Int) ≤ (IntKind.wrap IntKind.i64 (at' + (6 : Int))) ∧ (IntKind.wrap IntKind.i64 (at' + (6 : Int))) < (q1 : Int) ∧ (okElem 1 xs (Int.toNat (IntKind.wrap IntKind.i64 (at' + (6 : Int)))))) ∧ (okRead [(Kd.int IntKind.u8)] (elemAt xs (Int.toNat (IntKind.wrap IntKind.i64 (at' + (6 : Int))))) 0) ∧ T1 ∧ T1 ∧ T1 ∧ tt ∧ T1 ∧ T1 ∧ T1 ∧ (tt ∧ tt) ∧ tt ∧ T1 ∧ T1 ∧ tt ∧ T1 ∧ T1 ∧ T1 ∧ tt ∧ T1 ∧ tt ∧ T1 ∧ T1 ∧ ((0 : Int) ≤ (IntKind.wrap IntKind.i64 (at' + (7 : Int))) ∧ (IntKind.wrap IntKind.i64 (at' + (7 : Int))) < (q1 : Int) ∧ (okElem 1 xs (Int.toNat (IntKind.wrap IntKind.i64 (at' + (7 : Int)))))) ∧ (okRead [(Kd.int IntKind.u8)] (elemAt xs (Int.toNat (IntKind.wrap IntKind.i64 (at' + (7 : Int))))) 0) ∧ T1 ∧ T1 ∧ T1 ∧ tt ∧ T1 ∧ T1 ∧ T1 ∧ (tt ∧ tt) ∧ tt ∧ T1 ∧ T1 ∧ tt ∧ T1 ∧ tt ∧ T1 ∧ T1 ∧ tt ∧ tt ∧ tt ∧ T1 ∧ tt ∧ T1 ∧ tt ∧ tt ∧ (xs = xs ∧ q2 = (IntKind.wrap IntKind.i64 (at' + (8 : Int))) ∧ (tkErr (List.length q0) e 8) = e ∧ ((val8 (tkOut q0 e 8)) : Int) = (IntKind.wrap IntKind.u64 ((IntKind.wrap IntKind.u64 ((IntKind.wrap IntKind.u64 ((IntKind.wrap IntKind.u64 ((IntKind.wrap IntKind.u64 ((IntKind.wrap IntKind.u64 ((IntKind.wrap IntKind.u64 ((IntKind.wrap IntKind.u64 ((IntKind.wrap IntKind.u64 ((IntKind.wrap IntKind.u64 ((IntKind.wrap IntKind.u64 ((IntKind.wrap IntKind.u64 ((IntKind.wrap IntKind.u64 ((IntKind.wrap IntKind.u64 ((IntKind.wrap IntKind.u64 ((0 : Int) + (IntKind.wrap IntKind.u64 (rdInt (elemAt xs (Int.toNat (IntKind.wrap IntKind.i64 (at' + (0 : Int))))) 0)))) * (256 : Int))) + (IntKind.wrap IntKind.u64 (rdInt (elemAt xs (Int.toNat (IntKind.wrap IntKind.i64 (at' + (1 : Int))))) 0)))) * (256 : Int))) + (IntKind.wrap IntKind.u64 (rdInt (elemAt xs (Int.toNat (IntKind.wrap IntKind.i64 (at' + (2 : Int))))) 0)))) * (256 : Int))) + (IntKind.wrap IntKind.u64 (rdInt (elemAt xs (Int.toNat (IntKind.wrap IntKind.i64 (at' + (3 : Int))))) 0)))) * (256 : Int))) + (IntKind.wrap IntKind.u64 (rdInt (elemAt xs (Int.toNat (IntKind.wrap IntKind.i64 (at' + (4 : Int))))) 0)))) * (256 : Int))) + (IntKind.wrap IntKind.u64 (rdInt (elemAt xs (Int.toNat (IntKind.wrap IntKind.i64 (at' + (5 : Int))))) 0)))) * (256 : Int))) + (IntKind.wrap IntKind.u64 (rdInt (elemAt xs (Int.toNat (IntKind.wrap IntKind.i64 (at' + (6 : Int))))) 0)))) * (256 : Int))) + (IntKind.wrap IntKind.u64 (rdInt (elemAt xs (Int.toNat (IntKind.wrap IntKind.i64 (at' + (7 : Int))))) 0)))) ∧ True) ∧ tt)))))) : inRefFixed0 xs at' e :=
  Eq.mp (show _ = _ by kernel_rfl) h
theorem vcRefText0 (xs : (List AV)) (at' : Int) (e : Int) (m : Int) (h : let q0 := (refL (bytesL xs) at'); let q1 := (refAt (bytesL xs) (inTextR q0 e m)); let q2 := (inTextE q0 e m); let q3 := (inTextV q0 e m); (tt ∧ T1 ∧ T1 ∧ T1 ∧ tt ∧ T1 ∧ T1 ∧ (bif (decide (m < 0)) then (tt ∧ T1 ∧ tt ∧ tt ∧ T1 ∧ T1 ∧ (T1 ∧ (isBytes xs) ∧ (0 : Int) ≤ at' ∧ at' ≤ ((List.length xs) : Int)) ∧ ∀ v0 : (List AV), (v0 = xs) → ∀ v2 : Int, (v2 = (refAt (bytesL xs) (shRest q0 e 0))) → ∀ v4 : Int, (v4 = (shErr q0 e 0)) → ∀ v6 : Int, (v6 = (shV q0 e 0)) → T1 ∧ T1 ∧ T1 ∧ tt ∧ T1 ∧ tt ∧ T1 ∧ tt ∧ T1 ∧ T1 ∧ (bif (v4 != 0) then (tt ∧ tt ∧ tt ∧ (T1 ∧ True) ∧ ∀ v8 : (List AV), (v8 = v0) → ∀ v10 : Int, (v10 = v2) → ∀ v12 : Int, (v12 = (inFail v4 20)) → tt ∧ T1 ∧ tt ∧ tt ∧ (xs = v8 ∧ q1 = v10 ∧ q2 = v12 ∧ q3 = [] ∧ True) ∧ tt) else (T1 ∧ T1 ∧ tt ∧ T1 ∧ T1 ∧ tt ∧ T1 ∧ T1 ∧ T1 ∧ T1 ∧ (bif (decide ((IntKind.wrap IntKind.u64 (IntKind.wrap IntKind.i64 (((List.length v0) : Int) - v2))) < v6)) then (tt ∧ tt ∧ (T1 ∧ True) ∧ ∀ v8 : (List AV), (v8 = v0) → ∀ v10 : Int, (v10 = v2) → ∀ v12 : Int, (v12 = (inFail v4 20)) → tt ∧ T1 ∧ tt ∧ tt ∧ (xs = v8 ∧ q1 = v10 ∧ q2 = v12 ∧ q3 = [] ∧ True) ∧ tt) else (tt ∧ T1 ∧ tt ∧ T1 ∧ tt ∧ T1 ∧ tt ∧ T1 ∧ T1 ∧ T1 ∧ (((0 : Int) ≤ v2 ∧ v2 ≤ (IntKind.wrap IntKind.i64 (v2 + (IntKind.wrap IntKind.i64 v6))) ∧ (IntKind.wrap IntKind.i64 (v2 + (IntKind.wrap IntKind.i64 v6))) ≤ ((List.length v0) : Int)) ∧ (okWidth 1 v0)) ∧ (isBytes (@cutL AV v0 (Int.toNat v2) (Int.toNat (IntKind.wrap IntKind.i64 (v2 + (IntKind.wrap IntKind.i64 v6)))))) ∧ T1 ∧ tt ∧ T1 ∧ tt ∧ T1 ∧ T1 ∧ T1 ∧ T1 ∧ tt ∧ tt ∧ tt ∧ T1 ∧ tt ∧ T1 ∧ tt ∧ tt ∧ (xs = v0 ∧ q1 = (IntKind.wrap IntKind.i64 (v2 + (IntKind.wrap IntKind.i64 v6))) ∧ q2 = v4 ∧ q3 = (bytesL (@cutL AV v0 (Int.toNat v2) (Int.toNat (IntKind.wrap IntKind.i64 (v2 + (IntKind.wrap IntKind.i64 v6)))))) ∧ True) ∧ tt))))) else (tt ∧ tt ∧ T1 ∧ T1 ∧ (T1 ∧ (isBytes xs) ∧ (0 : Int) ≤ at' ∧ at' ≤ ((List.length xs) : Int)) ∧ ∀ v0 : (List AV), (v0 = xs) → ∀ v2 : Int, (v2 = (refAt (bytesL xs) (shRest q0 e (IntKind.wrap IntKind.u64 m)))) → ∀ v4 : Int, (v4 = (shErr q0 e (IntKind.wrap IntKind.u64 m))) → ∀ v6 : Int, (v6 = (shV q0 e (IntKind.wrap IntKind.u64 m))) → T1 ∧ T1 ∧ T1 ∧ tt ∧ T1 ∧ tt ∧ T1 ∧ tt ∧ T1 ∧ T1 ∧ (bif (v4 != 0) then (tt ∧ tt ∧ tt ∧ (T1 ∧ True) ∧ ∀ v8 : (List AV), (v8 = v0) → ∀ v10 : Int, (v10 = v2) → ∀ v12 : Int, (v12 = (inFail v4 20)) → tt ∧ T1 ∧ tt ∧ tt ∧ (xs = v8 ∧ q1 = v10 ∧ q2 = v12 ∧ q3 = [] ∧ True) ∧ tt) else (T1 ∧ T1 ∧ tt ∧ T1 ∧ T1 ∧ tt ∧ T1 ∧ T1 ∧ T1 ∧ T1 ∧ (bif (decide ((IntKind.wrap IntKind.u64 (IntKind.wrap IntKind.i64 (((List.length v0) : Int) - v2))) < v6)) then (tt ∧ tt ∧ (T1 ∧ True) ∧ ∀ v8 : (List AV), (v8 = v0) → ∀ v10 : Int, (v10 = v2) → ∀ v12 : Int, (v12 = (inFail v4 20)) → tt ∧ T1 ∧ tt ∧ tt ∧ (xs = v8 ∧ q1 = v10 ∧ q2 = v12 ∧ q3 = [] ∧ True) ∧ tt) else (tt ∧ T1 ∧ tt ∧ T1 ∧ tt ∧ T1 ∧ tt ∧ T1 ∧ T1 ∧ T1 ∧ (((0 : Int) ≤ v2 ∧ v2 ≤ (IntKind.wrap IntKind.i64 (v2 + (IntKind.wrap IntKind.i64 v6))) ∧ (IntKind.wrap IntKind.i64 (v2 + (IntKind.wrap IntKind.i64 v6))) ≤ ((List.length v0) : Int)) ∧ (okWidth 1 v0)) ∧ (isBytes (@cutL AV v0 (Int.toNat v2) (Int.toNat (IntKind.wrap IntKind.i64 (v2 + (IntKind.wrap IntKind.i64 v6)))))) ∧ T1 ∧ tt ∧ T1 ∧ tt ∧ T1 ∧ T1 ∧ T1 ∧ T1 ∧ tt ∧ tt ∧ tt ∧ T1 ∧ tt ∧ T1 ∧ tt ∧ tt ∧ (xs = v0 ∧ q1 = (IntKind.wrap IntKind.i64 (v2 + (IntKind.wrap IntKind.i64 v6))) ∧ q2 = v4 ∧ q3 = (bytesL (@cutL AV v0 (Int.toNat v2) (Int.toNat (IntKind.wrap IntKind.i64 (v2 + (IntKind.wrap IntKind.i64 v6)))))) ∧ True) ∧ tt)))))))) : inRefText0 xs at' e m :=
  Eq.mp (show _ = _ by kernel_rfl) h
theorem vcRefTakeID0 (xs : (List AV)) (at' : Int) (e : Int) (h : let q0 := (refL (bytesL xs) at'); let q1 := (refAt (bytesL xs) (idRest q0 e)); (tt ∧ T1 ∧ T1 ∧ T1 ∧ tt ∧ tt ∧ (T1 ∧ (isBytes xs) ∧ (0 : Int) ≤ at' ∧ at' ≤ ((List.length xs) : Int)) ∧ ∀ v0 : (List AV), (v0 = xs) → ∀ v2 : Int, (v2 = (refAt (bytesL xs) (tkRest q0 e 1))) → ∀ v4 : Int, (v4 = (tkErr (List.length q0) e 1)) → ∀ v6 : Int, (v6 = (inByteV q0 e)) → T1 ∧ T1 ∧ T1 ∧ tt ∧ T1 ∧ tt ∧ T1 ∧ T1 ∧ T1 ∧ (bif (decide ((6 : Int) < v6)) then (T1 ∧ tt ∧ T1 ∧ T1 ∧ (bif (v4 == 0) then (tt ∧ T1 ∧ tt ∧ tt ∧ tt ∧ (T1 ∧ (isBytes v0) ∧ (0 : Int) ≤ v2 ∧ v2 ≤ ((List.length v0) : Int)) ∧ ∀ v8 : (List AV), (v8 = v0) → ∀ v10 : Int, (v10 = (refAt (bytesL v0) (shRest (refL (bytesL v0) v2) 12 1023))) → ∀ v12 : Int, (v12 = (shErr (refL (bytesL v0) v2) 12 1023)) → ∀ v14 : Int, (v14 = (shV (refL (bytesL v0) v2) 12 1023)) → T1 ∧ T1 ∧ T1 ∧ tt ∧ T1 ∧ tt ∧ T1 ∧ tt ∧ T1 ∧ (bif (v12 != 0) then (tt ∧ tt ∧ T1 ∧ tt ∧ tt ∧ tt ∧ tt ∧ (xs = v8 ∧ q1 = v10 ∧ (idErr q0 e) = v12 ∧ (idR q0 e) = 0 ∧ (idS q0 e) = 0 ∧ True) ∧ tt) else (tt ∧ tt ∧ T1 ∧ T1 ∧ T1 ∧ T1 ∧ T1 ∧ tt ∧ tt ∧ tt ∧ tt ∧ (xs = v8 ∧ q1 = v10 ∧ (idErr q0 e) = v12 ∧ (idR q0 e) = (IntKind.wrap IntKind.i64 v6) ∧ (idS q0 e) = (IntKind.wrap IntKind.i64 v14) ∧ True) ∧ tt))) else (tt ∧ tt ∧ (T1 ∧ (isBytes v0) ∧ (0 : Int) ≤ v2 ∧ v2 ≤ ((List.length v0) : Int)) ∧ ∀ v8 : (List AV), (v8 = v0) → ∀ v10 : Int, (v10 = (refAt (bytesL v0) (shRest (refL (bytesL v0) v2) v4 1023))) → ∀ v12 : Int, (v12 = (shErr (refL (bytesL v0) v2) v4 1023)) → ∀ v14 : Int, (v14 = (shV (refL (bytesL v0) v2) v4 1023)) → T1 ∧ T1 ∧ T1 ∧ tt ∧ T1 ∧ tt ∧ T1 ∧ tt ∧ T1 ∧ (bif (v12 != 0) then (tt ∧ tt ∧ T1 ∧ tt ∧ tt ∧ tt ∧ tt ∧ (xs = v8 ∧ q1 = v10 ∧ (idErr q0 e) = v12 ∧ (idR q0 e) = 0 ∧ (idS q0 e) = 0 ∧ True) ∧ tt) else (tt ∧ tt ∧ T1 ∧ T1 ∧ T1 ∧ T1 ∧ T1 ∧ tt ∧ tt ∧ tt ∧ tt ∧ (xs = v8 ∧ q1 = v10 ∧ (idErr q0 e) = v12 ∧ (idR q0 e) = (IntKind.wrap IntKind.i64 v6) ∧ (idS q0 e) = (IntKind.wrap IntKind.i64 v14) ∧ True) ∧ tt))))) else (false = false ∧ tt ∧ tt ∧ (T1 ∧ (isBytes v0) ∧ (0 : Int) ≤ v2 ∧ v2 ≤ ((List.length v0) : Int)) ∧ ∀ v8 : (List AV), (v8 = v0) → ∀ v10 : Int, (v10 = (refAt (bytesL v0) (shRest (refL (bytesL v0) v2) v4 1023))) → ∀ v12 : Int, (v12 = (shErr (refL (bytesL v0) v2) v4 1023)) → ∀ v14 : Int, (v14 = (shV (refL (bytesL v0) v2) v4 1023)) → T1 ∧ T1 ∧ T1 ∧ tt ∧ T1 ∧ tt ∧ T1 ∧ tt ∧ T1 ∧ (bif (v12 != 0) then (tt ∧ tt ∧ T1 ∧ tt ∧ tt ∧ tt ∧ tt ∧ (xs = v8 ∧ q1 = v10 ∧ (idErr q0 e) = v12 ∧ (idR q0 e) = 0 ∧ (idS q0 e) = 0 ∧ True) ∧ tt) else (tt ∧ tt ∧ T1 ∧ T1 ∧ T1 ∧ T1 ∧ T1 ∧ tt ∧ tt ∧ tt ∧ tt ∧ (xs = v8 ∧ q1 = v10 ∧ (idErr q0 e) = v12 ∧ (idR q0 e) = (IntKind.wrap IntKind.i64 v6) ∧ (idS q0 e) = (IntKind.wrap IntKind.i64 v14) ∧ True) ∧ tt)))))) : inRefTakeID0 xs at' e :=
  Eq.mp (show _ = _ by kernel_rfl) h
theorem vcRefTakeBal0 (xs : (List AV)) (at' : Int) (e : Int) (h : let q0 := (refL (bytesL xs) at'); let q1 := (refAt (bytesL xs) (shRest q0 e 4294967295)); (tt ∧ T1 ∧ T1 ∧ T1 ∧ tt ∧ tt ∧ (T1 ∧ (isBytes xs) ∧ (0 : Int) ≤ at' ∧ at' ≤ ((List.length xs) : Int)) ∧ ∀ v0 : (List AV), (v0 = xs) → ∀ v2 : Int, (v2 = q1) → ∀ v4 : Int, (v4 = (shErr q0 e 4294967295)) → ∀ v6 : Int, (v6 = (shV q0 e 4294967295)) → T1 ∧ T1 ∧ T1 ∧ tt ∧ T1 ∧ tt ∧ T1 ∧ tt ∧ T1 ∧ T1 ∧ (bif (v4 == 0) then (T1 ∧ T1 ∧ (T1 ∧ True) ∧ T1 ∧ T1 ∧ (bif (Bool.not (balOK (IntKind.wrap IntKind.u32 v6))) then (tt ∧ T1 ∧ tt ∧ tt ∧ T1 ∧ tt ∧ T1 ∧ tt ∧ tt ∧ tt ∧ T1 ∧ tt ∧ tt ∧ (xs = v0 ∧ q1 = v2 ∧ (balE q0 e) = 60 ∧ (balV q0 e) = 0 ∧ True) ∧ tt) else (tt ∧ T1 ∧ tt ∧ T1 ∧ (bif (v4 != 0) then (tt ∧ tt ∧ tt ∧ T1 ∧ tt ∧ tt ∧ (xs = v0 ∧ q1 = v2 ∧ (balE q0 e) = v4 ∧ (balV q0 e) = 0 ∧ True) ∧ tt) else (tt ∧ tt ∧ T1 ∧ T1 ∧ tt ∧ T1 ∧ tt ∧ tt ∧ (xs = v0 ∧ q1 = v2 ∧ (balE q0 e) = v4 ∧ (balV q0 e) = (IntKind.wrap IntKind.u32 v6) ∧ True) ∧ tt))))) else (false = false ∧ tt ∧ T1 ∧ tt ∧ T1 ∧ (bif (v4 != 0) then (tt ∧ tt ∧ tt ∧ T1 ∧ tt ∧ tt ∧ (xs = v0 ∧ q1 = v2 ∧ (balE q0 e) = v4 ∧ (balV q0 e) = 0 ∧ True) ∧ tt) else (tt ∧ tt ∧ T1 ∧ T1 ∧ tt ∧ T1 ∧ tt ∧ tt ∧ (xs = v0 ∧ q1 = v2 ∧ (balE q0 e) = v4 ∧ (balV q0 e) = (IntKind.wrap IntKind.u32 v6) ∧ True) ∧ tt)))))) : inRefTakeBal0 xs at' e :=
  Eq.mp (show _ = _ by kernel_rfl) h
theorem vcRefATake0 (xs : (List AV)) (at' : Int) (e : Int) (h : let q0 := (refL (bytesL xs) at'); (tt ∧ T1 ∧ T1 ∧ T1 ∧ tt ∧ T1 ∧ T1 ∧ tt ∧ tt ∧ tt ∧ (T1 ∧ (isBytes xs) ∧ (0 : Int) ≤ at' ∧ at' ≤ ((List.length xs) : Int)) ∧ ∀ v0 : (List AV), (v0 = xs) → ∀ v2 : Int, (v2 = (refAt (bytesL xs) (shRest q0 e 1073741824))) → ∀ v4 : Int, (v4 = (shErr q0 e 1073741824)) → ∀ v6 : Int, (v6 = (shV q0 e 1073741824)) → T1 ∧ T1 ∧ T1 ∧ tt ∧ T1 ∧ tt ∧ T1 ∧ T1 ∧ T1 ∧ tt ∧ tt ∧ T1 ∧ (tt ∧ tt) ∧ tt ∧ T1 ∧ T1 ∧ tt ∧ tt ∧ (T1 ∧ (isBytes v0) ∧ (0 : Int) ≤ v2 ∧ v2 ≤ ((List.length v0) : Int)) ∧ ∀ v8 : (List AV), (v8 = v0) → ∀ v10 : Int, (v10 = (refAt (bytesL v0) (shRest (refL (bytesL v0) v2) v4 1024))) → ∀ v12 : Int, (v12 = (shErr (refL (bytesL v0) v2) v4 1024)) → ∀ v14 : Int, (v14 = (shV (refL (bytesL v0) v2) v4 1024)) → T1 ∧ T1 ∧ T1 ∧ tt ∧ T1 ∧ tt ∧ T1 ∧ T1 ∧ T1 ∧ T1 ∧ ((0 : Int) ≤ (0 : Int) ∧ (0 : Int) < (7 : Int)) ∧ tt ∧ tt ∧ T1 ∧ T1 ∧ T1 ∧ (tt ∧ tt) ∧ tt ∧ T1 ∧ T1 ∧ tt ∧ tt ∧ (T1 ∧ (isBytes v8) ∧ (0 : Int) ≤ v10 ∧ v10 ≤ ((List.length v8) : Int)) ∧ ∀ v16 : (List AV), (v16 = v8) → ∀ v18 : Int, (v18 = (refAt (bytesL v8) (shRest (refL (bytesL v8) v10) v12 1024))) → ∀ v20 : Int, (v20 = (shErr (refL (bytesL v8) v10) v12 1024)) → ∀ v22 : Int, (v22 = (shV (refL (bytesL v8) v10) v12 1024)) → T1 ∧ T1 ∧ T1 ∧ tt ∧ T1 ∧ tt ∧ T1 ∧ T1 ∧ T1 ∧ T1 ∧ ((0 : Int) ≤ (1 : Int) ∧ (1 : Int) < (7 : Int)) ∧ tt ∧ tt ∧ T1 ∧ T1 ∧ T1 ∧ (tt ∧ tt) ∧ tt ∧ T1 ∧ T1 ∧ tt ∧ tt ∧ (T1 ∧ (isBytes v16) ∧ (0 : Int) ≤ v18 ∧ v18 ≤ ((List.length v16) : Int)) ∧ ∀ v24 : (List AV), (v24 = v16) → ∀ v26 : Int, (v26 = (refAt (bytesL v16) (shRest (refL (bytesL v16) v18) v20 1024))) → ∀ v28 : Int, (v28 = (shErr (refL (bytesL v16) v18) v20 1024)) → ∀ v30 : Int, (v30 = (shV (refL (bytesL v16) v18) v20 1024)) → T1 ∧ T1 ∧ T1 ∧ tt ∧ T1 ∧ tt ∧ T1 ∧ T1 ∧ T1 ∧ T1 ∧ ((0 : Int) ≤ (2 : Int) ∧ (2 : Int) < (7 : Int)) ∧ tt ∧ tt ∧ T1 ∧ T1 ∧ T1 ∧ (tt ∧ tt) ∧ tt ∧ T1 ∧ T1 ∧ tt ∧ tt ∧ (T1 ∧ (isBytes v24) ∧ (0 : Int) ≤ v26 ∧ v26 ≤ ((List.length v24) : Int)) ∧ ∀ v32 : (List AV), (v32 = v24) → ∀ v34 : Int, (v34 = (refAt (bytesL v24) (shRest (refL (bytesL v24) v26) v28 1024))) → ∀ v36 : Int, (v36 = (shErr (refL (bytesL v24) v26) v28 1024)) → ∀ v38 : Int, (v38 = (shV (refL (bytesL v24) v26) v28 1024)) → T1 ∧ T1 ∧ T1 ∧ tt ∧ T1 ∧ tt ∧ T1 ∧ T1 ∧ T1 ∧ T1 ∧ ((0 : Int) ≤ (3 : Int) ∧ (3 : Int) < (7 : Int)) ∧ tt ∧ tt ∧ T1 ∧ T1 ∧ T1 ∧ (tt ∧ tt) ∧ tt ∧ T1 ∧ T1 ∧ tt ∧ tt ∧ (T1 ∧ (isBytes v32) ∧ (0 : Int) ≤ v34 ∧ v34 ≤ ((List.length v32) : Int)) ∧ ∀ v40 : (List AV), (v40 = v32) → ∀ v42 : Int, (v42 = (refAt (bytesL v32) (shRest (refL (bytesL v32) v34) v36 1024))) → ∀ v44 : Int, (v44 = (shErr (refL (bytesL v32) v34) v36 1024)) → ∀ v46 : Int, (v46 = (shV (refL (bytesL v32) v34) v36 1024)) → T1 ∧ T1 ∧ T1 ∧ tt ∧ T1 ∧ tt ∧ T1 ∧ T1 ∧ T1 ∧ T1 ∧ ((0 : Int) ≤ (4 : Int) ∧ (4 : Int) < (7 : Int)) ∧ tt ∧ tt ∧ T1 ∧ T1 ∧ T1 ∧ (tt ∧ tt) ∧ tt ∧ T1 ∧ T1 ∧ tt ∧ tt ∧ (T1 ∧ (isBytes v40) ∧ (0 : Int) ≤ v42 ∧ v42 ≤ ((List.length v40) : Int)) ∧ ∀ v48 : (List AV), (v48 = v40) → ∀ v50 : Int, (v50 = (refAt (bytesL v40) (shRest (refL (bytesL v40) v42) v44 1024))) → ∀ v52 : Int, (v52 = (shErr (refL (bytesL v40) v42) v44 1024)) → ∀ v54 : Int, (v54 = (shV (refL (bytesL v40) v42) v44 1024)) → T1 ∧ T1 ∧ T1 ∧ tt ∧ T1 ∧ tt ∧ T1 ∧ T1 ∧ T1 ∧ T1 ∧ ((0 : Int) ≤ (5 : Int) ∧ (5 : Int) < (7 : Int)) ∧ tt ∧ tt ∧ T1 ∧ T1 ∧ T1 ∧ (tt ∧ tt) ∧ tt ∧ T1 ∧ T1 ∧ tt ∧ tt ∧ (T1 ∧ (isBytes v48) ∧ (0 : Int) ≤ v50 ∧ v50 ≤ ((List.length v48) : Int)) ∧ ∀ v56 : (List AV), (v56 = v48) → ∀ v58 : Int, (v58 = (refAt (bytesL v48) (shRest (refL (bytesL v48) v50) v52 1024))) → ∀ v60 : Int, (v60 = (shErr (refL (bytesL v48) v50) v52 1024)) → ∀ v62 : Int, (v62 = (shV (refL (bytesL v48) v50) v52 1024)) → T1 ∧ T1 ∧ T1 ∧ tt ∧ T1 ∧ tt ∧ T1 ∧ T1 ∧ T1 ∧ T1 ∧ ((0 : Int) ≤ (6 : Int) ∧ (6 : Int) < (7 : Int)) ∧ tt ∧ tt ∧ T1 ∧ T1 ∧ T1 ∧ (tt ∧ tt) ∧ tt ∧ T1 ∧ T1 ∧ tt ∧ T1 ∧ tt ∧ T1 ∧ (bif (v60 != 0) then (tt ∧ tt ∧ T1 ∧ tt ∧ tt ∧ tt ∧ tt ∧ (xs = v56 ∧ (refAt (bytesL xs) (atS q0 e 7).1) = v58 ∧ (atS q0 e 7).2 = v60 ∧ (atZ q0 e (shV q0 e 1073741824)) = 0 ∧ (atZ q0 e (atV q0 e 0)) = 0 ∧ (atZ q0 e (atV q0 e 1)) = 0 ∧ (atZ q0 e (atV q0 e 2)) = 0 ∧ (atZ q0 e (atV q0 e 3)) = 0 ∧ (atZ q0 e (atV q0 e 4)) = 0 ∧ (atZ q0 e (atV q0 e 5)) = 0 ∧ (atZ q0 e (atV q0 e 6)) = 0 ∧ True) ∧ tt) else (tt ∧ tt ∧ tt ∧ tt ∧ tt ∧ tt ∧ tt ∧ tt ∧ (xs = v56 ∧ (refAt (bytesL xs) (atS q0 e 7).1) = v58 ∧ (atS q0 e 7).2 = v60 ∧ (atZ q0 e (shV q0 e 1073741824)) = (IntKind.wrap IntKind.i64 v6) ∧ (atZ q0 e (atV q0 e 0)) = (IntKind.wrap IntKind.i64 v14) ∧ (atZ q0 e (atV q0 e 1)) = (IntKind.wrap IntKind.i64 v22) ∧ (atZ q0 e (atV q0 e 2)) = (IntKind.wrap IntKind.i64 v30) ∧ (atZ q0 e (atV q0 e 3)) = (IntKind.wrap IntKind.i64 v38) ∧ (atZ q0 e (atV q0 e 4)) = (IntKind.wrap IntKind.i64 v46) ∧ (atZ q0 e (atV q0 e 5)) = (IntKind.wrap IntKind.i64 v54) ∧ (atZ q0 e (atV q0 e 6)) = (IntKind.wrap IntKind.i64 v62) ∧ True) ∧ tt)))) : inRefATake0 xs at' e :=
  Eq.mp (show _ = _ by kernel_rfl) h
end Go.Proofs.YtfoabkkkdcicgaaGreatDoor
/- The conditions hold: the reference's place in bytes, and what it reads. -/
namespace Go.Proofs.YtfoabkkkdcicgaaGreatDoor
set_option linter.unusedVariables false
set_option linter.unusedSimpArgs false
open Go.RowKit
set_option maxRecDepth 100000
theorem refL_suf (l : List UInt8) (a : Int) : refL l a <:+ l := List.drop_suffix _ _
theorem refL_refAt {l r : List UInt8} (h : r <:+ l) : refL l (refAt l r) = r := by
  obtain ⟨p, rfl⟩ := h
  simp [refL, refAt]
theorem refAt_range {l r : List UInt8} (h : r <:+ l) : 0 ≤ refAt l r ∧ refAt l r ≤ (l.length : Int) := by
  unfold refAt; omega
theorem refAt_self {l : List UInt8} {a : Int} (h0 : 0 ≤ a) (h1 : a ≤ l.length) : refAt l (refL l a) = a := by
  simp [refL, refAt]; omega
theorem refL_length {l : List UInt8} {a : Int} (h0 : 0 ≤ a) (h1 : a ≤ l.length) : ((refL l a).length : Int) = l.length - a := by
  simp [refL]; omega
theorem refL_drop {l : List UInt8} {a : Int} (h0 : 0 ≤ a) (k : Nat) : refAt l ((refL l a).drop k) = if a.toNat + k ≤ l.length then a + k else l.length := by
  simp [refL, refAt, List.drop_drop]
  split <;> omega
theorem okRefBad0 : OkRefBad0 := by
  intro xs at' e c hq
  refine vcRefBad0 xs at' e c ?_
  simp only [true_and, and_true, forall_eq, eq_self]
  refine cond_prop (fun h => ?_) fun h => ?_
  · simp at h; simp [inFail, h]
  · simp at h; simp [inFail, h]
theorem okRefByte0 : OkRefByte0 := by
  intro xs at' e hq h0
  refine vcRefByte0 xs at' e ?_
  simp only [true_and, and_true, forall_eq, eq_self, bytesL_bytesAV, isBytes_bytesAV]
  obtain ⟨hb, h1, h2⟩ := hq
  obtain ⟨l, rfl⟩ := hb.get
  simp only [bytesL_bytesAV, length_bytesAV, rdInt_bytes] at h0 h2 ⊢
  have hl := refL_length h1 h2
  refine cond_prop (fun h => ?_) fun h => cond_prop (fun h' => ?_) fun h' => ?_
  · have := tk_fail (n := (refL l at').length) (e := e) (k := 1) (by simp [tkOK] at h ⊢; omega) _ rfl
    rw [this.1, this.2.1, refAt_self h1 h2]
    exact ⟨rfl, rfl, by simp [inByteV, this.2.2]⟩
  · have := tk_fail (n := (refL l at').length) (e := e) (k := 1) (by simp [tkOK] at h' ⊢; omega) _ rfl
    rw [this.1, this.2.1, refAt_self h1 h2]
    exact ⟨rfl, rfl, by simp [inByteV, this.2.2]⟩
  · simp at h h'
    have := tk_ok (n := (refL l at').length) (e := e) (k := 1) (by simp [tkOK, h]; omega) _ rfl
    rw [this.1, this.2.1, wrap_i64 (by omega) (by omega)]
    refine ⟨⟨h1, h', okElem_bytes (by omega)⟩, okRead_bytes (by omega), ?_, rfl, ?_⟩
    · have := refL_drop (l := l) (a := at') h1 1
      rw [if_pos (by omega)] at this
      exact this
    · unfold inByteV
      rw [this.2.2]
      simp [refL, List.getElem?_take]
theorem okRefShort0 : OkRefShort0 := by
  intro xs at' e m hq h0
  refine vcRefShort0 xs at' e m ?_
  simp only [true_and, and_true, forall_eq, eq_self, bytesL_bytesAV, isBytes_bytesAV]
  obtain ⟨hb, h1, h2⟩ := hq
  obtain ⟨l, rfl⟩ := hb.get
  simp only [bytesL_bytesAV, length_bytesAV, cutL_bytes, isBytes_bytesAV, cutL_from] at h0 h2 ⊢
  have hL : l.drop at'.toNat = refL l at' := rfl
  rw [hL]
  obtain ⟨L, hLe⟩ : ∃ L, L = refL l at' := ⟨_, rfl⟩
  have hself := refAt_self h1 h2
  refine cond_prop (fun h => ?_) fun h => ⟨⟨⟨h1, h2⟩, okWidth_bytes l⟩, by simp, cond_prop (fun h' => ?_) fun h' => cond_prop (fun h'' => ?_) fun h'' => ?_⟩
  · simp at h; simp [shRest, shErr, shV, h, hself]
  · simp at h h'; simp [shRest, shErr, shV, h, h', inFail, hself]
  · simp at h h' h''; simp [shRest, shErr, shV, h, h', h'', inFail, hself]
  · simp at h h' h''
    have hm : ¬ m < ((rShort (refL l at')).1 : Int) := by omega
    have hr := rShort_reads (l := refL l at') (v := (rShort (refL l at')).1) (n := (rShort (refL l at')).2.1) (by rw [← h'])
    have hl := refL_length h1 h2
    have := refL_drop (l := l) (a := at') h1 (rShort (refL l at')).2.1
    rw [if_pos (by omega)] at this
    rw [wrap_i64 (by omega) (by omega)]
    simp [shRest, shErr, shV, h, h', hm, this]
theorem okRefEnd0 : OkRefEnd0 := by
  intro xs at' e hq
  refine vcRefEnd0 xs at' e ?_
  simp only [true_and, and_true, forall_eq, eq_self, bytesL_bytesAV, isBytes_bytesAV]
  obtain ⟨hb, h1, h2⟩ := hq
  obtain ⟨l, rfl⟩ := hb.get
  simp only [bytesL_bytesAV, length_bytesAV] at h2 ⊢
  have hl := refL_length h1 h2
  refine cond_prop (fun h => cond_prop (fun h' => ?_) fun h' => ?_) fun h => ?_
  · simp at h h'; simp [inEnd, inLeft, h, hl]; omega
  · simp at h h'
    have : ¬ (0 < (l.length : Int) - at') := by omega
    simp only [inEnd, inLeft, h, hl, ne_eq, not_true_eq_false, if_false]
    rw [if_neg this]
  · simp at h; simp [inEnd, inLeft, h]
theorem okRefTruth0 : OkRefTruth0 := by
  intro xs at' e hq
  refine vcRefTruth0 xs at' e ?_
  simp only [true_and, and_true, forall_eq, eq_self, bytesL_bytesAV, isBytes_bytesAV]
  refine ⟨hq, cond_prop (fun h => ?_) fun h => cond_prop (fun h' => ?_) fun h' => ?_⟩
  · simp at h
    have e1 : inTruthE (refL (bytesL xs) at') e = inFail (tkErr (refL (bytesL xs) at').length e 1) 10 := by unfold inTruthE; rw [if_pos h]
    refine ⟨e1, ?_⟩
    unfold inTruthV
    have : ¬ (inByteV (refL (bytesL xs) at') e = 1) := by omega
    simp [this]
  · simp at h h'
    have hn : ¬ 1 < inByteV (refL (bytesL xs) at') e := by omega
    have hd : decide (1 < inByteV (refL (bytesL xs) at') e) = false := by simp [hn]
    refine ⟨?_, ?_⟩
    · unfold inTruthE; rw [if_neg hn]
    · unfold inTruthV inTruthE; rw [if_neg hn]; simp [h']
  · simp at h h'
    have hn : ¬ 1 < inByteV (refL (bytesL xs) at') e := by omega
    refine ⟨?_, ?_⟩
    · unfold inTruthE; rw [if_neg hn]
    · unfold inTruthV inTruthE; rw [if_neg hn]; simp [h']
theorem fix_step {v a : Nat} (hv : v < 72057594037927936) (ha : a < 256) : IntKind.u64.wrap (IntKind.u64.wrap ((v : Int) * 256) + IntKind.u64.wrap (a : Int)) = ((v * 256 + a : Nat) : Int) := by
  rw [IntKind.wrap_u64, IntKind.wrap_u64, IntKind.wrap_u64]; omega
theorem okRefFixed0 : OkRefFixed0 := by
  intro xs at' e hq h0
  refine vcRefFixed0 xs at' e ?_
  simp only [true_and, and_true, forall_eq, eq_self, bytesL_bytesAV, isBytes_bytesAV]
  obtain ⟨hb, h1, h2⟩ := hq
  obtain ⟨l, rfl⟩ := hb.get
  simp only [bytesL_bytesAV, length_bytesAV, rdInt_bytes] at h0 h2 ⊢
  have hl := refL_length h1 h2
  have v0 : val8 [] = 0 := by simp [val8]
  refine cond_prop (fun h => ?_) fun h => cond_prop (fun h' => ?_) fun h' => ?_
  · have := tk_fail (n := (refL l at').length) (e := e) (k := 8) (by simp [tkOK] at h ⊢; omega) _ rfl
    rw [this.1, this.2.1, this.2.2, refAt_self h1 h2, v0]
    exact ⟨rfl, rfl, rfl⟩
  · rw [wrap_i64 (by omega) (by omega)] at h'
    have := tk_fail (n := (refL l at').length) (e := e) (k := 8) (by simp [tkOK] at h' ⊢; omega) _ rfl
    rw [this.1, this.2.1, this.2.2, refAt_self h1 h2, v0]
    exact ⟨rfl, rfl, rfl⟩
  · rw [wrap_i64 (by omega) (by omega)] at h'
    simp at h h'
    have := tk_ok (n := (refL l at').length) (e := e) (k := 8) (by simp [tkOK, h]; omega) _ rfl
    rw [this.1, this.2.1, this.2.2]
    have wk : ∀ k : Int, 0 ≤ k → k ≤ 8 → IntKind.i64.wrap (at' + k) = at' + k := fun k h3 h4 => wrap_i64 (by omega) (by omega)
    rw [wk 0 (by omega) (by omega), wk 1 (by omega) (by omega), wk 2 (by omega) (by omega), wk 3 (by omega) (by omega), wk 4 (by omega) (by omega), wk 5 (by omega) (by omega), wk 6 (by omega) (by omega), wk 7 (by omega) (by omega), wk 8 (by omega) (by omega)]
    obtain ⟨n, rfl⟩ : ∃ n : Nat, at' = n := ⟨at'.toNat, by omega⟩
    have get : ∀ k : Nat, l.getD ((n : Int) + (k : Int)).toNat 0 = (refL l n).getD k 0 := by
      intro k
      have : ((n : Int) + (k : Int)).toNat = n + k := by omega
      rw [this]
      simp [refL, List.getD]
    have g0 := get 0; have g1 := get 1; have g2 := get 2; have g3 := get 3; have g4 := get 4; have g5 := get 5; have g6 := get 6; have g7 := get 7
    simp only [Int.natCast_zero, Int.natCast_one] at g0 g1
    have h8 : 8 ≤ (refL l n).length := by omega
    have hdrop := refL_drop (l := l) (a := (n : Int)) h1 8
    rw [if_pos (by omega)] at hdrop
    have oe : ∀ k : Int, 0 ≤ k → k < 8 → okElem 1 (bytesAV l) ((n : Int) + k).toNat := fun k h3 h4 => okElem_bytes (by omega)
    have ore : ∀ k : Int, 0 ≤ k → k < 8 → okRead [Kd.int .u8] (elemAt (bytesAV l) ((n : Int) + k).toNat) 0 := fun k h3 h4 => okRead_bytes (by omega)
    have d8 : (8 : Int).toNat = 8 := rfl
    rw [d8, hdrop]
    refine ⟨⟨by omega, by omega, oe 0 (by omega) (by omega)⟩, ore 0 (by omega) (by omega), ⟨by omega, by omega, oe 1 (by omega) (by omega)⟩, ore 1 (by omega) (by omega), ⟨by omega, by omega, oe 2 (by omega) (by omega)⟩, ore 2 (by omega) (by omega), ⟨by omega, by omega, oe 3 (by omega) (by omega)⟩, ore 3 (by omega) (by omega),
      ⟨by omega, by omega, oe 4 (by omega) (by omega)⟩, ore 4 (by omega) (by omega), ⟨by omega, by omega, oe 5 (by omega) (by omega)⟩, ore 5 (by omega) (by omega), ⟨by omega, by omega, oe 6 (by omega) (by omega)⟩, ore 6 (by omega) (by omega), ⟨by omega, by omega, oe 7 (by omega) (by omega)⟩, ore 7 (by omega) (by omega), rfl, rfl, ?_⟩
    rw [g0, g1]
    have g2' : l.getD ((n : Int) + 2).toNat 0 = (refL l n).getD 2 0 := g2
    have g3' : l.getD ((n : Int) + 3).toNat 0 = (refL l n).getD 3 0 := g3
    have g4' : l.getD ((n : Int) + 4).toNat 0 = (refL l n).getD 4 0 := g4
    have g5' : l.getD ((n : Int) + 5).toNat 0 = (refL l n).getD 5 0 := g5
    have g6' : l.getD ((n : Int) + 6).toNat 0 = (refL l n).getD 6 0 := g6
    have g7' : l.getD ((n : Int) + 7).toNat 0 = (refL l n).getD 7 0 := g7
    rw [g2', g3', g4', g5', g6', g7']
    clear g0 g1 g2 g3 g4 g5 g6 g7 g2' g3' g4' g5' g6' g7' get oe ore hdrop this wk hl
    generalize refL l n = L at h8
    match L, h8 with
    | a0 :: a1 :: a2 :: a3 :: a4 :: a5 :: a6 :: a7 :: r, _ =>
      have b0 := a0.toNat_lt; have b1 := a1.toNat_lt; have b2 := a2.toNat_lt; have b3 := a3.toNat_lt; have b4 := a4.toNat_lt; have b5 := a5.toNat_lt; have b6 := a6.toNat_lt; have b7 := a7.toNat_lt
      simp only [List.getD_cons_zero, List.getD_cons_succ]
      have s0 : IntKind.u64.wrap (IntKind.u64.wrap 0 + IntKind.u64.wrap (a0.toNat : Int)) = ((a0.toNat : Nat) : Int) := by rw [IntKind.wrap_u64, IntKind.wrap_u64, IntKind.wrap_u64]; omega
      have s0' : IntKind.u64.wrap (0 + IntKind.u64.wrap (a0.toNat : Int)) = ((a0.toNat : Nat) : Int) := by rw [IntKind.wrap_u64, IntKind.wrap_u64]; omega
      first | rw [s0'] | rw [s0]
      rw [fix_step (by omega) b1, fix_step (by omega) b2, fix_step (by omega) b3, fix_step (by omega) b4, fix_step (by omega) b5, fix_step (by omega) b6, fix_step (by omega) b7]
      simp [val8, valOf]
theorem textFin {l : List UInt8} {at' e M : Int} (h1 : 0 ≤ at') (h2 : at' ≤ l.length) (h0 : l.length ≤ 9223372036854775807) (hM0 : 0 ≤ M) (hM1 : M ≤ 9223372036854775807) {m : Int} (hM : most0 m = M) :
    (shErr (refL l at') e M ≠ 0 ∨ (((shRest (refL l at') e M).length : Int) < shV (refL l at') e M) → inTextR (refL l at') e m = shRest (refL l at') e M ∧ inTextE (refL l at') e m = inFail (shErr (refL l at') e M) 20 ∧ inTextV (refL l at') e m = []) ∧
    (shErr (refL l at') e M = 0 → ¬ (((shRest (refL l at') e M).length : Int) < shV (refL l at') e M) →
      inTextR (refL l at') e m = (shRest (refL l at') e M).drop (shV (refL l at') e M).toNat ∧ inTextE (refL l at') e m = shErr (refL l at') e M ∧ inTextV (refL l at') e m = (shRest (refL l at') e M).take (shV (refL l at') e M).toNat) := by
  unfold inTextR inTextE inTextV
  rw [hM]
  refine ⟨fun h => ?_, fun h h' => ?_⟩
  · exact tk_fail (by simp [tkOK]; omega) _ rfl
  · exact tk_ok (by simp [tkOK, h]; omega) _ rfl
theorem okRefText0 : OkRefText0 := by
  intro xs at' e m hq h0 hm
  refine vcRefText0 xs at' e m ?_
  obtain ⟨hb, h1, h2⟩ := hq
  obtain ⟨l, rfl⟩ := hb.get
  simp only [true_and, and_true, forall_eq, eq_self, bytesL_bytesAV, isBytes_bytesAV, length_bytesAV, cutL_bytes] at h0 h2 ⊢
  have main : ∀ M, most0 m = M → 0 ≤ M → M ≤ 9223372036854775807 → (True ∧ 0 ≤ at' ∧ at' ≤ (l.length : Int)) ∧
      (shErr (refL l at') e M ≠ 0 → refAt l (inTextR (refL l at') e m) = refAt l (shRest (refL l at') e M) ∧ inTextE (refL l at') e m = inFail (shErr (refL l at') e M) 20 ∧ inTextV (refL l at') e m = []) ∧
      (shErr (refL l at') e M = 0 → IntKind.u64.wrap (IntKind.i64.wrap ((l.length : Int) - refAt l (shRest (refL l at') e M))) < shV (refL l at') e M → refAt l (inTextR (refL l at') e m) = refAt l (shRest (refL l at') e M) ∧ inTextE (refL l at') e m = inFail (shErr (refL l at') e M) 20 ∧ inTextV (refL l at') e m = []) ∧
      (shErr (refL l at') e M = 0 → ¬ IntKind.u64.wrap (IntKind.i64.wrap ((l.length : Int) - refAt l (shRest (refL l at') e M))) < shV (refL l at') e M →
        ((0 ≤ refAt l (shRest (refL l at') e M) ∧ refAt l (shRest (refL l at') e M) ≤ IntKind.i64.wrap (refAt l (shRest (refL l at') e M) + IntKind.i64.wrap (shV (refL l at') e M)) ∧ IntKind.i64.wrap (refAt l (shRest (refL l at') e M) + IntKind.i64.wrap (shV (refL l at') e M)) ≤ (l.length : Int)) ∧ okWidth 1 (bytesAV l)) ∧
        refAt l (inTextR (refL l at') e m) = IntKind.i64.wrap (refAt l (shRest (refL l at') e M) + IntKind.i64.wrap (shV (refL l at') e M)) ∧ inTextE (refL l at') e m = shErr (refL l at') e M ∧
          inTextV (refL l at') e m = cutL l (refAt l (shRest (refL l at') e M)).toNat (IntKind.i64.wrap (refAt l (shRest (refL l at') e M) + IntKind.i64.wrap (shV (refL l at') e M))).toNat) := by
    intro M hM h3 h4
    obtain ⟨f1, f2⟩ := textFin (l := l) (at' := at') (e := e) h1 h2 h0 h3 h4 hM
    have hv := shV_range (refL l at') e M h3
    have hsuf : shRest (refL l at') e M <:+ l := (shRest_suf _ _ _).trans (refL_suf _ _)
    obtain ⟨V, hV⟩ : ∃ V, V = shV (refL l at') e M := ⟨_, rfl⟩
    obtain ⟨E, hE⟩ : ∃ E, E = shErr (refL l at') e M := ⟨_, rfl⟩
    obtain ⟨R, hR⟩ : ∃ R, R = shRest (refL l at') e M := ⟨_, rfl⟩
    rw [← hV, ← hE, ← hR] at f1 f2
    rw [← hV] at hv
    rw [← hR] at hsuf
    rw [← hV, ← hE, ← hR]
    obtain ⟨p, rfl⟩ := hsuf
    have ha : refAt (p ++ R) R = p.length := by simp [refAt]
    have hlen : ((p ++ R).length : Int) = p.length + R.length := by simp
    have e1 : IntKind.u64.wrap (IntKind.i64.wrap (((p ++ R).length : Int) - refAt (p ++ R) R)) = R.length := by
      rw [ha, hlen, wrap_i64 (by omega) (by omega), wrap_u64 (by omega) (by omega)]; omega
    rw [e1]
    refine ⟨⟨trivial, h1, h2⟩, fun g => ?_, fun g g' => ?_, fun g g' => ?_⟩
    · obtain ⟨k1, k2, k3⟩ := f1 (.inl g)
      rw [k1]; exact ⟨rfl, k2, k3⟩
    · obtain ⟨k1, k2, k3⟩ := f1 (.inr g')
      rw [k1]; exact ⟨rfl, k2, k3⟩
    · obtain ⟨k1, k2, k3⟩ := f2 g g'
      rw [wrap_i64 (n := V) (by omega) (by omega), ha, wrap_i64 (by omega) (by omega), k1, k2, k3]
      refine ⟨⟨⟨by omega, by omega, by omega⟩, okWidth_bytes _⟩, ?_, rfl, ?_⟩
      · simp [refAt]; omega
      · unfold cutL
        rw [List.drop_take]
        have t1 : ((p.length : Int)).toNat = p.length := by omega
        have t2 : ((p.length : Int) + V).toNat - p.length = V.toNat := by omega
        rw [t1, t2]
        simp
  refine cond_prop (fun h => ?_) fun h => ?_
  · simp at h
    obtain ⟨m1, m2, m3, m4⟩ := main 0 (by unfold most0; rw [if_pos h]) (by omega) (by omega)
    exact ⟨⟨h1, h2⟩, cond_prop (fun g => m2 (by simpa using g)) fun g => cond_prop (fun g' => m3 (by simpa using g) (by simpa using g')) fun g' => m4 (by simpa using g) (by simpa using g')⟩
  · simp at h
    rw [wrap_u64 h (by omega)]
    obtain ⟨m1, m2, m3, m4⟩ := main m (by unfold most0; rw [if_neg (by omega)]) h hm.2
    exact ⟨⟨h1, h2⟩, cond_prop (fun g => m2 (by simpa using g)) fun g => cond_prop (fun g' => m3 (by simpa using g) (by simpa using g')) fun g' => m4 (by simpa using g) (by simpa using g')⟩
theorem okRefTakeID0 : OkRefTakeID0 := by
  intro xs at' e hq
  refine vcRefTakeID0 xs at' e ?_
  have hb := inByteV_range (refL (bytesL xs) at') e
  have w1 : IntKind.i64.wrap (inByteV (refL (bytesL xs) at') e) = inByteV (refL (bytesL xs) at') e := wrap_i64 (by omega) (by omega)
  have w2 : ∀ l e, IntKind.i64.wrap (shV l e 1023) = shV l e 1023 := fun l e => by have := shV_range l e 1023 (by omega); exact wrap_i64 (by omega) (by omega)
  have hs : tkRest (refL (bytesL xs) at') e 1 <:+ bytesL xs := (tkRest_suf _ _ _).trans (refL_suf _ _)
  have hlen : (bytesL xs).length = xs.length := by simp [bytesL]
  have hr := refAt_range hs
  rw [hlen] at hr
  have he := refL_refAt hs
  simp only [true_and, and_true, forall_eq, eq_self, bytesL_bytesAV, isBytes_bytesAV, w1, w2, he]
  have e2 : idErr (refL (bytesL xs) at') e = shErr (tkRest (refL (bytesL xs) at') e 1) (idE1 (refL (bytesL xs) at') e) 1023 := rfl
  have e3 : idRest (refL (bytesL xs) at') e = shRest (tkRest (refL (bytesL xs) at') e 1) (idE1 (refL (bytesL xs) at') e) 1023 := rfl
  rw [e3]
  have fin : ∀ c, c = idE1 (refL (bytesL xs) at') e → (isBytes xs ∧ 0 ≤ refAt (bytesL xs) (tkRest (refL (bytesL xs) at') e 1) ∧ refAt (bytesL xs) (tkRest (refL (bytesL xs) at') e 1) ≤ xs.length) ∧
      (shErr (tkRest (refL (bytesL xs) at') e 1) c 1023 ≠ 0 → (refAt (bytesL xs) (shRest (tkRest (refL (bytesL xs) at') e 1) (idE1 (refL (bytesL xs) at') e) 1023) = refAt (bytesL xs) (shRest (tkRest (refL (bytesL xs) at') e 1) c 1023) ∧ idErr (refL (bytesL xs) at') e = shErr (tkRest (refL (bytesL xs) at') e 1) c 1023 ∧ idR (refL (bytesL xs) at') e = 0 ∧ idS (refL (bytesL xs) at') e = 0)) ∧
      (shErr (tkRest (refL (bytesL xs) at') e 1) c 1023 = 0 → (refAt (bytesL xs) (shRest (tkRest (refL (bytesL xs) at') e 1) (idE1 (refL (bytesL xs) at') e) 1023) = refAt (bytesL xs) (shRest (tkRest (refL (bytesL xs) at') e 1) c 1023) ∧ idErr (refL (bytesL xs) at') e = shErr (tkRest (refL (bytesL xs) at') e 1) c 1023 ∧ idR (refL (bytesL xs) at') e = inByteV (refL (bytesL xs) at') e ∧ idS (refL (bytesL xs) at') e = shV (tkRest (refL (bytesL xs) at') e 1) c 1023)) := by
    rintro c rfl
    refine ⟨⟨hq.1, hr⟩, fun h' => ⟨rfl, rfl, by unfold idR; rw [e2]; simp [h'], by unfold idS; rw [e2]; simp [h']⟩, fun h' => ⟨rfl, rfl, by unfold idR; rw [e2]; simp [h'], by unfold idS; rw [e2]; simp [h']⟩⟩
  refine ⟨hq, cond_prop (fun h => cond_prop (fun h' => ?_) fun h' => ?_) fun h => ?_⟩
  · obtain ⟨f1, f2, f3⟩ := fin 12 (by simp at h h'; unfold idE1; rw [if_pos h, h']; simp [inFail])
    exact ⟨f1, cond_prop (fun g => f2 (by simpa using g)) fun g => f3 (by simpa using g)⟩
  · obtain ⟨f1, f2, f3⟩ := fin (tkErr (refL (bytesL xs) at').length e 1) (by simp at h h'; unfold idE1; rw [if_pos h]; simp [inFail, h'])
    exact ⟨f1, cond_prop (fun g => f2 (by simpa using g)) fun g => f3 (by simpa using g)⟩
  · obtain ⟨f1, f2, f3⟩ := fin (tkErr (refL (bytesL xs) at').length e 1) (by simp at h; unfold idE1; rw [if_neg (by omega)])
    exact ⟨f1, cond_prop (fun g => f2 (by simpa using g)) fun g => f3 (by simpa using g)⟩
theorem okRefTakeBal0 : OkRefTakeBal0 := by
  intro xs at' e hq
  refine vcRefTakeBal0 xs at' e ?_
  simp only [true_and, and_true, forall_eq, eq_self, bytesL_bytesAV, isBytes_bytesAV]
  have hr := shV_range (refL (bytesL xs) at') e 4294967295 (by omega)
  rw [wrap_u32 hr.1 hr.2]
  have z : shErr (refL (bytesL xs) at') e 4294967295 ≠ 0 → shV (refL (bytesL xs) at') e 4294967295 = 0 := by
    unfold shErr shV
    split
    · simp
    · split
      · simp
      · split
        · simp
        · simp
  have b0 : balOK 0 = true := by decide
  refine ⟨hq, cond_prop (fun h => cond_prop (fun h' => ?_) fun h' => cond_prop (fun h'' => ?_) fun h'' => ?_) fun h => cond_prop (fun h' => ?_) fun h' => ?_⟩
  · simp at h h'; simp [balE, balV, h, h', inFail]
  · simp at h h''; exact absurd h h''
  · simp at h h'; simp [balE, balV, h, h']
  · simp at h; simp [balE, balV, z h, b0]
  · simp at h h'; exact absurd h' h
theorem okRefATake0 : OkRefATake0 := by
  intro xs at' e hq
  refine vcRefATake0 xs at' e ?_
  have s0 : ∀ l, shRest l e 1073741824 = (atS l e 0).1 := fun l => rfl
  have t0 : ∀ l, shErr l e 1073741824 = (atS l e 0).2 := fun l => rfl
  have s1 : ∀ l k, shRest (atS l e k).1 (atS l e k).2 1024 = (atS l e (k + 1)).1 := fun l k => rfl
  have t1 : ∀ l k, shErr (atS l e k).1 (atS l e k).2 1024 = (atS l e (k + 1)).2 := fun l k => rfl
  have v1 : ∀ l k, shV (atS l e k).1 (atS l e k).2 1024 = atV l e k := fun l k => rfl
  have w2 : ∀ l k, IntKind.i64.wrap (atV l e k) = atV l e k := fun l k => by have := shV_range (atS l e k).1 (atS l e k).2 1024 (by omega); exact wrap_i64 (by unfold atV; omega) (by unfold atV; omega)
  have w3 : ∀ l, IntKind.i64.wrap (shV l e 1073741824) = shV l e 1073741824 := fun l => by have := shV_range l e 1073741824 (by omega); exact wrap_i64 (by omega) (by omega)
  have hs : ∀ k, (atS (refL (bytesL xs) at') e k).1 <:+ bytesL xs := fun k => (atS_suf _ _ _).trans (refL_suf _ _)
  have hlen : (bytesL xs).length = xs.length := by simp [bytesL]
  have hr := fun k => refAt_range (hs k)
  simp only [hlen] at hr
  have he := fun k => refL_refAt (hs k)
  simp only [true_and, and_true, forall_eq, eq_self, bytesL_bytesAV, isBytes_bytesAV, s0, t0, he, s1, t1, v1, w2, w3, Nat.reduceAdd]
  refine ⟨hq, ⟨hq.1, hr 0⟩, by omega, ⟨hq.1, hr 1⟩, by omega, ⟨hq.1, hr 2⟩, by omega, ⟨hq.1, hr 3⟩, by omega, ⟨hq.1, hr 4⟩, by omega, ⟨hq.1, hr 5⟩, by omega, ⟨hq.1, hr 6⟩, by omega, ?_⟩
  refine cond_prop (fun h => ?_) fun h => ?_
  · simp at h; simp [atZ, h]
  · simp at h; simp [atZ, h]
end Go.Proofs.YtfoabkkkdcicgaaGreatDoor
/- The contracts are met. -/
namespace Go.Proofs.YtfoabkkkdcicgaaGreatDoor
set_option linter.unusedVariables false
set_option linter.unusedSimpArgs false
open Go.RowKit
theorem sndRefBad : Sound Tryz.prog (lookΓ gamRefBad) := sound_of _ fun p hp => by
  simp [gamRefBad] at hp
set_option maxHeartbeats 4000000 in
theorem meetsRefBad : Meets Tryz.prog 67 refBadF := by
  refine meets_of_awp (Γ := lookΓ gamRefBad) (L := fun _ _ => none) sndRefBad mixedOrders Tryz.func67 rfl Tryz.call67 ?_
  intro args q r hF hq ho
  unfold refBadF at hF
  split at hF
  · cases hF
    exact ⟨by simp only [List.length_cons, List.length_nil]; decide, okRefBad0 _ _ _ _ hq⟩
  · cases hF
theorem sndRefByte : Sound Tryz.prog (lookΓ gamRefByte) := sound_of _ fun p hp => by
  simp only [gamRefByte, List.mem_cons, List.not_mem_nil, or_false] at hp
  subst hp
  exact meetsRefBad.orNil
set_option maxHeartbeats 4000000 in
theorem meetsRefByte : Meets Tryz.prog 32 refByteF := by
  refine meets_of_awp (Γ := lookΓ gamRefByte) (L := fun _ _ => none) sndRefByte mixedOrders Tryz.func32 rfl Tryz.call32 ?_
  intro args q r hF hq ho
  unfold refByteF at hF
  split at hF
  · cases hF
    exact ⟨by simp only [List.length_cons, List.length_nil]; decide, okRefByte0 _ _ _ hq (okay_bytes (argA 0 0 ho rfl rfl))⟩
  · cases hF
theorem sndRefShort : Sound Tryz.prog (lookΓ gamRefShort) := sound_of _ fun p hp => by
  simp only [gamRefShort, List.mem_cons, List.not_mem_nil, or_false] at hp
  rcases hp with rfl | rfl
  · exact meetsRefReadShort.orNil
  · exact meetsRefBad.orNil
set_option maxHeartbeats 4000000 in
theorem meetsRefShort : Meets Tryz.prog 66 refShortF := by
  refine meets_of_awp (Γ := lookΓ gamRefShort) (L := fun _ _ => none) sndRefShort mixedOrders Tryz.func66 rfl Tryz.call66 ?_
  intro args q r hF hq ho
  unfold refShortF at hF
  split at hF
  · cases hF
    exact ⟨by simp only [List.length_cons, List.length_nil]; decide, okRefShort0 _ _ _ _ hq (okay_bytes (argA 0 0 ho rfl rfl))⟩
  · cases hF
theorem sndRefEnd : Sound Tryz.prog (lookΓ gamRefEnd) := sound_of _ fun p hp => by
  simp [gamRefEnd] at hp
set_option maxHeartbeats 4000000 in
theorem meetsRefEnd : Meets Tryz.prog 10 refEndF := by
  refine meets_of_awp (Γ := lookΓ gamRefEnd) (L := fun _ _ => none) sndRefEnd mixedOrders Tryz.func10 rfl Tryz.call10 ?_
  intro args q r hF hq ho
  unfold refEndF at hF
  split at hF
  · cases hF
    exact ⟨by simp only [List.length_cons, List.length_nil]; decide, okRefEnd0 _ _ _ hq⟩
  · cases hF
theorem sndRefTruth : Sound Tryz.prog (lookΓ gamRefTruth) := sound_of _ fun p hp => by
  simp only [gamRefTruth, List.mem_cons, List.not_mem_nil, or_false] at hp
  rcases hp with rfl | rfl
  · exact meetsRefByte.orNil
  · exact meetsRefBad.orNil
set_option maxHeartbeats 4000000 in
theorem meetsRefTruth : Meets Tryz.prog 33 refTruthF := by
  refine meets_of_awp (Γ := lookΓ gamRefTruth) (L := fun _ _ => none) sndRefTruth mixedOrders Tryz.func33 rfl Tryz.call33 ?_
  intro args q r hF hq ho
  unfold refTruthF at hF
  split at hF
  · cases hF
    exact ⟨by simp only [List.length_cons, List.length_nil]; decide, okRefTruth0 _ _ _ hq⟩
  · cases hF
theorem sndRefFixed : Sound Tryz.prog (lookΓ gamRefFixed) := sound_of _ fun p hp => by
  simp only [gamRefFixed, List.mem_cons, List.not_mem_nil, or_false] at hp
  subst hp
  exact meetsRefBad.orNil
set_option maxHeartbeats 4000000 in
theorem meetsRefFixed : Meets Tryz.prog 69 refFixedF := by
  refine meets_of_awp (Γ := lookΓ gamRefFixed) (L := fun args => match args with | [.val (.agg [.sl xs .no, .int .i64 at', .int .i64 e])] => lpRefFixed0 xs at' e | _ => fun _ => none) sndRefFixed mixedOrders Tryz.func69 rfl Tryz.call69 ?_
  intro args q r hF hq ho
  unfold refFixedF at hF
  split at hF
  · cases hF
    exact ⟨by simp only [List.length_cons, List.length_nil]; decide, okRefFixed0 _ _ _ hq (okay_bytes (argA 0 0 ho rfl rfl))⟩
  · cases hF
theorem sndRefText : Sound Tryz.prog (lookΓ gamRefText) := sound_of _ fun p hp => by
  simp only [gamRefText, List.mem_cons, List.not_mem_nil, or_false] at hp
  rcases hp with rfl | rfl
  · exact meetsRefShort.orNil
  · exact meetsRefBad.orNil
set_option maxHeartbeats 4000000 in
theorem meetsRefText : Meets Tryz.prog 70 refTextF := by
  refine meets_of_awp (Γ := lookΓ gamRefText) (L := fun _ _ => none) sndRefText mixedOrders Tryz.func70 rfl Tryz.call70 ?_
  intro args q r hF hq ho
  unfold refTextF at hF
  split at hF
  · cases hF
    exact ⟨by simp only [List.length_cons, List.length_nil]; decide, okRefText0 _ _ _ _ hq (okay_bytes (argA 0 0 ho rfl rfl)) (okay_i64 (argI 1 ho rfl rfl))⟩
  · cases hF
theorem sndRefTakeID : Sound Tryz.prog (lookΓ gamRefTakeID) := sound_of _ fun p hp => by
  simp only [gamRefTakeID, List.mem_cons, List.not_mem_nil, or_false] at hp
  rcases hp with rfl | rfl
  · exact meetsRefByte.orNil
  · exact meetsRefShort.orNil
set_option maxHeartbeats 4000000 in
theorem meetsRefTakeID : Meets Tryz.prog 30 refTakeIDF := by
  refine meets_of_awp (Γ := lookΓ gamRefTakeID) (L := fun _ _ => none) sndRefTakeID mixedOrders Tryz.func30 rfl Tryz.call30 ?_
  intro args q r hF hq ho
  unfold refTakeIDF at hF
  split at hF
  · cases hF
    exact ⟨by simp only [List.length_cons, List.length_nil]; decide, okRefTakeID0 _ _ _ hq⟩
  · cases hF
theorem sndRefTakeBal : Sound Tryz.prog (lookΓ gamRefTakeBal) := sound_of _ fun p hp => by
  simp only [gamRefTakeBal, List.mem_cons, List.not_mem_nil, or_false] at hp
  rcases hp with rfl | rfl
  · exact meetsRefShort.orNil
  · exact meetsRefBal.orNil
set_option maxHeartbeats 4000000 in
theorem meetsRefTakeBal : Meets Tryz.prog 31 refTakeBalF := by
  refine meets_of_awp (Γ := lookΓ gamRefTakeBal) (L := fun _ _ => none) sndRefTakeBal mixedOrders Tryz.func31 rfl Tryz.call31 ?_
  intro args q r hF hq ho
  unfold refTakeBalF at hF
  split at hF
  · cases hF
    exact ⟨by simp only [List.length_cons, List.length_nil]; decide, okRefTakeBal0 _ _ _ hq⟩
  · cases hF
theorem sndRefATake : Sound Tryz.prog (lookΓ gamRefATake) := sound_of _ fun p hp => by
  simp only [gamRefATake, List.mem_cons, List.not_mem_nil, or_false] at hp
  subst hp
  exact meetsRefShort.orNil
set_option maxHeartbeats 4000000 in
theorem meetsRefATake : Meets Tryz.prog 35 refATakeF := by
  refine meets_of_awp (Γ := lookΓ gamRefATake) (L := fun args => match args with | [.val (.agg [.sl xs .no, .int .i64 at', .int .i64 e])] => lpRefATake0 xs at' e | _ => fun _ => none) sndRefATake mixedOrders Tryz.func35 rfl Tryz.call35 ?_
  intro args q r hF hq ho
  unfold refATakeF at hF
  split at hF
  · cases hF
    exact ⟨by simp only [List.length_cons, List.length_nil]; decide, okRefATake0 _ _ _ hq⟩
  · cases hF
end Go.Proofs.YtfoabkkkdcicgaaGreatDoor
