/- Contracts by content, their conditions, and that they are met: LogS. -/
import Derived.Test.YtddilmocngedjaaLaxLogD
import Derived.Test.YtddilmocngedjaaLaxRefRead
import Derived.Test.YtddilmocngedjaaLaxLogP
/- Contracts by content, and the conditions that their code must meet. -/
namespace Go.Proofs.Ytddilmocngedjaa
set_option linter.unusedVariables false
set_option linter.unusedSimpArgs false
open Go.RowKit
def firstF : Con
  | [.val (.sl xs .no)] => (some (isBytes xs ∧ xs.length ≤ 140737488355100, ⟨.tup [.sl (bytesAV (firV (bytesL xs))) .no, .int .i64 (firN (bytesL xs)), .bool (firK (bytesL xs))], none, none⟩))
  | _ => none
def gamFirst : List (Nat × Con) := [(56, readShortF.orNil), (11, openF.orNil)]
def lpFirst0 (xs : List AV) : Nat → Option LoopPlan := fun _ => none
def inFirst0 (xs : List AV) : Prop := awp [] (lpFirst0 xs) (lookΓ gamFirst) Try.prog Try.f46.ntmps 0 (Try.f46.body.getD .skip) (entrySt [.val (.sl xs .no)]) (exitQ Try.prog Try.f46.results.toList [] ⟨.tup [.sl (bytesAV (firV (bytesL xs))) .no, .int .i64 (firN (bytesL xs)), .bool (firK (bytesL xs))], none, none⟩)
def OkFirst0 : Prop := ∀ (xs : List AV), isBytes xs ∧ xs.length ≤ 140737488355100 → inFirst0 xs
def scanF : Con
  | [.val (.sl xs .no)] => (some (isBytes xs ∧ xs.length ≤ 1000000, ⟨.tup [.sl (recAV (scanR (bytesL xs))) .no, .int .i64 (scanG (bytesL xs))], none, none⟩))
  | _ => none
def gamScan : List (Nat × Con) := [(46, firstF.orNil)]
def lpScan0 (xs : List AV) : Nat → Option LoopPlan := fun b => bif Nat.beq b 0 then some (.inv [.nilT 2 22 0 22] (loopScan xs)) else none
def inScan0 (xs : List AV) : Prop := awp [] (lpScan0 xs) (lookΓ gamScan) Try.prog Try.f28.ntmps 0 (Try.f28.body.getD .skip) (entrySt [.val (.sl xs .no)]) (exitQ Try.prog Try.f28.results.toList [] ⟨.tup [.sl (recAV (scanR (bytesL xs))) .no, .int .i64 (scanG (bytesL xs))], none, none⟩)
def OkScan0 : Prop := ∀ (xs : List AV), isBytes xs ∧ xs.length ≤ 1000000 → inScan0 xs
def refScanF : Con
  | [.val (.sl xs .no)] => (some (isBytes xs ∧ xs.length ≤ 1000000, ⟨.tup [.sl (recAV (scanR (bytesL xs))) .no, .int .i64 (scanG (bytesL xs))], none, none⟩))
  | _ => none
def gamRefScan : List (Nat × Con) := [(47, readShortF.orNil), (48, refFrameF.orNil), (19, sameDF.orNil)]
def lpRefScan0 (xs : List AV) : Nat → Option LoopPlan := fun b => bif Nat.beq b 0 then some (.inv [.nilT 4 71 0 22] (loopRefScan xs)) else none
def inRefScan0 (xs : List AV) : Prop := awp [] (lpRefScan0 xs) (lookΓ gamRefScan) Try.prog Try.f29.ntmps 0 (Try.f29.body.getD .skip) (entrySt [.val (.sl xs .no)]) (exitQ Try.prog Try.f29.results.toList [] ⟨.tup [.sl (recAV (scanR (bytesL xs))) .no, .int .i64 (scanG (bytesL xs))], none, none⟩)
def OkRefScan0 : Prop := ∀ (xs : List AV), isBytes xs ∧ xs.length ≤ 1000000 → inRefScan0 xs
def joinF : Con
  | [.val (.sl ps .no)] => (some (isRecs ps ∧ ps.length ≤ 100000 ∧ (∀ l ∈ recL ps, l.length ≤ 16384), ⟨.tup [.sl (bytesAV (joinL (recL ps))) .no, .int .i64 0], none, none⟩))
  | _ => none
def gamJoin : List (Nat × Con) := [(32, frameF.orNil)]
def lpJoin0 (ps : List AV) : Nat → Option LoopPlan := fun b => bif Nat.beq b 0 then some (.inv [.nilT 4 25 0 5] (loopJoin ps)) else none
def inJoin0 (ps : List AV) : Prop := awp [] (lpJoin0 ps) (lookΓ gamJoin) Try.prog Try.f30.ntmps 0 (Try.f30.body.getD .skip) (entrySt [.val (.sl ps .no)]) (exitQ Try.prog Try.f30.results.toList [] ⟨.tup [.sl (bytesAV (joinL (recL ps))) .no, .int .i64 0], none, none⟩)
def OkJoin0 : Prop := ∀ (ps : List AV), isRecs ps ∧ ps.length ≤ 100000 ∧ (∀ l ∈ recL ps, l.length ≤ 16384) → inJoin0 ps
def small14F : Con
  | [.val (.sl ps .no)] => (some (isRecs ps ∧ ps.length ≤ 9223372036854775807 ∧ (∀ l ∈ recL ps, l.length ≤ 9223372036854775807), ⟨.bool (decide (sumL (recL ps) ≤ 2000) && decide (ps.length ≤ 40)), none, none⟩))
  | _ => none
def gamSmall14 : List (Nat × Con) := []
def lpSmall140 (ps : List AV) : Nat → Option LoopPlan := fun b => bif Nat.beq b 0 then some (.inv [] (loopSmall ps)) else none
def inSmall140 (ps : List AV) : Prop := awp [] (lpSmall140 ps) (lookΓ gamSmall14) Try.prog Try.f31.ntmps 0 (Try.f31.body.getD .skip) (entrySt [.val (.sl ps .no)]) (exitQ Try.prog Try.f31.results.toList [] ⟨.bool (decide (sumL (recL ps) ≤ 2000) && decide (ps.length ≤ 40)), none, none⟩)
def OkSmall140 : Prop := ∀ (ps : List AV), isRecs ps ∧ ps.length ≤ 9223372036854775807 ∧ (∀ l ∈ recL ps, l.length ≤ 9223372036854775807) → inSmall140 ps
def lawScansF : Con
  | [.val (.sl xs .no)] => (some (isBytes xs ∧ xs.length ≤ 9223372036854775807, ⟨.bool true, none, none⟩))
  | _ => none
def gamLawScans : List (Nat × Con) := [(27, anchor14F.orNil), (28, scanF.orNil), (29, refScanF.orNil), (19, sameDF.orNil), (30, joinF.orNil)]
def lpLawScans0 (xs : List AV) : Nat → Option LoopPlan := fun b => bif Nat.beq b 0 then some (.inv [] (loopSames xs)) else none
def inLawScans0 (xs : List AV) : Prop := awp [] (lpLawScans0 xs) (lookΓ gamLawScans) Try.prog Try.f6.ntmps 0 (Try.f6.body.getD .skip) (entrySt [.val (.sl xs .no)]) (exitQ Try.prog Try.f6.results.toList [] ⟨.bool true, none, none⟩)
def OkLawScans0 : Prop := ∀ (xs : List AV), isBytes xs ∧ xs.length ≤ 9223372036854775807 → inLawScans0 xs
def lawTearsF : Con
  | [.val (.sl ps .no), .val (.int .i64 c)] => (some (isRecs ps ∧ ps.length ≤ 9223372036854775807 ∧ (∀ l ∈ recL ps, l.length ≤ 9223372036854775807), ⟨.bool true, none, none⟩))
  | _ => none
def gamLawTears : List (Nat × Con) := [(27, anchor14F.orNil), (31, small14F.orNil), (30, joinF.orNil), (28, scanF.orNil), (33, sizeF.orNil), (19, sameDF.orNil)]
def lpLawTears0 (ps : List AV) (c : Int) : Nat → Option LoopPlan := fun b => bif Nat.beq b 0 then some (.inv [] (loopTears ps c)) else none
def inLawTears0 (ps : List AV) (c : Int) : Prop := awp [] (lpLawTears0 ps c) (lookΓ gamLawTears) Try.prog Try.f8.ntmps 0 (Try.f8.body.getD .skip) (entrySt [.val (.sl ps .no), .val (.int .i64 c)]) (exitQ Try.prog Try.f8.results.toList [] ⟨.bool true, none, none⟩)
def OkLawTears0 : Prop := ∀ (ps : List AV) (c : Int), isRecs ps ∧ ps.length ≤ 9223372036854775807 ∧ (∀ l ∈ recL ps, l.length ≤ 9223372036854775807) → (-9223372036854775808 ≤ c ∧ c ≤ 9223372036854775807) → inLawTears0 ps c
end Go.Proofs.Ytddilmocngedjaa
/- What the verification conditions come to: printed by a program of ours (wip/lax/ex/Norm.lean). -/
namespace Go.Proofs.Ytddilmocngedjaa
set_option linter.unusedVariables false
open Go.RowKit
set_option maxRecDepth 100000
theorem vcFirst0 (xs : (List AV)) (h : let q0 := (bytesL xs); (tt ∧ T1 ∧ T1 ∧ T1 ∧ tt ∧ T1 ∧ (T1 ∧ (isBytes xs)) ∧ ∀ v0 : Int, (v0 = ((rShort q0).1 : Int)) → ∀ v2 : Int, (v2 = ((rShort q0).2.1 : Int)) → ∀ v4 : Int, (v4 = ((rShort q0).2.2 : Int)) → T1 ∧ T1 ∧ T1 ∧ T1 ∧ T1 ∧ T1 ∧ T1 ∧ tt ∧ T1 ∧ T1 ∧ T1 ∧ (bif (v4 != 0) then (tt ∧ T1 ∧ tt ∧ tt ∧ T1 ∧ T1 ∧ T1 ∧ tt ∧ tt ∧ ((bytesAV (firV q0)) = [] ∧ (firN q0) = 0 ∧ (firK q0) = false ∧ True) ∧ tt) else (T1 ∧ T1 ∧ T1 ∧ T1 ∧ (bif (decide ((16388 : Int) < v0)) then (tt ∧ tt ∧ T1 ∧ T1 ∧ T1 ∧ tt ∧ tt ∧ ((bytesAV (firV q0)) = [] ∧ (firN q0) = 0 ∧ (firK q0) = false ∧ True) ∧ tt) else (T1 ∧ T1 ∧ T1 ∧ T1 ∧ T1 ∧ T1 ∧ T1 ∧ T1 ∧ (bif (decide ((IntKind.wrap IntKind.i64 (((List.length xs) : Int) - v2)) < (IntKind.wrap IntKind.i64 v0))) then (tt ∧ T1 ∧ T1 ∧ T1 ∧ tt ∧ tt ∧ ((bytesAV (firV q0)) = [] ∧ (firN q0) = 0 ∧ (firK q0) = false ∧ True) ∧ tt) else (tt ∧ T1 ∧ T1 ∧ T1 ∧ T1 ∧ T1 ∧ tt ∧ T1 ∧ T1 ∧ T1 ∧ (((0 : Int) ≤ v2 ∧ v2 ≤ (IntKind.wrap IntKind.i64 (v2 + (IntKind.wrap IntKind.i64 v0))) ∧ (IntKind.wrap IntKind.i64 (v2 + (IntKind.wrap IntKind.i64 v0))) ≤ ((List.length xs) : Int)) ∧ (okWidth 1 xs)) ∧ (T1 ∧ (isBytes (@cutL AV xs (Int.toNat v2) (Int.toNat (IntKind.wrap IntKind.i64 (v2 + (IntKind.wrap IntKind.i64 v0)))))) ∧ (List.length (@cutL AV xs (Int.toNat v2) (Int.toNat (IntKind.wrap IntKind.i64 (v2 + (IntKind.wrap IntKind.i64 v0)))))) ≤ 140737488355100) ∧ ∀ v6 : (List AV), (v6 = (bytesAV (openV (bytesL (@cutL AV xs (Int.toNat v2) (Int.toNat (IntKind.wrap IntKind.i64 (v2 + (IntKind.wrap IntKind.i64 v0))))))))) → ∀ v8 : Int, (v8 = (openE (bytesL (@cutL AV xs (Int.toNat v2) (Int.toNat (IntKind.wrap IntKind.i64 (v2 + (IntKind.wrap IntKind.i64 v0)))))))) → T1 ∧ T1 ∧ T1 ∧ T1 ∧ T1 ∧ tt ∧ T1 ∧ T1 ∧ T1 ∧ T1 ∧ T1 ∧ T1 ∧ T1 ∧ tt ∧ tt ∧ ((bytesAV (firV q0)) = v6 ∧ (firN q0) = (IntKind.wrap IntKind.i64 (v2 + (IntKind.wrap IntKind.i64 v0))) ∧ (firK q0) = (v8 == 0) ∧ True) ∧ tt)))))))) : inFirst0 xs :=
  Eq.mp (show _ = _ by kernel_rfl) h
theorem vcScan0 (xs : (List AV)) (h : let q0 := (List.length xs); let q1 := (bytesL xs); (tt ∧ T1 ∧ T1 ∧ (@Exists.{1} (loopScan xs).V (fun (v0 : (@Prod.{0, 0} (List (List UInt8)) Nat)) => ((((AV.sl xs Own.no) = (AV.sl xs Own.no) ∧ (AV.sl [] (Own.row 22 0 22)) = (AV.sl (recAV v0.1) (Own.row 22 0 22)) ∧ (AV.int IntKind.i64 0) = (AV.int IntKind.i64 (v0.2 : Int)) ∧ True) ∧ T1 ∧ (@Eq.{1} Nat 0 (List.length (recAV v0.1)) ∧ True) ∧ tt ∧ tt) ∧ v0.2 ≤ q0 ∧ (List.length v0.1) ≤ v0.2 ∧ (scanR q1) = (@List.append.{0} (List UInt8) v0.1 (scanR (@List.drop.{0} UInt8 v0.2 q1))) ∧ (scanG q1) = ((v0.2 : Int) + (scanG (@List.drop.{0} UInt8 v0.2 q1)))))) ∧ ∀ v0 : (@Prod.{0, 0} (List (List UInt8)) Nat), (v0.2 ≤ q0 ∧ (List.length v0.1) ≤ v0.2 ∧ (scanR q1) = (@List.append.{0} (List UInt8) v0.1 (scanR (@List.drop.{0} UInt8 v0.2 q1))) ∧ (scanG q1) = ((v0.2 : Int) + (scanG (@List.drop.{0} UInt8 v0.2 q1)))) → tt ∧ T1 ∧ T1 ∧ (((0 : Int) ≤ (v0.2 : Int) ∧ (v0.2 : Int) ≤ (q0 : Int)) ∧ (okWidth 1 xs)) ∧ (T1 ∧ (isBytes (@cutL AV xs (Int.toNat (v0.2 : Int)) q0)) ∧ (List.length (@cutL AV xs (Int.toNat (v0.2 : Int)) q0)) ≤ 140737488355100) ∧ ∀ v2 : (List AV), (v2 = (bytesAV (firV (bytesL (@cutL AV xs (Int.toNat (v0.2 : Int)) q0))))) → ∀ v4 : Int, (v4 = (firN (bytesL (@cutL AV xs (Int.toNat (v0.2 : Int)) q0)))) → T1 ∧ T1 ∧ T1 ∧ T1 ∧ T1 ∧ T1 ∧ T1 ∧ tt ∧ T1 ∧ T1 ∧ (bif (Bool.not (firK (bytesL (@cutL AV xs (Int.toNat (v0.2 : Int)) q0)))) then (tt ∧ T1 ∧ T1 ∧ T1 ∧ T1 ∧ tt ∧ tt ∧ ((recAV (scanR q1)) = (recAV v0.1) ∧ (scanG q1) = (v0.2 : Int) ∧ True) ∧ tt) else (tt ∧ T1 ∧ T1 ∧ T1 ∧ ((List.length (recAV v0.1)) = (List.length (recAV v0.1)) ∧ (((List.length (recAV v0.1)) + 1) * 24) ≤ 140737488355328 ∧ ((List.length (recAV v0.1)) + 1) ≤ 9223372036854775807 ∧ (okWidth 1 (recAV v0.1)) ∧ (okWidth 1 [(AV.sl v2 Own.no)])) ∧ T1 ∧ tt ∧ T1 ∧ T1 ∧ T1 ∧ T1 ∧ (@Exists.{1} (loopScan xs).V (fun (v6 : (@Prod.{0, 0} (List (List UInt8)) Nat)) => ((((AV.sl xs Own.no) = (AV.sl xs Own.no) ∧ (AV.sl (@catL AV (recAV v0.1) [(AV.sl v2 Own.no)]) (Own.row 22 0 22)) = (AV.sl (recAV v6.1) (Own.row 22 0 22)) ∧ (AV.int IntKind.i64 (IntKind.wrap IntKind.i64 ((v0.2 : Int) + v4))) = (AV.int IntKind.i64 (v6.2 : Int)) ∧ True) ∧ T1 ∧ (((List.length (recAV v0.1)) + 1) = (List.length (recAV v6.1)) ∧ True) ∧ tt ∧ tt) ∧ (v6.2 ≤ q0 ∧ (List.length v6.1) ≤ v6.2 ∧ (scanR q1) = (@List.append.{0} (List UInt8) v6.1 (scanR (@List.drop.{0} UInt8 v6.2 q1))) ∧ (scanG q1) = ((v6.2 : Int) + (scanG (@List.drop.{0} UInt8 v6.2 q1)))) ∧ (q0 - v6.2) < (q0 - v0.2)))))))) : inScan0 xs :=
  Eq.mp (show _ = _ by kernel_rfl) h
theorem vcRefScan0 (xs : (List AV)) (h : let q0 := (bytesL xs); let q1 := (List.length xs); let q2 := (recAV (scanR q0)); let q3 := (scanG q0); (tt ∧ T1 ∧ T1 ∧ tt ∧ T1 ∧ tt ∧ T1 ∧ (@Exists.{1} (loopRefScan xs).V (fun (v0 : (@Prod.{0, 0} (List (List UInt8)) Nat)) => ((((AV.sl xs Own.no) = (AV.sl xs Own.no) ∧ (AV.sl [] (Own.row 71 0 22)) = (AV.sl (recAV v0.1) (Own.row 71 0 22)) ∧ (AV.int IntKind.i64 0) = (AV.int IntKind.i64 (v0.2 : Int)) ∧ True) ∧ T1 ∧ (@Eq.{1} Nat 0 (List.length (recAV v0.1)) ∧ True) ∧ tt ∧ tt) ∧ v0.2 ≤ q1 ∧ (List.length v0.1) ≤ v0.2 ∧ (scanR q0) = (@List.append.{0} (List UInt8) v0.1 (scanR (@List.drop.{0} UInt8 v0.2 q0))) ∧ q3 = ((v0.2 : Int) + (scanG (@List.drop.{0} UInt8 v0.2 q0)))))) ∧ ∀ v0 : (@Prod.{0, 0} (List (List UInt8)) Nat), (v0.2 ≤ q1 ∧ (List.length v0.1) ≤ v0.2 ∧ (scanR q0) = (@List.append.{0} (List UInt8) v0.1 (scanR (@List.drop.{0} UInt8 v0.2 q0))) ∧ q3 = ((v0.2 : Int) + (scanG (@List.drop.{0} UInt8 v0.2 q0)))) → tt ∧ T1 ∧ T1 ∧ (((0 : Int) ≤ (v0.2 : Int) ∧ (v0.2 : Int) ≤ (q1 : Int)) ∧ (okWidth 1 xs)) ∧ (T1 ∧ (isBytes (@cutL AV xs (Int.toNat (v0.2 : Int)) q1))) ∧ ∀ v2 : Int, (v2 = ((rShort (bytesL (@cutL AV xs (Int.toNat (v0.2 : Int)) q1))).1 : Int)) → ∀ v4 : Int, (v4 = ((rShort (bytesL (@cutL AV xs (Int.toNat (v0.2 : Int)) q1))).2.1 : Int)) → ∀ v6 : Int, (v6 = ((rShort (bytesL (@cutL AV xs (Int.toNat (v0.2 : Int)) q1))).2.2 : Int)) → T1 ∧ T1 ∧ T1 ∧ T1 ∧ T1 ∧ T1 ∧ T1 ∧ tt ∧ T1 ∧ T1 ∧ T1 ∧ (bif (v6 != 0) then (tt ∧ T1 ∧ tt ∧ T1 ∧ tt ∧ tt ∧ T1 ∧ T1 ∧ T1 ∧ T1 ∧ tt ∧ tt ∧ (q2 = (recAV v0.1) ∧ q3 = (v0.2 : Int) ∧ True) ∧ tt) else (T1 ∧ T1 ∧ T1 ∧ T1 ∧ (bif (decide (v2 < 4)) then (tt ∧ T1 ∧ tt ∧ tt ∧ T1 ∧ T1 ∧ T1 ∧ T1 ∧ tt ∧ tt ∧ (q2 = (recAV v0.1) ∧ q3 = (v0.2 : Int) ∧ True) ∧ tt) else (T1 ∧ T1 ∧ T1 ∧ T1 ∧ (bif (decide ((16388 : Int) < v2)) then (tt ∧ tt ∧ T1 ∧ T1 ∧ T1 ∧ T1 ∧ tt ∧ tt ∧ (q2 = (recAV v0.1) ∧ q3 = (v0.2 : Int) ∧ True) ∧ tt) else (T1 ∧ T1 ∧ T1 ∧ T1 ∧ T1 ∧ T1 ∧ T1 ∧ T1 ∧ T1 ∧ T1 ∧ (bif (decide ((IntKind.wrap IntKind.i64 ((IntKind.wrap IntKind.i64 ((q1 : Int) - (v0.2 : Int))) - v4)) < (IntKind.wrap IntKind.i64 v2))) then (tt ∧ T1 ∧ T1 ∧ T1 ∧ T1 ∧ tt ∧ tt ∧ (q2 = (recAV v0.1) ∧ q3 = (v0.2 : Int) ∧ True) ∧ tt) else (tt ∧ T1 ∧ T1 ∧ T1 ∧ T1 ∧ tt ∧ T1 ∧ T1 ∧ T1 ∧ T1 ∧ T1 ∧ T1 ∧ T1 ∧ (((0 : Int) ≤ (IntKind.wrap IntKind.i64 ((v0.2 : Int) + v4)) ∧ (IntKind.wrap IntKind.i64 ((v0.2 : Int) + v4)) ≤ (IntKind.wrap IntKind.i64 ((IntKind.wrap IntKind.i64 ((IntKind.wrap IntKind.i64 ((v0.2 : Int) + v4)) + (IntKind.wrap IntKind.i64 v2))) - (4 : Int))) ∧ (IntKind.wrap IntKind.i64 ((IntKind.wrap IntKind.i64 ((IntKind.wrap IntKind.i64 ((v0.2 : Int) + v4)) + (IntKind.wrap IntKind.i64 v2))) - (4 : Int))) ≤ (q1 : Int)) ∧ (okWidth 1 xs)) ∧ T1 ∧ tt ∧ T1 ∧ (T1 ∧ (isBytes (@cutL AV xs (Int.toNat (IntKind.wrap IntKind.i64 ((v0.2 : Int) + v4))) (Int.toNat (IntKind.wrap IntKind.i64 ((IntKind.wrap IntKind.i64 ((IntKind.wrap IntKind.i64 ((v0.2 : Int) + v4)) + (IntKind.wrap IntKind.i64 v2))) - (4 : Int)))))) ∧ (List.length (@cutL AV xs (Int.toNat (IntKind.wrap IntKind.i64 ((v0.2 : Int) + v4))) (Int.toNat (IntKind.wrap IntKind.i64 ((IntKind.wrap IntKind.i64 ((IntKind.wrap IntKind.i64 ((v0.2 : Int) + v4)) + (IntKind.wrap IntKind.i64 v2))) - (4 : Int)))))) ≤ 100000) ∧ ∀ v8 : (List AV), (v8 = (bytesAV (frameL (bytesL (@cutL AV xs (Int.toNat (IntKind.wrap IntKind.i64 ((v0.2 : Int) + v4))) (Int.toNat (IntKind.wrap IntKind.i64 ((IntKind.wrap IntKind.i64 ((IntKind.wrap IntKind.i64 ((v0.2 : Int) + v4)) + (IntKind.wrap IntKind.i64 v2))) - (4 : Int))))))))) → T1 ∧ tt ∧ T1 ∧ T1 ∧ T1 ∧ T1 ∧ T1 ∧ T1 ∧ T1 ∧ (((0 : Int) ≤ (v0.2 : Int) ∧ (v0.2 : Int) ≤ (IntKind.wrap IntKind.i64 ((IntKind.wrap IntKind.i64 ((v0.2 : Int) + v4)) + (IntKind.wrap IntKind.i64 v2))) ∧ (IntKind.wrap IntKind.i64 ((IntKind.wrap IntKind.i64 ((v0.2 : Int) + v4)) + (IntKind.wrap IntKind.i64 v2))) ≤ (q1 : Int)) ∧ (okWidth 1 xs)) ∧ (T1 ∧ ((isBytes v8) ∧ (List.length v8) ≤ 9223372036854775807) ∧ (isBytes (@cutL AV xs (Int.toNat (v0.2 : Int)) (Int.toNat (IntKind.wrap IntKind.i64 ((IntKind.wrap IntKind.i64 ((v0.2 : Int) + v4)) + (IntKind.wrap IntKind.i64 v2)))))) ∧ (List.length (@cutL AV xs (Int.toNat (v0.2 : Int)) (Int.toNat (IntKind.wrap IntKind.i64 ((IntKind.wrap IntKind.i64 ((v0.2 : Int) + v4)) + (IntKind.wrap IntKind.i64 v2)))))) ≤ 9223372036854775807) ∧ T1 ∧ (bif (Bool.not (@Decidable.decide ((bytesL v8) = (bytesL (@cutL AV xs (Int.toNat (v0.2 : Int)) (Int.toNat (IntKind.wrap IntKind.i64 ((IntKind.wrap IntKind.i64 ((v0.2 : Int) + v4)) + (IntKind.wrap IntKind.i64 v2))))))) (@instDecidableEqList.{0} UInt8 instDecidableEqUInt8 (bytesL v8) (bytesL (@cutL AV xs (Int.toNat (v0.2 : Int)) (Int.toNat (IntKind.wrap IntKind.i64 ((IntKind.wrap IntKind.i64 ((v0.2 : Int) + v4)) + (IntKind.wrap IntKind.i64 v2))))))))) then (tt ∧ T1 ∧ T1 ∧ T1 ∧ T1 ∧ tt ∧ tt ∧ (q2 = (recAV v0.1) ∧ q3 = (v0.2 : Int) ∧ True) ∧ tt) else (tt ∧ T1 ∧ T1 ∧ T1 ∧ ((List.length (recAV v0.1)) = (List.length (recAV v0.1)) ∧ (((List.length (recAV v0.1)) + 1) * 24) ≤ 140737488355328 ∧ ((List.length (recAV v0.1)) + 1) ≤ 9223372036854775807 ∧ (okWidth 1 (recAV v0.1)) ∧ (okWidth 1 [(AV.sl (@cutL AV xs (Int.toNat (IntKind.wrap IntKind.i64 ((v0.2 : Int) + v4))) (Int.toNat (IntKind.wrap IntKind.i64 ((IntKind.wrap IntKind.i64 ((IntKind.wrap IntKind.i64 ((v0.2 : Int) + v4)) + (IntKind.wrap IntKind.i64 v2))) - (4 : Int))))) Own.no)])) ∧ T1 ∧ tt ∧ T1 ∧ T1 ∧ T1 ∧ T1 ∧ T1 ∧ (@Exists.{1} (loopRefScan xs).V (fun (v10 : (@Prod.{0, 0} (List (List UInt8)) Nat)) => ((((AV.sl xs Own.no) = (AV.sl xs Own.no) ∧ (AV.sl (@catL AV (recAV v0.1) [(AV.sl (@cutL AV xs (Int.toNat (IntKind.wrap IntKind.i64 ((v0.2 : Int) + v4))) (Int.toNat (IntKind.wrap IntKind.i64 ((IntKind.wrap IntKind.i64 ((IntKind.wrap IntKind.i64 ((v0.2 : Int) + v4)) + (IntKind.wrap IntKind.i64 v2))) - (4 : Int))))) Own.no)]) (Own.row 71 0 22)) = (AV.sl (recAV v10.1) (Own.row 71 0 22)) ∧ (AV.int IntKind.i64 (IntKind.wrap IntKind.i64 ((IntKind.wrap IntKind.i64 ((v0.2 : Int) + v4)) + (IntKind.wrap IntKind.i64 v2)))) = (AV.int IntKind.i64 (v10.2 : Int)) ∧ True) ∧ T1 ∧ (((List.length (recAV v0.1)) + 1) = (List.length (recAV v10.1)) ∧ True) ∧ tt ∧ tt) ∧ (v10.2 ≤ q1 ∧ (List.length v10.1) ≤ v10.2 ∧ (scanR q0) = (@List.append.{0} (List UInt8) v10.1 (scanR (@List.drop.{0} UInt8 v10.2 q0))) ∧ q3 = ((v10.2 : Int) + (scanG (@List.drop.{0} UInt8 v10.2 q0)))) ∧ (q1 - v10.2) < (q1 - v0.2)))))))))))))))) : inRefScan0 xs :=
  Eq.mp (show _ = _ by kernel_rfl) h
theorem vcJoin0 (ps : (List AV)) (h : let q0 := (List.length ps); let q1 := (recL ps); (tt ∧ T1 ∧ T1 ∧ tt ∧ T1 ∧ tt ∧ T1 ∧ T1 ∧ T1 ∧ (@Exists.{1} (loopJoin ps).V (fun (v0 : Nat) => ((((AV.sl ps Own.no) = (AV.sl ps Own.no) ∧ (AV.int IntKind.i64 (q0 : Int)) = (AV.int IntKind.i64 (q0 : Int)) ∧ (AV.int IntKind.i64 0) = (AV.int IntKind.i64 (v0 : Int)) ∧ (AV.sl [] (Own.row 25 0 5)) = (AV.sl (bytesAV (joinL (@List.take.{0} (List UInt8) v0 q1))) (Own.row 25 0 5)) ∧ True) ∧ T1 ∧ (@Eq.{1} Nat 0 (List.length (joinL (@List.take.{0} (List UInt8) v0 q1))) ∧ True) ∧ tt ∧ tt) ∧ v0 ≤ q0))) ∧ ∀ v0 : Nat, (v0 ≤ q0) → tt ∧ T1 ∧ (bif (decide ((v0 : Int) < (q0 : Int))) then (tt ∧ ((0 : Int) ≤ (v0 : Int) ∧ (v0 : Int) < (q0 : Int) ∧ (okElem 1 ps (Int.toNat (v0 : Int)))) ∧ (okRead [Kd.sl] (elemAt ps (Int.toNat (v0 : Int))) 0) ∧ T1 ∧ tt ∧ T1 ∧ (T1 ∧ (isBytes (rdList (elemAt ps (Int.toNat (v0 : Int))) 0)) ∧ (List.length (rdList (elemAt ps (Int.toNat (v0 : Int))) 0)) ≤ 9223372036854775807) ∧ ∀ v2 : (List AV), (v2 = (bytesAV (frV (bytesL (rdList (elemAt ps (Int.toNat (v0 : Int))) 0))))) → ∀ v4 : Int, (v4 = (frE (List.length (bytesL (rdList (elemAt ps (Int.toNat (v0 : Int))) 0))))) → T1 ∧ T1 ∧ T1 ∧ T1 ∧ T1 ∧ tt ∧ T1 ∧ T1 ∧ (bif (v4 != 0) then (tt ∧ T1 ∧ T1 ∧ T1 ∧ tt ∧ tt ∧ ((bytesAV (joinL q1)) = [] ∧ (0 : Int) = v4 ∧ True) ∧ tt) else (tt ∧ T1 ∧ T1 ∧ ((List.length (joinL (@List.take.{0} (List UInt8) v0 q1))) = (List.length (bytesAV (joinL (@List.take.{0} (List UInt8) v0 q1)))) ∧ (((List.length (bytesAV (joinL (@List.take.{0} (List UInt8) v0 q1)))) + (List.length v2)) * 1) ≤ 140737488355328 ∧ ((List.length (bytesAV (joinL (@List.take.{0} (List UInt8) v0 q1)))) + (List.length v2)) ≤ 9223372036854775807 ∧ (okWidth 1 (bytesAV (joinL (@List.take.{0} (List UInt8) v0 q1)))) ∧ (okWidth 1 v2)) ∧ T1 ∧ tt ∧ T1 ∧ T1 ∧ (@Exists.{1} (loopJoin ps).V (fun (v6 : Nat) => ((((AV.sl ps Own.no) = (AV.sl ps Own.no) ∧ (AV.int IntKind.i64 (q0 : Int)) = (AV.int IntKind.i64 (q0 : Int)) ∧ (AV.int IntKind.i64 (IntKind.wrap IntKind.i64 ((v0 : Int) + (1 : Int)))) = (AV.int IntKind.i64 (v6 : Int)) ∧ (AV.sl (@catL AV (bytesAV (joinL (@List.take.{0} (List UInt8) v0 q1))) v2) (Own.row 25 0 5)) = (AV.sl (bytesAV (joinL (@List.take.{0} (List UInt8) v6 q1))) (Own.row 25 0 5)) ∧ True) ∧ T1 ∧ (((List.length (bytesAV (joinL (@List.take.{0} (List UInt8) v0 q1)))) + (List.length v2)) = (List.length (joinL (@List.take.{0} (List UInt8) v6 q1))) ∧ True) ∧ tt ∧ tt) ∧ v6 ≤ q0 ∧ (q0 - v6) < (q0 - v0))))))) else (tt ∧ T1 ∧ T1 ∧ T1 ∧ tt ∧ tt ∧ ((bytesAV (joinL q1)) = (bytesAV (joinL (@List.take.{0} (List UInt8) v0 q1))) ∧ (0 : Int) = 0 ∧ True) ∧ tt)))) : inJoin0 ps :=
  Eq.mp (show _ = _ by kernel_rfl) h
theorem vcSmall140 (ps : (List AV)) (h : let q0 := (List.length ps); let q1 := (recL ps); (tt ∧ T1 ∧ tt ∧ T1 ∧ tt ∧ T1 ∧ T1 ∧ T1 ∧ (@Exists.{1} (loopSmall ps).V (fun (v0 : Nat) => ((((AV.sl ps Own.no) = (AV.sl ps Own.no) ∧ (AV.sl ps Own.no) = (AV.sl ps Own.no) ∧ (AV.int IntKind.i64 (q0 : Int)) = (AV.int IntKind.i64 (q0 : Int)) ∧ (AV.int IntKind.i64 0) = (AV.int IntKind.i64 (v0 : Int)) ∧ (AV.int IntKind.i64 0) = (AV.int IntKind.i64 ((sumL (@List.take.{0} (List UInt8) v0 q1)) : Int)) ∧ True) ∧ T1 ∧ T1 ∧ tt ∧ tt) ∧ v0 ≤ q0 ∧ (sumL (@List.take.{0} (List UInt8) v0 q1)) ≤ 2000))) ∧ ∀ v0 : Nat, (v0 ≤ q0 ∧ (sumL (@List.take.{0} (List UInt8) v0 q1)) ≤ 2000) → tt ∧ T1 ∧ (bif (decide ((v0 : Int) < (q0 : Int))) then (tt ∧ ((0 : Int) ≤ (v0 : Int) ∧ (v0 : Int) < (q0 : Int) ∧ (okElem 1 ps (Int.toNat (v0 : Int)))) ∧ (okRead [Kd.sl] (elemAt ps (Int.toNat (v0 : Int))) 0) ∧ T1 ∧ tt ∧ T1 ∧ T1 ∧ T1 ∧ (bif (decide ((2000 : Int) < ((List.length (rdList (elemAt ps (Int.toNat (v0 : Int))) 0)) : Int))) then (tt ∧ T1 ∧ tt ∧ tt ∧ ((Bool.and (decide ((sumL q1) ≤ 2000)) (decide (q0 ≤ 40))) = false ∧ True) ∧ tt) else (tt ∧ T1 ∧ T1 ∧ T1 ∧ T1 ∧ T1 ∧ tt ∧ T1 ∧ T1 ∧ (bif (decide ((2000 : Int) < (IntKind.wrap IntKind.i64 (((sumL (@List.take.{0} (List UInt8) v0 q1)) : Int) + ((List.length (rdList (elemAt ps (Int.toNat (v0 : Int))) 0)) : Int))))) then (tt ∧ T1 ∧ tt ∧ tt ∧ ((Bool.and (decide ((sumL q1) ≤ 2000)) (decide (q0 ≤ 40))) = false ∧ True) ∧ tt) else (tt ∧ T1 ∧ T1 ∧ (@Exists.{1} (loopSmall ps).V (fun (v2 : Nat) => ((((AV.sl ps Own.no) = (AV.sl ps Own.no) ∧ (AV.sl ps Own.no) = (AV.sl ps Own.no) ∧ (AV.int IntKind.i64 (q0 : Int)) = (AV.int IntKind.i64 (q0 : Int)) ∧ (AV.int IntKind.i64 (IntKind.wrap IntKind.i64 ((v0 : Int) + (1 : Int)))) = (AV.int IntKind.i64 (v2 : Int)) ∧ (AV.int IntKind.i64 (IntKind.wrap IntKind.i64 (((sumL (@List.take.{0} (List UInt8) v0 q1)) : Int) + ((List.length (rdList (elemAt ps (Int.toNat (v0 : Int))) 0)) : Int)))) = (AV.int IntKind.i64 ((sumL (@List.take.{0} (List UInt8) v2 q1)) : Int)) ∧ True) ∧ T1 ∧ T1 ∧ tt ∧ tt) ∧ (v2 ≤ q0 ∧ (sumL (@List.take.{0} (List UInt8) v2 q1)) ≤ 2000) ∧ (q0 - v2) < (q0 - v0))))))))) else (tt ∧ T1 ∧ T1 ∧ T1 ∧ T1 ∧ tt ∧ tt ∧ ((Bool.and (decide ((sumL q1) ≤ 2000)) (decide (q0 ≤ 40))) = (decide ((q0 : Int) ≤ 40)) ∧ True) ∧ tt)))) : inSmall140 ps :=
  Eq.mp (show _ = _ by kernel_rfl) h
theorem vcLawScans0 (xs : (List AV)) (h : let q0 := (recAV (scanR (bytesL xs))); let q1 := (List.length (scanR (bytesL xs))); let q2 := (scanG (bytesL xs)); (tt ∧ T1 ∧ tt ∧ (T1 ∧ True) ∧ T1 ∧ tt ∧ T1 ∧ T1 ∧ T1 ∧ (bif (decide ((600 : Int) < ((List.length xs) : Int))) then (tt ∧ T1 ∧ tt ∧ tt ∧ (tt ∧ True) ∧ tt) else (tt ∧ T1 ∧ (T1 ∧ (isBytes xs) ∧ (List.length xs) ≤ 1000000) ∧ ∀ v0 : (List AV), (v0 = q0) → ∀ v2 : Int, (v2 = q2) → T1 ∧ T1 ∧ T1 ∧ T1 ∧ T1 ∧ tt ∧ T1 ∧ (T1 ∧ (isBytes xs) ∧ (List.length xs) ≤ 1000000) ∧ ∀ v4 : (List AV), (v4 = q0) → ∀ v6 : Int, (v6 = q2) → T1 ∧ T1 ∧ T1 ∧ T1 ∧ T1 ∧ tt ∧ T1 ∧ T1 ∧ T1 ∧ T1 ∧ (bif (v2 != v6) then (tt ∧ tt ∧ T1 ∧ tt ∧ tt ∧ (true = false ∧ True) ∧ tt) else (T1 ∧ T1 ∧ T1 ∧ T1 ∧ T1 ∧ T1 ∧ (bif (((List.length v0) : Int) != ((List.length v4) : Int)) then (tt ∧ T1 ∧ tt ∧ tt ∧ (true = false ∧ True) ∧ tt) else (tt ∧ T1 ∧ T1 ∧ T1 ∧ (@Exists.{1} (loopSames xs).V (fun (v8 : Nat) => ((((AV.sl xs Own.no) = (AV.sl xs Own.no) ∧ (AV.sl v0 Own.no) = (AV.sl q0 Own.no) ∧ (AV.int IntKind.i64 v2) = (AV.int IntKind.i64 q2) ∧ (AV.sl v4 Own.no) = (AV.sl q0 Own.no) ∧ (AV.sl v0 Own.no) = (AV.sl q0 Own.no) ∧ (AV.int IntKind.i64 ((List.length v0) : Int)) = (AV.int IntKind.i64 (q1 : Int)) ∧ (AV.int IntKind.i64 0) = (AV.int IntKind.i64 (v8 : Int)) ∧ True) ∧ T1 ∧ T1 ∧ tt ∧ tt) ∧ v8 ≤ q1))) ∧ ∀ v8 : Nat, (v8 ≤ q1) → tt ∧ T1 ∧ (bif (decide ((v8 : Int) < (q1 : Int))) then (tt ∧ T1 ∧ ((0 : Int) ≤ (v8 : Int) ∧ (v8 : Int) < ((List.length q0) : Int) ∧ (okElem 1 q0 (Int.toNat (v8 : Int)))) ∧ (okRead [Kd.sl] (elemAt q0 (Int.toNat (v8 : Int))) 0) ∧ T1 ∧ T1 ∧ tt ∧ T1 ∧ T1 ∧ T1 ∧ ((0 : Int) ≤ (v8 : Int) ∧ (v8 : Int) < ((List.length q0) : Int) ∧ (okElem 1 q0 (Int.toNat (v8 : Int)))) ∧ (okRead [Kd.sl] (elemAt q0 (Int.toNat (v8 : Int))) 0) ∧ (T1 ∧ ((isBytes (rdList (elemAt q0 (Int.toNat (v8 : Int))) 0)) ∧ (List.length (rdList (elemAt q0 (Int.toNat (v8 : Int))) 0)) ≤ 9223372036854775807) ∧ (isBytes (rdList (elemAt q0 (Int.toNat (v8 : Int))) 0)) ∧ (List.length (rdList (elemAt q0 (Int.toNat (v8 : Int))) 0)) ≤ 9223372036854775807) ∧ T1 ∧ (bif (Bool.not (@Decidable.decide ((bytesL (rdList (elemAt q0 (Int.toNat (v8 : Int))) 0)) = (bytesL (rdList (elemAt q0 (Int.toNat (v8 : Int))) 0))) (@instDecidableEqList.{0} UInt8 instDecidableEqUInt8 (bytesL (rdList (elemAt q0 (Int.toNat (v8 : Int))) 0)) (bytesL (rdList (elemAt q0 (Int.toNat (v8 : Int))) 0))))) then (tt ∧ T1 ∧ tt ∧ tt ∧ (true = false ∧ True) ∧ tt) else (tt ∧ T1 ∧ T1 ∧ (@Exists.{1} (loopSames xs).V (fun (v10 : Nat) => ((((AV.sl xs Own.no) = (AV.sl xs Own.no) ∧ (AV.sl q0 Own.no) = (AV.sl q0 Own.no) ∧ (AV.int IntKind.i64 q2) = (AV.int IntKind.i64 q2) ∧ (AV.sl q0 Own.no) = (AV.sl q0 Own.no) ∧ (AV.sl q0 Own.no) = (AV.sl q0 Own.no) ∧ (AV.int IntKind.i64 (q1 : Int)) = (AV.int IntKind.i64 (q1 : Int)) ∧ (AV.int IntKind.i64 (IntKind.wrap IntKind.i64 ((v8 : Int) + (1 : Int)))) = (AV.int IntKind.i64 (v10 : Int)) ∧ True) ∧ T1 ∧ T1 ∧ tt ∧ tt) ∧ v10 ≤ q1 ∧ (q1 - v10) < (q1 - v8))))))) else (tt ∧ T1 ∧ (T1 ∧ (isRecs q0) ∧ (List.length q0) ≤ 100000 ∧ ∀ v10 : (List UInt8), ∀ v11 : (@Membership.mem.{0, 0} (List UInt8) (List (List UInt8)) (@List.instMembership.{0} (List UInt8)) (recL q0) v10), ((List.length v10) ≤ 16384)) ∧ ∀ v10 : (List AV), (v10 = (bytesAV (joinL (recL q0)))) → ∀ v12 : Int, (v12 = 0) → T1 ∧ T1 ∧ T1 ∧ T1 ∧ T1 ∧ tt ∧ T1 ∧ T1 ∧ T1 ∧ (bif (v12 == 0) then (T1 ∧ T1 ∧ T1 ∧ (((0 : Int) ≤ q2 ∧ q2 ≤ ((List.length xs) : Int)) ∧ (okWidth 1 xs)) ∧ (T1 ∧ ((isBytes v10) ∧ (List.length v10) ≤ 9223372036854775807) ∧ (isBytes (@cutL AV xs 0 (Int.toNat q2))) ∧ (List.length (@cutL AV xs 0 (Int.toNat q2))) ≤ 9223372036854775807) ∧ T1 ∧ T1 ∧ tt ∧ tt ∧ (true = (@Decidable.decide ((bytesL v10) = (bytesL (@cutL AV xs 0 (Int.toNat q2)))) (@instDecidableEqList.{0} UInt8 instDecidableEqUInt8 (bytesL v10) (bytesL (@cutL AV xs 0 (Int.toNat q2))))) ∧ True) ∧ tt) else (false = false ∧ T1 ∧ tt ∧ tt ∧ (true = false ∧ True) ∧ tt)))))))))))) : inLawScans0 xs :=
  Eq.mp (show _ = _ by kernel_rfl) h
theorem vcLawTears0 (ps : (List AV)) (c : Int) (h : let q0 := (recAV (scanR (cutJ (recL ps) c))); let q1 := (List.length ps); let q2 := (recL ps); let q3 := (bytesAV (joinL q2)); let q4 := (scanG (cutJ q2 c)); let q5 := (cutI q2 c); (tt ∧ T1 ∧ tt ∧ (T1 ∧ True) ∧ T1 ∧ tt ∧ T1 ∧ (T1 ∧ (isRecs ps) ∧ q1 ≤ 9223372036854775807 ∧ ∀ v0 : (List UInt8), ∀ v1 : (@Membership.mem.{0, 0} (List UInt8) (List (List UInt8)) (@List.instMembership.{0} (List UInt8)) q2 v0), ((List.length v0) ≤ 9223372036854775807)) ∧ T1 ∧ (bif (Bool.not (Bool.and (decide ((sumL q2) ≤ 2000)) (decide (q1 ≤ 40)))) then (tt ∧ T1 ∧ tt ∧ tt ∧ (tt ∧ True) ∧ tt) else (tt ∧ T1 ∧ (T1 ∧ (isRecs ps) ∧ q1 ≤ 100000 ∧ ∀ v0 : (List UInt8), ∀ v1 : (@Membership.mem.{0, 0} (List UInt8) (List (List UInt8)) (@List.instMembership.{0} (List UInt8)) q2 v0), ((List.length v0) ≤ 16384)) ∧ ∀ v0 : (List AV), (v0 = q3) → ∀ v2 : Int, (v2 = 0) → T1 ∧ T1 ∧ T1 ∧ T1 ∧ T1 ∧ tt ∧ T1 ∧ T1 ∧ (bif (v2 != 0) then (tt ∧ T1 ∧ tt ∧ tt ∧ (true = false ∧ True) ∧ tt) else (tt ∧ T1 ∧ T1 ∧ T1 ∧ T1 ∧ T1 ∧ T1 ∧ tt ∧ T1 ∧ T1 ∧ (((0 : Int) ≤ (@ite.{1} Int ((@ite.{1} Int (((List.length v0) : Int) < c) (Int.decLt ((List.length v0) : Int) c) ((List.length v0) : Int) c) < 0) (Int.decLt (@ite.{1} Int (((List.length v0) : Int) < c) (Int.decLt ((List.length v0) : Int) c) ((List.length v0) : Int) c) 0) (0 : Int) (@ite.{1} Int (((List.length v0) : Int) < c) (Int.decLt ((List.length v0) : Int) c) ((List.length v0) : Int) c)) ∧ (@ite.{1} Int ((@ite.{1} Int (((List.length v0) : Int) < c) (Int.decLt ((List.length v0) : Int) c) ((List.length v0) : Int) c) < 0) (Int.decLt (@ite.{1} Int (((List.length v0) : Int) < c) (Int.decLt ((List.length v0) : Int) c) ((List.length v0) : Int) c) 0) (0 : Int) (@ite.{1} Int (((List.length v0) : Int) < c) (Int.decLt ((List.length v0) : Int) c) ((List.length v0) : Int) c)) ≤ ((List.length v0) : Int)) ∧ (okWidth 1 v0)) ∧ (T1 ∧ (isBytes (@cutL AV v0 0 (Int.toNat (@ite.{1} Int ((@ite.{1} Int (((List.length v0) : Int) < c) (Int.decLt ((List.length v0) : Int) c) ((List.length v0) : Int) c) < 0) (Int.decLt (@ite.{1} Int (((List.length v0) : Int) < c) (Int.decLt ((List.length v0) : Int) c) ((List.length v0) : Int) c) 0) (0 : Int) (@ite.{1} Int (((List.length v0) : Int) < c) (Int.decLt ((List.length v0) : Int) c) ((List.length v0) : Int) c))))) ∧ (List.length (@cutL AV v0 0 (Int.toNat (@ite.{1} Int ((@ite.{1} Int (((List.length v0) : Int) < c) (Int.decLt ((List.length v0) : Int) c) ((List.length v0) : Int) c) < 0) (Int.decLt (@ite.{1} Int (((List.length v0) : Int) < c) (Int.decLt ((List.length v0) : Int) c) ((List.length v0) : Int) c) 0) (0 : Int) (@ite.{1} Int (((List.length v0) : Int) < c) (Int.decLt ((List.length v0) : Int) c) ((List.length v0) : Int) c))))) ≤ 1000000) ∧ ∀ v4 : (List AV), (v4 = (recAV (scanR (bytesL (@cutL AV v0 0 (Int.toNat (@ite.{1} Int ((@ite.{1} Int (((List.length v0) : Int) < c) (Int.decLt ((List.length v0) : Int) c) ((List.length v0) : Int) c) < 0) (Int.decLt (@ite.{1} Int (((List.length v0) : Int) < c) (Int.decLt ((List.length v0) : Int) c) ((List.length v0) : Int) c) 0) (0 : Int) (@ite.{1} Int (((List.length v0) : Int) < c) (Int.decLt ((List.length v0) : Int) c) ((List.length v0) : Int) c)))))))) → ∀ v6 : Int, (v6 = (scanG (bytesL (@cutL AV v0 0 (Int.toNat (@ite.{1} Int ((@ite.{1} Int (((List.length v0) : Int) < c) (Int.decLt ((List.length v0) : Int) c) ((List.length v0) : Int) c) < 0) (Int.decLt (@ite.{1} Int (((List.length v0) : Int) < c) (Int.decLt ((List.length v0) : Int) c) ((List.length v0) : Int) c) 0) (0 : Int) (@ite.{1} Int (((List.length v0) : Int) < c) (Int.decLt ((List.length v0) : Int) c) ((List.length v0) : Int) c))))))) → T1 ∧ T1 ∧ T1 ∧ T1 ∧ T1 ∧ tt ∧ T1 ∧ tt ∧ T1 ∧ T1 ∧ T1 ∧ (@Exists.{1} (loopTears ps c).V (fun (v8 : Nat) => ((((AV.sl ps Own.no) = (AV.sl ps Own.no) ∧ (AV.int IntKind.i64 (@ite.{1} Int ((@ite.{1} Int (((List.length v0) : Int) < c) (Int.decLt ((List.length v0) : Int) c) ((List.length v0) : Int) c) < 0) (Int.decLt (@ite.{1} Int (((List.length v0) : Int) < c) (Int.decLt ((List.length v0) : Int) c) ((List.length v0) : Int) c) 0) (0 : Int) (@ite.{1} Int (((List.length v0) : Int) < c) (Int.decLt ((List.length v0) : Int) c) ((List.length v0) : Int) c))) = (AV.int IntKind.i64 q5) ∧ (AV.sl v0 Own.no) = (AV.sl q3 Own.no) ∧ (AV.sl v4 Own.no) = (AV.sl q0 Own.no) ∧ (AV.int IntKind.i64 v6) = (AV.int IntKind.i64 q4) ∧ (AV.int IntKind.i64 0) = (AV.int IntKind.i64 ((List.length (joinL (@List.take.{0} (List UInt8) v8 q2))) : Int)) ∧ (AV.sl ps Own.no) = (AV.sl ps Own.no) ∧ (AV.int IntKind.i64 (q1 : Int)) = (AV.int IntKind.i64 (q1 : Int)) ∧ (AV.int IntKind.i64 0) = (AV.int IntKind.i64 (v8 : Int)) ∧ True) ∧ T1 ∧ T1 ∧ tt ∧ tt) ∧ v8 ≤ q1 ∧ ((List.length (joinL (@List.take.{0} (List UInt8) v8 q2))) : Int) ≤ q5))) ∧ ∀ v8 : Nat, (v8 ≤ q1 ∧ ((List.length (joinL (@List.take.{0} (List UInt8) v8 q2))) : Int) ≤ q5) → tt ∧ T1 ∧ (bif (decide ((v8 : Int) < (q1 : Int))) then (tt ∧ T1 ∧ ((0 : Int) ≤ (v8 : Int) ∧ (v8 : Int) < (q1 : Int) ∧ (okElem 1 ps (Int.toNat (v8 : Int)))) ∧ (okRead [Kd.sl] (elemAt ps (Int.toNat (v8 : Int))) 0) ∧ T1 ∧ T1 ∧ tt ∧ T1 ∧ (T1 ∧ (List.length (rdList (elemAt ps (Int.toNat (v8 : Int))) 0)) ≤ 9223372036854775807) ∧ ∀ v10 : Int, (v10 = (sizeL (List.length (rdList (elemAt ps (Int.toNat (v8 : Int))) 0)))) → T1 ∧ tt ∧ T1 ∧ T1 ∧ T1 ∧ T1 ∧ T1 ∧ (bif (decide (q5 < (IntKind.wrap IntKind.i64 (((List.length (joinL (@List.take.{0} (List UInt8) v8 q2))) : Int) + v10)))) then (tt ∧ T1 ∧ T1 ∧ T1 ∧ T1 ∧ T1 ∧ (bif (((List.length q0) : Int) == (v8 : Int)) then (T1 ∧ T1 ∧ T1 ∧ T1 ∧ T1 ∧ tt ∧ tt ∧ (true = (q4 == ((List.length (joinL (@List.take.{0} (List UInt8) v8 q2))) : Int)) ∧ True) ∧ tt) else (false = false ∧ T1 ∧ tt ∧ tt ∧ (true = false ∧ True) ∧ tt))) else (tt ∧ T1 ∧ T1 ∧ T1 ∧ T1 ∧ T1 ∧ (bif (decide (((List.length q0) : Int) ≤ (v8 : Int))) then (tt ∧ tt ∧ T1 ∧ tt ∧ tt ∧ (true = false ∧ True) ∧ tt) else (T1 ∧ T1 ∧ ((0 : Int) ≤ (v8 : Int) ∧ (v8 : Int) < ((List.length q0) : Int) ∧ (okElem 1 q0 (Int.toNat (v8 : Int)))) ∧ (okRead [Kd.sl] (elemAt q0 (Int.toNat (v8 : Int))) 0) ∧ T1 ∧ (T1 ∧ ((isBytes (rdList (elemAt q0 (Int.toNat (v8 : Int))) 0)) ∧ (List.length (rdList (elemAt q0 (Int.toNat (v8 : Int))) 0)) ≤ 9223372036854775807) ∧ (isBytes (rdList (elemAt ps (Int.toNat (v8 : Int))) 0)) ∧ (List.length (rdList (elemAt ps (Int.toNat (v8 : Int))) 0)) ≤ 9223372036854775807) ∧ T1 ∧ T1 ∧ (bif (Bool.not (@Decidable.decide ((bytesL (rdList (elemAt q0 (Int.toNat (v8 : Int))) 0)) = (bytesL (rdList (elemAt ps (Int.toNat (v8 : Int))) 0))) (@instDecidableEqList.{0} UInt8 instDecidableEqUInt8 (bytesL (rdList (elemAt q0 (Int.toNat (v8 : Int))) 0)) (bytesL (rdList (elemAt ps (Int.toNat (v8 : Int))) 0))))) then (tt ∧ T1 ∧ tt ∧ tt ∧ (true = false ∧ True) ∧ tt) else (tt ∧ T1 ∧ T1 ∧ T1 ∧ T1 ∧ tt ∧ T1 ∧ T1 ∧ (@Exists.{1} (loopTears ps c).V (fun (v12 : Nat) => ((((AV.sl ps Own.no) = (AV.sl ps Own.no) ∧ (AV.int IntKind.i64 q5) = (AV.int IntKind.i64 q5) ∧ (AV.sl q3 Own.no) = (AV.sl q3 Own.no) ∧ (AV.sl q0 Own.no) = (AV.sl q0 Own.no) ∧ (AV.int IntKind.i64 q4) = (AV.int IntKind.i64 q4) ∧ (AV.int IntKind.i64 (IntKind.wrap IntKind.i64 (((List.length (joinL (@List.take.{0} (List UInt8) v8 q2))) : Int) + v10))) = (AV.int IntKind.i64 ((List.length (joinL (@List.take.{0} (List UInt8) v12 q2))) : Int)) ∧ (AV.sl ps Own.no) = (AV.sl ps Own.no) ∧ (AV.int IntKind.i64 (q1 : Int)) = (AV.int IntKind.i64 (q1 : Int)) ∧ (AV.int IntKind.i64 (IntKind.wrap IntKind.i64 ((v8 : Int) + (1 : Int)))) = (AV.int IntKind.i64 (v12 : Int)) ∧ True) ∧ T1 ∧ T1 ∧ tt ∧ tt) ∧ (v12 ≤ q1 ∧ ((List.length (joinL (@List.take.{0} (List UInt8) v12 q2))) : Int) ≤ q5) ∧ (q1 - v12) < (q1 - v8))))))))))) else (tt ∧ T1 ∧ T1 ∧ T1 ∧ T1 ∧ T1 ∧ T1 ∧ (bif (((List.length q0) : Int) == (q1 : Int)) then (T1 ∧ T1 ∧ T1 ∧ T1 ∧ T1 ∧ T1 ∧ tt ∧ tt ∧ (true = (q4 == ((List.length q3) : Int)) ∧ True) ∧ tt) else (false = false ∧ T1 ∧ tt ∧ tt ∧ (true = false ∧ True) ∧ tt)))))))))) : inLawTears0 ps c :=
  Eq.mp (show _ = _ by kernel_rfl) h
end Go.Proofs.Ytddilmocngedjaa
/- The conditions hold: logs that are scanned, joined and torn. -/
namespace Go.Proofs.Ytddilmocngedjaa
set_option linter.unusedVariables false
set_option linter.unusedSimpArgs false
open Go.RowKit
set_option maxRecDepth 100000

theorem recL_recAV (ls : List (List UInt8)) : recL (recAV ls) = ls := by
  unfold recL recAV
  rw [List.map_map]
  have : (partL ∘ fun l => AV.sl (bytesAV l) .no) = id := by
    funext l
    show bytesL (AV.sl (bytesAV l) .no).theList = l
    exact bytesL_bytesAV l
  rw [this, List.map_id]
theorem length_recAV (ls : List (List UInt8)) : (recAV ls).length = ls.length := by simp [recAV]
theorem isRecs_recAV (ls : List (List UInt8)) : isRecs (recAV ls) := by unfold isRecs; rw [recL_recAV]
theorem elem_rec {ls : List (List UInt8)} {i : Nat} (h : i < ls.length) : elemAt (recAV ls) i = .sl (bytesAV (ls.getD i [])) .no := by
  unfold elemAt cellAt recAV
  rw [List.getElem?_map, List.getElem?_eq_getElem h]
  simp [List.getD, List.getElem?_eq_getElem h]
theorem rd_rec {ls : List (List UInt8)} {i : Nat} (h : i < ls.length) : rdList (elemAt (recAV ls) i) 0 = bytesAV (ls.getD i []) := by rw [elem_rec h]; rfl
theorem okElem_rec {ls : List (List UInt8)} {i : Nat} (h : i < ls.length) : okElem 1 (recAV ls) i := by unfold okElem; rw [elem_rec h]; rfl
theorem okRead_rec {ls : List (List UInt8)} {i : Nat} (h : i < ls.length) : okRead [Kd.sl] (elemAt (recAV ls) i) 0 := by
  rw [elem_rec h]
  intro j kd hj
  match j, hj with
  | 0, hj => simp at hj; subst hj; rfl
  | j + 1, hj => simp at hj
theorem okWidth_rec (ls : List (List UInt8)) : okWidth 1 (recAV ls) := by
  intro x hx
  obtain ⟨l, _, rfl⟩ := List.mem_map.1 hx
  rfl
theorem catL_rec (ls : List (List UInt8)) (l : List UInt8) : catL (recAV ls) [.sl (bytesAV l) .no] = recAV (ls ++ [l]) := by simp [catL, recAV]
theorem cutL_end (l : List UInt8) (k : Nat) : cutL l k l.length = l.drop k := by simp [cutL]
theorem join_snoc (ls : List (List UInt8)) (l : List UInt8) : joinL (ls ++ [l]) = joinL ls ++ frameL l := by simp [joinL]
theorem take_snoc {α : Type} (d : α) (ls : List α) {i : Nat} (h : i < ls.length) : ls.take (i + 1) = ls.take i ++ [ls.getD i d] := by
  rw [List.take_add_one, List.getElem?_eq_getElem h]
  simp [List.getD, List.getElem?_eq_getElem h]
theorem toN (i : Nat) : ((i : Int)).toNat = i := by omega
theorem okFirst0 : OkFirst0 := by
  intro xs hq
  refine vcFirst0 xs ?_
  obtain ⟨hb, hl⟩ := hq
  obtain ⟨l, rfl⟩ := hb.get
  simp only [true_and, and_true, forall_eq, eq_self, bytesL_bytesAV, isBytes_bytesAV, length_bytesAV, cutL_bytes, okWidth_bytes] at hl ⊢
  have hr := rShort_range l
  have no : firG l = false → bytesAV (firV l) = [] ∧ firN l = 0 ∧ firK l = false := by
    intro h
    refine ⟨by unfold firV; rw [h]; rfl, by unfold firN; rw [h]; rfl, by unfold firK; rw [h]; rfl⟩
  refine cond_prop (fun h => no ?_) fun h => cond_prop (fun h2 => no ?_) fun h2 => ?_
  · have : ¬ (rShort l).2.2 = 0 := by simp at h; omega
    unfold firG; simp [this]
  · have : ¬ (rShort l).1 ≤ 16388 := by simp at h2; omega
    unfold firG; simp [this]
  · have h1 : (rShort l).1 ≤ 16388 := by simp at h2; omega
    rw [wrap_i64 (n := ((rShort l).1 : Int)) (by omega) (by omega), wrap_i64 (n := (l.length : Int) - ((rShort l).2.1 : Int)) (by omega) (by omega), wrap_i64 (n := ((rShort l).2.1 : Int) + ((rShort l).1 : Int)) (by omega) (by omega)]
    refine cond_prop (fun h3 => no ?_) fun h3 => ?_
    · have : ¬ (rShort l).2.1 + (rShort l).1 ≤ l.length := by simp at h3; omega
      unfold firG; simp [this]
    · have h3' : (rShort l).2.1 + (rShort l).1 ≤ l.length := by simp at h3; omega
      have hg : firG l = true := by
        have : (rShort l).2.2 = 0 := by simp at h; omega
        unfold firG; simp [this, h1, h3']
      have e1 : (((rShort l).2.1 : Int)).toNat = (rShort l).2.1 := by omega
      have e2 : (((rShort l).2.1 : Int) + ((rShort l).1 : Int)).toNat = (rShort l).2.1 + (rShort l).1 := by omega
      have e3 : cutL l (rShort l).2.1 ((rShort l).2.1 + (rShort l).1) = segL l := by
        unfold cutL segL
        rw [List.drop_take]; congr 1; omega
      rw [e1, e2, e3]
      have hs := seg_len hg
      refine ⟨⟨by omega, by omega, by omega⟩, by omega, ?_, ?_, ?_⟩
      · unfold firV; rw [if_pos hg]
      · unfold firN; rw [if_pos hg]; omega
      · unfold firK openE
        rw [hg]
        by_cases h4 : (segL l).length < 4
        · have : openOK (segL l) = false := by unfold openOK; simp; omega
          rw [if_pos h4, this]; rfl
        · rw [if_neg h4]
          cases openOK (segL l) <;> rfl
theorem scan_next {l : List UInt8} {rs : List (List UInt8)} {g : Nat} (hk : firK (l.drop g) = true) (h1 : scanR l = rs ++ scanR (l.drop g)) (h2 : scanG l = (g : Int) + scanG (l.drop g)) :
    scanR l = (rs ++ [firV (l.drop g)]) ++ scanR (l.drop (g + firM (l.drop g))) ∧ scanG l = ((g + firM (l.drop g) : Nat) : Int) + scanG (l.drop (g + firM (l.drop g))) := by
  rw [scanR_yes hk, List.drop_drop] at h1
  rw [scanG_yes hk, List.drop_drop] at h2
  refine ⟨by rw [h1]; simp, by rw [h2]; omega⟩
theorem okScan0 : OkScan0 := by
  intro xs hq
  refine vcScan0 xs ?_
  obtain ⟨hb, hl⟩ := hq
  obtain ⟨l, rfl⟩ := hb.get
  simp only [true_and, and_true, forall_eq, eq_self, bytesL_bytesAV, isBytes_bytesAV, length_bytesAV, cutL_bytes, okWidth_bytes, okWidth_rec, length_recAV, toN, cutL_end] at hl ⊢
  refine ⟨⟨(([], 0) : List (List UInt8) × Nat), ⟨⟨rfl, rfl⟩, rfl⟩, Nat.zero_le _, Nat.le_refl _, by simp, by simp⟩, ?_⟩
  rintro ⟨rs, g⟩ ⟨g1, g2, g3, g4⟩
  simp only at g1 g2 g3 g4 ⊢
  have hdl : (l.drop g).length = l.length - g := List.length_drop
  refine ⟨⟨by omega, by omega⟩, by omega, cond_prop (fun h => ?_) fun h => ?_⟩
  · have hk : firK (l.drop g) = false := by simpa using h
    rw [scanR_no hk] at g3
    rw [scanG_no hk] at g4
    rw [g3, g4]
    simp
  · have hk : firK (l.drop g) = true := by simpa using h
    obtain ⟨m1, m2⟩ := firM_range (firK_G hk)
    obtain ⟨n1, n2⟩ := scan_next hk g3 g4
    have hw : okWidth 1 [AV.sl (bytesAV (firV (l.drop g))) Own.no] := okWidth_cons rfl (okWidth_nil 1)
    refine ⟨⟨by omega, by omega, hw⟩, ((rs ++ [firV (l.drop g)], g + firM (l.drop g)) : List (List UInt8) × Nat), ⟨⟨?_, ?_⟩, ?_⟩, ⟨?_, ?_, n1, n2⟩, ?_⟩
    · rw [catL_rec]
    · rw [firN_yes (firK_G hk), wrap_i64 (by omega) (by omega)]; congr 1
    · simp
    · show g + firM (l.drop g) ≤ l.length; omega
    · simp; omega
    · show l.length - (g + firM (l.drop g)) < l.length - g; omega
theorem okRefScan0 : OkRefScan0 := by
  intro xs hq
  refine vcRefScan0 xs ?_
  obtain ⟨hb, hl⟩ := hq
  obtain ⟨l, rfl⟩ := hb.get
  simp only [true_and, and_true, forall_eq, eq_self, bytesL_bytesAV, isBytes_bytesAV, length_bytesAV, cutL_bytes, okWidth_bytes, okWidth_rec, length_recAV, toN, cutL_end] at hl ⊢
  refine ⟨⟨(([], 0) : List (List UInt8) × Nat), ⟨⟨rfl, rfl⟩, rfl⟩, Nat.zero_le _, Nat.le_refl _, by simp, by simp⟩, ?_⟩
  rintro ⟨rs, g⟩ ⟨g1, g2, g3, g4⟩
  simp only at g1 g2 g3 g4 ⊢
  have hdl : (l.drop g).length = l.length - g := List.length_drop
  have hr := rShort_range (l.drop g)
  have no : firK (l.drop g) = false → recAV (scanR l) = recAV rs ∧ scanG l = (g : Int) := by
    intro hk
    rw [scanR_no hk] at g3
    rw [scanG_no hk] at g4
    rw [g3, g4]
    simp
  have nog : firG (l.drop g) = false → recAV (scanR l) = recAV rs ∧ scanG l = (g : Int) := fun h => no (by unfold firK; rw [h]; rfl)
  obtain ⟨m, hm⟩ : ∃ m, m = l.drop g := ⟨_, rfl⟩
  rw [← hm] at no nog hdl hr g3 g4 ⊢
  refine ⟨⟨by omega, by omega⟩, cond_prop (fun h => nog ?_) fun h => cond_prop (fun h2 => ?_) fun h2 => cond_prop (fun h3 => nog ?_) fun h3 => ?_⟩
  · have : ¬ (rShort m).2.2 = 0 := by simp at h; omega
    unfold firG; simp [this]
  · have h2' : (rShort m).1 < 4 := by simp at h2; omega
    cases hg : firG m with
    | false => exact nog hg
    | true =>
      refine no ?_
      have := seg_len hg
      have ho : openOK (segL m) = false := by unfold openOK; simp; omega
      unfold firK; rw [ho, hg]; rfl
  · have : ¬ (rShort m).1 ≤ 16388 := by simp at h3; omega
    unfold firG; simp [this]
  · have q1 : (rShort m).2.2 = 0 := by simp at h; omega
    have q2 : 4 ≤ (rShort m).1 := by simp at h2; omega
    have q3 : (rShort m).1 ≤ 16388 := by simp at h3; omega
    have w1 : IntKind.i64.wrap ((rShort m).1 : Int) = ((rShort m).1 : Int) := wrap_i64 (by omega) (by omega)
    have w2 : IntKind.i64.wrap ((l.length : Int) - (g : Int)) = (l.length : Int) - (g : Int) := wrap_i64 (by omega) (by omega)
    have w3 : IntKind.i64.wrap ((g : Int) + ((rShort m).2.1 : Int)) = (g : Int) + ((rShort m).2.1 : Int) := wrap_i64 (by omega) (by omega)
    have w4 : IntKind.i64.wrap ((l.length : Int) - (g : Int) - ((rShort m).2.1 : Int)) = (l.length : Int) - (g : Int) - ((rShort m).2.1 : Int) := wrap_i64 (by omega) (by omega)
    have w5 : IntKind.i64.wrap ((g : Int) + ((rShort m).2.1 : Int) + ((rShort m).1 : Int)) = (g : Int) + ((rShort m).2.1 : Int) + ((rShort m).1 : Int) := wrap_i64 (by omega) (by omega)
    have w6 : IntKind.i64.wrap ((g : Int) + ((rShort m).2.1 : Int) + ((rShort m).1 : Int) - 4) = (g : Int) + ((rShort m).2.1 : Int) + ((rShort m).1 : Int) - 4 := wrap_i64 (by omega) (by omega)
    simp only [w1, w2, w3, w4, w5, w6]
    refine cond_prop (fun h4 => nog ?_) fun h4 => ?_
    · have : ¬ (rShort m).2.1 + (rShort m).1 ≤ m.length := by simp at h4; omega
      unfold firG; simp [this]
    · have q4 : (rShort m).2.1 + (rShort m).1 ≤ m.length := by simp at h4; omega
      have hg : firG m = true := by unfold firG; simp [q1, q3, q4]
      have t1 : ((g : Int) + ((rShort m).2.1 : Int)).toNat = g + (rShort m).2.1 := by omega
      have t2 : ((g : Int) + ((rShort m).2.1 : Int) + ((rShort m).1 : Int) - 4).toNat = g + (rShort m).2.1 + ((rShort m).1 - 4) := by omega
      have t3 : ((g : Int) + ((rShort m).2.1 : Int) + ((rShort m).1 : Int)).toNat = g + firM m := by unfold firM; omega
      have c1 : cutL l (g + (rShort m).2.1) (g + (rShort m).2.1 + ((rShort m).1 - 4)) = (m.drop (rShort m).2.1).take ((rShort m).1 - 4) := by
        unfold cutL
        rw [List.drop_take, hm, List.drop_drop]; congr 1; omega
      have c2 : cutL l g (g + firM m) = m.take (firM m) := by
        unfold cutL
        rw [List.drop_take, hm]; congr 1; omega
      rw [t1, t2, t3, c1, c2]
      have hl1 : ((m.drop (rShort m).2.1).take ((rShort m).1 - 4)).length = (rShort m).1 - 4 := by rw [List.length_take, List.length_drop]; omega
      have hfl : (frameL ((m.drop (rShort m).2.1).take ((rShort m).1 - 4))).length ≤ 100000 := by
        unfold frameL
        rw [List.length_append, seal_len, hl1]
        have := short_le10' ((rShort m).1 - 4 + 4) (by omega)
        omega
      have htl : (m.take (firM m)).length ≤ 1000000 := by rw [List.length_take]; omega
      obtain ⟨m1, m2⟩ := firM_range hg
      refine ⟨⟨by omega, by omega, by omega⟩, by omega, ⟨by omega, by unfold firM at m2; omega, by unfold firM at m2; omega⟩, ⟨by omega, by omega⟩, cond_prop (fun h5 => no ?_) fun h5 => ?_⟩
      · have h5' : ¬ frameL ((m.drop (rShort m).2.1).take ((rShort m).1 - 4)) = m.take (firM m) := by simpa using h5
        have ho : openOK (segL m) = false := by
          cases ho : openOK (segL m) with
          | false => rfl
          | true => exact absurd ((frame_iff hg q2).2 ho) h5'
        unfold firK; rw [ho, hg]; rfl
      · have h5' : frameL ((m.drop (rShort m).2.1).take ((rShort m).1 - 4)) = m.take (firM m) := by simpa using h5
        have ho := (frame_iff hg q2).1 h5'
        have hk : firK m = true := by unfold firK; rw [ho, hg]; rfl
        have hv : firV m = (m.drop (rShort m).2.1).take ((rShort m).1 - 4) := by
          unfold firV
          rw [if_pos hg]
          unfold openV
          rw [if_pos ho]
          unfold bodyL
          rw [seg_len hg]
          unfold segL
          rw [List.take_take]
          congr 1
          omega
        rw [← hv]
        have hk' : firK (l.drop g) = true := by rw [← hm]; exact hk
        have g3' : scanR l = rs ++ scanR (l.drop g) := by rw [← hm]; exact g3
        have g4' : scanG l = (g : Int) + scanG (l.drop g) := by rw [← hm]; exact g4
        obtain ⟨n1, n2⟩ := scan_next hk' g3' g4'
        rw [← hm] at n1 n2
        have hw : okWidth 1 [AV.sl (bytesAV (firV m)) Own.no] := okWidth_cons rfl (okWidth_nil 1)
        refine ⟨⟨by omega, by omega, hw⟩, ((rs ++ [firV m], g + firM m) : List (List UInt8) × Nat), ⟨⟨?_, ?_⟩, ?_⟩, ⟨?_, ?_, n1, n2⟩, ?_⟩
        · rw [catL_rec]
        · show AV.int .i64 _ = AV.int .i64 ((g + firM m : Nat) : Int)
          congr 1; unfold firM; omega
        · simp
        · show g + firM m ≤ l.length; omega
        · simp; omega
        · show l.length - (g + firM m) < l.length - g; omega
theorem frame_short {l : List UInt8} (h : l.length ≤ 16384) : frV l = frameL l ∧ frE l.length = 0 ∧ (frameL l).length ≤ l.length + 14 := by
  refine ⟨by unfold frV; rw [if_neg (by omega)], by unfold frE; rw [if_neg (by omega)], ?_⟩
  unfold frameL
  rw [List.length_append, seal_len]
  have := short_le10' (l.length + 4) (by omega)
  omega
theorem join_len : ∀ (ls : List (List UInt8)), (∀ l ∈ ls, l.length ≤ 16384) → (joinL ls).length ≤ 16398 * ls.length := by
  intro ls
  induction ls with
  | nil => intro _; simp [joinL]
  | cons l ls ih =>
    intro h
    have h1 := (frame_short (h l (by simp))).2.2
    have h0 := h l (by simp)
    have h2 := ih (fun x hx => h x (by simp [hx]))
    have : joinL (l :: ls) = frameL l ++ joinL ls := by simp [joinL]
    rw [this, List.length_append, List.length_cons]
    omega
theorem getD_mem {ls : List (List UInt8)} {i : Nat} (h : i < ls.length) : ls.getD i [] ∈ ls := by
  simp [List.getD, List.getElem?_eq_getElem h]
theorem okJoin0 : OkJoin0 := by
  intro ps hq
  refine vcJoin0 ps ?_
  obtain ⟨hb, hl, hm⟩ := hq
  obtain ⟨ls, rfl⟩ : ∃ ls, ps = recAV ls := ⟨_, hb⟩
  simp only [true_and, and_true, forall_eq, eq_self, bytesL_bytesAV, isBytes_bytesAV, length_bytesAV, cutL_bytes, okWidth_bytes, okWidth_rec, length_recAV, toN, recL_recAV] at hl hm ⊢
  refine ⟨⟨(0 : Nat), ⟨⟨rfl, rfl⟩, rfl⟩, Nat.zero_le _⟩, fun i hi => cond_prop (fun h => ?_) fun h => ?_⟩
  · have h' : i < ls.length := by simpa using h
    obtain ⟨f1, f2, f3⟩ := frame_short (hm _ (getD_mem h'))
    have ht := join_len (ls.take i) (fun l hl => hm l (List.mem_of_mem_take hl))
    rw [List.length_take] at ht
    have := hm _ (getD_mem h')
    rw [rd_rec h', bytesL_bytesAV, length_bytesAV, f1, f2]
    refine ⟨⟨by omega, by omega, okElem_rec h'⟩, okRead_rec h', ⟨isBytes_bytesAV _, by omega⟩, cond_prop (fun g => by simp at g) fun g => ⟨⟨by omega, by omega⟩, (i + 1 : Nat), ⟨⟨?_, ?_⟩, ?_⟩, by omega, by omega⟩⟩
    · rw [wrap_i64 (by omega) (by omega)]; rfl
    · rw [take_snoc [] ls h', join_snoc, catL_bytes]
    · rw [take_snoc [] ls h', join_snoc, List.length_append]
  · have h' : i = ls.length := by simp at h; omega
    rw [h', List.take_length]
theorem sum_snoc (ls : List (List UInt8)) (l : List UInt8) : sumL (ls ++ [l]) = sumL ls + l.length := by simp [sumL]
theorem sum_take (ls : List (List UInt8)) (i : Nat) : sumL (ls.take i) ≤ sumL ls := by
  conv => rhs; rw [← List.take_append_drop i ls]
  simp only [sumL, List.map_append, List.sum_append]; omega
theorem mem_sum {ls : List (List UInt8)} {l : List UInt8} (h : l ∈ ls) : l.length ≤ sumL ls := by
  induction ls with
  | nil => cases h
  | cons x ls ih =>
    have : sumL (x :: ls) = x.length + sumL ls := by simp [sumL]
    rcases List.mem_cons.1 h with rfl | h
    · omega
    · have := ih h; omega
theorem okSmall140 : OkSmall140 := by
  intro ps hq
  refine vcSmall140 ps ?_
  obtain ⟨hb, hl, hm⟩ := hq
  obtain ⟨ls, rfl⟩ : ∃ ls, ps = recAV ls := ⟨_, hb⟩
  simp only [true_and, and_true, forall_eq, eq_self, bytesL_bytesAV, isBytes_bytesAV, length_bytesAV, cutL_bytes, okWidth_bytes, okWidth_rec, length_recAV, toN, recL_recAV] at hl hm ⊢
  refine ⟨⟨(0 : Nat), ⟨rfl, rfl⟩, Nat.zero_le _, by simp [sumL]⟩, fun i hi => cond_prop (fun h => ?_) fun h => ?_⟩
  · have h' : i < ls.length := by simpa using h
    have hx := hm _ (getD_mem h')
    have hs : sumL (ls.take (i + 1)) = sumL (ls.take i) + (ls.getD i []).length := by rw [take_snoc [] ls h', sum_snoc]
    have hs2 := sum_take ls (i + 1)
    have w : IntKind.i64.wrap ((sumL (ls.take i) : Int) + ((ls.getD i []).length : Int)) = (sumL (ls.take i) : Int) + ((ls.getD i []).length : Int) ∨ 2000 < (ls.getD i []).length := by
      by_cases hb : 2000 < (ls.getD i []).length
      · exact .inr hb
      · exact .inl (wrap_i64 (by omega) (by omega))
    rw [rd_rec h', length_bytesAV]
    obtain ⟨x, hxd⟩ : ∃ x, x = (ls.getD i []).length := ⟨_, rfl⟩
    rw [← hxd] at hx hs w ⊢
    refine ⟨⟨by omega, by omega, okElem_rec h'⟩, okRead_rec h', cond_prop (fun g => ?_) fun g => ?_⟩
    · have g' : 2000 < x := by simp at g; omega
      have : ¬ sumL ls ≤ 2000 := by omega
      simp [this]
    · have g' : ¬ 2000 < x := by simp at g; omega
      rw [w.resolve_right g']
      refine cond_prop (fun g2 => ?_) fun g2 => ⟨(i + 1 : Nat), ⟨?_, ?_⟩, ⟨by omega, ?_⟩, by omega⟩
      · have : ¬ sumL ls ≤ 2000 := by simp at g2; omega
        simp [this]
      · rw [wrap_i64 (by omega) (by omega)]; rfl
      · rw [hs]; rfl
      · rw [hs]; simp at g2; omega
  · have h' : i = ls.length := by simp at h; omega
    have : sumL ls ≤ 2000 := by have := hi.2; rw [h', List.take_length] at this; exact this
    simp [this]
    omega
theorem okLawScans0 : OkLawScans0 := by
  intro xs hq
  refine vcLawScans0 xs ?_
  obtain ⟨hb, hl⟩ := hq
  obtain ⟨l, rfl⟩ := hb.get
  simp only [true_and, and_true, forall_eq, eq_self, bytesL_bytesAV, isBytes_bytesAV, length_bytesAV, cutL_bytes, okWidth_bytes, okWidth_rec, length_recAV, toN, recL_recAV, isRecs_recAV] at hl ⊢
  refine cond_prop (fun _ => trivial) fun h => ?_
  have hl6 : l.length ≤ 600 := by simp at h; omega
  obtain ⟨s1, s2, s3, s4, s5⟩ := scan_sound _ l (Nat.le_refl _)
  refine ⟨by omega, by omega, cond_prop (fun g => by simp at g) fun _ => cond_prop (fun g => by simp at g) fun _ => ⟨⟨(0 : Nat), rfl, Nat.zero_le _⟩, fun i hi => cond_prop (fun g => ?_) fun g => ?_⟩⟩
  · have h' : i < (scanR l).length := by simpa using g
    have hx := s2 _ (getD_mem h')
    rw [rd_rec h', length_bytesAV]
    refine ⟨⟨by omega, by omega, okElem_rec h'⟩, okRead_rec h', ⟨by omega, by omega, okElem_rec h'⟩, okRead_rec h', ⟨⟨isBytes_bytesAV _, by omega⟩, isBytes_bytesAV _, by omega⟩, cond_prop (fun g => by simp at g) fun _ => ⟨(i + 1 : Nat), ?_, by omega, by omega⟩⟩
    rw [wrap_i64 (by omega) (by omega)]; rfl
  · have hj := join_len (scanR l) s2
    refine ⟨⟨by omega, s2⟩, cond_prop (fun _ => ?_) fun g => by simp at g⟩
    have c1 : cutL l 0 (scanG l).toNat = l.take (scanG l).toNat := by simp [cutL]
    rw [c1, s1]
    refine ⟨⟨by omega, by omega⟩, ⟨by rw [List.length_take]; omega, by rw [List.length_take]; omega⟩, by simp⟩
theorem size_frame {l : List UInt8} (h : l.length ≤ 16384) : sizeL l.length = ((frameL l).length : Int) := by
  unfold sizeL frameL
  rw [if_neg (by omega), List.length_append, seal_len]; omega
theorem okLawTears0 : OkLawTears0 := by
  intro ps c hq hc
  refine vcLawTears0 ps c ?_
  obtain ⟨hb, hl, hm⟩ := hq
  obtain ⟨ls, rfl⟩ : ∃ ls, ps = recAV ls := ⟨_, hb⟩
  simp only [true_and, and_true, forall_eq, eq_self, bytesL_bytesAV, isBytes_bytesAV, length_bytesAV, cutL_bytes, okWidth_bytes, okWidth_rec, length_recAV, toN, recL_recAV, isRecs_recAV] at hl hm ⊢
  refine ⟨⟨hl, hm⟩, cond_prop (fun _ => trivial) fun h => ?_⟩
  have h2 : sumL ls ≤ 2000 ∧ ls.length ≤ 40 := by simpa using h
  have hx : ∀ l ∈ ls, l.length ≤ 2000 := fun l hl => by have := mem_sum hl; omega
  have hx' : ∀ l ∈ ls, l.length ≤ 16384 := fun l hl => by have := hx l hl; omega
  have hJ := join_len ls hx'
  have ec : (if (if ((joinL ls).length : Int) < c then ((joinL ls).length : Int) else c) < 0 then (0 : Int) else if ((joinL ls).length : Int) < c then ((joinL ls).length : Int) else c) = cutI ls c := rfl
  rw [ec]
  have hcr : 0 ≤ cutI ls c ∧ cutI ls c ≤ (joinL ls).length := by
    unfold cutI
    split
    · omega
    · split <;> omega
  have e1 : cutL (joinL ls) 0 (cutI ls c).toNat = cutJ ls c := by simp [cutL, cutJ]
  rw [e1]
  have hcl : (cutJ ls c).length = (cutI ls c).toNat := by unfold cutJ; rw [List.length_take]; omega
  refine ⟨⟨by omega, hx'⟩, cond_prop (fun g => by simp at g) fun _ => ⟨⟨by omega, by omega⟩, by omega, ⟨(0 : Nat), ⟨rfl, rfl, rfl, rfl, rfl⟩, Nat.zero_le _, by simp [joinL]; omega⟩, ?_⟩⟩
  have main : ∀ i, i ≤ ls.length → ((joinL (ls.take i)).length : Int) ≤ cutI ls c → scanR (cutJ ls c) = ls.take i ++ scanR ((joinL (ls.drop i)).take ((cutI ls c).toNat - (joinL (ls.take i)).length)) ∧ scanG (cutJ ls c) = ((joinL (ls.take i)).length : Int) + scanG ((joinL (ls.drop i)).take ((cutI ls c).toNat - (joinL (ls.take i)).length)) := by
    intro i
    induction i with
    | zero => intro _ _; simp [cutJ, joinL]
    | succ i ih =>
      intro h1 h3
      have h' : i < ls.length := by omega
      have es : joinL (ls.take (i + 1)) = joinL (ls.take i) ++ frameL (ls.getD i []) := by rw [take_snoc [] ls h', join_snoc]
      have el : (joinL (ls.take (i + 1))).length = (joinL (ls.take i)).length + (frameL (ls.getD i [])).length := by rw [es, List.length_append]
      obtain ⟨i1, i2⟩ := ih (by omega) (by omega)
      have ed : ls.drop i = ls.getD i [] :: ls.drop (i + 1) := by
        rw [List.drop_eq_getElem_cons h']; simp [List.getD, List.getElem?_eq_getElem h']
      have ej : joinL (ls.drop i) = frameL (ls.getD i []) ++ joinL (ls.drop (i + 1)) := by rw [ed]; simp [joinL]
      rw [ej] at i1 i2
      obtain ⟨k1, k2, k3⟩ := (firK_cut (ls.getD i []) (joinL (ls.drop (i + 1))) ((cutI ls c).toNat - (joinL (ls.take i)).length) (hx' _ (getD_mem h'))).2 (by omega)
      have edr : ((frameL (ls.getD i []) ++ joinL (ls.drop (i + 1))).take ((cutI ls c).toNat - (joinL (ls.take i)).length)).drop (frameL (ls.getD i [])).length = (joinL (ls.drop (i + 1))).take ((cutI ls c).toNat - (joinL (ls.take (i + 1))).length) := by
        rw [List.drop_take, List.drop_left' rfl]; congr 1; omega
      rw [scanR_yes k1, k2, k3, edr] at i1
      rw [scanG_yes k1, k3, edr] at i2
      refine ⟨?_, ?_⟩
      · rw [i1, take_snoc [] ls h']; simp
      · rw [i2]; omega
  intro i hi
  obtain ⟨hi1, hi2⟩ := hi
  obtain ⟨m1, m2⟩ := main i hi1 hi2
  refine cond_prop (fun g => ?_) fun g => ?_
  · have h' : i < ls.length := by simpa using g
    have hxi := hx _ (getD_mem h')
    have es : joinL (ls.take (i + 1)) = joinL (ls.take i) ++ frameL (ls.getD i []) := by rw [take_snoc [] ls h', join_snoc]
    have el : (joinL (ls.take (i + 1))).length = (joinL (ls.take i)).length + (frameL (ls.getD i [])).length := by rw [es, List.length_append]
    have hf := (frame_short (hx' _ (getD_mem h'))).2.2
    have ed : ls.drop i = ls.getD i [] :: ls.drop (i + 1) := by
      rw [List.drop_eq_getElem_cons h']; simp [List.getD, List.getElem?_eq_getElem h']
    have ej : joinL (ls.drop i) = frameL (ls.getD i []) ++ joinL (ls.drop (i + 1)) := by rw [ed]; simp [joinL]
    have ht : (ls.take i).length = i := by rw [List.length_take]; omega
    rw [rd_rec h', bytesL_bytesAV, length_bytesAV, size_frame (hx' _ (getD_mem h')), wrap_i64 (n := ((joinL (ls.take i)).length : Int) + ((frameL (ls.getD i [])).length : Int)) (by omega) (by omega)]
    refine ⟨⟨by omega, by omega, okElem_rec h'⟩, okRead_rec h', by omega, cond_prop (fun g2 => ?_) fun g2 => ?_⟩
    · have g2' : (cutI ls c).toNat - (joinL (ls.take i)).length < (frameL (ls.getD i [])).length := by have := of_decide_eq_true g2; omega
      have kn := (firK_cut (ls.getD i []) (joinL (ls.drop (i + 1))) _ (hx' _ (getD_mem h'))).1 g2'
      rw [ej] at m1 m2
      rw [scanR_no kn, List.append_nil] at m1
      rw [scanG_no kn] at m2
      rw [m1, m2, ht]
      refine cond_prop (fun _ => by simp) fun g3 => by simp at g3
    · have g2' : (frameL (ls.getD i [])).length ≤ (cutI ls c).toNat - (joinL (ls.take i)).length := by have := of_decide_eq_false g2; omega
      obtain ⟨k1, k2, k3⟩ := (firK_cut (ls.getD i []) (joinL (ls.drop (i + 1))) _ (hx' _ (getD_mem h'))).2 g2'
      rw [ej, scanR_yes k1, k2] at m1
      have hlen : i < (scanR (cutJ ls c)).length := by rw [m1]; simp [ht]
      have hget : (scanR (cutJ ls c)).getD i [] = ls.getD i [] := by
        rw [m1]
        simp [List.getD, ht]
      rw [rd_rec hlen, bytesL_bytesAV, length_bytesAV, hget]
      refine cond_prop (fun g3 => ?_) fun g3 => ⟨⟨by omega, by omega, okElem_rec hlen⟩, okRead_rec hlen, ⟨⟨isBytes_bytesAV _, by omega⟩, isBytes_bytesAV _, by omega⟩, cond_prop (fun g => by simp at g) fun _ => ⟨(i + 1 : Nat), ⟨?_, ?_⟩, ⟨by omega, ?_⟩, by omega⟩⟩
      · exfalso; simp at g3; omega
      · rw [el]; rfl
      · rw [wrap_i64 (by omega) (by omega)]; rfl
      · rw [el]; omega
  · have h' : i = ls.length := by simp at g; omega
    subst h'
    rw [List.take_length] at m1 m2 hi2
    have : (joinL (ls.drop ls.length)).take ((cutI ls c).toNat - (joinL ls).length) = [] := by rw [List.drop_length]; simp [joinL]
    rw [this] at m1 m2
    have kn : firK [] = false := by decide
    rw [scanR_no kn, List.append_nil] at m1
    rw [scanG_no kn] at m2
    rw [m1, m2]
    refine cond_prop (fun _ => by simp) fun g3 => by simp at g3
end Go.Proofs.Ytddilmocngedjaa
/- The contracts are met. -/
namespace Go.Proofs.Ytddilmocngedjaa
set_option linter.unusedVariables false
set_option linter.unusedSimpArgs false
open Go.RowKit
theorem sndFirst : Sound Try.prog (lookΓ gamFirst) := sound_of _ fun p hp => by
  simp only [gamFirst, List.mem_cons, List.not_mem_nil, or_false] at hp
  rcases hp with rfl | rfl
  · exact meetsReadShort.orNil
  · exact meetsOpen.orNil
set_option maxHeartbeats 4000000 in
theorem meetsFirst : Meets Try.prog 46 firstF := by
  refine meets_of_awp (Γ := lookΓ gamFirst) (L := fun _ _ => none) sndFirst mixedOrders Try.func46 rfl Try.call46 ?_
  intro args q r hF hq ho
  unfold firstF at hF
  split at hF
  · cases hF
    exact ⟨by simp only [List.length_cons, List.length_nil]; decide, okFirst0 _ hq⟩
  · cases hF
theorem sndScan : Sound Try.prog (lookΓ gamScan) := sound_of _ fun p hp => by
  simp only [gamScan, List.mem_cons, List.not_mem_nil, or_false] at hp
  subst hp
  exact meetsFirst.orNil
set_option maxHeartbeats 4000000 in
theorem meetsScan : Meets Try.prog 28 scanF := by
  refine meets_of_awp (Γ := lookΓ gamScan) (L := fun args => match args with | [.val (.sl xs .no)] => lpScan0 xs | _ => fun _ => none) sndScan mixedOrders Try.func28 rfl Try.call28 ?_
  intro args q r hF hq ho
  unfold scanF at hF
  split at hF
  · cases hF
    exact ⟨by simp only [List.length_cons, List.length_nil]; decide, okScan0 _ hq⟩
  · cases hF
theorem sndRefScan : Sound Try.prog (lookΓ gamRefScan) := sound_of _ fun p hp => by
  simp only [gamRefScan, List.mem_cons, List.not_mem_nil, or_false] at hp
  rcases hp with rfl | rfl | rfl
  · exact meetsRefReadShort.orNil
  · exact meetsRefFrame.orNil
  · exact meetsSameD.orNil
set_option maxHeartbeats 4000000 in
theorem meetsRefScan : Meets Try.prog 29 refScanF := by
  refine meets_of_awp (Γ := lookΓ gamRefScan) (L := fun args => match args with | [.val (.sl xs .no)] => lpRefScan0 xs | _ => fun _ => none) sndRefScan mixedOrders Try.func29 rfl Try.call29 ?_
  intro args q r hF hq ho
  unfold refScanF at hF
  split at hF
  · cases hF
    exact ⟨by simp only [List.length_cons, List.length_nil]; decide, okRefScan0 _ hq⟩
  · cases hF
theorem sndJoin : Sound Try.prog (lookΓ gamJoin) := sound_of _ fun p hp => by
  simp only [gamJoin, List.mem_cons, List.not_mem_nil, or_false] at hp
  subst hp
  exact meetsFrame.orNil
set_option maxHeartbeats 4000000 in
theorem meetsJoin : Meets Try.prog 30 joinF := by
  refine meets_of_awp (Γ := lookΓ gamJoin) (L := fun args => match args with | [.val (.sl ps .no)] => lpJoin0 ps | _ => fun _ => none) sndJoin mixedOrders Try.func30 rfl Try.call30 ?_
  intro args q r hF hq ho
  unfold joinF at hF
  split at hF
  · cases hF
    exact ⟨by simp only [List.length_cons, List.length_nil]; decide, okJoin0 _ hq⟩
  · cases hF
theorem sndSmall14 : Sound Try.prog (lookΓ gamSmall14) := sound_of _ fun p hp => by
  simp [gamSmall14] at hp
set_option maxHeartbeats 4000000 in
theorem meetsSmall14 : Meets Try.prog 31 small14F := by
  refine meets_of_awp (Γ := lookΓ gamSmall14) (L := fun args => match args with | [.val (.sl ps .no)] => lpSmall140 ps | _ => fun _ => none) sndSmall14 mixedOrders Try.func31 rfl Try.call31 ?_
  intro args q r hF hq ho
  unfold small14F at hF
  split at hF
  · cases hF
    exact ⟨by simp only [List.length_cons, List.length_nil]; decide, okSmall140 _ hq⟩
  · cases hF
theorem sndLawScans : Sound Try.prog (lookΓ gamLawScans) := sound_of _ fun p hp => by
  simp only [gamLawScans, List.mem_cons, List.not_mem_nil, or_false] at hp
  rcases hp with rfl | rfl | rfl | rfl | rfl
  · exact meetsAnchor14.orNil
  · exact meetsScan.orNil
  · exact meetsRefScan.orNil
  · exact meetsSameD.orNil
  · exact meetsJoin.orNil
set_option maxHeartbeats 4000000 in
theorem meetsLawScans : Meets Try.prog 6 lawScansF := by
  refine meets_of_awp (Γ := lookΓ gamLawScans) (L := fun args => match args with | [.val (.sl xs .no)] => lpLawScans0 xs | _ => fun _ => none) sndLawScans mixedOrders Try.func6 rfl Try.call6 ?_
  intro args q r hF hq ho
  unfold lawScansF at hF
  split at hF
  · cases hF
    exact ⟨by simp only [List.length_cons, List.length_nil]; decide, okLawScans0 _ hq⟩
  · cases hF
theorem sndLawTears : Sound Try.prog (lookΓ gamLawTears) := sound_of _ fun p hp => by
  simp only [gamLawTears, List.mem_cons, List.not_mem_nil, or_false] at hp
  rcases hp with rfl | rfl | rfl | rfl | rfl | rfl
  · exact meetsAnchor14.orNil
  · exact meetsSmall14.orNil
  · exact meetsJoin.orNil
  · exact meetsScan.orNil
  · exact meetsSize.orNil
  · exact meetsSameD.orNil
set_option maxHeartbeats 4000000 in
theorem meetsLawTears : Meets Try.prog 8 lawTearsF := by
  refine meets_of_awp (Γ := lookΓ gamLawTears) (L := fun args => match args with | [.val (.sl ps .no), .val (.int .i64 c)] => lpLawTears0 ps c | _ => fun _ => none) sndLawTears mixedOrders Try.func8 rfl Try.call8 ?_
  intro args q r hF hq ho
  unfold lawTearsF at hF
  split at hF
  · cases hF
    exact ⟨by simp only [List.length_cons, List.length_nil]; decide, okLawTears0 _ _ hq (okay_i64 (argI 1 ho rfl rfl))⟩
  · cases hF
end Go.Proofs.Ytddilmocngedjaa
