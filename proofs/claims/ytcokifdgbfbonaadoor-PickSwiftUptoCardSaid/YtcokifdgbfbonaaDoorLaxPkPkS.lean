/- Contracts by content, their conditions, and that they are met: PkS. -/
import Derived.Test.YtcokifdgbfbonaaDoorLaxPkPkL
/- Contracts by content, and the conditions that their code must meet. -/
namespace Go.Proofs.YtcokifdgbfbonaaDoor
set_option linter.unusedVariables false
set_option linter.unusedSimpArgs false
open Go.RowKit
/-- what a replica tells that went along, or that knows something else -/
def wV (x : InstP) (vs : Int) (os : List AV) (r : Nat) : InstP :=
  if hasS vs r = true then x
  else if r < os.length ∧ rightI (instV (elemAt os r)) = true ∧ (instV (elemAt os r)).r = x.r ∧ (instV (elemAt os r)).sl = x.sl ∧ ((instV (elemAt os r)).same = false ∨ alikeI (instV (elemAt os r)) x = true) ∧ (instV (elemAt os r)).c.path.length ≤ 100 then instV (elemAt os r)
  else newI x.r x.sl
def toldsW (m : Int) (x : InstP) (vs : Int) (os : List AV) (i : Nat) : List AV := ((listS m).take i).map fun r => toldE (r : Nat) (wV x vs os r)
def loopSwift21 (n : Int) (x : InstP) (vs : Int) (os : List AV) (m : Int) : LoopInv :=
  { V := Nat
    T := fun i => [(0, .int .i64 n), (2, .int .u8 vs), (3, .sl os .no), (6, .ptr 6 0), (11, .sl (toldsW m x vs os i) (.row 11 0 68)), (76, .sl (natsAV (listS m)) .no), (77, .int .i64 ((listS m).length : Int)), (78, .int .i64 (i : Int))]
    B := fun i => [(6, instL x)]
    R := fun i => [((11, 0), (toldsW m x vs os i).length)]
    inv := fun i => i ≤ (listS m).length
    mu := fun i => (listS m).length - i }
def lawSwift21F : Con
  | [.val (.int .i64 n), .val (.agg zcx), .val (.int .u8 voted), .val (.sl os .no), .val (.int .u8 maj)] => (match instOf zcx with | some x => some (smallX x ∧ isInsts os ∧ os.length ≤ 9223372036854775807, ⟨.bool true, none, none⟩) | _ => none)
  | _ => none
def gamLawSwift21 : List (Nat × Con) := [(35, anchor21F.orNil), (36, crewRightF.orNil), (26, irightF.orNil), (38, allCF.orNil), (37, meetCF.orNil), (45, withCF.orNil), (46, withoutCF.orNil), (39, countCF.orNil), (47, crewFastF.orNil), (40, crewMajF.orNil), (41, listCF.orNil), (42, hasCF.orNil), (43, inewF.orNil), (34, alikeF.orNil), (44, choose2F.orNil)]
def lpLawSwift210 (n : Int) (x : InstP) (voted : Int) (os : List AV) (maj : Int) : Nat → Option LoopPlan := fun b => bif Nat.beq b 0 then some (.inv [.nilT 11 11 0 68] (loopSwift21 n x (withS (meetS voted (allS n)) x.r) os (withoutS (meetS maj (allS n)) x.r))) else none
def inLawSwift210 (n : Int) (x : InstP) (voted : Int) (os : List AV) (maj : Int) : Prop := awp [] (lpLawSwift210 n x voted os maj) (lookΓ gamLawSwift21) Tryd.prog Tryd.f9.ntmps 0 (Tryd.f9.body.getD .skip) (entrySt [.val (.int .i64 n), .val (.agg (instL x)), .val (.int .u8 voted), .val (.sl os .no), .val (.int .u8 maj)]) (exitQ Tryd.prog Tryd.f9.results.toList [] ⟨.bool true, none, none⟩)
def OkLawSwift210 : Prop := ∀ (n : Int) (x : InstP) (voted : Int) (os : List AV) (maj : Int), smallX x ∧ isInsts os ∧ os.length ≤ 9223372036854775807 → (0 ≤ voted ∧ voted ≤ 255) → (0 ≤ maj ∧ maj ≤ 255) → inLawSwift210 n x voted os maj
end Go.Proofs.YtcokifdgbfbonaaDoor
/- What the verification conditions come to: printed by a program of ours (wip/lax/ex/Norm.lean). -/
namespace Go.Proofs.YtcokifdgbfbonaaDoor
set_option linter.unusedVariables false
open Go.RowKit
set_option maxRecDepth 100000
theorem vcLawSwift210 (n : Int) (x : InstP) (voted : Int) (os : (@List.{0} AV)) (maj : Int) (h : (tt ∧ T1 ∧ T1 ∧ tt ∧ (T1 ∧ True) ∧ T1 ∧ tt ∧ T1 ∧ (T1 ∧ True) ∧ T1 ∧ T1 ∧ (bif (Bool.not (rightN n)) then (tt ∧ T1 ∧ tt ∧ T1 ∧ tt ∧ T1 ∧ tt ∧ tt ∧ T1 ∧ tt ∧ tt ∧ (tt ∧ True) ∧ tt) else (tt ∧ (T1 ∧ (smallX x)) ∧ T1 ∧ T1 ∧ T1 ∧ (bif (Bool.not (rightI x)) then (tt ∧ T1 ∧ tt ∧ T1 ∧ tt ∧ tt ∧ T1 ∧ tt ∧ tt ∧ (tt ∧ True) ∧ tt) else (T1 ∧ tt ∧ T1 ∧ T1 ∧ T1 ∧ (bif (Bool.not (InstP.same x)) then (tt ∧ T1 ∧ tt ∧ tt ∧ T1 ∧ tt ∧ tt ∧ (tt ∧ True) ∧ tt) else (T1 ∧ T1 ∧ tt ∧ T1 ∧ T1 ∧ T1 ∧ T1 ∧ (bif (decide (n ≤ (InstP.r x))) then (tt ∧ tt ∧ T1 ∧ tt ∧ tt ∧ (tt ∧ True) ∧ tt) else (T1 ∧ T1 ∧ tt ∧ T1 ∧ T1 ∧ T1 ∧ (bif (decide ((100 : Int) < (@Nat.cast Int _ (List.length (CmdP.path (InstP.c x)))))) then (tt ∧ T1 ∧ tt ∧ tt ∧ (tt ∧ True) ∧ tt) else (tt ∧ T1 ∧ T1 ∧ (T1 ∧ ((rightN n) = true)) ∧ (∀ (v0 : Int), (∀ (v1 : (v0 = (allS n))), ((T1 ∧ True) ∧ (∀ (v2 : Int), (∀ (v3 : (v2 = (meetS voted v0))), (T1 ∧ T1 ∧ tt ∧ (T1 ∧ True) ∧ (∀ (v4 : Int), (∀ (v5 : (v4 = (withS v2 (InstP.r x)))), (T1 ∧ T1 ∧ (T1 ∧ ((rightN n) = true)) ∧ (∀ (v6 : Int), (∀ (v7 : (v6 = (allS n))), ((T1 ∧ True) ∧ (∀ (v8 : Int), (∀ (v9 : (v8 = (meetS maj v6))), (T1 ∧ T1 ∧ tt ∧ (T1 ∧ True) ∧ (∀ (v10 : Int), (∀ (v11 : (v10 = (withoutS v8 (InstP.r x)))), (T1 ∧ T1 ∧ tt ∧ tt ∧ T1 ∧ (T1 ∧ True) ∧ (∀ (v12 : Int), (∀ (v13 : (v12 = (@Nat.cast Int _ (cntS v4)))), (T1 ∧ (T1 ∧ ((rightN n) = true)) ∧ (∀ (v14 : Int), (∀ (v15 : (v14 = ((2 : Int) * (fN n)))), (T1 ∧ T1 ∧ (bif (decide (v12 < v14)) then (tt ∧ tt ∧ T1 ∧ tt ∧ tt ∧ (tt ∧ True) ∧ tt) else (T1 ∧ (T1 ∧ True) ∧ (∀ (v16 : Int), (∀ (v17 : (v16 = (@Nat.cast Int _ (cntS v10)))), (T1 ∧ (T1 ∧ ((rightN n) = true)) ∧ (∀ (v18 : Int), (∀ (v19 : (v18 = ((fN n) + (1 : Int)))), (T1 ∧ T1 ∧ (bif (decide (v16 < v18)) then (tt ∧ T1 ∧ tt ∧ tt ∧ (tt ∧ True) ∧ tt) else (tt ∧ T1 ∧ tt ∧ T1 ∧ (T1 ∧ True) ∧ (∀ (v20 : (@List.{0} AV)), (∀ (v21 : (v20 = (natsAV (listS v10)))), (T1 ∧ T1 ∧ (@Exists.{1} (LoopInv.V (loopSwift21 n x (withS (meetS voted (allS n)) (InstP.r x)) os (withoutS (meetS maj (allS n)) (InstP.r x)))) (fun (v22 : Nat) => (((((AV.int Go.IntKind.i64 n) = (AV.int Go.IntKind.i64 n)) ∧ ((AV.int Go.IntKind.u8 v4) = (AV.int Go.IntKind.u8 (withS (meetS voted (allS n)) (InstP.r x)))) ∧ ((AV.sl os Own.no) = (AV.sl os Own.no)) ∧ ((AV.ptr 6 0) = (AV.ptr 6 0)) ∧ ((AV.sl (@List.nil.{0} AV) (Own.row 11 0 68)) = (AV.sl (toldsW (withoutS (meetS maj (allS n)) (InstP.r x)) x (withS (meetS voted (allS n)) (InstP.r x)) os v22) (Own.row 11 0 68))) ∧ ((AV.sl v20 Own.no) = (AV.sl (natsAV (listS (withoutS (meetS maj (allS n)) (InstP.r x)))) Own.no)) ∧ ((AV.int Go.IntKind.i64 (@Nat.cast Int _ (List.length v20))) = (AV.int Go.IntKind.i64 (@Nat.cast Int _ (List.length (listS (withoutS (meetS maj (allS n)) (InstP.r x))))))) ∧ ((AV.int Go.IntKind.i64 (0 : Int)) = (AV.int Go.IntKind.i64 (@Nat.cast Int _ v22))) ∧ True) ∧ (((@Option.some.{0} (@List.{0} AV) (instL x)) = (@Option.some.{0} (@List.{0} AV) (instL x))) ∧ True) ∧ ((@Eq.{1} Nat 0 (List.length (toldsW (withoutS (meetS maj (allS n)) (InstP.r x)) x (withS (meetS voted (allS n)) (InstP.r x)) os v22))) ∧ True) ∧ tt ∧ tt) ∧ (v22 ≤ (List.length (listS (withoutS (meetS maj (allS n)) (InstP.r x)))))))) ∧ (∀ (v22 : Nat), (∀ (v23 : (v22 ≤ (List.length (listS (withoutS (meetS maj (allS n)) (InstP.r x)))))), (tt ∧ T1 ∧ (bif (decide ((@Nat.cast Int _ v22) < (@Nat.cast Int _ (List.length (listS (withoutS (meetS maj (allS n)) (InstP.r x))))))) then (tt ∧ (((0 : Int) ≤ (@Nat.cast Int _ v22)) ∧ ((@Nat.cast Int _ v22) < (@Nat.cast Int _ (List.length (natsAV (listS (withoutS (meetS maj (allS n)) (InstP.r x))))))) ∧ (okElem 1 (natsAV (listS (withoutS (meetS maj (allS n)) (InstP.r x)))) (Int.toNat (@Nat.cast Int _ v22)))) ∧ (okRead [(Kd.int Go.IntKind.i64)] (elemAt (natsAV (listS (withoutS (meetS maj (allS n)) (InstP.r x)))) (Int.toNat (@Nat.cast Int _ v22))) 0) ∧ T1 ∧ tt ∧ tt ∧ T1 ∧ tt ∧ tt ∧ T1 ∧ T1 ∧ (T1 ∧ True) ∧ T1 ∧ (bif (Bool.not (hasS (withS (meetS voted (allS n)) (InstP.r x)) (rdInt (elemAt (natsAV (listS (withoutS (meetS maj (allS n)) (InstP.r x)))) (Int.toNat (@Nat.cast Int _ v22))) 0))) then (tt ∧ T1 ∧ tt ∧ (T1 ∧ True) ∧ tt ∧ tt ∧ T1 ∧ T1 ∧ T1 ∧ T1 ∧ T1 ∧ (bif (decide ((rdInt (elemAt (natsAV (listS (withoutS (meetS maj (allS n)) (InstP.r x)))) (Int.toNat (@Nat.cast Int _ v22))) 0) < (@Nat.cast Int _ (List.length os)))) then (T1 ∧ T1 ∧ (((0 : Int) ≤ (rdInt (elemAt (natsAV (listS (withoutS (meetS maj (allS n)) (InstP.r x)))) (Int.toNat (@Nat.cast Int _ v22))) 0)) ∧ ((rdInt (elemAt (natsAV (listS (withoutS (meetS maj (allS n)) (InstP.r x)))) (Int.toNat (@Nat.cast Int _ v22))) 0) < (@Nat.cast Int _ (List.length os))) ∧ (okElem 22 os (Int.toNat (rdInt (elemAt (natsAV (listS (withoutS (meetS maj (allS n)) (InstP.r x)))) (Int.toNat (@Nat.cast Int _ v22))) 0)))) ∧ (okRead [(Kd.int Go.IntKind.i64), (Kd.int Go.IntKind.i64), (Kd.int Go.IntKind.i64), (Kd.int Go.IntKind.u32), (Kd.int Go.IntKind.u32), Kd.bool, (Kd.int Go.IntKind.i64), (Kd.int Go.IntKind.u64), Kd.str, (Kd.int Go.IntKind.u64), Kd.str, (Kd.int Go.IntKind.i64), (Kd.int Go.IntKind.u64), (Kd.int Go.IntKind.i64), (Kd.int Go.IntKind.i64), (Kd.int Go.IntKind.i64), (Kd.int Go.IntKind.i64), (Kd.int Go.IntKind.i64), (Kd.int Go.IntKind.i64), (Kd.int Go.IntKind.i64), (Kd.int Go.IntKind.i64), (Kd.int Go.IntKind.i64)] (elemAt os (Int.toNat (rdInt (elemAt (natsAV (listS (withoutS (meetS maj (allS n)) (InstP.r x)))) (Int.toNat (@Nat.cast Int _ v22))) 0))) 0) ∧ (T1 ∧ (smallX (instV (elemAt os (Int.toNat (rdInt (elemAt (natsAV (listS (withoutS (meetS maj (allS n)) (InstP.r x)))) (Int.toNat (@Nat.cast Int _ v22))) 0)))))) ∧ T1 ∧ T1 ∧ (bif (rightI (instV (elemAt os (Int.toNat (rdInt (elemAt (natsAV (listS (withoutS (meetS maj (allS n)) (InstP.r x)))) (Int.toNat (@Nat.cast Int _ v22))) 0))))) then (T1 ∧ T1 ∧ (((0 : Int) ≤ (rdInt (elemAt (natsAV (listS (withoutS (meetS maj (allS n)) (InstP.r x)))) (Int.toNat (@Nat.cast Int _ v22))) 0)) ∧ ((rdInt (elemAt (natsAV (listS (withoutS (meetS maj (allS n)) (InstP.r x)))) (Int.toNat (@Nat.cast Int _ v22))) 0) < (@Nat.cast Int _ (List.length os))) ∧ (okElem 22 os (Int.toNat (rdInt (elemAt (natsAV (listS (withoutS (meetS maj (allS n)) (InstP.r x)))) (Int.toNat (@Nat.cast Int _ v22))) 0)))) ∧ T1 ∧ (okRead [(Kd.int Go.IntKind.i64), (Kd.int Go.IntKind.i64)] (elemAt os (Int.toNat (rdInt (elemAt (natsAV (listS (withoutS (meetS maj (allS n)) (InstP.r x)))) (Int.toNat (@Nat.cast Int _ v22))) 0))) 0) ∧ T1 ∧ tt ∧ T1 ∧ T1 ∧ T1 ∧ (bif (Bool.and ((InstP.r (instV (elemAt os (Int.toNat (rdInt (elemAt (natsAV (listS (withoutS (meetS maj (allS n)) (InstP.r x)))) (Int.toNat (@Nat.cast Int _ v22))) 0))))) == (InstP.r x)) (Bool.and ((InstP.sl (instV (elemAt os (Int.toNat (rdInt (elemAt (natsAV (listS (withoutS (meetS maj (allS n)) (InstP.r x)))) (Int.toNat (@Nat.cast Int _ v22))) 0))))) == (InstP.sl x)) true)) then (T1 ∧ T1 ∧ (((0 : Int) ≤ (rdInt (elemAt (natsAV (listS (withoutS (meetS maj (allS n)) (InstP.r x)))) (Int.toNat (@Nat.cast Int _ v22))) 0)) ∧ ((rdInt (elemAt (natsAV (listS (withoutS (meetS maj (allS n)) (InstP.r x)))) (Int.toNat (@Nat.cast Int _ v22))) 0) < (@Nat.cast Int _ (List.length os))) ∧ (okElem 22 os (Int.toNat (rdInt (elemAt (natsAV (listS (withoutS (meetS maj (allS n)) (InstP.r x)))) (Int.toNat (@Nat.cast Int _ v22))) 0)))) ∧ T1 ∧ (okRead [Kd.bool] (elemAt os (Int.toNat (rdInt (elemAt (natsAV (listS (withoutS (meetS maj (allS n)) (InstP.r x)))) (Int.toNat (@Nat.cast Int _ v22))) 0))) 5) ∧ T1 ∧ T1 ∧ (bif (Bool.not (InstP.same (instV (elemAt os (Int.toNat (rdInt (elemAt (natsAV (listS (withoutS (meetS maj (allS n)) (InstP.r x)))) (Int.toNat (@Nat.cast Int _ v22))) 0)))))) then (tt ∧ T1 ∧ T1 ∧ T1 ∧ T1 ∧ (((0 : Int) ≤ (rdInt (elemAt (natsAV (listS (withoutS (meetS maj (allS n)) (InstP.r x)))) (Int.toNat (@Nat.cast Int _ v22))) 0)) ∧ ((rdInt (elemAt (natsAV (listS (withoutS (meetS maj (allS n)) (InstP.r x)))) (Int.toNat (@Nat.cast Int _ v22))) 0) < (@Nat.cast Int _ (List.length os))) ∧ (okElem 22 os (Int.toNat (rdInt (elemAt (natsAV (listS (withoutS (meetS maj (allS n)) (InstP.r x)))) (Int.toNat (@Nat.cast Int _ v22))) 0)))) ∧ T1 ∧ T1 ∧ (okRead [Kd.str] (elemAt os (Int.toNat (rdInt (elemAt (natsAV (listS (withoutS (meetS maj (allS n)) (InstP.r x)))) (Int.toNat (@Nat.cast Int _ v22))) 0))) 10) ∧ T1 ∧ T1 ∧ T1 ∧ tt ∧ (bif (decide ((@Nat.cast Int _ (List.length (CmdP.path (InstP.c (instV (elemAt os (Int.toNat (rdInt (elemAt (natsAV (listS (withoutS (meetS maj (allS n)) (InstP.r x)))) (Int.toNat (@Nat.cast Int _ v22))) 0)))))))) ≤ (100 : Int))) then (tt ∧ T1 ∧ T1 ∧ (((0 : Int) ≤ (rdInt (elemAt (natsAV (listS (withoutS (meetS maj (allS n)) (InstP.r x)))) (Int.toNat (@Nat.cast Int _ v22))) 0)) ∧ ((rdInt (elemAt (natsAV (listS (withoutS (meetS maj (allS n)) (InstP.r x)))) (Int.toNat (@Nat.cast Int _ v22))) 0) < (@Nat.cast Int _ (List.length os))) ∧ (okElem 22 os (Int.toNat (rdInt (elemAt (natsAV (listS (withoutS (meetS maj (allS n)) (InstP.r x)))) (Int.toNat (@Nat.cast Int _ v22))) 0)))) ∧ (okRead [(Kd.int Go.IntKind.i64), (Kd.int Go.IntKind.i64), (Kd.int Go.IntKind.i64), (Kd.int Go.IntKind.u32), (Kd.int Go.IntKind.u32), Kd.bool, (Kd.int Go.IntKind.i64), (Kd.int Go.IntKind.u64), Kd.str, (Kd.int Go.IntKind.u64), Kd.str, (Kd.int Go.IntKind.i64), (Kd.int Go.IntKind.u64), (Kd.int Go.IntKind.i64), (Kd.int Go.IntKind.i64), (Kd.int Go.IntKind.i64), (Kd.int Go.IntKind.i64), (Kd.int Go.IntKind.i64), (Kd.int Go.IntKind.i64), (Kd.int Go.IntKind.i64), (Kd.int Go.IntKind.i64), (Kd.int Go.IntKind.i64)] (elemAt os (Int.toNat (rdInt (elemAt (natsAV (listS (withoutS (meetS maj (allS n)) (InstP.r x)))) (Int.toNat (@Nat.cast Int _ v22))) 0))) 0) ∧ tt ∧ tt ∧ T1 ∧ T1 ∧ tt ∧ T1 ∧ T1 ∧ (((List.length (toldsW (withoutS (meetS maj (allS n)) (InstP.r x)) x (withS (meetS voted (allS n)) (InstP.r x)) os v22)) = (List.length (toldsW (withoutS (meetS maj (allS n)) (InstP.r x)) x (withS (meetS voted (allS n)) (InstP.r x)) os v22))) ∧ ((((List.length (toldsW (withoutS (meetS maj (allS n)) (InstP.r x)) x (withS (meetS voted (allS n)) (InstP.r x)) os v22)) + 1) * 192) ≤ 140737488355328) ∧ (((List.length (toldsW (withoutS (meetS maj (allS n)) (InstP.r x)) x (withS (meetS voted (allS n)) (InstP.r x)) os v22)) + 1) ≤ 9223372036854775807) ∧ (okWidth 23 (toldsW (withoutS (meetS maj (allS n)) (InstP.r x)) x (withS (meetS voted (allS n)) (InstP.r x)) os v22)) ∧ (okWidth 23 [(toldE (rdInt (elemAt (natsAV (listS (withoutS (meetS maj (allS n)) (InstP.r x)))) (Int.toNat (@Nat.cast Int _ v22))) 0) (instV (elemAt os (Int.toNat (rdInt (elemAt (natsAV (listS (withoutS (meetS maj (allS n)) (InstP.r x)))) (Int.toNat (@Nat.cast Int _ v22))) 0)))))])) ∧ T1 ∧ tt ∧ T1 ∧ T1 ∧ (@Exists.{1} (LoopInv.V (loopSwift21 n x (withS (meetS voted (allS n)) (InstP.r x)) os (withoutS (meetS maj (allS n)) (InstP.r x)))) (fun (v24 : Nat) => (((((AV.int Go.IntKind.i64 n) = (AV.int Go.IntKind.i64 n)) ∧ ((AV.int Go.IntKind.u8 (withS (meetS voted (allS n)) (InstP.r x))) = (AV.int Go.IntKind.u8 (withS (meetS voted (allS n)) (InstP.r x)))) ∧ ((AV.sl os Own.no) = (AV.sl os Own.no)) ∧ ((AV.ptr 6 0) = (AV.ptr 6 0)) ∧ ((AV.sl (@catL AV (toldsW (withoutS (meetS maj (allS n)) (InstP.r x)) x (withS (meetS voted (allS n)) (InstP.r x)) os v22) [(toldE (rdInt (elemAt (natsAV (listS (withoutS (meetS maj (allS n)) (InstP.r x)))) (Int.toNat (@Nat.cast Int _ v22))) 0) (instV (elemAt os (Int.toNat (rdInt (elemAt (natsAV (listS (withoutS (meetS maj (allS n)) (InstP.r x)))) (Int.toNat (@Nat.cast Int _ v22))) 0)))))]) (Own.row 11 0 68)) = (AV.sl (toldsW (withoutS (meetS maj (allS n)) (InstP.r x)) x (withS (meetS voted (allS n)) (InstP.r x)) os v24) (Own.row 11 0 68))) ∧ ((AV.sl (natsAV (listS (withoutS (meetS maj (allS n)) (InstP.r x)))) Own.no) = (AV.sl (natsAV (listS (withoutS (meetS maj (allS n)) (InstP.r x)))) Own.no)) ∧ ((AV.int Go.IntKind.i64 (@Nat.cast Int _ (List.length (listS (withoutS (meetS maj (allS n)) (InstP.r x)))))) = (AV.int Go.IntKind.i64 (@Nat.cast Int _ (List.length (listS (withoutS (meetS maj (allS n)) (InstP.r x))))))) ∧ ((AV.int Go.IntKind.i64 (Go.IntKind.wrap Go.IntKind.i64 ((@Nat.cast Int _ v22) + (1 : Int)))) = (AV.int Go.IntKind.i64 (@Nat.cast Int _ v24))) ∧ True) ∧ (((@Option.some.{0} (@List.{0} AV) (instL x)) = (@Option.some.{0} (@List.{0} AV) (instL x))) ∧ True) ∧ ((((List.length (toldsW (withoutS (meetS maj (allS n)) (InstP.r x)) x (withS (meetS voted (allS n)) (InstP.r x)) os v22)) + 1) = (List.length (toldsW (withoutS (meetS maj (allS n)) (InstP.r x)) x (withS (meetS voted (allS n)) (InstP.r x)) os v24))) ∧ True) ∧ tt ∧ tt) ∧ (v24 ≤ (List.length (listS (withoutS (meetS maj (allS n)) (InstP.r x))))) ∧ (((List.length (listS (withoutS (meetS maj (allS n)) (InstP.r x)))) - v24) < ((List.length (listS (withoutS (meetS maj (allS n)) (InstP.r x)))) - v22)))))) else (tt ∧ T1 ∧ T1 ∧ tt ∧ T1 ∧ T1 ∧ (((List.length (toldsW (withoutS (meetS maj (allS n)) (InstP.r x)) x (withS (meetS voted (allS n)) (InstP.r x)) os v22)) = (List.length (toldsW (withoutS (meetS maj (allS n)) (InstP.r x)) x (withS (meetS voted (allS n)) (InstP.r x)) os v22))) ∧ ((((List.length (toldsW (withoutS (meetS maj (allS n)) (InstP.r x)) x (withS (meetS voted (allS n)) (InstP.r x)) os v22)) + 1) * 192) ≤ 140737488355328) ∧ (((List.length (toldsW (withoutS (meetS maj (allS n)) (InstP.r x)) x (withS (meetS voted (allS n)) (InstP.r x)) os v22)) + 1) ≤ 9223372036854775807) ∧ (okWidth 23 (toldsW (withoutS (meetS maj (allS n)) (InstP.r x)) x (withS (meetS voted (allS n)) (InstP.r x)) os v22)) ∧ (okWidth 23 [(toldE (rdInt (elemAt (natsAV (listS (withoutS (meetS maj (allS n)) (InstP.r x)))) (Int.toNat (@Nat.cast Int _ v22))) 0) (newI (InstP.r x) (InstP.sl x)))])) ∧ T1 ∧ tt ∧ T1 ∧ T1 ∧ (@Exists.{1} (LoopInv.V (loopSwift21 n x (withS (meetS voted (allS n)) (InstP.r x)) os (withoutS (meetS maj (allS n)) (InstP.r x)))) (fun (v24 : Nat) => (((((AV.int Go.IntKind.i64 n) = (AV.int Go.IntKind.i64 n)) ∧ ((AV.int Go.IntKind.u8 (withS (meetS voted (allS n)) (InstP.r x))) = (AV.int Go.IntKind.u8 (withS (meetS voted (allS n)) (InstP.r x)))) ∧ ((AV.sl os Own.no) = (AV.sl os Own.no)) ∧ ((AV.ptr 6 0) = (AV.ptr 6 0)) ∧ ((AV.sl (@catL AV (toldsW (withoutS (meetS maj (allS n)) (InstP.r x)) x (withS (meetS voted (allS n)) (InstP.r x)) os v22) [(toldE (rdInt (elemAt (natsAV (listS (withoutS (meetS maj (allS n)) (InstP.r x)))) (Int.toNat (@Nat.cast Int _ v22))) 0) (newI (InstP.r x) (InstP.sl x)))]) (Own.row 11 0 68)) = (AV.sl (toldsW (withoutS (meetS maj (allS n)) (InstP.r x)) x (withS (meetS voted (allS n)) (InstP.r x)) os v24) (Own.row 11 0 68))) ∧ ((AV.sl (natsAV (listS (withoutS (meetS maj (allS n)) (InstP.r x)))) Own.no) = (AV.sl (natsAV (listS (withoutS (meetS maj (allS n)) (InstP.r x)))) Own.no)) ∧ ((AV.int Go.IntKind.i64 (@Nat.cast Int _ (List.length (listS (withoutS (meetS maj (allS n)) (InstP.r x)))))) = (AV.int Go.IntKind.i64 (@Nat.cast Int _ (List.length (listS (withoutS (meetS maj (allS n)) (InstP.r x))))))) ∧ ((AV.int Go.IntKind.i64 (Go.IntKind.wrap Go.IntKind.i64 ((@Nat.cast Int _ v22) + (1 : Int)))) = (AV.int Go.IntKind.i64 (@Nat.cast Int _ v24))) ∧ True) ∧ (((@Option.some.{0} (@List.{0} AV) (instL x)) = (@Option.some.{0} (@List.{0} AV) (instL x))) ∧ True) ∧ ((((List.length (toldsW (withoutS (meetS maj (allS n)) (InstP.r x)) x (withS (meetS voted (allS n)) (InstP.r x)) os v22)) + 1) = (List.length (toldsW (withoutS (meetS maj (allS n)) (InstP.r x)) x (withS (meetS voted (allS n)) (InstP.r x)) os v24))) ∧ True) ∧ tt ∧ tt) ∧ (v24 ≤ (List.length (listS (withoutS (meetS maj (allS n)) (InstP.r x))))) ∧ (((List.length (listS (withoutS (meetS maj (allS n)) (InstP.r x)))) - v24) < ((List.length (listS (withoutS (meetS maj (allS n)) (InstP.r x)))) - v22)))))))) else (T1 ∧ T1 ∧ (((0 : Int) ≤ (rdInt (elemAt (natsAV (listS (withoutS (meetS maj (allS n)) (InstP.r x)))) (Int.toNat (@Nat.cast Int _ v22))) 0)) ∧ ((rdInt (elemAt (natsAV (listS (withoutS (meetS maj (allS n)) (InstP.r x)))) (Int.toNat (@Nat.cast Int _ v22))) 0) < (@Nat.cast Int _ (List.length os))) ∧ (okElem 22 os (Int.toNat (rdInt (elemAt (natsAV (listS (withoutS (meetS maj (allS n)) (InstP.r x)))) (Int.toNat (@Nat.cast Int _ v22))) 0)))) ∧ (okRead [(Kd.int Go.IntKind.i64), (Kd.int Go.IntKind.i64), (Kd.int Go.IntKind.i64), (Kd.int Go.IntKind.u32), (Kd.int Go.IntKind.u32), Kd.bool, (Kd.int Go.IntKind.i64), (Kd.int Go.IntKind.u64), Kd.str, (Kd.int Go.IntKind.u64), Kd.str, (Kd.int Go.IntKind.i64), (Kd.int Go.IntKind.u64), (Kd.int Go.IntKind.i64), (Kd.int Go.IntKind.i64), (Kd.int Go.IntKind.i64), (Kd.int Go.IntKind.i64), (Kd.int Go.IntKind.i64), (Kd.int Go.IntKind.i64), (Kd.int Go.IntKind.i64), (Kd.int Go.IntKind.i64), (Kd.int Go.IntKind.i64)] (elemAt os (Int.toNat (rdInt (elemAt (natsAV (listS (withoutS (meetS maj (allS n)) (InstP.r x)))) (Int.toNat (@Nat.cast Int _ v22))) 0))) 0) ∧ tt ∧ (T1 ∧ True) ∧ T1 ∧ T1 ∧ T1 ∧ (bif (alikeI (instV (elemAt os (Int.toNat (rdInt (elemAt (natsAV (listS (withoutS (meetS maj (allS n)) (InstP.r x)))) (Int.toNat (@Nat.cast Int _ v22))) 0)))) x) then (T1 ∧ T1 ∧ (((0 : Int) ≤ (rdInt (elemAt (natsAV (listS (withoutS (meetS maj (allS n)) (InstP.r x)))) (Int.toNat (@Nat.cast Int _ v22))) 0)) ∧ ((rdInt (elemAt (natsAV (listS (withoutS (meetS maj (allS n)) (InstP.r x)))) (Int.toNat (@Nat.cast Int _ v22))) 0) < (@Nat.cast Int _ (List.length os))) ∧ (okElem 22 os (Int.toNat (rdInt (elemAt (natsAV (listS (withoutS (meetS maj (allS n)) (InstP.r x)))) (Int.toNat (@Nat.cast Int _ v22))) 0)))) ∧ T1 ∧ T1 ∧ (okRead [Kd.str] (elemAt os (Int.toNat (rdInt (elemAt (natsAV (listS (withoutS (meetS maj (allS n)) (InstP.r x)))) (Int.toNat (@Nat.cast Int _ v22))) 0))) 10) ∧ T1 ∧ T1 ∧ T1 ∧ tt ∧ (bif (decide ((@Nat.cast Int _ (List.length (CmdP.path (InstP.c (instV (elemAt os (Int.toNat (rdInt (elemAt (natsAV (listS (withoutS (meetS maj (allS n)) (InstP.r x)))) (Int.toNat (@Nat.cast Int _ v22))) 0)))))))) ≤ (100 : Int))) then (tt ∧ T1 ∧ T1 ∧ (((0 : Int) ≤ (rdInt (elemAt (natsAV (listS (withoutS (meetS maj (allS n)) (InstP.r x)))) (Int.toNat (@Nat.cast Int _ v22))) 0)) ∧ ((rdInt (elemAt (natsAV (listS (withoutS (meetS maj (allS n)) (InstP.r x)))) (Int.toNat (@Nat.cast Int _ v22))) 0) < (@Nat.cast Int _ (List.length os))) ∧ (okElem 22 os (Int.toNat (rdInt (elemAt (natsAV (listS (withoutS (meetS maj (allS n)) (InstP.r x)))) (Int.toNat (@Nat.cast Int _ v22))) 0)))) ∧ (okRead [(Kd.int Go.IntKind.i64), (Kd.int Go.IntKind.i64), (Kd.int Go.IntKind.i64), (Kd.int Go.IntKind.u32), (Kd.int Go.IntKind.u32), Kd.bool, (Kd.int Go.IntKind.i64), (Kd.int Go.IntKind.u64), Kd.str, (Kd.int Go.IntKind.u64), Kd.str, (Kd.int Go.IntKind.i64), (Kd.int Go.IntKind.u64), (Kd.int Go.IntKind.i64), (Kd.int Go.IntKind.i64), (Kd.int Go.IntKind.i64), (Kd.int Go.IntKind.i64), (Kd.int Go.IntKind.i64), (Kd.int Go.IntKind.i64), (Kd.int Go.IntKind.i64), (Kd.int Go.IntKind.i64), (Kd.int Go.IntKind.i64)] (elemAt os (Int.toNat (rdInt (elemAt (natsAV (listS (withoutS (meetS maj (allS n)) (InstP.r x)))) (Int.toNat (@Nat.cast Int _ v22))) 0))) 0) ∧ tt ∧ tt ∧ T1 ∧ T1 ∧ tt ∧ T1 ∧ T1 ∧ (((List.length (toldsW (withoutS (meetS maj (allS n)) (InstP.r x)) x (withS (meetS voted (allS n)) (InstP.r x)) os v22)) = (List.length (toldsW (withoutS (meetS maj (allS n)) (InstP.r x)) x (withS (meetS voted (allS n)) (InstP.r x)) os v22))) ∧ ((((List.length (toldsW (withoutS (meetS maj (allS n)) (InstP.r x)) x (withS (meetS voted (allS n)) (InstP.r x)) os v22)) + 1) * 192) ≤ 140737488355328) ∧ (((List.length (toldsW (withoutS (meetS maj (allS n)) (InstP.r x)) x (withS (meetS voted (allS n)) (InstP.r x)) os v22)) + 1) ≤ 9223372036854775807) ∧ (okWidth 23 (toldsW (withoutS (meetS maj (allS n)) (InstP.r x)) x (withS (meetS voted (allS n)) (InstP.r x)) os v22)) ∧ (okWidth 23 [(toldE (rdInt (elemAt (natsAV (listS (withoutS (meetS maj (allS n)) (InstP.r x)))) (Int.toNat (@Nat.cast Int _ v22))) 0) (instV (elemAt os (Int.toNat (rdInt (elemAt (natsAV (listS (withoutS (meetS maj (allS n)) (InstP.r x)))) (Int.toNat (@Nat.cast Int _ v22))) 0)))))])) ∧ T1 ∧ tt ∧ T1 ∧ T1 ∧ (@Exists.{1} (LoopInv.V (loopSwift21 n x (withS (meetS voted (allS n)) (InstP.r x)) os (withoutS (meetS maj (allS n)) (InstP.r x)))) (fun (v24 : Nat) => (((((AV.int Go.IntKind.i64 n) = (AV.int Go.IntKind.i64 n)) ∧ ((AV.int Go.IntKind.u8 (withS (meetS voted (allS n)) (InstP.r x))) = (AV.int Go.IntKind.u8 (withS (meetS voted (allS n)) (InstP.r x)))) ∧ ((AV.sl os Own.no) = (AV.sl os Own.no)) ∧ ((AV.ptr 6 0) = (AV.ptr 6 0)) ∧ ((AV.sl (@catL AV (toldsW (withoutS (meetS maj (allS n)) (InstP.r x)) x (withS (meetS voted (allS n)) (InstP.r x)) os v22) [(toldE (rdInt (elemAt (natsAV (listS (withoutS (meetS maj (allS n)) (InstP.r x)))) (Int.toNat (@Nat.cast Int _ v22))) 0) (instV (elemAt os (Int.toNat (rdInt (elemAt (natsAV (listS (withoutS (meetS maj (allS n)) (InstP.r x)))) (Int.toNat (@Nat.cast Int _ v22))) 0)))))]) (Own.row 11 0 68)) = (AV.sl (toldsW (withoutS (meetS maj (allS n)) (InstP.r x)) x (withS (meetS voted (allS n)) (InstP.r x)) os v24) (Own.row 11 0 68))) ∧ ((AV.sl (natsAV (listS (withoutS (meetS maj (allS n)) (InstP.r x)))) Own.no) = (AV.sl (natsAV (listS (withoutS (meetS maj (allS n)) (InstP.r x)))) Own.no)) ∧ ((AV.int Go.IntKind.i64 (@Nat.cast Int _ (List.length (listS (withoutS (meetS maj (allS n)) (InstP.r x)))))) = (AV.int Go.IntKind.i64 (@Nat.cast Int _ (List.length (listS (withoutS (meetS maj (allS n)) (InstP.r x))))))) ∧ ((AV.int Go.IntKind.i64 (Go.IntKind.wrap Go.IntKind.i64 ((@Nat.cast Int _ v22) + (1 : Int)))) = (AV.int Go.IntKind.i64 (@Nat.cast Int _ v24))) ∧ True) ∧ (((@Option.some.{0} (@List.{0} AV) (instL x)) = (@Option.some.{0} (@List.{0} AV) (instL x))) ∧ True) ∧ ((((List.length (toldsW (withoutS (meetS maj (allS n)) (InstP.r x)) x (withS (meetS voted (allS n)) (InstP.r x)) os v22)) + 1) = (List.length (toldsW (withoutS (meetS maj (allS n)) (InstP.r x)) x (withS (meetS voted (allS n)) (InstP.r x)) os v24))) ∧ True) ∧ tt ∧ tt) ∧ (v24 ≤ (List.length (listS (withoutS (meetS maj (allS n)) (InstP.r x))))) ∧ (((List.length (listS (withoutS (meetS maj (allS n)) (InstP.r x)))) - v24) < ((List.length (listS (withoutS (meetS maj (allS n)) (InstP.r x)))) - v22)))))) else (tt ∧ T1 ∧ T1 ∧ tt ∧ T1 ∧ T1 ∧ (((List.length (toldsW (withoutS (meetS maj (allS n)) (InstP.r x)) x (withS (meetS voted (allS n)) (InstP.r x)) os v22)) = (List.length (toldsW (withoutS (meetS maj (allS n)) (InstP.r x)) x (withS (meetS voted (allS n)) (InstP.r x)) os v22))) ∧ ((((List.length (toldsW (withoutS (meetS maj (allS n)) (InstP.r x)) x (withS (meetS voted (allS n)) (InstP.r x)) os v22)) + 1) * 192) ≤ 140737488355328) ∧ (((List.length (toldsW (withoutS (meetS maj (allS n)) (InstP.r x)) x (withS (meetS voted (allS n)) (InstP.r x)) os v22)) + 1) ≤ 9223372036854775807) ∧ (okWidth 23 (toldsW (withoutS (meetS maj (allS n)) (InstP.r x)) x (withS (meetS voted (allS n)) (InstP.r x)) os v22)) ∧ (okWidth 23 [(toldE (rdInt (elemAt (natsAV (listS (withoutS (meetS maj (allS n)) (InstP.r x)))) (Int.toNat (@Nat.cast Int _ v22))) 0) (newI (InstP.r x) (InstP.sl x)))])) ∧ T1 ∧ tt ∧ T1 ∧ T1 ∧ (@Exists.{1} (LoopInv.V (loopSwift21 n x (withS (meetS voted (allS n)) (InstP.r x)) os (withoutS (meetS maj (allS n)) (InstP.r x)))) (fun (v24 : Nat) => (((((AV.int Go.IntKind.i64 n) = (AV.int Go.IntKind.i64 n)) ∧ ((AV.int Go.IntKind.u8 (withS (meetS voted (allS n)) (InstP.r x))) = (AV.int Go.IntKind.u8 (withS (meetS voted (allS n)) (InstP.r x)))) ∧ ((AV.sl os Own.no) = (AV.sl os Own.no)) ∧ ((AV.ptr 6 0) = (AV.ptr 6 0)) ∧ ((AV.sl (@catL AV (toldsW (withoutS (meetS maj (allS n)) (InstP.r x)) x (withS (meetS voted (allS n)) (InstP.r x)) os v22) [(toldE (rdInt (elemAt (natsAV (listS (withoutS (meetS maj (allS n)) (InstP.r x)))) (Int.toNat (@Nat.cast Int _ v22))) 0) (newI (InstP.r x) (InstP.sl x)))]) (Own.row 11 0 68)) = (AV.sl (toldsW (withoutS (meetS maj (allS n)) (InstP.r x)) x (withS (meetS voted (allS n)) (InstP.r x)) os v24) (Own.row 11 0 68))) ∧ ((AV.sl (natsAV (listS (withoutS (meetS maj (allS n)) (InstP.r x)))) Own.no) = (AV.sl (natsAV (listS (withoutS (meetS maj (allS n)) (InstP.r x)))) Own.no)) ∧ ((AV.int Go.IntKind.i64 (@Nat.cast Int _ (List.length (listS (withoutS (meetS maj (allS n)) (InstP.r x)))))) = (AV.int Go.IntKind.i64 (@Nat.cast Int _ (List.length (listS (withoutS (meetS maj (allS n)) (InstP.r x))))))) ∧ ((AV.int Go.IntKind.i64 (Go.IntKind.wrap Go.IntKind.i64 ((@Nat.cast Int _ v22) + (1 : Int)))) = (AV.int Go.IntKind.i64 (@Nat.cast Int _ v24))) ∧ True) ∧ (((@Option.some.{0} (@List.{0} AV) (instL x)) = (@Option.some.{0} (@List.{0} AV) (instL x))) ∧ True) ∧ ((((List.length (toldsW (withoutS (meetS maj (allS n)) (InstP.r x)) x (withS (meetS voted (allS n)) (InstP.r x)) os v22)) + 1) = (List.length (toldsW (withoutS (meetS maj (allS n)) (InstP.r x)) x (withS (meetS voted (allS n)) (InstP.r x)) os v24))) ∧ True) ∧ tt ∧ tt) ∧ (v24 ≤ (List.length (listS (withoutS (meetS maj (allS n)) (InstP.r x))))) ∧ (((List.length (listS (withoutS (meetS maj (allS n)) (InstP.r x)))) - v24) < ((List.length (listS (withoutS (meetS maj (allS n)) (InstP.r x)))) - v22)))))))) else ((false = false) ∧ tt ∧ tt ∧ T1 ∧ T1 ∧ tt ∧ T1 ∧ T1 ∧ (((List.length (toldsW (withoutS (meetS maj (allS n)) (InstP.r x)) x (withS (meetS voted (allS n)) (InstP.r x)) os v22)) = (List.length (toldsW (withoutS (meetS maj (allS n)) (InstP.r x)) x (withS (meetS voted (allS n)) (InstP.r x)) os v22))) ∧ ((((List.length (toldsW (withoutS (meetS maj (allS n)) (InstP.r x)) x (withS (meetS voted (allS n)) (InstP.r x)) os v22)) + 1) * 192) ≤ 140737488355328) ∧ (((List.length (toldsW (withoutS (meetS maj (allS n)) (InstP.r x)) x (withS (meetS voted (allS n)) (InstP.r x)) os v22)) + 1) ≤ 9223372036854775807) ∧ (okWidth 23 (toldsW (withoutS (meetS maj (allS n)) (InstP.r x)) x (withS (meetS voted (allS n)) (InstP.r x)) os v22)) ∧ (okWidth 23 [(toldE (rdInt (elemAt (natsAV (listS (withoutS (meetS maj (allS n)) (InstP.r x)))) (Int.toNat (@Nat.cast Int _ v22))) 0) (newI (InstP.r x) (InstP.sl x)))])) ∧ T1 ∧ tt ∧ T1 ∧ T1 ∧ (@Exists.{1} (LoopInv.V (loopSwift21 n x (withS (meetS voted (allS n)) (InstP.r x)) os (withoutS (meetS maj (allS n)) (InstP.r x)))) (fun (v24 : Nat) => (((((AV.int Go.IntKind.i64 n) = (AV.int Go.IntKind.i64 n)) ∧ ((AV.int Go.IntKind.u8 (withS (meetS voted (allS n)) (InstP.r x))) = (AV.int Go.IntKind.u8 (withS (meetS voted (allS n)) (InstP.r x)))) ∧ ((AV.sl os Own.no) = (AV.sl os Own.no)) ∧ ((AV.ptr 6 0) = (AV.ptr 6 0)) ∧ ((AV.sl (@catL AV (toldsW (withoutS (meetS maj (allS n)) (InstP.r x)) x (withS (meetS voted (allS n)) (InstP.r x)) os v22) [(toldE (rdInt (elemAt (natsAV (listS (withoutS (meetS maj (allS n)) (InstP.r x)))) (Int.toNat (@Nat.cast Int _ v22))) 0) (newI (InstP.r x) (InstP.sl x)))]) (Own.row 11 0 68)) = (AV.sl (toldsW (withoutS (meetS maj (allS n)) (InstP.r x)) x (withS (meetS voted (allS n)) (InstP.r x)) os v24) (Own.row 11 0 68))) ∧ ((AV.sl (natsAV (listS (withoutS (meetS maj (allS n)) (InstP.r x)))) Own.no) = (AV.sl (natsAV (listS (withoutS (meetS maj (allS n)) (InstP.r x)))) Own.no)) ∧ ((AV.int Go.IntKind.i64 (@Nat.cast Int _ (List.length (listS (withoutS (meetS maj (allS n)) (InstP.r x)))))) = (AV.int Go.IntKind.i64 (@Nat.cast Int _ (List.length (listS (withoutS (meetS maj (allS n)) (InstP.r x))))))) ∧ ((AV.int Go.IntKind.i64 (Go.IntKind.wrap Go.IntKind.i64 ((@Nat.cast Int _ v22) + (1 : Int)))) = (AV.int Go.IntKind.i64 (@Nat.cast Int _ v24))) ∧ True) ∧ (((@Option.some.{0} (@List.{0} AV) (instL x)) = (@Option.some.{0} (@List.{0} AV) (instL x))) ∧ True) ∧ ((((List.length (toldsW (withoutS (meetS maj (allS n)) (InstP.r x)) x (withS (meetS voted (allS n)) (InstP.r x)) os v22)) + 1) = (List.length (toldsW (withoutS (meetS maj (allS n)) (InstP.r x)) x (withS (meetS voted (allS n)) (InstP.r x)) os v24))) ∧ True) ∧ tt ∧ tt) ∧ (v24 ≤ (List.length (listS (withoutS (meetS maj (allS n)) (InstP.r x))))) ∧ (((List.length (listS (withoutS (meetS maj (allS n)) (InstP.r x)))) - v24) < ((List.length (listS (withoutS (meetS maj (allS n)) (InstP.r x)))) - v22)))))))))) else ((false = false) ∧ T1 ∧ (false = false) ∧ tt ∧ tt ∧ T1 ∧ T1 ∧ tt ∧ T1 ∧ T1 ∧ (((List.length (toldsW (withoutS (meetS maj (allS n)) (InstP.r x)) x (withS (meetS voted (allS n)) (InstP.r x)) os v22)) = (List.length (toldsW (withoutS (meetS maj (allS n)) (InstP.r x)) x (withS (meetS voted (allS n)) (InstP.r x)) os v22))) ∧ ((((List.length (toldsW (withoutS (meetS maj (allS n)) (InstP.r x)) x (withS (meetS voted (allS n)) (InstP.r x)) os v22)) + 1) * 192) ≤ 140737488355328) ∧ (((List.length (toldsW (withoutS (meetS maj (allS n)) (InstP.r x)) x (withS (meetS voted (allS n)) (InstP.r x)) os v22)) + 1) ≤ 9223372036854775807) ∧ (okWidth 23 (toldsW (withoutS (meetS maj (allS n)) (InstP.r x)) x (withS (meetS voted (allS n)) (InstP.r x)) os v22)) ∧ (okWidth 23 [(toldE (rdInt (elemAt (natsAV (listS (withoutS (meetS maj (allS n)) (InstP.r x)))) (Int.toNat (@Nat.cast Int _ v22))) 0) (newI (InstP.r x) (InstP.sl x)))])) ∧ T1 ∧ tt ∧ T1 ∧ T1 ∧ (@Exists.{1} (LoopInv.V (loopSwift21 n x (withS (meetS voted (allS n)) (InstP.r x)) os (withoutS (meetS maj (allS n)) (InstP.r x)))) (fun (v24 : Nat) => (((((AV.int Go.IntKind.i64 n) = (AV.int Go.IntKind.i64 n)) ∧ ((AV.int Go.IntKind.u8 (withS (meetS voted (allS n)) (InstP.r x))) = (AV.int Go.IntKind.u8 (withS (meetS voted (allS n)) (InstP.r x)))) ∧ ((AV.sl os Own.no) = (AV.sl os Own.no)) ∧ ((AV.ptr 6 0) = (AV.ptr 6 0)) ∧ ((AV.sl (@catL AV (toldsW (withoutS (meetS maj (allS n)) (InstP.r x)) x (withS (meetS voted (allS n)) (InstP.r x)) os v22) [(toldE (rdInt (elemAt (natsAV (listS (withoutS (meetS maj (allS n)) (InstP.r x)))) (Int.toNat (@Nat.cast Int _ v22))) 0) (newI (InstP.r x) (InstP.sl x)))]) (Own.row 11 0 68)) = (AV.sl (toldsW (withoutS (meetS maj (allS n)) (InstP.r x)) x (withS (meetS voted (allS n)) (InstP.r x)) os v24) (Own.row 11 0 68))) ∧ ((AV.sl (natsAV (listS (withoutS (meetS maj (allS n)) (InstP.r x)))) Own.no) = (AV.sl (natsAV (listS (withoutS (meetS maj (allS n)) (InstP.r x)))) Own.no)) ∧ ((AV.int Go.IntKind.i64 (@Nat.cast Int _ (List.length (listS (withoutS (meetS maj (allS n)) (InstP.r x)))))) = (AV.int Go.IntKind.i64 (@Nat.cast Int _ (List.length (listS (withoutS (meetS maj (allS n)) (InstP.r x))))))) ∧ ((AV.int Go.IntKind.i64 (Go.IntKind.wrap Go.IntKind.i64 ((@Nat.cast Int _ v22) + (1 : Int)))) = (AV.int Go.IntKind.i64 (@Nat.cast Int _ v24))) ∧ True) ∧ (((@Option.some.{0} (@List.{0} AV) (instL x)) = (@Option.some.{0} (@List.{0} AV) (instL x))) ∧ True) ∧ ((((List.length (toldsW (withoutS (meetS maj (allS n)) (InstP.r x)) x (withS (meetS voted (allS n)) (InstP.r x)) os v22)) + 1) = (List.length (toldsW (withoutS (meetS maj (allS n)) (InstP.r x)) x (withS (meetS voted (allS n)) (InstP.r x)) os v24))) ∧ True) ∧ tt ∧ tt) ∧ (v24 ≤ (List.length (listS (withoutS (meetS maj (allS n)) (InstP.r x))))) ∧ (((List.length (listS (withoutS (meetS maj (allS n)) (InstP.r x)))) - v24) < ((List.length (listS (withoutS (meetS maj (allS n)) (InstP.r x)))) - v22)))))))) else ((false = false) ∧ T1 ∧ (false = false) ∧ T1 ∧ (false = false) ∧ tt ∧ tt ∧ T1 ∧ T1 ∧ tt ∧ T1 ∧ T1 ∧ (((List.length (toldsW (withoutS (meetS maj (allS n)) (InstP.r x)) x (withS (meetS voted (allS n)) (InstP.r x)) os v22)) = (List.length (toldsW (withoutS (meetS maj (allS n)) (InstP.r x)) x (withS (meetS voted (allS n)) (InstP.r x)) os v22))) ∧ ((((List.length (toldsW (withoutS (meetS maj (allS n)) (InstP.r x)) x (withS (meetS voted (allS n)) (InstP.r x)) os v22)) + 1) * 192) ≤ 140737488355328) ∧ (((List.length (toldsW (withoutS (meetS maj (allS n)) (InstP.r x)) x (withS (meetS voted (allS n)) (InstP.r x)) os v22)) + 1) ≤ 9223372036854775807) ∧ (okWidth 23 (toldsW (withoutS (meetS maj (allS n)) (InstP.r x)) x (withS (meetS voted (allS n)) (InstP.r x)) os v22)) ∧ (okWidth 23 [(toldE (rdInt (elemAt (natsAV (listS (withoutS (meetS maj (allS n)) (InstP.r x)))) (Int.toNat (@Nat.cast Int _ v22))) 0) (newI (InstP.r x) (InstP.sl x)))])) ∧ T1 ∧ tt ∧ T1 ∧ T1 ∧ (@Exists.{1} (LoopInv.V (loopSwift21 n x (withS (meetS voted (allS n)) (InstP.r x)) os (withoutS (meetS maj (allS n)) (InstP.r x)))) (fun (v24 : Nat) => (((((AV.int Go.IntKind.i64 n) = (AV.int Go.IntKind.i64 n)) ∧ ((AV.int Go.IntKind.u8 (withS (meetS voted (allS n)) (InstP.r x))) = (AV.int Go.IntKind.u8 (withS (meetS voted (allS n)) (InstP.r x)))) ∧ ((AV.sl os Own.no) = (AV.sl os Own.no)) ∧ ((AV.ptr 6 0) = (AV.ptr 6 0)) ∧ ((AV.sl (@catL AV (toldsW (withoutS (meetS maj (allS n)) (InstP.r x)) x (withS (meetS voted (allS n)) (InstP.r x)) os v22) [(toldE (rdInt (elemAt (natsAV (listS (withoutS (meetS maj (allS n)) (InstP.r x)))) (Int.toNat (@Nat.cast Int _ v22))) 0) (newI (InstP.r x) (InstP.sl x)))]) (Own.row 11 0 68)) = (AV.sl (toldsW (withoutS (meetS maj (allS n)) (InstP.r x)) x (withS (meetS voted (allS n)) (InstP.r x)) os v24) (Own.row 11 0 68))) ∧ ((AV.sl (natsAV (listS (withoutS (meetS maj (allS n)) (InstP.r x)))) Own.no) = (AV.sl (natsAV (listS (withoutS (meetS maj (allS n)) (InstP.r x)))) Own.no)) ∧ ((AV.int Go.IntKind.i64 (@Nat.cast Int _ (List.length (listS (withoutS (meetS maj (allS n)) (InstP.r x)))))) = (AV.int Go.IntKind.i64 (@Nat.cast Int _ (List.length (listS (withoutS (meetS maj (allS n)) (InstP.r x))))))) ∧ ((AV.int Go.IntKind.i64 (Go.IntKind.wrap Go.IntKind.i64 ((@Nat.cast Int _ v22) + (1 : Int)))) = (AV.int Go.IntKind.i64 (@Nat.cast Int _ v24))) ∧ True) ∧ (((@Option.some.{0} (@List.{0} AV) (instL x)) = (@Option.some.{0} (@List.{0} AV) (instL x))) ∧ True) ∧ ((((List.length (toldsW (withoutS (meetS maj (allS n)) (InstP.r x)) x (withS (meetS voted (allS n)) (InstP.r x)) os v22)) + 1) = (List.length (toldsW (withoutS (meetS maj (allS n)) (InstP.r x)) x (withS (meetS voted (allS n)) (InstP.r x)) os v24))) ∧ True) ∧ tt ∧ tt) ∧ (v24 ≤ (List.length (listS (withoutS (meetS maj (allS n)) (InstP.r x))))) ∧ (((List.length (listS (withoutS (meetS maj (allS n)) (InstP.r x)))) - v24) < ((List.length (listS (withoutS (meetS maj (allS n)) (InstP.r x)))) - v22)))))))) else ((false = false) ∧ T1 ∧ (false = false) ∧ T1 ∧ (false = false) ∧ T1 ∧ (false = false) ∧ tt ∧ tt ∧ T1 ∧ T1 ∧ tt ∧ T1 ∧ T1 ∧ (((List.length (toldsW (withoutS (meetS maj (allS n)) (InstP.r x)) x (withS (meetS voted (allS n)) (InstP.r x)) os v22)) = (List.length (toldsW (withoutS (meetS maj (allS n)) (InstP.r x)) x (withS (meetS voted (allS n)) (InstP.r x)) os v22))) ∧ ((((List.length (toldsW (withoutS (meetS maj (allS n)) (InstP.r x)) x (withS (meetS voted (allS n)) (InstP.r x)) os v22)) + 1) * 192) ≤ 140737488355328) ∧ (((List.length (toldsW (withoutS (meetS maj (allS n)) (InstP.r x)) x (withS (meetS voted (allS n)) (InstP.r x)) os v22)) + 1) ≤ 9223372036854775807) ∧ (okWidth 23 (toldsW (withoutS (meetS maj (allS n)) (InstP.r x)) x (withS (meetS voted (allS n)) (InstP.r x)) os v22)) ∧ (okWidth 23 [(toldE (rdInt (elemAt (natsAV (listS (withoutS (meetS maj (allS n)) (InstP.r x)))) (Int.toNat (@Nat.cast Int _ v22))) 0) (newI (InstP.r x) (InstP.sl x)))])) ∧ T1 ∧ tt ∧ T1 ∧ T1 ∧ (@Exists.{1} (LoopInv.V (loopSwift21 n x (withS (meetS voted (allS n)) (InstP.r x)) os (withoutS (meetS maj (allS n)) (InstP.r x)))) (fun (v24 : Nat) => (((((AV.int Go.IntKind.i64 n) = (AV.int Go.IntKind.i64 n)) ∧ ((AV.int Go.IntKind.u8 (withS (meetS voted (allS n)) (InstP.r x))) = (AV.int Go.IntKind.u8 (withS (meetS voted (allS n)) (InstP.r x)))) ∧ ((AV.sl os Own.no) = (AV.sl os Own.no)) ∧ ((AV.ptr 6 0) = (AV.ptr 6 0)) ∧ ((AV.sl (@catL AV (toldsW (withoutS (meetS maj (allS n)) (InstP.r x)) x (withS (meetS voted (allS n)) (InstP.r x)) os v22) [(toldE (rdInt (elemAt (natsAV (listS (withoutS (meetS maj (allS n)) (InstP.r x)))) (Int.toNat (@Nat.cast Int _ v22))) 0) (newI (InstP.r x) (InstP.sl x)))]) (Own.row 11 0 68)) = (AV.sl (toldsW (withoutS (meetS maj (allS n)) (InstP.r x)) x (withS (meetS voted (allS n)) (InstP.r x)) os v24) (Own.row 11 0 68))) ∧ ((AV.sl (natsAV (listS (withoutS (meetS maj (allS n)) (InstP.r x)))) Own.no) = (AV.sl (natsAV (listS (withoutS (meetS maj (allS n)) (InstP.r x)))) Own.no)) ∧ ((AV.int Go.IntKind.i64 (@Nat.cast Int _ (List.length (listS (withoutS (meetS maj (allS n)) (InstP.r x)))))) = (AV.int Go.IntKind.i64 (@Nat.cast Int _ (List.length (listS (withoutS (meetS maj (allS n)) (InstP.r x))))))) ∧ ((AV.int Go.IntKind.i64 (Go.IntKind.wrap Go.IntKind.i64 ((@Nat.cast Int _ v22) + (1 : Int)))) = (AV.int Go.IntKind.i64 (@Nat.cast Int _ v24))) ∧ True) ∧ (((@Option.some.{0} (@List.{0} AV) (instL x)) = (@Option.some.{0} (@List.{0} AV) (instL x))) ∧ True) ∧ ((((List.length (toldsW (withoutS (meetS maj (allS n)) (InstP.r x)) x (withS (meetS voted (allS n)) (InstP.r x)) os v22)) + 1) = (List.length (toldsW (withoutS (meetS maj (allS n)) (InstP.r x)) x (withS (meetS voted (allS n)) (InstP.r x)) os v24))) ∧ True) ∧ tt ∧ tt) ∧ (v24 ≤ (List.length (listS (withoutS (meetS maj (allS n)) (InstP.r x))))) ∧ (((List.length (listS (withoutS (meetS maj (allS n)) (InstP.r x)))) - v24) < ((List.length (listS (withoutS (meetS maj (allS n)) (InstP.r x)))) - v22)))))))) else (tt ∧ T1 ∧ T1 ∧ tt ∧ T1 ∧ T1 ∧ (((List.length (toldsW (withoutS (meetS maj (allS n)) (InstP.r x)) x (withS (meetS voted (allS n)) (InstP.r x)) os v22)) = (List.length (toldsW (withoutS (meetS maj (allS n)) (InstP.r x)) x (withS (meetS voted (allS n)) (InstP.r x)) os v22))) ∧ ((((List.length (toldsW (withoutS (meetS maj (allS n)) (InstP.r x)) x (withS (meetS voted (allS n)) (InstP.r x)) os v22)) + 1) * 192) ≤ 140737488355328) ∧ (((List.length (toldsW (withoutS (meetS maj (allS n)) (InstP.r x)) x (withS (meetS voted (allS n)) (InstP.r x)) os v22)) + 1) ≤ 9223372036854775807) ∧ (okWidth 23 (toldsW (withoutS (meetS maj (allS n)) (InstP.r x)) x (withS (meetS voted (allS n)) (InstP.r x)) os v22)) ∧ (okWidth 23 [(toldE (rdInt (elemAt (natsAV (listS (withoutS (meetS maj (allS n)) (InstP.r x)))) (Int.toNat (@Nat.cast Int _ v22))) 0) x)])) ∧ T1 ∧ tt ∧ T1 ∧ T1 ∧ (@Exists.{1} (LoopInv.V (loopSwift21 n x (withS (meetS voted (allS n)) (InstP.r x)) os (withoutS (meetS maj (allS n)) (InstP.r x)))) (fun (v24 : Nat) => (((((AV.int Go.IntKind.i64 n) = (AV.int Go.IntKind.i64 n)) ∧ ((AV.int Go.IntKind.u8 (withS (meetS voted (allS n)) (InstP.r x))) = (AV.int Go.IntKind.u8 (withS (meetS voted (allS n)) (InstP.r x)))) ∧ ((AV.sl os Own.no) = (AV.sl os Own.no)) ∧ ((AV.ptr 6 0) = (AV.ptr 6 0)) ∧ ((AV.sl (@catL AV (toldsW (withoutS (meetS maj (allS n)) (InstP.r x)) x (withS (meetS voted (allS n)) (InstP.r x)) os v22) [(toldE (rdInt (elemAt (natsAV (listS (withoutS (meetS maj (allS n)) (InstP.r x)))) (Int.toNat (@Nat.cast Int _ v22))) 0) x)]) (Own.row 11 0 68)) = (AV.sl (toldsW (withoutS (meetS maj (allS n)) (InstP.r x)) x (withS (meetS voted (allS n)) (InstP.r x)) os v24) (Own.row 11 0 68))) ∧ ((AV.sl (natsAV (listS (withoutS (meetS maj (allS n)) (InstP.r x)))) Own.no) = (AV.sl (natsAV (listS (withoutS (meetS maj (allS n)) (InstP.r x)))) Own.no)) ∧ ((AV.int Go.IntKind.i64 (@Nat.cast Int _ (List.length (listS (withoutS (meetS maj (allS n)) (InstP.r x)))))) = (AV.int Go.IntKind.i64 (@Nat.cast Int _ (List.length (listS (withoutS (meetS maj (allS n)) (InstP.r x))))))) ∧ ((AV.int Go.IntKind.i64 (Go.IntKind.wrap Go.IntKind.i64 ((@Nat.cast Int _ v22) + (1 : Int)))) = (AV.int Go.IntKind.i64 (@Nat.cast Int _ v24))) ∧ True) ∧ (((@Option.some.{0} (@List.{0} AV) (instL x)) = (@Option.some.{0} (@List.{0} AV) (instL x))) ∧ True) ∧ ((((List.length (toldsW (withoutS (meetS maj (allS n)) (InstP.r x)) x (withS (meetS voted (allS n)) (InstP.r x)) os v22)) + 1) = (List.length (toldsW (withoutS (meetS maj (allS n)) (InstP.r x)) x (withS (meetS voted (allS n)) (InstP.r x)) os v24))) ∧ True) ∧ tt ∧ tt) ∧ (v24 ≤ (List.length (listS (withoutS (meetS maj (allS n)) (InstP.r x))))) ∧ (((List.length (listS (withoutS (meetS maj (allS n)) (InstP.r x)))) - v24) < ((List.length (listS (withoutS (meetS maj (allS n)) (InstP.r x)))) - v22)))))))) else (tt ∧ T1 ∧ T1 ∧ tt ∧ T1 ∧ (T1 ∧ (okL n (InstP.r x) (InstP.sl x) (toldsW (withoutS (meetS maj (allS n)) (InstP.r x)) x (withS (meetS voted (allS n)) (InstP.r x)) os v22)) ∧ (okCh n (InstP.r x) (toldsW (withoutS (meetS maj (allS n)) (InstP.r x)) x (withS (meetS voted (allS n)) (InstP.r x)) os v22))) ∧ T1 ∧ T1 ∧ T1 ∧ T1 ∧ T1 ∧ T1 ∧ tt ∧ T1 ∧ tt ∧ T1 ∧ T1 ∧ T1 ∧ T1 ∧ T1 ∧ T1 ∧ (bif ((choK (toldsW (withoutS (meetS maj (allS n)) (InstP.r x)) x (withS (meetS voted (allS n)) (InstP.r x)) os v22)) == (1 : Int)) then (tt ∧ T1 ∧ tt ∧ T1 ∧ T1 ∧ tt ∧ tt ∧ (tt ∧ True) ∧ tt) else (T1 ∧ T1 ∧ T1 ∧ T1 ∧ (bif ((choK (toldsW (withoutS (meetS maj (allS n)) (InstP.r x)) x (withS (meetS voted (allS n)) (InstP.r x)) os v22)) == (2 : Int)) then (tt ∧ T1 ∧ T1 ∧ tt ∧ tt ∧ (tt ∧ True) ∧ tt) else (T1 ∧ T1 ∧ T1 ∧ (bif ((choK (toldsW (withoutS (meetS maj (allS n)) (InstP.r x)) x (withS (meetS voted (allS n)) (InstP.r x)) os v22)) == (3 : Int)) then (tt ∧ tt ∧ (T1 ∧ True) ∧ T1 ∧ T1 ∧ T1 ∧ T1 ∧ tt ∧ tt ∧ ((true = (alikeI (InstP.mk (InstP.r x) (InstP.sl x) (1 : Int) (0 : Int) (0 : Int) false (InstP.c (choX (toldsW (withoutS (meetS maj (allS n)) (InstP.r x)) x (withS (meetS voted (allS n)) (InstP.r x)) os v22))) (InstP.a (choX (toldsW (withoutS (meetS maj (allS n)) (InstP.r x)) x (withS (meetS voted (allS n)) (InstP.r x)) os v22)))) x)) ∧ True) ∧ tt) else ((false = false) ∧ T1 ∧ T1 ∧ T1 ∧ tt ∧ tt ∧ ((true = false) ∧ True) ∧ tt)))))))))))))))))))))))))))))))))))))))))))))))))))))))))))) : inLawSwift210 n x voted os maj :=
  Eq.mp (show _ = _ by kernel_rfl) h
end Go.Proofs.YtcokifdgbfbonaaDoor
/- The conditions hold: where a fast quorum went along. -/
namespace Go.Proofs.YtcokifdgbfbonaaDoor
set_option linter.unusedVariables false
set_option linter.unusedSimpArgs false
open Go.RowKit
set_option maxRecDepth 100000

theorem inst_same {e : AV} (h : okRead instKs e 0) : okRead [Kd.bool] e 5 := okRead_sub h (by
  intro i kd hi
  match i, hi with
  | 0, hi => exact hi
  | i + 1, hi => cases hi)
theorem toldsW_succ {m : Int} {x : InstP} {vs : Int} {os : List AV} {i : Nat} (hi : i < (listS m).length) : toldsW m x vs os (i + 1) = toldsW m x vs os i ++ [toldE (((listS m).getD i 0 : Nat) : Int) (wV x vs os ((listS m).getD i 0))] := by
  unfold toldsW
  rw [List.take_add_one, List.getElem?_eq_getElem hi, List.map_append]
  simp [List.getD_eq_getElem?_getD, hi]
theorem toldsW_lenI (m : Int) (x : InstP) (vs : Int) (os : List AV) {i : Nat} (hi : i ≤ (listS m).length) : (toldsW m x vs os i).length = i := by unfold toldsW; simp; omega
theorem toldsW_width (m : Int) (x : InstP) (vs : Int) (os : List AV) (i : Nat) : okWidth 23 (toldsW m x vs os i) := by
  intro e he
  unfold toldsW at he
  obtain ⟨r, _, rfl⟩ := List.mem_map.1 he
  rfl
theorem with_fin : ∀ (m : Fin 128) (r j : Fin 7), hasS (withS (m.val : Int) (r.val : Int)) (j.val : Int) = (hasS (m.val : Int) (j.val : Int) || decide (j = r)) := by decide +kernel
theorem without_fin : ∀ (m : Fin 128) (r : Fin 7), withoutS (m.val : Int) (r.val : Int) < 128 ∧ ∀ j : Fin 7, hasS (withoutS (m.val : Int) (r.val : Int)) (j.val : Int) = (hasS (m.val : Int) (j.val : Int) && !decide (j = r)) := by decide +kernel
theorem cnt_ie (n : Nat) (p q : Nat → Bool) : ∀ l : List Nat, (∀ r ∈ l, p r = true → r < n) → (∀ r ∈ l, q r = true → r < n) → l.countP p + l.countP q ≤ (l.countP fun r => decide (r < n)) + l.countP fun r => p r && q r
  | [], _, _ => by simp
  | a :: l, hp, hq => by
    have ih := cnt_ie n p q l (fun r hr => hp r (List.mem_cons_of_mem _ hr)) (fun r hr => hq r (List.mem_cons_of_mem _ hr))
    have h1 := hp a (List.mem_cons_self ..)
    have h2 := hq a (List.mem_cons_self ..)
    rw [List.countP_cons, List.countP_cons, List.countP_cons, List.countP_cons]
    cases ep : p a
    · cases eq : q a
      · simp; omega
      · have := h2 eq
        simp [this]; omega
    · have := h1 ep
      cases eq : q a
      · simp [this]; omega
      · simp [this]; omega
def toldsG (m : Int) (f : Nat → InstP) (i : Nat) : List AV := ((listS m).take i).map fun r => toldE (r : Nat) (f r)
theorem toldsG_at (m : Int) (f : Nat → InstP) {i : Nat} (hi : i < (listS m).length) : elemAt (toldsG m f (listS m).length) i = toldE (((listS m).getD i 0 : Nat) : Int) (f ((listS m).getD i 0)) := by
  unfold elemAt cellAt toldsG
  simp [List.getD_eq_getElem?_getD, hi]
theorem toldsG_seen (m : Int) (f : Nat → InstP) (i : Nat) : seenN (toldsG m f (listS m).length) i = seenL ((listS m).take i) := by
  unfold seenN toldsG seenL
  rw [List.take_length, ← List.map_take, List.foldl_map]
  rfl
theorem toldsG_tolds (m : Int) (f : Nat → InstP) (i : Nat) : isTolds (toldsG m f i) := by
  intro e he
  unfold toldsG at he
  obtain ⟨r, _, rfl⟩ := List.mem_map.1 he
  exact okTold_toldE _ _
theorem okL_G {n M : Int} {x : InstP} (f : Nat → InstP) (hn : rightN n = true) (hid : rightId x.r x.sl = true) (hr : x.r < n) (hM : ∃ k : Fin 128, M = (k.val : Int)) (lt : ∀ r ∈ listS M, ((r : Nat) : Int) < n)
    (hf : ∀ r, smallX (f r) ∧ rightI (f r) = true ∧ (f r).r = x.r ∧ (f r).sl = x.sl) (hc : fN n + 1 ≤ (cntS M : Nat)) : okL n x.r x.sl (toldsG M f (listS M).length) := by
  obtain ⟨k, hk⟩ := hM
  have s := seen_fin k
  rw [← hk] at s
  obtain ⟨s1, s2, s3⟩ := s
  have len : (toldsG M f (listS M).length).length = (listS M).length := by unfold toldsG; simp
  refine ⟨hn, hid, hr, toldsG_tolds _ _ _, by omega, fun i hi => ?_, ?_⟩
  · rw [len] at hi
    rw [toldsG_at M f hi, toldsG_seen]
    have hi7 : i < 7 := by omega
    have mem : (listS M).getD i 0 ∈ listS M := by
      rw [List.getD_eq_getElem?_getD, List.getElem?_eq_getElem hi]
      exact List.getElem_mem hi
    have y := hf ((listS M).getD i 0)
    refine ⟨⟨?_, ?_⟩, s3 ⟨i, hi7⟩ hi, y.1, y.2.1, y.2.2.1, y.2.2.2⟩
    · show (0 : Int) ≤ (((listS M).getD i 0 : Nat) : Int); omega
    · exact lt _ mem
  · rw [len, toldsG_seen, List.take_length, s2]; exact hc
theorem sw_spec (T : List AV) : ∀ i, i ≤ T.length → (swN T i).1 = ((T.take i).countP fun e => rdBool e 6) ∧ ((swN T i).1 ≠ 0 → ∃ j, j < i ∧ (swN T i).2 = tolX (elemAt T j) ∧ (tolX (elemAt T j)).same = true)
  | 0, _ => ⟨by simp [swN], fun h => by simp [swN] at h⟩
  | i + 1, hi => by
    obtain ⟨p1, p2⟩ := sw_spec T i (by omega)
    rw [swN_succ (by omega), List.take_add_one, elem_some (by omega : i < T.length), List.countP_append]
    have es : (tolX (elemAt T i)).same = rdBool (elemAt T i) 6 := rfl
    split
    · rename_i hc
      rw [es] at hc
      refine ⟨by simp [List.countP_cons, hc, p1], fun _ => ?_⟩
      show ∃ j, j < i + 1 ∧ (if (swN T i).1 = 0 then tolX (elemAt T i) else (swN T i).2) = tolX (elemAt T j) ∧ _
      split
      · exact ⟨i, by omega, rfl, hc⟩
      · rename_i h0
        obtain ⟨j, h1, h2, h3⟩ := p2 h0
        exact ⟨j, by omega, h2, h3⟩
    · rename_i hc
      rw [es] at hc
      refine ⟨by simp [List.countP_cons, hc, p1], fun h => ?_⟩
      obtain ⟨j, h1, h2, h3⟩ := p2 h
      exact ⟨j, by omega, h2, h3⟩
theorem wV_ok {x : InstP} {vs : Int} {os : List AV} (hx : rightI x = true) (hs : smallX x) (ho : isInsts os) (r : Nat) :
    smallX (wV x vs os r) ∧ rightI (wV x vs os r) = true ∧ (wV x vs os r).r = x.r ∧ (wV x vs os r).sl = x.sl := by
  unfold wV
  split
  · exact ⟨hs, hx, rfl, rfl⟩
  · split
    · rename_i h
      exact ⟨(ho r h.1).2.2, h.2.1, h.2.2.1, h.2.2.2.1⟩
    · exact ⟨by unfold smallX newI zC; simp, rightI_new (rightI_id hx), rfl, rfl⟩
theorem wV_alike {x : InstP} {vs : Int} {os : List AV} {r : Nat} (h : (wV x vs os r).same = true) : alikeI (wV x vs os r) x = true := by
  unfold wV at h ⊢
  split
  · exact alikeI_self x
  · rename_i h1
    rw [if_neg h1] at h
    split
    · rename_i h2
      rw [if_pos h2] at h
      rcases h2.2.2.2.2.1 with t | t
      · rw [t] at h; cases h
      · exact t
    · rename_i h2
      rw [if_neg h2] at h
      cases h
theorem swift_end {n maj voted : Int} {x : InstP} {os : List AV} (hn : rightN n = true) (hx : rightI x = true) (hr : x.r < n) (hs : smallX x) (hsm : x.same = true) (ho : isInsts os) (hm : 0 ≤ maj ∧ maj ≤ 255) (hv : 0 ≤ voted ∧ voted ≤ 255)
    (hc1 : 2 * fN n ≤ (cntS (withS (meetS voted (allS n)) x.r) : Nat)) (hc2 : fN n + 1 ≤ (cntS (withoutS (meetS maj (allS n)) x.r) : Nat)) :
    okL n x.r x.sl (toldsW (withoutS (meetS maj (allS n)) x.r) x (withS (meetS voted (allS n)) x.r) os (listS (withoutS (meetS maj (allS n)) x.r)).length) ∧
    okCh n x.r (toldsW (withoutS (meetS maj (allS n)) x.r) x (withS (meetS voted (allS n)) x.r) os (listS (withoutS (meetS maj (allS n)) x.r)).length) ∧
    (choK (toldsW (withoutS (meetS maj (allS n)) x.r) x (withS (meetS voted (allS n)) x.r) os (listS (withoutS (meetS maj (allS n)) x.r)).length) = 1 ∨ choK (toldsW (withoutS (meetS maj (allS n)) x.r) x (withS (meetS voted (allS n)) x.r) os (listS (withoutS (meetS maj (allS n)) x.r)).length) = 2 ∨
      (choK (toldsW (withoutS (meetS maj (allS n)) x.r) x (withS (meetS voted (allS n)) x.r) os (listS (withoutS (meetS maj (allS n)) x.r)).length) = 3 ∧
       alikeI (choX (toldsW (withoutS (meetS maj (allS n)) x.r) x (withS (meetS voted (allS n)) x.r) os (listS (withoutS (meetS maj (allS n)) x.r)).length)) x = true)) := by
  have hid := rightI_id hx
  have hr0 : 0 ≤ x.r := by
    unfold rightId at hid
    simp at hid
    omega
  have F := fN_vals hn
  have r7 : x.r < 7 := by omega
  obtain ⟨k, hk⟩ := bit_vals (r := x.r) ⟨hr0, r7⟩
  obtain ⟨a, ha⟩ := meet_range (n := n) (maj := voted) hn hv
  obtain ⟨b, hb⟩ := meet_range (n := n) (maj := maj) hn hm
  have la := fun r h => mem_meet (n := n) (maj := voted) hn hv (r := r) h
  have lb := fun r h => mem_meet (n := n) (maj := maj) hn hm (r := r) h
  rw [ha] at hc1 la ⊢
  rw [hb] at hc2 lb ⊢
  have wf := with_fin a k
  have of := without_fin b k
  rw [← hk] at wf of
  have qa : ∀ r : Nat, r < 7 → hasS (withS (a.val : Int) x.r) (r : Nat) = true → ((r : Nat) : Int) < n := by
    intro r h7 h
    have w := wf ⟨r, h7⟩
    have w' : hasS (withS (a.val : Int) x.r) (r : Nat) = (hasS (a.val : Int) (r : Nat) || decide ((⟨r, h7⟩ : Fin 7) = k)) := w
    rw [w'] at h
    simp only [Bool.or_eq_true, decide_eq_true_eq] at h
    rcases h with h | h
    · exact la r (mem_listS.2 ⟨h7, h⟩)
    · have : r = k.val := congrArg Fin.val h
      omega
  have qb : ∀ r ∈ listS (withoutS (b.val : Int) x.r), ((r : Nat) : Int) < n ∧ ((r : Nat) : Int) ≠ x.r := by
    intro r h
    obtain ⟨h7, h⟩ := mem_listS.1 h
    have w' : hasS (withoutS (b.val : Int) x.r) (r : Nat) = (hasS (b.val : Int) (r : Nat) && !decide ((⟨r, h7⟩ : Fin 7) = k)) := of.2 ⟨r, h7⟩
    rw [w'] at h
    simp only [Bool.and_eq_true, Bool.not_eq_true', decide_eq_false_iff_not] at h
    refine ⟨lb r (mem_listS.2 ⟨h7, h.1⟩), fun e => h.2 ?_⟩
    apply Fin.ext
    show r = k.val
    omega
  have rg : ∃ c : Fin 128, withoutS (b.val : Int) x.r = (c.val : Int) := by
    have nn : 0 ≤ withoutS (b.val : Int) x.r := by unfold withoutS; omega
    exact ⟨⟨(withoutS (b.val : Int) x.r).toNat, by have := of.1; omega⟩, by show _ = (((withoutS (b.val : Int) x.r).toNat : Nat) : Int); omega⟩
  generalize withS (a.val : Int) x.r = Q at *
  generalize withoutS (b.val : Int) x.r = M at *
  have OL := okL_G (wV x Q os) hn hid hr rg (fun r h => (qb r h).1) (wV_ok hx hs ho) hc2
  have OL' : okL n x.r x.sl (toldsW M x Q os (listS M).length) := OL
  have len : (toldsW M x Q os (listS M).length).length = (listS M).length := by unfold toldsW; simp
  have at' := fun i (hi : i < (listS M).length) => toldsG_at M (wV x Q os) hi
  have ie := cnt_ie n.toNat (fun r => Q.toNat.testBit r) (fun r => M.toNat.testBit r) (List.range 7) (by
    intro r hr' hp
    have r7 : r < 7 := List.mem_range.1 hr'
    have := qa r r7 (by rw [hasS_nat Q r r7]; exact hp)
    omega) (by
    intro r hr' hp
    have r7 : r < 7 := List.mem_range.1 hr'
    have := (qb r (mem_listS.2 ⟨r7, by rw [hasS_nat M r r7]; exact hp⟩)).1
    omega)
  have e : (List.range 7).countP (fun r => decide (r < n.toNat)) = n.toNat := by
    rcases F with ⟨rfl, _⟩ | ⟨rfl, _⟩ | ⟨rfl, _⟩ <;> decide
  rw [e] at ie
  have ie' : cntS Q + cntS M ≤ n.toNat + ((List.range 7).countP fun r => Q.toNat.testBit r && M.toNat.testBit r) := ie
  have sp := sw_spec (toldsW M x Q os (listS M).length) _ (Nat.le_refl _)
  have cnt : ((List.range 7).countP fun r => Q.toNat.testBit r && M.toNat.testBit r) ≤ (swN (toldsW M x Q os (listS M).length) (toldsW M x Q os (listS M).length).length).1 := by
    rw [sp.1, List.take_length]
    unfold toldsW
    rw [List.take_length, List.countP_map]
    unfold listS
    rw [List.countP_filter]
    apply List.countP_mono_left
    intro r hr' hp
    have r7 : r < 7 := List.mem_range.1 hr'
    simp only [Bool.and_eq_true] at hp ⊢
    refine ⟨?_, hp.2⟩
    show (wV x Q os r).same = true
    unfold wV
    rw [if_pos (by rw [hasS_nat Q r r7]; exact hp.1)]
    exact hsm
  have hF : fN n ≤ ((swN (toldsW M x Q os (listS M).length) (toldsW M x Q os (listS M).length).length).1 : Nat) := by omega
  have nown : ∀ i, i < (toldsW M x Q os (listS M).length).length → rdInt (elemAt (toldsW M x Q os (listS M).length) i) 0 ≠ x.r := by
    intro i hi
    rw [len] at hi
    have hT : elemAt (toldsW M x Q os (listS M).length) i = toldE (((listS M).getD i 0 : Nat) : Int) (wV x Q os ((listS M).getD i 0)) := at' i hi
    rw [hT]
    have mem : (listS M).getD i 0 ∈ listS M := by
      rw [List.getD_eq_getElem?_getD, List.getElem?_eq_getElem hi]
      exact List.getElem_mem hi
    exact (qb _ mem).2
  refine ⟨OL', .inr (.inr ⟨nown, hF⟩), ?_⟩
  generalize hT : toldsW M x Q os (listS M).length = T at *
  unfold choK choX
  cases h1 : firstB T
  · cases h2 : (bestN T 2 T.length).1
    · right; right
      refine ⟨by simp, ?_⟩
      simp only [if_neg (show ¬ (false = true) by decide)]
      obtain ⟨j, hj, e1, e2⟩ := sp.2 (by omega)
      rw [e1]
      have ej : elemAt T j = toldE (((listS M).getD j 0 : Nat) : Int) (wV x Q os ((listS M).getD j 0)) := by rw [← hT]; exact at' j (by omega)
      rw [ej] at e2 ⊢
      exact wV_alike e2
    · right; left; simp
  · left; simp
theorem okLawSwift210 : OkLawSwift210 := by
  intro n x voted os maj hq hv hm
  obtain ⟨hs, ho, hl⟩ := hq
  refine vcLawSwift210 n x voted os maj ?_
  simp only [true_and, and_true, forall_eq, eq_self, Int.toNat_natCast]
  refine cond_prop (fun _ => trivial) fun h1 => ⟨hs, cond_prop (fun _ => trivial) fun h2 => cond_prop (fun _ => trivial) fun h3 => cond_prop (fun _ => trivial) fun h4 => cond_prop (fun _ => trivial) fun h5 => ?_⟩
  have hn : rightN n = true := by simpa using h1
  have hx : rightI x = true := by simpa using h2
  have hsm : x.same = true := by simpa using h3
  have hr : x.r < n := by simpa using h4
  refine ⟨hn, hn, hn, cond_prop (fun _ => trivial) fun h6 => ⟨hn, cond_prop (fun _ => trivial) fun h7 => ?_⟩⟩
  have hc1 : 2 * fN n ≤ (cntS (withS (meetS voted (allS n)) x.r) : Nat) := by simpa using h6
  have hc2 : fN n + 1 ≤ (cntS (withoutS (meetS maj (allS n)) x.r) : Nat) := by simpa using h7
  obtain ⟨OL, E1, E2⟩ := swift_end hn hx hr hs hsm ho hm hv hc1 hc2
  generalize withS (meetS voted (allS n)) x.r = VS at *
  generalize withoutS (meetS maj (allS n)) x.r = MJ at *
  refine ⟨?_, fun i hi => cond_prop (fun h => ?_) fun h => ?_⟩
  · obtain ⟨z, hz⟩ : ∃ z : Nat, z = 0 := ⟨_, rfl⟩
    have t0 : toldsW MJ x VS os z = [] := by rw [hz]; simp [toldsW]
    refine ⟨z, ⟨⟨by rw [t0], by rw [nats_len], by rw [hz]; rfl⟩, by rw [t0]; rfl⟩, by omega⟩
  · have h' : i < (listS MJ).length := by simpa using h
    have l7 : (listS MJ).length ≤ 7 := by
      unfold listS
      have := List.length_filter_le (fun r => MJ.toNat.testBit r) (List.range 7)
      simpa using this
    have w1 : IntKind.i64.wrap ((i : Int) + 1) = ((i + 1 : Nat) : Int) := by rw [wrap_i64 (by omega) (by omega)]; rfl
    have ts := toldsW_succ (m := MJ) (x := x) (vs := VS) (os := os) h'
    have li := toldsW_lenI MJ x VS os hi
    have lj := toldsW_lenI MJ x VS os (i := i + 1) (by omega)
    have wd := toldsW_width MJ x VS os i
    obtain ⟨j, hj⟩ : ∃ j : Nat, j = i + 1 := ⟨_, rfl⟩
    rw [← hj] at w1 ts lj
    have nk := nats_ok h'
    have nr := nats_rd h'
    simp only [nr, nats_len, Int.toNat_natCast]
    generalize (listS MJ).getD i 0 = r at *
    refine ⟨⟨by omega, by omega, nk.1⟩, nk.2, ?_⟩
    have leaf : ∀ y, wV x VS os r = y → (((((toldsW MJ x VS os i).length + 1) * 192 ≤ 140737488355328) ∧ ((toldsW MJ x VS os i).length + 1 ≤ 9223372036854775807) ∧ okWidth 23 (toldsW MJ x VS os i) ∧ okWidth 23 [toldE (r : Int) y]) ∧
        ∃ v : Nat, ((AV.sl (catL (toldsW MJ x VS os i) [toldE (r : Int) y]) (Own.row 11 0 68) = AV.sl (toldsW MJ x VS os v) (Own.row 11 0 68) ∧ AV.int .i64 (IntKind.i64.wrap ((i : Int) + 1)) = AV.int .i64 (v : Int)) ∧ (toldsW MJ x VS os i).length + 1 = (toldsW MJ x VS os v).length) ∧ v ≤ (listS MJ).length ∧ (listS MJ).length - v < (listS MJ).length - i) := by
      intro y hy
      rw [hy] at ts
      exact ⟨⟨by omega, by omega, wd, width_one _ _⟩, j, ⟨⟨by rw [ts]; rfl, by rw [w1]⟩, by omega⟩, by omega, by omega⟩
    have nw : hasS VS r = false → ¬ (r < os.length ∧ rightI (instV (elemAt os r)) = true ∧ (instV (elemAt os r)).r = x.r ∧ (instV (elemAt os r)).sl = x.sl ∧ ((instV (elemAt os r)).same = false ∨ alikeI (instV (elemAt os r)) x = true) ∧ (instV (elemAt os r)).c.path.length ≤ 100) → wV x VS os r = newI x.r x.sl := by
      intro g k; unfold wV; rw [if_neg (by simp [g]), if_neg k]
    refine cond_prop (fun g => ?_) fun g => leaf x (by unfold wV; rw [if_pos (by simpa using g)])
    have g' : hasS VS r = false := by simpa using g
    refine cond_prop (fun k1 => ?_) fun k1 => leaf _ (nw g' (fun t => absurd (Int.ofNat_lt.2 t.1) (of_decide_eq_false k1)))
    have k1' : r < os.length := by simpa using k1
    obtain ⟨o1, o2, o3⟩ := ho r k1'
    have b : (0 : Int) ≤ (r : Int) ∧ (r : Int) < (os.length : Int) ∧ okElem 22 os r := ⟨by omega, by omega, o1⟩
    have iv := fun t => (show wV x VS os r = instV (elemAt os r) from by unfold wV; rw [if_neg (by simp [g']), if_pos t])
    refine ⟨b, o2, o3, cond_prop (fun k2 => ⟨b, inst_id o2, cond_prop (fun k3 => ⟨b, inst_same o2, cond_prop (fun k4 => ⟨b, inst_path o2, cond_prop (fun k5 => ?_) fun k5 => ?_⟩) fun k4 => ⟨b, o2, cond_prop (fun k6 => ⟨b, inst_path o2, cond_prop (fun k5 => ?_) fun k5 => ?_⟩) fun k6 => ?_⟩⟩) fun k3 => ?_⟩) fun k2 => ?_⟩
    · have a3 : (instV (elemAt os r)).r = x.r ∧ (instV (elemAt os r)).sl = x.sl := by simpa using k3
      have a4 : (instV (elemAt os r)).c.path.length ≤ 100 := Int.ofNat_le.1 (of_decide_eq_true k5)
      have lf := leaf _ (iv ⟨k1', k2, a3.1, a3.2, .inl (by simpa using k4), a4⟩)
      exact ⟨b, o2, lf⟩
    · exact leaf _ (nw g' (fun t => absurd (Int.ofNat_le.2 t.2.2.2.2.2) (of_decide_eq_false k5)))
    · have a3 : (instV (elemAt os r)).r = x.r ∧ (instV (elemAt os r)).sl = x.sl := by simpa using k3
      have a4 : (instV (elemAt os r)).c.path.length ≤ 100 := Int.ofNat_le.1 (of_decide_eq_true k5)
      have lf := leaf _ (iv ⟨k1', k2, a3.1, a3.2, .inr k6, a4⟩)
      exact ⟨b, o2, lf⟩
    · exact leaf _ (nw g' (fun t => absurd (Int.ofNat_le.2 t.2.2.2.2.2) (of_decide_eq_false k5)))
    · refine leaf _ (nw g' (fun t => ?_))
      rcases t.2.2.2.2.1 with t | t
      · rw [t] at k4; cases k4
      · rw [t] at k6; cases k6
    · refine leaf _ (nw g' (fun t => ?_))
      rw [t.2.2.1, t.2.2.2.1] at k3
      simp at k3
    · refine leaf _ (nw g' (fun t => ?_))
      rw [t.2.1] at k2; cases k2
  · have h' : i = (listS MJ).length := by simp at h; omega
    rw [h']
    refine ⟨⟨OL, E1⟩, ?_⟩
    rcases E2 with e | e | ⟨e, E3⟩
    · simp only [e]; exact trivial
    · simp only [e]; exact trivial
    · have al : alikeI ⟨x.r, x.sl, 1, 0, 0, false, (choX (toldsW MJ x VS os (listS MJ).length)).c, (choX (toldsW MJ x VS os (listS MJ).length)).a⟩ x = true := E3
      simp only [e]; exact al.symm
end Go.Proofs.YtcokifdgbfbonaaDoor
/- The contracts are met. -/
namespace Go.Proofs.YtcokifdgbfbonaaDoor
set_option linter.unusedVariables false
set_option linter.unusedSimpArgs false
open Go.RowKit
theorem sndLawSwift21 : Sound Tryd.prog (lookΓ gamLawSwift21) := sound_of _ fun p hp => by
  simp only [gamLawSwift21, List.mem_cons, List.not_mem_nil, or_false] at hp
  rcases hp with rfl | rfl | rfl | rfl | rfl | rfl | rfl | rfl | rfl | rfl | rfl | rfl | rfl | rfl | rfl
  · exact meetsAnchor21.orNil
  · exact meetsCrewRight.orNil
  · exact meetsIright.orNil
  · exact meetsAllC.orNil
  · exact meetsMeetC.orNil
  · exact meetsWithC.orNil
  · exact meetsWithoutC.orNil
  · exact meetsCountC.orNil
  · exact meetsCrewFast.orNil
  · exact meetsCrewMaj.orNil
  · exact meetsListC.orNil
  · exact meetsHasC.orNil
  · exact meetsInew.orNil
  · exact meetsAlike.orNil
  · exact meetsChoose2.orNil
set_option maxHeartbeats 4000000 in
theorem meetsLawSwift21 : Meets Tryd.prog 9 lawSwift21F := by
  refine meets_of_awp (Γ := lookΓ gamLawSwift21) (L := fun args => match args with | [.val (.int .i64 n), .val (.agg zcx), .val (.int .u8 voted), .val (.sl os .no), .val (.int .u8 maj)] => (match instOf zcx with | some x => lpLawSwift210 n x voted os maj | _ => fun _ => none) | _ => fun _ => none) sndLawSwift21 mixedOrders Tryd.func9 rfl Tryd.call9 ?_
  intro args q r hF hq ho
  unfold lawSwift21F at hF
  split at hF
  · split at hF
    · rename_i x hzx
      obtain rfl := instOf_some hzx
      cases hF
      exact ⟨by simp only [List.length_cons, List.length_nil]; decide, okLawSwift210 _ _ _ _ _ hq (okay_u8 (argI 2 ho rfl rfl)) (okay_u8 (argI 4 ho rfl rfl))⟩
    · cases hF
  · cases hF
end Go.Proofs.YtcokifdgbfbonaaDoor
