/- Contracts by content, their conditions, and that they are met: PkL. -/
import Derived.Test.YtcokifdgbfbonaaDoorLaxPkC
/- Contracts by content, and the conditions that their code must meet. -/
namespace Go.Proofs.YtcokifdgbfbonaaDoor
set_option linter.unusedVariables false
set_option linter.unusedSimpArgs false
open Go.RowKit
def instV (e : AV) : InstP := ⟨rdInt e 0, rdInt e 1, rdInt e 2, rdInt e 3, rdInt e 4, rdBool e 5, ⟨rdInt e 6, rdInt e 7, rdStr e 8, rdInt e 9, rdStr e 10, rdInt e 11, rdInt e 12, rdInt e 13⟩, ⟨rdInt e 14, rdInt e 15, rdInt e 16, rdInt e 17, rdInt e 18, rdInt e 19, rdInt e 20, rdInt e 21⟩⟩
def instKs : List Kd := [.int .i64, .int .i64, .int .i64, .int .u32, .int .u32, .bool, .int .i64, .int .u64, .str, .int .u64, .str, .int .i64, .int .u64, .int .i64, .int .i64, .int .i64, .int .i64, .int .i64, .int .i64, .int .i64, .int .i64, .int .i64]
def isInsts (os : List AV) : Prop := ∀ i, i < os.length → okElem 22 os i ∧ okRead instKs (elemAt os i) 0 ∧ smallX (instV (elemAt os i))
/-- what a replica tells that voted, or that knows something else -/
def yV (x : InstP) (vs : Int) (os : List AV) (r : Nat) : InstP :=
  if hasS vs r = true then x
  else if r < os.length ∧ rightI (instV (elemAt os r)) = true ∧ (instV (elemAt os r)).r = x.r ∧ (instV (elemAt os r)).sl = x.sl ∧ (instV (elemAt os r)).c.path.length ≤ 100 ∧ ((instV (elemAt os r)).st < 2 ∨ alikeI (instV (elemAt os r)) x = true ∨ ((instV (elemAt os r)).st = 2 ∧ (instV (elemAt os r)).vote < x.vote)) then instV (elemAt os r)
  else newI x.r x.sl
def toldsV (m : Int) (x : InstP) (vs : Int) (os : List AV) (i : Nat) : List AV := ((listS m).take i).map fun r => toldE (r : Nat) (yV x vs os r)
def loopVoted (n : Int) (x : InstP) (vs : Int) (os : List AV) (m : Int) : LoopInv :=
  { V := Nat
    T := fun i => [(0, .int .i64 n), (2, .int .u8 vs), (3, .sl os .no), (6, .ptr 6 0), (11, .sl (toldsV m x vs os i) (.row 11 0 68)), (68, .sl (natsAV (listS m)) .no), (69, .int .i64 ((listS m).length : Int)), (70, .int .i64 (i : Int))]
    B := fun i => [(6, instL x)]
    R := fun i => [((11, 0), (toldsV m x vs os i).length)]
    inv := fun i => i ≤ (listS m).length
    mu := fun i => (listS m).length - i }
def anchor21F : Con
  | [] => (some (True, ⟨.bool true, none, none⟩))
  | _ => none
def gamAnchor21 : List (Nat × Con) := [(43, inewF.orNil), (44, choose2F.orNil), (34, alikeF.orNil)]
def lpAnchor210  : Nat → Option LoopPlan := fun _ => none
def inAnchor210  : Prop := awp [] (lpAnchor210) (lookΓ gamAnchor21) Tryd.prog Tryd.f35.ntmps 0 (Tryd.f35.body.getD .skip) (entrySt []) (exitQ Tryd.prog Tryd.f35.results.toList [] ⟨.bool true, none, none⟩)
def OkAnchor210 : Prop := True → inAnchor210
def lawVotedF : Con
  | [.val (.int .i64 n), .val (.agg zcx), .val (.int .u8 voted), .val (.sl os .no), .val (.int .u8 maj)] => (match instOf zcx with | some x => some (smallX x ∧ isInsts os ∧ os.length ≤ 9223372036854775807, ⟨.bool true, none, none⟩) | _ => none)
  | _ => none
def gamLawVoted : List (Nat × Con) := [(35, anchor21F.orNil), (36, crewRightF.orNil), (26, irightF.orNil), (38, allCF.orNil), (37, meetCF.orNil), (39, countCF.orNil), (40, crewMajF.orNil), (41, listCF.orNil), (42, hasCF.orNil), (43, inewF.orNil), (34, alikeF.orNil), (44, choose2F.orNil)]
def lpLawVoted0 (n : Int) (x : InstP) (voted : Int) (os : List AV) (maj : Int) : Nat → Option LoopPlan := fun b => bif Nat.beq b 0 then some (.inv [.nilT 11 11 0 68] (loopVoted n x (meetS voted (allS n)) os (meetS maj (allS n)))) else none
def inLawVoted0 (n : Int) (x : InstP) (voted : Int) (os : List AV) (maj : Int) : Prop := awp [] (lpLawVoted0 n x voted os maj) (lookΓ gamLawVoted) Tryd.prog Tryd.f8.ntmps 0 (Tryd.f8.body.getD .skip) (entrySt [.val (.int .i64 n), .val (.agg (instL x)), .val (.int .u8 voted), .val (.sl os .no), .val (.int .u8 maj)]) (exitQ Tryd.prog Tryd.f8.results.toList [] ⟨.bool true, none, none⟩)
def OkLawVoted0 : Prop := ∀ (n : Int) (x : InstP) (voted : Int) (os : List AV) (maj : Int), smallX x ∧ isInsts os ∧ os.length ≤ 9223372036854775807 → (0 ≤ voted ∧ voted ≤ 255) → (0 ≤ maj ∧ maj ≤ 255) → inLawVoted0 n x voted os maj
end Go.Proofs.YtcokifdgbfbonaaDoor
/- What the verification conditions come to: printed by a program of ours (wip/lax/ex/Norm.lean). -/
namespace Go.Proofs.YtcokifdgbfbonaaDoor
set_option linter.unusedVariables false
open Go.RowKit
set_option maxRecDepth 100000
theorem vcAnchor210 (h : (tt ∧ T1 ∧ tt ∧ T1 ∧ T1 ∧ tt ∧ tt ∧ tt ∧ T1 ∧ T1 ∧ tt ∧ tt ∧ tt ∧ tt ∧ (T1 ∧ True) ∧ T1 ∧ tt ∧ T1 ∧ T1 ∧ (T1 ∧ (okL (3 : Int) (0 : Int) (0 : Int) [(AV.agg [(AV.int Go.IntKind.i64 (1 : Int)), (AV.int Go.IntKind.i64 (0 : Int)), (AV.int Go.IntKind.i64 (0 : Int)), (AV.int Go.IntKind.i64 (0 : Int)), (AV.int Go.IntKind.u32 (0 : Int)), (AV.int Go.IntKind.u32 (0 : Int)), (AV.bool false), (AV.int Go.IntKind.i64 (0 : Int)), (AV.int Go.IntKind.u64 (0 : Int)), (AV.str (@List.nil.{0} UInt8)), (AV.int Go.IntKind.u64 (0 : Int)), (AV.str (@List.nil.{0} UInt8)), (AV.int Go.IntKind.i64 (0 : Int)), (AV.int Go.IntKind.u64 (0 : Int)), (AV.int Go.IntKind.i64 (0 : Int)), (AV.int Go.IntKind.i64 (0 : Int)), (AV.int Go.IntKind.i64 (0 : Int)), (AV.int Go.IntKind.i64 (0 : Int)), (AV.int Go.IntKind.i64 (0 : Int)), (AV.int Go.IntKind.i64 (0 : Int)), (AV.int Go.IntKind.i64 (0 : Int)), (AV.int Go.IntKind.i64 (0 : Int)), (AV.int Go.IntKind.i64 (0 : Int))]), (AV.agg [(AV.int Go.IntKind.i64 (2 : Int)), (AV.int Go.IntKind.i64 (0 : Int)), (AV.int Go.IntKind.i64 (0 : Int)), (AV.int Go.IntKind.i64 (1 : Int)), (AV.int Go.IntKind.u32 (0 : Int)), (AV.int Go.IntKind.u32 (0 : Int)), (AV.bool true), (AV.int Go.IntKind.i64 (0 : Int)), (AV.int Go.IntKind.u64 (0 : Int)), (AV.str (@List.nil.{0} UInt8)), (AV.int Go.IntKind.u64 (0 : Int)), (AV.str (@List.nil.{0} UInt8)), (AV.int Go.IntKind.i64 (0 : Int)), (AV.int Go.IntKind.u64 (0 : Int)), (AV.int Go.IntKind.i64 (0 : Int)), (AV.int Go.IntKind.i64 (0 : Int)), (AV.int Go.IntKind.i64 (0 : Int)), (AV.int Go.IntKind.i64 (0 : Int)), (AV.int Go.IntKind.i64 (0 : Int)), (AV.int Go.IntKind.i64 (0 : Int)), (AV.int Go.IntKind.i64 (0 : Int)), (AV.int Go.IntKind.i64 (0 : Int)), (AV.int Go.IntKind.i64 (0 : Int))])]) ∧ (okCh (3 : Int) (0 : Int) [(AV.agg [(AV.int Go.IntKind.i64 (1 : Int)), (AV.int Go.IntKind.i64 (0 : Int)), (AV.int Go.IntKind.i64 (0 : Int)), (AV.int Go.IntKind.i64 (0 : Int)), (AV.int Go.IntKind.u32 (0 : Int)), (AV.int Go.IntKind.u32 (0 : Int)), (AV.bool false), (AV.int Go.IntKind.i64 (0 : Int)), (AV.int Go.IntKind.u64 (0 : Int)), (AV.str (@List.nil.{0} UInt8)), (AV.int Go.IntKind.u64 (0 : Int)), (AV.str (@List.nil.{0} UInt8)), (AV.int Go.IntKind.i64 (0 : Int)), (AV.int Go.IntKind.u64 (0 : Int)), (AV.int Go.IntKind.i64 (0 : Int)), (AV.int Go.IntKind.i64 (0 : Int)), (AV.int Go.IntKind.i64 (0 : Int)), (AV.int Go.IntKind.i64 (0 : Int)), (AV.int Go.IntKind.i64 (0 : Int)), (AV.int Go.IntKind.i64 (0 : Int)), (AV.int Go.IntKind.i64 (0 : Int)), (AV.int Go.IntKind.i64 (0 : Int)), (AV.int Go.IntKind.i64 (0 : Int))]), (AV.agg [(AV.int Go.IntKind.i64 (2 : Int)), (AV.int Go.IntKind.i64 (0 : Int)), (AV.int Go.IntKind.i64 (0 : Int)), (AV.int Go.IntKind.i64 (1 : Int)), (AV.int Go.IntKind.u32 (0 : Int)), (AV.int Go.IntKind.u32 (0 : Int)), (AV.bool true), (AV.int Go.IntKind.i64 (0 : Int)), (AV.int Go.IntKind.u64 (0 : Int)), (AV.str (@List.nil.{0} UInt8)), (AV.int Go.IntKind.u64 (0 : Int)), (AV.str (@List.nil.{0} UInt8)), (AV.int Go.IntKind.i64 (0 : Int)), (AV.int Go.IntKind.u64 (0 : Int)), (AV.int Go.IntKind.i64 (0 : Int)), (AV.int Go.IntKind.i64 (0 : Int)), (AV.int Go.IntKind.i64 (0 : Int)), (AV.int Go.IntKind.i64 (0 : Int)), (AV.int Go.IntKind.i64 (0 : Int)), (AV.int Go.IntKind.i64 (0 : Int)), (AV.int Go.IntKind.i64 (0 : Int)), (AV.int Go.IntKind.i64 (0 : Int)), (AV.int Go.IntKind.i64 (0 : Int))])])) ∧ T1 ∧ T1 ∧ T1 ∧ T1 ∧ T1 ∧ T1 ∧ tt ∧ T1 ∧ tt ∧ tt ∧ tt ∧ (T1 ∧ (false = false)) ∧ T1 ∧ T1 ∧ T1 ∧ T1 ∧ T1 ∧ T1 ∧ tt ∧ T1 ∧ tt ∧ T1 ∧ T1 ∧ T1 ∧ tt ∧ tt ∧ (T1 ∧ True) ∧ T1 ∧ T1 ∧ T1 ∧ T1 ∧ T1 ∧ T1 ∧ T1 ∧ T1 ∧ T1 ∧ T1 ∧ tt ∧ tt ∧ (tt ∧ True) ∧ tt)) : inAnchor210 :=
  Eq.mp (show _ = _ by kernel_rfl) h
theorem vcLawVoted0 (n : Int) (x : InstP) (voted : Int) (os : (@List.{0} AV)) (maj : Int) (h : (tt ∧ T1 ∧ T1 ∧ tt ∧ (T1 ∧ True) ∧ T1 ∧ tt ∧ T1 ∧ (T1 ∧ True) ∧ T1 ∧ T1 ∧ (bif (Bool.not (rightN n)) then (tt ∧ T1 ∧ tt ∧ T1 ∧ tt ∧ T1 ∧ tt ∧ tt ∧ T1 ∧ tt ∧ tt ∧ (tt ∧ True) ∧ tt) else (tt ∧ (T1 ∧ (smallX x)) ∧ T1 ∧ T1 ∧ T1 ∧ (bif (Bool.not (rightI x)) then (tt ∧ T1 ∧ tt ∧ T1 ∧ tt ∧ tt ∧ T1 ∧ tt ∧ tt ∧ (tt ∧ True) ∧ tt) else (T1 ∧ tt ∧ T1 ∧ T1 ∧ T1 ∧ (bif ((InstP.st x) != (2 : Int)) then (tt ∧ T1 ∧ tt ∧ tt ∧ T1 ∧ tt ∧ tt ∧ (tt ∧ True) ∧ tt) else (T1 ∧ T1 ∧ tt ∧ T1 ∧ T1 ∧ T1 ∧ T1 ∧ (bif (decide (n ≤ (InstP.r x))) then (tt ∧ tt ∧ T1 ∧ tt ∧ tt ∧ (tt ∧ True) ∧ tt) else (T1 ∧ T1 ∧ tt ∧ T1 ∧ T1 ∧ T1 ∧ (bif (decide ((100 : Int) < (@Nat.cast Int _ (List.length (CmdP.path (InstP.c x)))))) then (tt ∧ T1 ∧ tt ∧ tt ∧ (tt ∧ True) ∧ tt) else (tt ∧ T1 ∧ T1 ∧ (T1 ∧ ((rightN n) = true)) ∧ (∀ (v0 : Int), (∀ (v1 : (v0 = (allS n))), ((T1 ∧ True) ∧ (∀ (v2 : Int), (∀ (v3 : (v2 = (meetS voted v0))), (T1 ∧ T1 ∧ (T1 ∧ ((rightN n) = true)) ∧ (∀ (v4 : Int), (∀ (v5 : (v4 = (allS n))), ((T1 ∧ True) ∧ (∀ (v6 : Int), (∀ (v7 : (v6 = (meetS maj v4))), (T1 ∧ T1 ∧ tt ∧ T1 ∧ (T1 ∧ True) ∧ (∀ (v8 : Int), (∀ (v9 : (v8 = (@Nat.cast Int _ (cntS v2)))), (T1 ∧ (T1 ∧ ((rightN n) = true)) ∧ (∀ (v10 : Int), (∀ (v11 : (v10 = ((fN n) + (1 : Int)))), (T1 ∧ T1 ∧ (bif (decide (v8 < v10)) then (tt ∧ tt ∧ T1 ∧ tt ∧ tt ∧ (tt ∧ True) ∧ tt) else (T1 ∧ (T1 ∧ True) ∧ (∀ (v12 : Int), (∀ (v13 : (v12 = (@Nat.cast Int _ (cntS v6)))), (T1 ∧ (T1 ∧ ((rightN n) = true)) ∧ (∀ (v14 : Int), (∀ (v15 : (v14 = ((fN n) + (1 : Int)))), (T1 ∧ T1 ∧ (bif (decide (v12 < v14)) then (tt ∧ T1 ∧ tt ∧ tt ∧ (tt ∧ True) ∧ tt) else (tt ∧ T1 ∧ tt ∧ T1 ∧ (T1 ∧ True) ∧ (∀ (v16 : (@List.{0} AV)), (∀ (v17 : (v16 = (natsAV (listS v6)))), (T1 ∧ T1 ∧ (@Exists.{1} (LoopInv.V (loopVoted n x (meetS voted (allS n)) os (meetS maj (allS n)))) (fun (v18 : Nat) => (((((AV.int Go.IntKind.i64 n) = (AV.int Go.IntKind.i64 n)) ∧ ((AV.int Go.IntKind.u8 v2) = (AV.int Go.IntKind.u8 (meetS voted (allS n)))) ∧ ((AV.sl os Own.no) = (AV.sl os Own.no)) ∧ ((AV.ptr 6 0) = (AV.ptr 6 0)) ∧ ((AV.sl (@List.nil.{0} AV) (Own.row 11 0 68)) = (AV.sl (toldsV (meetS maj (allS n)) x (meetS voted (allS n)) os v18) (Own.row 11 0 68))) ∧ ((AV.sl v16 Own.no) = (AV.sl (natsAV (listS (meetS maj (allS n)))) Own.no)) ∧ ((AV.int Go.IntKind.i64 (@Nat.cast Int _ (List.length v16))) = (AV.int Go.IntKind.i64 (@Nat.cast Int _ (List.length (listS (meetS maj (allS n))))))) ∧ ((AV.int Go.IntKind.i64 (0 : Int)) = (AV.int Go.IntKind.i64 (@Nat.cast Int _ v18))) ∧ True) ∧ (((@Option.some.{0} (@List.{0} AV) (instL x)) = (@Option.some.{0} (@List.{0} AV) (instL x))) ∧ True) ∧ ((@Eq.{1} Nat 0 (List.length (toldsV (meetS maj (allS n)) x (meetS voted (allS n)) os v18))) ∧ True) ∧ tt ∧ tt) ∧ (v18 ≤ (List.length (listS (meetS maj (allS n)))))))) ∧ (∀ (v18 : Nat), (∀ (v19 : (v18 ≤ (List.length (listS (meetS maj (allS n)))))), (tt ∧ T1 ∧ (bif (decide ((@Nat.cast Int _ v18) < (@Nat.cast Int _ (List.length (listS (meetS maj (allS n))))))) then (tt ∧ (((0 : Int) ≤ (@Nat.cast Int _ v18)) ∧ ((@Nat.cast Int _ v18) < (@Nat.cast Int _ (List.length (natsAV (listS (meetS maj (allS n))))))) ∧ (okElem 1 (natsAV (listS (meetS maj (allS n)))) (Int.toNat (@Nat.cast Int _ v18)))) ∧ (okRead [(Kd.int Go.IntKind.i64)] (elemAt (natsAV (listS (meetS maj (allS n)))) (Int.toNat (@Nat.cast Int _ v18))) 0) ∧ T1 ∧ tt ∧ tt ∧ T1 ∧ tt ∧ tt ∧ T1 ∧ T1 ∧ (T1 ∧ True) ∧ T1 ∧ (bif (Bool.not (hasS (meetS voted (allS n)) (rdInt (elemAt (natsAV (listS (meetS maj (allS n)))) (Int.toNat (@Nat.cast Int _ v18))) 0))) then (tt ∧ T1 ∧ tt ∧ (T1 ∧ True) ∧ tt ∧ tt ∧ T1 ∧ T1 ∧ T1 ∧ T1 ∧ T1 ∧ (bif (decide ((rdInt (elemAt (natsAV (listS (meetS maj (allS n)))) (Int.toNat (@Nat.cast Int _ v18))) 0) < (@Nat.cast Int _ (List.length os)))) then (T1 ∧ T1 ∧ (((0 : Int) ≤ (rdInt (elemAt (natsAV (listS (meetS maj (allS n)))) (Int.toNat (@Nat.cast Int _ v18))) 0)) ∧ ((rdInt (elemAt (natsAV (listS (meetS maj (allS n)))) (Int.toNat (@Nat.cast Int _ v18))) 0) < (@Nat.cast Int _ (List.length os))) ∧ (okElem 22 os (Int.toNat (rdInt (elemAt (natsAV (listS (meetS maj (allS n)))) (Int.toNat (@Nat.cast Int _ v18))) 0)))) ∧ (okRead [(Kd.int Go.IntKind.i64), (Kd.int Go.IntKind.i64), (Kd.int Go.IntKind.i64), (Kd.int Go.IntKind.u32), (Kd.int Go.IntKind.u32), Kd.bool, (Kd.int Go.IntKind.i64), (Kd.int Go.IntKind.u64), Kd.str, (Kd.int Go.IntKind.u64), Kd.str, (Kd.int Go.IntKind.i64), (Kd.int Go.IntKind.u64), (Kd.int Go.IntKind.i64), (Kd.int Go.IntKind.i64), (Kd.int Go.IntKind.i64), (Kd.int Go.IntKind.i64), (Kd.int Go.IntKind.i64), (Kd.int Go.IntKind.i64), (Kd.int Go.IntKind.i64), (Kd.int Go.IntKind.i64), (Kd.int Go.IntKind.i64)] (elemAt os (Int.toNat (rdInt (elemAt (natsAV (listS (meetS maj (allS n)))) (Int.toNat (@Nat.cast Int _ v18))) 0))) 0) ∧ (T1 ∧ (smallX (instV (elemAt os (Int.toNat (rdInt (elemAt (natsAV (listS (meetS maj (allS n)))) (Int.toNat (@Nat.cast Int _ v18))) 0)))))) ∧ T1 ∧ T1 ∧ (bif (rightI (instV (elemAt os (Int.toNat (rdInt (elemAt (natsAV (listS (meetS maj (allS n)))) (Int.toNat (@Nat.cast Int _ v18))) 0))))) then (T1 ∧ T1 ∧ (((0 : Int) ≤ (rdInt (elemAt (natsAV (listS (meetS maj (allS n)))) (Int.toNat (@Nat.cast Int _ v18))) 0)) ∧ ((rdInt (elemAt (natsAV (listS (meetS maj (allS n)))) (Int.toNat (@Nat.cast Int _ v18))) 0) < (@Nat.cast Int _ (List.length os))) ∧ (okElem 22 os (Int.toNat (rdInt (elemAt (natsAV (listS (meetS maj (allS n)))) (Int.toNat (@Nat.cast Int _ v18))) 0)))) ∧ T1 ∧ (okRead [(Kd.int Go.IntKind.i64), (Kd.int Go.IntKind.i64)] (elemAt os (Int.toNat (rdInt (elemAt (natsAV (listS (meetS maj (allS n)))) (Int.toNat (@Nat.cast Int _ v18))) 0))) 0) ∧ T1 ∧ tt ∧ T1 ∧ T1 ∧ T1 ∧ (bif (Bool.and ((InstP.r (instV (elemAt os (Int.toNat (rdInt (elemAt (natsAV (listS (meetS maj (allS n)))) (Int.toNat (@Nat.cast Int _ v18))) 0))))) == (InstP.r x)) (Bool.and ((InstP.sl (instV (elemAt os (Int.toNat (rdInt (elemAt (natsAV (listS (meetS maj (allS n)))) (Int.toNat (@Nat.cast Int _ v18))) 0))))) == (InstP.sl x)) true)) then (T1 ∧ T1 ∧ (((0 : Int) ≤ (rdInt (elemAt (natsAV (listS (meetS maj (allS n)))) (Int.toNat (@Nat.cast Int _ v18))) 0)) ∧ ((rdInt (elemAt (natsAV (listS (meetS maj (allS n)))) (Int.toNat (@Nat.cast Int _ v18))) 0) < (@Nat.cast Int _ (List.length os))) ∧ (okElem 22 os (Int.toNat (rdInt (elemAt (natsAV (listS (meetS maj (allS n)))) (Int.toNat (@Nat.cast Int _ v18))) 0)))) ∧ T1 ∧ T1 ∧ (okRead [Kd.str] (elemAt os (Int.toNat (rdInt (elemAt (natsAV (listS (meetS maj (allS n)))) (Int.toNat (@Nat.cast Int _ v18))) 0))) 10) ∧ T1 ∧ T1 ∧ T1 ∧ T1 ∧ (bif (decide ((@Nat.cast Int _ (List.length (CmdP.path (InstP.c (instV (elemAt os (Int.toNat (rdInt (elemAt (natsAV (listS (meetS maj (allS n)))) (Int.toNat (@Nat.cast Int _ v18))) 0)))))))) ≤ (100 : Int))) then (T1 ∧ T1 ∧ (((0 : Int) ≤ (rdInt (elemAt (natsAV (listS (meetS maj (allS n)))) (Int.toNat (@Nat.cast Int _ v18))) 0)) ∧ ((rdInt (elemAt (natsAV (listS (meetS maj (allS n)))) (Int.toNat (@Nat.cast Int _ v18))) 0) < (@Nat.cast Int _ (List.length os))) ∧ (okElem 22 os (Int.toNat (rdInt (elemAt (natsAV (listS (meetS maj (allS n)))) (Int.toNat (@Nat.cast Int _ v18))) 0)))) ∧ T1 ∧ (okRead [(Kd.int Go.IntKind.i64)] (elemAt os (Int.toNat (rdInt (elemAt (natsAV (listS (meetS maj (allS n)))) (Int.toNat (@Nat.cast Int _ v18))) 0))) 2) ∧ T1 ∧ T1 ∧ (bif (decide ((InstP.st (instV (elemAt os (Int.toNat (rdInt (elemAt (natsAV (listS (meetS maj (allS n)))) (Int.toNat (@Nat.cast Int _ v18))) 0))))) < (2 : Int))) then (tt ∧ T1 ∧ tt ∧ T1 ∧ tt ∧ tt ∧ T1 ∧ T1 ∧ (((0 : Int) ≤ (rdInt (elemAt (natsAV (listS (meetS maj (allS n)))) (Int.toNat (@Nat.cast Int _ v18))) 0)) ∧ ((rdInt (elemAt (natsAV (listS (meetS maj (allS n)))) (Int.toNat (@Nat.cast Int _ v18))) 0) < (@Nat.cast Int _ (List.length os))) ∧ (okElem 22 os (Int.toNat (rdInt (elemAt (natsAV (listS (meetS maj (allS n)))) (Int.toNat (@Nat.cast Int _ v18))) 0)))) ∧ (okRead [(Kd.int Go.IntKind.i64), (Kd.int Go.IntKind.i64), (Kd.int Go.IntKind.i64), (Kd.int Go.IntKind.u32), (Kd.int Go.IntKind.u32), Kd.bool, (Kd.int Go.IntKind.i64), (Kd.int Go.IntKind.u64), Kd.str, (Kd.int Go.IntKind.u64), Kd.str, (Kd.int Go.IntKind.i64), (Kd.int Go.IntKind.u64), (Kd.int Go.IntKind.i64), (Kd.int Go.IntKind.i64), (Kd.int Go.IntKind.i64), (Kd.int Go.IntKind.i64), (Kd.int Go.IntKind.i64), (Kd.int Go.IntKind.i64), (Kd.int Go.IntKind.i64), (Kd.int Go.IntKind.i64), (Kd.int Go.IntKind.i64)] (elemAt os (Int.toNat (rdInt (elemAt (natsAV (listS (meetS maj (allS n)))) (Int.toNat (@Nat.cast Int _ v18))) 0))) 0) ∧ tt ∧ tt ∧ T1 ∧ T1 ∧ tt ∧ T1 ∧ T1 ∧ (((List.length (toldsV (meetS maj (allS n)) x (meetS voted (allS n)) os v18)) = (List.length (toldsV (meetS maj (allS n)) x (meetS voted (allS n)) os v18))) ∧ ((((List.length (toldsV (meetS maj (allS n)) x (meetS voted (allS n)) os v18)) + 1) * 192) ≤ 140737488355328) ∧ (((List.length (toldsV (meetS maj (allS n)) x (meetS voted (allS n)) os v18)) + 1) ≤ 9223372036854775807) ∧ (okWidth 23 (toldsV (meetS maj (allS n)) x (meetS voted (allS n)) os v18)) ∧ (okWidth 23 [(toldE (rdInt (elemAt (natsAV (listS (meetS maj (allS n)))) (Int.toNat (@Nat.cast Int _ v18))) 0) (instV (elemAt os (Int.toNat (rdInt (elemAt (natsAV (listS (meetS maj (allS n)))) (Int.toNat (@Nat.cast Int _ v18))) 0)))))])) ∧ T1 ∧ tt ∧ T1 ∧ T1 ∧ (@Exists.{1} (LoopInv.V (loopVoted n x (meetS voted (allS n)) os (meetS maj (allS n)))) (fun (v20 : Nat) => (((((AV.int Go.IntKind.i64 n) = (AV.int Go.IntKind.i64 n)) ∧ ((AV.int Go.IntKind.u8 (meetS voted (allS n))) = (AV.int Go.IntKind.u8 (meetS voted (allS n)))) ∧ ((AV.sl os Own.no) = (AV.sl os Own.no)) ∧ ((AV.ptr 6 0) = (AV.ptr 6 0)) ∧ ((AV.sl (@catL AV (toldsV (meetS maj (allS n)) x (meetS voted (allS n)) os v18) [(toldE (rdInt (elemAt (natsAV (listS (meetS maj (allS n)))) (Int.toNat (@Nat.cast Int _ v18))) 0) (instV (elemAt os (Int.toNat (rdInt (elemAt (natsAV (listS (meetS maj (allS n)))) (Int.toNat (@Nat.cast Int _ v18))) 0)))))]) (Own.row 11 0 68)) = (AV.sl (toldsV (meetS maj (allS n)) x (meetS voted (allS n)) os v20) (Own.row 11 0 68))) ∧ ((AV.sl (natsAV (listS (meetS maj (allS n)))) Own.no) = (AV.sl (natsAV (listS (meetS maj (allS n)))) Own.no)) ∧ ((AV.int Go.IntKind.i64 (@Nat.cast Int _ (List.length (listS (meetS maj (allS n)))))) = (AV.int Go.IntKind.i64 (@Nat.cast Int _ (List.length (listS (meetS maj (allS n))))))) ∧ ((AV.int Go.IntKind.i64 (Go.IntKind.wrap Go.IntKind.i64 ((@Nat.cast Int _ v18) + (1 : Int)))) = (AV.int Go.IntKind.i64 (@Nat.cast Int _ v20))) ∧ True) ∧ (((@Option.some.{0} (@List.{0} AV) (instL x)) = (@Option.some.{0} (@List.{0} AV) (instL x))) ∧ True) ∧ ((((List.length (toldsV (meetS maj (allS n)) x (meetS voted (allS n)) os v18)) + 1) = (List.length (toldsV (meetS maj (allS n)) x (meetS voted (allS n)) os v20))) ∧ True) ∧ tt ∧ tt) ∧ (v20 ≤ (List.length (listS (meetS maj (allS n))))) ∧ (((List.length (listS (meetS maj (allS n)))) - v20) < ((List.length (listS (meetS maj (allS n)))) - v18)))))) else (T1 ∧ T1 ∧ (((0 : Int) ≤ (rdInt (elemAt (natsAV (listS (meetS maj (allS n)))) (Int.toNat (@Nat.cast Int _ v18))) 0)) ∧ ((rdInt (elemAt (natsAV (listS (meetS maj (allS n)))) (Int.toNat (@Nat.cast Int _ v18))) 0) < (@Nat.cast Int _ (List.length os))) ∧ (okElem 22 os (Int.toNat (rdInt (elemAt (natsAV (listS (meetS maj (allS n)))) (Int.toNat (@Nat.cast Int _ v18))) 0)))) ∧ (okRead [(Kd.int Go.IntKind.i64), (Kd.int Go.IntKind.i64), (Kd.int Go.IntKind.i64), (Kd.int Go.IntKind.u32), (Kd.int Go.IntKind.u32), Kd.bool, (Kd.int Go.IntKind.i64), (Kd.int Go.IntKind.u64), Kd.str, (Kd.int Go.IntKind.u64), Kd.str, (Kd.int Go.IntKind.i64), (Kd.int Go.IntKind.u64), (Kd.int Go.IntKind.i64), (Kd.int Go.IntKind.i64), (Kd.int Go.IntKind.i64), (Kd.int Go.IntKind.i64), (Kd.int Go.IntKind.i64), (Kd.int Go.IntKind.i64), (Kd.int Go.IntKind.i64), (Kd.int Go.IntKind.i64), (Kd.int Go.IntKind.i64)] (elemAt os (Int.toNat (rdInt (elemAt (natsAV (listS (meetS maj (allS n)))) (Int.toNat (@Nat.cast Int _ v18))) 0))) 0) ∧ tt ∧ (T1 ∧ True) ∧ T1 ∧ T1 ∧ (bif (alikeI (instV (elemAt os (Int.toNat (rdInt (elemAt (natsAV (listS (meetS maj (allS n)))) (Int.toNat (@Nat.cast Int _ v18))) 0)))) x) then (tt ∧ T1 ∧ tt ∧ tt ∧ T1 ∧ T1 ∧ (((0 : Int) ≤ (rdInt (elemAt (natsAV (listS (meetS maj (allS n)))) (Int.toNat (@Nat.cast Int _ v18))) 0)) ∧ ((rdInt (elemAt (natsAV (listS (meetS maj (allS n)))) (Int.toNat (@Nat.cast Int _ v18))) 0) < (@Nat.cast Int _ (List.length os))) ∧ (okElem 22 os (Int.toNat (rdInt (elemAt (natsAV (listS (meetS maj (allS n)))) (Int.toNat (@Nat.cast Int _ v18))) 0)))) ∧ (okRead [(Kd.int Go.IntKind.i64), (Kd.int Go.IntKind.i64), (Kd.int Go.IntKind.i64), (Kd.int Go.IntKind.u32), (Kd.int Go.IntKind.u32), Kd.bool, (Kd.int Go.IntKind.i64), (Kd.int Go.IntKind.u64), Kd.str, (Kd.int Go.IntKind.u64), Kd.str, (Kd.int Go.IntKind.i64), (Kd.int Go.IntKind.u64), (Kd.int Go.IntKind.i64), (Kd.int Go.IntKind.i64), (Kd.int Go.IntKind.i64), (Kd.int Go.IntKind.i64), (Kd.int Go.IntKind.i64), (Kd.int Go.IntKind.i64), (Kd.int Go.IntKind.i64), (Kd.int Go.IntKind.i64), (Kd.int Go.IntKind.i64)] (elemAt os (Int.toNat (rdInt (elemAt (natsAV (listS (meetS maj (allS n)))) (Int.toNat (@Nat.cast Int _ v18))) 0))) 0) ∧ tt ∧ tt ∧ T1 ∧ T1 ∧ tt ∧ T1 ∧ T1 ∧ (((List.length (toldsV (meetS maj (allS n)) x (meetS voted (allS n)) os v18)) = (List.length (toldsV (meetS maj (allS n)) x (meetS voted (allS n)) os v18))) ∧ ((((List.length (toldsV (meetS maj (allS n)) x (meetS voted (allS n)) os v18)) + 1) * 192) ≤ 140737488355328) ∧ (((List.length (toldsV (meetS maj (allS n)) x (meetS voted (allS n)) os v18)) + 1) ≤ 9223372036854775807) ∧ (okWidth 23 (toldsV (meetS maj (allS n)) x (meetS voted (allS n)) os v18)) ∧ (okWidth 23 [(toldE (rdInt (elemAt (natsAV (listS (meetS maj (allS n)))) (Int.toNat (@Nat.cast Int _ v18))) 0) (instV (elemAt os (Int.toNat (rdInt (elemAt (natsAV (listS (meetS maj (allS n)))) (Int.toNat (@Nat.cast Int _ v18))) 0)))))])) ∧ T1 ∧ tt ∧ T1 ∧ T1 ∧ (@Exists.{1} (LoopInv.V (loopVoted n x (meetS voted (allS n)) os (meetS maj (allS n)))) (fun (v20 : Nat) => (((((AV.int Go.IntKind.i64 n) = (AV.int Go.IntKind.i64 n)) ∧ ((AV.int Go.IntKind.u8 (meetS voted (allS n))) = (AV.int Go.IntKind.u8 (meetS voted (allS n)))) ∧ ((AV.sl os Own.no) = (AV.sl os Own.no)) ∧ ((AV.ptr 6 0) = (AV.ptr 6 0)) ∧ ((AV.sl (@catL AV (toldsV (meetS maj (allS n)) x (meetS voted (allS n)) os v18) [(toldE (rdInt (elemAt (natsAV (listS (meetS maj (allS n)))) (Int.toNat (@Nat.cast Int _ v18))) 0) (instV (elemAt os (Int.toNat (rdInt (elemAt (natsAV (listS (meetS maj (allS n)))) (Int.toNat (@Nat.cast Int _ v18))) 0)))))]) (Own.row 11 0 68)) = (AV.sl (toldsV (meetS maj (allS n)) x (meetS voted (allS n)) os v20) (Own.row 11 0 68))) ∧ ((AV.sl (natsAV (listS (meetS maj (allS n)))) Own.no) = (AV.sl (natsAV (listS (meetS maj (allS n)))) Own.no)) ∧ ((AV.int Go.IntKind.i64 (@Nat.cast Int _ (List.length (listS (meetS maj (allS n)))))) = (AV.int Go.IntKind.i64 (@Nat.cast Int _ (List.length (listS (meetS maj (allS n))))))) ∧ ((AV.int Go.IntKind.i64 (Go.IntKind.wrap Go.IntKind.i64 ((@Nat.cast Int _ v18) + (1 : Int)))) = (AV.int Go.IntKind.i64 (@Nat.cast Int _ v20))) ∧ True) ∧ (((@Option.some.{0} (@List.{0} AV) (instL x)) = (@Option.some.{0} (@List.{0} AV) (instL x))) ∧ True) ∧ ((((List.length (toldsV (meetS maj (allS n)) x (meetS voted (allS n)) os v18)) + 1) = (List.length (toldsV (meetS maj (allS n)) x (meetS voted (allS n)) os v20))) ∧ True) ∧ tt ∧ tt) ∧ (v20 ≤ (List.length (listS (meetS maj (allS n))))) ∧ (((List.length (listS (meetS maj (allS n)))) - v20) < ((List.length (listS (meetS maj (allS n)))) - v18)))))) else (T1 ∧ T1 ∧ (((0 : Int) ≤ (rdInt (elemAt (natsAV (listS (meetS maj (allS n)))) (Int.toNat (@Nat.cast Int _ v18))) 0)) ∧ ((rdInt (elemAt (natsAV (listS (meetS maj (allS n)))) (Int.toNat (@Nat.cast Int _ v18))) 0) < (@Nat.cast Int _ (List.length os))) ∧ (okElem 22 os (Int.toNat (rdInt (elemAt (natsAV (listS (meetS maj (allS n)))) (Int.toNat (@Nat.cast Int _ v18))) 0)))) ∧ T1 ∧ (okRead [(Kd.int Go.IntKind.i64)] (elemAt os (Int.toNat (rdInt (elemAt (natsAV (listS (meetS maj (allS n)))) (Int.toNat (@Nat.cast Int _ v18))) 0))) 2) ∧ T1 ∧ T1 ∧ (bif ((InstP.st (instV (elemAt os (Int.toNat (rdInt (elemAt (natsAV (listS (meetS maj (allS n)))) (Int.toNat (@Nat.cast Int _ v18))) 0))))) == (2 : Int)) then (T1 ∧ T1 ∧ (((0 : Int) ≤ (rdInt (elemAt (natsAV (listS (meetS maj (allS n)))) (Int.toNat (@Nat.cast Int _ v18))) 0)) ∧ ((rdInt (elemAt (natsAV (listS (meetS maj (allS n)))) (Int.toNat (@Nat.cast Int _ v18))) 0) < (@Nat.cast Int _ (List.length os))) ∧ (okElem 22 os (Int.toNat (rdInt (elemAt (natsAV (listS (meetS maj (allS n)))) (Int.toNat (@Nat.cast Int _ v18))) 0)))) ∧ T1 ∧ (okRead [(Kd.int Go.IntKind.u32)] (elemAt os (Int.toNat (rdInt (elemAt (natsAV (listS (meetS maj (allS n)))) (Int.toNat (@Nat.cast Int _ v18))) 0))) 4) ∧ T1 ∧ tt ∧ T1 ∧ T1 ∧ T1 ∧ T1 ∧ tt ∧ (bif (decide ((InstP.vote (instV (elemAt os (Int.toNat (rdInt (elemAt (natsAV (listS (meetS maj (allS n)))) (Int.toNat (@Nat.cast Int _ v18))) 0))))) < (InstP.vote x))) then (tt ∧ T1 ∧ T1 ∧ (((0 : Int) ≤ (rdInt (elemAt (natsAV (listS (meetS maj (allS n)))) (Int.toNat (@Nat.cast Int _ v18))) 0)) ∧ ((rdInt (elemAt (natsAV (listS (meetS maj (allS n)))) (Int.toNat (@Nat.cast Int _ v18))) 0) < (@Nat.cast Int _ (List.length os))) ∧ (okElem 22 os (Int.toNat (rdInt (elemAt (natsAV (listS (meetS maj (allS n)))) (Int.toNat (@Nat.cast Int _ v18))) 0)))) ∧ (okRead [(Kd.int Go.IntKind.i64), (Kd.int Go.IntKind.i64), (Kd.int Go.IntKind.i64), (Kd.int Go.IntKind.u32), (Kd.int Go.IntKind.u32), Kd.bool, (Kd.int Go.IntKind.i64), (Kd.int Go.IntKind.u64), Kd.str, (Kd.int Go.IntKind.u64), Kd.str, (Kd.int Go.IntKind.i64), (Kd.int Go.IntKind.u64), (Kd.int Go.IntKind.i64), (Kd.int Go.IntKind.i64), (Kd.int Go.IntKind.i64), (Kd.int Go.IntKind.i64), (Kd.int Go.IntKind.i64), (Kd.int Go.IntKind.i64), (Kd.int Go.IntKind.i64), (Kd.int Go.IntKind.i64), (Kd.int Go.IntKind.i64)] (elemAt os (Int.toNat (rdInt (elemAt (natsAV (listS (meetS maj (allS n)))) (Int.toNat (@Nat.cast Int _ v18))) 0))) 0) ∧ tt ∧ tt ∧ T1 ∧ T1 ∧ tt ∧ T1 ∧ T1 ∧ (((List.length (toldsV (meetS maj (allS n)) x (meetS voted (allS n)) os v18)) = (List.length (toldsV (meetS maj (allS n)) x (meetS voted (allS n)) os v18))) ∧ ((((List.length (toldsV (meetS maj (allS n)) x (meetS voted (allS n)) os v18)) + 1) * 192) ≤ 140737488355328) ∧ (((List.length (toldsV (meetS maj (allS n)) x (meetS voted (allS n)) os v18)) + 1) ≤ 9223372036854775807) ∧ (okWidth 23 (toldsV (meetS maj (allS n)) x (meetS voted (allS n)) os v18)) ∧ (okWidth 23 [(toldE (rdInt (elemAt (natsAV (listS (meetS maj (allS n)))) (Int.toNat (@Nat.cast Int _ v18))) 0) (instV (elemAt os (Int.toNat (rdInt (elemAt (natsAV (listS (meetS maj (allS n)))) (Int.toNat (@Nat.cast Int _ v18))) 0)))))])) ∧ T1 ∧ tt ∧ T1 ∧ T1 ∧ (@Exists.{1} (LoopInv.V (loopVoted n x (meetS voted (allS n)) os (meetS maj (allS n)))) (fun (v20 : Nat) => (((((AV.int Go.IntKind.i64 n) = (AV.int Go.IntKind.i64 n)) ∧ ((AV.int Go.IntKind.u8 (meetS voted (allS n))) = (AV.int Go.IntKind.u8 (meetS voted (allS n)))) ∧ ((AV.sl os Own.no) = (AV.sl os Own.no)) ∧ ((AV.ptr 6 0) = (AV.ptr 6 0)) ∧ ((AV.sl (@catL AV (toldsV (meetS maj (allS n)) x (meetS voted (allS n)) os v18) [(toldE (rdInt (elemAt (natsAV (listS (meetS maj (allS n)))) (Int.toNat (@Nat.cast Int _ v18))) 0) (instV (elemAt os (Int.toNat (rdInt (elemAt (natsAV (listS (meetS maj (allS n)))) (Int.toNat (@Nat.cast Int _ v18))) 0)))))]) (Own.row 11 0 68)) = (AV.sl (toldsV (meetS maj (allS n)) x (meetS voted (allS n)) os v20) (Own.row 11 0 68))) ∧ ((AV.sl (natsAV (listS (meetS maj (allS n)))) Own.no) = (AV.sl (natsAV (listS (meetS maj (allS n)))) Own.no)) ∧ ((AV.int Go.IntKind.i64 (@Nat.cast Int _ (List.length (listS (meetS maj (allS n)))))) = (AV.int Go.IntKind.i64 (@Nat.cast Int _ (List.length (listS (meetS maj (allS n))))))) ∧ ((AV.int Go.IntKind.i64 (Go.IntKind.wrap Go.IntKind.i64 ((@Nat.cast Int _ v18) + (1 : Int)))) = (AV.int Go.IntKind.i64 (@Nat.cast Int _ v20))) ∧ True) ∧ (((@Option.some.{0} (@List.{0} AV) (instL x)) = (@Option.some.{0} (@List.{0} AV) (instL x))) ∧ True) ∧ ((((List.length (toldsV (meetS maj (allS n)) x (meetS voted (allS n)) os v18)) + 1) = (List.length (toldsV (meetS maj (allS n)) x (meetS voted (allS n)) os v20))) ∧ True) ∧ tt ∧ tt) ∧ (v20 ≤ (List.length (listS (meetS maj (allS n))))) ∧ (((List.length (listS (meetS maj (allS n)))) - v20) < ((List.length (listS (meetS maj (allS n)))) - v18)))))) else (tt ∧ T1 ∧ T1 ∧ tt ∧ T1 ∧ T1 ∧ (((List.length (toldsV (meetS maj (allS n)) x (meetS voted (allS n)) os v18)) = (List.length (toldsV (meetS maj (allS n)) x (meetS voted (allS n)) os v18))) ∧ ((((List.length (toldsV (meetS maj (allS n)) x (meetS voted (allS n)) os v18)) + 1) * 192) ≤ 140737488355328) ∧ (((List.length (toldsV (meetS maj (allS n)) x (meetS voted (allS n)) os v18)) + 1) ≤ 9223372036854775807) ∧ (okWidth 23 (toldsV (meetS maj (allS n)) x (meetS voted (allS n)) os v18)) ∧ (okWidth 23 [(toldE (rdInt (elemAt (natsAV (listS (meetS maj (allS n)))) (Int.toNat (@Nat.cast Int _ v18))) 0) (newI (InstP.r x) (InstP.sl x)))])) ∧ T1 ∧ tt ∧ T1 ∧ T1 ∧ (@Exists.{1} (LoopInv.V (loopVoted n x (meetS voted (allS n)) os (meetS maj (allS n)))) (fun (v20 : Nat) => (((((AV.int Go.IntKind.i64 n) = (AV.int Go.IntKind.i64 n)) ∧ ((AV.int Go.IntKind.u8 (meetS voted (allS n))) = (AV.int Go.IntKind.u8 (meetS voted (allS n)))) ∧ ((AV.sl os Own.no) = (AV.sl os Own.no)) ∧ ((AV.ptr 6 0) = (AV.ptr 6 0)) ∧ ((AV.sl (@catL AV (toldsV (meetS maj (allS n)) x (meetS voted (allS n)) os v18) [(toldE (rdInt (elemAt (natsAV (listS (meetS maj (allS n)))) (Int.toNat (@Nat.cast Int _ v18))) 0) (newI (InstP.r x) (InstP.sl x)))]) (Own.row 11 0 68)) = (AV.sl (toldsV (meetS maj (allS n)) x (meetS voted (allS n)) os v20) (Own.row 11 0 68))) ∧ ((AV.sl (natsAV (listS (meetS maj (allS n)))) Own.no) = (AV.sl (natsAV (listS (meetS maj (allS n)))) Own.no)) ∧ ((AV.int Go.IntKind.i64 (@Nat.cast Int _ (List.length (listS (meetS maj (allS n)))))) = (AV.int Go.IntKind.i64 (@Nat.cast Int _ (List.length (listS (meetS maj (allS n))))))) ∧ ((AV.int Go.IntKind.i64 (Go.IntKind.wrap Go.IntKind.i64 ((@Nat.cast Int _ v18) + (1 : Int)))) = (AV.int Go.IntKind.i64 (@Nat.cast Int _ v20))) ∧ True) ∧ (((@Option.some.{0} (@List.{0} AV) (instL x)) = (@Option.some.{0} (@List.{0} AV) (instL x))) ∧ True) ∧ ((((List.length (toldsV (meetS maj (allS n)) x (meetS voted (allS n)) os v18)) + 1) = (List.length (toldsV (meetS maj (allS n)) x (meetS voted (allS n)) os v20))) ∧ True) ∧ tt ∧ tt) ∧ (v20 ≤ (List.length (listS (meetS maj (allS n))))) ∧ (((List.length (listS (meetS maj (allS n)))) - v20) < ((List.length (listS (meetS maj (allS n)))) - v18)))))))) else ((false = false) ∧ T1 ∧ T1 ∧ tt ∧ tt ∧ T1 ∧ T1 ∧ tt ∧ T1 ∧ T1 ∧ (((List.length (toldsV (meetS maj (allS n)) x (meetS voted (allS n)) os v18)) = (List.length (toldsV (meetS maj (allS n)) x (meetS voted (allS n)) os v18))) ∧ ((((List.length (toldsV (meetS maj (allS n)) x (meetS voted (allS n)) os v18)) + 1) * 192) ≤ 140737488355328) ∧ (((List.length (toldsV (meetS maj (allS n)) x (meetS voted (allS n)) os v18)) + 1) ≤ 9223372036854775807) ∧ (okWidth 23 (toldsV (meetS maj (allS n)) x (meetS voted (allS n)) os v18)) ∧ (okWidth 23 [(toldE (rdInt (elemAt (natsAV (listS (meetS maj (allS n)))) (Int.toNat (@Nat.cast Int _ v18))) 0) (newI (InstP.r x) (InstP.sl x)))])) ∧ T1 ∧ tt ∧ T1 ∧ T1 ∧ (@Exists.{1} (LoopInv.V (loopVoted n x (meetS voted (allS n)) os (meetS maj (allS n)))) (fun (v20 : Nat) => (((((AV.int Go.IntKind.i64 n) = (AV.int Go.IntKind.i64 n)) ∧ ((AV.int Go.IntKind.u8 (meetS voted (allS n))) = (AV.int Go.IntKind.u8 (meetS voted (allS n)))) ∧ ((AV.sl os Own.no) = (AV.sl os Own.no)) ∧ ((AV.ptr 6 0) = (AV.ptr 6 0)) ∧ ((AV.sl (@catL AV (toldsV (meetS maj (allS n)) x (meetS voted (allS n)) os v18) [(toldE (rdInt (elemAt (natsAV (listS (meetS maj (allS n)))) (Int.toNat (@Nat.cast Int _ v18))) 0) (newI (InstP.r x) (InstP.sl x)))]) (Own.row 11 0 68)) = (AV.sl (toldsV (meetS maj (allS n)) x (meetS voted (allS n)) os v20) (Own.row 11 0 68))) ∧ ((AV.sl (natsAV (listS (meetS maj (allS n)))) Own.no) = (AV.sl (natsAV (listS (meetS maj (allS n)))) Own.no)) ∧ ((AV.int Go.IntKind.i64 (@Nat.cast Int _ (List.length (listS (meetS maj (allS n)))))) = (AV.int Go.IntKind.i64 (@Nat.cast Int _ (List.length (listS (meetS maj (allS n))))))) ∧ ((AV.int Go.IntKind.i64 (Go.IntKind.wrap Go.IntKind.i64 ((@Nat.cast Int _ v18) + (1 : Int)))) = (AV.int Go.IntKind.i64 (@Nat.cast Int _ v20))) ∧ True) ∧ (((@Option.some.{0} (@List.{0} AV) (instL x)) = (@Option.some.{0} (@List.{0} AV) (instL x))) ∧ True) ∧ ((((List.length (toldsV (meetS maj (allS n)) x (meetS voted (allS n)) os v18)) + 1) = (List.length (toldsV (meetS maj (allS n)) x (meetS voted (allS n)) os v20))) ∧ True) ∧ tt ∧ tt) ∧ (v20 ≤ (List.length (listS (meetS maj (allS n))))) ∧ (((List.length (listS (meetS maj (allS n)))) - v20) < ((List.length (listS (meetS maj (allS n)))) - v18)))))))))))) else ((false = false) ∧ tt ∧ tt ∧ T1 ∧ T1 ∧ tt ∧ T1 ∧ T1 ∧ (((List.length (toldsV (meetS maj (allS n)) x (meetS voted (allS n)) os v18)) = (List.length (toldsV (meetS maj (allS n)) x (meetS voted (allS n)) os v18))) ∧ ((((List.length (toldsV (meetS maj (allS n)) x (meetS voted (allS n)) os v18)) + 1) * 192) ≤ 140737488355328) ∧ (((List.length (toldsV (meetS maj (allS n)) x (meetS voted (allS n)) os v18)) + 1) ≤ 9223372036854775807) ∧ (okWidth 23 (toldsV (meetS maj (allS n)) x (meetS voted (allS n)) os v18)) ∧ (okWidth 23 [(toldE (rdInt (elemAt (natsAV (listS (meetS maj (allS n)))) (Int.toNat (@Nat.cast Int _ v18))) 0) (newI (InstP.r x) (InstP.sl x)))])) ∧ T1 ∧ tt ∧ T1 ∧ T1 ∧ (@Exists.{1} (LoopInv.V (loopVoted n x (meetS voted (allS n)) os (meetS maj (allS n)))) (fun (v20 : Nat) => (((((AV.int Go.IntKind.i64 n) = (AV.int Go.IntKind.i64 n)) ∧ ((AV.int Go.IntKind.u8 (meetS voted (allS n))) = (AV.int Go.IntKind.u8 (meetS voted (allS n)))) ∧ ((AV.sl os Own.no) = (AV.sl os Own.no)) ∧ ((AV.ptr 6 0) = (AV.ptr 6 0)) ∧ ((AV.sl (@catL AV (toldsV (meetS maj (allS n)) x (meetS voted (allS n)) os v18) [(toldE (rdInt (elemAt (natsAV (listS (meetS maj (allS n)))) (Int.toNat (@Nat.cast Int _ v18))) 0) (newI (InstP.r x) (InstP.sl x)))]) (Own.row 11 0 68)) = (AV.sl (toldsV (meetS maj (allS n)) x (meetS voted (allS n)) os v20) (Own.row 11 0 68))) ∧ ((AV.sl (natsAV (listS (meetS maj (allS n)))) Own.no) = (AV.sl (natsAV (listS (meetS maj (allS n)))) Own.no)) ∧ ((AV.int Go.IntKind.i64 (@Nat.cast Int _ (List.length (listS (meetS maj (allS n)))))) = (AV.int Go.IntKind.i64 (@Nat.cast Int _ (List.length (listS (meetS maj (allS n))))))) ∧ ((AV.int Go.IntKind.i64 (Go.IntKind.wrap Go.IntKind.i64 ((@Nat.cast Int _ v18) + (1 : Int)))) = (AV.int Go.IntKind.i64 (@Nat.cast Int _ v20))) ∧ True) ∧ (((@Option.some.{0} (@List.{0} AV) (instL x)) = (@Option.some.{0} (@List.{0} AV) (instL x))) ∧ True) ∧ ((((List.length (toldsV (meetS maj (allS n)) x (meetS voted (allS n)) os v18)) + 1) = (List.length (toldsV (meetS maj (allS n)) x (meetS voted (allS n)) os v20))) ∧ True) ∧ tt ∧ tt) ∧ (v20 ≤ (List.length (listS (meetS maj (allS n))))) ∧ (((List.length (listS (meetS maj (allS n)))) - v20) < ((List.length (listS (meetS maj (allS n)))) - v18)))))))) else ((false = false) ∧ T1 ∧ (false = false) ∧ tt ∧ tt ∧ T1 ∧ T1 ∧ tt ∧ T1 ∧ T1 ∧ (((List.length (toldsV (meetS maj (allS n)) x (meetS voted (allS n)) os v18)) = (List.length (toldsV (meetS maj (allS n)) x (meetS voted (allS n)) os v18))) ∧ ((((List.length (toldsV (meetS maj (allS n)) x (meetS voted (allS n)) os v18)) + 1) * 192) ≤ 140737488355328) ∧ (((List.length (toldsV (meetS maj (allS n)) x (meetS voted (allS n)) os v18)) + 1) ≤ 9223372036854775807) ∧ (okWidth 23 (toldsV (meetS maj (allS n)) x (meetS voted (allS n)) os v18)) ∧ (okWidth 23 [(toldE (rdInt (elemAt (natsAV (listS (meetS maj (allS n)))) (Int.toNat (@Nat.cast Int _ v18))) 0) (newI (InstP.r x) (InstP.sl x)))])) ∧ T1 ∧ tt ∧ T1 ∧ T1 ∧ (@Exists.{1} (LoopInv.V (loopVoted n x (meetS voted (allS n)) os (meetS maj (allS n)))) (fun (v20 : Nat) => (((((AV.int Go.IntKind.i64 n) = (AV.int Go.IntKind.i64 n)) ∧ ((AV.int Go.IntKind.u8 (meetS voted (allS n))) = (AV.int Go.IntKind.u8 (meetS voted (allS n)))) ∧ ((AV.sl os Own.no) = (AV.sl os Own.no)) ∧ ((AV.ptr 6 0) = (AV.ptr 6 0)) ∧ ((AV.sl (@catL AV (toldsV (meetS maj (allS n)) x (meetS voted (allS n)) os v18) [(toldE (rdInt (elemAt (natsAV (listS (meetS maj (allS n)))) (Int.toNat (@Nat.cast Int _ v18))) 0) (newI (InstP.r x) (InstP.sl x)))]) (Own.row 11 0 68)) = (AV.sl (toldsV (meetS maj (allS n)) x (meetS voted (allS n)) os v20) (Own.row 11 0 68))) ∧ ((AV.sl (natsAV (listS (meetS maj (allS n)))) Own.no) = (AV.sl (natsAV (listS (meetS maj (allS n)))) Own.no)) ∧ ((AV.int Go.IntKind.i64 (@Nat.cast Int _ (List.length (listS (meetS maj (allS n)))))) = (AV.int Go.IntKind.i64 (@Nat.cast Int _ (List.length (listS (meetS maj (allS n))))))) ∧ ((AV.int Go.IntKind.i64 (Go.IntKind.wrap Go.IntKind.i64 ((@Nat.cast Int _ v18) + (1 : Int)))) = (AV.int Go.IntKind.i64 (@Nat.cast Int _ v20))) ∧ True) ∧ (((@Option.some.{0} (@List.{0} AV) (instL x)) = (@Option.some.{0} (@List.{0} AV) (instL x))) ∧ True) ∧ ((((List.length (toldsV (meetS maj (allS n)) x (meetS voted (allS n)) os v18)) + 1) = (List.length (toldsV (meetS maj (allS n)) x (meetS voted (allS n)) os v20))) ∧ True) ∧ tt ∧ tt) ∧ (v20 ≤ (List.length (listS (meetS maj (allS n))))) ∧ (((List.length (listS (meetS maj (allS n)))) - v20) < ((List.length (listS (meetS maj (allS n)))) - v18)))))))) else ((false = false) ∧ T1 ∧ (false = false) ∧ T1 ∧ (false = false) ∧ tt ∧ tt ∧ T1 ∧ T1 ∧ tt ∧ T1 ∧ T1 ∧ (((List.length (toldsV (meetS maj (allS n)) x (meetS voted (allS n)) os v18)) = (List.length (toldsV (meetS maj (allS n)) x (meetS voted (allS n)) os v18))) ∧ ((((List.length (toldsV (meetS maj (allS n)) x (meetS voted (allS n)) os v18)) + 1) * 192) ≤ 140737488355328) ∧ (((List.length (toldsV (meetS maj (allS n)) x (meetS voted (allS n)) os v18)) + 1) ≤ 9223372036854775807) ∧ (okWidth 23 (toldsV (meetS maj (allS n)) x (meetS voted (allS n)) os v18)) ∧ (okWidth 23 [(toldE (rdInt (elemAt (natsAV (listS (meetS maj (allS n)))) (Int.toNat (@Nat.cast Int _ v18))) 0) (newI (InstP.r x) (InstP.sl x)))])) ∧ T1 ∧ tt ∧ T1 ∧ T1 ∧ (@Exists.{1} (LoopInv.V (loopVoted n x (meetS voted (allS n)) os (meetS maj (allS n)))) (fun (v20 : Nat) => (((((AV.int Go.IntKind.i64 n) = (AV.int Go.IntKind.i64 n)) ∧ ((AV.int Go.IntKind.u8 (meetS voted (allS n))) = (AV.int Go.IntKind.u8 (meetS voted (allS n)))) ∧ ((AV.sl os Own.no) = (AV.sl os Own.no)) ∧ ((AV.ptr 6 0) = (AV.ptr 6 0)) ∧ ((AV.sl (@catL AV (toldsV (meetS maj (allS n)) x (meetS voted (allS n)) os v18) [(toldE (rdInt (elemAt (natsAV (listS (meetS maj (allS n)))) (Int.toNat (@Nat.cast Int _ v18))) 0) (newI (InstP.r x) (InstP.sl x)))]) (Own.row 11 0 68)) = (AV.sl (toldsV (meetS maj (allS n)) x (meetS voted (allS n)) os v20) (Own.row 11 0 68))) ∧ ((AV.sl (natsAV (listS (meetS maj (allS n)))) Own.no) = (AV.sl (natsAV (listS (meetS maj (allS n)))) Own.no)) ∧ ((AV.int Go.IntKind.i64 (@Nat.cast Int _ (List.length (listS (meetS maj (allS n)))))) = (AV.int Go.IntKind.i64 (@Nat.cast Int _ (List.length (listS (meetS maj (allS n))))))) ∧ ((AV.int Go.IntKind.i64 (Go.IntKind.wrap Go.IntKind.i64 ((@Nat.cast Int _ v18) + (1 : Int)))) = (AV.int Go.IntKind.i64 (@Nat.cast Int _ v20))) ∧ True) ∧ (((@Option.some.{0} (@List.{0} AV) (instL x)) = (@Option.some.{0} (@List.{0} AV) (instL x))) ∧ True) ∧ ((((List.length (toldsV (meetS maj (allS n)) x (meetS voted (allS n)) os v18)) + 1) = (List.length (toldsV (meetS maj (allS n)) x (meetS voted (allS n)) os v20))) ∧ True) ∧ tt ∧ tt) ∧ (v20 ≤ (List.length (listS (meetS maj (allS n))))) ∧ (((List.length (listS (meetS maj (allS n)))) - v20) < ((List.length (listS (meetS maj (allS n)))) - v18)))))))) else ((false = false) ∧ T1 ∧ (false = false) ∧ T1 ∧ (false = false) ∧ T1 ∧ (false = false) ∧ tt ∧ tt ∧ T1 ∧ T1 ∧ tt ∧ T1 ∧ T1 ∧ (((List.length (toldsV (meetS maj (allS n)) x (meetS voted (allS n)) os v18)) = (List.length (toldsV (meetS maj (allS n)) x (meetS voted (allS n)) os v18))) ∧ ((((List.length (toldsV (meetS maj (allS n)) x (meetS voted (allS n)) os v18)) + 1) * 192) ≤ 140737488355328) ∧ (((List.length (toldsV (meetS maj (allS n)) x (meetS voted (allS n)) os v18)) + 1) ≤ 9223372036854775807) ∧ (okWidth 23 (toldsV (meetS maj (allS n)) x (meetS voted (allS n)) os v18)) ∧ (okWidth 23 [(toldE (rdInt (elemAt (natsAV (listS (meetS maj (allS n)))) (Int.toNat (@Nat.cast Int _ v18))) 0) (newI (InstP.r x) (InstP.sl x)))])) ∧ T1 ∧ tt ∧ T1 ∧ T1 ∧ (@Exists.{1} (LoopInv.V (loopVoted n x (meetS voted (allS n)) os (meetS maj (allS n)))) (fun (v20 : Nat) => (((((AV.int Go.IntKind.i64 n) = (AV.int Go.IntKind.i64 n)) ∧ ((AV.int Go.IntKind.u8 (meetS voted (allS n))) = (AV.int Go.IntKind.u8 (meetS voted (allS n)))) ∧ ((AV.sl os Own.no) = (AV.sl os Own.no)) ∧ ((AV.ptr 6 0) = (AV.ptr 6 0)) ∧ ((AV.sl (@catL AV (toldsV (meetS maj (allS n)) x (meetS voted (allS n)) os v18) [(toldE (rdInt (elemAt (natsAV (listS (meetS maj (allS n)))) (Int.toNat (@Nat.cast Int _ v18))) 0) (newI (InstP.r x) (InstP.sl x)))]) (Own.row 11 0 68)) = (AV.sl (toldsV (meetS maj (allS n)) x (meetS voted (allS n)) os v20) (Own.row 11 0 68))) ∧ ((AV.sl (natsAV (listS (meetS maj (allS n)))) Own.no) = (AV.sl (natsAV (listS (meetS maj (allS n)))) Own.no)) ∧ ((AV.int Go.IntKind.i64 (@Nat.cast Int _ (List.length (listS (meetS maj (allS n)))))) = (AV.int Go.IntKind.i64 (@Nat.cast Int _ (List.length (listS (meetS maj (allS n))))))) ∧ ((AV.int Go.IntKind.i64 (Go.IntKind.wrap Go.IntKind.i64 ((@Nat.cast Int _ v18) + (1 : Int)))) = (AV.int Go.IntKind.i64 (@Nat.cast Int _ v20))) ∧ True) ∧ (((@Option.some.{0} (@List.{0} AV) (instL x)) = (@Option.some.{0} (@List.{0} AV) (instL x))) ∧ True) ∧ ((((List.length (toldsV (meetS maj (allS n)) x (meetS voted (allS n)) os v18)) + 1) = (List.length (toldsV (meetS maj (allS n)) x (meetS voted (allS n)) os v20))) ∧ True) ∧ tt ∧ tt) ∧ (v20 ≤ (List.length (listS (meetS maj (allS n))))) ∧ (((List.length (listS (meetS maj (allS n)))) - v20) < ((List.length (listS (meetS maj (allS n)))) - v18)))))))) else (tt ∧ T1 ∧ T1 ∧ tt ∧ T1 ∧ T1 ∧ (((List.length (toldsV (meetS maj (allS n)) x (meetS voted (allS n)) os v18)) = (List.length (toldsV (meetS maj (allS n)) x (meetS voted (allS n)) os v18))) ∧ ((((List.length (toldsV (meetS maj (allS n)) x (meetS voted (allS n)) os v18)) + 1) * 192) ≤ 140737488355328) ∧ (((List.length (toldsV (meetS maj (allS n)) x (meetS voted (allS n)) os v18)) + 1) ≤ 9223372036854775807) ∧ (okWidth 23 (toldsV (meetS maj (allS n)) x (meetS voted (allS n)) os v18)) ∧ (okWidth 23 [(toldE (rdInt (elemAt (natsAV (listS (meetS maj (allS n)))) (Int.toNat (@Nat.cast Int _ v18))) 0) x)])) ∧ T1 ∧ tt ∧ T1 ∧ T1 ∧ (@Exists.{1} (LoopInv.V (loopVoted n x (meetS voted (allS n)) os (meetS maj (allS n)))) (fun (v20 : Nat) => (((((AV.int Go.IntKind.i64 n) = (AV.int Go.IntKind.i64 n)) ∧ ((AV.int Go.IntKind.u8 (meetS voted (allS n))) = (AV.int Go.IntKind.u8 (meetS voted (allS n)))) ∧ ((AV.sl os Own.no) = (AV.sl os Own.no)) ∧ ((AV.ptr 6 0) = (AV.ptr 6 0)) ∧ ((AV.sl (@catL AV (toldsV (meetS maj (allS n)) x (meetS voted (allS n)) os v18) [(toldE (rdInt (elemAt (natsAV (listS (meetS maj (allS n)))) (Int.toNat (@Nat.cast Int _ v18))) 0) x)]) (Own.row 11 0 68)) = (AV.sl (toldsV (meetS maj (allS n)) x (meetS voted (allS n)) os v20) (Own.row 11 0 68))) ∧ ((AV.sl (natsAV (listS (meetS maj (allS n)))) Own.no) = (AV.sl (natsAV (listS (meetS maj (allS n)))) Own.no)) ∧ ((AV.int Go.IntKind.i64 (@Nat.cast Int _ (List.length (listS (meetS maj (allS n)))))) = (AV.int Go.IntKind.i64 (@Nat.cast Int _ (List.length (listS (meetS maj (allS n))))))) ∧ ((AV.int Go.IntKind.i64 (Go.IntKind.wrap Go.IntKind.i64 ((@Nat.cast Int _ v18) + (1 : Int)))) = (AV.int Go.IntKind.i64 (@Nat.cast Int _ v20))) ∧ True) ∧ (((@Option.some.{0} (@List.{0} AV) (instL x)) = (@Option.some.{0} (@List.{0} AV) (instL x))) ∧ True) ∧ ((((List.length (toldsV (meetS maj (allS n)) x (meetS voted (allS n)) os v18)) + 1) = (List.length (toldsV (meetS maj (allS n)) x (meetS voted (allS n)) os v20))) ∧ True) ∧ tt ∧ tt) ∧ (v20 ≤ (List.length (listS (meetS maj (allS n))))) ∧ (((List.length (listS (meetS maj (allS n)))) - v20) < ((List.length (listS (meetS maj (allS n)))) - v18)))))))) else (tt ∧ T1 ∧ T1 ∧ tt ∧ T1 ∧ (T1 ∧ (okL n (InstP.r x) (InstP.sl x) (toldsV (meetS maj (allS n)) x (meetS voted (allS n)) os v18)) ∧ (okCh n (InstP.r x) (toldsV (meetS maj (allS n)) x (meetS voted (allS n)) os v18))) ∧ T1 ∧ T1 ∧ T1 ∧ T1 ∧ T1 ∧ T1 ∧ tt ∧ T1 ∧ tt ∧ T1 ∧ T1 ∧ T1 ∧ T1 ∧ T1 ∧ T1 ∧ (bif ((choK (toldsV (meetS maj (allS n)) x (meetS voted (allS n)) os v18)) == (1 : Int)) then (tt ∧ T1 ∧ T1 ∧ tt ∧ tt ∧ (T1 ∧ True) ∧ T1 ∧ T1 ∧ tt ∧ tt ∧ ((true = (alikeI (InstP.mk (InstP.r x) (InstP.sl x) (1 : Int) (0 : Int) (0 : Int) false (InstP.c (choX (toldsV (meetS maj (allS n)) x (meetS voted (allS n)) os v18))) (InstP.a (choX (toldsV (meetS maj (allS n)) x (meetS voted (allS n)) os v18)))) x)) ∧ True) ∧ tt) else (T1 ∧ T1 ∧ T1 ∧ T1 ∧ T1 ∧ (bif ((choK (toldsV (meetS maj (allS n)) x (meetS voted (allS n)) os v18)) == (2 : Int)) then (tt ∧ tt ∧ (T1 ∧ True) ∧ T1 ∧ T1 ∧ tt ∧ tt ∧ ((true = (alikeI (InstP.mk (InstP.r x) (InstP.sl x) (1 : Int) (0 : Int) (0 : Int) false (InstP.c (choX (toldsV (meetS maj (allS n)) x (meetS voted (allS n)) os v18))) (InstP.a (choX (toldsV (meetS maj (allS n)) x (meetS voted (allS n)) os v18)))) x)) ∧ True) ∧ tt) else ((false = false) ∧ T1 ∧ tt ∧ tt ∧ ((true = false) ∧ True) ∧ tt)))))))))))))))))))))))))))))))))))))))))))))))))))) : inLawVoted0 n x voted os maj :=
  Eq.mp (show _ = _ by kernel_rfl) h
end Go.Proofs.YtcokifdgbfbonaaDoor
/- The conditions hold: where a majority voted. -/
namespace Go.Proofs.YtcokifdgbfbonaaDoor
set_option linter.unusedVariables false
set_option linter.unusedSimpArgs false
open Go.RowKit
set_option maxRecDepth 100000

theorem hasS_nat (m : Int) (r : Nat) (h : r < 7) : hasS m (r : Int) = m.toNat.testBit r := by
  unfold hasS
  have : decide (0 ≤ (r : Int) ∧ (r : Int) < 7) = true := by simp; omega
  rw [this]; simp
theorem mem_listS {m : Int} {r : Nat} : r ∈ listS m ↔ r < 7 ∧ hasS m (r : Int) = true := by
  unfold listS
  rw [List.mem_filter, List.mem_range]
  constructor
  · rintro ⟨h1, h2⟩; exact ⟨h1, by rw [hasS_nat m r h1]; exact h2⟩
  · rintro ⟨h1, h2⟩; exact ⟨h1, by rw [hasS_nat m r h1] at h2; exact h2⟩
def seenL (l : List Nat) : Int := l.foldl (fun s r => withS s (r : Nat)) 0
theorem seen_fin : ∀ m : Fin 128, (listS (m.val : Int)).length ≤ 7 ∧ cntS (seenL (listS (m.val : Int))) = cntS (m.val : Int) ∧ ∀ i : Fin 7, i.val < (listS (m.val : Int)).length → hasS (seenL ((listS (m.val : Int)).take i.val)) (((listS (m.val : Int)).getD i.val 0 : Nat) : Int) = false := by decide +kernel
theorem meet_fin : ∀ m : Fin 256, (∀ r : Fin 7, hasS (meetS (m.val : Int) 7) (r.val : Int) = true → r.val < 3) ∧ (∀ r : Fin 7, hasS (meetS (m.val : Int) 31) (r.val : Int) = true → r.val < 5) ∧ meetS (m.val : Int) 7 < 128 ∧ meetS (m.val : Int) 31 < 128 ∧ meetS (m.val : Int) 127 < 128 := by decide +kernel
theorem toldsV_len (m : Int) (x : InstP) (vs : Int) (os : List AV) : (toldsV m x vs os (listS m).length).length = (listS m).length := by
  unfold toldsV; simp
theorem toldsV_at (m : Int) (x : InstP) (vs : Int) (os : List AV) {i : Nat} (hi : i < (listS m).length) : elemAt (toldsV m x vs os (listS m).length) i = toldE (((listS m).getD i 0 : Nat) : Int) (yV x vs os ((listS m).getD i 0)) := by
  unfold elemAt cellAt toldsV
  simp [List.getD_eq_getElem?_getD, hi]
theorem toldsV_seen (m : Int) (x : InstP) (vs : Int) (os : List AV) (i : Nat) : seenN (toldsV m x vs os (listS m).length) i = seenL ((listS m).take i) := by
  unfold seenN toldsV seenL
  rw [List.take_length, ← List.map_take, List.foldl_map]
  rfl
theorem toldsV_tolX (r : Int) (y : InstP) : tolX (toldE r y) = y := rfl
theorem eqI_iff {x y : InstP} : eqI x y = true ↔ x = y := by
  obtain ⟨a1, a2, a3, a4, a5, a6, ⟨b1, b2, b3, b4, b5, b6, b7, b8⟩, ⟨c1, c2, c3, c4, c5, c6, c7, c8⟩⟩ := x
  obtain ⟨a1', a2', a3', a4', a5', a6', ⟨b1', b2', b3', b4', b5', b6', b7', b8'⟩, ⟨c1', c2', c3', c4', c5', c6', c7', c8'⟩⟩ := y
  simp [eqI, instL, sameCells, AV.same, and_assoc]
theorem rightI_id {x : InstP} (h : rightI x = true) : rightId x.r x.sl = true := by
  unfold rightI at h
  split at h
  · rename_i hc
    simp only [Bool.and_eq_true] at hc
    exact hc.1.1.1
  · cases h
theorem rightI_new {r sl : Int} (h : rightId r sl = true) : rightI (newI r sl) = true := by
  unfold rightI newI
  simp only [h]
  have b : balOK 0 = true := by decide
  simp [b]
  exact eqI_iff.2 rfl
theorem alikeI_self (x : InstP) : alikeI x x = true := by
  obtain ⟨a1, a2, a3, a4, a5, a6, ⟨b1, b2, b3, b4, b5, b6, b7, b8⟩, ⟨c1, c2, c3, c4, c5, c6, c7, c8⟩⟩ := x
  simp [alikeI, eqC, eqA, cmdL, attL, sameCells, AV.same]
theorem okTold_toldE (r : Int) (x : InstP) : okTold (toldE r x) := by
  refine ⟨rfl, fun i kd h => ?_⟩
  match i, h with
  | 0, h | 1, h | 2, h | 3, h | 4, h | 5, h | 6, h | 7, h | 8, h | 9, h | 10, h | 11, h | 12, h | 13, h | 14, h | 15, h | 16, h | 17, h | 18, h | 19, h | 20, h | 21, h | 22, h => cases h; rfl
  | i + 23, h => cases h
theorem yV_ok {x : InstP} {vs : Int} {os : List AV} (hx : rightI x = true) (hs : smallX x) (ho : isInsts os) (r : Nat) :
    smallX (yV x vs os r) ∧ rightI (yV x vs os r) = true ∧ (yV x vs os r).r = x.r ∧ (yV x vs os r).sl = x.sl := by
  unfold yV
  split
  · exact ⟨hs, hx, rfl, rfl⟩
  · split
    · rename_i h
      exact ⟨(ho r h.1).2.2, h.2.1, h.2.2.1, h.2.2.2.1⟩
    · exact ⟨by unfold smallX newI zC; simp, rightI_new (rightI_id hx), rfl, rfl⟩
theorem mem_meet {n maj : Int} (hn : rightN n = true) (hm : 0 ≤ maj ∧ maj ≤ 255) {r : Nat} (h : r ∈ listS (meetS maj (allS n))) : ((r : Nat) : Int) < n := by
  obtain ⟨k, rfl⟩ := byte_vals hm
  obtain ⟨h1, h2⟩ := mem_listS.1 h
  have f := meet_fin k
  rcases rightN_iff.1 hn with rfl | rfl | rfl
  · have e : allS 3 = 7 := rfl
    rw [e] at h2
    have := f.1 ⟨r, h1⟩ h2
    have : r < 3 := this
    omega
  · have e : allS 5 = 31 := rfl
    rw [e] at h2
    have := f.2.1 ⟨r, h1⟩ h2
    have : r < 5 := this
    omega
  · omega
theorem meet_range {n maj : Int} (hn : rightN n = true) (hm : 0 ≤ maj ∧ maj ≤ 255) : ∃ k : Fin 128, meetS maj (allS n) = (k.val : Int) := by
  obtain ⟨k, rfl⟩ := byte_vals hm
  have f := meet_fin k
  have nn : 0 ≤ meetS (k.val : Int) (allS n) := by unfold meetS; omega
  have lt : meetS (k.val : Int) (allS n) < 128 := by
    rcases rightN_iff.1 hn with rfl | rfl | rfl
    · exact f.2.2.1
    · exact f.2.2.2.1
    · exact f.2.2.2.2
  exact ⟨⟨(meetS (k.val : Int) (allS n)).toNat, by omega⟩, by show _ = (((meetS (k.val : Int) (allS n)).toNat : Nat) : Int); omega⟩
theorem okL_told {n maj vs : Int} {x : InstP} {os : List AV} (hn : rightN n = true) (hx : rightI x = true) (hr : x.r < n) (hs : smallX x) (ho : isInsts os) (hm : 0 ≤ maj ∧ maj ≤ 255)
    (hc : fN n + 1 ≤ (cntS (meetS maj (allS n)) : Nat)) : okL n x.r x.sl (toldsV (meetS maj (allS n)) x vs os (listS (meetS maj (allS n))).length) := by
  have lt := fun r h => mem_meet (n := n) (maj := maj) hn hm (r := r) h
  obtain ⟨k, hk⟩ := meet_range hn hm
  rw [hk] at hc lt ⊢
  obtain ⟨s1, s2, s3⟩ := seen_fin k
  generalize hM : (k.val : Int) = M at *
  have len := toldsV_len M x vs os
  refine ⟨hn, rightI_id hx, hr, ?_, by omega, fun i hi => ?_, ?_⟩
  · intro e he
    unfold toldsV at he
    obtain ⟨r, _, rfl⟩ := List.mem_map.1 he
    exact okTold_toldE _ _
  · rw [len] at hi
    rw [toldsV_at M x vs os hi, toldsV_seen]
    have hi7 : i < 7 := by omega
    have mem : (listS M).getD i 0 ∈ listS M := by
      rw [List.getD_eq_getElem?_getD, List.getElem?_eq_getElem hi]
      exact List.getElem_mem hi
    have y := yV_ok (vs := vs) hx hs ho ((listS M).getD i 0)
    refine ⟨⟨?_, ?_⟩, s3 ⟨i, hi7⟩ hi, y.1, y.2.1, y.2.2.1, y.2.2.2⟩
    · show (0 : Int) ≤ (((listS M).getD i 0 : Nat) : Int); omega
    · exact lt _ mem
  · rw [len, toldsV_seen, List.take_length, s2]; exact hc
theorem okRead_sub {ks ks' : List Kd} {e : AV} {j : Nat} (h : okRead ks e 0) (hk : ∀ (i : Nat) kd, ks'[i]? = some kd → ks[j + i]? = some kd) : okRead ks' e j := by
  intro i kd hi
  have := h (j + i) kd (hk i kd hi)
  rw [show 0 + (j + i) = j + i by omega] at this
  exact this
theorem inst_id {e : AV} (h : okRead instKs e 0) : okRead [Kd.int .i64, Kd.int .i64] e 0 := okRead_sub h (by
  intro i kd hi
  match i, hi with
  | 0, hi => exact hi
  | 1, hi => exact hi
  | i + 2, hi => cases hi)
theorem inst_path {e : AV} (h : okRead instKs e 0) : okRead [Kd.str] e 10 := okRead_sub h (by
  intro i kd hi
  match i, hi with
  | 0, hi => exact hi
  | i + 1, hi => cases hi)
theorem inst_st {e : AV} (h : okRead instKs e 0) : okRead [Kd.int .i64] e 2 := okRead_sub h (by
  intro i kd hi
  match i, hi with
  | 0, hi => exact hi
  | i + 1, hi => cases hi)
theorem inst_vote {e : AV} (h : okRead instKs e 0) : okRead [Kd.int .u32] e 4 := okRead_sub h (by
  intro i kd hi
  match i, hi with
  | 0, hi => exact hi
  | i + 1, hi => cases hi)
theorem nats_len (l : List Nat) : (natsAV l).length = l.length := by unfold natsAV; simp
theorem nats_at {l : List Nat} {i : Nat} (hi : i < l.length) : elemAt (natsAV l) i = .int .i64 ((l.getD i 0 : Nat) : Int) := by
  unfold elemAt cellAt natsAV
  simp [List.getD_eq_getElem?_getD, hi]
theorem nats_rd {l : List Nat} {i : Nat} (hi : i < l.length) : rdInt (elemAt (natsAV l) i) 0 = ((l.getD i 0 : Nat) : Int) := by rw [nats_at hi]; rfl
theorem nats_ok {l : List Nat} {i : Nat} (hi : i < l.length) : okElem 1 (natsAV l) i ∧ okRead [Kd.int .i64] (elemAt (natsAV l) i) 0 := by
  unfold okElem
  rw [nats_at hi]
  refine ⟨rfl, fun i kd hk => ?_⟩
  match i, hk with
  | 0, hk => cases hk; rfl
  | i + 1, hk => cases hk
theorem toldsV_succ {m : Int} {x : InstP} {vs : Int} {os : List AV} {i : Nat} (hi : i < (listS m).length) : toldsV m x vs os (i + 1) = toldsV m x vs os i ++ [toldE (((listS m).getD i 0 : Nat) : Int) (yV x vs os ((listS m).getD i 0))] := by
  unfold toldsV
  rw [List.take_add_one, List.getElem?_eq_getElem hi, List.map_append]
  simp [List.getD_eq_getElem?_getD, hi]
theorem toldsV_lenI (m : Int) (x : InstP) (vs : Int) (os : List AV) {i : Nat} (hi : i ≤ (listS m).length) : (toldsV m x vs os i).length = i := by unfold toldsV; simp; omega
theorem toldsV_width (m : Int) (x : InstP) (vs : Int) (os : List AV) (i : Nat) : okWidth 23 (toldsV m x vs os i) := by
  intro e he
  unfold toldsV at he
  obtain ⟨r, _, rfl⟩ := List.mem_map.1 he
  rfl
theorem width_one (r : Int) (y : InstP) : okWidth 23 [toldE r y] := by intro e he; simp at he; subst he; rfl
theorem okAnchor210 : OkAnchor210 := by
  intro hq
  refine vcAnchor210 ?_
  simp only [true_and, and_true, forall_eq, eq_self]
  have s1 : seenN [toldE 1 (newI 0 0), toldE 2 ⟨0, 0, 1, 0, 0, true, zC, zA0⟩] 1 = 2 := by decide +kernel
  have s2 : seenN [toldE 1 (newI 0 0), toldE 2 ⟨0, 0, 1, 0, 0, true, zC, zA0⟩] 2 = 6 := by decide +kernel
  have k : okL 3 0 0 [toldE 1 (newI 0 0), toldE 2 ⟨0, 0, 1, 0, 0, true, zC, zA0⟩] := by
    refine ⟨by decide, by decide, by decide, ?_, by simp, ?_, ?_⟩
    · intro e he
      simp at he
      rcases he with rfl | rfl
      · exact okTold_toldE _ _
      · exact okTold_toldE _ _
    · intro i hi
      have : i = 0 ∨ i = 1 := by simp at hi; omega
      rcases this with rfl | rfl
      · exact ⟨⟨by decide, by decide⟩, by decide +kernel, ⟨Nat.zero_le _, Nat.zero_le _⟩, by decide +kernel, rfl, rfl⟩
      · exact ⟨⟨by decide, by decide⟩, by decide +kernel, ⟨Nat.zero_le _, Nat.zero_le _⟩, by decide +kernel, rfl, rfl⟩
    · decide +kernel
  have c : okCh 3 0 [toldE 1 (newI 0 0), toldE 2 ⟨0, 0, 1, 0, 0, true, zC, zA0⟩] := by
    refine .inr (.inr ⟨?_, by decide +kernel⟩)
    intro i hi
    have : i = 0 ∨ i = 1 := by simp at hi; omega
    rcases this with rfl | rfl
    · decide
    · decide
  exact ⟨k, c⟩
theorem cnt_disj (n : Nat) (p q : Nat → Bool) : ∀ l : List Nat, (∀ r ∈ l, p r = true → q r = false ∧ r < n) → (∀ r ∈ l, q r = true → r < n) → l.countP p + l.countP q ≤ l.countP fun r => decide (r < n)
  | [], _, _ => by simp
  | a :: l, hp, hq => by
    have ih := cnt_disj n p q l (fun r hr => hp r (List.mem_cons_of_mem _ hr)) (fun r hr => hq r (List.mem_cons_of_mem _ hr))
    have h1 := hp a (List.mem_cons_self ..)
    have h2 := hq a (List.mem_cons_self ..)
    rw [List.countP_cons, List.countP_cons, List.countP_cons]
    cases ep : p a
    · cases eq : q a
      · simp; omega
      · have := h2 eq
        simp [this]; omega
    · have := h1 ep
      rw [this.1]
      simp [this.2]; omega
theorem common {n a b : Int} (hn : rightN n = true) (ha : 0 ≤ a ∧ a ≤ 255) (hb : 0 ≤ b ∧ b ≤ 255) (h1 : fN n + 1 ≤ (cntS (meetS a (allS n)) : Nat)) (h2 : fN n + 1 ≤ (cntS (meetS b (allS n)) : Nat)) :
    ∃ r, r ∈ listS (meetS b (allS n)) ∧ hasS (meetS a (allS n)) (r : Nat) = true := by
  have F := fN_vals hn
  have la := fun r h => mem_meet (n := n) (maj := a) hn ha (r := r) h
  have lb := fun r h => mem_meet (n := n) (maj := b) hn hb (r := r) h
  generalize meetS a (allS n) = A at *
  generalize meetS b (allS n) = B at *
  apply Classical.byContradiction
  intro hne
  have key := cnt_disj n.toNat (fun r => A.toNat.testBit r) (fun r => B.toNat.testBit r) (List.range 7) (by
    intro r hr hp
    have r7 : r < 7 := List.mem_range.1 hr
    have mA : r ∈ listS A := mem_listS.2 ⟨r7, by rw [hasS_nat A r r7]; exact hp⟩
    have := la r mA
    refine ⟨?_, by omega⟩
    cases hb' : B.toNat.testBit r
    · rfl
    · exact (hne ⟨r, mem_listS.2 ⟨r7, by rw [hasS_nat B r r7]; exact hb'⟩, by rw [hasS_nat A r r7]; exact hp⟩).elim) (by
    intro r hr hp
    have r7 : r < 7 := List.mem_range.1 hr
    have := lb r (mem_listS.2 ⟨r7, by rw [hasS_nat B r r7]; exact hp⟩)
    omega)
  have e : (List.range 7).countP (fun r => decide (r < n.toNat)) = n.toNat := by
    rcases F with ⟨rfl, _⟩ | ⟨rfl, _⟩ | ⟨rfl, _⟩ <;> decide
  have key' : cntS A + cntS B ≤ n.toNat := by rw [e] at key; exact key
  omega
theorem best_spec (T : List AV) (st : Int) : ∀ i, i ≤ T.length → ((bestN T st i).1 = false → ∀ j, j < i → (tolX (elemAt T j)).st ≠ st) ∧
    ((bestN T st i).1 = true → (∃ j, j < i ∧ (bestN T st i).2 = tolX (elemAt T j) ∧ (tolX (elemAt T j)).st = st) ∧ ∀ j, j < i → (tolX (elemAt T j)).st = st → (tolX (elemAt T j)).vote ≤ (bestN T st i).2.vote)
  | 0, _ => ⟨fun _ j hj => absurd hj (Nat.not_lt_zero j), fun h => by simp [bestN] at h⟩
  | i + 1, hi => by
    obtain ⟨p1, p2⟩ := best_spec T st i (by omega)
    rw [bestN_succ (by omega)]
    split
    · rename_i hc
      refine ⟨fun h => absurd (show true = false from h) (by decide), fun _ => ⟨⟨i, by omega, rfl, hc.1⟩, fun j hj hs => ?_⟩⟩
      show _ ≤ (tolX (elemAt T i)).vote
      by_cases hji : j < i
      · rcases hc.2 with h | h
        · exact absurd hs (p1 h j hji)
        · cases hb : (bestN T st i).1
          · exact absurd hs (p1 hb j hji)
          · have := (p2 hb).2 j hji hs
            omega
      · have : j = i := by omega
        subst this; exact Int.le_refl _
    · rename_i hc
      refine ⟨fun h j hj hs => ?_, fun h => ?_⟩
      · by_cases hji : j < i
        · exact p1 h j hji hs
        · have : j = i := by omega
          subst this
          exact hc ⟨hs, .inl h⟩
      · obtain ⟨⟨j, hj, e1, e2⟩, q⟩ := p2 h
        refine ⟨⟨j, by omega, e1, e2⟩, fun k hk hs => ?_⟩
        by_cases hki : k < i
        · exact q k hki hs
        · have : k = i := by omega
          subst this
          have : ¬ (bestN T st k).2.vote < (tolX (elemAt T k)).vote := fun t => hc ⟨hs, .inr t⟩
          omega
theorem yV_alike {x : InstP} {vs : Int} {os : List AV} {r : Nat} (hst : x.st = 2) : ((yV x vs os r).st = 3 → alikeI (yV x vs os r) x = true) ∧ ((yV x vs os r).st = 2 → alikeI (yV x vs os r) x = true ∨ (yV x vs os r).vote < x.vote) := by
  unfold yV
  split
  · exact ⟨fun _ => alikeI_self x, fun _ => .inl (alikeI_self x)⟩
  · split
    · rename_i h
      refine ⟨fun h3 => ?_, fun h2 => ?_⟩
      · rcases h.2.2.2.2.2 with t | t | t
        · omega
        · exact t
        · omega
      · rcases h.2.2.2.2.2 with t | t | t
        · omega
        · exact .inl t
        · exact .inr t.2
    · refine ⟨fun h3 => ?_, fun h2 => ?_⟩
      · have : (0 : Int) = 3 := h3
        omega
      · have : (0 : Int) = 2 := h2
        omega
theorem voted_end {n maj voted : Int} {x : InstP} {os : List AV} (hn : rightN n = true) (hx : rightI x = true) (hst : x.st = 2) (ho : isInsts os) (hm : 0 ≤ maj ∧ maj ≤ 255) (hv : 0 ≤ voted ∧ voted ≤ 255)
    (hc1 : fN n + 1 ≤ (cntS (meetS voted (allS n)) : Nat)) (hc2 : fN n + 1 ≤ (cntS (meetS maj (allS n)) : Nat)) :
    okCh n x.r (toldsV (meetS maj (allS n)) x (meetS voted (allS n)) os (listS (meetS maj (allS n))).length) ∧
    (choK (toldsV (meetS maj (allS n)) x (meetS voted (allS n)) os (listS (meetS maj (allS n))).length) = 1 ∨ choK (toldsV (meetS maj (allS n)) x (meetS voted (allS n)) os (listS (meetS maj (allS n))).length) = 2) ∧
    alikeI (choX (toldsV (meetS maj (allS n)) x (meetS voted (allS n)) os (listS (meetS maj (allS n))).length)) x = true := by
  obtain ⟨r0, m0, v0⟩ := common hn hv hm hc1 hc2
  generalize meetS voted (allS n) = VS at *
  generalize meetS maj (allS n) = MJ at *
  have len := toldsV_len MJ x VS os
  have at' := fun i (hi : i < (listS MJ).length) => toldsV_at MJ x VS os hi
  obtain ⟨i0, hi0, e0⟩ := List.getElem_of_mem m0
  have eg : (listS MJ).getD i0 0 = r0 := by rw [List.getD_eq_getElem?_getD, List.getElem?_eq_getElem hi0]; simpa using e0
  have x0 : tolX (elemAt (toldsV MJ x VS os (listS MJ).length) i0) = x := by
    rw [at' i0 hi0, eg]
    show yV x VS os r0 = x
    unfold yV; rw [if_pos v0]
  generalize hT : toldsV MJ x VS os (listS MJ).length = T at *
  have sp := best_spec T 2 T.length (Nat.le_refl _)
  have b1 : (bestN T 2 T.length).1 = true := by
    cases hb : (bestN T 2 T.length).1
    · exact absurd (by rw [x0]; exact hst) (sp.1 hb i0 (by omega))
    · rfl
  refine ⟨.inr (.inl b1), ?_, ?_⟩
  · unfold choK
    cases hf : firstB T
    · right; simp [b1]
    · left; simp
  · unfold choX
    cases hf : firstB T
    · rw [if_neg (by simp), if_pos b1]
      obtain ⟨⟨j, hj, e1, e2⟩, q⟩ := sp.2 b1
      have hv0 := q i0 (by omega) (by rw [x0]; exact hst)
      rw [x0] at hv0
      rw [e1] at hv0 ⊢
      rw [at' j (by omega)] at e2 hv0 ⊢
      have ya := yV_alike (vs := VS) (os := os) (r := (listS MJ).getD j 0) hst
      rcases ya.2 e2 with t | t
      · exact t
      · have : x.vote ≤ (yV x VS os ((listS MJ).getD j 0)).vote := hv0
        omega
    · rw [if_pos rfl]
      unfold firstB at hf
      rw [any_find] at hf
      cases hfi : T.find? (fun e => rdInt e 3 == 3) with
      | none => rw [hfi] at hf; cases hf
      | some e =>
        have e1 : firstV T = tolX e := by unfold firstV; rw [hfi]
        rw [e1]
        have hm' := List.mem_of_find?_eq_some hfi
        have hp := List.find?_some hfi
        rw [← hT] at hm'
        unfold toldsV at hm'
        obtain ⟨r, _, rfl⟩ := List.mem_map.1 hm'
        have s3 : (yV x VS os r).st = 3 := by
          have : (rdInt (toldE (r : Nat) (yV x VS os r)) 3 == 3) = true := hp
          have h2 : rdInt (toldE (r : Nat) (yV x VS os r)) 3 = (yV x VS os r).st := rfl
          rw [h2] at this
          simpa using this
        exact (yV_alike (vs := VS) (os := os) (r := r) hst).1 s3
theorem okLawVoted0 : OkLawVoted0 := by
  intro n x voted os maj hq hv hm
  obtain ⟨hs, ho, hl⟩ := hq
  refine vcLawVoted0 n x voted os maj ?_
  simp only [true_and, and_true, forall_eq, eq_self, Int.toNat_natCast]
  refine cond_prop (fun _ => trivial) fun h1 => ⟨hs, cond_prop (fun _ => trivial) fun h2 => cond_prop (fun _ => trivial) fun h3 => cond_prop (fun _ => trivial) fun h4 => cond_prop (fun _ => trivial) fun h5 => ?_⟩
  have hn : rightN n = true := by simpa using h1
  have hx : rightI x = true := by simpa using h2
  have hst : x.st = 2 := by simpa using h3
  have hr : x.r < n := by simpa using h4
  refine ⟨hn, hn, hn, cond_prop (fun _ => trivial) fun h6 => ⟨hn, cond_prop (fun _ => trivial) fun h7 => ?_⟩⟩
  have hc1 : fN n + 1 ≤ (cntS (meetS voted (allS n)) : Nat) := by simpa using h6
  have hc2 : fN n + 1 ≤ (cntS (meetS maj (allS n)) : Nat) := by simpa using h7
  have OL := okL_told (vs := meetS voted (allS n)) hn hx hr hs ho hm hc2
  obtain ⟨E1, E2, E3⟩ := voted_end hn hx hst ho hm hv hc1 hc2
  generalize meetS voted (allS n) = VS at *
  generalize meetS maj (allS n) = MJ at *
  refine ⟨?_, fun i hi => cond_prop (fun h => ?_) fun h => ?_⟩
  · obtain ⟨z, hz⟩ : ∃ z : Nat, z = 0 := ⟨_, rfl⟩
    have t0 : toldsV MJ x VS os z = [] := by rw [hz]; simp [toldsV]
    refine ⟨z, ⟨⟨by rw [t0], by rw [nats_len], by rw [hz]; rfl⟩, by rw [t0]; rfl⟩, by omega⟩
  · have h' : i < (listS MJ).length := by simpa using h
    have l7 : (listS MJ).length ≤ 7 := by
      unfold listS
      have := List.length_filter_le (fun r => MJ.toNat.testBit r) (List.range 7)
      simpa using this
    have w1 : IntKind.i64.wrap ((i : Int) + 1) = ((i + 1 : Nat) : Int) := by rw [wrap_i64 (by omega) (by omega)]; rfl
    have ts := toldsV_succ (m := MJ) (x := x) (vs := VS) (os := os) h'
    have li := toldsV_lenI MJ x VS os hi
    have lj := toldsV_lenI MJ x VS os (i := i + 1) (by omega)
    have wd := toldsV_width MJ x VS os i
    obtain ⟨j, hj⟩ : ∃ j : Nat, j = i + 1 := ⟨_, rfl⟩
    rw [← hj] at w1 ts lj
    have nk := nats_ok h'
    have nr := nats_rd h'
    simp only [nr, nats_len, Int.toNat_natCast]
    generalize (listS MJ).getD i 0 = r at *
    refine ⟨⟨by omega, by omega, nk.1⟩, nk.2, ?_⟩
    have leaf : ∀ y, yV x VS os r = y → (((((toldsV MJ x VS os i).length + 1) * 192 ≤ 140737488355328) ∧ ((toldsV MJ x VS os i).length + 1 ≤ 9223372036854775807) ∧ okWidth 23 (toldsV MJ x VS os i) ∧ okWidth 23 [toldE (r : Int) y]) ∧
        ∃ v : Nat, ((AV.sl (catL (toldsV MJ x VS os i) [toldE (r : Int) y]) (Own.row 11 0 68) = AV.sl (toldsV MJ x VS os v) (Own.row 11 0 68) ∧ AV.int .i64 (IntKind.i64.wrap ((i : Int) + 1)) = AV.int .i64 (v : Int)) ∧ (toldsV MJ x VS os i).length + 1 = (toldsV MJ x VS os v).length) ∧ v ≤ (listS MJ).length ∧ (listS MJ).length - v < (listS MJ).length - i) := by
      intro y hy
      rw [hy] at ts
      exact ⟨⟨by omega, by omega, wd, width_one _ _⟩, j, ⟨⟨by rw [ts]; rfl, by rw [w1]⟩, by omega⟩, by omega, by omega⟩
    have nw : hasS VS r = false → ¬ (r < os.length ∧ rightI (instV (elemAt os r)) = true ∧ (instV (elemAt os r)).r = x.r ∧ (instV (elemAt os r)).sl = x.sl ∧ (instV (elemAt os r)).c.path.length ≤ 100 ∧ ((instV (elemAt os r)).st < 2 ∨ alikeI (instV (elemAt os r)) x = true ∨ ((instV (elemAt os r)).st = 2 ∧ (instV (elemAt os r)).vote < x.vote))) → yV x VS os r = newI x.r x.sl := by
      intro g k; unfold yV; rw [if_neg (by simp [g]), if_neg k]
    refine cond_prop (fun g => ?_) fun g => leaf x (by unfold yV; rw [if_pos (by simpa using g)])
    have g' : hasS VS r = false := by simpa using g
    refine cond_prop (fun k1 => ?_) fun k1 => leaf _ (nw g' (fun t => absurd (Int.ofNat_lt.2 t.1) (of_decide_eq_false k1)))
    have k1' : r < os.length := by simpa using k1
    obtain ⟨o1, o2, o3⟩ := ho r k1'
    have b : (0 : Int) ≤ (r : Int) ∧ (r : Int) < (os.length : Int) ∧ okElem 22 os r := ⟨by omega, by omega, o1⟩
    have iv := fun t => (show yV x VS os r = instV (elemAt os r) from by unfold yV; rw [if_neg (by simp [g']), if_pos t])
    refine ⟨b, o2, o3, cond_prop (fun k2 => ⟨b, inst_id o2, cond_prop (fun k3 => ⟨b, inst_path o2, cond_prop (fun k4 => ⟨b, inst_st o2, cond_prop (fun k5 => ?_) fun k5 => ⟨b, o2, cond_prop (fun k6 => ?_) fun k6 => ⟨b, inst_st o2, cond_prop (fun k7 => ⟨b, inst_vote o2, cond_prop (fun k8 => ?_) fun k8 => ?_⟩) fun k7 => ?_⟩⟩⟩) fun k4 => ?_⟩) fun k3 => ?_⟩) fun k2 => ?_⟩
    · have a3 : (instV (elemAt os r)).r = x.r ∧ (instV (elemAt os r)).sl = x.sl := by simpa using k3
      have a4 : (instV (elemAt os r)).c.path.length ≤ 100 := Int.ofNat_le.1 (of_decide_eq_true k4)
      have lf := leaf _ (iv ⟨k1', k2, a3.1, a3.2, a4, .inl (of_decide_eq_true k5)⟩)
      exact ⟨b, o2, lf⟩
    · have a3 : (instV (elemAt os r)).r = x.r ∧ (instV (elemAt os r)).sl = x.sl := by simpa using k3
      have a4 : (instV (elemAt os r)).c.path.length ≤ 100 := Int.ofNat_le.1 (of_decide_eq_true k4)
      have lf := leaf _ (iv ⟨k1', k2, a3.1, a3.2, a4, .inr (.inl k6)⟩)
      exact ⟨b, o2, lf⟩
    · have a3 : (instV (elemAt os r)).r = x.r ∧ (instV (elemAt os r)).sl = x.sl := by simpa using k3
      have a4 : (instV (elemAt os r)).c.path.length ≤ 100 := Int.ofNat_le.1 (of_decide_eq_true k4)
      have a7 : (instV (elemAt os r)).st = 2 := by simpa using k7
      have lf := leaf _ (iv ⟨k1', k2, a3.1, a3.2, a4, .inr (.inr ⟨a7, of_decide_eq_true k8⟩)⟩)
      exact ⟨b, o2, lf⟩
    · refine leaf _ (nw g' (fun t => ?_))
      rcases t.2.2.2.2.2 with t | t | t
      · exact absurd t (of_decide_eq_false k5)
      · rw [t] at k6; cases k6
      · exact absurd t.2 (of_decide_eq_false k8)
    · refine leaf _ (nw g' (fun t => ?_))
      rcases t.2.2.2.2.2 with t | t | t
      · exact absurd t (of_decide_eq_false k5)
      · rw [t] at k6; cases k6
      · rw [t.1] at k7; cases k7
    · exact leaf _ (nw g' (fun t => absurd (Int.ofNat_le.2 t.2.2.2.2.1) (of_decide_eq_false k4)))
    · refine leaf _ (nw g' (fun t => ?_))
      rw [t.2.2.1, t.2.2.2.1] at k3
      simp at k3
    · refine leaf _ (nw g' (fun t => ?_))
      rw [t.2.1] at k2; cases k2
  · have h' : i = (listS MJ).length := by simp at h; omega
    rw [h']
    refine ⟨⟨OL, E1⟩, ?_⟩
    have al : alikeI ⟨x.r, x.sl, 1, 0, 0, false, (choX (toldsV MJ x VS os (listS MJ).length)).c, (choX (toldsV MJ x VS os (listS MJ).length)).a⟩ x = true := E3
    rcases E2 with e | e
    · simp only [e]; exact al.symm
    · simp only [e]; exact al.symm
end Go.Proofs.YtcokifdgbfbonaaDoor
/- The contracts are met. -/
namespace Go.Proofs.YtcokifdgbfbonaaDoor
set_option linter.unusedVariables false
set_option linter.unusedSimpArgs false
open Go.RowKit
theorem sndAnchor21 : Sound Tryd.prog (lookΓ gamAnchor21) := sound_of _ fun p hp => by
  simp only [gamAnchor21, List.mem_cons, List.not_mem_nil, or_false] at hp
  rcases hp with rfl | rfl | rfl
  · exact meetsInew.orNil
  · exact meetsChoose2.orNil
  · exact meetsAlike.orNil
set_option maxHeartbeats 4000000 in
theorem meetsAnchor21 : Meets Tryd.prog 35 anchor21F := by
  refine meets_of_awp (Γ := lookΓ gamAnchor21) (L := fun _ _ => none) sndAnchor21 mixedOrders Tryd.func35 rfl Tryd.call35 ?_
  intro args q r hF hq ho
  unfold anchor21F at hF
  split at hF
  · cases hF
    exact ⟨by simp only [List.length_cons, List.length_nil]; decide, okAnchor210 hq⟩
  · cases hF
theorem sndLawVoted : Sound Tryd.prog (lookΓ gamLawVoted) := sound_of _ fun p hp => by
  simp only [gamLawVoted, List.mem_cons, List.not_mem_nil, or_false] at hp
  rcases hp with rfl | rfl | rfl | rfl | rfl | rfl | rfl | rfl | rfl | rfl | rfl | rfl
  · exact meetsAnchor21.orNil
  · exact meetsCrewRight.orNil
  · exact meetsIright.orNil
  · exact meetsAllC.orNil
  · exact meetsMeetC.orNil
  · exact meetsCountC.orNil
  · exact meetsCrewMaj.orNil
  · exact meetsListC.orNil
  · exact meetsHasC.orNil
  · exact meetsInew.orNil
  · exact meetsAlike.orNil
  · exact meetsChoose2.orNil
set_option maxHeartbeats 4000000 in
theorem meetsLawVoted : Meets Tryd.prog 8 lawVotedF := by
  refine meets_of_awp (Γ := lookΓ gamLawVoted) (L := fun args => match args with | [.val (.int .i64 n), .val (.agg zcx), .val (.int .u8 voted), .val (.sl os .no), .val (.int .u8 maj)] => (match instOf zcx with | some x => lpLawVoted0 n x voted os maj | _ => fun _ => none) | _ => fun _ => none) sndLawVoted mixedOrders Tryd.func8 rfl Tryd.call8 ?_
  intro args q r hF hq ho
  unfold lawVotedF at hF
  split at hF
  · split at hF
    · rename_i x hzx
      obtain rfl := instOf_some hzx
      cases hF
      exact ⟨by simp only [List.length_cons, List.length_nil]; decide, okLawVoted0 _ _ _ _ _ hq (okay_u8 (argI 2 ho rfl rfl)) (okay_u8 (argI 4 ho rfl rfl))⟩
    · cases hF
  · cases hF
end Go.Proofs.YtcokifdgbfbonaaDoor
