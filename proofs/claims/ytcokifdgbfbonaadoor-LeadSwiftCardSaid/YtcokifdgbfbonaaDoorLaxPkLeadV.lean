/- Contracts by content, their conditions, and that they are met: LeadV. -/
import Derived.Test.YtcokifdgbfbonaaDoorLaxPkLead
/- Contracts by content, and the conditions that their code must meet. -/
namespace Go.Proofs.YtcokifdgbfbonaaDoor
set_option linter.unusedVariables false
set_option linter.unusedSimpArgs false
open Go.RowKit
def mergeQ (a b : AttP) : AttP := ⟨mx a.s b.s, mx a.d0 b.d0, mx a.d1 b.d1, mx a.d2 b.d2, mx a.d3 b.d3, mx a.d4 b.d4, mx a.d5 b.d5, mx a.d6 b.d6⟩
def sameN (xs : List AV) (i : Nat) : Nat := ((xs.drop 1).take i).countP fun e => rdBool e 6
def mergedN (xs : List AV) (i : Nat) : InstP := ⟨rdInt (elemAt xs 0) 1, rdInt (elemAt xs 0) 2, rdInt (elemAt xs 0) 3, rdInt (elemAt xs 0) 4, rdInt (elemAt xs 0) 5, false, (tolX (elemAt xs 0)).c, ((xs.drop 1).take i).foldl (fun a e => mergeQ a (tolX e).a) (tolX (elemAt xs 0)).a⟩
def fN (n : Int) : Int := n.fdiv 2
def sameA (l : LeadP) : Int := (sameN l.told (l.told.length - 1) : Nat)
def mergedA (l : LeadP) : InstP := mergedN l.told (l.told.length - 1)
def askK (l : LeadP) (n : Int) (f : Bool) : Int := if l.bal = 0 ∧ 2 * fN n - 1 ≤ sameA l then 1 else if (l.told.length : Int) < fN n + 1 then 0 else if f = true ∨ l.bal ≠ 0 ∨ sameA l + n - l.told.length < 2 * fN n - 1 then 2 else 0
def askX (l : LeadP) (n : Int) (f : Bool) : InstP := if askK l n f = 1 then tolX (elemAt l.told 0) else if askK l n f = 2 then mergedA l else zI
def verK (l : LeadP) (n : Int) (f : Bool) : Int := if l.bal < l.over then 5 else askK l n f
def verX (l : LeadP) (n : Int) (f : Bool) : InstP := if l.bal < l.over then zI else askX l n f
def loopSame (l : LeadP) : LoopInv :=
  { V := Nat
    T := fun i => [(3, .int .i64 (sameN l.told i : Nat)), (8, .sl (cutL l.told 1 l.told.length) .no), (9, .int .i64 ((l.told.length - 1 : Nat) : Int)), (10, .int .i64 (i : Int))]
    B := fun i => []
    R := fun i => []
    inv := fun i => i ≤ l.told.length - 1
    mu := fun i => l.told.length - 1 - i }
def loopMerged (l : LeadP) : LoopInv :=
  { V := Nat
    T := fun i => [(2, .ptr 2 0), (3, .ptr 3 0), (14, .sl (cutL l.told 1 l.told.length) .no), (15, .int .i64 ((l.told.length - 1 : Nat) : Int)), (16, .int .i64 (i : Int))]
    B := fun i => [(2, instL zI), (3, instL (mergedN l.told i))]
    R := fun i => []
    inv := fun i => i ≤ l.told.length - 1
    mu := fun i => l.told.length - 1 - i }
def crewRightF : Con
  | [.val (.int .i64 n)] => (some (n = 3 ∨ n = 5 ∨ n = 7, ⟨.bool true, none, none⟩))
  | _ => none
def gamCrewRight : List (Nat × Con) := []
def lpCrewRight0 (n : Int) : Nat → Option LoopPlan := fun _ => none
def inCrewRight0 (n : Int) : Prop := awp [] (lpCrewRight0 n) (lookΓ gamCrewRight) Tryd.prog Tryd.f36.ntmps 0 (Tryd.f36.body.getD .skip) (entrySt [.val (.int .i64 n)]) (exitQ Tryd.prog Tryd.f36.results.toList [] ⟨.bool true, none, none⟩)
def OkCrewRight0 : Prop := ∀ (n : Int), n = 3 ∨ n = 5 ∨ n = 7 → inCrewRight0 n
def crewFF : Con
  | [.val (.int .i64 n)] => (some (n = 3 ∨ n = 5 ∨ n = 7, ⟨.int .i64 (fN n), none, none⟩))
  | _ => none
def gamCrewF : List (Nat × Con) := [(36, crewRightF.orNil)]
def lpCrewF0 (n : Int) : Nat → Option LoopPlan := fun _ => none
def inCrewF0 (n : Int) : Prop := awp [] (lpCrewF0 n) (lookΓ gamCrewF) Tryd.prog Tryd.f85.ntmps 0 (Tryd.f85.body.getD .skip) (entrySt [.val (.int .i64 n)]) (exitQ Tryd.prog Tryd.f85.results.toList [] ⟨.int .i64 (fN n), none, none⟩)
def OkCrewF0 : Prop := ∀ (n : Int), n = 3 ∨ n = 5 ∨ n = 7 → inCrewF0 n
def crewMajF : Con
  | [.val (.int .i64 n)] => (some (n = 3 ∨ n = 5 ∨ n = 7, ⟨.int .i64 (fN n + 1), none, none⟩))
  | _ => none
def gamCrewMaj : List (Nat × Con) := [(36, crewRightF.orNil), (85, crewFF.orNil)]
def lpCrewMaj0 (n : Int) : Nat → Option LoopPlan := fun _ => none
def inCrewMaj0 (n : Int) : Prop := awp [] (lpCrewMaj0 n) (lookΓ gamCrewMaj) Tryd.prog Tryd.f40.ntmps 0 (Tryd.f40.body.getD .skip) (entrySt [.val (.int .i64 n)]) (exitQ Tryd.prog Tryd.f40.results.toList [] ⟨.int .i64 (fN n + 1), none, none⟩)
def OkCrewMaj0 : Prop := ∀ (n : Int), n = 3 ∨ n = 5 ∨ n = 7 → inCrewMaj0 n
def crewFastF : Con
  | [.val (.int .i64 n)] => (some (n = 3 ∨ n = 5 ∨ n = 7, ⟨.int .i64 (2 * fN n), none, none⟩))
  | _ => none
def gamCrewFast : List (Nat × Con) := [(85, crewFF.orNil)]
def lpCrewFast0 (n : Int) : Nat → Option LoopPlan := fun _ => none
def inCrewFast0 (n : Int) : Prop := awp [] (lpCrewFast0 n) (lookΓ gamCrewFast) Tryd.prog Tryd.f47.ntmps 0 (Tryd.f47.body.getD .skip) (entrySt [.val (.int .i64 n)]) (exitQ Tryd.prog Tryd.f47.results.toList [] ⟨.int .i64 (2 * fN n), none, none⟩)
def OkCrewFast0 : Prop := ∀ (n : Int), n = 3 ∨ n = 5 ∨ n = 7 → inCrewFast0 n
def lsameF : Con
  | [.val (.agg zcl)] => (match leadOf zcl with | some l => some (isTolds l.told ∧ l.told ≠ [] ∧ l.told.length ≤ 100, ⟨.int .i64 (sameA l), none, none⟩) | _ => none)
  | _ => none
def gamLsame : List (Nat × Con) := []
def lpLsame0 (l : LeadP) : Nat → Option LoopPlan := fun b => bif Nat.beq b 0 then some (.inv [] (loopSame l)) else none
def inLsame0 (l : LeadP) : Prop := awp [] (lpLsame0 l) (lookΓ gamLsame) Tryd.prog Tryd.f139.ntmps 0 (Tryd.f139.body.getD .skip) (entrySt [.val (.agg (leadL l))]) (exitQ Tryd.prog Tryd.f139.results.toList [] ⟨.int .i64 (sameA l), none, none⟩)
def OkLsame0 : Prop := ∀ (l : LeadP), isTolds l.told ∧ l.told ≠ [] ∧ l.told.length ≤ 100 → inLsame0 l
def lmergedF : Con
  | [.val (.agg zcl)] => (match leadOf zcl with | some l => some (isTolds l.told ∧ l.told ≠ [] ∧ l.told.length ≤ 100, ⟨.agg (instL (mergedA l)), none, none⟩) | _ => none)
  | _ => none
def gamLmerged : List (Nat × Con) := [(83, attMergeF.orNil)]
def lpLmerged0 (l : LeadP) : Nat → Option LoopPlan := fun b => bif Nat.beq b 0 then some (.inv [] (loopMerged l)) else none
def inLmerged0 (l : LeadP) : Prop := awp [] (lpLmerged0 l) (lookΓ gamLmerged) Tryd.prog Tryd.f140.ntmps 0 (Tryd.f140.body.getD .skip) (entrySt [.val (.agg (leadL l))]) (exitQ Tryd.prog Tryd.f140.results.toList [] ⟨.agg (instL (mergedA l)), none, none⟩)
def OkLmerged0 : Prop := ∀ (l : LeadP), isTolds l.told ∧ l.told ≠ [] ∧ l.told.length ≤ 100 → inLmerged0 l
def laskedF : Con
  | [.val (.agg zcl), .val (.int .i64 n), .val (.bool f)] => (match leadOf zcl with | some l => some ((n = 3 ∨ n = 5 ∨ n = 7) ∧ isTolds l.told ∧ l.told ≠ [] ∧ l.told.length ≤ 100, ⟨.tup [.int .i64 (askK l n f), .agg (instL (askX l n f))], none, none⟩) | _ => none)
  | _ => none
def gamLasked : List (Nat × Con) := [(139, lsameF.orNil), (47, crewFastF.orNil), (40, crewMajF.orNil), (140, lmergedF.orNil)]
def lpLasked0 (l : LeadP) (n : Int) (f : Bool) : Nat → Option LoopPlan := fun _ => none
def inLasked0 (l : LeadP) (n : Int) (f : Bool) : Prop := awp [] (lpLasked0 l n f) (lookΓ gamLasked) Tryd.prog Tryd.f105.ntmps 0 (Tryd.f105.body.getD .skip) (entrySt [.val (.agg (leadL l)), .val (.int .i64 n), .val (.bool f)]) (exitQ Tryd.prog Tryd.f105.results.toList [] ⟨.tup [.int .i64 (askK l n f), .agg (instL (askX l n f))], none, none⟩)
def OkLasked0 : Prop := ∀ (l : LeadP) (n : Int) (f : Bool), (n = 3 ∨ n = 5 ∨ n = 7) ∧ isTolds l.told ∧ l.told ≠ [] ∧ l.told.length ≤ 100 → inLasked0 l n f
def verdictF : Con
  | [.val (.agg zcl), .val (.int .i64 n), .val (.bool f)] => (match leadOf zcl with | some l => some (l.ph = 1 ∧ (n = 3 ∨ n = 5 ∨ n = 7) ∧ isTolds l.told ∧ l.told ≠ [] ∧ l.told.length ≤ 100, ⟨.tup [.int .i64 (verK l n f), .agg (instL (verX l n f)), .int .i64 0], none, none⟩) | _ => none)
  | _ => none
def gamVerdict : List (Nat × Con) := [(36, crewRightF.orNil), (105, laskedF.orNil)]
def lpVerdict0 (l : LeadP) (n : Int) (f : Bool) : Nat → Option LoopPlan := fun _ => none
def inVerdict0 (l : LeadP) (n : Int) (f : Bool) : Prop := awp [] (lpVerdict0 l n f) (lookΓ gamVerdict) Tryd.prog Tryd.f57.ntmps 0 (Tryd.f57.body.getD .skip) (entrySt [.val (.agg (leadL l)), .val (.int .i64 n), .val (.bool f)]) (exitQ Tryd.prog Tryd.f57.results.toList [] ⟨.tup [.int .i64 (verK l n f), .agg (instL (verX l n f)), .int .i64 0], none, none⟩)
def OkVerdict0 : Prop := ∀ (l : LeadP) (n : Int) (f : Bool), l.ph = 1 ∧ (n = 3 ∨ n = 5 ∨ n = 7) ∧ isTolds l.told ∧ l.told ≠ [] ∧ l.told.length ≤ 100 → inVerdict0 l n f
end Go.Proofs.YtcokifdgbfbonaaDoor
/- What the verification conditions come to: printed by a program of ours (wip/lax/ex/Norm.lean). -/
namespace Go.Proofs.YtcokifdgbfbonaaDoor
set_option linter.unusedVariables false
open Go.RowKit
set_option maxRecDepth 100000
theorem vcCrewRight0 (n : Int) (h : (tt ∧ T1 ∧ tt ∧ T1 ∧ T1 ∧ T1 ∧ (bif (decide ((3 : Int) ≤ n)) then (T1 ∧ T1 ∧ T1 ∧ T1 ∧ (bif (decide (n ≤ (7 : Int))) then (T1 ∧ (@Ne.{1} Int (2 : Int) (0 : Int)) ∧ T1 ∧ T1 ∧ T1 ∧ tt ∧ tt ∧ ((true = ((Int.tmod n (2 : Int)) == (1 : Int))) ∧ True) ∧ tt) else ((false = false) ∧ T1 ∧ tt ∧ tt ∧ ((true = false) ∧ True) ∧ tt))) else ((false = false) ∧ T1 ∧ (false = false) ∧ T1 ∧ tt ∧ tt ∧ ((true = false) ∧ True) ∧ tt)))) : inCrewRight0 n :=
  Eq.mp (show _ = _ by kernel_rfl) h
theorem vcCrewF0 (n : Int) (h : (tt ∧ T1 ∧ tt ∧ T1 ∧ (T1 ∧ (Or (n = (3 : Int)) (Or (n = (5 : Int)) (n = (7 : Int))))) ∧ T1 ∧ tt ∧ T1 ∧ ((0 : Int) ≤ (1 : Int)) ∧ T1 ∧ tt ∧ tt ∧ (((fN n) = (Int.fdiv n (2 : Int))) ∧ True) ∧ tt)) : inCrewF0 n :=
  Eq.mp (show _ = _ by kernel_rfl) h
theorem vcCrewMaj0 (n : Int) (h : (tt ∧ T1 ∧ tt ∧ T1 ∧ (T1 ∧ (Or (n = (3 : Int)) (Or (n = (5 : Int)) (n = (7 : Int))))) ∧ T1 ∧ tt ∧ T1 ∧ (T1 ∧ (Or (n = (3 : Int)) (Or (n = (5 : Int)) (n = (7 : Int))))) ∧ (∀ (v0 : Int), (∀ (v1 : (v0 = (fN n))), (T1 ∧ T1 ∧ tt ∧ tt ∧ ((((fN n) + (1 : Int)) = (Go.IntKind.wrap Go.IntKind.i64 (v0 + (1 : Int)))) ∧ True) ∧ tt))))) : inCrewMaj0 n :=
  Eq.mp (show _ = _ by kernel_rfl) h
theorem vcCrewFast0 (n : Int) (h : (tt ∧ T1 ∧ tt ∧ T1 ∧ (T1 ∧ (Or (n = (3 : Int)) (Or (n = (5 : Int)) (n = (7 : Int))))) ∧ (∀ (v0 : Int), (∀ (v1 : (v0 = (fN n))), (((0 : Int) ≤ (1 : Int)) ∧ T1 ∧ tt ∧ tt ∧ ((((2 : Int) * (fN n)) = (Go.IntKind.wrap Go.IntKind.i64 (v0 * (2 : Int)))) ∧ True) ∧ tt))))) : inCrewFast0 n :=
  Eq.mp (show _ = _ by kernel_rfl) h
theorem vcLsame0 (l : LeadP) (h : (tt ∧ T1 ∧ T1 ∧ tt ∧ T1 ∧ tt ∧ T1 ∧ tt ∧ ((((0 : Int) ≤ (1 : Int)) ∧ ((1 : Int) ≤ (@Nat.cast Int _ (List.length (LeadP.told l))))) ∧ (okWidth 23 (LeadP.told l))) ∧ T1 ∧ T1 ∧ (@Exists.{1} (LoopInv.V (loopSame l)) (fun (v0 : Nat) => (((((AV.int Go.IntKind.i64 (0 : Int)) = (AV.int Go.IntKind.i64 (@Nat.cast Int _ (sameN (LeadP.told l) v0)))) ∧ ((AV.sl (@cutL AV (LeadP.told l) 1 (List.length (LeadP.told l))) Own.no) = (AV.sl (@cutL AV (LeadP.told l) 1 (List.length (LeadP.told l))) Own.no)) ∧ ((AV.int Go.IntKind.i64 (@Nat.cast Int _ (List.length (@cutL AV (LeadP.told l) 1 (List.length (LeadP.told l)))))) = (AV.int Go.IntKind.i64 (@Nat.cast Int _ ((List.length (LeadP.told l)) - 1)))) ∧ ((AV.int Go.IntKind.i64 (0 : Int)) = (AV.int Go.IntKind.i64 (@Nat.cast Int _ v0))) ∧ True) ∧ T1 ∧ T1 ∧ tt ∧ tt) ∧ (v0 ≤ ((List.length (LeadP.told l)) - 1))))) ∧ (∀ (v0 : Nat), (∀ (v1 : (v0 ≤ ((List.length (LeadP.told l)) - 1))), (tt ∧ T1 ∧ (bif (decide ((@Nat.cast Int _ v0) < (@Nat.cast Int _ ((List.length (LeadP.told l)) - 1)))) then (tt ∧ (((0 : Int) ≤ (@Nat.cast Int _ v0)) ∧ ((@Nat.cast Int _ v0) < (@Nat.cast Int _ (List.length (@cutL AV (LeadP.told l) 1 (List.length (LeadP.told l)))))) ∧ (okElem 23 (@cutL AV (LeadP.told l) 1 (List.length (LeadP.told l))) (Int.toNat (@Nat.cast Int _ v0)))) ∧ (okRead [(Kd.int Go.IntKind.i64), (Kd.int Go.IntKind.i64), (Kd.int Go.IntKind.i64), (Kd.int Go.IntKind.i64), (Kd.int Go.IntKind.u32), (Kd.int Go.IntKind.u32), Kd.bool, (Kd.int Go.IntKind.i64), (Kd.int Go.IntKind.u64), Kd.str, (Kd.int Go.IntKind.u64), Kd.str, (Kd.int Go.IntKind.i64), (Kd.int Go.IntKind.u64), (Kd.int Go.IntKind.i64), (Kd.int Go.IntKind.i64), (Kd.int Go.IntKind.i64), (Kd.int Go.IntKind.i64), (Kd.int Go.IntKind.i64), (Kd.int Go.IntKind.i64), (Kd.int Go.IntKind.i64), (Kd.int Go.IntKind.i64), (Kd.int Go.IntKind.i64)] (elemAt (@cutL AV (LeadP.told l) 1 (List.length (LeadP.told l))) (Int.toNat (@Nat.cast Int _ v0))) 0) ∧ T1 ∧ tt ∧ tt ∧ T1 ∧ T1 ∧ tt ∧ (bif (rdBool (elemAt (@cutL AV (LeadP.told l) 1 (List.length (LeadP.told l))) (Int.toNat (@Nat.cast Int _ v0))) 6) then (tt ∧ T1 ∧ T1 ∧ T1 ∧ tt ∧ T1 ∧ T1 ∧ (@Exists.{1} (LoopInv.V (loopSame l)) (fun (v2 : Nat) => (((((AV.int Go.IntKind.i64 (Go.IntKind.wrap Go.IntKind.i64 ((@Nat.cast Int _ (sameN (LeadP.told l) v0)) + (1 : Int)))) = (AV.int Go.IntKind.i64 (@Nat.cast Int _ (sameN (LeadP.told l) v2)))) ∧ ((AV.sl (@cutL AV (LeadP.told l) 1 (List.length (LeadP.told l))) Own.no) = (AV.sl (@cutL AV (LeadP.told l) 1 (List.length (LeadP.told l))) Own.no)) ∧ ((AV.int Go.IntKind.i64 (@Nat.cast Int _ ((List.length (LeadP.told l)) - 1))) = (AV.int Go.IntKind.i64 (@Nat.cast Int _ ((List.length (LeadP.told l)) - 1)))) ∧ ((AV.int Go.IntKind.i64 (Go.IntKind.wrap Go.IntKind.i64 ((@Nat.cast Int _ v0) + (1 : Int)))) = (AV.int Go.IntKind.i64 (@Nat.cast Int _ v2))) ∧ True) ∧ T1 ∧ T1 ∧ tt ∧ tt) ∧ (v2 ≤ ((List.length (LeadP.told l)) - 1)) ∧ ((((List.length (LeadP.told l)) - 1) - v2) < (((List.length (LeadP.told l)) - 1) - v0)))))) else (tt ∧ T1 ∧ T1 ∧ (@Exists.{1} (LoopInv.V (loopSame l)) (fun (v2 : Nat) => (((((AV.int Go.IntKind.i64 (@Nat.cast Int _ (sameN (LeadP.told l) v0))) = (AV.int Go.IntKind.i64 (@Nat.cast Int _ (sameN (LeadP.told l) v2)))) ∧ ((AV.sl (@cutL AV (LeadP.told l) 1 (List.length (LeadP.told l))) Own.no) = (AV.sl (@cutL AV (LeadP.told l) 1 (List.length (LeadP.told l))) Own.no)) ∧ ((AV.int Go.IntKind.i64 (@Nat.cast Int _ ((List.length (LeadP.told l)) - 1))) = (AV.int Go.IntKind.i64 (@Nat.cast Int _ ((List.length (LeadP.told l)) - 1)))) ∧ ((AV.int Go.IntKind.i64 (Go.IntKind.wrap Go.IntKind.i64 ((@Nat.cast Int _ v0) + (1 : Int)))) = (AV.int Go.IntKind.i64 (@Nat.cast Int _ v2))) ∧ True) ∧ T1 ∧ T1 ∧ tt ∧ tt) ∧ (v2 ≤ ((List.length (LeadP.told l)) - 1)) ∧ ((((List.length (LeadP.told l)) - 1) - v2) < (((List.length (LeadP.told l)) - 1) - v0)))))))) else (tt ∧ T1 ∧ T1 ∧ tt ∧ tt ∧ (((@Nat.cast Int _ (sameN (LeadP.told l) ((List.length (LeadP.told l)) - 1))) = (@Nat.cast Int _ (sameN (LeadP.told l) v0))) ∧ True) ∧ tt))))))) : inLsame0 l :=
  Eq.mp (show _ = _ by kernel_rfl) h
theorem vcLmerged0 (l : LeadP) (h : (tt ∧ T1 ∧ T1 ∧ tt ∧ T1 ∧ tt ∧ (((0 : Int) ≤ (0 : Int)) ∧ ((0 : Int) < (@Nat.cast Int _ (List.length (LeadP.told l)))) ∧ (okElem 23 (LeadP.told l) 0)) ∧ T1 ∧ (okRead [(Kd.int Go.IntKind.i64), (Kd.int Go.IntKind.i64), (Kd.int Go.IntKind.i64), (Kd.int Go.IntKind.u32), (Kd.int Go.IntKind.u32), Kd.bool, (Kd.int Go.IntKind.i64), (Kd.int Go.IntKind.u64), Kd.str, (Kd.int Go.IntKind.u64), Kd.str, (Kd.int Go.IntKind.i64), (Kd.int Go.IntKind.u64), (Kd.int Go.IntKind.i64), (Kd.int Go.IntKind.i64), (Kd.int Go.IntKind.i64), (Kd.int Go.IntKind.i64), (Kd.int Go.IntKind.i64), (Kd.int Go.IntKind.i64), (Kd.int Go.IntKind.i64), (Kd.int Go.IntKind.i64), (Kd.int Go.IntKind.i64)] (elemAt (LeadP.told l) 0) 1) ∧ T1 ∧ tt ∧ tt ∧ T1 ∧ tt ∧ tt ∧ T1 ∧ tt ∧ ((((0 : Int) ≤ (1 : Int)) ∧ ((1 : Int) ≤ (@Nat.cast Int _ (List.length (LeadP.told l))))) ∧ (okWidth 23 (LeadP.told l))) ∧ T1 ∧ T1 ∧ (@Exists.{1} (LoopInv.V (loopMerged l)) (fun (v0 : Nat) => (((((AV.ptr 2 0) = (AV.ptr 2 0)) ∧ ((AV.ptr 3 0) = (AV.ptr 3 0)) ∧ ((AV.sl (@cutL AV (LeadP.told l) 1 (List.length (LeadP.told l))) Own.no) = (AV.sl (@cutL AV (LeadP.told l) 1 (List.length (LeadP.told l))) Own.no)) ∧ ((AV.int Go.IntKind.i64 (@Nat.cast Int _ (List.length (@cutL AV (LeadP.told l) 1 (List.length (LeadP.told l)))))) = (AV.int Go.IntKind.i64 (@Nat.cast Int _ ((List.length (LeadP.told l)) - 1)))) ∧ ((AV.int Go.IntKind.i64 (0 : Int)) = (AV.int Go.IntKind.i64 (@Nat.cast Int _ v0))) ∧ True) ∧ (((@Option.some.{0} (@List.{0} AV) [(AV.int Go.IntKind.i64 (0 : Int)), (AV.int Go.IntKind.i64 (0 : Int)), (AV.int Go.IntKind.i64 (0 : Int)), (AV.int Go.IntKind.u32 (0 : Int)), (AV.int Go.IntKind.u32 (0 : Int)), (AV.bool false), (AV.int Go.IntKind.i64 (0 : Int)), (AV.int Go.IntKind.u64 (0 : Int)), (AV.str (@List.nil.{0} UInt8)), (AV.int Go.IntKind.u64 (0 : Int)), (AV.str (@List.nil.{0} UInt8)), (AV.int Go.IntKind.i64 (0 : Int)), (AV.int Go.IntKind.u64 (0 : Int)), (AV.int Go.IntKind.i64 (0 : Int)), (AV.int Go.IntKind.i64 (0 : Int)), (AV.int Go.IntKind.i64 (0 : Int)), (AV.int Go.IntKind.i64 (0 : Int)), (AV.int Go.IntKind.i64 (0 : Int)), (AV.int Go.IntKind.i64 (0 : Int)), (AV.int Go.IntKind.i64 (0 : Int)), (AV.int Go.IntKind.i64 (0 : Int)), (AV.int Go.IntKind.i64 (0 : Int))]) = (@Option.some.{0} (@List.{0} AV) [(AV.int Go.IntKind.i64 (0 : Int)), (AV.int Go.IntKind.i64 (0 : Int)), (AV.int Go.IntKind.i64 (0 : Int)), (AV.int Go.IntKind.u32 (0 : Int)), (AV.int Go.IntKind.u32 (0 : Int)), (AV.bool false), (AV.int Go.IntKind.i64 (0 : Int)), (AV.int Go.IntKind.u64 (0 : Int)), (AV.str (@List.nil.{0} UInt8)), (AV.int Go.IntKind.u64 (0 : Int)), (AV.str (@List.nil.{0} UInt8)), (AV.int Go.IntKind.i64 (0 : Int)), (AV.int Go.IntKind.u64 (0 : Int)), (AV.int Go.IntKind.i64 (0 : Int)), (AV.int Go.IntKind.i64 (0 : Int)), (AV.int Go.IntKind.i64 (0 : Int)), (AV.int Go.IntKind.i64 (0 : Int)), (AV.int Go.IntKind.i64 (0 : Int)), (AV.int Go.IntKind.i64 (0 : Int)), (AV.int Go.IntKind.i64 (0 : Int)), (AV.int Go.IntKind.i64 (0 : Int)), (AV.int Go.IntKind.i64 (0 : Int))])) ∧ ((@Option.some.{0} (@List.{0} AV) [(AV.int Go.IntKind.i64 (rdInt (elemAt (LeadP.told l) 0) 1)), (AV.int Go.IntKind.i64 (rdInt (elemAt (LeadP.told l) 0) 2)), (AV.int Go.IntKind.i64 (rdInt (elemAt (LeadP.told l) 0) 3)), (AV.int Go.IntKind.u32 (rdInt (elemAt (LeadP.told l) 0) 4)), (AV.int Go.IntKind.u32 (rdInt (elemAt (LeadP.told l) 0) 5)), (AV.bool false), (AV.int Go.IntKind.i64 (rdInt (elemAt (LeadP.told l) 0) 7)), (AV.int Go.IntKind.u64 (rdInt (elemAt (LeadP.told l) 0) 8)), (AV.str (rdStr (elemAt (LeadP.told l) 0) 9)), (AV.int Go.IntKind.u64 (rdInt (elemAt (LeadP.told l) 0) 10)), (AV.str (rdStr (elemAt (LeadP.told l) 0) 11)), (AV.int Go.IntKind.i64 (rdInt (elemAt (LeadP.told l) 0) 12)), (AV.int Go.IntKind.u64 (rdInt (elemAt (LeadP.told l) 0) 13)), (AV.int Go.IntKind.i64 (rdInt (elemAt (LeadP.told l) 0) 14)), (AV.int Go.IntKind.i64 (rdInt (elemAt (LeadP.told l) 0) 15)), (AV.int Go.IntKind.i64 (rdInt (elemAt (LeadP.told l) 0) 16)), (AV.int Go.IntKind.i64 (rdInt (elemAt (LeadP.told l) 0) 17)), (AV.int Go.IntKind.i64 (rdInt (elemAt (LeadP.told l) 0) 18)), (AV.int Go.IntKind.i64 (rdInt (elemAt (LeadP.told l) 0) 19)), (AV.int Go.IntKind.i64 (rdInt (elemAt (LeadP.told l) 0) 20)), (AV.int Go.IntKind.i64 (rdInt (elemAt (LeadP.told l) 0) 21)), (AV.int Go.IntKind.i64 (rdInt (elemAt (LeadP.told l) 0) 22))]) = (@Option.some.{0} (@List.{0} AV) [(AV.int Go.IntKind.i64 (InstP.r (mergedN (LeadP.told l) v0))), (AV.int Go.IntKind.i64 (InstP.sl (mergedN (LeadP.told l) v0))), (AV.int Go.IntKind.i64 (InstP.st (mergedN (LeadP.told l) v0))), (AV.int Go.IntKind.u32 (InstP.bal (mergedN (LeadP.told l) v0))), (AV.int Go.IntKind.u32 (InstP.vote (mergedN (LeadP.told l) v0))), (AV.bool (InstP.same (mergedN (LeadP.told l) v0))), (AV.int Go.IntKind.i64 (CmdP.k (InstP.c (mergedN (LeadP.told l) v0)))), (AV.int Go.IntKind.u64 (CmdP.num (InstP.c (mergedN (LeadP.told l) v0)))), (AV.str (CmdP.foot (InstP.c (mergedN (LeadP.told l) v0)))), (AV.int Go.IntKind.u64 (CmdP.rq (InstP.c (mergedN (LeadP.told l) v0)))), (AV.str (CmdP.path (InstP.c (mergedN (LeadP.told l) v0)))), (AV.int Go.IntKind.i64 (CmdP.mode (InstP.c (mergedN (LeadP.told l) v0)))), (AV.int Go.IntKind.u64 (CmdP.n (InstP.c (mergedN (LeadP.told l) v0)))), (AV.int Go.IntKind.i64 (CmdP.time (InstP.c (mergedN (LeadP.told l) v0)))), (AV.int Go.IntKind.i64 (AttP.s (InstP.a (mergedN (LeadP.told l) v0)))), (AV.int Go.IntKind.i64 (AttP.d0 (InstP.a (mergedN (LeadP.told l) v0)))), (AV.int Go.IntKind.i64 (AttP.d1 (InstP.a (mergedN (LeadP.told l) v0)))), (AV.int Go.IntKind.i64 (AttP.d2 (InstP.a (mergedN (LeadP.told l) v0)))), (AV.int Go.IntKind.i64 (AttP.d3 (InstP.a (mergedN (LeadP.told l) v0)))), (AV.int Go.IntKind.i64 (AttP.d4 (InstP.a (mergedN (LeadP.told l) v0)))), (AV.int Go.IntKind.i64 (AttP.d5 (InstP.a (mergedN (LeadP.told l) v0)))), (AV.int Go.IntKind.i64 (AttP.d6 (InstP.a (mergedN (LeadP.told l) v0))))])) ∧ True) ∧ T1 ∧ tt ∧ tt) ∧ (v0 ≤ ((List.length (LeadP.told l)) - 1))))) ∧ (∀ (v0 : Nat), (∀ (v1 : (v0 ≤ ((List.length (LeadP.told l)) - 1))), (tt ∧ T1 ∧ (bif (decide ((@Nat.cast Int _ v0) < (@Nat.cast Int _ ((List.length (LeadP.told l)) - 1)))) then (tt ∧ (((0 : Int) ≤ (@Nat.cast Int _ v0)) ∧ ((@Nat.cast Int _ v0) < (@Nat.cast Int _ (List.length (@cutL AV (LeadP.told l) 1 (List.length (LeadP.told l)))))) ∧ (okElem 23 (@cutL AV (LeadP.told l) 1 (List.length (LeadP.told l))) (Int.toNat (@Nat.cast Int _ v0)))) ∧ (okRead [(Kd.int Go.IntKind.i64), (Kd.int Go.IntKind.i64), (Kd.int Go.IntKind.i64), (Kd.int Go.IntKind.i64), (Kd.int Go.IntKind.u32), (Kd.int Go.IntKind.u32), Kd.bool, (Kd.int Go.IntKind.i64), (Kd.int Go.IntKind.u64), Kd.str, (Kd.int Go.IntKind.u64), Kd.str, (Kd.int Go.IntKind.i64), (Kd.int Go.IntKind.u64), (Kd.int Go.IntKind.i64), (Kd.int Go.IntKind.i64), (Kd.int Go.IntKind.i64), (Kd.int Go.IntKind.i64), (Kd.int Go.IntKind.i64), (Kd.int Go.IntKind.i64), (Kd.int Go.IntKind.i64), (Kd.int Go.IntKind.i64), (Kd.int Go.IntKind.i64)] (elemAt (@cutL AV (LeadP.told l) 1 (List.length (LeadP.told l))) (Int.toNat (@Nat.cast Int _ v0))) 0) ∧ T1 ∧ tt ∧ tt ∧ T1 ∧ tt ∧ T1 ∧ T1 ∧ tt ∧ (T1 ∧ True) ∧ T1 ∧ tt ∧ tt ∧ T1 ∧ T1 ∧ (@Exists.{1} (LoopInv.V (loopMerged l)) (fun (v2 : Nat) => (((((AV.ptr 2 0) = (AV.ptr 2 0)) ∧ ((AV.ptr 3 0) = (AV.ptr 3 0)) ∧ ((AV.sl (@cutL AV (LeadP.told l) 1 (List.length (LeadP.told l))) Own.no) = (AV.sl (@cutL AV (LeadP.told l) 1 (List.length (LeadP.told l))) Own.no)) ∧ ((AV.int Go.IntKind.i64 (@Nat.cast Int _ ((List.length (LeadP.told l)) - 1))) = (AV.int Go.IntKind.i64 (@Nat.cast Int _ ((List.length (LeadP.told l)) - 1)))) ∧ ((AV.int Go.IntKind.i64 (Go.IntKind.wrap Go.IntKind.i64 ((@Nat.cast Int _ v0) + (1 : Int)))) = (AV.int Go.IntKind.i64 (@Nat.cast Int _ v2))) ∧ True) ∧ (((@Option.some.{0} (@List.{0} AV) [(AV.int Go.IntKind.i64 (0 : Int)), (AV.int Go.IntKind.i64 (0 : Int)), (AV.int Go.IntKind.i64 (0 : Int)), (AV.int Go.IntKind.u32 (0 : Int)), (AV.int Go.IntKind.u32 (0 : Int)), (AV.bool false), (AV.int Go.IntKind.i64 (0 : Int)), (AV.int Go.IntKind.u64 (0 : Int)), (AV.str (@List.nil.{0} UInt8)), (AV.int Go.IntKind.u64 (0 : Int)), (AV.str (@List.nil.{0} UInt8)), (AV.int Go.IntKind.i64 (0 : Int)), (AV.int Go.IntKind.u64 (0 : Int)), (AV.int Go.IntKind.i64 (0 : Int)), (AV.int Go.IntKind.i64 (0 : Int)), (AV.int Go.IntKind.i64 (0 : Int)), (AV.int Go.IntKind.i64 (0 : Int)), (AV.int Go.IntKind.i64 (0 : Int)), (AV.int Go.IntKind.i64 (0 : Int)), (AV.int Go.IntKind.i64 (0 : Int)), (AV.int Go.IntKind.i64 (0 : Int)), (AV.int Go.IntKind.i64 (0 : Int))]) = (@Option.some.{0} (@List.{0} AV) [(AV.int Go.IntKind.i64 (0 : Int)), (AV.int Go.IntKind.i64 (0 : Int)), (AV.int Go.IntKind.i64 (0 : Int)), (AV.int Go.IntKind.u32 (0 : Int)), (AV.int Go.IntKind.u32 (0 : Int)), (AV.bool false), (AV.int Go.IntKind.i64 (0 : Int)), (AV.int Go.IntKind.u64 (0 : Int)), (AV.str (@List.nil.{0} UInt8)), (AV.int Go.IntKind.u64 (0 : Int)), (AV.str (@List.nil.{0} UInt8)), (AV.int Go.IntKind.i64 (0 : Int)), (AV.int Go.IntKind.u64 (0 : Int)), (AV.int Go.IntKind.i64 (0 : Int)), (AV.int Go.IntKind.i64 (0 : Int)), (AV.int Go.IntKind.i64 (0 : Int)), (AV.int Go.IntKind.i64 (0 : Int)), (AV.int Go.IntKind.i64 (0 : Int)), (AV.int Go.IntKind.i64 (0 : Int)), (AV.int Go.IntKind.i64 (0 : Int)), (AV.int Go.IntKind.i64 (0 : Int)), (AV.int Go.IntKind.i64 (0 : Int))])) ∧ ((@Option.some.{0} (@List.{0} AV) [(AV.int Go.IntKind.i64 (InstP.r (mergedN (LeadP.told l) v0))), (AV.int Go.IntKind.i64 (InstP.sl (mergedN (LeadP.told l) v0))), (AV.int Go.IntKind.i64 (InstP.st (mergedN (LeadP.told l) v0))), (AV.int Go.IntKind.u32 (InstP.bal (mergedN (LeadP.told l) v0))), (AV.int Go.IntKind.u32 (InstP.vote (mergedN (LeadP.told l) v0))), (AV.bool (InstP.same (mergedN (LeadP.told l) v0))), (AV.int Go.IntKind.i64 (CmdP.k (InstP.c (mergedN (LeadP.told l) v0)))), (AV.int Go.IntKind.u64 (CmdP.num (InstP.c (mergedN (LeadP.told l) v0)))), (AV.str (CmdP.foot (InstP.c (mergedN (LeadP.told l) v0)))), (AV.int Go.IntKind.u64 (CmdP.rq (InstP.c (mergedN (LeadP.told l) v0)))), (AV.str (CmdP.path (InstP.c (mergedN (LeadP.told l) v0)))), (AV.int Go.IntKind.i64 (CmdP.mode (InstP.c (mergedN (LeadP.told l) v0)))), (AV.int Go.IntKind.u64 (CmdP.n (InstP.c (mergedN (LeadP.told l) v0)))), (AV.int Go.IntKind.i64 (CmdP.time (InstP.c (mergedN (LeadP.told l) v0)))), (AV.int Go.IntKind.i64 (mx (AttP.s (InstP.a (mergedN (LeadP.told l) v0))) (rdInt (elemAt (@cutL AV (LeadP.told l) 1 (List.length (LeadP.told l))) (Int.toNat (@Nat.cast Int _ v0))) 15))), (AV.int Go.IntKind.i64 (mx (AttP.d0 (InstP.a (mergedN (LeadP.told l) v0))) (rdInt (elemAt (@cutL AV (LeadP.told l) 1 (List.length (LeadP.told l))) (Int.toNat (@Nat.cast Int _ v0))) 16))), (AV.int Go.IntKind.i64 (mx (AttP.d1 (InstP.a (mergedN (LeadP.told l) v0))) (rdInt (elemAt (@cutL AV (LeadP.told l) 1 (List.length (LeadP.told l))) (Int.toNat (@Nat.cast Int _ v0))) 17))), (AV.int Go.IntKind.i64 (mx (AttP.d2 (InstP.a (mergedN (LeadP.told l) v0))) (rdInt (elemAt (@cutL AV (LeadP.told l) 1 (List.length (LeadP.told l))) (Int.toNat (@Nat.cast Int _ v0))) 18))), (AV.int Go.IntKind.i64 (mx (AttP.d3 (InstP.a (mergedN (LeadP.told l) v0))) (rdInt (elemAt (@cutL AV (LeadP.told l) 1 (List.length (LeadP.told l))) (Int.toNat (@Nat.cast Int _ v0))) 19))), (AV.int Go.IntKind.i64 (mx (AttP.d4 (InstP.a (mergedN (LeadP.told l) v0))) (rdInt (elemAt (@cutL AV (LeadP.told l) 1 (List.length (LeadP.told l))) (Int.toNat (@Nat.cast Int _ v0))) 20))), (AV.int Go.IntKind.i64 (mx (AttP.d5 (InstP.a (mergedN (LeadP.told l) v0))) (rdInt (elemAt (@cutL AV (LeadP.told l) 1 (List.length (LeadP.told l))) (Int.toNat (@Nat.cast Int _ v0))) 21))), (AV.int Go.IntKind.i64 (mx (AttP.d6 (InstP.a (mergedN (LeadP.told l) v0))) (rdInt (elemAt (@cutL AV (LeadP.told l) 1 (List.length (LeadP.told l))) (Int.toNat (@Nat.cast Int _ v0))) 22)))]) = (@Option.some.{0} (@List.{0} AV) [(AV.int Go.IntKind.i64 (InstP.r (mergedN (LeadP.told l) v2))), (AV.int Go.IntKind.i64 (InstP.sl (mergedN (LeadP.told l) v2))), (AV.int Go.IntKind.i64 (InstP.st (mergedN (LeadP.told l) v2))), (AV.int Go.IntKind.u32 (InstP.bal (mergedN (LeadP.told l) v2))), (AV.int Go.IntKind.u32 (InstP.vote (mergedN (LeadP.told l) v2))), (AV.bool (InstP.same (mergedN (LeadP.told l) v2))), (AV.int Go.IntKind.i64 (CmdP.k (InstP.c (mergedN (LeadP.told l) v2)))), (AV.int Go.IntKind.u64 (CmdP.num (InstP.c (mergedN (LeadP.told l) v2)))), (AV.str (CmdP.foot (InstP.c (mergedN (LeadP.told l) v2)))), (AV.int Go.IntKind.u64 (CmdP.rq (InstP.c (mergedN (LeadP.told l) v2)))), (AV.str (CmdP.path (InstP.c (mergedN (LeadP.told l) v2)))), (AV.int Go.IntKind.i64 (CmdP.mode (InstP.c (mergedN (LeadP.told l) v2)))), (AV.int Go.IntKind.u64 (CmdP.n (InstP.c (mergedN (LeadP.told l) v2)))), (AV.int Go.IntKind.i64 (CmdP.time (InstP.c (mergedN (LeadP.told l) v2)))), (AV.int Go.IntKind.i64 (AttP.s (InstP.a (mergedN (LeadP.told l) v2)))), (AV.int Go.IntKind.i64 (AttP.d0 (InstP.a (mergedN (LeadP.told l) v2)))), (AV.int Go.IntKind.i64 (AttP.d1 (InstP.a (mergedN (LeadP.told l) v2)))), (AV.int Go.IntKind.i64 (AttP.d2 (InstP.a (mergedN (LeadP.told l) v2)))), (AV.int Go.IntKind.i64 (AttP.d3 (InstP.a (mergedN (LeadP.told l) v2)))), (AV.int Go.IntKind.i64 (AttP.d4 (InstP.a (mergedN (LeadP.told l) v2)))), (AV.int Go.IntKind.i64 (AttP.d5 (InstP.a (mergedN (LeadP.told l) v2)))), (AV.int Go.IntKind.i64 (AttP.d6 (InstP.a (mergedN (LeadP.told l) v2))))])) ∧ True) ∧ T1 ∧ tt ∧ tt) ∧ (v2 ≤ ((List.length (LeadP.told l)) - 1)) ∧ ((((List.length (LeadP.told l)) - 1) - v2) < (((List.length (LeadP.told l)) - 1) - v0)))))) else (tt ∧ tt ∧ tt ∧ tt ∧ tt ∧ (((InstP.r (mergedN (LeadP.told l) ((List.length (LeadP.told l)) - 1))) = (InstP.r (mergedN (LeadP.told l) v0))) ∧ ((InstP.sl (mergedN (LeadP.told l) ((List.length (LeadP.told l)) - 1))) = (InstP.sl (mergedN (LeadP.told l) v0))) ∧ ((InstP.st (mergedN (LeadP.told l) ((List.length (LeadP.told l)) - 1))) = (InstP.st (mergedN (LeadP.told l) v0))) ∧ ((InstP.bal (mergedN (LeadP.told l) ((List.length (LeadP.told l)) - 1))) = (InstP.bal (mergedN (LeadP.told l) v0))) ∧ ((InstP.vote (mergedN (LeadP.told l) ((List.length (LeadP.told l)) - 1))) = (InstP.vote (mergedN (LeadP.told l) v0))) ∧ (false = (InstP.same (mergedN (LeadP.told l) v0))) ∧ ((CmdP.k (InstP.c (mergedN (LeadP.told l) ((List.length (LeadP.told l)) - 1)))) = (CmdP.k (InstP.c (mergedN (LeadP.told l) v0)))) ∧ ((CmdP.num (InstP.c (mergedN (LeadP.told l) ((List.length (LeadP.told l)) - 1)))) = (CmdP.num (InstP.c (mergedN (LeadP.told l) v0)))) ∧ ((CmdP.foot (InstP.c (mergedN (LeadP.told l) ((List.length (LeadP.told l)) - 1)))) = (CmdP.foot (InstP.c (mergedN (LeadP.told l) v0)))) ∧ ((CmdP.rq (InstP.c (mergedN (LeadP.told l) ((List.length (LeadP.told l)) - 1)))) = (CmdP.rq (InstP.c (mergedN (LeadP.told l) v0)))) ∧ ((CmdP.path (InstP.c (mergedN (LeadP.told l) ((List.length (LeadP.told l)) - 1)))) = (CmdP.path (InstP.c (mergedN (LeadP.told l) v0)))) ∧ ((CmdP.mode (InstP.c (mergedN (LeadP.told l) ((List.length (LeadP.told l)) - 1)))) = (CmdP.mode (InstP.c (mergedN (LeadP.told l) v0)))) ∧ ((CmdP.n (InstP.c (mergedN (LeadP.told l) ((List.length (LeadP.told l)) - 1)))) = (CmdP.n (InstP.c (mergedN (LeadP.told l) v0)))) ∧ ((CmdP.time (InstP.c (mergedN (LeadP.told l) ((List.length (LeadP.told l)) - 1)))) = (CmdP.time (InstP.c (mergedN (LeadP.told l) v0)))) ∧ ((AttP.s (InstP.a (mergedN (LeadP.told l) ((List.length (LeadP.told l)) - 1)))) = (AttP.s (InstP.a (mergedN (LeadP.told l) v0)))) ∧ ((AttP.d0 (InstP.a (mergedN (LeadP.told l) ((List.length (LeadP.told l)) - 1)))) = (AttP.d0 (InstP.a (mergedN (LeadP.told l) v0)))) ∧ ((AttP.d1 (InstP.a (mergedN (LeadP.told l) ((List.length (LeadP.told l)) - 1)))) = (AttP.d1 (InstP.a (mergedN (LeadP.told l) v0)))) ∧ ((AttP.d2 (InstP.a (mergedN (LeadP.told l) ((List.length (LeadP.told l)) - 1)))) = (AttP.d2 (InstP.a (mergedN (LeadP.told l) v0)))) ∧ ((AttP.d3 (InstP.a (mergedN (LeadP.told l) ((List.length (LeadP.told l)) - 1)))) = (AttP.d3 (InstP.a (mergedN (LeadP.told l) v0)))) ∧ ((AttP.d4 (InstP.a (mergedN (LeadP.told l) ((List.length (LeadP.told l)) - 1)))) = (AttP.d4 (InstP.a (mergedN (LeadP.told l) v0)))) ∧ ((AttP.d5 (InstP.a (mergedN (LeadP.told l) ((List.length (LeadP.told l)) - 1)))) = (AttP.d5 (InstP.a (mergedN (LeadP.told l) v0)))) ∧ ((AttP.d6 (InstP.a (mergedN (LeadP.told l) ((List.length (LeadP.told l)) - 1)))) = (AttP.d6 (InstP.a (mergedN (LeadP.told l) v0)))) ∧ True) ∧ tt))))))) : inLmerged0 l :=
  Eq.mp (show _ = _ by kernel_rfl) h
theorem vcLasked0 (l : LeadP) (n : Int) (f : Bool) (h : (tt ∧ T1 ∧ T1 ∧ T1 ∧ tt ∧ tt ∧ (T1 ∧ (isTolds (LeadP.told l)) ∧ (@Ne.{1} (@List.{0} AV) (LeadP.told l) (@List.nil.{0} AV)) ∧ ((List.length (LeadP.told l)) ≤ 100)) ∧ (∀ (v0 : Int), (∀ (v1 : (v0 = (@Nat.cast Int _ (sameN (LeadP.told l) ((List.length (LeadP.told l)) - 1))))), (T1 ∧ (T1 ∧ (Or (n = (3 : Int)) (Or (n = (5 : Int)) (n = (7 : Int))))) ∧ (∀ (v2 : Int), (∀ (v3 : (v2 = ((2 : Int) * (fN n)))), (T1 ∧ T1 ∧ T1 ∧ tt ∧ T1 ∧ tt ∧ T1 ∧ T1 ∧ (bif ((LeadP.bal l) == (0 : Int)) then (T1 ∧ T1 ∧ T1 ∧ T1 ∧ T1 ∧ (bif (decide ((Go.IntKind.wrap Go.IntKind.i64 (v2 - (1 : Int))) ≤ v0)) then (tt ∧ T1 ∧ tt ∧ (((0 : Int) ≤ (0 : Int)) ∧ ((0 : Int) < (@Nat.cast Int _ (List.length (LeadP.told l)))) ∧ (okElem 23 (LeadP.told l) 0)) ∧ T1 ∧ (okRead [(Kd.int Go.IntKind.i64), (Kd.int Go.IntKind.i64), (Kd.int Go.IntKind.i64), (Kd.int Go.IntKind.u32), (Kd.int Go.IntKind.u32), Kd.bool, (Kd.int Go.IntKind.i64), (Kd.int Go.IntKind.u64), Kd.str, (Kd.int Go.IntKind.u64), Kd.str, (Kd.int Go.IntKind.i64), (Kd.int Go.IntKind.u64), (Kd.int Go.IntKind.i64), (Kd.int Go.IntKind.i64), (Kd.int Go.IntKind.i64), (Kd.int Go.IntKind.i64), (Kd.int Go.IntKind.i64), (Kd.int Go.IntKind.i64), (Kd.int Go.IntKind.i64), (Kd.int Go.IntKind.i64), (Kd.int Go.IntKind.i64)] (elemAt (LeadP.told l) 0) 1) ∧ T1 ∧ tt ∧ tt ∧ tt ∧ tt ∧ (((askK l n f) = (1 : Int)) ∧ ((InstP.r (askX l n f)) = (rdInt (elemAt (LeadP.told l) 0) 1)) ∧ ((InstP.sl (askX l n f)) = (rdInt (elemAt (LeadP.told l) 0) 2)) ∧ ((InstP.st (askX l n f)) = (rdInt (elemAt (LeadP.told l) 0) 3)) ∧ ((InstP.bal (askX l n f)) = (rdInt (elemAt (LeadP.told l) 0) 4)) ∧ ((InstP.vote (askX l n f)) = (rdInt (elemAt (LeadP.told l) 0) 5)) ∧ ((InstP.same (askX l n f)) = (rdBool (elemAt (LeadP.told l) 0) 6)) ∧ ((CmdP.k (InstP.c (askX l n f))) = (rdInt (elemAt (LeadP.told l) 0) 7)) ∧ ((CmdP.num (InstP.c (askX l n f))) = (rdInt (elemAt (LeadP.told l) 0) 8)) ∧ ((CmdP.foot (InstP.c (askX l n f))) = (rdStr (elemAt (LeadP.told l) 0) 9)) ∧ ((CmdP.rq (InstP.c (askX l n f))) = (rdInt (elemAt (LeadP.told l) 0) 10)) ∧ ((CmdP.path (InstP.c (askX l n f))) = (rdStr (elemAt (LeadP.told l) 0) 11)) ∧ ((CmdP.mode (InstP.c (askX l n f))) = (rdInt (elemAt (LeadP.told l) 0) 12)) ∧ ((CmdP.n (InstP.c (askX l n f))) = (rdInt (elemAt (LeadP.told l) 0) 13)) ∧ ((CmdP.time (InstP.c (askX l n f))) = (rdInt (elemAt (LeadP.told l) 0) 14)) ∧ ((AttP.s (InstP.a (askX l n f))) = (rdInt (elemAt (LeadP.told l) 0) 15)) ∧ ((AttP.d0 (InstP.a (askX l n f))) = (rdInt (elemAt (LeadP.told l) 0) 16)) ∧ ((AttP.d1 (InstP.a (askX l n f))) = (rdInt (elemAt (LeadP.told l) 0) 17)) ∧ ((AttP.d2 (InstP.a (askX l n f))) = (rdInt (elemAt (LeadP.told l) 0) 18)) ∧ ((AttP.d3 (InstP.a (askX l n f))) = (rdInt (elemAt (LeadP.told l) 0) 19)) ∧ ((AttP.d4 (InstP.a (askX l n f))) = (rdInt (elemAt (LeadP.told l) 0) 20)) ∧ ((AttP.d5 (InstP.a (askX l n f))) = (rdInt (elemAt (LeadP.told l) 0) 21)) ∧ ((AttP.d6 (InstP.a (askX l n f))) = (rdInt (elemAt (LeadP.told l) 0) 22)) ∧ True) ∧ tt) else (tt ∧ T1 ∧ tt ∧ T1 ∧ T1 ∧ (T1 ∧ (Or (n = (3 : Int)) (Or (n = (5 : Int)) (n = (7 : Int))))) ∧ (∀ (v4 : Int), (∀ (v5 : (v4 = ((fN n) + (1 : Int)))), (T1 ∧ T1 ∧ tt ∧ (bif (decide ((@Nat.cast Int _ (List.length (LeadP.told l))) < v4)) then (tt ∧ T1 ∧ T1 ∧ tt ∧ tt ∧ tt ∧ (((askK l n f) = (0 : Int)) ∧ ((InstP.r (askX l n f)) = (0 : Int)) ∧ ((InstP.sl (askX l n f)) = (0 : Int)) ∧ ((InstP.st (askX l n f)) = (0 : Int)) ∧ ((InstP.bal (askX l n f)) = (0 : Int)) ∧ ((InstP.vote (askX l n f)) = (0 : Int)) ∧ ((InstP.same (askX l n f)) = false) ∧ ((CmdP.k (InstP.c (askX l n f))) = (0 : Int)) ∧ ((CmdP.num (InstP.c (askX l n f))) = (0 : Int)) ∧ ((CmdP.foot (InstP.c (askX l n f))) = (@List.nil.{0} UInt8)) ∧ ((CmdP.rq (InstP.c (askX l n f))) = (0 : Int)) ∧ ((CmdP.path (InstP.c (askX l n f))) = (@List.nil.{0} UInt8)) ∧ ((CmdP.mode (InstP.c (askX l n f))) = (0 : Int)) ∧ ((CmdP.n (InstP.c (askX l n f))) = (0 : Int)) ∧ ((CmdP.time (InstP.c (askX l n f))) = (0 : Int)) ∧ ((AttP.s (InstP.a (askX l n f))) = (0 : Int)) ∧ ((AttP.d0 (InstP.a (askX l n f))) = (0 : Int)) ∧ ((AttP.d1 (InstP.a (askX l n f))) = (0 : Int)) ∧ ((AttP.d2 (InstP.a (askX l n f))) = (0 : Int)) ∧ ((AttP.d3 (InstP.a (askX l n f))) = (0 : Int)) ∧ ((AttP.d4 (InstP.a (askX l n f))) = (0 : Int)) ∧ ((AttP.d5 (InstP.a (askX l n f))) = (0 : Int)) ∧ ((AttP.d6 (InstP.a (askX l n f))) = (0 : Int)) ∧ True) ∧ tt) else (tt ∧ T1 ∧ T1 ∧ (bif f then (tt ∧ T1 ∧ tt ∧ T1 ∧ tt ∧ tt ∧ (T1 ∧ (isTolds (LeadP.told l)) ∧ (@Ne.{1} (@List.{0} AV) (LeadP.told l) (@List.nil.{0} AV)) ∧ ((List.length (LeadP.told l)) ≤ 100)) ∧ T1 ∧ tt ∧ tt ∧ tt ∧ (((askK l n f) = (2 : Int)) ∧ ((InstP.r (askX l n f)) = (InstP.r (mergedN (LeadP.told l) ((List.length (LeadP.told l)) - 1)))) ∧ ((InstP.sl (askX l n f)) = (InstP.sl (mergedN (LeadP.told l) ((List.length (LeadP.told l)) - 1)))) ∧ ((InstP.st (askX l n f)) = (InstP.st (mergedN (LeadP.told l) ((List.length (LeadP.told l)) - 1)))) ∧ ((InstP.bal (askX l n f)) = (InstP.bal (mergedN (LeadP.told l) ((List.length (LeadP.told l)) - 1)))) ∧ ((InstP.vote (askX l n f)) = (InstP.vote (mergedN (LeadP.told l) ((List.length (LeadP.told l)) - 1)))) ∧ ((InstP.same (askX l n f)) = (InstP.same (mergedN (LeadP.told l) ((List.length (LeadP.told l)) - 1)))) ∧ ((CmdP.k (InstP.c (askX l n f))) = (CmdP.k (InstP.c (mergedN (LeadP.told l) ((List.length (LeadP.told l)) - 1))))) ∧ ((CmdP.num (InstP.c (askX l n f))) = (CmdP.num (InstP.c (mergedN (LeadP.told l) ((List.length (LeadP.told l)) - 1))))) ∧ ((CmdP.foot (InstP.c (askX l n f))) = (CmdP.foot (InstP.c (mergedN (LeadP.told l) ((List.length (LeadP.told l)) - 1))))) ∧ ((CmdP.rq (InstP.c (askX l n f))) = (CmdP.rq (InstP.c (mergedN (LeadP.told l) ((List.length (LeadP.told l)) - 1))))) ∧ ((CmdP.path (InstP.c (askX l n f))) = (CmdP.path (InstP.c (mergedN (LeadP.told l) ((List.length (LeadP.told l)) - 1))))) ∧ ((CmdP.mode (InstP.c (askX l n f))) = (CmdP.mode (InstP.c (mergedN (LeadP.told l) ((List.length (LeadP.told l)) - 1))))) ∧ ((CmdP.n (InstP.c (askX l n f))) = (CmdP.n (InstP.c (mergedN (LeadP.told l) ((List.length (LeadP.told l)) - 1))))) ∧ ((CmdP.time (InstP.c (askX l n f))) = (CmdP.time (InstP.c (mergedN (LeadP.told l) ((List.length (LeadP.told l)) - 1))))) ∧ ((AttP.s (InstP.a (askX l n f))) = (AttP.s (InstP.a (mergedN (LeadP.told l) ((List.length (LeadP.told l)) - 1))))) ∧ ((AttP.d0 (InstP.a (askX l n f))) = (AttP.d0 (InstP.a (mergedN (LeadP.told l) ((List.length (LeadP.told l)) - 1))))) ∧ ((AttP.d1 (InstP.a (askX l n f))) = (AttP.d1 (InstP.a (mergedN (LeadP.told l) ((List.length (LeadP.told l)) - 1))))) ∧ ((AttP.d2 (InstP.a (askX l n f))) = (AttP.d2 (InstP.a (mergedN (LeadP.told l) ((List.length (LeadP.told l)) - 1))))) ∧ ((AttP.d3 (InstP.a (askX l n f))) = (AttP.d3 (InstP.a (mergedN (LeadP.told l) ((List.length (LeadP.told l)) - 1))))) ∧ ((AttP.d4 (InstP.a (askX l n f))) = (AttP.d4 (InstP.a (mergedN (LeadP.told l) ((List.length (LeadP.told l)) - 1))))) ∧ ((AttP.d5 (InstP.a (askX l n f))) = (AttP.d5 (InstP.a (mergedN (LeadP.told l) ((List.length (LeadP.told l)) - 1))))) ∧ ((AttP.d6 (InstP.a (askX l n f))) = (AttP.d6 (InstP.a (mergedN (LeadP.told l) ((List.length (LeadP.told l)) - 1))))) ∧ True) ∧ tt) else (T1 ∧ tt ∧ T1 ∧ T1 ∧ T1 ∧ (bif ((LeadP.bal l) != (0 : Int)) then (tt ∧ T1 ∧ tt ∧ tt ∧ (T1 ∧ (isTolds (LeadP.told l)) ∧ (@Ne.{1} (@List.{0} AV) (LeadP.told l) (@List.nil.{0} AV)) ∧ ((List.length (LeadP.told l)) ≤ 100)) ∧ T1 ∧ tt ∧ tt ∧ tt ∧ (((askK l n f) = (2 : Int)) ∧ ((InstP.r (askX l n f)) = (InstP.r (mergedN (LeadP.told l) ((List.length (LeadP.told l)) - 1)))) ∧ ((InstP.sl (askX l n f)) = (InstP.sl (mergedN (LeadP.told l) ((List.length (LeadP.told l)) - 1)))) ∧ ((InstP.st (askX l n f)) = (InstP.st (mergedN (LeadP.told l) ((List.length (LeadP.told l)) - 1)))) ∧ ((InstP.bal (askX l n f)) = (InstP.bal (mergedN (LeadP.told l) ((List.length (LeadP.told l)) - 1)))) ∧ ((InstP.vote (askX l n f)) = (InstP.vote (mergedN (LeadP.told l) ((List.length (LeadP.told l)) - 1)))) ∧ ((InstP.same (askX l n f)) = (InstP.same (mergedN (LeadP.told l) ((List.length (LeadP.told l)) - 1)))) ∧ ((CmdP.k (InstP.c (askX l n f))) = (CmdP.k (InstP.c (mergedN (LeadP.told l) ((List.length (LeadP.told l)) - 1))))) ∧ ((CmdP.num (InstP.c (askX l n f))) = (CmdP.num (InstP.c (mergedN (LeadP.told l) ((List.length (LeadP.told l)) - 1))))) ∧ ((CmdP.foot (InstP.c (askX l n f))) = (CmdP.foot (InstP.c (mergedN (LeadP.told l) ((List.length (LeadP.told l)) - 1))))) ∧ ((CmdP.rq (InstP.c (askX l n f))) = (CmdP.rq (InstP.c (mergedN (LeadP.told l) ((List.length (LeadP.told l)) - 1))))) ∧ ((CmdP.path (InstP.c (askX l n f))) = (CmdP.path (InstP.c (mergedN (LeadP.told l) ((List.length (LeadP.told l)) - 1))))) ∧ ((CmdP.mode (InstP.c (askX l n f))) = (CmdP.mode (InstP.c (mergedN (LeadP.told l) ((List.length (LeadP.told l)) - 1))))) ∧ ((CmdP.n (InstP.c (askX l n f))) = (CmdP.n (InstP.c (mergedN (LeadP.told l) ((List.length (LeadP.told l)) - 1))))) ∧ ((CmdP.time (InstP.c (askX l n f))) = (CmdP.time (InstP.c (mergedN (LeadP.told l) ((List.length (LeadP.told l)) - 1))))) ∧ ((AttP.s (InstP.a (askX l n f))) = (AttP.s (InstP.a (mergedN (LeadP.told l) ((List.length (LeadP.told l)) - 1))))) ∧ ((AttP.d0 (InstP.a (askX l n f))) = (AttP.d0 (InstP.a (mergedN (LeadP.told l) ((List.length (LeadP.told l)) - 1))))) ∧ ((AttP.d1 (InstP.a (askX l n f))) = (AttP.d1 (InstP.a (mergedN (LeadP.told l) ((List.length (LeadP.told l)) - 1))))) ∧ ((AttP.d2 (InstP.a (askX l n f))) = (AttP.d2 (InstP.a (mergedN (LeadP.told l) ((List.length (LeadP.told l)) - 1))))) ∧ ((AttP.d3 (InstP.a (askX l n f))) = (AttP.d3 (InstP.a (mergedN (LeadP.told l) ((List.length (LeadP.told l)) - 1))))) ∧ ((AttP.d4 (InstP.a (askX l n f))) = (AttP.d4 (InstP.a (mergedN (LeadP.told l) ((List.length (LeadP.told l)) - 1))))) ∧ ((AttP.d5 (InstP.a (askX l n f))) = (AttP.d5 (InstP.a (mergedN (LeadP.told l) ((List.length (LeadP.told l)) - 1))))) ∧ ((AttP.d6 (InstP.a (askX l n f))) = (AttP.d6 (InstP.a (mergedN (LeadP.told l) ((List.length (LeadP.told l)) - 1))))) ∧ True) ∧ tt) else (T1 ∧ T1 ∧ T1 ∧ T1 ∧ tt ∧ T1 ∧ T1 ∧ T1 ∧ T1 ∧ T1 ∧ T1 ∧ (bif (decide ((Go.IntKind.wrap Go.IntKind.i64 ((Go.IntKind.wrap Go.IntKind.i64 (v0 + n)) - (@Nat.cast Int _ (List.length (LeadP.told l))))) < (Go.IntKind.wrap Go.IntKind.i64 (v2 - (1 : Int))))) then (tt ∧ tt ∧ (T1 ∧ (isTolds (LeadP.told l)) ∧ (@Ne.{1} (@List.{0} AV) (LeadP.told l) (@List.nil.{0} AV)) ∧ ((List.length (LeadP.told l)) ≤ 100)) ∧ T1 ∧ tt ∧ tt ∧ tt ∧ (((askK l n f) = (2 : Int)) ∧ ((InstP.r (askX l n f)) = (InstP.r (mergedN (LeadP.told l) ((List.length (LeadP.told l)) - 1)))) ∧ ((InstP.sl (askX l n f)) = (InstP.sl (mergedN (LeadP.told l) ((List.length (LeadP.told l)) - 1)))) ∧ ((InstP.st (askX l n f)) = (InstP.st (mergedN (LeadP.told l) ((List.length (LeadP.told l)) - 1)))) ∧ ((InstP.bal (askX l n f)) = (InstP.bal (mergedN (LeadP.told l) ((List.length (LeadP.told l)) - 1)))) ∧ ((InstP.vote (askX l n f)) = (InstP.vote (mergedN (LeadP.told l) ((List.length (LeadP.told l)) - 1)))) ∧ ((InstP.same (askX l n f)) = (InstP.same (mergedN (LeadP.told l) ((List.length (LeadP.told l)) - 1)))) ∧ ((CmdP.k (InstP.c (askX l n f))) = (CmdP.k (InstP.c (mergedN (LeadP.told l) ((List.length (LeadP.told l)) - 1))))) ∧ ((CmdP.num (InstP.c (askX l n f))) = (CmdP.num (InstP.c (mergedN (LeadP.told l) ((List.length (LeadP.told l)) - 1))))) ∧ ((CmdP.foot (InstP.c (askX l n f))) = (CmdP.foot (InstP.c (mergedN (LeadP.told l) ((List.length (LeadP.told l)) - 1))))) ∧ ((CmdP.rq (InstP.c (askX l n f))) = (CmdP.rq (InstP.c (mergedN (LeadP.told l) ((List.length (LeadP.told l)) - 1))))) ∧ ((CmdP.path (InstP.c (askX l n f))) = (CmdP.path (InstP.c (mergedN (LeadP.told l) ((List.length (LeadP.told l)) - 1))))) ∧ ((CmdP.mode (InstP.c (askX l n f))) = (CmdP.mode (InstP.c (mergedN (LeadP.told l) ((List.length (LeadP.told l)) - 1))))) ∧ ((CmdP.n (InstP.c (askX l n f))) = (CmdP.n (InstP.c (mergedN (LeadP.told l) ((List.length (LeadP.told l)) - 1))))) ∧ ((CmdP.time (InstP.c (askX l n f))) = (CmdP.time (InstP.c (mergedN (LeadP.told l) ((List.length (LeadP.told l)) - 1))))) ∧ ((AttP.s (InstP.a (askX l n f))) = (AttP.s (InstP.a (mergedN (LeadP.told l) ((List.length (LeadP.told l)) - 1))))) ∧ ((AttP.d0 (InstP.a (askX l n f))) = (AttP.d0 (InstP.a (mergedN (LeadP.told l) ((List.length (LeadP.told l)) - 1))))) ∧ ((AttP.d1 (InstP.a (askX l n f))) = (AttP.d1 (InstP.a (mergedN (LeadP.told l) ((List.length (LeadP.told l)) - 1))))) ∧ ((AttP.d2 (InstP.a (askX l n f))) = (AttP.d2 (InstP.a (mergedN (LeadP.told l) ((List.length (LeadP.told l)) - 1))))) ∧ ((AttP.d3 (InstP.a (askX l n f))) = (AttP.d3 (InstP.a (mergedN (LeadP.told l) ((List.length (LeadP.told l)) - 1))))) ∧ ((AttP.d4 (InstP.a (askX l n f))) = (AttP.d4 (InstP.a (mergedN (LeadP.told l) ((List.length (LeadP.told l)) - 1))))) ∧ ((AttP.d5 (InstP.a (askX l n f))) = (AttP.d5 (InstP.a (mergedN (LeadP.told l) ((List.length (LeadP.told l)) - 1))))) ∧ ((AttP.d6 (InstP.a (askX l n f))) = (AttP.d6 (InstP.a (mergedN (LeadP.told l) ((List.length (LeadP.told l)) - 1))))) ∧ True) ∧ tt) else (tt ∧ T1 ∧ T1 ∧ tt ∧ tt ∧ tt ∧ (((askK l n f) = (0 : Int)) ∧ ((InstP.r (askX l n f)) = (0 : Int)) ∧ ((InstP.sl (askX l n f)) = (0 : Int)) ∧ ((InstP.st (askX l n f)) = (0 : Int)) ∧ ((InstP.bal (askX l n f)) = (0 : Int)) ∧ ((InstP.vote (askX l n f)) = (0 : Int)) ∧ ((InstP.same (askX l n f)) = false) ∧ ((CmdP.k (InstP.c (askX l n f))) = (0 : Int)) ∧ ((CmdP.num (InstP.c (askX l n f))) = (0 : Int)) ∧ ((CmdP.foot (InstP.c (askX l n f))) = (@List.nil.{0} UInt8)) ∧ ((CmdP.rq (InstP.c (askX l n f))) = (0 : Int)) ∧ ((CmdP.path (InstP.c (askX l n f))) = (@List.nil.{0} UInt8)) ∧ ((CmdP.mode (InstP.c (askX l n f))) = (0 : Int)) ∧ ((CmdP.n (InstP.c (askX l n f))) = (0 : Int)) ∧ ((CmdP.time (InstP.c (askX l n f))) = (0 : Int)) ∧ ((AttP.s (InstP.a (askX l n f))) = (0 : Int)) ∧ ((AttP.d0 (InstP.a (askX l n f))) = (0 : Int)) ∧ ((AttP.d1 (InstP.a (askX l n f))) = (0 : Int)) ∧ ((AttP.d2 (InstP.a (askX l n f))) = (0 : Int)) ∧ ((AttP.d3 (InstP.a (askX l n f))) = (0 : Int)) ∧ ((AttP.d4 (InstP.a (askX l n f))) = (0 : Int)) ∧ ((AttP.d5 (InstP.a (askX l n f))) = (0 : Int)) ∧ ((AttP.d6 (InstP.a (askX l n f))) = (0 : Int)) ∧ True) ∧ tt)))))))))))))) else ((false = false) ∧ T1 ∧ tt ∧ T1 ∧ tt ∧ T1 ∧ T1 ∧ (T1 ∧ (Or (n = (3 : Int)) (Or (n = (5 : Int)) (n = (7 : Int))))) ∧ (∀ (v4 : Int), (∀ (v5 : (v4 = ((fN n) + (1 : Int)))), (T1 ∧ T1 ∧ tt ∧ (bif (decide ((@Nat.cast Int _ (List.length (LeadP.told l))) < v4)) then (tt ∧ T1 ∧ T1 ∧ tt ∧ tt ∧ tt ∧ (((askK l n f) = (0 : Int)) ∧ ((InstP.r (askX l n f)) = (0 : Int)) ∧ ((InstP.sl (askX l n f)) = (0 : Int)) ∧ ((InstP.st (askX l n f)) = (0 : Int)) ∧ ((InstP.bal (askX l n f)) = (0 : Int)) ∧ ((InstP.vote (askX l n f)) = (0 : Int)) ∧ ((InstP.same (askX l n f)) = false) ∧ ((CmdP.k (InstP.c (askX l n f))) = (0 : Int)) ∧ ((CmdP.num (InstP.c (askX l n f))) = (0 : Int)) ∧ ((CmdP.foot (InstP.c (askX l n f))) = (@List.nil.{0} UInt8)) ∧ ((CmdP.rq (InstP.c (askX l n f))) = (0 : Int)) ∧ ((CmdP.path (InstP.c (askX l n f))) = (@List.nil.{0} UInt8)) ∧ ((CmdP.mode (InstP.c (askX l n f))) = (0 : Int)) ∧ ((CmdP.n (InstP.c (askX l n f))) = (0 : Int)) ∧ ((CmdP.time (InstP.c (askX l n f))) = (0 : Int)) ∧ ((AttP.s (InstP.a (askX l n f))) = (0 : Int)) ∧ ((AttP.d0 (InstP.a (askX l n f))) = (0 : Int)) ∧ ((AttP.d1 (InstP.a (askX l n f))) = (0 : Int)) ∧ ((AttP.d2 (InstP.a (askX l n f))) = (0 : Int)) ∧ ((AttP.d3 (InstP.a (askX l n f))) = (0 : Int)) ∧ ((AttP.d4 (InstP.a (askX l n f))) = (0 : Int)) ∧ ((AttP.d5 (InstP.a (askX l n f))) = (0 : Int)) ∧ ((AttP.d6 (InstP.a (askX l n f))) = (0 : Int)) ∧ True) ∧ tt) else (tt ∧ T1 ∧ T1 ∧ (bif f then (tt ∧ T1 ∧ tt ∧ T1 ∧ tt ∧ tt ∧ (T1 ∧ (isTolds (LeadP.told l)) ∧ (@Ne.{1} (@List.{0} AV) (LeadP.told l) (@List.nil.{0} AV)) ∧ ((List.length (LeadP.told l)) ≤ 100)) ∧ T1 ∧ tt ∧ tt ∧ tt ∧ (((askK l n f) = (2 : Int)) ∧ ((InstP.r (askX l n f)) = (InstP.r (mergedN (LeadP.told l) ((List.length (LeadP.told l)) - 1)))) ∧ ((InstP.sl (askX l n f)) = (InstP.sl (mergedN (LeadP.told l) ((List.length (LeadP.told l)) - 1)))) ∧ ((InstP.st (askX l n f)) = (InstP.st (mergedN (LeadP.told l) ((List.length (LeadP.told l)) - 1)))) ∧ ((InstP.bal (askX l n f)) = (InstP.bal (mergedN (LeadP.told l) ((List.length (LeadP.told l)) - 1)))) ∧ ((InstP.vote (askX l n f)) = (InstP.vote (mergedN (LeadP.told l) ((List.length (LeadP.told l)) - 1)))) ∧ ((InstP.same (askX l n f)) = (InstP.same (mergedN (LeadP.told l) ((List.length (LeadP.told l)) - 1)))) ∧ ((CmdP.k (InstP.c (askX l n f))) = (CmdP.k (InstP.c (mergedN (LeadP.told l) ((List.length (LeadP.told l)) - 1))))) ∧ ((CmdP.num (InstP.c (askX l n f))) = (CmdP.num (InstP.c (mergedN (LeadP.told l) ((List.length (LeadP.told l)) - 1))))) ∧ ((CmdP.foot (InstP.c (askX l n f))) = (CmdP.foot (InstP.c (mergedN (LeadP.told l) ((List.length (LeadP.told l)) - 1))))) ∧ ((CmdP.rq (InstP.c (askX l n f))) = (CmdP.rq (InstP.c (mergedN (LeadP.told l) ((List.length (LeadP.told l)) - 1))))) ∧ ((CmdP.path (InstP.c (askX l n f))) = (CmdP.path (InstP.c (mergedN (LeadP.told l) ((List.length (LeadP.told l)) - 1))))) ∧ ((CmdP.mode (InstP.c (askX l n f))) = (CmdP.mode (InstP.c (mergedN (LeadP.told l) ((List.length (LeadP.told l)) - 1))))) ∧ ((CmdP.n (InstP.c (askX l n f))) = (CmdP.n (InstP.c (mergedN (LeadP.told l) ((List.length (LeadP.told l)) - 1))))) ∧ ((CmdP.time (InstP.c (askX l n f))) = (CmdP.time (InstP.c (mergedN (LeadP.told l) ((List.length (LeadP.told l)) - 1))))) ∧ ((AttP.s (InstP.a (askX l n f))) = (AttP.s (InstP.a (mergedN (LeadP.told l) ((List.length (LeadP.told l)) - 1))))) ∧ ((AttP.d0 (InstP.a (askX l n f))) = (AttP.d0 (InstP.a (mergedN (LeadP.told l) ((List.length (LeadP.told l)) - 1))))) ∧ ((AttP.d1 (InstP.a (askX l n f))) = (AttP.d1 (InstP.a (mergedN (LeadP.told l) ((List.length (LeadP.told l)) - 1))))) ∧ ((AttP.d2 (InstP.a (askX l n f))) = (AttP.d2 (InstP.a (mergedN (LeadP.told l) ((List.length (LeadP.told l)) - 1))))) ∧ ((AttP.d3 (InstP.a (askX l n f))) = (AttP.d3 (InstP.a (mergedN (LeadP.told l) ((List.length (LeadP.told l)) - 1))))) ∧ ((AttP.d4 (InstP.a (askX l n f))) = (AttP.d4 (InstP.a (mergedN (LeadP.told l) ((List.length (LeadP.told l)) - 1))))) ∧ ((AttP.d5 (InstP.a (askX l n f))) = (AttP.d5 (InstP.a (mergedN (LeadP.told l) ((List.length (LeadP.told l)) - 1))))) ∧ ((AttP.d6 (InstP.a (askX l n f))) = (AttP.d6 (InstP.a (mergedN (LeadP.told l) ((List.length (LeadP.told l)) - 1))))) ∧ True) ∧ tt) else (T1 ∧ tt ∧ T1 ∧ T1 ∧ T1 ∧ (bif ((LeadP.bal l) != (0 : Int)) then (tt ∧ T1 ∧ tt ∧ tt ∧ (T1 ∧ (isTolds (LeadP.told l)) ∧ (@Ne.{1} (@List.{0} AV) (LeadP.told l) (@List.nil.{0} AV)) ∧ ((List.length (LeadP.told l)) ≤ 100)) ∧ T1 ∧ tt ∧ tt ∧ tt ∧ (((askK l n f) = (2 : Int)) ∧ ((InstP.r (askX l n f)) = (InstP.r (mergedN (LeadP.told l) ((List.length (LeadP.told l)) - 1)))) ∧ ((InstP.sl (askX l n f)) = (InstP.sl (mergedN (LeadP.told l) ((List.length (LeadP.told l)) - 1)))) ∧ ((InstP.st (askX l n f)) = (InstP.st (mergedN (LeadP.told l) ((List.length (LeadP.told l)) - 1)))) ∧ ((InstP.bal (askX l n f)) = (InstP.bal (mergedN (LeadP.told l) ((List.length (LeadP.told l)) - 1)))) ∧ ((InstP.vote (askX l n f)) = (InstP.vote (mergedN (LeadP.told l) ((List.length (LeadP.told l)) - 1)))) ∧ ((InstP.same (askX l n f)) = (InstP.same (mergedN (LeadP.told l) ((List.length (LeadP.told l)) - 1)))) ∧ ((CmdP.k (InstP.c (askX l n f))) = (CmdP.k (InstP.c (mergedN (LeadP.told l) ((List.length (LeadP.told l)) - 1))))) ∧ ((CmdP.num (InstP.c (askX l n f))) = (CmdP.num (InstP.c (mergedN (LeadP.told l) ((List.length (LeadP.told l)) - 1))))) ∧ ((CmdP.foot (InstP.c (askX l n f))) = (CmdP.foot (InstP.c (mergedN (LeadP.told l) ((List.length (LeadP.told l)) - 1))))) ∧ ((CmdP.rq (InstP.c (askX l n f))) = (CmdP.rq (InstP.c (mergedN (LeadP.told l) ((List.length (LeadP.told l)) - 1))))) ∧ ((CmdP.path (InstP.c (askX l n f))) = (CmdP.path (InstP.c (mergedN (LeadP.told l) ((List.length (LeadP.told l)) - 1))))) ∧ ((CmdP.mode (InstP.c (askX l n f))) = (CmdP.mode (InstP.c (mergedN (LeadP.told l) ((List.length (LeadP.told l)) - 1))))) ∧ ((CmdP.n (InstP.c (askX l n f))) = (CmdP.n (InstP.c (mergedN (LeadP.told l) ((List.length (LeadP.told l)) - 1))))) ∧ ((CmdP.time (InstP.c (askX l n f))) = (CmdP.time (InstP.c (mergedN (LeadP.told l) ((List.length (LeadP.told l)) - 1))))) ∧ ((AttP.s (InstP.a (askX l n f))) = (AttP.s (InstP.a (mergedN (LeadP.told l) ((List.length (LeadP.told l)) - 1))))) ∧ ((AttP.d0 (InstP.a (askX l n f))) = (AttP.d0 (InstP.a (mergedN (LeadP.told l) ((List.length (LeadP.told l)) - 1))))) ∧ ((AttP.d1 (InstP.a (askX l n f))) = (AttP.d1 (InstP.a (mergedN (LeadP.told l) ((List.length (LeadP.told l)) - 1))))) ∧ ((AttP.d2 (InstP.a (askX l n f))) = (AttP.d2 (InstP.a (mergedN (LeadP.told l) ((List.length (LeadP.told l)) - 1))))) ∧ ((AttP.d3 (InstP.a (askX l n f))) = (AttP.d3 (InstP.a (mergedN (LeadP.told l) ((List.length (LeadP.told l)) - 1))))) ∧ ((AttP.d4 (InstP.a (askX l n f))) = (AttP.d4 (InstP.a (mergedN (LeadP.told l) ((List.length (LeadP.told l)) - 1))))) ∧ ((AttP.d5 (InstP.a (askX l n f))) = (AttP.d5 (InstP.a (mergedN (LeadP.told l) ((List.length (LeadP.told l)) - 1))))) ∧ ((AttP.d6 (InstP.a (askX l n f))) = (AttP.d6 (InstP.a (mergedN (LeadP.told l) ((List.length (LeadP.told l)) - 1))))) ∧ True) ∧ tt) else (T1 ∧ T1 ∧ T1 ∧ T1 ∧ tt ∧ T1 ∧ T1 ∧ T1 ∧ T1 ∧ T1 ∧ T1 ∧ (bif (decide ((Go.IntKind.wrap Go.IntKind.i64 ((Go.IntKind.wrap Go.IntKind.i64 (v0 + n)) - (@Nat.cast Int _ (List.length (LeadP.told l))))) < (Go.IntKind.wrap Go.IntKind.i64 (v2 - (1 : Int))))) then (tt ∧ tt ∧ (T1 ∧ (isTolds (LeadP.told l)) ∧ (@Ne.{1} (@List.{0} AV) (LeadP.told l) (@List.nil.{0} AV)) ∧ ((List.length (LeadP.told l)) ≤ 100)) ∧ T1 ∧ tt ∧ tt ∧ tt ∧ (((askK l n f) = (2 : Int)) ∧ ((InstP.r (askX l n f)) = (InstP.r (mergedN (LeadP.told l) ((List.length (LeadP.told l)) - 1)))) ∧ ((InstP.sl (askX l n f)) = (InstP.sl (mergedN (LeadP.told l) ((List.length (LeadP.told l)) - 1)))) ∧ ((InstP.st (askX l n f)) = (InstP.st (mergedN (LeadP.told l) ((List.length (LeadP.told l)) - 1)))) ∧ ((InstP.bal (askX l n f)) = (InstP.bal (mergedN (LeadP.told l) ((List.length (LeadP.told l)) - 1)))) ∧ ((InstP.vote (askX l n f)) = (InstP.vote (mergedN (LeadP.told l) ((List.length (LeadP.told l)) - 1)))) ∧ ((InstP.same (askX l n f)) = (InstP.same (mergedN (LeadP.told l) ((List.length (LeadP.told l)) - 1)))) ∧ ((CmdP.k (InstP.c (askX l n f))) = (CmdP.k (InstP.c (mergedN (LeadP.told l) ((List.length (LeadP.told l)) - 1))))) ∧ ((CmdP.num (InstP.c (askX l n f))) = (CmdP.num (InstP.c (mergedN (LeadP.told l) ((List.length (LeadP.told l)) - 1))))) ∧ ((CmdP.foot (InstP.c (askX l n f))) = (CmdP.foot (InstP.c (mergedN (LeadP.told l) ((List.length (LeadP.told l)) - 1))))) ∧ ((CmdP.rq (InstP.c (askX l n f))) = (CmdP.rq (InstP.c (mergedN (LeadP.told l) ((List.length (LeadP.told l)) - 1))))) ∧ ((CmdP.path (InstP.c (askX l n f))) = (CmdP.path (InstP.c (mergedN (LeadP.told l) ((List.length (LeadP.told l)) - 1))))) ∧ ((CmdP.mode (InstP.c (askX l n f))) = (CmdP.mode (InstP.c (mergedN (LeadP.told l) ((List.length (LeadP.told l)) - 1))))) ∧ ((CmdP.n (InstP.c (askX l n f))) = (CmdP.n (InstP.c (mergedN (LeadP.told l) ((List.length (LeadP.told l)) - 1))))) ∧ ((CmdP.time (InstP.c (askX l n f))) = (CmdP.time (InstP.c (mergedN (LeadP.told l) ((List.length (LeadP.told l)) - 1))))) ∧ ((AttP.s (InstP.a (askX l n f))) = (AttP.s (InstP.a (mergedN (LeadP.told l) ((List.length (LeadP.told l)) - 1))))) ∧ ((AttP.d0 (InstP.a (askX l n f))) = (AttP.d0 (InstP.a (mergedN (LeadP.told l) ((List.length (LeadP.told l)) - 1))))) ∧ ((AttP.d1 (InstP.a (askX l n f))) = (AttP.d1 (InstP.a (mergedN (LeadP.told l) ((List.length (LeadP.told l)) - 1))))) ∧ ((AttP.d2 (InstP.a (askX l n f))) = (AttP.d2 (InstP.a (mergedN (LeadP.told l) ((List.length (LeadP.told l)) - 1))))) ∧ ((AttP.d3 (InstP.a (askX l n f))) = (AttP.d3 (InstP.a (mergedN (LeadP.told l) ((List.length (LeadP.told l)) - 1))))) ∧ ((AttP.d4 (InstP.a (askX l n f))) = (AttP.d4 (InstP.a (mergedN (LeadP.told l) ((List.length (LeadP.told l)) - 1))))) ∧ ((AttP.d5 (InstP.a (askX l n f))) = (AttP.d5 (InstP.a (mergedN (LeadP.told l) ((List.length (LeadP.told l)) - 1))))) ∧ ((AttP.d6 (InstP.a (askX l n f))) = (AttP.d6 (InstP.a (mergedN (LeadP.told l) ((List.length (LeadP.told l)) - 1))))) ∧ True) ∧ tt) else (tt ∧ T1 ∧ T1 ∧ tt ∧ tt ∧ tt ∧ (((askK l n f) = (0 : Int)) ∧ ((InstP.r (askX l n f)) = (0 : Int)) ∧ ((InstP.sl (askX l n f)) = (0 : Int)) ∧ ((InstP.st (askX l n f)) = (0 : Int)) ∧ ((InstP.bal (askX l n f)) = (0 : Int)) ∧ ((InstP.vote (askX l n f)) = (0 : Int)) ∧ ((InstP.same (askX l n f)) = false) ∧ ((CmdP.k (InstP.c (askX l n f))) = (0 : Int)) ∧ ((CmdP.num (InstP.c (askX l n f))) = (0 : Int)) ∧ ((CmdP.foot (InstP.c (askX l n f))) = (@List.nil.{0} UInt8)) ∧ ((CmdP.rq (InstP.c (askX l n f))) = (0 : Int)) ∧ ((CmdP.path (InstP.c (askX l n f))) = (@List.nil.{0} UInt8)) ∧ ((CmdP.mode (InstP.c (askX l n f))) = (0 : Int)) ∧ ((CmdP.n (InstP.c (askX l n f))) = (0 : Int)) ∧ ((CmdP.time (InstP.c (askX l n f))) = (0 : Int)) ∧ ((AttP.s (InstP.a (askX l n f))) = (0 : Int)) ∧ ((AttP.d0 (InstP.a (askX l n f))) = (0 : Int)) ∧ ((AttP.d1 (InstP.a (askX l n f))) = (0 : Int)) ∧ ((AttP.d2 (InstP.a (askX l n f))) = (0 : Int)) ∧ ((AttP.d3 (InstP.a (askX l n f))) = (0 : Int)) ∧ ((AttP.d4 (InstP.a (askX l n f))) = (0 : Int)) ∧ ((AttP.d5 (InstP.a (askX l n f))) = (0 : Int)) ∧ ((AttP.d6 (InstP.a (askX l n f))) = (0 : Int)) ∧ True) ∧ tt))))))))))))))))))))) : inLasked0 l n f :=
  Eq.mp (show _ = _ by kernel_rfl) h
theorem vcVerdict0 (l : LeadP) (n : Int) (f : Bool) (h : (tt ∧ T1 ∧ T1 ∧ T1 ∧ T1 ∧ tt ∧ T1 ∧ (T1 ∧ (Or (n = (3 : Int)) (Or (n = (5 : Int)) (n = (7 : Int))))) ∧ T1 ∧ T1 ∧ T1 ∧ tt ∧ T1 ∧ T1 ∧ T1 ∧ T1 ∧ (bif ((@Nat.cast Int _ (List.length (LeadP.told l))) == (0 : Int)) then (tt ∧ T1 ∧ T1 ∧ tt ∧ T1 ∧ tt ∧ tt ∧ (((verK l n f) = (0 : Int)) ∧ ((InstP.r (verX l n f)) = (0 : Int)) ∧ ((InstP.sl (verX l n f)) = (0 : Int)) ∧ ((InstP.st (verX l n f)) = (0 : Int)) ∧ ((InstP.bal (verX l n f)) = (0 : Int)) ∧ ((InstP.vote (verX l n f)) = (0 : Int)) ∧ ((InstP.same (verX l n f)) = false) ∧ ((CmdP.k (InstP.c (verX l n f))) = (0 : Int)) ∧ ((CmdP.num (InstP.c (verX l n f))) = (0 : Int)) ∧ ((CmdP.foot (InstP.c (verX l n f))) = (@List.nil.{0} UInt8)) ∧ ((CmdP.rq (InstP.c (verX l n f))) = (0 : Int)) ∧ ((CmdP.path (InstP.c (verX l n f))) = (@List.nil.{0} UInt8)) ∧ ((CmdP.mode (InstP.c (verX l n f))) = (0 : Int)) ∧ ((CmdP.n (InstP.c (verX l n f))) = (0 : Int)) ∧ ((CmdP.time (InstP.c (verX l n f))) = (0 : Int)) ∧ ((AttP.s (InstP.a (verX l n f))) = (0 : Int)) ∧ ((AttP.d0 (InstP.a (verX l n f))) = (0 : Int)) ∧ ((AttP.d1 (InstP.a (verX l n f))) = (0 : Int)) ∧ ((AttP.d2 (InstP.a (verX l n f))) = (0 : Int)) ∧ ((AttP.d3 (InstP.a (verX l n f))) = (0 : Int)) ∧ ((AttP.d4 (InstP.a (verX l n f))) = (0 : Int)) ∧ ((AttP.d5 (InstP.a (verX l n f))) = (0 : Int)) ∧ ((AttP.d6 (InstP.a (verX l n f))) = (0 : Int)) ∧ ((0 : Int) = (0 : Int)) ∧ True) ∧ tt) else (tt ∧ T1 ∧ tt ∧ T1 ∧ tt ∧ T1 ∧ T1 ∧ (bif (decide ((LeadP.bal l) < (LeadP.over l))) then (tt ∧ T1 ∧ T1 ∧ tt ∧ T1 ∧ tt ∧ tt ∧ (((verK l n f) = (5 : Int)) ∧ ((InstP.r (verX l n f)) = (0 : Int)) ∧ ((InstP.sl (verX l n f)) = (0 : Int)) ∧ ((InstP.st (verX l n f)) = (0 : Int)) ∧ ((InstP.bal (verX l n f)) = (0 : Int)) ∧ ((InstP.vote (verX l n f)) = (0 : Int)) ∧ ((InstP.same (verX l n f)) = false) ∧ ((CmdP.k (InstP.c (verX l n f))) = (0 : Int)) ∧ ((CmdP.num (InstP.c (verX l n f))) = (0 : Int)) ∧ ((CmdP.foot (InstP.c (verX l n f))) = (@List.nil.{0} UInt8)) ∧ ((CmdP.rq (InstP.c (verX l n f))) = (0 : Int)) ∧ ((CmdP.path (InstP.c (verX l n f))) = (@List.nil.{0} UInt8)) ∧ ((CmdP.mode (InstP.c (verX l n f))) = (0 : Int)) ∧ ((CmdP.n (InstP.c (verX l n f))) = (0 : Int)) ∧ ((CmdP.time (InstP.c (verX l n f))) = (0 : Int)) ∧ ((AttP.s (InstP.a (verX l n f))) = (0 : Int)) ∧ ((AttP.d0 (InstP.a (verX l n f))) = (0 : Int)) ∧ ((AttP.d1 (InstP.a (verX l n f))) = (0 : Int)) ∧ ((AttP.d2 (InstP.a (verX l n f))) = (0 : Int)) ∧ ((AttP.d3 (InstP.a (verX l n f))) = (0 : Int)) ∧ ((AttP.d4 (InstP.a (verX l n f))) = (0 : Int)) ∧ ((AttP.d5 (InstP.a (verX l n f))) = (0 : Int)) ∧ ((AttP.d6 (InstP.a (verX l n f))) = (0 : Int)) ∧ ((0 : Int) = (0 : Int)) ∧ True) ∧ tt) else (tt ∧ T1 ∧ tt ∧ T1 ∧ T1 ∧ (bif ((LeadP.ph l) == (1 : Int)) then (tt ∧ tt ∧ T1 ∧ T1 ∧ (T1 ∧ (Or (n = (3 : Int)) (Or (n = (5 : Int)) (n = (7 : Int)))) ∧ (isTolds (LeadP.told l)) ∧ (@Ne.{1} (@List.{0} AV) (LeadP.told l) (@List.nil.{0} AV)) ∧ ((List.length (LeadP.told l)) ≤ 100)) ∧ T1 ∧ T1 ∧ T1 ∧ T1 ∧ tt ∧ tt ∧ T1 ∧ tt ∧ T1 ∧ tt ∧ T1 ∧ tt ∧ tt ∧ tt ∧ (((verK l n f) = (askK l n f)) ∧ ((InstP.r (verX l n f)) = (InstP.r (askX l n f))) ∧ ((InstP.sl (verX l n f)) = (InstP.sl (askX l n f))) ∧ ((InstP.st (verX l n f)) = (InstP.st (askX l n f))) ∧ ((InstP.bal (verX l n f)) = (InstP.bal (askX l n f))) ∧ ((InstP.vote (verX l n f)) = (InstP.vote (askX l n f))) ∧ ((InstP.same (verX l n f)) = (InstP.same (askX l n f))) ∧ ((CmdP.k (InstP.c (verX l n f))) = (CmdP.k (InstP.c (askX l n f)))) ∧ ((CmdP.num (InstP.c (verX l n f))) = (CmdP.num (InstP.c (askX l n f)))) ∧ ((CmdP.foot (InstP.c (verX l n f))) = (CmdP.foot (InstP.c (askX l n f)))) ∧ ((CmdP.rq (InstP.c (verX l n f))) = (CmdP.rq (InstP.c (askX l n f)))) ∧ ((CmdP.path (InstP.c (verX l n f))) = (CmdP.path (InstP.c (askX l n f)))) ∧ ((CmdP.mode (InstP.c (verX l n f))) = (CmdP.mode (InstP.c (askX l n f)))) ∧ ((CmdP.n (InstP.c (verX l n f))) = (CmdP.n (InstP.c (askX l n f)))) ∧ ((CmdP.time (InstP.c (verX l n f))) = (CmdP.time (InstP.c (askX l n f)))) ∧ ((AttP.s (InstP.a (verX l n f))) = (AttP.s (InstP.a (askX l n f)))) ∧ ((AttP.d0 (InstP.a (verX l n f))) = (AttP.d0 (InstP.a (askX l n f)))) ∧ ((AttP.d1 (InstP.a (verX l n f))) = (AttP.d1 (InstP.a (askX l n f)))) ∧ ((AttP.d2 (InstP.a (verX l n f))) = (AttP.d2 (InstP.a (askX l n f)))) ∧ ((AttP.d3 (InstP.a (verX l n f))) = (AttP.d3 (InstP.a (askX l n f)))) ∧ ((AttP.d4 (InstP.a (verX l n f))) = (AttP.d4 (InstP.a (askX l n f)))) ∧ ((AttP.d5 (InstP.a (verX l n f))) = (AttP.d5 (InstP.a (askX l n f)))) ∧ ((AttP.d6 (InstP.a (verX l n f))) = (AttP.d6 (InstP.a (askX l n f)))) ∧ ((0 : Int) = (0 : Int)) ∧ True) ∧ tt) else (tt ∧ T1 ∧ tt ∧ T1 ∧ T1 ∧ False)))))))) : inVerdict0 l n f :=
  Eq.mp (show _ = _ by kernel_rfl) h
end Go.Proofs.YtcokifdgbfbonaaDoor
/- The conditions hold: what a lead that asks comes to. -/
namespace Go.Proofs.YtcokifdgbfbonaaDoor
set_option linter.unusedVariables false
set_option linter.unusedSimpArgs false
open Go.RowKit
set_option maxRecDepth 100000

theorem cut_tail (T : List AV) : cutL T 1 T.length = T.drop 1 := by unfold cutL; rw [List.take_length]
theorem elem_some {T : List AV} {i : Nat} (hi : i < T.length) : T[i]? = some (elemAt T i) := by
  have h := List.getElem?_eq_getElem hi
  unfold elemAt cellAt; rw [h]; rfl
theorem elem_drop (T : List AV) (i : Nat) : elemAt (T.drop 1) i = elemAt T (i + 1) := by
  unfold elemAt cellAt; rw [List.getElem?_drop, Nat.add_comm]
theorem isTolds_at {T : List AV} (h : isTolds T) {i : Nat} (hi : i < T.length) : okTold (elemAt T i) := h _ (List.mem_of_getElem? (elem_some hi))
theorem told_state {x : AV} (h : okTold x) : okRead [Kd.int .i64, Kd.int .i64, Kd.int .i64, Kd.int .u32, Kd.int .u32, Kd.bool, Kd.int .i64, Kd.int .u64, Kd.str, Kd.int .u64, Kd.str, Kd.int .i64, Kd.int .u64, Kd.int .i64, Kd.int .i64, Kd.int .i64, Kd.int .i64, Kd.int .i64, Kd.int .i64, Kd.int .i64, Kd.int .i64, Kd.int .i64] x 1 := by
  intro i kd hk
  have := h.2 (i + 1) kd hk
  rw [show 0 + (i + 1) = 1 + i by omega] at this
  exact this
theorem fN_vals {n : Int} (h : n = 3 ∨ n = 5 ∨ n = 7) : (n = 3 ∧ fN n = 1) ∨ (n = 5 ∧ fN n = 2) ∨ (n = 7 ∧ fN n = 3) := by
  rcases h with rfl | rfl | rfl
  · exact .inl ⟨rfl, by decide⟩
  · exact .inr (.inl ⟨rfl, by decide⟩)
  · exact .inr (.inr ⟨rfl, by decide⟩)
theorem okCrewRight0 : OkCrewRight0 := by
  intro n hq
  refine vcCrewRight0 n ?_
  rcases hq with rfl | rfl | rfl <;> simp <;> decide
theorem okCrewF0 : OkCrewF0 := by
  intro n hq
  refine vcCrewF0 n ?_
  simp only [true_and, and_true, forall_eq, eq_self]
  exact ⟨hq, by omega, rfl⟩
theorem okCrewMaj0 : OkCrewMaj0 := by
  intro n hq
  refine vcCrewMaj0 n ?_
  have := fN_vals hq
  simp only [true_and, and_true, forall_eq, eq_self]
  exact ⟨hq, hq, (wrap_i64 (by omega) (by omega)).symm⟩
theorem okCrewFast0 : OkCrewFast0 := by
  intro n hq
  refine vcCrewFast0 n ?_
  have := fN_vals hq
  simp only [true_and, and_true, forall_eq, eq_self]
  refine ⟨hq, by omega, ?_⟩
  rw [wrap_i64 (by omega) (by omega)]; omega
theorem sameN_succ {T : List AV} {i : Nat} (hi : i < T.length - 1) : sameN T (i + 1) = sameN T i + (if rdBool (elemAt T (i + 1)) 6 = true then 1 else 0) := by
  unfold sameN
  have e : (T.drop 1)[i]? = some (elemAt T (i + 1)) := by rw [← elem_drop]; exact elem_some (by simp; omega)
  rw [List.take_add_one, e, List.countP_append]
  simp [List.countP_cons]
theorem sameN_le (T : List AV) (i : Nat) : sameN T i ≤ i := by
  unfold sameN
  have h1 := List.countP_le_length (p := fun e => rdBool e 6) (l := (T.drop 1).take i)
  have h2 := List.length_take_le i (T.drop 1)
  omega
theorem okLsame0 : OkLsame0 := by
  intro l hq
  obtain ⟨ht, hne, hl⟩ := hq
  have hpos : 0 < l.told.length := List.length_pos_iff.2 hne
  refine vcLsame0 l ?_
  have lc : (l.told.drop 1).length = l.told.length - 1 := by simp
  simp only [true_and, and_true, forall_eq, eq_self, cut_tail, elem_drop, Int.toNat_natCast, lc]
  refine ⟨⟨⟨by omega, by omega⟩, isTolds_width ht⟩, ⟨(0 : Nat), ⟨by simp [sameN], rfl⟩, Nat.zero_le _⟩, fun i hi => cond_prop (fun h => ?_) fun h => ?_⟩
  · have h' : i < l.told.length - 1 := by simpa using h
    have ok := isTolds_at ht (i := i + 1) (by omega)
    have s := sameN_le l.told i
    have w1 : IntKind.i64.wrap ((i : Int) + 1) = ((i + 1 : Nat) : Int) := by rw [wrap_i64 (by omega) (by omega)]; rfl
    have w2 : IntKind.i64.wrap ((sameN l.told i : Int) + 1) = ((sameN l.told i + 1 : Nat) : Int) := by rw [wrap_i64 (by omega) (by omega)]; rfl
    have sc := sameN_succ (T := l.told) h'
    obtain ⟨j, hj⟩ : ∃ j : Nat, j = i + 1 := ⟨_, rfl⟩
    rw [← hj] at sc w1 ok
    simp only [← hj]
    refine ⟨⟨by omega, by omega, ?_⟩, ok.2, cond_prop (fun g => ?_) fun g => ?_⟩
    · show (elemAt (l.told.drop 1) i).cells.length = 23
      rw [elem_drop, ← hj]; exact ok.1
    · refine ⟨j, ⟨?_, ?_⟩, by omega, by omega⟩
      · rw [w2, sc, if_pos g]
      · rw [w1]
    · refine ⟨j, ⟨?_, ?_⟩, by omega, by omega⟩
      · rw [sc, if_neg (by simp [g])]; rfl
      · rw [w1]
  · have h' : i = l.told.length - 1 := by simp at h; omega
    rw [h']
theorem mergedN_succ {T : List AV} {i : Nat} (hi : i < T.length - 1) : mergedN T (i + 1) = { mergedN T i with a := mergeQ (mergedN T i).a (tolX (elemAt T (i + 1))).a } := by
  unfold mergedN
  have e : (T.drop 1)[i]? = some (elemAt T (i + 1)) := by rw [← elem_drop]; exact elem_some (by simp; omega)
  rw [List.take_add_one, e, List.foldl_append]
  rfl
theorem okLmerged0 : OkLmerged0 := by
  intro l hq
  obtain ⟨ht, hne, hl⟩ := hq
  have hpos : 0 < l.told.length := List.length_pos_iff.2 hne
  refine vcLmerged0 l ?_
  have lc : (l.told.drop 1).length = l.told.length - 1 := by simp
  simp only [true_and, and_true, forall_eq, eq_self, cut_tail, elem_drop, Int.toNat_natCast, lc]
  have ok0 := isTolds_at ht hpos
  refine ⟨⟨by omega, by omega, ok0.1⟩, told_state ok0, ⟨⟨by omega, by omega⟩, isTolds_width ht⟩, ⟨(0 : Nat), ⟨rfl, rfl⟩, Nat.zero_le _⟩, fun i hi => cond_prop (fun h => ?_) fun h => ?_⟩
  · have h' : i < l.told.length - 1 := by simpa using h
    have ok := isTolds_at ht (i := i + 1) (by omega)
    have w1 : IntKind.i64.wrap ((i : Int) + 1) = ((i + 1 : Nat) : Int) := by rw [wrap_i64 (by omega) (by omega)]; rfl
    have sc := mergedN_succ (T := l.told) h'
    obtain ⟨j, hj⟩ : ∃ j : Nat, j = i + 1 := ⟨_, rfl⟩
    rw [← hj] at sc w1 ok
    simp only [← hj]
    refine ⟨⟨by omega, by omega, ?_⟩, ok.2, j, ⟨?_, ?_⟩, by omega, by omega⟩
    · show (elemAt (l.told.drop 1) i).cells.length = 23
      rw [elem_drop, ← hj]; exact ok.1
    · rw [w1]
    · rw [sc]; rfl
  · have h' : i = l.told.length - 1 := by simp at h; omega
    rw [h']
    and_intros <;> rfl
theorem okLasked0 : OkLasked0 := by
  intro l n f hq
  obtain ⟨hn, ht, hne, hl⟩ := hq
  have hpos : 0 < l.told.length := List.length_pos_iff.2 hne
  have hF := fN_vals hn
  have ok0 := isTolds_at ht hpos
  refine vcLasked0 l n f ?_
  have S := sameN_le l.told (l.told.length - 1)
  have w1 : IntKind.i64.wrap (2 * fN n - 1) = 2 * fN n - 1 := wrap_i64 (by omega) (by omega)
  have w2 : IntKind.i64.wrap ((sameN l.told (l.told.length - 1) : Int) + n) = (sameN l.told (l.told.length - 1) : Int) + n := wrap_i64 (by omega) (by omega)
  have w3 : IntKind.i64.wrap ((sameN l.told (l.told.length - 1) : Int) + n - (l.told.length : Int)) = (sameN l.told (l.told.length - 1) : Int) + n - (l.told.length : Int) := wrap_i64 (by omega) (by omega)
  have sA : sameA l = (sameN l.told (l.told.length - 1) : Int) := rfl
  simp only [true_and, and_true, forall_eq, eq_self, w1, w2, w3]
  have k0 : askK l n f = 0 → askX l n f = zI := by intro h; unfold askX; rw [h]; rfl
  have k1 : askK l n f = 1 → askX l n f = tolX (elemAt l.told 0) := by intro h; unfold askX; rw [h]; rfl
  have k2 : askK l n f = 2 → askX l n f = mergedA l := by intro h; unfold askX; rw [h]; rfl
  refine ⟨⟨ht, hne, hl⟩, hn, cond_prop (fun h1 => cond_prop (fun h2 => ?_) fun h2 => ⟨hn, cond_prop (fun h3 => ?_) fun h3 => cond_prop (fun h4 => ⟨⟨ht, hne, hl⟩, ?_⟩) fun h4 => cond_prop (fun h5 => ⟨⟨ht, hne, hl⟩, ?_⟩) fun h5 => cond_prop (fun h6 => ⟨⟨ht, hne, hl⟩, ?_⟩) fun h6 => ?_⟩) fun h1 => ⟨hn, cond_prop (fun h3 => ?_) fun h3 => cond_prop (fun h4 => ⟨⟨ht, hne, hl⟩, ?_⟩) fun h4 => cond_prop (fun h5 => ⟨⟨ht, hne, hl⟩, ?_⟩) fun h5 => cond_prop (fun h6 => ⟨⟨ht, hne, hl⟩, ?_⟩) fun h6 => ?_⟩⟩
  · have K : askK l n f = 1 := by unfold askK; rw [sA]; simp at h1 h2; rw [if_pos ⟨h1, h2⟩]
    rw [k1 K, K]
    exact ⟨⟨by omega, by omega, ok0.1⟩, told_state ok0, by and_intros <;> rfl⟩
  · have K : askK l n f = 0 := by unfold askK; rw [sA]; simp at h2 h3; rw [if_neg (by omega), if_pos (by omega)]
    rw [k0 K, K]; and_intros <;> rfl
  · have K : askK l n f = 2 := by unfold askK; rw [sA]; simp at h2 h3; rw [if_neg (by omega), if_neg (by omega), if_pos (.inl h4)]
    rw [k2 K, K]; and_intros <;> rfl
  · have K : askK l n f = 2 := by unfold askK; rw [sA]; simp at h2 h3 h5; rw [if_neg (by omega), if_neg (by omega), if_pos (.inr (.inl h5))]
    rw [k2 K, K]; and_intros <;> rfl
  · have K : askK l n f = 2 := by unfold askK; rw [sA]; simp at h2 h3 h6; rw [if_neg (by omega), if_neg (by omega), if_pos (.inr (.inr (by omega)))]
    rw [k2 K, K]; and_intros <;> rfl
  · have K : askK l n f = 0 := by
      unfold askK; rw [sA]; simp at h2 h3 h5 h6
      rw [if_neg (by omega), if_neg (by omega), if_neg (by
        rintro (g | g | g)
        · rw [h4] at g; cases g
        · exact g h5
        · omega)]
    rw [k0 K, K]; and_intros <;> rfl
  · have K : askK l n f = 0 := by unfold askK; rw [sA]; simp at h1 h3; rw [if_neg (by omega), if_pos (by omega)]
    rw [k0 K, K]; and_intros <;> rfl
  · have K : askK l n f = 2 := by unfold askK; rw [sA]; simp at h1 h3; rw [if_neg (by omega), if_neg (by omega), if_pos (.inl h4)]
    rw [k2 K, K]; and_intros <;> rfl
  · have K : askK l n f = 2 := by unfold askK; rw [sA]; simp at h1 h3 h5; rw [if_neg (by omega), if_neg (by omega), if_pos (.inr (.inl h5))]
    rw [k2 K, K]; and_intros <;> rfl
  · have K : askK l n f = 2 := by unfold askK; rw [sA]; simp at h1 h3 h6; rw [if_neg (by omega), if_neg (by omega), if_pos (.inr (.inr (by omega)))]
    rw [k2 K, K]; and_intros <;> rfl
  · have K : askK l n f = 0 := by simp at h1 h5; exact absurd h5 h1
    rw [k0 K, K]; and_intros <;> rfl
theorem okVerdict0 : OkVerdict0 := by
  intro l n f hq
  obtain ⟨hp, hn, ht, hne, hl⟩ := hq
  have hpos : 0 < l.told.length := List.length_pos_iff.2 hne
  refine vcVerdict0 l n f ?_
  simp only [true_and, and_true, forall_eq, eq_self]
  refine ⟨hn, cond_prop (fun h => ?_) fun h => cond_prop (fun h1 => ?_) fun h1 => cond_prop (fun h2 => ⟨⟨hn, ht, hne, hl⟩, ?_⟩) fun h2 => ?_⟩
  · simp at h; exact absurd h hne
  · have h1' : l.bal < l.over := by simpa using h1
    have e1 : verK l n f = 5 := by unfold verK; rw [if_pos h1']
    have e2 : verX l n f = zI := by unfold verX; rw [if_pos h1']
    rw [e1, e2]; and_intros <;> rfl
  · have h1' : ¬ l.bal < l.over := by simpa using h1
    have e1 : verK l n f = askK l n f := by unfold verK; rw [if_neg h1']
    have e2 : verX l n f = askX l n f := by unfold verX; rw [if_neg h1']
    rw [e1, e2]; and_intros <;> rfl
  · rw [hp] at h2; cases h2
end Go.Proofs.YtcokifdgbfbonaaDoor
/- The contracts are met. -/
namespace Go.Proofs.YtcokifdgbfbonaaDoor
set_option linter.unusedVariables false
set_option linter.unusedSimpArgs false
open Go.RowKit
theorem sndCrewRight : Sound Tryd.prog (lookΓ gamCrewRight) := sound_of _ fun p hp => by
  simp [gamCrewRight] at hp
set_option maxHeartbeats 4000000 in
theorem meetsCrewRight : Meets Tryd.prog 36 crewRightF := by
  refine meets_of_awp (Γ := lookΓ gamCrewRight) (L := fun _ _ => none) sndCrewRight mixedOrders Tryd.func36 rfl Tryd.call36 ?_
  intro args q r hF hq ho
  unfold crewRightF at hF
  split at hF
  · cases hF
    exact ⟨by simp only [List.length_cons, List.length_nil]; decide, okCrewRight0 _ hq⟩
  · cases hF
theorem sndCrewF : Sound Tryd.prog (lookΓ gamCrewF) := sound_of _ fun p hp => by
  simp only [gamCrewF, List.mem_cons, List.not_mem_nil, or_false] at hp
  subst hp
  exact meetsCrewRight.orNil
set_option maxHeartbeats 4000000 in
theorem meetsCrewF : Meets Tryd.prog 85 crewFF := by
  refine meets_of_awp (Γ := lookΓ gamCrewF) (L := fun _ _ => none) sndCrewF mixedOrders Tryd.func85 rfl Tryd.call85 ?_
  intro args q r hF hq ho
  unfold crewFF at hF
  split at hF
  · cases hF
    exact ⟨by simp only [List.length_cons, List.length_nil]; decide, okCrewF0 _ hq⟩
  · cases hF
theorem sndCrewMaj : Sound Tryd.prog (lookΓ gamCrewMaj) := sound_of _ fun p hp => by
  simp only [gamCrewMaj, List.mem_cons, List.not_mem_nil, or_false] at hp
  rcases hp with rfl | rfl
  · exact meetsCrewRight.orNil
  · exact meetsCrewF.orNil
set_option maxHeartbeats 4000000 in
theorem meetsCrewMaj : Meets Tryd.prog 40 crewMajF := by
  refine meets_of_awp (Γ := lookΓ gamCrewMaj) (L := fun _ _ => none) sndCrewMaj mixedOrders Tryd.func40 rfl Tryd.call40 ?_
  intro args q r hF hq ho
  unfold crewMajF at hF
  split at hF
  · cases hF
    exact ⟨by simp only [List.length_cons, List.length_nil]; decide, okCrewMaj0 _ hq⟩
  · cases hF
theorem sndCrewFast : Sound Tryd.prog (lookΓ gamCrewFast) := sound_of _ fun p hp => by
  simp only [gamCrewFast, List.mem_cons, List.not_mem_nil, or_false] at hp
  subst hp
  exact meetsCrewF.orNil
set_option maxHeartbeats 4000000 in
theorem meetsCrewFast : Meets Tryd.prog 47 crewFastF := by
  refine meets_of_awp (Γ := lookΓ gamCrewFast) (L := fun _ _ => none) sndCrewFast mixedOrders Tryd.func47 rfl Tryd.call47 ?_
  intro args q r hF hq ho
  unfold crewFastF at hF
  split at hF
  · cases hF
    exact ⟨by simp only [List.length_cons, List.length_nil]; decide, okCrewFast0 _ hq⟩
  · cases hF
theorem sndLsame : Sound Tryd.prog (lookΓ gamLsame) := sound_of _ fun p hp => by
  simp [gamLsame] at hp
set_option maxHeartbeats 4000000 in
theorem meetsLsame : Meets Tryd.prog 139 lsameF := by
  refine meets_of_awp (Γ := lookΓ gamLsame) (L := fun args => match args with | [.val (.agg zcl)] => (match leadOf zcl with | some l => lpLsame0 l | _ => fun _ => none) | _ => fun _ => none) sndLsame mixedOrders Tryd.func139 rfl Tryd.call139 ?_
  intro args q r hF hq ho
  unfold lsameF at hF
  split at hF
  · split at hF
    · rename_i l hzl
      obtain rfl := leadOf_some hzl
      cases hF
      exact ⟨by simp only [List.length_cons, List.length_nil]; decide, okLsame0 _ hq⟩
    · cases hF
  · cases hF
theorem sndLmerged : Sound Tryd.prog (lookΓ gamLmerged) := sound_of _ fun p hp => by
  simp only [gamLmerged, List.mem_cons, List.not_mem_nil, or_false] at hp
  subst hp
  exact meetsAttMerge.orNil
set_option maxHeartbeats 4000000 in
theorem meetsLmerged : Meets Tryd.prog 140 lmergedF := by
  refine meets_of_awp (Γ := lookΓ gamLmerged) (L := fun args => match args with | [.val (.agg zcl)] => (match leadOf zcl with | some l => lpLmerged0 l | _ => fun _ => none) | _ => fun _ => none) sndLmerged mixedOrders Tryd.func140 rfl Tryd.call140 ?_
  intro args q r hF hq ho
  unfold lmergedF at hF
  split at hF
  · split at hF
    · rename_i l hzl
      obtain rfl := leadOf_some hzl
      cases hF
      exact ⟨by simp only [List.length_cons, List.length_nil]; decide, okLmerged0 _ hq⟩
    · cases hF
  · cases hF
theorem sndLasked : Sound Tryd.prog (lookΓ gamLasked) := sound_of _ fun p hp => by
  simp only [gamLasked, List.mem_cons, List.not_mem_nil, or_false] at hp
  rcases hp with rfl | rfl | rfl | rfl
  · exact meetsLsame.orNil
  · exact meetsCrewFast.orNil
  · exact meetsCrewMaj.orNil
  · exact meetsLmerged.orNil
set_option maxHeartbeats 4000000 in
theorem meetsLasked : Meets Tryd.prog 105 laskedF := by
  refine meets_of_awp (Γ := lookΓ gamLasked) (L := fun _ _ => none) sndLasked mixedOrders Tryd.func105 rfl Tryd.call105 ?_
  intro args q r hF hq ho
  unfold laskedF at hF
  split at hF
  · split at hF
    · rename_i l hzl
      obtain rfl := leadOf_some hzl
      cases hF
      exact ⟨by simp only [List.length_cons, List.length_nil]; decide, okLasked0 _ _ _ hq⟩
    · cases hF
  · cases hF
theorem sndVerdict : Sound Tryd.prog (lookΓ gamVerdict) := sound_of _ fun p hp => by
  simp only [gamVerdict, List.mem_cons, List.not_mem_nil, or_false] at hp
  rcases hp with rfl | rfl
  · exact meetsCrewRight.orNil
  · exact meetsLasked.orNil
set_option maxHeartbeats 4000000 in
theorem meetsVerdict : Meets Tryd.prog 57 verdictF := by
  refine meets_of_awp (Γ := lookΓ gamVerdict) (L := fun _ _ => none) sndVerdict mixedOrders Tryd.func57 rfl Tryd.call57 ?_
  intro args q r hF hq ho
  unfold verdictF at hF
  split at hF
  · split at hF
    · rename_i l hzl
      obtain rfl := leadOf_some hzl
      cases hF
      exact ⟨by simp only [List.length_cons, List.length_nil]; decide, okVerdict0 _ _ _ hq⟩
    · cases hF
  · cases hF
end Go.Proofs.YtcokifdgbfbonaaDoor
