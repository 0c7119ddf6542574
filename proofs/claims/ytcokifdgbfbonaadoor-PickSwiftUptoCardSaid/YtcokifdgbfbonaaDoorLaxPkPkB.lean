/- Contracts by content, their conditions, and that they are met: PkB. -/
import Derived.Test.YtcokifdgbfbonaaDoorLaxPkPkA
/- Contracts by content, and the conditions that their code must meet. -/
namespace Go.Proofs.YtcokifdgbfbonaaDoor
set_option linter.unusedVariables false
set_option linter.unusedSimpArgs false
open Go.RowKit
def seenN (T : List AV) (i : Nat) : Int := (T.take i).foldl (fun s e => withS s (rdInt e 0)) 0
def okL (n r sl : Int) (T : List AV) : Prop :=
  rightN n = true ∧ rightId r sl = true ∧ r < n ∧ isTolds T ∧ T.length ≤ 100 ∧
  (∀ i, i < T.length → (0 ≤ rdInt (elemAt T i) 0 ∧ rdInt (elemAt T i) 0 < n) ∧ hasS (seenN T i) (rdInt (elemAt T i) 0) = false ∧ smallX (tolX (elemAt T i)) ∧ rightI (tolX (elemAt T i)) = true ∧ (tolX (elemAt T i)).r = r ∧ (tolX (elemAt T i)).sl = sl) ∧
  fN n + 1 ≤ (cntS (seenN T T.length) : Nat)
def okCh (n r : Int) (T : List AV) : Prop :=
  firstB T = true ∨ (bestN T 2 T.length).1 = true ∨ ((∀ i, i < T.length → rdInt (elemAt T i) 0 ≠ r) ∧ fN n ≤ ((swN T T.length).1 : Nat))
def choK (T : List AV) : Int := if firstB T = true then 1 else if (bestN T 2 T.length).1 = true then 2 else 3
def choX (T : List AV) : InstP := if firstB T = true then firstV T else if (bestN T 2 T.length).1 = true then (bestN T 2 T.length).2 else (swN T T.length).2
def loopCheck (n r sl : Int) (T : List AV) : LoopInv :=
  { V := Nat
    T := fun i => [(0, .int .i64 n), (4, .ptr 4 0), (7, .int .u8 (seenN T i)), (24, .sl T .no), (25, .int .i64 (T.length : Int)), (26, .int .i64 (i : Int))]
    B := fun i => [(4, [.int .i64 r, .int .i64 sl])]
    R := fun i => []
    inv := fun i => i ≤ T.length
    mu := fun i => T.length - i }
def checkVF : Con
  | [.val (.int .i64 n), .val (.agg [.int .i64 r, .int .i64 sl]), .val (.sl T .no)] => (some (okL n r sl T, ⟨.int .i64 0, none, none⟩))
  | _ => none
def gamCheckV : List (Nat × Con) := [(36, crewRightF.orNil), (74, idRightF.orNil), (42, hasCF.orNil), (26, irightF.orNil), (45, withCF.orNil), (39, countCF.orNil), (40, crewMajF.orNil)]
def lpCheckV0 (n r sl : Int) (T : List AV) : Nat → Option LoopPlan := fun b => bif Nat.beq b 0 then some (.inv [] (loopCheck n r sl T)) else none
def inCheckV0 (n r sl : Int) (T : List AV) : Prop := awp [] (lpCheckV0 n r sl T) (lookΓ gamCheckV) Tryd.prog Tryd.f89.ntmps 0 (Tryd.f89.body.getD .skip) (entrySt [.val (.int .i64 n), .val (.agg [.int .i64 r, .int .i64 sl]), .val (.sl T .no)]) (exitQ Tryd.prog Tryd.f89.results.toList [] ⟨.int .i64 0, none, none⟩)
def OkCheckV0 : Prop := ∀ (n r sl : Int) (T : List AV), okL n r sl T → inCheckV0 n r sl T
def checkNF : Con
  | [.val (.int .i64 n), .val (.agg [.int .i64 r, .int .i64 sl]), .val (.sl T .nil)] => (some (rightN n = false, ⟨.int .i64 12, none, none⟩))
  | _ => none
def gamCheckN : List (Nat × Con) := [(36, crewRightF.orNil)]
def lpCheckN0 (n r sl : Int) (T : List AV) : Nat → Option LoopPlan := fun _ => none
def inCheckN0 (n r sl : Int) (T : List AV) : Prop := awp [] (lpCheckN0 n r sl T) (lookΓ gamCheckN) Tryd.prog Tryd.f89.ntmps 0 (Tryd.f89.body.getD .skip) (entrySt [.val (.int .i64 n), .val (.agg [.int .i64 r, .int .i64 sl]), .val (.sl T .nil)]) (exitQ Tryd.prog Tryd.f89.results.toList [] ⟨.int .i64 12, none, none⟩)
def OkCheckN0 : Prop := ∀ (n r sl : Int) (T : List AV), rightN n = false → inCheckN0 n r sl T
def chooseF : Con
  | [.val (.int .i64 n), .val (.agg [.int .i64 r, .int .i64 sl]), .val (.sl T .no)] => (some (isTolds T ∧ T.length ≤ 100 ∧ okCh n r T, ⟨.tup [.int .i64 (choK T), .agg (instL (choX T))], none, none⟩))
  | _ => none
def gamChoose : List (Nat × Con) := [(128, pfirstF.orNil), (129, pbestF.orNil), (130, pswiftF.orNil)]
def lpChoose0 (n r sl : Int) (T : List AV) : Nat → Option LoopPlan := fun _ => none
def inChoose0 (n r sl : Int) (T : List AV) : Prop := awp [] (lpChoose0 n r sl T) (lookΓ gamChoose) Tryd.prog Tryd.f90.ntmps 0 (Tryd.f90.body.getD .skip) (entrySt [.val (.int .i64 n), .val (.agg [.int .i64 r, .int .i64 sl]), .val (.sl T .no)]) (exitQ Tryd.prog Tryd.f90.results.toList [] ⟨.tup [.int .i64 (choK T), .agg (instL (choX T))], none, none⟩)
def OkChoose0 : Prop := ∀ (n r sl : Int) (T : List AV), isTolds T ∧ T.length ≤ 100 ∧ okCh n r T → inChoose0 n r sl T
def chooseVF : Con
  | [.val (.int .i64 n), .val (.agg [.int .i64 r, .int .i64 sl]), .val (.sl T .no)] => (some (okL n r sl T ∧ okCh n r T, ⟨.tup [.int .i64 (choK T), .agg (instL ⟨r, sl, 1, 0, 0, false, (choX T).c, (choX T).a⟩), .int .i64 0], none, none⟩))
  | _ => none
def gamChooseV : List (Nat × Con) := [(89, checkVF.orNil), (90, chooseF.orNil)]
def lpChooseV0 (n r sl : Int) (T : List AV) : Nat → Option LoopPlan := fun _ => none
def inChooseV0 (n r sl : Int) (T : List AV) : Prop := awp [] (lpChooseV0 n r sl T) (lookΓ gamChooseV) Tryd.prog Tryd.f44.ntmps 0 (Tryd.f44.body.getD .skip) (entrySt [.val (.int .i64 n), .val (.agg [.int .i64 r, .int .i64 sl]), .val (.sl T .no)]) (exitQ Tryd.prog Tryd.f44.results.toList [] ⟨.tup [.int .i64 (choK T), .agg (instL ⟨r, sl, 1, 0, 0, false, (choX T).c, (choX T).a⟩), .int .i64 0], none, none⟩)
def OkChooseV0 : Prop := ∀ (n r sl : Int) (T : List AV), okL n r sl T ∧ okCh n r T → inChooseV0 n r sl T
def chooseNF : Con
  | [.val (.int .i64 n), .val (.agg [.int .i64 r, .int .i64 sl]), .val (.sl T .nil)] => (some (rightN n = false, ⟨.tup [.int .i64 0, .agg (instL zI), .int .i64 12], none, none⟩))
  | _ => none
def gamChooseN : List (Nat × Con) := [(89, checkNF.orNil)]
def lpChooseN0 (n r sl : Int) (T : List AV) : Nat → Option LoopPlan := fun _ => none
def inChooseN0 (n r sl : Int) (T : List AV) : Prop := awp [] (lpChooseN0 n r sl T) (lookΓ gamChooseN) Tryd.prog Tryd.f44.ntmps 0 (Tryd.f44.body.getD .skip) (entrySt [.val (.int .i64 n), .val (.agg [.int .i64 r, .int .i64 sl]), .val (.sl T .nil)]) (exitQ Tryd.prog Tryd.f44.results.toList [] ⟨.tup [.int .i64 0, .agg (instL zI), .int .i64 12], none, none⟩)
def OkChooseN0 : Prop := ∀ (n r sl : Int) (T : List AV), rightN n = false → inChooseN0 n r sl T
end Go.Proofs.YtcokifdgbfbonaaDoor
/- What the verification conditions come to: printed by a program of ours (wip/lax/ex/Norm.lean). -/
namespace Go.Proofs.YtcokifdgbfbonaaDoor
set_option linter.unusedVariables false
open Go.RowKit
set_option maxRecDepth 100000
theorem vcCheckV0 (n : Int) (r : Int) (sl : Int) (T : (@List.{0} AV)) (h : (tt ∧ T1 ∧ T1 ∧ tt ∧ T1 ∧ (T1 ∧ True) ∧ T1 ∧ T1 ∧ (bif (Bool.not (rightN n)) then (tt ∧ T1 ∧ tt ∧ tt ∧ T1 ∧ tt ∧ tt ∧ (((0 : Int) = (12 : Int)) ∧ True) ∧ tt) else (tt ∧ (T1 ∧ True) ∧ T1 ∧ T1 ∧ T1 ∧ (bif (Bool.not (rightId r sl)) then (tt ∧ tt ∧ T1 ∧ tt ∧ tt ∧ (((0 : Int) = (12 : Int)) ∧ True) ∧ tt) else (T1 ∧ tt ∧ T1 ∧ T1 ∧ T1 ∧ (bif (decide (n ≤ r)) then (tt ∧ T1 ∧ tt ∧ tt ∧ (((0 : Int) = (12 : Int)) ∧ True) ∧ tt) else (tt ∧ T1 ∧ tt ∧ T1 ∧ T1 ∧ T1 ∧ (@Exists.{1} (LoopInv.V (loopCheck n r sl T)) (fun (v0 : Nat) => (((((AV.int Go.IntKind.i64 n) = (AV.int Go.IntKind.i64 n)) ∧ ((AV.ptr 4 0) = (AV.ptr 4 0)) ∧ ((AV.int Go.IntKind.u8 (0 : Int)) = (AV.int Go.IntKind.u8 (seenN T v0))) ∧ ((AV.sl T Own.no) = (AV.sl T Own.no)) ∧ ((AV.int Go.IntKind.i64 (@Nat.cast Int _ (List.length T))) = (AV.int Go.IntKind.i64 (@Nat.cast Int _ (List.length T)))) ∧ ((AV.int Go.IntKind.i64 (0 : Int)) = (AV.int Go.IntKind.i64 (@Nat.cast Int _ v0))) ∧ True) ∧ (((@Option.some.{0} (@List.{0} AV) [(AV.int Go.IntKind.i64 r), (AV.int Go.IntKind.i64 sl)]) = (@Option.some.{0} (@List.{0} AV) [(AV.int Go.IntKind.i64 r), (AV.int Go.IntKind.i64 sl)])) ∧ True) ∧ T1 ∧ tt ∧ tt) ∧ (v0 ≤ (List.length T))))) ∧ (∀ (v0 : Nat), (∀ (v1 : (v0 ≤ (List.length T))), (tt ∧ T1 ∧ (bif (decide ((@Nat.cast Int _ v0) < (@Nat.cast Int _ (List.length T)))) then (tt ∧ (((0 : Int) ≤ (@Nat.cast Int _ v0)) ∧ ((@Nat.cast Int _ v0) < (@Nat.cast Int _ (List.length T))) ∧ (okElem 23 T (Int.toNat (@Nat.cast Int _ v0)))) ∧ (okRead [(Kd.int Go.IntKind.i64), (Kd.int Go.IntKind.i64), (Kd.int Go.IntKind.i64), (Kd.int Go.IntKind.i64), (Kd.int Go.IntKind.u32), (Kd.int Go.IntKind.u32), Kd.bool, (Kd.int Go.IntKind.i64), (Kd.int Go.IntKind.u64), Kd.str, (Kd.int Go.IntKind.u64), Kd.str, (Kd.int Go.IntKind.i64), (Kd.int Go.IntKind.u64), (Kd.int Go.IntKind.i64), (Kd.int Go.IntKind.i64), (Kd.int Go.IntKind.i64), (Kd.int Go.IntKind.i64), (Kd.int Go.IntKind.i64), (Kd.int Go.IntKind.i64), (Kd.int Go.IntKind.i64), (Kd.int Go.IntKind.i64), (Kd.int Go.IntKind.i64)] (elemAt T (Int.toNat (@Nat.cast Int _ v0))) 0) ∧ T1 ∧ tt ∧ tt ∧ T1 ∧ tt ∧ T1 ∧ T1 ∧ (bif (decide ((rdInt (elemAt T (Int.toNat (@Nat.cast Int _ v0))) 0) < (0 : Int))) then (tt ∧ T1 ∧ tt ∧ T1 ∧ tt ∧ T1 ∧ tt ∧ tt ∧ T1 ∧ tt ∧ tt ∧ (((0 : Int) = (10 : Int)) ∧ True) ∧ tt) else (T1 ∧ tt ∧ T1 ∧ T1 ∧ T1 ∧ T1 ∧ (bif (decide (n ≤ (rdInt (elemAt T (Int.toNat (@Nat.cast Int _ v0))) 0))) then (tt ∧ T1 ∧ tt ∧ T1 ∧ tt ∧ tt ∧ T1 ∧ tt ∧ tt ∧ (((0 : Int) = (10 : Int)) ∧ True) ∧ tt) else (T1 ∧ T1 ∧ tt ∧ (T1 ∧ True) ∧ T1 ∧ T1 ∧ (bif (hasS (seenN T v0) (rdInt (elemAt T (Int.toNat (@Nat.cast Int _ v0))) 0)) then (tt ∧ T1 ∧ tt ∧ tt ∧ T1 ∧ tt ∧ tt ∧ (((0 : Int) = (10 : Int)) ∧ True) ∧ tt) else (T1 ∧ tt ∧ (T1 ∧ (smallX (InstP.mk (rdInt (elemAt T (Int.toNat (@Nat.cast Int _ v0))) 1) (rdInt (elemAt T (Int.toNat (@Nat.cast Int _ v0))) 2) (rdInt (elemAt T (Int.toNat (@Nat.cast Int _ v0))) 3) (rdInt (elemAt T (Int.toNat (@Nat.cast Int _ v0))) 4) (rdInt (elemAt T (Int.toNat (@Nat.cast Int _ v0))) 5) (rdBool (elemAt T (Int.toNat (@Nat.cast Int _ v0))) 6) (CmdP.mk (rdInt (elemAt T (Int.toNat (@Nat.cast Int _ v0))) 7) (rdInt (elemAt T (Int.toNat (@Nat.cast Int _ v0))) 8) (rdStr (elemAt T (Int.toNat (@Nat.cast Int _ v0))) 9) (rdInt (elemAt T (Int.toNat (@Nat.cast Int _ v0))) 10) (rdStr (elemAt T (Int.toNat (@Nat.cast Int _ v0))) 11) (rdInt (elemAt T (Int.toNat (@Nat.cast Int _ v0))) 12) (rdInt (elemAt T (Int.toNat (@Nat.cast Int _ v0))) 13) (rdInt (elemAt T (Int.toNat (@Nat.cast Int _ v0))) 14)) (AttP.mk (rdInt (elemAt T (Int.toNat (@Nat.cast Int _ v0))) 15) (rdInt (elemAt T (Int.toNat (@Nat.cast Int _ v0))) 16) (rdInt (elemAt T (Int.toNat (@Nat.cast Int _ v0))) 17) (rdInt (elemAt T (Int.toNat (@Nat.cast Int _ v0))) 18) (rdInt (elemAt T (Int.toNat (@Nat.cast Int _ v0))) 19) (rdInt (elemAt T (Int.toNat (@Nat.cast Int _ v0))) 20) (rdInt (elemAt T (Int.toNat (@Nat.cast Int _ v0))) 21) (rdInt (elemAt T (Int.toNat (@Nat.cast Int _ v0))) 22))))) ∧ T1 ∧ T1 ∧ T1 ∧ (bif (Bool.not (rightI (InstP.mk (rdInt (elemAt T (Int.toNat (@Nat.cast Int _ v0))) 1) (rdInt (elemAt T (Int.toNat (@Nat.cast Int _ v0))) 2) (rdInt (elemAt T (Int.toNat (@Nat.cast Int _ v0))) 3) (rdInt (elemAt T (Int.toNat (@Nat.cast Int _ v0))) 4) (rdInt (elemAt T (Int.toNat (@Nat.cast Int _ v0))) 5) (rdBool (elemAt T (Int.toNat (@Nat.cast Int _ v0))) 6) (CmdP.mk (rdInt (elemAt T (Int.toNat (@Nat.cast Int _ v0))) 7) (rdInt (elemAt T (Int.toNat (@Nat.cast Int _ v0))) 8) (rdStr (elemAt T (Int.toNat (@Nat.cast Int _ v0))) 9) (rdInt (elemAt T (Int.toNat (@Nat.cast Int _ v0))) 10) (rdStr (elemAt T (Int.toNat (@Nat.cast Int _ v0))) 11) (rdInt (elemAt T (Int.toNat (@Nat.cast Int _ v0))) 12) (rdInt (elemAt T (Int.toNat (@Nat.cast Int _ v0))) 13) (rdInt (elemAt T (Int.toNat (@Nat.cast Int _ v0))) 14)) (AttP.mk (rdInt (elemAt T (Int.toNat (@Nat.cast Int _ v0))) 15) (rdInt (elemAt T (Int.toNat (@Nat.cast Int _ v0))) 16) (rdInt (elemAt T (Int.toNat (@Nat.cast Int _ v0))) 17) (rdInt (elemAt T (Int.toNat (@Nat.cast Int _ v0))) 18) (rdInt (elemAt T (Int.toNat (@Nat.cast Int _ v0))) 19) (rdInt (elemAt T (Int.toNat (@Nat.cast Int _ v0))) 20) (rdInt (elemAt T (Int.toNat (@Nat.cast Int _ v0))) 21) (rdInt (elemAt T (Int.toNat (@Nat.cast Int _ v0))) 22))))) then (tt ∧ tt ∧ T1 ∧ tt ∧ tt ∧ (((0 : Int) = (10 : Int)) ∧ True) ∧ tt) else (T1 ∧ T1 ∧ tt ∧ tt ∧ T1 ∧ T1 ∧ (bif (Bool.not (Bool.and ((rdInt (elemAt T (Int.toNat (@Nat.cast Int _ v0))) 1) == r) (Bool.and ((rdInt (elemAt T (Int.toNat (@Nat.cast Int _ v0))) 2) == sl) true))) then (tt ∧ T1 ∧ tt ∧ tt ∧ (((0 : Int) = (10 : Int)) ∧ True) ∧ tt) else (tt ∧ T1 ∧ T1 ∧ tt ∧ (T1 ∧ True) ∧ (∀ (v2 : Int), (∀ (v3 : (v2 = (withS (seenN T v0) (rdInt (elemAt T (Int.toNat (@Nat.cast Int _ v0))) 0)))), (T1 ∧ tt ∧ T1 ∧ T1 ∧ (@Exists.{1} (LoopInv.V (loopCheck n r sl T)) (fun (v4 : Nat) => (((((AV.int Go.IntKind.i64 n) = (AV.int Go.IntKind.i64 n)) ∧ ((AV.ptr 4 0) = (AV.ptr 4 0)) ∧ ((AV.int Go.IntKind.u8 v2) = (AV.int Go.IntKind.u8 (seenN T v4))) ∧ ((AV.sl T Own.no) = (AV.sl T Own.no)) ∧ ((AV.int Go.IntKind.i64 (@Nat.cast Int _ (List.length T))) = (AV.int Go.IntKind.i64 (@Nat.cast Int _ (List.length T)))) ∧ ((AV.int Go.IntKind.i64 (Go.IntKind.wrap Go.IntKind.i64 ((@Nat.cast Int _ v0) + (1 : Int)))) = (AV.int Go.IntKind.i64 (@Nat.cast Int _ v4))) ∧ True) ∧ (((@Option.some.{0} (@List.{0} AV) [(AV.int Go.IntKind.i64 r), (AV.int Go.IntKind.i64 sl)]) = (@Option.some.{0} (@List.{0} AV) [(AV.int Go.IntKind.i64 r), (AV.int Go.IntKind.i64 sl)])) ∧ True) ∧ T1 ∧ tt ∧ tt) ∧ (v4 ≤ (List.length T)) ∧ (((List.length T) - v4) < ((List.length T) - v0))))))))))))))))))) else (tt ∧ T1 ∧ (T1 ∧ True) ∧ (∀ (v2 : Int), (∀ (v3 : (v2 = (@Nat.cast Int _ (cntS (seenN T v0))))), (T1 ∧ (T1 ∧ ((rightN n) = true)) ∧ (∀ (v4 : Int), (∀ (v5 : (v4 = ((fN n) + (1 : Int)))), (T1 ∧ (bif (decide (v2 < v4)) then (tt ∧ T1 ∧ tt ∧ tt ∧ (((0 : Int) = (20 : Int)) ∧ True) ∧ tt) else (tt ∧ T1 ∧ tt ∧ tt ∧ (((0 : Int) = (0 : Int)) ∧ True) ∧ tt))))))))))))))))))))) : inCheckV0 n r sl T :=
  Eq.mp (show _ = _ by kernel_rfl) h
theorem vcCheckN0 (n : Int) (r : Int) (sl : Int) (T : (@List.{0} AV)) (h : (tt ∧ T1 ∧ T1 ∧ tt ∧ T1 ∧ (T1 ∧ True) ∧ T1 ∧ T1 ∧ (bif (Bool.not (rightN n)) then (tt ∧ T1 ∧ tt ∧ tt ∧ T1 ∧ tt ∧ tt ∧ (((12 : Int) = (12 : Int)) ∧ True) ∧ tt) else (tt ∧ False)))) : inCheckN0 n r sl T :=
  Eq.mp (show _ = _ by kernel_rfl) h
theorem vcChoose0 (n : Int) (r : Int) (sl : Int) (T : (@List.{0} AV)) (h : (tt ∧ T1 ∧ T1 ∧ T1 ∧ tt ∧ T1 ∧ (T1 ∧ (isTolds T) ∧ ((List.length T) ≤ 100)) ∧ T1 ∧ T1 ∧ T1 ∧ T1 ∧ tt ∧ T1 ∧ tt ∧ T1 ∧ (bif (firstB T) then (tt ∧ tt ∧ T1 ∧ tt ∧ tt ∧ tt ∧ tt ∧ (((choK T) = (1 : Int)) ∧ ((InstP.r (choX T)) = (InstP.r (firstV T))) ∧ ((InstP.sl (choX T)) = (InstP.sl (firstV T))) ∧ ((InstP.st (choX T)) = (InstP.st (firstV T))) ∧ ((InstP.bal (choX T)) = (InstP.bal (firstV T))) ∧ ((InstP.vote (choX T)) = (InstP.vote (firstV T))) ∧ ((InstP.same (choX T)) = (InstP.same (firstV T))) ∧ ((CmdP.k (InstP.c (choX T))) = (CmdP.k (InstP.c (firstV T)))) ∧ ((CmdP.num (InstP.c (choX T))) = (CmdP.num (InstP.c (firstV T)))) ∧ ((CmdP.foot (InstP.c (choX T))) = (CmdP.foot (InstP.c (firstV T)))) ∧ ((CmdP.rq (InstP.c (choX T))) = (CmdP.rq (InstP.c (firstV T)))) ∧ ((CmdP.path (InstP.c (choX T))) = (CmdP.path (InstP.c (firstV T)))) ∧ ((CmdP.mode (InstP.c (choX T))) = (CmdP.mode (InstP.c (firstV T)))) ∧ ((CmdP.n (InstP.c (choX T))) = (CmdP.n (InstP.c (firstV T)))) ∧ ((CmdP.time (InstP.c (choX T))) = (CmdP.time (InstP.c (firstV T)))) ∧ ((AttP.s (InstP.a (choX T))) = (AttP.s (InstP.a (firstV T)))) ∧ ((AttP.d0 (InstP.a (choX T))) = (AttP.d0 (InstP.a (firstV T)))) ∧ ((AttP.d1 (InstP.a (choX T))) = (AttP.d1 (InstP.a (firstV T)))) ∧ ((AttP.d2 (InstP.a (choX T))) = (AttP.d2 (InstP.a (firstV T)))) ∧ ((AttP.d3 (InstP.a (choX T))) = (AttP.d3 (InstP.a (firstV T)))) ∧ ((AttP.d4 (InstP.a (choX T))) = (AttP.d4 (InstP.a (firstV T)))) ∧ ((AttP.d5 (InstP.a (choX T))) = (AttP.d5 (InstP.a (firstV T)))) ∧ ((AttP.d6 (InstP.a (choX T))) = (AttP.d6 (InstP.a (firstV T)))) ∧ True) ∧ tt) else (tt ∧ T1 ∧ (T1 ∧ (isTolds T) ∧ ((List.length T) ≤ 100)) ∧ T1 ∧ T1 ∧ T1 ∧ T1 ∧ tt ∧ T1 ∧ tt ∧ T1 ∧ (bif (@Prod.fst.{0, 0} Bool InstP (bestN T (2 : Int) (List.length T))) then (tt ∧ tt ∧ T1 ∧ tt ∧ tt ∧ tt ∧ tt ∧ (((choK T) = (2 : Int)) ∧ ((InstP.r (choX T)) = (InstP.r (@Prod.snd.{0, 0} Bool InstP (bestN T (2 : Int) (List.length T))))) ∧ ((InstP.sl (choX T)) = (InstP.sl (@Prod.snd.{0, 0} Bool InstP (bestN T (2 : Int) (List.length T))))) ∧ ((InstP.st (choX T)) = (InstP.st (@Prod.snd.{0, 0} Bool InstP (bestN T (2 : Int) (List.length T))))) ∧ ((InstP.bal (choX T)) = (InstP.bal (@Prod.snd.{0, 0} Bool InstP (bestN T (2 : Int) (List.length T))))) ∧ ((InstP.vote (choX T)) = (InstP.vote (@Prod.snd.{0, 0} Bool InstP (bestN T (2 : Int) (List.length T))))) ∧ ((InstP.same (choX T)) = (InstP.same (@Prod.snd.{0, 0} Bool InstP (bestN T (2 : Int) (List.length T))))) ∧ ((CmdP.k (InstP.c (choX T))) = (CmdP.k (InstP.c (@Prod.snd.{0, 0} Bool InstP (bestN T (2 : Int) (List.length T)))))) ∧ ((CmdP.num (InstP.c (choX T))) = (CmdP.num (InstP.c (@Prod.snd.{0, 0} Bool InstP (bestN T (2 : Int) (List.length T)))))) ∧ ((CmdP.foot (InstP.c (choX T))) = (CmdP.foot (InstP.c (@Prod.snd.{0, 0} Bool InstP (bestN T (2 : Int) (List.length T)))))) ∧ ((CmdP.rq (InstP.c (choX T))) = (CmdP.rq (InstP.c (@Prod.snd.{0, 0} Bool InstP (bestN T (2 : Int) (List.length T)))))) ∧ ((CmdP.path (InstP.c (choX T))) = (CmdP.path (InstP.c (@Prod.snd.{0, 0} Bool InstP (bestN T (2 : Int) (List.length T)))))) ∧ ((CmdP.mode (InstP.c (choX T))) = (CmdP.mode (InstP.c (@Prod.snd.{0, 0} Bool InstP (bestN T (2 : Int) (List.length T)))))) ∧ ((CmdP.n (InstP.c (choX T))) = (CmdP.n (InstP.c (@Prod.snd.{0, 0} Bool InstP (bestN T (2 : Int) (List.length T)))))) ∧ ((CmdP.time (InstP.c (choX T))) = (CmdP.time (InstP.c (@Prod.snd.{0, 0} Bool InstP (bestN T (2 : Int) (List.length T)))))) ∧ ((AttP.s (InstP.a (choX T))) = (AttP.s (InstP.a (@Prod.snd.{0, 0} Bool InstP (bestN T (2 : Int) (List.length T)))))) ∧ ((AttP.d0 (InstP.a (choX T))) = (AttP.d0 (InstP.a (@Prod.snd.{0, 0} Bool InstP (bestN T (2 : Int) (List.length T)))))) ∧ ((AttP.d1 (InstP.a (choX T))) = (AttP.d1 (InstP.a (@Prod.snd.{0, 0} Bool InstP (bestN T (2 : Int) (List.length T)))))) ∧ ((AttP.d2 (InstP.a (choX T))) = (AttP.d2 (InstP.a (@Prod.snd.{0, 0} Bool InstP (bestN T (2 : Int) (List.length T)))))) ∧ ((AttP.d3 (InstP.a (choX T))) = (AttP.d3 (InstP.a (@Prod.snd.{0, 0} Bool InstP (bestN T (2 : Int) (List.length T)))))) ∧ ((AttP.d4 (InstP.a (choX T))) = (AttP.d4 (InstP.a (@Prod.snd.{0, 0} Bool InstP (bestN T (2 : Int) (List.length T)))))) ∧ ((AttP.d5 (InstP.a (choX T))) = (AttP.d5 (InstP.a (@Prod.snd.{0, 0} Bool InstP (bestN T (2 : Int) (List.length T)))))) ∧ ((AttP.d6 (InstP.a (choX T))) = (AttP.d6 (InstP.a (@Prod.snd.{0, 0} Bool InstP (bestN T (2 : Int) (List.length T)))))) ∧ True) ∧ tt) else (tt ∧ T1 ∧ tt ∧ T1 ∧ (T1 ∧ (isTolds T) ∧ ((List.length T) ≤ 100) ∧ (∀ (v0 : Nat), (∀ (v1 : (v0 < (List.length T))), (@Ne.{1} Int (rdInt (elemAt T v0) 0) r)))) ∧ T1 ∧ T1 ∧ T1 ∧ T1 ∧ tt ∧ T1 ∧ tt ∧ T1 ∧ (bif (decide ((fN n) ≤ (@Nat.cast Int _ (@Prod.fst.{0, 0} Nat InstP (swN T (List.length T)))))) then (tt ∧ tt ∧ T1 ∧ tt ∧ tt ∧ tt ∧ tt ∧ (((choK T) = (3 : Int)) ∧ ((InstP.r (choX T)) = (InstP.r (@Prod.snd.{0, 0} Nat InstP (swN T (List.length T))))) ∧ ((InstP.sl (choX T)) = (InstP.sl (@Prod.snd.{0, 0} Nat InstP (swN T (List.length T))))) ∧ ((InstP.st (choX T)) = (InstP.st (@Prod.snd.{0, 0} Nat InstP (swN T (List.length T))))) ∧ ((InstP.bal (choX T)) = (InstP.bal (@Prod.snd.{0, 0} Nat InstP (swN T (List.length T))))) ∧ ((InstP.vote (choX T)) = (InstP.vote (@Prod.snd.{0, 0} Nat InstP (swN T (List.length T))))) ∧ ((InstP.same (choX T)) = (InstP.same (@Prod.snd.{0, 0} Nat InstP (swN T (List.length T))))) ∧ ((CmdP.k (InstP.c (choX T))) = (CmdP.k (InstP.c (@Prod.snd.{0, 0} Nat InstP (swN T (List.length T)))))) ∧ ((CmdP.num (InstP.c (choX T))) = (CmdP.num (InstP.c (@Prod.snd.{0, 0} Nat InstP (swN T (List.length T)))))) ∧ ((CmdP.foot (InstP.c (choX T))) = (CmdP.foot (InstP.c (@Prod.snd.{0, 0} Nat InstP (swN T (List.length T)))))) ∧ ((CmdP.rq (InstP.c (choX T))) = (CmdP.rq (InstP.c (@Prod.snd.{0, 0} Nat InstP (swN T (List.length T)))))) ∧ ((CmdP.path (InstP.c (choX T))) = (CmdP.path (InstP.c (@Prod.snd.{0, 0} Nat InstP (swN T (List.length T)))))) ∧ ((CmdP.mode (InstP.c (choX T))) = (CmdP.mode (InstP.c (@Prod.snd.{0, 0} Nat InstP (swN T (List.length T)))))) ∧ ((CmdP.n (InstP.c (choX T))) = (CmdP.n (InstP.c (@Prod.snd.{0, 0} Nat InstP (swN T (List.length T)))))) ∧ ((CmdP.time (InstP.c (choX T))) = (CmdP.time (InstP.c (@Prod.snd.{0, 0} Nat InstP (swN T (List.length T)))))) ∧ ((AttP.s (InstP.a (choX T))) = (AttP.s (InstP.a (@Prod.snd.{0, 0} Nat InstP (swN T (List.length T)))))) ∧ ((AttP.d0 (InstP.a (choX T))) = (AttP.d0 (InstP.a (@Prod.snd.{0, 0} Nat InstP (swN T (List.length T)))))) ∧ ((AttP.d1 (InstP.a (choX T))) = (AttP.d1 (InstP.a (@Prod.snd.{0, 0} Nat InstP (swN T (List.length T)))))) ∧ ((AttP.d2 (InstP.a (choX T))) = (AttP.d2 (InstP.a (@Prod.snd.{0, 0} Nat InstP (swN T (List.length T)))))) ∧ ((AttP.d3 (InstP.a (choX T))) = (AttP.d3 (InstP.a (@Prod.snd.{0, 0} Nat InstP (swN T (List.length T)))))) ∧ ((AttP.d4 (InstP.a (choX T))) = (AttP.d4 (InstP.a (@Prod.snd.{0, 0} Nat InstP (swN T (List.length T)))))) ∧ ((AttP.d5 (InstP.a (choX T))) = (AttP.d5 (InstP.a (@Prod.snd.{0, 0} Nat InstP (swN T (List.length T)))))) ∧ ((AttP.d6 (InstP.a (choX T))) = (AttP.d6 (InstP.a (@Prod.snd.{0, 0} Nat InstP (swN T (List.length T)))))) ∧ True) ∧ tt) else (tt ∧ T1 ∧ (T1 ∧ (isTolds T) ∧ ((List.length T) ≤ 100)) ∧ T1 ∧ T1 ∧ T1 ∧ T1 ∧ tt ∧ T1 ∧ tt ∧ T1 ∧ (bif (@Prod.fst.{0, 0} Bool InstP (bestN T (1 : Int) (List.length T))) then (tt ∧ T1 ∧ False) else (tt ∧ T1 ∧ tt ∧ False)))))))))) : inChoose0 n r sl T :=
  Eq.mp (show _ = _ by kernel_rfl) h
theorem vcChooseV0 (n : Int) (r : Int) (sl : Int) (T : (@List.{0} AV)) (h : (tt ∧ T1 ∧ T1 ∧ T1 ∧ T1 ∧ tt ∧ T1 ∧ tt ∧ T1 ∧ (T1 ∧ (okL n r sl T)) ∧ (∀ (v0 : Int), (∀ (v1 : (v0 = (0 : Int))), (T1 ∧ tt ∧ T1 ∧ T1 ∧ (bif (v0 != (0 : Int)) then (tt ∧ T1 ∧ T1 ∧ T1 ∧ tt ∧ T1 ∧ tt ∧ tt ∧ (((choK T) = (0 : Int)) ∧ (r = (0 : Int)) ∧ (sl = (0 : Int)) ∧ ((1 : Int) = (0 : Int)) ∧ ((0 : Int) = (0 : Int)) ∧ ((0 : Int) = (0 : Int)) ∧ (false = false) ∧ ((CmdP.k (InstP.c (choX T))) = (0 : Int)) ∧ ((CmdP.num (InstP.c (choX T))) = (0 : Int)) ∧ ((CmdP.foot (InstP.c (choX T))) = (@List.nil.{0} UInt8)) ∧ ((CmdP.rq (InstP.c (choX T))) = (0 : Int)) ∧ ((CmdP.path (InstP.c (choX T))) = (@List.nil.{0} UInt8)) ∧ ((CmdP.mode (InstP.c (choX T))) = (0 : Int)) ∧ ((CmdP.n (InstP.c (choX T))) = (0 : Int)) ∧ ((CmdP.time (InstP.c (choX T))) = (0 : Int)) ∧ ((AttP.s (InstP.a (choX T))) = (0 : Int)) ∧ ((AttP.d0 (InstP.a (choX T))) = (0 : Int)) ∧ ((AttP.d1 (InstP.a (choX T))) = (0 : Int)) ∧ ((AttP.d2 (InstP.a (choX T))) = (0 : Int)) ∧ ((AttP.d3 (InstP.a (choX T))) = (0 : Int)) ∧ ((AttP.d4 (InstP.a (choX T))) = (0 : Int)) ∧ ((AttP.d5 (InstP.a (choX T))) = (0 : Int)) ∧ ((AttP.d6 (InstP.a (choX T))) = (0 : Int)) ∧ ((0 : Int) = v0) ∧ True) ∧ tt) else (tt ∧ T1 ∧ tt ∧ T1 ∧ (T1 ∧ (isTolds T) ∧ ((List.length T) ≤ 100) ∧ (okCh n r T)) ∧ T1 ∧ T1 ∧ T1 ∧ T1 ∧ T1 ∧ tt ∧ tt ∧ T1 ∧ tt ∧ T1 ∧ tt ∧ T1 ∧ tt ∧ T1 ∧ T1 ∧ tt ∧ T1 ∧ tt ∧ tt ∧ tt ∧ (((choK T) = (choK T)) ∧ (r = r) ∧ (sl = sl) ∧ ((1 : Int) = (1 : Int)) ∧ ((0 : Int) = (0 : Int)) ∧ ((0 : Int) = (0 : Int)) ∧ (false = false) ∧ ((CmdP.k (InstP.c (choX T))) = (CmdP.k (InstP.c (choX T)))) ∧ ((CmdP.num (InstP.c (choX T))) = (CmdP.num (InstP.c (choX T)))) ∧ ((CmdP.foot (InstP.c (choX T))) = (CmdP.foot (InstP.c (choX T)))) ∧ ((CmdP.rq (InstP.c (choX T))) = (CmdP.rq (InstP.c (choX T)))) ∧ ((CmdP.path (InstP.c (choX T))) = (CmdP.path (InstP.c (choX T)))) ∧ ((CmdP.mode (InstP.c (choX T))) = (CmdP.mode (InstP.c (choX T)))) ∧ ((CmdP.n (InstP.c (choX T))) = (CmdP.n (InstP.c (choX T)))) ∧ ((CmdP.time (InstP.c (choX T))) = (CmdP.time (InstP.c (choX T)))) ∧ ((AttP.s (InstP.a (choX T))) = (AttP.s (InstP.a (choX T)))) ∧ ((AttP.d0 (InstP.a (choX T))) = (AttP.d0 (InstP.a (choX T)))) ∧ ((AttP.d1 (InstP.a (choX T))) = (AttP.d1 (InstP.a (choX T)))) ∧ ((AttP.d2 (InstP.a (choX T))) = (AttP.d2 (InstP.a (choX T)))) ∧ ((AttP.d3 (InstP.a (choX T))) = (AttP.d3 (InstP.a (choX T)))) ∧ ((AttP.d4 (InstP.a (choX T))) = (AttP.d4 (InstP.a (choX T)))) ∧ ((AttP.d5 (InstP.a (choX T))) = (AttP.d5 (InstP.a (choX T)))) ∧ ((AttP.d6 (InstP.a (choX T))) = (AttP.d6 (InstP.a (choX T)))) ∧ ((0 : Int) = (0 : Int)) ∧ True) ∧ tt))))))) : inChooseV0 n r sl T :=
  Eq.mp (show _ = _ by kernel_rfl) h
theorem vcChooseN0 (n : Int) (r : Int) (sl : Int) (T : (@List.{0} AV)) (h : (tt ∧ T1 ∧ T1 ∧ T1 ∧ T1 ∧ tt ∧ T1 ∧ tt ∧ T1 ∧ (T1 ∧ ((rightN n) = false)) ∧ (∀ (v0 : Int), (∀ (v1 : (v0 = (12 : Int))), (T1 ∧ tt ∧ T1 ∧ T1 ∧ (bif (v0 != (0 : Int)) then (tt ∧ T1 ∧ T1 ∧ T1 ∧ tt ∧ T1 ∧ tt ∧ tt ∧ (((0 : Int) = (0 : Int)) ∧ ((0 : Int) = (0 : Int)) ∧ ((0 : Int) = (0 : Int)) ∧ ((0 : Int) = (0 : Int)) ∧ ((0 : Int) = (0 : Int)) ∧ ((0 : Int) = (0 : Int)) ∧ (false = false) ∧ ((0 : Int) = (0 : Int)) ∧ ((0 : Int) = (0 : Int)) ∧ ((@List.nil.{0} UInt8) = (@List.nil.{0} UInt8)) ∧ ((0 : Int) = (0 : Int)) ∧ ((@List.nil.{0} UInt8) = (@List.nil.{0} UInt8)) ∧ ((0 : Int) = (0 : Int)) ∧ ((0 : Int) = (0 : Int)) ∧ ((0 : Int) = (0 : Int)) ∧ ((0 : Int) = (0 : Int)) ∧ ((0 : Int) = (0 : Int)) ∧ ((0 : Int) = (0 : Int)) ∧ ((0 : Int) = (0 : Int)) ∧ ((0 : Int) = (0 : Int)) ∧ ((0 : Int) = (0 : Int)) ∧ ((0 : Int) = (0 : Int)) ∧ ((0 : Int) = (0 : Int)) ∧ ((12 : Int) = v0) ∧ True) ∧ tt) else (tt ∧ T1 ∧ tt ∧ T1 ∧ False))))))) : inChooseN0 n r sl T :=
  Eq.mp (show _ = _ by kernel_rfl) h
end Go.Proofs.YtcokifdgbfbonaaDoor
/- The conditions hold: what a new ballot goes on with. -/
namespace Go.Proofs.YtcokifdgbfbonaaDoor
set_option linter.unusedVariables false
set_option linter.unusedSimpArgs false
open Go.RowKit
set_option maxRecDepth 100000

theorem seenN_succ {T : List AV} {i : Nat} (hi : i < T.length) : seenN T (i + 1) = withS (seenN T i) (rdInt (elemAt T i) 0) := by
  unfold seenN
  rw [List.take_add_one, elem_some hi, List.foldl_append]
  rfl
theorem okCheckN0 : OkCheckN0 := by
  intro n r sl T hq
  refine vcCheckN0 n r sl T ?_
  simp only [true_and, and_true, forall_eq, eq_self, hq, Bool.not_false, cond_true]
theorem okCheckV0 : OkCheckV0 := by
  intro n r sl T hq
  obtain ⟨hn, hid, hr, ht, hl, hall, hc⟩ := hq
  refine vcCheckV0 n r sl T ?_
  simp only [true_and, and_true, forall_eq, eq_self, Int.toNat_natCast, hn, hid, Bool.not_true, cond_false]
  refine cond_prop (fun h => ?_) fun _ => ?_
  · have : n ≤ r := by simpa using h
    omega
  refine ⟨⟨(0 : Nat), ⟨rfl, rfl⟩, Nat.zero_le _⟩, fun i hi => cond_prop (fun h => ?_) fun h => ?_⟩
  · have h' : i < T.length := by simpa using h
    have ok := isTolds_at ht h'
    obtain ⟨⟨a1, a2⟩, a3, a4, a5, a6, a7⟩ := hall i h'
    have sc := seenN_succ h'
    have w1 : IntKind.i64.wrap ((i : Int) + 1) = ((i + 1 : Nat) : Int) := by rw [wrap_i64 (by omega) (by omega)]; rfl
    obtain ⟨j, hj⟩ : ∃ j : Nat, j = i + 1 := ⟨_, rfl⟩
    rw [← hj] at w1 sc
    refine ⟨⟨by omega, by omega, ok.1⟩, ok.2, cond_prop (fun g => ?_) fun g => cond_prop (fun g2 => ?_) fun g2 => cond_prop (fun g3 => ?_) fun g3 => ⟨a4, cond_prop (fun g4 => ?_) fun g4 => cond_prop (fun g5 => ?_) fun g5 => ⟨j, ⟨by rw [sc], by rw [w1]⟩, by omega, by omega⟩⟩⟩
    · have : rdInt (elemAt T i) 0 < 0 := by simpa using g
      omega
    · have : n ≤ rdInt (elemAt T i) 0 := by simpa using g2
      omega
    · rw [a3] at g3; cases g3
    · have g4' : (!rightI (tolX (elemAt T i))) = true := g4
      rw [a5] at g4'; cases g4'
    · have b6 : rdInt (elemAt T i) 1 = r := a6
      have b7 : rdInt (elemAt T i) 2 = sl := a7
      simp [b6, b7] at g5
  · have h' : i = T.length := by simp at h; omega
    rw [h']
    refine cond_prop (fun g => ?_) fun g => trivial
    have : ((cntS (seenN T T.length) : Nat) : Int) < fN n + 1 := by simpa using g
    omega
theorem okChoose0 : OkChoose0 := by
  intro n r sl T hq
  obtain ⟨ht, hl, hc⟩ := hq
  refine vcChoose0 n r sl T ?_
  simp only [true_and, and_true, forall_eq, eq_self]
  refine ⟨⟨ht, hl⟩, cond_prop (fun h => ?_) fun h => ⟨⟨ht, hl⟩, cond_prop (fun h2 => ?_) fun h2 => ?_⟩⟩
  · have e1 : choK T = 1 := by unfold choK; rw [if_pos h]
    have e2 : choX T = firstV T := by unfold choX; rw [if_pos h]
    rw [e1, e2]; and_intros <;> rfl
  · have e1 : choK T = 2 := by unfold choK; rw [if_neg (by simp [h]), if_pos h2]
    have e2 : choX T = (bestN T 2 T.length).2 := by unfold choX; rw [if_neg (by simp [h]), if_pos h2]
    rw [e1, e2]; and_intros <;> rfl
  · have h3 : (∀ i, i < T.length → rdInt (elemAt T i) 0 ≠ r) ∧ fN n ≤ ((swN T T.length).1 : Nat) := by
      rcases hc with g | g | g
      · rw [g] at h; cases h
      · rw [g] at h2; cases h2
      · exact g
    have e1 : choK T = 3 := by unfold choK; rw [if_neg (by simp [h]), if_neg (by simp [h2])]
    have e2 : choX T = (swN T T.length).2 := by unfold choX; rw [if_neg (by simp [h]), if_neg (by simp [h2])]
    have d : decide (fN n ≤ ((swN T T.length).1 : Int)) = true := by simpa using h3.2
    rw [d, e1, e2]
    exact ⟨⟨ht, hl, h3.1⟩, by and_intros <;> rfl⟩
theorem okChooseV0 : OkChooseV0 := by
  intro n r sl T hq
  obtain ⟨h1, h2⟩ := hq
  refine vcChooseV0 n r sl T ?_
  simp only [true_and, and_true, forall_eq, eq_self]
  exact ⟨h1, h1.2.2.2.1, h1.2.2.2.2.1, h2⟩
theorem okChooseN0 : OkChooseN0 := by
  intro n r sl T hq
  refine vcChooseN0 n r sl T ?_
  simp only [true_and, and_true, forall_eq, eq_self, hq]
  trivial
end Go.Proofs.YtcokifdgbfbonaaDoor
/- The contracts are met. -/
namespace Go.Proofs.YtcokifdgbfbonaaDoor
set_option linter.unusedVariables false
set_option linter.unusedSimpArgs false
open Go.RowKit
theorem sndCheckV : Sound Tryd.prog (lookΓ gamCheckV) := sound_of _ fun p hp => by
  simp only [gamCheckV, List.mem_cons, List.not_mem_nil, or_false] at hp
  rcases hp with rfl | rfl | rfl | rfl | rfl | rfl | rfl
  · exact meetsCrewRight.orNil
  · exact meetsIdRight.orNil
  · exact meetsHasC.orNil
  · exact meetsIright.orNil
  · exact meetsWithC.orNil
  · exact meetsCountC.orNil
  · exact meetsCrewMaj.orNil
set_option maxHeartbeats 4000000 in
theorem meetsCheckV : Meets Tryd.prog 89 checkVF := by
  refine meets_of_awp (Γ := lookΓ gamCheckV) (L := fun args => match args with | [.val (.int .i64 n), .val (.agg [.int .i64 r, .int .i64 sl]), .val (.sl T .no)] => lpCheckV0 n r sl T | _ => fun _ => none) sndCheckV mixedOrders Tryd.func89 rfl Tryd.call89 ?_
  intro args q r hF hq ho
  unfold checkVF at hF
  split at hF
  · cases hF
    exact ⟨by simp only [List.length_cons, List.length_nil]; decide, okCheckV0 _ _ _ _ hq⟩
  · cases hF
theorem sndCheckN : Sound Tryd.prog (lookΓ gamCheckN) := sound_of _ fun p hp => by
  simp only [gamCheckN, List.mem_cons, List.not_mem_nil, or_false] at hp
  subst hp
  exact meetsCrewRight.orNil
set_option maxHeartbeats 4000000 in
theorem meetsCheckN : Meets Tryd.prog 89 checkNF := by
  refine meets_of_awp (Γ := lookΓ gamCheckN) (L := fun _ _ => none) sndCheckN mixedOrders Tryd.func89 rfl Tryd.call89 ?_
  intro args q r hF hq ho
  unfold checkNF at hF
  split at hF
  · cases hF
    exact ⟨by simp only [List.length_cons, List.length_nil]; decide, okCheckN0 _ _ _ _ hq⟩
  · cases hF
theorem sndChoose : Sound Tryd.prog (lookΓ gamChoose) := sound_of _ fun p hp => by
  simp only [gamChoose, List.mem_cons, List.not_mem_nil, or_false] at hp
  rcases hp with rfl | rfl | rfl
  · exact meetsPfirst.orNil
  · exact meetsPbest.orNil
  · exact meetsPswift.orNil
set_option maxHeartbeats 4000000 in
theorem meetsChoose : Meets Tryd.prog 90 chooseF := by
  refine meets_of_awp (Γ := lookΓ gamChoose) (L := fun _ _ => none) sndChoose mixedOrders Tryd.func90 rfl Tryd.call90 ?_
  intro args q r hF hq ho
  unfold chooseF at hF
  split at hF
  · cases hF
    exact ⟨by simp only [List.length_cons, List.length_nil]; decide, okChoose0 _ _ _ _ hq⟩
  · cases hF
theorem sndChooseV : Sound Tryd.prog (lookΓ gamChooseV) := sound_of _ fun p hp => by
  simp only [gamChooseV, List.mem_cons, List.not_mem_nil, or_false] at hp
  rcases hp with rfl | rfl
  · exact meetsCheckV.orNil
  · exact meetsChoose.orNil
set_option maxHeartbeats 4000000 in
theorem meetsChooseV : Meets Tryd.prog 44 chooseVF := by
  refine meets_of_awp (Γ := lookΓ gamChooseV) (L := fun _ _ => none) sndChooseV mixedOrders Tryd.func44 rfl Tryd.call44 ?_
  intro args q r hF hq ho
  unfold chooseVF at hF
  split at hF
  · cases hF
    exact ⟨by simp only [List.length_cons, List.length_nil]; decide, okChooseV0 _ _ _ _ hq⟩
  · cases hF
theorem sndChooseN : Sound Tryd.prog (lookΓ gamChooseN) := sound_of _ fun p hp => by
  simp only [gamChooseN, List.mem_cons, List.not_mem_nil, or_false] at hp
  subst hp
  exact meetsCheckN.orNil
set_option maxHeartbeats 4000000 in
theorem meetsChooseN : Meets Tryd.prog 44 chooseNF := by
  refine meets_of_awp (Γ := lookΓ gamChooseN) (L := fun _ _ => none) sndChooseN mixedOrders Tryd.func44 rfl Tryd.call44 ?_
  intro args q r hF hq ho
  unfold chooseNF at hF
  split at hF
  · cases hF
    exact ⟨by simp only [List.length_cons, List.length_nil]; decide, okChooseN0 _ _ _ _ hq⟩
  · cases hF
end Go.Proofs.YtcokifdgbfbonaaDoor
