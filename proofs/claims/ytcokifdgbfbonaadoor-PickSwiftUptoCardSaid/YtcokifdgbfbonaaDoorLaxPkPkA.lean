/- Contracts by content, their conditions, and that they are met: PkA. -/
import Derived.Test.YtcokifdgbfbonaaDoorLaxPkInstA
/- Contracts by content, and the conditions that their code must meet. -/
namespace Go.Proofs.YtcokifdgbfbonaaDoor
set_option linter.unusedVariables false
set_option linter.unusedSimpArgs false
open Go.RowKit
/-- the kinds of a told state's cells -/
def toldKs : List Kd := [.int .i64, .int .i64, .int .i64, .int .i64, .int .u32, .int .u32, .bool, .int .i64, .int .u64, .str, .int .u64, .str, .int .i64, .int .u64, .int .i64, .int .i64, .int .i64, .int .i64, .int .i64, .int .i64, .int .i64, .int .i64, .int .i64]
def okTold (x : AV) : Prop := x.cells.length = 23 ∧ okRead toldKs x 0
def isTolds (xs : List AV) : Prop := ∀ x ∈ xs, okTold x
def tolX (e : AV) : InstP := ⟨rdInt e 1, rdInt e 2, rdInt e 3, rdInt e 4, rdInt e 5, rdBool e 6, ⟨rdInt e 7, rdInt e 8, rdStr e 9, rdInt e 10, rdStr e 11, rdInt e 12, rdInt e 13, rdInt e 14⟩, ⟨rdInt e 15, rdInt e 16, rdInt e 17, rdInt e 18, rdInt e 19, rdInt e 20, rdInt e 21, rdInt e 22⟩⟩
def toldE (r : Int) (x : InstP) : AV := .agg (.int .i64 r :: instL x)
def mergeQ (a b : AttP) : AttP := ⟨mx a.s b.s, mx a.d0 b.d0, mx a.d1 b.d1, mx a.d2 b.d2, mx a.d3 b.d3, mx a.d4 b.d4, mx a.d5 b.d5, mx a.d6 b.d6⟩
/-- sets of replicas are numbers below 256 -/
def rightN (n : Int) : Bool := decide (n = 3 ∨ n = 5 ∨ n = 7)
def bitV (r : Int) : Int := if 0 ≤ r ∧ r < 7 then ((2 ^ r.toNat : Nat) : Int) else 0
def hasS (s r : Int) : Bool := decide (0 ≤ r ∧ r < 7) && s.toNat.testBit r.toNat
def withS (s r : Int) : Int := ((s.toNat ||| (bitV r).toNat : Nat) : Int)
def withoutS (s r : Int) : Int := ((s.toNat &&& (255 - (bitV r).toNat) : Nat) : Int)
def meetS (s o : Int) : Int := ((s.toNat &&& o.toNat &&& 127 : Nat) : Int)
def allS (n : Int) : Int := if n = 3 then 7 else if n = 5 then 31 else 127
def cntS (s : Int) : Nat := (List.range 7).countP fun r => s.toNat.testBit r
def fN (n : Int) : Int := if rightN n then n.fdiv 2 else 0
def firstB (T : List AV) : Bool := T.any fun e => rdInt e 3 == 3
def firstV (T : List AV) : InstP := match T.find? (fun e => rdInt e 3 == 3) with | some e => tolX e | none => zI
def bestN (T : List AV) (st : Int) (i : Nat) : Bool × InstP := (T.take i).foldl (fun a e => if (tolX e).st = st ∧ (a.1 = false ∨ a.2.vote < (tolX e).vote) then (true, tolX e) else a) (false, zI)
def swN (T : List AV) (i : Nat) : Nat × InstP := (T.take i).foldl (fun a e => if (tolX e).same = true then (a.1 + 1, if a.1 = 0 then tolX e else a.2) else a) (0, zI)
def mergedP (T : List AV) (i : Nat) : AttP := (T.take i).foldl (fun a e => if (tolX e).st = 1 then mergeQ a (tolX e).a else a) zA0
def loopFirst (T : List AV) : LoopInv :=
  { V := Nat
    T := fun i => [(2, .ptr 2 0), (6, .sl T .no), (7, .int .i64 (T.length : Int)), (8, .int .i64 (i : Int))]
    B := fun i => [(2, instL zI)]
    R := fun i => []
    inv := fun i => i ≤ T.length ∧ ∀ j, j < i → rdInt (elemAt T j) 3 ≠ 3
    mu := fun i => T.length - i }
def loopBest (T : List AV) (st : Int) : LoopInv :=
  { V := Nat
    T := fun i => [(1, .int .i64 st), (4, .ptr 4 0), (6, .ptr 6 0), (7, .bool (bestN T st i).1), (11, .sl T .no), (12, .int .i64 (T.length : Int)), (13, .int .i64 (i : Int))]
    B := fun i => [(4, instL zI), (6, instL (bestN T st i).2)]
    R := fun i => []
    inv := fun i => i ≤ T.length
    mu := fun i => T.length - i }
def loopSw (n r sl : Int) (T : List AV) : LoopInv :=
  { V := Nat
    T := fun i => [(0, .int .i64 n), (4, .ptr 4 0), (6, .ptr 6 0), (8, .ptr 8 0), (9, .int .i64 ((swN T i).1 : Nat)), (12, .sl T .no), (13, .int .i64 (T.length : Int)), (14, .int .i64 (i : Int))]
    B := fun i => [(4, [.int .i64 r, .int .i64 sl]), (6, instL zI), (8, instL (swN T i).2)]
    R := fun i => []
    inv := fun i => i ≤ T.length
    mu := fun i => T.length - i }
def loopMer (T : List AV) : LoopInv :=
  { V := Nat
    T := fun i => [(2, .ptr 2 0), (3, .ptr 3 0), (6, .sl T .no), (7, .int .i64 (T.length : Int)), (8, .int .i64 (i : Int))]
    B := fun i => [(2, attL zA0), (3, attL (mergedP T i))]
    R := fun i => []
    inv := fun i => i ≤ T.length
    mu := fun i => T.length - i }
def crewRightF : Con
  | [.val (.int .i64 n)] => (some (True, ⟨.bool (rightN n), none, none⟩))
  | _ => none
def gamCrewRight : List (Nat × Con) := []
def lpCrewRight0 (n : Int) : Nat → Option LoopPlan := fun _ => none
def inCrewRight0 (n : Int) : Prop := awp [] (lpCrewRight0 n) (lookΓ gamCrewRight) Tryd.prog Tryd.f36.ntmps 0 (Tryd.f36.body.getD .skip) (entrySt [.val (.int .i64 n)]) (exitQ Tryd.prog Tryd.f36.results.toList [] ⟨.bool (rightN n), none, none⟩)
def OkCrewRight0 : Prop := ∀ (n : Int), True → inCrewRight0 n
def crewFF : Con
  | [.val (.int .i64 n)] => (some (True, ⟨.int .i64 (fN n), none, none⟩))
  | _ => none
def gamCrewF : List (Nat × Con) := [(36, crewRightF.orNil)]
def lpCrewF0 (n : Int) : Nat → Option LoopPlan := fun _ => none
def inCrewF0 (n : Int) : Prop := awp [] (lpCrewF0 n) (lookΓ gamCrewF) Tryd.prog Tryd.f85.ntmps 0 (Tryd.f85.body.getD .skip) (entrySt [.val (.int .i64 n)]) (exitQ Tryd.prog Tryd.f85.results.toList [] ⟨.int .i64 (fN n), none, none⟩)
def OkCrewF0 : Prop := ∀ (n : Int), True → inCrewF0 n
def crewMajF : Con
  | [.val (.int .i64 n)] => (some (rightN n = true, ⟨.int .i64 (fN n + 1), none, none⟩))
  | _ => none
def gamCrewMaj : List (Nat × Con) := [(36, crewRightF.orNil), (85, crewFF.orNil)]
def lpCrewMaj0 (n : Int) : Nat → Option LoopPlan := fun _ => none
def inCrewMaj0 (n : Int) : Prop := awp [] (lpCrewMaj0 n) (lookΓ gamCrewMaj) Tryd.prog Tryd.f40.ntmps 0 (Tryd.f40.body.getD .skip) (entrySt [.val (.int .i64 n)]) (exitQ Tryd.prog Tryd.f40.results.toList [] ⟨.int .i64 (fN n + 1), none, none⟩)
def OkCrewMaj0 : Prop := ∀ (n : Int), rightN n = true → inCrewMaj0 n
def crewFastF : Con
  | [.val (.int .i64 n)] => (some (rightN n = true, ⟨.int .i64 (2 * fN n), none, none⟩))
  | _ => none
def gamCrewFast : List (Nat × Con) := [(85, crewFF.orNil)]
def lpCrewFast0 (n : Int) : Nat → Option LoopPlan := fun _ => none
def inCrewFast0 (n : Int) : Prop := awp [] (lpCrewFast0 n) (lookΓ gamCrewFast) Tryd.prog Tryd.f47.ntmps 0 (Tryd.f47.body.getD .skip) (entrySt [.val (.int .i64 n)]) (exitQ Tryd.prog Tryd.f47.results.toList [] ⟨.int .i64 (2 * fN n), none, none⟩)
def OkCrewFast0 : Prop := ∀ (n : Int), rightN n = true → inCrewFast0 n
def bitF : Con
  | [.val (.int .i64 r)] => (some (True, ⟨.int .u8 (bitV r), none, none⟩))
  | _ => none
def gamBit : List (Nat × Con) := []
def lpBit0 (r : Int) : Nat → Option LoopPlan := fun _ => none
def inBit0 (r : Int) : Prop := awp [] (lpBit0 r) (lookΓ gamBit) Tryd.prog Tryd.f88.ntmps 0 (Tryd.f88.body.getD .skip) (entrySt [.val (.int .i64 r)]) (exitQ Tryd.prog Tryd.f88.results.toList [] ⟨.int .u8 (bitV r), none, none⟩)
def OkBit0 : Prop := ∀ (r : Int), True → inBit0 r
def hasCF : Con
  | [.val (.int .u8 s), .val (.int .i64 r)] => (some (True, ⟨.bool (hasS s r), none, none⟩))
  | _ => none
def gamHasC : List (Nat × Con) := [(88, bitF.orNil)]
def lpHasC0 (s r : Int) : Nat → Option LoopPlan := fun _ => none
def inHasC0 (s r : Int) : Prop := awp [] (lpHasC0 s r) (lookΓ gamHasC) Tryd.prog Tryd.f42.ntmps 0 (Tryd.f42.body.getD .skip) (entrySt [.val (.int .u8 s), .val (.int .i64 r)]) (exitQ Tryd.prog Tryd.f42.results.toList [] ⟨.bool (hasS s r), none, none⟩)
def OkHasC0 : Prop := ∀ (s r : Int), True → (0 ≤ s ∧ s ≤ 255) → inHasC0 s r
def withCF : Con
  | [.val (.int .u8 s), .val (.int .i64 r)] => (some (True, ⟨.int .u8 (withS s r), none, none⟩))
  | _ => none
def gamWithC : List (Nat × Con) := [(88, bitF.orNil)]
def lpWithC0 (s r : Int) : Nat → Option LoopPlan := fun _ => none
def inWithC0 (s r : Int) : Prop := awp [] (lpWithC0 s r) (lookΓ gamWithC) Tryd.prog Tryd.f45.ntmps 0 (Tryd.f45.body.getD .skip) (entrySt [.val (.int .u8 s), .val (.int .i64 r)]) (exitQ Tryd.prog Tryd.f45.results.toList [] ⟨.int .u8 (withS s r), none, none⟩)
def OkWithC0 : Prop := ∀ (s r : Int), True → (0 ≤ s ∧ s ≤ 255) → inWithC0 s r
def withoutCF : Con
  | [.val (.int .u8 s), .val (.int .i64 r)] => (some (True, ⟨.int .u8 (withoutS s r), none, none⟩))
  | _ => none
def gamWithoutC : List (Nat × Con) := [(88, bitF.orNil)]
def lpWithoutC0 (s r : Int) : Nat → Option LoopPlan := fun _ => none
def inWithoutC0 (s r : Int) : Prop := awp [] (lpWithoutC0 s r) (lookΓ gamWithoutC) Tryd.prog Tryd.f46.ntmps 0 (Tryd.f46.body.getD .skip) (entrySt [.val (.int .u8 s), .val (.int .i64 r)]) (exitQ Tryd.prog Tryd.f46.results.toList [] ⟨.int .u8 (withoutS s r), none, none⟩)
def OkWithoutC0 : Prop := ∀ (s r : Int), True → (0 ≤ s ∧ s ≤ 255) → inWithoutC0 s r
def meetCF : Con
  | [.val (.int .u8 s), .val (.int .u8 o)] => (some (True, ⟨.int .u8 (meetS s o), none, none⟩))
  | _ => none
def gamMeetC : List (Nat × Con) := []
def lpMeetC0 (s o : Int) : Nat → Option LoopPlan := fun _ => none
def inMeetC0 (s o : Int) : Prop := awp [] (lpMeetC0 s o) (lookΓ gamMeetC) Tryd.prog Tryd.f37.ntmps 0 (Tryd.f37.body.getD .skip) (entrySt [.val (.int .u8 s), .val (.int .u8 o)]) (exitQ Tryd.prog Tryd.f37.results.toList [] ⟨.int .u8 (meetS s o), none, none⟩)
def OkMeetC0 : Prop := ∀ (s o : Int), True → (0 ≤ s ∧ s ≤ 255) → (0 ≤ o ∧ o ≤ 255) → inMeetC0 s o
def allCF : Con
  | [.val (.int .i64 n)] => (some (rightN n = true, ⟨.int .u8 (allS n), none, none⟩))
  | _ => none
def gamAllC : List (Nat × Con) := []
def lpAllC0 (n : Int) : Nat → Option LoopPlan := fun _ => none
def inAllC0 (n : Int) : Prop := awp [] (lpAllC0 n) (lookΓ gamAllC) Tryd.prog Tryd.f38.ntmps 0 (Tryd.f38.body.getD .skip) (entrySt [.val (.int .i64 n)]) (exitQ Tryd.prog Tryd.f38.results.toList [] ⟨.int .u8 (allS n), none, none⟩)
def OkAllC0 : Prop := ∀ (n : Int), rightN n = true → inAllC0 n
def onesF : Con
  | [.val (.int .u8 s)] => (some (s < 128, ⟨.int .i64 (cntS s : Nat), none, none⟩))
  | _ => none
def gamOnes : List (Nat × Con) := []
def lpOnes0 (s : Int) : Nat → Option LoopPlan := fun _ => none
def inOnes0 (s : Int) : Prop := awp [] (lpOnes0 s) (lookΓ gamOnes) Tryd.prog Tryd.f84.ntmps 0 (Tryd.f84.body.getD .skip) (entrySt [.val (.int .u8 s)]) (exitQ Tryd.prog Tryd.f84.results.toList [] ⟨.int .i64 (cntS s : Nat), none, none⟩)
def OkOnes0 : Prop := ∀ (s : Int), s < 128 → (0 ≤ s ∧ s ≤ 255) → inOnes0 s
def countCF : Con
  | [.val (.int .u8 s)] => (some (True, ⟨.int .i64 (cntS s : Nat), none, none⟩))
  | _ => none
def gamCountC : List (Nat × Con) := [(84, onesF.orNil)]
def lpCountC0 (s : Int) : Nat → Option LoopPlan := fun _ => none
def inCountC0 (s : Int) : Prop := awp [] (lpCountC0 s) (lookΓ gamCountC) Tryd.prog Tryd.f39.ntmps 0 (Tryd.f39.body.getD .skip) (entrySt [.val (.int .u8 s)]) (exitQ Tryd.prog Tryd.f39.results.toList [] ⟨.int .i64 (cntS s : Nat), none, none⟩)
def OkCountC0 : Prop := ∀ (s : Int), True → (0 ≤ s ∧ s ≤ 255) → inCountC0 s
def pfirstF : Con
  | [.val (.sl T .no)] => (some (isTolds T ∧ T.length ≤ 100, ⟨.tup [.agg (instL (firstV T)), .bool (firstB T)], none, none⟩))
  | _ => none
def gamPfirst : List (Nat × Con) := []
def lpPfirst0 (T : List AV) : Nat → Option LoopPlan := fun b => bif Nat.beq b 0 then some (.inv [] (loopFirst T)) else none
def inPfirst0 (T : List AV) : Prop := awp [] (lpPfirst0 T) (lookΓ gamPfirst) Tryd.prog Tryd.f128.ntmps 0 (Tryd.f128.body.getD .skip) (entrySt [.val (.sl T .no)]) (exitQ Tryd.prog Tryd.f128.results.toList [] ⟨.tup [.agg (instL (firstV T)), .bool (firstB T)], none, none⟩)
def OkPfirst0 : Prop := ∀ (T : List AV), isTolds T ∧ T.length ≤ 100 → inPfirst0 T
def pbestF : Con
  | [.val (.sl T .no), .val (.int .i64 st)] => (some (isTolds T ∧ T.length ≤ 100, ⟨.tup [.agg (instL (bestN T st T.length).2), .bool (bestN T st T.length).1], none, none⟩))
  | _ => none
def gamPbest : List (Nat × Con) := []
def lpPbest0 (T : List AV) (st : Int) : Nat → Option LoopPlan := fun b => bif Nat.beq b 0 then some (.inv [] (loopBest T st)) else none
def inPbest0 (T : List AV) (st : Int) : Prop := awp [] (lpPbest0 T st) (lookΓ gamPbest) Tryd.prog Tryd.f129.ntmps 0 (Tryd.f129.body.getD .skip) (entrySt [.val (.sl T .no), .val (.int .i64 st)]) (exitQ Tryd.prog Tryd.f129.results.toList [] ⟨.tup [.agg (instL (bestN T st T.length).2), .bool (bestN T st T.length).1], none, none⟩)
def OkPbest0 : Prop := ∀ (T : List AV) (st : Int), isTolds T ∧ T.length ≤ 100 → inPbest0 T st
def pswiftF : Con
  | [.val (.int .i64 n), .val (.agg [.int .i64 r, .int .i64 sl]), .val (.sl T .no)] => (some (isTolds T ∧ T.length ≤ 100 ∧ (∀ i, i < T.length → rdInt (elemAt T i) 0 ≠ r), ⟨.tup [.agg (instL (swN T T.length).2), .bool (decide (fN n ≤ ((swN T T.length).1 : Nat)))], none, none⟩))
  | _ => none
def gamPswift : List (Nat × Con) := [(85, crewFF.orNil)]
def lpPswift0 (n r sl : Int) (T : List AV) : Nat → Option LoopPlan := fun b => bif Nat.beq b 0 then some (.inv [] (loopSw n r sl T)) else none
def inPswift0 (n r sl : Int) (T : List AV) : Prop := awp [] (lpPswift0 n r sl T) (lookΓ gamPswift) Tryd.prog Tryd.f130.ntmps 0 (Tryd.f130.body.getD .skip) (entrySt [.val (.int .i64 n), .val (.agg [.int .i64 r, .int .i64 sl]), .val (.sl T .no)]) (exitQ Tryd.prog Tryd.f130.results.toList [] ⟨.tup [.agg (instL (swN T T.length).2), .bool (decide (fN n ≤ ((swN T T.length).1 : Nat)))], none, none⟩)
def OkPswift0 : Prop := ∀ (n r sl : Int) (T : List AV), isTolds T ∧ T.length ≤ 100 ∧ (∀ i, i < T.length → rdInt (elemAt T i) 0 ≠ r) → inPswift0 n r sl T
def pmergedF : Con
  | [.val (.sl T .no)] => (some (isTolds T ∧ T.length ≤ 100, ⟨.agg (attL (mergedP T T.length)), none, none⟩))
  | _ => none
def gamPmerged : List (Nat × Con) := [(83, attMergeF.orNil)]
def lpPmerged0 (T : List AV) : Nat → Option LoopPlan := fun b => bif Nat.beq b 0 then some (.inv [] (loopMer T)) else none
def inPmerged0 (T : List AV) : Prop := awp [] (lpPmerged0 T) (lookΓ gamPmerged) Tryd.prog Tryd.f131.ntmps 0 (Tryd.f131.body.getD .skip) (entrySt [.val (.sl T .no)]) (exitQ Tryd.prog Tryd.f131.results.toList [] ⟨.agg (attL (mergedP T T.length)), none, none⟩)
def OkPmerged0 : Prop := ∀ (T : List AV), isTolds T ∧ T.length ≤ 100 → inPmerged0 T
end Go.Proofs.YtcokifdgbfbonaaDoor
/- What the verification conditions come to: printed by a program of ours (wip/lax/ex/Norm.lean). -/
namespace Go.Proofs.YtcokifdgbfbonaaDoor
set_option linter.unusedVariables false
open Go.RowKit
set_option maxRecDepth 100000
theorem vcCrewRight0 (n : Int) (h : (tt ∧ T1 ∧ tt ∧ T1 ∧ T1 ∧ T1 ∧ (bif (decide ((3 : Int) ≤ n)) then (T1 ∧ T1 ∧ T1 ∧ T1 ∧ (bif (decide (n ≤ (7 : Int))) then (T1 ∧ (@Ne.{1} Int (2 : Int) (0 : Int)) ∧ T1 ∧ T1 ∧ T1 ∧ tt ∧ tt ∧ (((rightN n) = ((Int.tmod n (2 : Int)) == (1 : Int))) ∧ True) ∧ tt) else ((false = false) ∧ T1 ∧ tt ∧ tt ∧ (((rightN n) = false) ∧ True) ∧ tt))) else ((false = false) ∧ T1 ∧ (false = false) ∧ T1 ∧ tt ∧ tt ∧ (((rightN n) = false) ∧ True) ∧ tt)))) : inCrewRight0 n :=
  Eq.mp (show _ = _ by kernel_rfl) h
theorem vcCrewF0 (n : Int) (h : (tt ∧ T1 ∧ tt ∧ T1 ∧ (T1 ∧ True) ∧ T1 ∧ (bif (Bool.not (rightN n)) then (tt ∧ T1 ∧ tt ∧ tt ∧ (((fN n) = (0 : Int)) ∧ True) ∧ tt) else (tt ∧ T1 ∧ ((0 : Int) ≤ (1 : Int)) ∧ T1 ∧ tt ∧ tt ∧ (((fN n) = (Int.fdiv n (2 : Int))) ∧ True) ∧ tt)))) : inCrewF0 n :=
  Eq.mp (show _ = _ by kernel_rfl) h
theorem vcCrewMaj0 (n : Int) (h : (tt ∧ T1 ∧ tt ∧ T1 ∧ (T1 ∧ True) ∧ T1 ∧ (bif (Bool.not (rightN n)) then (tt ∧ T1 ∧ tt ∧ tt ∧ ((((fN n) + (1 : Int)) = (0 : Int)) ∧ True) ∧ tt) else (tt ∧ T1 ∧ (T1 ∧ True) ∧ (∀ (v0 : Int), (∀ (v1 : (v0 = (fN n))), (T1 ∧ T1 ∧ tt ∧ tt ∧ ((((fN n) + (1 : Int)) = (Go.IntKind.wrap Go.IntKind.i64 (v0 + (1 : Int)))) ∧ True) ∧ tt))))))) : inCrewMaj0 n :=
  Eq.mp (show _ = _ by kernel_rfl) h
theorem vcCrewFast0 (n : Int) (h : (tt ∧ T1 ∧ tt ∧ T1 ∧ (T1 ∧ True) ∧ (∀ (v0 : Int), (∀ (v1 : (v0 = (fN n))), (((0 : Int) ≤ (1 : Int)) ∧ T1 ∧ tt ∧ tt ∧ ((((2 : Int) * (fN n)) = (Go.IntKind.wrap Go.IntKind.i64 (v0 * (2 : Int)))) ∧ True) ∧ tt))))) : inCrewFast0 n :=
  Eq.mp (show _ = _ by kernel_rfl) h
theorem vcBit0 (r : Int) (h : (tt ∧ T1 ∧ tt ∧ T1 ∧ T1 ∧ T1 ∧ (bif (decide (r < (0 : Int))) then (tt ∧ tt ∧ T1 ∧ tt ∧ tt ∧ (((bitV r) = (0 : Int)) ∧ True) ∧ tt) else (T1 ∧ T1 ∧ T1 ∧ (bif (decide ((7 : Int) ≤ r)) then (tt ∧ T1 ∧ tt ∧ tt ∧ (((bitV r) = (0 : Int)) ∧ True) ∧ tt) else (tt ∧ T1 ∧ T1 ∧ ((0 : Int) ≤ (Go.IntKind.wrap Go.IntKind.u64 r)) ∧ T1 ∧ tt ∧ tt ∧ (((bitV r) = (Go.IntKind.wrap Go.IntKind.u8 ((1 : Int) * (@HPow.hPow.{0, 0, 0} Int Nat Int (@instHPow.{0, 0} Int Nat (@instPowNat.{0} Int Int.instNatPow)) (2 : Int) (@Min.min.{0} Nat instMinNat (Int.toNat (Go.IntKind.wrap Go.IntKind.u64 r)) 8))))) ∧ True) ∧ tt)))))) : inBit0 r :=
  Eq.mp (show _ = _ by kernel_rfl) h
theorem vcHasC0 (s : Int) (r : Int) (h : (tt ∧ T1 ∧ tt ∧ T1 ∧ T1 ∧ (T1 ∧ True) ∧ (∀ (v0 : Int), (∀ (v1 : (v0 = (bitV r))), (T1 ∧ T1 ∧ T1 ∧ tt ∧ tt ∧ (((hasS s r) = ((intBits Go.BinOp.and Go.IntKind.u8 s v0) != (0 : Int))) ∧ True) ∧ tt))))) : inHasC0 s r :=
  Eq.mp (show _ = _ by kernel_rfl) h
theorem vcWithC0 (s : Int) (r : Int) (h : (tt ∧ T1 ∧ tt ∧ T1 ∧ T1 ∧ (T1 ∧ True) ∧ (∀ (v0 : Int), (∀ (v1 : (v0 = (bitV r))), (T1 ∧ T1 ∧ tt ∧ tt ∧ (((withS s r) = (intBits Go.BinOp.or Go.IntKind.u8 s v0)) ∧ True) ∧ tt))))) : inWithC0 s r :=
  Eq.mp (show _ = _ by kernel_rfl) h
theorem vcWithoutC0 (s : Int) (r : Int) (h : (tt ∧ T1 ∧ tt ∧ T1 ∧ T1 ∧ (T1 ∧ True) ∧ (∀ (v0 : Int), (∀ (v1 : (v0 = (bitV r))), (T1 ∧ T1 ∧ tt ∧ tt ∧ (((withoutS s r) = (intBits Go.BinOp.andNot Go.IntKind.u8 s v0)) ∧ True) ∧ tt))))) : inWithoutC0 s r :=
  Eq.mp (show _ = _ by kernel_rfl) h
theorem vcMeetC0 (s : Int) (o : Int) (h : (tt ∧ T1 ∧ tt ∧ T1 ∧ T1 ∧ T1 ∧ T1 ∧ T1 ∧ tt ∧ tt ∧ (((meetS s o) = (intBits Go.BinOp.and Go.IntKind.u8 (intBits Go.BinOp.and Go.IntKind.u8 s o) (127 : Int))) ∧ True) ∧ tt)) : inMeetC0 s o :=
  Eq.mp (show _ = _ by kernel_rfl) h
theorem vcAllC0 (n : Int) (h : (tt ∧ T1 ∧ tt ∧ T1 ∧ T1 ∧ T1 ∧ T1 ∧ tt ∧ T1 ∧ T1 ∧ ((0 : Int) ≤ (Go.IntKind.wrap Go.IntKind.u64 (@ite.{1} Int ((7 : Int) < (@ite.{1} Int (n < (0 : Int)) (Int.decLt n (0 : Int)) (0 : Int) n)) (Int.decLt (7 : Int) (@ite.{1} Int (n < (0 : Int)) (Int.decLt n (0 : Int)) (0 : Int) n)) (7 : Int) (@ite.{1} Int (n < (0 : Int)) (Int.decLt n (0 : Int)) (0 : Int) n)))) ∧ T1 ∧ T1 ∧ tt ∧ tt ∧ (((allS n) = (Go.IntKind.wrap Go.IntKind.u8 ((Go.IntKind.wrap Go.IntKind.u8 ((1 : Int) * (@HPow.hPow.{0, 0, 0} Int Nat Int (@instHPow.{0, 0} Int Nat (@instPowNat.{0} Int Int.instNatPow)) (2 : Int) (@Min.min.{0} Nat instMinNat (Int.toNat (Go.IntKind.wrap Go.IntKind.u64 (@ite.{1} Int ((7 : Int) < (@ite.{1} Int (n < (0 : Int)) (Int.decLt n (0 : Int)) (0 : Int) n)) (Int.decLt (7 : Int) (@ite.{1} Int (n < (0 : Int)) (Int.decLt n (0 : Int)) (0 : Int) n)) (7 : Int) (@ite.{1} Int (n < (0 : Int)) (Int.decLt n (0 : Int)) (0 : Int) n)))) 8)))) - (1 : Int)))) ∧ True) ∧ tt)) : inAllC0 n :=
  Eq.mp (show _ = _ by kernel_rfl) h
theorem vcOnes0 (s : Int) (h : (tt ∧ T1 ∧ tt ∧ T1 ∧ (((0 : Int) ≤ s) ∧ (s < (256 : Int))) ∧ T1 ∧ T1 ∧ tt ∧ tt ∧ (((@Nat.cast Int _ (cntS s)) = (Go.IntKind.wrap Go.IntKind.i64 (@Nat.cast Int _ (UInt8.toNat (@List.getD.{0} UInt8 [(0 : UInt8), (1 : UInt8), (1 : UInt8), (2 : UInt8), (1 : UInt8), (2 : UInt8), (2 : UInt8), (3 : UInt8), (1 : UInt8), (2 : UInt8), (2 : UInt8), (3 : UInt8), (2 : UInt8), (3 : UInt8), (3 : UInt8), (4 : UInt8), (1 : UInt8), (2 : UInt8), (2 : UInt8), (3 : UInt8), (2 : UInt8), (3 : UInt8), (3 : UInt8), (4 : UInt8), (2 : UInt8), (3 : UInt8), (3 : UInt8), (4 : UInt8), (3 : UInt8), (4 : UInt8), (4 : UInt8), (5 : UInt8), (1 : UInt8), (2 : UInt8), (2 : UInt8), (3 : UInt8), (2 : UInt8), (3 : UInt8), (3 : UInt8), (4 : UInt8), (2 : UInt8), (3 : UInt8), (3 : UInt8), (4 : UInt8), (3 : UInt8), (4 : UInt8), (4 : UInt8), (5 : UInt8), (2 : UInt8), (3 : UInt8), (3 : UInt8), (4 : UInt8), (3 : UInt8), (4 : UInt8), (4 : UInt8), (5 : UInt8), (3 : UInt8), (4 : UInt8), (4 : UInt8), (5 : UInt8), (4 : UInt8), (5 : UInt8), (5 : UInt8), (6 : UInt8), (1 : UInt8), (2 : UInt8), (2 : UInt8), (3 : UInt8), (2 : UInt8), (3 : UInt8), (3 : UInt8), (4 : UInt8), (2 : UInt8), (3 : UInt8), (3 : UInt8), (4 : UInt8), (3 : UInt8), (4 : UInt8), (4 : UInt8), (5 : UInt8), (2 : UInt8), (3 : UInt8), (3 : UInt8), (4 : UInt8), (3 : UInt8), (4 : UInt8), (4 : UInt8), (5 : UInt8), (3 : UInt8), (4 : UInt8), (4 : UInt8), (5 : UInt8), (4 : UInt8), (5 : UInt8), (5 : UInt8), (6 : UInt8), (2 : UInt8), (3 : UInt8), (3 : UInt8), (4 : UInt8), (3 : UInt8), (4 : UInt8), (4 : UInt8), (5 : UInt8), (3 : UInt8), (4 : UInt8), (4 : UInt8), (5 : UInt8), (4 : UInt8), (5 : UInt8), (5 : UInt8), (6 : UInt8), (3 : UInt8), (4 : UInt8), (4 : UInt8), (5 : UInt8), (4 : UInt8), (5 : UInt8), (5 : UInt8), (6 : UInt8), (4 : UInt8), (5 : UInt8), (5 : UInt8), (6 : UInt8), (5 : UInt8), (6 : UInt8), (6 : UInt8), (7 : UInt8), (1 : UInt8), (2 : UInt8), (2 : UInt8), (3 : UInt8), (2 : UInt8), (3 : UInt8), (3 : UInt8), (4 : UInt8), (2 : UInt8), (3 : UInt8), (3 : UInt8), (4 : UInt8), (3 : UInt8), (4 : UInt8), (4 : UInt8), (5 : UInt8), (2 : UInt8), (3 : UInt8), (3 : UInt8), (4 : UInt8), (3 : UInt8), (4 : UInt8), (4 : UInt8), (5 : UInt8), (3 : UInt8), (4 : UInt8), (4 : UInt8), (5 : UInt8), (4 : UInt8), (5 : UInt8), (5 : UInt8), (6 : UInt8), (2 : UInt8), (3 : UInt8), (3 : UInt8), (4 : UInt8), (3 : UInt8), (4 : UInt8), (4 : UInt8), (5 : UInt8), (3 : UInt8), (4 : UInt8), (4 : UInt8), (5 : UInt8), (4 : UInt8), (5 : UInt8), (5 : UInt8), (6 : UInt8), (3 : UInt8), (4 : UInt8), (4 : UInt8), (5 : UInt8), (4 : UInt8), (5 : UInt8), (5 : UInt8), (6 : UInt8), (4 : UInt8), (5 : UInt8), (5 : UInt8), (6 : UInt8), (5 : UInt8), (6 : UInt8), (6 : UInt8), (7 : UInt8), (2 : UInt8), (3 : UInt8), (3 : UInt8), (4 : UInt8), (3 : UInt8), (4 : UInt8), (4 : UInt8), (5 : UInt8), (3 : UInt8), (4 : UInt8), (4 : UInt8), (5 : UInt8), (4 : UInt8), (5 : UInt8), (5 : UInt8), (6 : UInt8), (3 : UInt8), (4 : UInt8), (4 : UInt8), (5 : UInt8), (4 : UInt8), (5 : UInt8), (5 : UInt8), (6 : UInt8), (4 : UInt8), (5 : UInt8), (5 : UInt8), (6 : UInt8), (5 : UInt8), (6 : UInt8), (6 : UInt8), (7 : UInt8), (3 : UInt8), (4 : UInt8), (4 : UInt8), (5 : UInt8), (4 : UInt8), (5 : UInt8), (5 : UInt8), (6 : UInt8), (4 : UInt8), (5 : UInt8), (5 : UInt8), (6 : UInt8), (5 : UInt8), (6 : UInt8), (6 : UInt8), (7 : UInt8), (4 : UInt8), (5 : UInt8), (5 : UInt8), (6 : UInt8), (5 : UInt8), (6 : UInt8), (6 : UInt8), (7 : UInt8), (5 : UInt8), (6 : UInt8), (6 : UInt8), (7 : UInt8), (6 : UInt8), (7 : UInt8), (7 : UInt8), (8 : UInt8)] (Int.toNat s) (0 : UInt8)))))) ∧ True) ∧ tt)) : inOnes0 s :=
  Eq.mp (show _ = _ by kernel_rfl) h
theorem vcCountC0 (s : Int) (h : (tt ∧ T1 ∧ tt ∧ T1 ∧ T1 ∧ (T1 ∧ ((intBits Go.BinOp.and Go.IntKind.u8 s (127 : Int)) < (128 : Int))) ∧ (∀ (v0 : Int), (∀ (v1 : (v0 = (@Nat.cast Int _ (cntS (intBits Go.BinOp.and Go.IntKind.u8 s (127 : Int)))))), (T1 ∧ tt ∧ tt ∧ (((@Nat.cast Int _ (cntS s)) = v0) ∧ True) ∧ tt))))) : inCountC0 s :=
  Eq.mp (show _ = _ by kernel_rfl) h
theorem vcPfirst0 (T : (@List.{0} AV)) (h : (tt ∧ T1 ∧ T1 ∧ tt ∧ T1 ∧ T1 ∧ T1 ∧ (@Exists.{1} (LoopInv.V (loopFirst T)) (fun (v0 : Nat) => (((((AV.ptr 2 0) = (AV.ptr 2 0)) ∧ ((AV.sl T Own.no) = (AV.sl T Own.no)) ∧ ((AV.int Go.IntKind.i64 (@Nat.cast Int _ (List.length T))) = (AV.int Go.IntKind.i64 (@Nat.cast Int _ (List.length T)))) ∧ ((AV.int Go.IntKind.i64 (0 : Int)) = (AV.int Go.IntKind.i64 (@Nat.cast Int _ v0))) ∧ True) ∧ (((@Option.some.{0} (@List.{0} AV) [(AV.int Go.IntKind.i64 (0 : Int)), (AV.int Go.IntKind.i64 (0 : Int)), (AV.int Go.IntKind.i64 (0 : Int)), (AV.int Go.IntKind.u32 (0 : Int)), (AV.int Go.IntKind.u32 (0 : Int)), (AV.bool false), (AV.int Go.IntKind.i64 (0 : Int)), (AV.int Go.IntKind.u64 (0 : Int)), (AV.str (@List.nil.{0} UInt8)), (AV.int Go.IntKind.u64 (0 : Int)), (AV.str (@List.nil.{0} UInt8)), (AV.int Go.IntKind.i64 (0 : Int)), (AV.int Go.IntKind.u64 (0 : Int)), (AV.int Go.IntKind.i64 (0 : Int)), (AV.int Go.IntKind.i64 (0 : Int)), (AV.int Go.IntKind.i64 (0 : Int)), (AV.int Go.IntKind.i64 (0 : Int)), (AV.int Go.IntKind.i64 (0 : Int)), (AV.int Go.IntKind.i64 (0 : Int)), (AV.int Go.IntKind.i64 (0 : Int)), (AV.int Go.IntKind.i64 (0 : Int)), (AV.int Go.IntKind.i64 (0 : Int))]) = (@Option.some.{0} (@List.{0} AV) [(AV.int Go.IntKind.i64 (0 : Int)), (AV.int Go.IntKind.i64 (0 : Int)), (AV.int Go.IntKind.i64 (0 : Int)), (AV.int Go.IntKind.u32 (0 : Int)), (AV.int Go.IntKind.u32 (0 : Int)), (AV.bool false), (AV.int Go.IntKind.i64 (0 : Int)), (AV.int Go.IntKind.u64 (0 : Int)), (AV.str (@List.nil.{0} UInt8)), (AV.int Go.IntKind.u64 (0 : Int)), (AV.str (@List.nil.{0} UInt8)), (AV.int Go.IntKind.i64 (0 : Int)), (AV.int Go.IntKind.u64 (0 : Int)), (AV.int Go.IntKind.i64 (0 : Int)), (AV.int Go.IntKind.i64 (0 : Int)), (AV.int Go.IntKind.i64 (0 : Int)), (AV.int Go.IntKind.i64 (0 : Int)), (AV.int Go.IntKind.i64 (0 : Int)), (AV.int Go.IntKind.i64 (0 : Int)), (AV.int Go.IntKind.i64 (0 : Int)), (AV.int Go.IntKind.i64 (0 : Int)), (AV.int Go.IntKind.i64 (0 : Int))])) ∧ True) ∧ T1 ∧ tt ∧ tt) ∧ (v0 ≤ (List.length T)) ∧ (∀ (v1 : Nat), (∀ (v2 : (v1 < v0)), (@Ne.{1} Int (rdInt (elemAt T v1) 3) (3 : Int))))))) ∧ (∀ (v0 : Nat), (∀ (v1 : ((v0 ≤ (List.length T)) ∧ (∀ (v1 : Nat), (∀ (v2 : (v1 < v0)), (@Ne.{1} Int (rdInt (elemAt T v1) 3) (3 : Int)))))), (tt ∧ T1 ∧ (bif (decide ((@Nat.cast Int _ v0) < (@Nat.cast Int _ (List.length T)))) then (tt ∧ (((0 : Int) ≤ (@Nat.cast Int _ v0)) ∧ ((@Nat.cast Int _ v0) < (@Nat.cast Int _ (List.length T))) ∧ (okElem 23 T (Int.toNat (@Nat.cast Int _ v0)))) ∧ (okRead [(Kd.int Go.IntKind.i64), (Kd.int Go.IntKind.i64), (Kd.int Go.IntKind.i64), (Kd.int Go.IntKind.i64), (Kd.int Go.IntKind.u32), (Kd.int Go.IntKind.u32), Kd.bool, (Kd.int Go.IntKind.i64), (Kd.int Go.IntKind.u64), Kd.str, (Kd.int Go.IntKind.u64), Kd.str, (Kd.int Go.IntKind.i64), (Kd.int Go.IntKind.u64), (Kd.int Go.IntKind.i64), (Kd.int Go.IntKind.i64), (Kd.int Go.IntKind.i64), (Kd.int Go.IntKind.i64), (Kd.int Go.IntKind.i64), (Kd.int Go.IntKind.i64), (Kd.int Go.IntKind.i64), (Kd.int Go.IntKind.i64), (Kd.int Go.IntKind.i64)] (elemAt T (Int.toNat (@Nat.cast Int _ v0))) 0) ∧ T1 ∧ tt ∧ tt ∧ T1 ∧ T1 ∧ tt ∧ T1 ∧ (bif ((rdInt (elemAt T (Int.toNat (@Nat.cast Int _ v0))) 3) == (3 : Int)) then (tt ∧ T1 ∧ tt ∧ tt ∧ T1 ∧ tt ∧ tt ∧ (((InstP.r (firstV T)) = (rdInt (elemAt T (Int.toNat (@Nat.cast Int _ v0))) 1)) ∧ ((InstP.sl (firstV T)) = (rdInt (elemAt T (Int.toNat (@Nat.cast Int _ v0))) 2)) ∧ ((InstP.st (firstV T)) = (rdInt (elemAt T (Int.toNat (@Nat.cast Int _ v0))) 3)) ∧ ((InstP.bal (firstV T)) = (rdInt (elemAt T (Int.toNat (@Nat.cast Int _ v0))) 4)) ∧ ((InstP.vote (firstV T)) = (rdInt (elemAt T (Int.toNat (@Nat.cast Int _ v0))) 5)) ∧ ((InstP.same (firstV T)) = (rdBool (elemAt T (Int.toNat (@Nat.cast Int _ v0))) 6)) ∧ ((CmdP.k (InstP.c (firstV T))) = (rdInt (elemAt T (Int.toNat (@Nat.cast Int _ v0))) 7)) ∧ ((CmdP.num (InstP.c (firstV T))) = (rdInt (elemAt T (Int.toNat (@Nat.cast Int _ v0))) 8)) ∧ ((CmdP.foot (InstP.c (firstV T))) = (rdStr (elemAt T (Int.toNat (@Nat.cast Int _ v0))) 9)) ∧ ((CmdP.rq (InstP.c (firstV T))) = (rdInt (elemAt T (Int.toNat (@Nat.cast Int _ v0))) 10)) ∧ ((CmdP.path (InstP.c (firstV T))) = (rdStr (elemAt T (Int.toNat (@Nat.cast Int _ v0))) 11)) ∧ ((CmdP.mode (InstP.c (firstV T))) = (rdInt (elemAt T (Int.toNat (@Nat.cast Int _ v0))) 12)) ∧ ((CmdP.n (InstP.c (firstV T))) = (rdInt (elemAt T (Int.toNat (@Nat.cast Int _ v0))) 13)) ∧ ((CmdP.time (InstP.c (firstV T))) = (rdInt (elemAt T (Int.toNat (@Nat.cast Int _ v0))) 14)) ∧ ((AttP.s (InstP.a (firstV T))) = (rdInt (elemAt T (Int.toNat (@Nat.cast Int _ v0))) 15)) ∧ ((AttP.d0 (InstP.a (firstV T))) = (rdInt (elemAt T (Int.toNat (@Nat.cast Int _ v0))) 16)) ∧ ((AttP.d1 (InstP.a (firstV T))) = (rdInt (elemAt T (Int.toNat (@Nat.cast Int _ v0))) 17)) ∧ ((AttP.d2 (InstP.a (firstV T))) = (rdInt (elemAt T (Int.toNat (@Nat.cast Int _ v0))) 18)) ∧ ((AttP.d3 (InstP.a (firstV T))) = (rdInt (elemAt T (Int.toNat (@Nat.cast Int _ v0))) 19)) ∧ ((AttP.d4 (InstP.a (firstV T))) = (rdInt (elemAt T (Int.toNat (@Nat.cast Int _ v0))) 20)) ∧ ((AttP.d5 (InstP.a (firstV T))) = (rdInt (elemAt T (Int.toNat (@Nat.cast Int _ v0))) 21)) ∧ ((AttP.d6 (InstP.a (firstV T))) = (rdInt (elemAt T (Int.toNat (@Nat.cast Int _ v0))) 22)) ∧ ((firstB T) = true) ∧ True) ∧ tt) else (tt ∧ T1 ∧ T1 ∧ (@Exists.{1} (LoopInv.V (loopFirst T)) (fun (v2 : Nat) => (((((AV.ptr 2 0) = (AV.ptr 2 0)) ∧ ((AV.sl T Own.no) = (AV.sl T Own.no)) ∧ ((AV.int Go.IntKind.i64 (@Nat.cast Int _ (List.length T))) = (AV.int Go.IntKind.i64 (@Nat.cast Int _ (List.length T)))) ∧ ((AV.int Go.IntKind.i64 (Go.IntKind.wrap Go.IntKind.i64 ((@Nat.cast Int _ v0) + (1 : Int)))) = (AV.int Go.IntKind.i64 (@Nat.cast Int _ v2))) ∧ True) ∧ (((@Option.some.{0} (@List.{0} AV) [(AV.int Go.IntKind.i64 (0 : Int)), (AV.int Go.IntKind.i64 (0 : Int)), (AV.int Go.IntKind.i64 (0 : Int)), (AV.int Go.IntKind.u32 (0 : Int)), (AV.int Go.IntKind.u32 (0 : Int)), (AV.bool false), (AV.int Go.IntKind.i64 (0 : Int)), (AV.int Go.IntKind.u64 (0 : Int)), (AV.str (@List.nil.{0} UInt8)), (AV.int Go.IntKind.u64 (0 : Int)), (AV.str (@List.nil.{0} UInt8)), (AV.int Go.IntKind.i64 (0 : Int)), (AV.int Go.IntKind.u64 (0 : Int)), (AV.int Go.IntKind.i64 (0 : Int)), (AV.int Go.IntKind.i64 (0 : Int)), (AV.int Go.IntKind.i64 (0 : Int)), (AV.int Go.IntKind.i64 (0 : Int)), (AV.int Go.IntKind.i64 (0 : Int)), (AV.int Go.IntKind.i64 (0 : Int)), (AV.int Go.IntKind.i64 (0 : Int)), (AV.int Go.IntKind.i64 (0 : Int)), (AV.int Go.IntKind.i64 (0 : Int))]) = (@Option.some.{0} (@List.{0} AV) [(AV.int Go.IntKind.i64 (0 : Int)), (AV.int Go.IntKind.i64 (0 : Int)), (AV.int Go.IntKind.i64 (0 : Int)), (AV.int Go.IntKind.u32 (0 : Int)), (AV.int Go.IntKind.u32 (0 : Int)), (AV.bool false), (AV.int Go.IntKind.i64 (0 : Int)), (AV.int Go.IntKind.u64 (0 : Int)), (AV.str (@List.nil.{0} UInt8)), (AV.int Go.IntKind.u64 (0 : Int)), (AV.str (@List.nil.{0} UInt8)), (AV.int Go.IntKind.i64 (0 : Int)), (AV.int Go.IntKind.u64 (0 : Int)), (AV.int Go.IntKind.i64 (0 : Int)), (AV.int Go.IntKind.i64 (0 : Int)), (AV.int Go.IntKind.i64 (0 : Int)), (AV.int Go.IntKind.i64 (0 : Int)), (AV.int Go.IntKind.i64 (0 : Int)), (AV.int Go.IntKind.i64 (0 : Int)), (AV.int Go.IntKind.i64 (0 : Int)), (AV.int Go.IntKind.i64 (0 : Int)), (AV.int Go.IntKind.i64 (0 : Int))])) ∧ True) ∧ T1 ∧ tt ∧ tt) ∧ ((v2 ≤ (List.length T)) ∧ (∀ (v3 : Nat), (∀ (v4 : (v3 < v2)), (@Ne.{1} Int (rdInt (elemAt T v3) 3) (3 : Int))))) ∧ (((List.length T) - v2) < ((List.length T) - v0)))))))) else (tt ∧ T1 ∧ tt ∧ T1 ∧ tt ∧ tt ∧ (((InstP.r (firstV T)) = (0 : Int)) ∧ ((InstP.sl (firstV T)) = (0 : Int)) ∧ ((InstP.st (firstV T)) = (0 : Int)) ∧ ((InstP.bal (firstV T)) = (0 : Int)) ∧ ((InstP.vote (firstV T)) = (0 : Int)) ∧ ((InstP.same (firstV T)) = false) ∧ ((CmdP.k (InstP.c (firstV T))) = (0 : Int)) ∧ ((CmdP.num (InstP.c (firstV T))) = (0 : Int)) ∧ ((CmdP.foot (InstP.c (firstV T))) = (@List.nil.{0} UInt8)) ∧ ((CmdP.rq (InstP.c (firstV T))) = (0 : Int)) ∧ ((CmdP.path (InstP.c (firstV T))) = (@List.nil.{0} UInt8)) ∧ ((CmdP.mode (InstP.c (firstV T))) = (0 : Int)) ∧ ((CmdP.n (InstP.c (firstV T))) = (0 : Int)) ∧ ((CmdP.time (InstP.c (firstV T))) = (0 : Int)) ∧ ((AttP.s (InstP.a (firstV T))) = (0 : Int)) ∧ ((AttP.d0 (InstP.a (firstV T))) = (0 : Int)) ∧ ((AttP.d1 (InstP.a (firstV T))) = (0 : Int)) ∧ ((AttP.d2 (InstP.a (firstV T))) = (0 : Int)) ∧ ((AttP.d3 (InstP.a (firstV T))) = (0 : Int)) ∧ ((AttP.d4 (InstP.a (firstV T))) = (0 : Int)) ∧ ((AttP.d5 (InstP.a (firstV T))) = (0 : Int)) ∧ ((AttP.d6 (InstP.a (firstV T))) = (0 : Int)) ∧ ((firstB T) = false) ∧ True) ∧ tt))))))) : inPfirst0 T :=
  Eq.mp (show _ = _ by kernel_rfl) h
theorem vcPbest0 (T : (@List.{0} AV)) (st : Int) (h : (tt ∧ T1 ∧ T1 ∧ tt ∧ T1 ∧ tt ∧ T1 ∧ tt ∧ T1 ∧ T1 ∧ T1 ∧ (@Exists.{1} (LoopInv.V (loopBest T st)) (fun (v0 : Nat) => (((((AV.int Go.IntKind.i64 st) = (AV.int Go.IntKind.i64 st)) ∧ ((AV.ptr 4 0) = (AV.ptr 4 0)) ∧ ((AV.ptr 6 0) = (AV.ptr 6 0)) ∧ ((AV.bool false) = (AV.bool (@Prod.fst.{0, 0} Bool InstP (bestN T st v0)))) ∧ ((AV.sl T Own.no) = (AV.sl T Own.no)) ∧ ((AV.int Go.IntKind.i64 (@Nat.cast Int _ (List.length T))) = (AV.int Go.IntKind.i64 (@Nat.cast Int _ (List.length T)))) ∧ ((AV.int Go.IntKind.i64 (0 : Int)) = (AV.int Go.IntKind.i64 (@Nat.cast Int _ v0))) ∧ True) ∧ (((@Option.some.{0} (@List.{0} AV) [(AV.int Go.IntKind.i64 (0 : Int)), (AV.int Go.IntKind.i64 (0 : Int)), (AV.int Go.IntKind.i64 (0 : Int)), (AV.int Go.IntKind.u32 (0 : Int)), (AV.int Go.IntKind.u32 (0 : Int)), (AV.bool false), (AV.int Go.IntKind.i64 (0 : Int)), (AV.int Go.IntKind.u64 (0 : Int)), (AV.str (@List.nil.{0} UInt8)), (AV.int Go.IntKind.u64 (0 : Int)), (AV.str (@List.nil.{0} UInt8)), (AV.int Go.IntKind.i64 (0 : Int)), (AV.int Go.IntKind.u64 (0 : Int)), (AV.int Go.IntKind.i64 (0 : Int)), (AV.int Go.IntKind.i64 (0 : Int)), (AV.int Go.IntKind.i64 (0 : Int)), (AV.int Go.IntKind.i64 (0 : Int)), (AV.int Go.IntKind.i64 (0 : Int)), (AV.int Go.IntKind.i64 (0 : Int)), (AV.int Go.IntKind.i64 (0 : Int)), (AV.int Go.IntKind.i64 (0 : Int)), (AV.int Go.IntKind.i64 (0 : Int))]) = (@Option.some.{0} (@List.{0} AV) [(AV.int Go.IntKind.i64 (0 : Int)), (AV.int Go.IntKind.i64 (0 : Int)), (AV.int Go.IntKind.i64 (0 : Int)), (AV.int Go.IntKind.u32 (0 : Int)), (AV.int Go.IntKind.u32 (0 : Int)), (AV.bool false), (AV.int Go.IntKind.i64 (0 : Int)), (AV.int Go.IntKind.u64 (0 : Int)), (AV.str (@List.nil.{0} UInt8)), (AV.int Go.IntKind.u64 (0 : Int)), (AV.str (@List.nil.{0} UInt8)), (AV.int Go.IntKind.i64 (0 : Int)), (AV.int Go.IntKind.u64 (0 : Int)), (AV.int Go.IntKind.i64 (0 : Int)), (AV.int Go.IntKind.i64 (0 : Int)), (AV.int Go.IntKind.i64 (0 : Int)), (AV.int Go.IntKind.i64 (0 : Int)), (AV.int Go.IntKind.i64 (0 : Int)), (AV.int Go.IntKind.i64 (0 : Int)), (AV.int Go.IntKind.i64 (0 : Int)), (AV.int Go.IntKind.i64 (0 : Int)), (AV.int Go.IntKind.i64 (0 : Int))])) ∧ ((@Option.some.{0} (@List.{0} AV) [(AV.int Go.IntKind.i64 (0 : Int)), (AV.int Go.IntKind.i64 (0 : Int)), (AV.int Go.IntKind.i64 (0 : Int)), (AV.int Go.IntKind.u32 (0 : Int)), (AV.int Go.IntKind.u32 (0 : Int)), (AV.bool false), (AV.int Go.IntKind.i64 (0 : Int)), (AV.int Go.IntKind.u64 (0 : Int)), (AV.str (@List.nil.{0} UInt8)), (AV.int Go.IntKind.u64 (0 : Int)), (AV.str (@List.nil.{0} UInt8)), (AV.int Go.IntKind.i64 (0 : Int)), (AV.int Go.IntKind.u64 (0 : Int)), (AV.int Go.IntKind.i64 (0 : Int)), (AV.int Go.IntKind.i64 (0 : Int)), (AV.int Go.IntKind.i64 (0 : Int)), (AV.int Go.IntKind.i64 (0 : Int)), (AV.int Go.IntKind.i64 (0 : Int)), (AV.int Go.IntKind.i64 (0 : Int)), (AV.int Go.IntKind.i64 (0 : Int)), (AV.int Go.IntKind.i64 (0 : Int)), (AV.int Go.IntKind.i64 (0 : Int))]) = (@Option.some.{0} (@List.{0} AV) [(AV.int Go.IntKind.i64 (InstP.r (@Prod.snd.{0, 0} Bool InstP (bestN T st v0)))), (AV.int Go.IntKind.i64 (InstP.sl (@Prod.snd.{0, 0} Bool InstP (bestN T st v0)))), (AV.int Go.IntKind.i64 (InstP.st (@Prod.snd.{0, 0} Bool InstP (bestN T st v0)))), (AV.int Go.IntKind.u32 (InstP.bal (@Prod.snd.{0, 0} Bool InstP (bestN T st v0)))), (AV.int Go.IntKind.u32 (InstP.vote (@Prod.snd.{0, 0} Bool InstP (bestN T st v0)))), (AV.bool (InstP.same (@Prod.snd.{0, 0} Bool InstP (bestN T st v0)))), (AV.int Go.IntKind.i64 (CmdP.k (InstP.c (@Prod.snd.{0, 0} Bool InstP (bestN T st v0))))), (AV.int Go.IntKind.u64 (CmdP.num (InstP.c (@Prod.snd.{0, 0} Bool InstP (bestN T st v0))))), (AV.str (CmdP.foot (InstP.c (@Prod.snd.{0, 0} Bool InstP (bestN T st v0))))), (AV.int Go.IntKind.u64 (CmdP.rq (InstP.c (@Prod.snd.{0, 0} Bool InstP (bestN T st v0))))), (AV.str (CmdP.path (InstP.c (@Prod.snd.{0, 0} Bool InstP (bestN T st v0))))), (AV.int Go.IntKind.i64 (CmdP.mode (InstP.c (@Prod.snd.{0, 0} Bool InstP (bestN T st v0))))), (AV.int Go.IntKind.u64 (CmdP.n (InstP.c (@Prod.snd.{0, 0} Bool InstP (bestN T st v0))))), (AV.int Go.IntKind.i64 (CmdP.time (InstP.c (@Prod.snd.{0, 0} Bool InstP (bestN T st v0))))), (AV.int Go.IntKind.i64 (AttP.s (InstP.a (@Prod.snd.{0, 0} Bool InstP (bestN T st v0))))), (AV.int Go.IntKind.i64 (AttP.d0 (InstP.a (@Prod.snd.{0, 0} Bool InstP (bestN T st v0))))), (AV.int Go.IntKind.i64 (AttP.d1 (InstP.a (@Prod.snd.{0, 0} Bool InstP (bestN T st v0))))), (AV.int Go.IntKind.i64 (AttP.d2 (InstP.a (@Prod.snd.{0, 0} Bool InstP (bestN T st v0))))), (AV.int Go.IntKind.i64 (AttP.d3 (InstP.a (@Prod.snd.{0, 0} Bool InstP (bestN T st v0))))), (AV.int Go.IntKind.i64 (AttP.d4 (InstP.a (@Prod.snd.{0, 0} Bool InstP (bestN T st v0))))), (AV.int Go.IntKind.i64 (AttP.d5 (InstP.a (@Prod.snd.{0, 0} Bool InstP (bestN T st v0))))), (AV.int Go.IntKind.i64 (AttP.d6 (InstP.a (@Prod.snd.{0, 0} Bool InstP (bestN T st v0)))))])) ∧ True) ∧ T1 ∧ tt ∧ tt) ∧ (v0 ≤ (List.length T))))) ∧ (∀ (v0 : Nat), (∀ (v1 : (v0 ≤ (List.length T))), (tt ∧ T1 ∧ (bif (decide ((@Nat.cast Int _ v0) < (@Nat.cast Int _ (List.length T)))) then (tt ∧ (((0 : Int) ≤ (@Nat.cast Int _ v0)) ∧ ((@Nat.cast Int _ v0) < (@Nat.cast Int _ (List.length T))) ∧ (okElem 23 T (Int.toNat (@Nat.cast Int _ v0)))) ∧ (okRead [(Kd.int Go.IntKind.i64), (Kd.int Go.IntKind.i64), (Kd.int Go.IntKind.i64), (Kd.int Go.IntKind.i64), (Kd.int Go.IntKind.u32), (Kd.int Go.IntKind.u32), Kd.bool, (Kd.int Go.IntKind.i64), (Kd.int Go.IntKind.u64), Kd.str, (Kd.int Go.IntKind.u64), Kd.str, (Kd.int Go.IntKind.i64), (Kd.int Go.IntKind.u64), (Kd.int Go.IntKind.i64), (Kd.int Go.IntKind.i64), (Kd.int Go.IntKind.i64), (Kd.int Go.IntKind.i64), (Kd.int Go.IntKind.i64), (Kd.int Go.IntKind.i64), (Kd.int Go.IntKind.i64), (Kd.int Go.IntKind.i64), (Kd.int Go.IntKind.i64)] (elemAt T (Int.toNat (@Nat.cast Int _ v0))) 0) ∧ T1 ∧ tt ∧ tt ∧ T1 ∧ tt ∧ T1 ∧ tt ∧ tt ∧ T1 ∧ tt ∧ T1 ∧ T1 ∧ T1 ∧ (bif ((rdInt (elemAt T (Int.toNat (@Nat.cast Int _ v0))) 3) == st) then (T1 ∧ T1 ∧ T1 ∧ (bif (Bool.not (@Prod.fst.{0, 0} Bool InstP (bestN T st v0))) then (tt ∧ T1 ∧ tt ∧ tt ∧ tt ∧ T1 ∧ tt ∧ T1 ∧ T1 ∧ (@Exists.{1} (LoopInv.V (loopBest T st)) (fun (v2 : Nat) => (((((AV.int Go.IntKind.i64 st) = (AV.int Go.IntKind.i64 st)) ∧ ((AV.ptr 4 0) = (AV.ptr 4 0)) ∧ ((AV.ptr 6 0) = (AV.ptr 6 0)) ∧ ((AV.bool true) = (AV.bool (@Prod.fst.{0, 0} Bool InstP (bestN T st v2)))) ∧ ((AV.sl T Own.no) = (AV.sl T Own.no)) ∧ ((AV.int Go.IntKind.i64 (@Nat.cast Int _ (List.length T))) = (AV.int Go.IntKind.i64 (@Nat.cast Int _ (List.length T)))) ∧ ((AV.int Go.IntKind.i64 (Go.IntKind.wrap Go.IntKind.i64 ((@Nat.cast Int _ v0) + (1 : Int)))) = (AV.int Go.IntKind.i64 (@Nat.cast Int _ v2))) ∧ True) ∧ (((@Option.some.{0} (@List.{0} AV) [(AV.int Go.IntKind.i64 (0 : Int)), (AV.int Go.IntKind.i64 (0 : Int)), (AV.int Go.IntKind.i64 (0 : Int)), (AV.int Go.IntKind.u32 (0 : Int)), (AV.int Go.IntKind.u32 (0 : Int)), (AV.bool false), (AV.int Go.IntKind.i64 (0 : Int)), (AV.int Go.IntKind.u64 (0 : Int)), (AV.str (@List.nil.{0} UInt8)), (AV.int Go.IntKind.u64 (0 : Int)), (AV.str (@List.nil.{0} UInt8)), (AV.int Go.IntKind.i64 (0 : Int)), (AV.int Go.IntKind.u64 (0 : Int)), (AV.int Go.IntKind.i64 (0 : Int)), (AV.int Go.IntKind.i64 (0 : Int)), (AV.int Go.IntKind.i64 (0 : Int)), (AV.int Go.IntKind.i64 (0 : Int)), (AV.int Go.IntKind.i64 (0 : Int)), (AV.int Go.IntKind.i64 (0 : Int)), (AV.int Go.IntKind.i64 (0 : Int)), (AV.int Go.IntKind.i64 (0 : Int)), (AV.int Go.IntKind.i64 (0 : Int))]) = (@Option.some.{0} (@List.{0} AV) [(AV.int Go.IntKind.i64 (0 : Int)), (AV.int Go.IntKind.i64 (0 : Int)), (AV.int Go.IntKind.i64 (0 : Int)), (AV.int Go.IntKind.u32 (0 : Int)), (AV.int Go.IntKind.u32 (0 : Int)), (AV.bool false), (AV.int Go.IntKind.i64 (0 : Int)), (AV.int Go.IntKind.u64 (0 : Int)), (AV.str (@List.nil.{0} UInt8)), (AV.int Go.IntKind.u64 (0 : Int)), (AV.str (@List.nil.{0} UInt8)), (AV.int Go.IntKind.i64 (0 : Int)), (AV.int Go.IntKind.u64 (0 : Int)), (AV.int Go.IntKind.i64 (0 : Int)), (AV.int Go.IntKind.i64 (0 : Int)), (AV.int Go.IntKind.i64 (0 : Int)), (AV.int Go.IntKind.i64 (0 : Int)), (AV.int Go.IntKind.i64 (0 : Int)), (AV.int Go.IntKind.i64 (0 : Int)), (AV.int Go.IntKind.i64 (0 : Int)), (AV.int Go.IntKind.i64 (0 : Int)), (AV.int Go.IntKind.i64 (0 : Int))])) ∧ ((@Option.some.{0} (@List.{0} AV) [(AV.int Go.IntKind.i64 (rdInt (elemAt T (Int.toNat (@Nat.cast Int _ v0))) 1)), (AV.int Go.IntKind.i64 (rdInt (elemAt T (Int.toNat (@Nat.cast Int _ v0))) 2)), (AV.int Go.IntKind.i64 (rdInt (elemAt T (Int.toNat (@Nat.cast Int _ v0))) 3)), (AV.int Go.IntKind.u32 (rdInt (elemAt T (Int.toNat (@Nat.cast Int _ v0))) 4)), (AV.int Go.IntKind.u32 (rdInt (elemAt T (Int.toNat (@Nat.cast Int _ v0))) 5)), (AV.bool (rdBool (elemAt T (Int.toNat (@Nat.cast Int _ v0))) 6)), (AV.int Go.IntKind.i64 (rdInt (elemAt T (Int.toNat (@Nat.cast Int _ v0))) 7)), (AV.int Go.IntKind.u64 (rdInt (elemAt T (Int.toNat (@Nat.cast Int _ v0))) 8)), (AV.str (rdStr (elemAt T (Int.toNat (@Nat.cast Int _ v0))) 9)), (AV.int Go.IntKind.u64 (rdInt (elemAt T (Int.toNat (@Nat.cast Int _ v0))) 10)), (AV.str (rdStr (elemAt T (Int.toNat (@Nat.cast Int _ v0))) 11)), (AV.int Go.IntKind.i64 (rdInt (elemAt T (Int.toNat (@Nat.cast Int _ v0))) 12)), (AV.int Go.IntKind.u64 (rdInt (elemAt T (Int.toNat (@Nat.cast Int _ v0))) 13)), (AV.int Go.IntKind.i64 (rdInt (elemAt T (Int.toNat (@Nat.cast Int _ v0))) 14)), (AV.int Go.IntKind.i64 (rdInt (elemAt T (Int.toNat (@Nat.cast Int _ v0))) 15)), (AV.int Go.IntKind.i64 (rdInt (elemAt T (Int.toNat (@Nat.cast Int _ v0))) 16)), (AV.int Go.IntKind.i64 (rdInt (elemAt T (Int.toNat (@Nat.cast Int _ v0))) 17)), (AV.int Go.IntKind.i64 (rdInt (elemAt T (Int.toNat (@Nat.cast Int _ v0))) 18)), (AV.int Go.IntKind.i64 (rdInt (elemAt T (Int.toNat (@Nat.cast Int _ v0))) 19)), (AV.int Go.IntKind.i64 (rdInt (elemAt T (Int.toNat (@Nat.cast Int _ v0))) 20)), (AV.int Go.IntKind.i64 (rdInt (elemAt T (Int.toNat (@Nat.cast Int _ v0))) 21)), (AV.int Go.IntKind.i64 (rdInt (elemAt T (Int.toNat (@Nat.cast Int _ v0))) 22))]) = (@Option.some.{0} (@List.{0} AV) [(AV.int Go.IntKind.i64 (InstP.r (@Prod.snd.{0, 0} Bool InstP (bestN T st v2)))), (AV.int Go.IntKind.i64 (InstP.sl (@Prod.snd.{0, 0} Bool InstP (bestN T st v2)))), (AV.int Go.IntKind.i64 (InstP.st (@Prod.snd.{0, 0} Bool InstP (bestN T st v2)))), (AV.int Go.IntKind.u32 (InstP.bal (@Prod.snd.{0, 0} Bool InstP (bestN T st v2)))), (AV.int Go.IntKind.u32 (InstP.vote (@Prod.snd.{0, 0} Bool InstP (bestN T st v2)))), (AV.bool (InstP.same (@Prod.snd.{0, 0} Bool InstP (bestN T st v2)))), (AV.int Go.IntKind.i64 (CmdP.k (InstP.c (@Prod.snd.{0, 0} Bool InstP (bestN T st v2))))), (AV.int Go.IntKind.u64 (CmdP.num (InstP.c (@Prod.snd.{0, 0} Bool InstP (bestN T st v2))))), (AV.str (CmdP.foot (InstP.c (@Prod.snd.{0, 0} Bool InstP (bestN T st v2))))), (AV.int Go.IntKind.u64 (CmdP.rq (InstP.c (@Prod.snd.{0, 0} Bool InstP (bestN T st v2))))), (AV.str (CmdP.path (InstP.c (@Prod.snd.{0, 0} Bool InstP (bestN T st v2))))), (AV.int Go.IntKind.i64 (CmdP.mode (InstP.c (@Prod.snd.{0, 0} Bool InstP (bestN T st v2))))), (AV.int Go.IntKind.u64 (CmdP.n (InstP.c (@Prod.snd.{0, 0} Bool InstP (bestN T st v2))))), (AV.int Go.IntKind.i64 (CmdP.time (InstP.c (@Prod.snd.{0, 0} Bool InstP (bestN T st v2))))), (AV.int Go.IntKind.i64 (AttP.s (InstP.a (@Prod.snd.{0, 0} Bool InstP (bestN T st v2))))), (AV.int Go.IntKind.i64 (AttP.d0 (InstP.a (@Prod.snd.{0, 0} Bool InstP (bestN T st v2))))), (AV.int Go.IntKind.i64 (AttP.d1 (InstP.a (@Prod.snd.{0, 0} Bool InstP (bestN T st v2))))), (AV.int Go.IntKind.i64 (AttP.d2 (InstP.a (@Prod.snd.{0, 0} Bool InstP (bestN T st v2))))), (AV.int Go.IntKind.i64 (AttP.d3 (InstP.a (@Prod.snd.{0, 0} Bool InstP (bestN T st v2))))), (AV.int Go.IntKind.i64 (AttP.d4 (InstP.a (@Prod.snd.{0, 0} Bool InstP (bestN T st v2))))), (AV.int Go.IntKind.i64 (AttP.d5 (InstP.a (@Prod.snd.{0, 0} Bool InstP (bestN T st v2))))), (AV.int Go.IntKind.i64 (AttP.d6 (InstP.a (@Prod.snd.{0, 0} Bool InstP (bestN T st v2)))))])) ∧ True) ∧ T1 ∧ tt ∧ tt) ∧ (v2 ≤ (List.length T)) ∧ (((List.length T) - v2) < ((List.length T) - v0)))))) else (T1 ∧ tt ∧ T1 ∧ tt ∧ T1 ∧ T1 ∧ T1 ∧ (bif (decide ((InstP.vote (@Prod.snd.{0, 0} Bool InstP (bestN T st v0))) < (rdInt (elemAt T (Int.toNat (@Nat.cast Int _ v0))) 5))) then (tt ∧ tt ∧ tt ∧ T1 ∧ tt ∧ T1 ∧ T1 ∧ (@Exists.{1} (LoopInv.V (loopBest T st)) (fun (v2 : Nat) => (((((AV.int Go.IntKind.i64 st) = (AV.int Go.IntKind.i64 st)) ∧ ((AV.ptr 4 0) = (AV.ptr 4 0)) ∧ ((AV.ptr 6 0) = (AV.ptr 6 0)) ∧ ((AV.bool true) = (AV.bool (@Prod.fst.{0, 0} Bool InstP (bestN T st v2)))) ∧ ((AV.sl T Own.no) = (AV.sl T Own.no)) ∧ ((AV.int Go.IntKind.i64 (@Nat.cast Int _ (List.length T))) = (AV.int Go.IntKind.i64 (@Nat.cast Int _ (List.length T)))) ∧ ((AV.int Go.IntKind.i64 (Go.IntKind.wrap Go.IntKind.i64 ((@Nat.cast Int _ v0) + (1 : Int)))) = (AV.int Go.IntKind.i64 (@Nat.cast Int _ v2))) ∧ True) ∧ (((@Option.some.{0} (@List.{0} AV) [(AV.int Go.IntKind.i64 (0 : Int)), (AV.int Go.IntKind.i64 (0 : Int)), (AV.int Go.IntKind.i64 (0 : Int)), (AV.int Go.IntKind.u32 (0 : Int)), (AV.int Go.IntKind.u32 (0 : Int)), (AV.bool false), (AV.int Go.IntKind.i64 (0 : Int)), (AV.int Go.IntKind.u64 (0 : Int)), (AV.str (@List.nil.{0} UInt8)), (AV.int Go.IntKind.u64 (0 : Int)), (AV.str (@List.nil.{0} UInt8)), (AV.int Go.IntKind.i64 (0 : Int)), (AV.int Go.IntKind.u64 (0 : Int)), (AV.int Go.IntKind.i64 (0 : Int)), (AV.int Go.IntKind.i64 (0 : Int)), (AV.int Go.IntKind.i64 (0 : Int)), (AV.int Go.IntKind.i64 (0 : Int)), (AV.int Go.IntKind.i64 (0 : Int)), (AV.int Go.IntKind.i64 (0 : Int)), (AV.int Go.IntKind.i64 (0 : Int)), (AV.int Go.IntKind.i64 (0 : Int)), (AV.int Go.IntKind.i64 (0 : Int))]) = (@Option.some.{0} (@List.{0} AV) [(AV.int Go.IntKind.i64 (0 : Int)), (AV.int Go.IntKind.i64 (0 : Int)), (AV.int Go.IntKind.i64 (0 : Int)), (AV.int Go.IntKind.u32 (0 : Int)), (AV.int Go.IntKind.u32 (0 : Int)), (AV.bool false), (AV.int Go.IntKind.i64 (0 : Int)), (AV.int Go.IntKind.u64 (0 : Int)), (AV.str (@List.nil.{0} UInt8)), (AV.int Go.IntKind.u64 (0 : Int)), (AV.str (@List.nil.{0} UInt8)), (AV.int Go.IntKind.i64 (0 : Int)), (AV.int Go.IntKind.u64 (0 : Int)), (AV.int Go.IntKind.i64 (0 : Int)), (AV.int Go.IntKind.i64 (0 : Int)), (AV.int Go.IntKind.i64 (0 : Int)), (AV.int Go.IntKind.i64 (0 : Int)), (AV.int Go.IntKind.i64 (0 : Int)), (AV.int Go.IntKind.i64 (0 : Int)), (AV.int Go.IntKind.i64 (0 : Int)), (AV.int Go.IntKind.i64 (0 : Int)), (AV.int Go.IntKind.i64 (0 : Int))])) ∧ ((@Option.some.{0} (@List.{0} AV) [(AV.int Go.IntKind.i64 (rdInt (elemAt T (Int.toNat (@Nat.cast Int _ v0))) 1)), (AV.int Go.IntKind.i64 (rdInt (elemAt T (Int.toNat (@Nat.cast Int _ v0))) 2)), (AV.int Go.IntKind.i64 (rdInt (elemAt T (Int.toNat (@Nat.cast Int _ v0))) 3)), (AV.int Go.IntKind.u32 (rdInt (elemAt T (Int.toNat (@Nat.cast Int _ v0))) 4)), (AV.int Go.IntKind.u32 (rdInt (elemAt T (Int.toNat (@Nat.cast Int _ v0))) 5)), (AV.bool (rdBool (elemAt T (Int.toNat (@Nat.cast Int _ v0))) 6)), (AV.int Go.IntKind.i64 (rdInt (elemAt T (Int.toNat (@Nat.cast Int _ v0))) 7)), (AV.int Go.IntKind.u64 (rdInt (elemAt T (Int.toNat (@Nat.cast Int _ v0))) 8)), (AV.str (rdStr (elemAt T (Int.toNat (@Nat.cast Int _ v0))) 9)), (AV.int Go.IntKind.u64 (rdInt (elemAt T (Int.toNat (@Nat.cast Int _ v0))) 10)), (AV.str (rdStr (elemAt T (Int.toNat (@Nat.cast Int _ v0))) 11)), (AV.int Go.IntKind.i64 (rdInt (elemAt T (Int.toNat (@Nat.cast Int _ v0))) 12)), (AV.int Go.IntKind.u64 (rdInt (elemAt T (Int.toNat (@Nat.cast Int _ v0))) 13)), (AV.int Go.IntKind.i64 (rdInt (elemAt T (Int.toNat (@Nat.cast Int _ v0))) 14)), (AV.int Go.IntKind.i64 (rdInt (elemAt T (Int.toNat (@Nat.cast Int _ v0))) 15)), (AV.int Go.IntKind.i64 (rdInt (elemAt T (Int.toNat (@Nat.cast Int _ v0))) 16)), (AV.int Go.IntKind.i64 (rdInt (elemAt T (Int.toNat (@Nat.cast Int _ v0))) 17)), (AV.int Go.IntKind.i64 (rdInt (elemAt T (Int.toNat (@Nat.cast Int _ v0))) 18)), (AV.int Go.IntKind.i64 (rdInt (elemAt T (Int.toNat (@Nat.cast Int _ v0))) 19)), (AV.int Go.IntKind.i64 (rdInt (elemAt T (Int.toNat (@Nat.cast Int _ v0))) 20)), (AV.int Go.IntKind.i64 (rdInt (elemAt T (Int.toNat (@Nat.cast Int _ v0))) 21)), (AV.int Go.IntKind.i64 (rdInt (elemAt T (Int.toNat (@Nat.cast Int _ v0))) 22))]) = (@Option.some.{0} (@List.{0} AV) [(AV.int Go.IntKind.i64 (InstP.r (@Prod.snd.{0, 0} Bool InstP (bestN T st v2)))), (AV.int Go.IntKind.i64 (InstP.sl (@Prod.snd.{0, 0} Bool InstP (bestN T st v2)))), (AV.int Go.IntKind.i64 (InstP.st (@Prod.snd.{0, 0} Bool InstP (bestN T st v2)))), (AV.int Go.IntKind.u32 (InstP.bal (@Prod.snd.{0, 0} Bool InstP (bestN T st v2)))), (AV.int Go.IntKind.u32 (InstP.vote (@Prod.snd.{0, 0} Bool InstP (bestN T st v2)))), (AV.bool (InstP.same (@Prod.snd.{0, 0} Bool InstP (bestN T st v2)))), (AV.int Go.IntKind.i64 (CmdP.k (InstP.c (@Prod.snd.{0, 0} Bool InstP (bestN T st v2))))), (AV.int Go.IntKind.u64 (CmdP.num (InstP.c (@Prod.snd.{0, 0} Bool InstP (bestN T st v2))))), (AV.str (CmdP.foot (InstP.c (@Prod.snd.{0, 0} Bool InstP (bestN T st v2))))), (AV.int Go.IntKind.u64 (CmdP.rq (InstP.c (@Prod.snd.{0, 0} Bool InstP (bestN T st v2))))), (AV.str (CmdP.path (InstP.c (@Prod.snd.{0, 0} Bool InstP (bestN T st v2))))), (AV.int Go.IntKind.i64 (CmdP.mode (InstP.c (@Prod.snd.{0, 0} Bool InstP (bestN T st v2))))), (AV.int Go.IntKind.u64 (CmdP.n (InstP.c (@Prod.snd.{0, 0} Bool InstP (bestN T st v2))))), (AV.int Go.IntKind.i64 (CmdP.time (InstP.c (@Prod.snd.{0, 0} Bool InstP (bestN T st v2))))), (AV.int Go.IntKind.i64 (AttP.s (InstP.a (@Prod.snd.{0, 0} Bool InstP (bestN T st v2))))), (AV.int Go.IntKind.i64 (AttP.d0 (InstP.a (@Prod.snd.{0, 0} Bool InstP (bestN T st v2))))), (AV.int Go.IntKind.i64 (AttP.d1 (InstP.a (@Prod.snd.{0, 0} Bool InstP (bestN T st v2))))), (AV.int Go.IntKind.i64 (AttP.d2 (InstP.a (@Prod.snd.{0, 0} Bool InstP (bestN T st v2))))), (AV.int Go.IntKind.i64 (AttP.d3 (InstP.a (@Prod.snd.{0, 0} Bool InstP (bestN T st v2))))), (AV.int Go.IntKind.i64 (AttP.d4 (InstP.a (@Prod.snd.{0, 0} Bool InstP (bestN T st v2))))), (AV.int Go.IntKind.i64 (AttP.d5 (InstP.a (@Prod.snd.{0, 0} Bool InstP (bestN T st v2))))), (AV.int Go.IntKind.i64 (AttP.d6 (InstP.a (@Prod.snd.{0, 0} Bool InstP (bestN T st v2)))))])) ∧ True) ∧ T1 ∧ tt ∧ tt) ∧ (v2 ≤ (List.length T)) ∧ (((List.length T) - v2) < ((List.length T) - v0)))))) else (tt ∧ T1 ∧ T1 ∧ (@Exists.{1} (LoopInv.V (loopBest T st)) (fun (v2 : Nat) => (((((AV.int Go.IntKind.i64 st) = (AV.int Go.IntKind.i64 st)) ∧ ((AV.ptr 4 0) = (AV.ptr 4 0)) ∧ ((AV.ptr 6 0) = (AV.ptr 6 0)) ∧ ((AV.bool (@Prod.fst.{0, 0} Bool InstP (bestN T st v0))) = (AV.bool (@Prod.fst.{0, 0} Bool InstP (bestN T st v2)))) ∧ ((AV.sl T Own.no) = (AV.sl T Own.no)) ∧ ((AV.int Go.IntKind.i64 (@Nat.cast Int _ (List.length T))) = (AV.int Go.IntKind.i64 (@Nat.cast Int _ (List.length T)))) ∧ ((AV.int Go.IntKind.i64 (Go.IntKind.wrap Go.IntKind.i64 ((@Nat.cast Int _ v0) + (1 : Int)))) = (AV.int Go.IntKind.i64 (@Nat.cast Int _ v2))) ∧ True) ∧ (((@Option.some.{0} (@List.{0} AV) [(AV.int Go.IntKind.i64 (0 : Int)), (AV.int Go.IntKind.i64 (0 : Int)), (AV.int Go.IntKind.i64 (0 : Int)), (AV.int Go.IntKind.u32 (0 : Int)), (AV.int Go.IntKind.u32 (0 : Int)), (AV.bool false), (AV.int Go.IntKind.i64 (0 : Int)), (AV.int Go.IntKind.u64 (0 : Int)), (AV.str (@List.nil.{0} UInt8)), (AV.int Go.IntKind.u64 (0 : Int)), (AV.str (@List.nil.{0} UInt8)), (AV.int Go.IntKind.i64 (0 : Int)), (AV.int Go.IntKind.u64 (0 : Int)), (AV.int Go.IntKind.i64 (0 : Int)), (AV.int Go.IntKind.i64 (0 : Int)), (AV.int Go.IntKind.i64 (0 : Int)), (AV.int Go.IntKind.i64 (0 : Int)), (AV.int Go.IntKind.i64 (0 : Int)), (AV.int Go.IntKind.i64 (0 : Int)), (AV.int Go.IntKind.i64 (0 : Int)), (AV.int Go.IntKind.i64 (0 : Int)), (AV.int Go.IntKind.i64 (0 : Int))]) = (@Option.some.{0} (@List.{0} AV) [(AV.int Go.IntKind.i64 (0 : Int)), (AV.int Go.IntKind.i64 (0 : Int)), (AV.int Go.IntKind.i64 (0 : Int)), (AV.int Go.IntKind.u32 (0 : Int)), (AV.int Go.IntKind.u32 (0 : Int)), (AV.bool false), (AV.int Go.IntKind.i64 (0 : Int)), (AV.int Go.IntKind.u64 (0 : Int)), (AV.str (@List.nil.{0} UInt8)), (AV.int Go.IntKind.u64 (0 : Int)), (AV.str (@List.nil.{0} UInt8)), (AV.int Go.IntKind.i64 (0 : Int)), (AV.int Go.IntKind.u64 (0 : Int)), (AV.int Go.IntKind.i64 (0 : Int)), (AV.int Go.IntKind.i64 (0 : Int)), (AV.int Go.IntKind.i64 (0 : Int)), (AV.int Go.IntKind.i64 (0 : Int)), (AV.int Go.IntKind.i64 (0 : Int)), (AV.int Go.IntKind.i64 (0 : Int)), (AV.int Go.IntKind.i64 (0 : Int)), (AV.int Go.IntKind.i64 (0 : Int)), (AV.int Go.IntKind.i64 (0 : Int))])) ∧ ((@Option.some.{0} (@List.{0} AV) [(AV.int Go.IntKind.i64 (InstP.r (@Prod.snd.{0, 0} Bool InstP (bestN T st v0)))), (AV.int Go.IntKind.i64 (InstP.sl (@Prod.snd.{0, 0} Bool InstP (bestN T st v0)))), (AV.int Go.IntKind.i64 (InstP.st (@Prod.snd.{0, 0} Bool InstP (bestN T st v0)))), (AV.int Go.IntKind.u32 (InstP.bal (@Prod.snd.{0, 0} Bool InstP (bestN T st v0)))), (AV.int Go.IntKind.u32 (InstP.vote (@Prod.snd.{0, 0} Bool InstP (bestN T st v0)))), (AV.bool (InstP.same (@Prod.snd.{0, 0} Bool InstP (bestN T st v0)))), (AV.int Go.IntKind.i64 (CmdP.k (InstP.c (@Prod.snd.{0, 0} Bool InstP (bestN T st v0))))), (AV.int Go.IntKind.u64 (CmdP.num (InstP.c (@Prod.snd.{0, 0} Bool InstP (bestN T st v0))))), (AV.str (CmdP.foot (InstP.c (@Prod.snd.{0, 0} Bool InstP (bestN T st v0))))), (AV.int Go.IntKind.u64 (CmdP.rq (InstP.c (@Prod.snd.{0, 0} Bool InstP (bestN T st v0))))), (AV.str (CmdP.path (InstP.c (@Prod.snd.{0, 0} Bool InstP (bestN T st v0))))), (AV.int Go.IntKind.i64 (CmdP.mode (InstP.c (@Prod.snd.{0, 0} Bool InstP (bestN T st v0))))), (AV.int Go.IntKind.u64 (CmdP.n (InstP.c (@Prod.snd.{0, 0} Bool InstP (bestN T st v0))))), (AV.int Go.IntKind.i64 (CmdP.time (InstP.c (@Prod.snd.{0, 0} Bool InstP (bestN T st v0))))), (AV.int Go.IntKind.i64 (AttP.s (InstP.a (@Prod.snd.{0, 0} Bool InstP (bestN T st v0))))), (AV.int Go.IntKind.i64 (AttP.d0 (InstP.a (@Prod.snd.{0, 0} Bool InstP (bestN T st v0))))), (AV.int Go.IntKind.i64 (AttP.d1 (InstP.a (@Prod.snd.{0, 0} Bool InstP (bestN T st v0))))), (AV.int Go.IntKind.i64 (AttP.d2 (InstP.a (@Prod.snd.{0, 0} Bool InstP (bestN T st v0))))), (AV.int Go.IntKind.i64 (AttP.d3 (InstP.a (@Prod.snd.{0, 0} Bool InstP (bestN T st v0))))), (AV.int Go.IntKind.i64 (AttP.d4 (InstP.a (@Prod.snd.{0, 0} Bool InstP (bestN T st v0))))), (AV.int Go.IntKind.i64 (AttP.d5 (InstP.a (@Prod.snd.{0, 0} Bool InstP (bestN T st v0))))), (AV.int Go.IntKind.i64 (AttP.d6 (InstP.a (@Prod.snd.{0, 0} Bool InstP (bestN T st v0)))))]) = (@Option.some.{0} (@List.{0} AV) [(AV.int Go.IntKind.i64 (InstP.r (@Prod.snd.{0, 0} Bool InstP (bestN T st v2)))), (AV.int Go.IntKind.i64 (InstP.sl (@Prod.snd.{0, 0} Bool InstP (bestN T st v2)))), (AV.int Go.IntKind.i64 (InstP.st (@Prod.snd.{0, 0} Bool InstP (bestN T st v2)))), (AV.int Go.IntKind.u32 (InstP.bal (@Prod.snd.{0, 0} Bool InstP (bestN T st v2)))), (AV.int Go.IntKind.u32 (InstP.vote (@Prod.snd.{0, 0} Bool InstP (bestN T st v2)))), (AV.bool (InstP.same (@Prod.snd.{0, 0} Bool InstP (bestN T st v2)))), (AV.int Go.IntKind.i64 (CmdP.k (InstP.c (@Prod.snd.{0, 0} Bool InstP (bestN T st v2))))), (AV.int Go.IntKind.u64 (CmdP.num (InstP.c (@Prod.snd.{0, 0} Bool InstP (bestN T st v2))))), (AV.str (CmdP.foot (InstP.c (@Prod.snd.{0, 0} Bool InstP (bestN T st v2))))), (AV.int Go.IntKind.u64 (CmdP.rq (InstP.c (@Prod.snd.{0, 0} Bool InstP (bestN T st v2))))), (AV.str (CmdP.path (InstP.c (@Prod.snd.{0, 0} Bool InstP (bestN T st v2))))), (AV.int Go.IntKind.i64 (CmdP.mode (InstP.c (@Prod.snd.{0, 0} Bool InstP (bestN T st v2))))), (AV.int Go.IntKind.u64 (CmdP.n (InstP.c (@Prod.snd.{0, 0} Bool InstP (bestN T st v2))))), (AV.int Go.IntKind.i64 (CmdP.time (InstP.c (@Prod.snd.{0, 0} Bool InstP (bestN T st v2))))), (AV.int Go.IntKind.i64 (AttP.s (InstP.a (@Prod.snd.{0, 0} Bool InstP (bestN T st v2))))), (AV.int Go.IntKind.i64 (AttP.d0 (InstP.a (@Prod.snd.{0, 0} Bool InstP (bestN T st v2))))), (AV.int Go.IntKind.i64 (AttP.d1 (InstP.a (@Prod.snd.{0, 0} Bool InstP (bestN T st v2))))), (AV.int Go.IntKind.i64 (AttP.d2 (InstP.a (@Prod.snd.{0, 0} Bool InstP (bestN T st v2))))), (AV.int Go.IntKind.i64 (AttP.d3 (InstP.a (@Prod.snd.{0, 0} Bool InstP (bestN T st v2))))), (AV.int Go.IntKind.i64 (AttP.d4 (InstP.a (@Prod.snd.{0, 0} Bool InstP (bestN T st v2))))), (AV.int Go.IntKind.i64 (AttP.d5 (InstP.a (@Prod.snd.{0, 0} Bool InstP (bestN T st v2))))), (AV.int Go.IntKind.i64 (AttP.d6 (InstP.a (@Prod.snd.{0, 0} Bool InstP (bestN T st v2)))))])) ∧ True) ∧ T1 ∧ tt ∧ tt) ∧ (v2 ≤ (List.length T)) ∧ (((List.length T) - v2) < ((List.length T) - v0)))))))))) else ((false = false) ∧ tt ∧ T1 ∧ T1 ∧ (@Exists.{1} (LoopInv.V (loopBest T st)) (fun (v2 : Nat) => (((((AV.int Go.IntKind.i64 st) = (AV.int Go.IntKind.i64 st)) ∧ ((AV.ptr 4 0) = (AV.ptr 4 0)) ∧ ((AV.ptr 6 0) = (AV.ptr 6 0)) ∧ ((AV.bool (@Prod.fst.{0, 0} Bool InstP (bestN T st v0))) = (AV.bool (@Prod.fst.{0, 0} Bool InstP (bestN T st v2)))) ∧ ((AV.sl T Own.no) = (AV.sl T Own.no)) ∧ ((AV.int Go.IntKind.i64 (@Nat.cast Int _ (List.length T))) = (AV.int Go.IntKind.i64 (@Nat.cast Int _ (List.length T)))) ∧ ((AV.int Go.IntKind.i64 (Go.IntKind.wrap Go.IntKind.i64 ((@Nat.cast Int _ v0) + (1 : Int)))) = (AV.int Go.IntKind.i64 (@Nat.cast Int _ v2))) ∧ True) ∧ (((@Option.some.{0} (@List.{0} AV) [(AV.int Go.IntKind.i64 (0 : Int)), (AV.int Go.IntKind.i64 (0 : Int)), (AV.int Go.IntKind.i64 (0 : Int)), (AV.int Go.IntKind.u32 (0 : Int)), (AV.int Go.IntKind.u32 (0 : Int)), (AV.bool false), (AV.int Go.IntKind.i64 (0 : Int)), (AV.int Go.IntKind.u64 (0 : Int)), (AV.str (@List.nil.{0} UInt8)), (AV.int Go.IntKind.u64 (0 : Int)), (AV.str (@List.nil.{0} UInt8)), (AV.int Go.IntKind.i64 (0 : Int)), (AV.int Go.IntKind.u64 (0 : Int)), (AV.int Go.IntKind.i64 (0 : Int)), (AV.int Go.IntKind.i64 (0 : Int)), (AV.int Go.IntKind.i64 (0 : Int)), (AV.int Go.IntKind.i64 (0 : Int)), (AV.int Go.IntKind.i64 (0 : Int)), (AV.int Go.IntKind.i64 (0 : Int)), (AV.int Go.IntKind.i64 (0 : Int)), (AV.int Go.IntKind.i64 (0 : Int)), (AV.int Go.IntKind.i64 (0 : Int))]) = (@Option.some.{0} (@List.{0} AV) [(AV.int Go.IntKind.i64 (0 : Int)), (AV.int Go.IntKind.i64 (0 : Int)), (AV.int Go.IntKind.i64 (0 : Int)), (AV.int Go.IntKind.u32 (0 : Int)), (AV.int Go.IntKind.u32 (0 : Int)), (AV.bool false), (AV.int Go.IntKind.i64 (0 : Int)), (AV.int Go.IntKind.u64 (0 : Int)), (AV.str (@List.nil.{0} UInt8)), (AV.int Go.IntKind.u64 (0 : Int)), (AV.str (@List.nil.{0} UInt8)), (AV.int Go.IntKind.i64 (0 : Int)), (AV.int Go.IntKind.u64 (0 : Int)), (AV.int Go.IntKind.i64 (0 : Int)), (AV.int Go.IntKind.i64 (0 : Int)), (AV.int Go.IntKind.i64 (0 : Int)), (AV.int Go.IntKind.i64 (0 : Int)), (AV.int Go.IntKind.i64 (0 : Int)), (AV.int Go.IntKind.i64 (0 : Int)), (AV.int Go.IntKind.i64 (0 : Int)), (AV.int Go.IntKind.i64 (0 : Int)), (AV.int Go.IntKind.i64 (0 : Int))])) ∧ ((@Option.some.{0} (@List.{0} AV) [(AV.int Go.IntKind.i64 (InstP.r (@Prod.snd.{0, 0} Bool InstP (bestN T st v0)))), (AV.int Go.IntKind.i64 (InstP.sl (@Prod.snd.{0, 0} Bool InstP (bestN T st v0)))), (AV.int Go.IntKind.i64 (InstP.st (@Prod.snd.{0, 0} Bool InstP (bestN T st v0)))), (AV.int Go.IntKind.u32 (InstP.bal (@Prod.snd.{0, 0} Bool InstP (bestN T st v0)))), (AV.int Go.IntKind.u32 (InstP.vote (@Prod.snd.{0, 0} Bool InstP (bestN T st v0)))), (AV.bool (InstP.same (@Prod.snd.{0, 0} Bool InstP (bestN T st v0)))), (AV.int Go.IntKind.i64 (CmdP.k (InstP.c (@Prod.snd.{0, 0} Bool InstP (bestN T st v0))))), (AV.int Go.IntKind.u64 (CmdP.num (InstP.c (@Prod.snd.{0, 0} Bool InstP (bestN T st v0))))), (AV.str (CmdP.foot (InstP.c (@Prod.snd.{0, 0} Bool InstP (bestN T st v0))))), (AV.int Go.IntKind.u64 (CmdP.rq (InstP.c (@Prod.snd.{0, 0} Bool InstP (bestN T st v0))))), (AV.str (CmdP.path (InstP.c (@Prod.snd.{0, 0} Bool InstP (bestN T st v0))))), (AV.int Go.IntKind.i64 (CmdP.mode (InstP.c (@Prod.snd.{0, 0} Bool InstP (bestN T st v0))))), (AV.int Go.IntKind.u64 (CmdP.n (InstP.c (@Prod.snd.{0, 0} Bool InstP (bestN T st v0))))), (AV.int Go.IntKind.i64 (CmdP.time (InstP.c (@Prod.snd.{0, 0} Bool InstP (bestN T st v0))))), (AV.int Go.IntKind.i64 (AttP.s (InstP.a (@Prod.snd.{0, 0} Bool InstP (bestN T st v0))))), (AV.int Go.IntKind.i64 (AttP.d0 (InstP.a (@Prod.snd.{0, 0} Bool InstP (bestN T st v0))))), (AV.int Go.IntKind.i64 (AttP.d1 (InstP.a (@Prod.snd.{0, 0} Bool InstP (bestN T st v0))))), (AV.int Go.IntKind.i64 (AttP.d2 (InstP.a (@Prod.snd.{0, 0} Bool InstP (bestN T st v0))))), (AV.int Go.IntKind.i64 (AttP.d3 (InstP.a (@Prod.snd.{0, 0} Bool InstP (bestN T st v0))))), (AV.int Go.IntKind.i64 (AttP.d4 (InstP.a (@Prod.snd.{0, 0} Bool InstP (bestN T st v0))))), (AV.int Go.IntKind.i64 (AttP.d5 (InstP.a (@Prod.snd.{0, 0} Bool InstP (bestN T st v0))))), (AV.int Go.IntKind.i64 (AttP.d6 (InstP.a (@Prod.snd.{0, 0} Bool InstP (bestN T st v0)))))]) = (@Option.some.{0} (@List.{0} AV) [(AV.int Go.IntKind.i64 (InstP.r (@Prod.snd.{0, 0} Bool InstP (bestN T st v2)))), (AV.int Go.IntKind.i64 (InstP.sl (@Prod.snd.{0, 0} Bool InstP (bestN T st v2)))), (AV.int Go.IntKind.i64 (InstP.st (@Prod.snd.{0, 0} Bool InstP (bestN T st v2)))), (AV.int Go.IntKind.u32 (InstP.bal (@Prod.snd.{0, 0} Bool InstP (bestN T st v2)))), (AV.int Go.IntKind.u32 (InstP.vote (@Prod.snd.{0, 0} Bool InstP (bestN T st v2)))), (AV.bool (InstP.same (@Prod.snd.{0, 0} Bool InstP (bestN T st v2)))), (AV.int Go.IntKind.i64 (CmdP.k (InstP.c (@Prod.snd.{0, 0} Bool InstP (bestN T st v2))))), (AV.int Go.IntKind.u64 (CmdP.num (InstP.c (@Prod.snd.{0, 0} Bool InstP (bestN T st v2))))), (AV.str (CmdP.foot (InstP.c (@Prod.snd.{0, 0} Bool InstP (bestN T st v2))))), (AV.int Go.IntKind.u64 (CmdP.rq (InstP.c (@Prod.snd.{0, 0} Bool InstP (bestN T st v2))))), (AV.str (CmdP.path (InstP.c (@Prod.snd.{0, 0} Bool InstP (bestN T st v2))))), (AV.int Go.IntKind.i64 (CmdP.mode (InstP.c (@Prod.snd.{0, 0} Bool InstP (bestN T st v2))))), (AV.int Go.IntKind.u64 (CmdP.n (InstP.c (@Prod.snd.{0, 0} Bool InstP (bestN T st v2))))), (AV.int Go.IntKind.i64 (CmdP.time (InstP.c (@Prod.snd.{0, 0} Bool InstP (bestN T st v2))))), (AV.int Go.IntKind.i64 (AttP.s (InstP.a (@Prod.snd.{0, 0} Bool InstP (bestN T st v2))))), (AV.int Go.IntKind.i64 (AttP.d0 (InstP.a (@Prod.snd.{0, 0} Bool InstP (bestN T st v2))))), (AV.int Go.IntKind.i64 (AttP.d1 (InstP.a (@Prod.snd.{0, 0} Bool InstP (bestN T st v2))))), (AV.int Go.IntKind.i64 (AttP.d2 (InstP.a (@Prod.snd.{0, 0} Bool InstP (bestN T st v2))))), (AV.int Go.IntKind.i64 (AttP.d3 (InstP.a (@Prod.snd.{0, 0} Bool InstP (bestN T st v2))))), (AV.int Go.IntKind.i64 (AttP.d4 (InstP.a (@Prod.snd.{0, 0} Bool InstP (bestN T st v2))))), (AV.int Go.IntKind.i64 (AttP.d5 (InstP.a (@Prod.snd.{0, 0} Bool InstP (bestN T st v2))))), (AV.int Go.IntKind.i64 (AttP.d6 (InstP.a (@Prod.snd.{0, 0} Bool InstP (bestN T st v2)))))])) ∧ True) ∧ T1 ∧ tt ∧ tt) ∧ (v2 ≤ (List.length T)) ∧ (((List.length T) - v2) < ((List.length T) - v0)))))))) else (tt ∧ tt ∧ T1 ∧ tt ∧ T1 ∧ tt ∧ tt ∧ (((InstP.r (@Prod.snd.{0, 0} Bool InstP (bestN T st (List.length T)))) = (InstP.r (@Prod.snd.{0, 0} Bool InstP (bestN T st v0)))) ∧ ((InstP.sl (@Prod.snd.{0, 0} Bool InstP (bestN T st (List.length T)))) = (InstP.sl (@Prod.snd.{0, 0} Bool InstP (bestN T st v0)))) ∧ ((InstP.st (@Prod.snd.{0, 0} Bool InstP (bestN T st (List.length T)))) = (InstP.st (@Prod.snd.{0, 0} Bool InstP (bestN T st v0)))) ∧ ((InstP.bal (@Prod.snd.{0, 0} Bool InstP (bestN T st (List.length T)))) = (InstP.bal (@Prod.snd.{0, 0} Bool InstP (bestN T st v0)))) ∧ ((InstP.vote (@Prod.snd.{0, 0} Bool InstP (bestN T st (List.length T)))) = (InstP.vote (@Prod.snd.{0, 0} Bool InstP (bestN T st v0)))) ∧ ((InstP.same (@Prod.snd.{0, 0} Bool InstP (bestN T st (List.length T)))) = (InstP.same (@Prod.snd.{0, 0} Bool InstP (bestN T st v0)))) ∧ ((CmdP.k (InstP.c (@Prod.snd.{0, 0} Bool InstP (bestN T st (List.length T))))) = (CmdP.k (InstP.c (@Prod.snd.{0, 0} Bool InstP (bestN T st v0))))) ∧ ((CmdP.num (InstP.c (@Prod.snd.{0, 0} Bool InstP (bestN T st (List.length T))))) = (CmdP.num (InstP.c (@Prod.snd.{0, 0} Bool InstP (bestN T st v0))))) ∧ ((CmdP.foot (InstP.c (@Prod.snd.{0, 0} Bool InstP (bestN T st (List.length T))))) = (CmdP.foot (InstP.c (@Prod.snd.{0, 0} Bool InstP (bestN T st v0))))) ∧ ((CmdP.rq (InstP.c (@Prod.snd.{0, 0} Bool InstP (bestN T st (List.length T))))) = (CmdP.rq (InstP.c (@Prod.snd.{0, 0} Bool InstP (bestN T st v0))))) ∧ ((CmdP.path (InstP.c (@Prod.snd.{0, 0} Bool InstP (bestN T st (List.length T))))) = (CmdP.path (InstP.c (@Prod.snd.{0, 0} Bool InstP (bestN T st v0))))) ∧ ((CmdP.mode (InstP.c (@Prod.snd.{0, 0} Bool InstP (bestN T st (List.length T))))) = (CmdP.mode (InstP.c (@Prod.snd.{0, 0} Bool InstP (bestN T st v0))))) ∧ ((CmdP.n (InstP.c (@Prod.snd.{0, 0} Bool InstP (bestN T st (List.length T))))) = (CmdP.n (InstP.c (@Prod.snd.{0, 0} Bool InstP (bestN T st v0))))) ∧ ((CmdP.time (InstP.c (@Prod.snd.{0, 0} Bool InstP (bestN T st (List.length T))))) = (CmdP.time (InstP.c (@Prod.snd.{0, 0} Bool InstP (bestN T st v0))))) ∧ ((AttP.s (InstP.a (@Prod.snd.{0, 0} Bool InstP (bestN T st (List.length T))))) = (AttP.s (InstP.a (@Prod.snd.{0, 0} Bool InstP (bestN T st v0))))) ∧ ((AttP.d0 (InstP.a (@Prod.snd.{0, 0} Bool InstP (bestN T st (List.length T))))) = (AttP.d0 (InstP.a (@Prod.snd.{0, 0} Bool InstP (bestN T st v0))))) ∧ ((AttP.d1 (InstP.a (@Prod.snd.{0, 0} Bool InstP (bestN T st (List.length T))))) = (AttP.d1 (InstP.a (@Prod.snd.{0, 0} Bool InstP (bestN T st v0))))) ∧ ((AttP.d2 (InstP.a (@Prod.snd.{0, 0} Bool InstP (bestN T st (List.length T))))) = (AttP.d2 (InstP.a (@Prod.snd.{0, 0} Bool InstP (bestN T st v0))))) ∧ ((AttP.d3 (InstP.a (@Prod.snd.{0, 0} Bool InstP (bestN T st (List.length T))))) = (AttP.d3 (InstP.a (@Prod.snd.{0, 0} Bool InstP (bestN T st v0))))) ∧ ((AttP.d4 (InstP.a (@Prod.snd.{0, 0} Bool InstP (bestN T st (List.length T))))) = (AttP.d4 (InstP.a (@Prod.snd.{0, 0} Bool InstP (bestN T st v0))))) ∧ ((AttP.d5 (InstP.a (@Prod.snd.{0, 0} Bool InstP (bestN T st (List.length T))))) = (AttP.d5 (InstP.a (@Prod.snd.{0, 0} Bool InstP (bestN T st v0))))) ∧ ((AttP.d6 (InstP.a (@Prod.snd.{0, 0} Bool InstP (bestN T st (List.length T))))) = (AttP.d6 (InstP.a (@Prod.snd.{0, 0} Bool InstP (bestN T st v0))))) ∧ ((@Prod.fst.{0, 0} Bool InstP (bestN T st (List.length T))) = (@Prod.fst.{0, 0} Bool InstP (bestN T st v0))) ∧ True) ∧ tt))))))) : inPbest0 T st :=
  Eq.mp (show _ = _ by kernel_rfl) h
theorem vcPswift0 (n : Int) (r : Int) (sl : Int) (T : (@List.{0} AV)) (h : (tt ∧ T1 ∧ T1 ∧ T1 ∧ tt ∧ T1 ∧ tt ∧ T1 ∧ tt ∧ T1 ∧ T1 ∧ T1 ∧ (@Exists.{1} (LoopInv.V (loopSw n r sl T)) (fun (v0 : Nat) => (((((AV.int Go.IntKind.i64 n) = (AV.int Go.IntKind.i64 n)) ∧ ((AV.ptr 4 0) = (AV.ptr 4 0)) ∧ ((AV.ptr 6 0) = (AV.ptr 6 0)) ∧ ((AV.ptr 8 0) = (AV.ptr 8 0)) ∧ ((AV.int Go.IntKind.i64 (0 : Int)) = (AV.int Go.IntKind.i64 (@Nat.cast Int _ (@Prod.fst.{0, 0} Nat InstP (swN T v0))))) ∧ ((AV.sl T Own.no) = (AV.sl T Own.no)) ∧ ((AV.int Go.IntKind.i64 (@Nat.cast Int _ (List.length T))) = (AV.int Go.IntKind.i64 (@Nat.cast Int _ (List.length T)))) ∧ ((AV.int Go.IntKind.i64 (0 : Int)) = (AV.int Go.IntKind.i64 (@Nat.cast Int _ v0))) ∧ True) ∧ (((@Option.some.{0} (@List.{0} AV) [(AV.int Go.IntKind.i64 r), (AV.int Go.IntKind.i64 sl)]) = (@Option.some.{0} (@List.{0} AV) [(AV.int Go.IntKind.i64 r), (AV.int Go.IntKind.i64 sl)])) ∧ ((@Option.some.{0} (@List.{0} AV) [(AV.int Go.IntKind.i64 (0 : Int)), (AV.int Go.IntKind.i64 (0 : Int)), (AV.int Go.IntKind.i64 (0 : Int)), (AV.int Go.IntKind.u32 (0 : Int)), (AV.int Go.IntKind.u32 (0 : Int)), (AV.bool false), (AV.int Go.IntKind.i64 (0 : Int)), (AV.int Go.IntKind.u64 (0 : Int)), (AV.str (@List.nil.{0} UInt8)), (AV.int Go.IntKind.u64 (0 : Int)), (AV.str (@List.nil.{0} UInt8)), (AV.int Go.IntKind.i64 (0 : Int)), (AV.int Go.IntKind.u64 (0 : Int)), (AV.int Go.IntKind.i64 (0 : Int)), (AV.int Go.IntKind.i64 (0 : Int)), (AV.int Go.IntKind.i64 (0 : Int)), (AV.int Go.IntKind.i64 (0 : Int)), (AV.int Go.IntKind.i64 (0 : Int)), (AV.int Go.IntKind.i64 (0 : Int)), (AV.int Go.IntKind.i64 (0 : Int)), (AV.int Go.IntKind.i64 (0 : Int)), (AV.int Go.IntKind.i64 (0 : Int))]) = (@Option.some.{0} (@List.{0} AV) [(AV.int Go.IntKind.i64 (0 : Int)), (AV.int Go.IntKind.i64 (0 : Int)), (AV.int Go.IntKind.i64 (0 : Int)), (AV.int Go.IntKind.u32 (0 : Int)), (AV.int Go.IntKind.u32 (0 : Int)), (AV.bool false), (AV.int Go.IntKind.i64 (0 : Int)), (AV.int Go.IntKind.u64 (0 : Int)), (AV.str (@List.nil.{0} UInt8)), (AV.int Go.IntKind.u64 (0 : Int)), (AV.str (@List.nil.{0} UInt8)), (AV.int Go.IntKind.i64 (0 : Int)), (AV.int Go.IntKind.u64 (0 : Int)), (AV.int Go.IntKind.i64 (0 : Int)), (AV.int Go.IntKind.i64 (0 : Int)), (AV.int Go.IntKind.i64 (0 : Int)), (AV.int Go.IntKind.i64 (0 : Int)), (AV.int Go.IntKind.i64 (0 : Int)), (AV.int Go.IntKind.i64 (0 : Int)), (AV.int Go.IntKind.i64 (0 : Int)), (AV.int Go.IntKind.i64 (0 : Int)), (AV.int Go.IntKind.i64 (0 : Int))])) ∧ ((@Option.some.{0} (@List.{0} AV) [(AV.int Go.IntKind.i64 (0 : Int)), (AV.int Go.IntKind.i64 (0 : Int)), (AV.int Go.IntKind.i64 (0 : Int)), (AV.int Go.IntKind.u32 (0 : Int)), (AV.int Go.IntKind.u32 (0 : Int)), (AV.bool false), (AV.int Go.IntKind.i64 (0 : Int)), (AV.int Go.IntKind.u64 (0 : Int)), (AV.str (@List.nil.{0} UInt8)), (AV.int Go.IntKind.u64 (0 : Int)), (AV.str (@List.nil.{0} UInt8)), (AV.int Go.IntKind.i64 (0 : Int)), (AV.int Go.IntKind.u64 (0 : Int)), (AV.int Go.IntKind.i64 (0 : Int)), (AV.int Go.IntKind.i64 (0 : Int)), (AV.int Go.IntKind.i64 (0 : Int)), (AV.int Go.IntKind.i64 (0 : Int)), (AV.int Go.IntKind.i64 (0 : Int)), (AV.int Go.IntKind.i64 (0 : Int)), (AV.int Go.IntKind.i64 (0 : Int)), (AV.int Go.IntKind.i64 (0 : Int)), (AV.int Go.IntKind.i64 (0 : Int))]) = (@Option.some.{0} (@List.{0} AV) [(AV.int Go.IntKind.i64 (InstP.r (@Prod.snd.{0, 0} Nat InstP (swN T v0)))), (AV.int Go.IntKind.i64 (InstP.sl (@Prod.snd.{0, 0} Nat InstP (swN T v0)))), (AV.int Go.IntKind.i64 (InstP.st (@Prod.snd.{0, 0} Nat InstP (swN T v0)))), (AV.int Go.IntKind.u32 (InstP.bal (@Prod.snd.{0, 0} Nat InstP (swN T v0)))), (AV.int Go.IntKind.u32 (InstP.vote (@Prod.snd.{0, 0} Nat InstP (swN T v0)))), (AV.bool (InstP.same (@Prod.snd.{0, 0} Nat InstP (swN T v0)))), (AV.int Go.IntKind.i64 (CmdP.k (InstP.c (@Prod.snd.{0, 0} Nat InstP (swN T v0))))), (AV.int Go.IntKind.u64 (CmdP.num (InstP.c (@Prod.snd.{0, 0} Nat InstP (swN T v0))))), (AV.str (CmdP.foot (InstP.c (@Prod.snd.{0, 0} Nat InstP (swN T v0))))), (AV.int Go.IntKind.u64 (CmdP.rq (InstP.c (@Prod.snd.{0, 0} Nat InstP (swN T v0))))), (AV.str (CmdP.path (InstP.c (@Prod.snd.{0, 0} Nat InstP (swN T v0))))), (AV.int Go.IntKind.i64 (CmdP.mode (InstP.c (@Prod.snd.{0, 0} Nat InstP (swN T v0))))), (AV.int Go.IntKind.u64 (CmdP.n (InstP.c (@Prod.snd.{0, 0} Nat InstP (swN T v0))))), (AV.int Go.IntKind.i64 (CmdP.time (InstP.c (@Prod.snd.{0, 0} Nat InstP (swN T v0))))), (AV.int Go.IntKind.i64 (AttP.s (InstP.a (@Prod.snd.{0, 0} Nat InstP (swN T v0))))), (AV.int Go.IntKind.i64 (AttP.d0 (InstP.a (@Prod.snd.{0, 0} Nat InstP (swN T v0))))), (AV.int Go.IntKind.i64 (AttP.d1 (InstP.a (@Prod.snd.{0, 0} Nat InstP (swN T v0))))), (AV.int Go.IntKind.i64 (AttP.d2 (InstP.a (@Prod.snd.{0, 0} Nat InstP (swN T v0))))), (AV.int Go.IntKind.i64 (AttP.d3 (InstP.a (@Prod.snd.{0, 0} Nat InstP (swN T v0))))), (AV.int Go.IntKind.i64 (AttP.d4 (InstP.a (@Prod.snd.{0, 0} Nat InstP (swN T v0))))), (AV.int Go.IntKind.i64 (AttP.d5 (InstP.a (@Prod.snd.{0, 0} Nat InstP (swN T v0))))), (AV.int Go.IntKind.i64 (AttP.d6 (InstP.a (@Prod.snd.{0, 0} Nat InstP (swN T v0)))))])) ∧ True) ∧ T1 ∧ tt ∧ tt) ∧ (v0 ≤ (List.length T))))) ∧ (∀ (v0 : Nat), (∀ (v1 : (v0 ≤ (List.length T))), (tt ∧ T1 ∧ (bif (decide ((@Nat.cast Int _ v0) < (@Nat.cast Int _ (List.length T)))) then (tt ∧ (((0 : Int) ≤ (@Nat.cast Int _ v0)) ∧ ((@Nat.cast Int _ v0) < (@Nat.cast Int _ (List.length T))) ∧ (okElem 23 T (Int.toNat (@Nat.cast Int _ v0)))) ∧ (okRead [(Kd.int Go.IntKind.i64), (Kd.int Go.IntKind.i64), (Kd.int Go.IntKind.i64), (Kd.int Go.IntKind.i64), (Kd.int Go.IntKind.u32), (Kd.int Go.IntKind.u32), Kd.bool, (Kd.int Go.IntKind.i64), (Kd.int Go.IntKind.u64), Kd.str, (Kd.int Go.IntKind.u64), Kd.str, (Kd.int Go.IntKind.i64), (Kd.int Go.IntKind.u64), (Kd.int Go.IntKind.i64), (Kd.int Go.IntKind.i64), (Kd.int Go.IntKind.i64), (Kd.int Go.IntKind.i64), (Kd.int Go.IntKind.i64), (Kd.int Go.IntKind.i64), (Kd.int Go.IntKind.i64), (Kd.int Go.IntKind.i64), (Kd.int Go.IntKind.i64)] (elemAt T (Int.toNat (@Nat.cast Int _ v0))) 0) ∧ T1 ∧ tt ∧ tt ∧ T1 ∧ tt ∧ T1 ∧ tt ∧ T1 ∧ (bif ((rdInt (elemAt T (Int.toNat (@Nat.cast Int _ v0))) 0) == r) then (tt ∧ T1 ∧ tt ∧ T1 ∧ tt ∧ tt ∧ (((InstP.r (@Prod.snd.{0, 0} Nat InstP (swN T (List.length T)))) = (0 : Int)) ∧ ((InstP.sl (@Prod.snd.{0, 0} Nat InstP (swN T (List.length T)))) = (0 : Int)) ∧ ((InstP.st (@Prod.snd.{0, 0} Nat InstP (swN T (List.length T)))) = (0 : Int)) ∧ ((InstP.bal (@Prod.snd.{0, 0} Nat InstP (swN T (List.length T)))) = (0 : Int)) ∧ ((InstP.vote (@Prod.snd.{0, 0} Nat InstP (swN T (List.length T)))) = (0 : Int)) ∧ ((InstP.same (@Prod.snd.{0, 0} Nat InstP (swN T (List.length T)))) = false) ∧ ((CmdP.k (InstP.c (@Prod.snd.{0, 0} Nat InstP (swN T (List.length T))))) = (0 : Int)) ∧ ((CmdP.num (InstP.c (@Prod.snd.{0, 0} Nat InstP (swN T (List.length T))))) = (0 : Int)) ∧ ((CmdP.foot (InstP.c (@Prod.snd.{0, 0} Nat InstP (swN T (List.length T))))) = (@List.nil.{0} UInt8)) ∧ ((CmdP.rq (InstP.c (@Prod.snd.{0, 0} Nat InstP (swN T (List.length T))))) = (0 : Int)) ∧ ((CmdP.path (InstP.c (@Prod.snd.{0, 0} Nat InstP (swN T (List.length T))))) = (@List.nil.{0} UInt8)) ∧ ((CmdP.mode (InstP.c (@Prod.snd.{0, 0} Nat InstP (swN T (List.length T))))) = (0 : Int)) ∧ ((CmdP.n (InstP.c (@Prod.snd.{0, 0} Nat InstP (swN T (List.length T))))) = (0 : Int)) ∧ ((CmdP.time (InstP.c (@Prod.snd.{0, 0} Nat InstP (swN T (List.length T))))) = (0 : Int)) ∧ ((AttP.s (InstP.a (@Prod.snd.{0, 0} Nat InstP (swN T (List.length T))))) = (0 : Int)) ∧ ((AttP.d0 (InstP.a (@Prod.snd.{0, 0} Nat InstP (swN T (List.length T))))) = (0 : Int)) ∧ ((AttP.d1 (InstP.a (@Prod.snd.{0, 0} Nat InstP (swN T (List.length T))))) = (0 : Int)) ∧ ((AttP.d2 (InstP.a (@Prod.snd.{0, 0} Nat InstP (swN T (List.length T))))) = (0 : Int)) ∧ ((AttP.d3 (InstP.a (@Prod.snd.{0, 0} Nat InstP (swN T (List.length T))))) = (0 : Int)) ∧ ((AttP.d4 (InstP.a (@Prod.snd.{0, 0} Nat InstP (swN T (List.length T))))) = (0 : Int)) ∧ ((AttP.d5 (InstP.a (@Prod.snd.{0, 0} Nat InstP (swN T (List.length T))))) = (0 : Int)) ∧ ((AttP.d6 (InstP.a (@Prod.snd.{0, 0} Nat InstP (swN T (List.length T))))) = (0 : Int)) ∧ ((decide ((fN n) ≤ (@Nat.cast Int _ (@Prod.fst.{0, 0} Nat InstP (swN T (List.length T)))))) = false) ∧ True) ∧ tt) else (tt ∧ T1 ∧ T1 ∧ tt ∧ T1 ∧ (bif (Bool.not (rdBool (elemAt T (Int.toNat (@Nat.cast Int _ v0))) 6)) then (tt ∧ T1 ∧ T1 ∧ (@Exists.{1} (LoopInv.V (loopSw n r sl T)) (fun (v2 : Nat) => (((((AV.int Go.IntKind.i64 n) = (AV.int Go.IntKind.i64 n)) ∧ ((AV.ptr 4 0) = (AV.ptr 4 0)) ∧ ((AV.ptr 6 0) = (AV.ptr 6 0)) ∧ ((AV.ptr 8 0) = (AV.ptr 8 0)) ∧ ((AV.int Go.IntKind.i64 (@Nat.cast Int _ (@Prod.fst.{0, 0} Nat InstP (swN T v0)))) = (AV.int Go.IntKind.i64 (@Nat.cast Int _ (@Prod.fst.{0, 0} Nat InstP (swN T v2))))) ∧ ((AV.sl T Own.no) = (AV.sl T Own.no)) ∧ ((AV.int Go.IntKind.i64 (@Nat.cast Int _ (List.length T))) = (AV.int Go.IntKind.i64 (@Nat.cast Int _ (List.length T)))) ∧ ((AV.int Go.IntKind.i64 (Go.IntKind.wrap Go.IntKind.i64 ((@Nat.cast Int _ v0) + (1 : Int)))) = (AV.int Go.IntKind.i64 (@Nat.cast Int _ v2))) ∧ True) ∧ (((@Option.some.{0} (@List.{0} AV) [(AV.int Go.IntKind.i64 r), (AV.int Go.IntKind.i64 sl)]) = (@Option.some.{0} (@List.{0} AV) [(AV.int Go.IntKind.i64 r), (AV.int Go.IntKind.i64 sl)])) ∧ ((@Option.some.{0} (@List.{0} AV) [(AV.int Go.IntKind.i64 (0 : Int)), (AV.int Go.IntKind.i64 (0 : Int)), (AV.int Go.IntKind.i64 (0 : Int)), (AV.int Go.IntKind.u32 (0 : Int)), (AV.int Go.IntKind.u32 (0 : Int)), (AV.bool false), (AV.int Go.IntKind.i64 (0 : Int)), (AV.int Go.IntKind.u64 (0 : Int)), (AV.str (@List.nil.{0} UInt8)), (AV.int Go.IntKind.u64 (0 : Int)), (AV.str (@List.nil.{0} UInt8)), (AV.int Go.IntKind.i64 (0 : Int)), (AV.int Go.IntKind.u64 (0 : Int)), (AV.int Go.IntKind.i64 (0 : Int)), (AV.int Go.IntKind.i64 (0 : Int)), (AV.int Go.IntKind.i64 (0 : Int)), (AV.int Go.IntKind.i64 (0 : Int)), (AV.int Go.IntKind.i64 (0 : Int)), (AV.int Go.IntKind.i64 (0 : Int)), (AV.int Go.IntKind.i64 (0 : Int)), (AV.int Go.IntKind.i64 (0 : Int)), (AV.int Go.IntKind.i64 (0 : Int))]) = (@Option.some.{0} (@List.{0} AV) [(AV.int Go.IntKind.i64 (0 : Int)), (AV.int Go.IntKind.i64 (0 : Int)), (AV.int Go.IntKind.i64 (0 : Int)), (AV.int Go.IntKind.u32 (0 : Int)), (AV.int Go.IntKind.u32 (0 : Int)), (AV.bool false), (AV.int Go.IntKind.i64 (0 : Int)), (AV.int Go.IntKind.u64 (0 : Int)), (AV.str (@List.nil.{0} UInt8)), (AV.int Go.IntKind.u64 (0 : Int)), (AV.str (@List.nil.{0} UInt8)), (AV.int Go.IntKind.i64 (0 : Int)), (AV.int Go.IntKind.u64 (0 : Int)), (AV.int Go.IntKind.i64 (0 : Int)), (AV.int Go.IntKind.i64 (0 : Int)), (AV.int Go.IntKind.i64 (0 : Int)), (AV.int Go.IntKind.i64 (0 : Int)), (AV.int Go.IntKind.i64 (0 : Int)), (AV.int Go.IntKind.i64 (0 : Int)), (AV.int Go.IntKind.i64 (0 : Int)), (AV.int Go.IntKind.i64 (0 : Int)), (AV.int Go.IntKind.i64 (0 : Int))])) ∧ ((@Option.some.{0} (@List.{0} AV) [(AV.int Go.IntKind.i64 (InstP.r (@Prod.snd.{0, 0} Nat InstP (swN T v0)))), (AV.int Go.IntKind.i64 (InstP.sl (@Prod.snd.{0, 0} Nat InstP (swN T v0)))), (AV.int Go.IntKind.i64 (InstP.st (@Prod.snd.{0, 0} Nat InstP (swN T v0)))), (AV.int Go.IntKind.u32 (InstP.bal (@Prod.snd.{0, 0} Nat InstP (swN T v0)))), (AV.int Go.IntKind.u32 (InstP.vote (@Prod.snd.{0, 0} Nat InstP (swN T v0)))), (AV.bool (InstP.same (@Prod.snd.{0, 0} Nat InstP (swN T v0)))), (AV.int Go.IntKind.i64 (CmdP.k (InstP.c (@Prod.snd.{0, 0} Nat InstP (swN T v0))))), (AV.int Go.IntKind.u64 (CmdP.num (InstP.c (@Prod.snd.{0, 0} Nat InstP (swN T v0))))), (AV.str (CmdP.foot (InstP.c (@Prod.snd.{0, 0} Nat InstP (swN T v0))))), (AV.int Go.IntKind.u64 (CmdP.rq (InstP.c (@Prod.snd.{0, 0} Nat InstP (swN T v0))))), (AV.str (CmdP.path (InstP.c (@Prod.snd.{0, 0} Nat InstP (swN T v0))))), (AV.int Go.IntKind.i64 (CmdP.mode (InstP.c (@Prod.snd.{0, 0} Nat InstP (swN T v0))))), (AV.int Go.IntKind.u64 (CmdP.n (InstP.c (@Prod.snd.{0, 0} Nat InstP (swN T v0))))), (AV.int Go.IntKind.i64 (CmdP.time (InstP.c (@Prod.snd.{0, 0} Nat InstP (swN T v0))))), (AV.int Go.IntKind.i64 (AttP.s (InstP.a (@Prod.snd.{0, 0} Nat InstP (swN T v0))))), (AV.int Go.IntKind.i64 (AttP.d0 (InstP.a (@Prod.snd.{0, 0} Nat InstP (swN T v0))))), (AV.int Go.IntKind.i64 (AttP.d1 (InstP.a (@Prod.snd.{0, 0} Nat InstP (swN T v0))))), (AV.int Go.IntKind.i64 (AttP.d2 (InstP.a (@Prod.snd.{0, 0} Nat InstP (swN T v0))))), (AV.int Go.IntKind.i64 (AttP.d3 (InstP.a (@Prod.snd.{0, 0} Nat InstP (swN T v0))))), (AV.int Go.IntKind.i64 (AttP.d4 (InstP.a (@Prod.snd.{0, 0} Nat InstP (swN T v0))))), (AV.int Go.IntKind.i64 (AttP.d5 (InstP.a (@Prod.snd.{0, 0} Nat InstP (swN T v0))))), (AV.int Go.IntKind.i64 (AttP.d6 (InstP.a (@Prod.snd.{0, 0} Nat InstP (swN T v0)))))]) = (@Option.some.{0} (@List.{0} AV) [(AV.int Go.IntKind.i64 (InstP.r (@Prod.snd.{0, 0} Nat InstP (swN T v2)))), (AV.int Go.IntKind.i64 (InstP.sl (@Prod.snd.{0, 0} Nat InstP (swN T v2)))), (AV.int Go.IntKind.i64 (InstP.st (@Prod.snd.{0, 0} Nat InstP (swN T v2)))), (AV.int Go.IntKind.u32 (InstP.bal (@Prod.snd.{0, 0} Nat InstP (swN T v2)))), (AV.int Go.IntKind.u32 (InstP.vote (@Prod.snd.{0, 0} Nat InstP (swN T v2)))), (AV.bool (InstP.same (@Prod.snd.{0, 0} Nat InstP (swN T v2)))), (AV.int Go.IntKind.i64 (CmdP.k (InstP.c (@Prod.snd.{0, 0} Nat InstP (swN T v2))))), (AV.int Go.IntKind.u64 (CmdP.num (InstP.c (@Prod.snd.{0, 0} Nat InstP (swN T v2))))), (AV.str (CmdP.foot (InstP.c (@Prod.snd.{0, 0} Nat InstP (swN T v2))))), (AV.int Go.IntKind.u64 (CmdP.rq (InstP.c (@Prod.snd.{0, 0} Nat InstP (swN T v2))))), (AV.str (CmdP.path (InstP.c (@Prod.snd.{0, 0} Nat InstP (swN T v2))))), (AV.int Go.IntKind.i64 (CmdP.mode (InstP.c (@Prod.snd.{0, 0} Nat InstP (swN T v2))))), (AV.int Go.IntKind.u64 (CmdP.n (InstP.c (@Prod.snd.{0, 0} Nat InstP (swN T v2))))), (AV.int Go.IntKind.i64 (CmdP.time (InstP.c (@Prod.snd.{0, 0} Nat InstP (swN T v2))))), (AV.int Go.IntKind.i64 (AttP.s (InstP.a (@Prod.snd.{0, 0} Nat InstP (swN T v2))))), (AV.int Go.IntKind.i64 (AttP.d0 (InstP.a (@Prod.snd.{0, 0} Nat InstP (swN T v2))))), (AV.int Go.IntKind.i64 (AttP.d1 (InstP.a (@Prod.snd.{0, 0} Nat InstP (swN T v2))))), (AV.int Go.IntKind.i64 (AttP.d2 (InstP.a (@Prod.snd.{0, 0} Nat InstP (swN T v2))))), (AV.int Go.IntKind.i64 (AttP.d3 (InstP.a (@Prod.snd.{0, 0} Nat InstP (swN T v2))))), (AV.int Go.IntKind.i64 (AttP.d4 (InstP.a (@Prod.snd.{0, 0} Nat InstP (swN T v2))))), (AV.int Go.IntKind.i64 (AttP.d5 (InstP.a (@Prod.snd.{0, 0} Nat InstP (swN T v2))))), (AV.int Go.IntKind.i64 (AttP.d6 (InstP.a (@Prod.snd.{0, 0} Nat InstP (swN T v2)))))])) ∧ True) ∧ T1 ∧ tt ∧ tt) ∧ (v2 ≤ (List.length T)) ∧ (((List.length T) - v2) < ((List.length T) - v0)))))) else (tt ∧ T1 ∧ T1 ∧ (bif ((@Nat.cast Int _ (@Prod.fst.{0, 0} Nat InstP (swN T v0))) == (0 : Int)) then (tt ∧ T1 ∧ tt ∧ tt ∧ tt ∧ T1 ∧ T1 ∧ T1 ∧ tt ∧ T1 ∧ T1 ∧ (@Exists.{1} (LoopInv.V (loopSw n r sl T)) (fun (v2 : Nat) => (((((AV.int Go.IntKind.i64 n) = (AV.int Go.IntKind.i64 n)) ∧ ((AV.ptr 4 0) = (AV.ptr 4 0)) ∧ ((AV.ptr 6 0) = (AV.ptr 6 0)) ∧ ((AV.ptr 8 0) = (AV.ptr 8 0)) ∧ ((AV.int Go.IntKind.i64 (Go.IntKind.wrap Go.IntKind.i64 ((@Nat.cast Int _ (@Prod.fst.{0, 0} Nat InstP (swN T v0))) + (1 : Int)))) = (AV.int Go.IntKind.i64 (@Nat.cast Int _ (@Prod.fst.{0, 0} Nat InstP (swN T v2))))) ∧ ((AV.sl T Own.no) = (AV.sl T Own.no)) ∧ ((AV.int Go.IntKind.i64 (@Nat.cast Int _ (List.length T))) = (AV.int Go.IntKind.i64 (@Nat.cast Int _ (List.length T)))) ∧ ((AV.int Go.IntKind.i64 (Go.IntKind.wrap Go.IntKind.i64 ((@Nat.cast Int _ v0) + (1 : Int)))) = (AV.int Go.IntKind.i64 (@Nat.cast Int _ v2))) ∧ True) ∧ (((@Option.some.{0} (@List.{0} AV) [(AV.int Go.IntKind.i64 r), (AV.int Go.IntKind.i64 sl)]) = (@Option.some.{0} (@List.{0} AV) [(AV.int Go.IntKind.i64 r), (AV.int Go.IntKind.i64 sl)])) ∧ ((@Option.some.{0} (@List.{0} AV) [(AV.int Go.IntKind.i64 (0 : Int)), (AV.int Go.IntKind.i64 (0 : Int)), (AV.int Go.IntKind.i64 (0 : Int)), (AV.int Go.IntKind.u32 (0 : Int)), (AV.int Go.IntKind.u32 (0 : Int)), (AV.bool false), (AV.int Go.IntKind.i64 (0 : Int)), (AV.int Go.IntKind.u64 (0 : Int)), (AV.str (@List.nil.{0} UInt8)), (AV.int Go.IntKind.u64 (0 : Int)), (AV.str (@List.nil.{0} UInt8)), (AV.int Go.IntKind.i64 (0 : Int)), (AV.int Go.IntKind.u64 (0 : Int)), (AV.int Go.IntKind.i64 (0 : Int)), (AV.int Go.IntKind.i64 (0 : Int)), (AV.int Go.IntKind.i64 (0 : Int)), (AV.int Go.IntKind.i64 (0 : Int)), (AV.int Go.IntKind.i64 (0 : Int)), (AV.int Go.IntKind.i64 (0 : Int)), (AV.int Go.IntKind.i64 (0 : Int)), (AV.int Go.IntKind.i64 (0 : Int)), (AV.int Go.IntKind.i64 (0 : Int))]) = (@Option.some.{0} (@List.{0} AV) [(AV.int Go.IntKind.i64 (0 : Int)), (AV.int Go.IntKind.i64 (0 : Int)), (AV.int Go.IntKind.i64 (0 : Int)), (AV.int Go.IntKind.u32 (0 : Int)), (AV.int Go.IntKind.u32 (0 : Int)), (AV.bool false), (AV.int Go.IntKind.i64 (0 : Int)), (AV.int Go.IntKind.u64 (0 : Int)), (AV.str (@List.nil.{0} UInt8)), (AV.int Go.IntKind.u64 (0 : Int)), (AV.str (@List.nil.{0} UInt8)), (AV.int Go.IntKind.i64 (0 : Int)), (AV.int Go.IntKind.u64 (0 : Int)), (AV.int Go.IntKind.i64 (0 : Int)), (AV.int Go.IntKind.i64 (0 : Int)), (AV.int Go.IntKind.i64 (0 : Int)), (AV.int Go.IntKind.i64 (0 : Int)), (AV.int Go.IntKind.i64 (0 : Int)), (AV.int Go.IntKind.i64 (0 : Int)), (AV.int Go.IntKind.i64 (0 : Int)), (AV.int Go.IntKind.i64 (0 : Int)), (AV.int Go.IntKind.i64 (0 : Int))])) ∧ ((@Option.some.{0} (@List.{0} AV) [(AV.int Go.IntKind.i64 (rdInt (elemAt T (Int.toNat (@Nat.cast Int _ v0))) 1)), (AV.int Go.IntKind.i64 (rdInt (elemAt T (Int.toNat (@Nat.cast Int _ v0))) 2)), (AV.int Go.IntKind.i64 (rdInt (elemAt T (Int.toNat (@Nat.cast Int _ v0))) 3)), (AV.int Go.IntKind.u32 (rdInt (elemAt T (Int.toNat (@Nat.cast Int _ v0))) 4)), (AV.int Go.IntKind.u32 (rdInt (elemAt T (Int.toNat (@Nat.cast Int _ v0))) 5)), (AV.bool (rdBool (elemAt T (Int.toNat (@Nat.cast Int _ v0))) 6)), (AV.int Go.IntKind.i64 (rdInt (elemAt T (Int.toNat (@Nat.cast Int _ v0))) 7)), (AV.int Go.IntKind.u64 (rdInt (elemAt T (Int.toNat (@Nat.cast Int _ v0))) 8)), (AV.str (rdStr (elemAt T (Int.toNat (@Nat.cast Int _ v0))) 9)), (AV.int Go.IntKind.u64 (rdInt (elemAt T (Int.toNat (@Nat.cast Int _ v0))) 10)), (AV.str (rdStr (elemAt T (Int.toNat (@Nat.cast Int _ v0))) 11)), (AV.int Go.IntKind.i64 (rdInt (elemAt T (Int.toNat (@Nat.cast Int _ v0))) 12)), (AV.int Go.IntKind.u64 (rdInt (elemAt T (Int.toNat (@Nat.cast Int _ v0))) 13)), (AV.int Go.IntKind.i64 (rdInt (elemAt T (Int.toNat (@Nat.cast Int _ v0))) 14)), (AV.int Go.IntKind.i64 (rdInt (elemAt T (Int.toNat (@Nat.cast Int _ v0))) 15)), (AV.int Go.IntKind.i64 (rdInt (elemAt T (Int.toNat (@Nat.cast Int _ v0))) 16)), (AV.int Go.IntKind.i64 (rdInt (elemAt T (Int.toNat (@Nat.cast Int _ v0))) 17)), (AV.int Go.IntKind.i64 (rdInt (elemAt T (Int.toNat (@Nat.cast Int _ v0))) 18)), (AV.int Go.IntKind.i64 (rdInt (elemAt T (Int.toNat (@Nat.cast Int _ v0))) 19)), (AV.int Go.IntKind.i64 (rdInt (elemAt T (Int.toNat (@Nat.cast Int _ v0))) 20)), (AV.int Go.IntKind.i64 (rdInt (elemAt T (Int.toNat (@Nat.cast Int _ v0))) 21)), (AV.int Go.IntKind.i64 (rdInt (elemAt T (Int.toNat (@Nat.cast Int _ v0))) 22))]) = (@Option.some.{0} (@List.{0} AV) [(AV.int Go.IntKind.i64 (InstP.r (@Prod.snd.{0, 0} Nat InstP (swN T v2)))), (AV.int Go.IntKind.i64 (InstP.sl (@Prod.snd.{0, 0} Nat InstP (swN T v2)))), (AV.int Go.IntKind.i64 (InstP.st (@Prod.snd.{0, 0} Nat InstP (swN T v2)))), (AV.int Go.IntKind.u32 (InstP.bal (@Prod.snd.{0, 0} Nat InstP (swN T v2)))), (AV.int Go.IntKind.u32 (InstP.vote (@Prod.snd.{0, 0} Nat InstP (swN T v2)))), (AV.bool (InstP.same (@Prod.snd.{0, 0} Nat InstP (swN T v2)))), (AV.int Go.IntKind.i64 (CmdP.k (InstP.c (@Prod.snd.{0, 0} Nat InstP (swN T v2))))), (AV.int Go.IntKind.u64 (CmdP.num (InstP.c (@Prod.snd.{0, 0} Nat InstP (swN T v2))))), (AV.str (CmdP.foot (InstP.c (@Prod.snd.{0, 0} Nat InstP (swN T v2))))), (AV.int Go.IntKind.u64 (CmdP.rq (InstP.c (@Prod.snd.{0, 0} Nat InstP (swN T v2))))), (AV.str (CmdP.path (InstP.c (@Prod.snd.{0, 0} Nat InstP (swN T v2))))), (AV.int Go.IntKind.i64 (CmdP.mode (InstP.c (@Prod.snd.{0, 0} Nat InstP (swN T v2))))), (AV.int Go.IntKind.u64 (CmdP.n (InstP.c (@Prod.snd.{0, 0} Nat InstP (swN T v2))))), (AV.int Go.IntKind.i64 (CmdP.time (InstP.c (@Prod.snd.{0, 0} Nat InstP (swN T v2))))), (AV.int Go.IntKind.i64 (AttP.s (InstP.a (@Prod.snd.{0, 0} Nat InstP (swN T v2))))), (AV.int Go.IntKind.i64 (AttP.d0 (InstP.a (@Prod.snd.{0, 0} Nat InstP (swN T v2))))), (AV.int Go.IntKind.i64 (AttP.d1 (InstP.a (@Prod.snd.{0, 0} Nat InstP (swN T v2))))), (AV.int Go.IntKind.i64 (AttP.d2 (InstP.a (@Prod.snd.{0, 0} Nat InstP (swN T v2))))), (AV.int Go.IntKind.i64 (AttP.d3 (InstP.a (@Prod.snd.{0, 0} Nat InstP (swN T v2))))), (AV.int Go.IntKind.i64 (AttP.d4 (InstP.a (@Prod.snd.{0, 0} Nat InstP (swN T v2))))), (AV.int Go.IntKind.i64 (AttP.d5 (InstP.a (@Prod.snd.{0, 0} Nat InstP (swN T v2))))), (AV.int Go.IntKind.i64 (AttP.d6 (InstP.a (@Prod.snd.{0, 0} Nat InstP (swN T v2)))))])) ∧ True) ∧ T1 ∧ tt ∧ tt) ∧ (v2 ≤ (List.length T)) ∧ (((List.length T) - v2) < ((List.length T) - v0)))))) else (tt ∧ T1 ∧ T1 ∧ T1 ∧ tt ∧ T1 ∧ T1 ∧ (@Exists.{1} (LoopInv.V (loopSw n r sl T)) (fun (v2 : Nat) => (((((AV.int Go.IntKind.i64 n) = (AV.int Go.IntKind.i64 n)) ∧ ((AV.ptr 4 0) = (AV.ptr 4 0)) ∧ ((AV.ptr 6 0) = (AV.ptr 6 0)) ∧ ((AV.ptr 8 0) = (AV.ptr 8 0)) ∧ ((AV.int Go.IntKind.i64 (Go.IntKind.wrap Go.IntKind.i64 ((@Nat.cast Int _ (@Prod.fst.{0, 0} Nat InstP (swN T v0))) + (1 : Int)))) = (AV.int Go.IntKind.i64 (@Nat.cast Int _ (@Prod.fst.{0, 0} Nat InstP (swN T v2))))) ∧ ((AV.sl T Own.no) = (AV.sl T Own.no)) ∧ ((AV.int Go.IntKind.i64 (@Nat.cast Int _ (List.length T))) = (AV.int Go.IntKind.i64 (@Nat.cast Int _ (List.length T)))) ∧ ((AV.int Go.IntKind.i64 (Go.IntKind.wrap Go.IntKind.i64 ((@Nat.cast Int _ v0) + (1 : Int)))) = (AV.int Go.IntKind.i64 (@Nat.cast Int _ v2))) ∧ True) ∧ (((@Option.some.{0} (@List.{0} AV) [(AV.int Go.IntKind.i64 r), (AV.int Go.IntKind.i64 sl)]) = (@Option.some.{0} (@List.{0} AV) [(AV.int Go.IntKind.i64 r), (AV.int Go.IntKind.i64 sl)])) ∧ ((@Option.some.{0} (@List.{0} AV) [(AV.int Go.IntKind.i64 (0 : Int)), (AV.int Go.IntKind.i64 (0 : Int)), (AV.int Go.IntKind.i64 (0 : Int)), (AV.int Go.IntKind.u32 (0 : Int)), (AV.int Go.IntKind.u32 (0 : Int)), (AV.bool false), (AV.int Go.IntKind.i64 (0 : Int)), (AV.int Go.IntKind.u64 (0 : Int)), (AV.str (@List.nil.{0} UInt8)), (AV.int Go.IntKind.u64 (0 : Int)), (AV.str (@List.nil.{0} UInt8)), (AV.int Go.IntKind.i64 (0 : Int)), (AV.int Go.IntKind.u64 (0 : Int)), (AV.int Go.IntKind.i64 (0 : Int)), (AV.int Go.IntKind.i64 (0 : Int)), (AV.int Go.IntKind.i64 (0 : Int)), (AV.int Go.IntKind.i64 (0 : Int)), (AV.int Go.IntKind.i64 (0 : Int)), (AV.int Go.IntKind.i64 (0 : Int)), (AV.int Go.IntKind.i64 (0 : Int)), (AV.int Go.IntKind.i64 (0 : Int)), (AV.int Go.IntKind.i64 (0 : Int))]) = (@Option.some.{0} (@List.{0} AV) [(AV.int Go.IntKind.i64 (0 : Int)), (AV.int Go.IntKind.i64 (0 : Int)), (AV.int Go.IntKind.i64 (0 : Int)), (AV.int Go.IntKind.u32 (0 : Int)), (AV.int Go.IntKind.u32 (0 : Int)), (AV.bool false), (AV.int Go.IntKind.i64 (0 : Int)), (AV.int Go.IntKind.u64 (0 : Int)), (AV.str (@List.nil.{0} UInt8)), (AV.int Go.IntKind.u64 (0 : Int)), (AV.str (@List.nil.{0} UInt8)), (AV.int Go.IntKind.i64 (0 : Int)), (AV.int Go.IntKind.u64 (0 : Int)), (AV.int Go.IntKind.i64 (0 : Int)), (AV.int Go.IntKind.i64 (0 : Int)), (AV.int Go.IntKind.i64 (0 : Int)), (AV.int Go.IntKind.i64 (0 : Int)), (AV.int Go.IntKind.i64 (0 : Int)), (AV.int Go.IntKind.i64 (0 : Int)), (AV.int Go.IntKind.i64 (0 : Int)), (AV.int Go.IntKind.i64 (0 : Int)), (AV.int Go.IntKind.i64 (0 : Int))])) ∧ ((@Option.some.{0} (@List.{0} AV) [(AV.int Go.IntKind.i64 (InstP.r (@Prod.snd.{0, 0} Nat InstP (swN T v0)))), (AV.int Go.IntKind.i64 (InstP.sl (@Prod.snd.{0, 0} Nat InstP (swN T v0)))), (AV.int Go.IntKind.i64 (InstP.st (@Prod.snd.{0, 0} Nat InstP (swN T v0)))), (AV.int Go.IntKind.u32 (InstP.bal (@Prod.snd.{0, 0} Nat InstP (swN T v0)))), (AV.int Go.IntKind.u32 (InstP.vote (@Prod.snd.{0, 0} Nat InstP (swN T v0)))), (AV.bool (InstP.same (@Prod.snd.{0, 0} Nat InstP (swN T v0)))), (AV.int Go.IntKind.i64 (CmdP.k (InstP.c (@Prod.snd.{0, 0} Nat InstP (swN T v0))))), (AV.int Go.IntKind.u64 (CmdP.num (InstP.c (@Prod.snd.{0, 0} Nat InstP (swN T v0))))), (AV.str (CmdP.foot (InstP.c (@Prod.snd.{0, 0} Nat InstP (swN T v0))))), (AV.int Go.IntKind.u64 (CmdP.rq (InstP.c (@Prod.snd.{0, 0} Nat InstP (swN T v0))))), (AV.str (CmdP.path (InstP.c (@Prod.snd.{0, 0} Nat InstP (swN T v0))))), (AV.int Go.IntKind.i64 (CmdP.mode (InstP.c (@Prod.snd.{0, 0} Nat InstP (swN T v0))))), (AV.int Go.IntKind.u64 (CmdP.n (InstP.c (@Prod.snd.{0, 0} Nat InstP (swN T v0))))), (AV.int Go.IntKind.i64 (CmdP.time (InstP.c (@Prod.snd.{0, 0} Nat InstP (swN T v0))))), (AV.int Go.IntKind.i64 (AttP.s (InstP.a (@Prod.snd.{0, 0} Nat InstP (swN T v0))))), (AV.int Go.IntKind.i64 (AttP.d0 (InstP.a (@Prod.snd.{0, 0} Nat InstP (swN T v0))))), (AV.int Go.IntKind.i64 (AttP.d1 (InstP.a (@Prod.snd.{0, 0} Nat InstP (swN T v0))))), (AV.int Go.IntKind.i64 (AttP.d2 (InstP.a (@Prod.snd.{0, 0} Nat InstP (swN T v0))))), (AV.int Go.IntKind.i64 (AttP.d3 (InstP.a (@Prod.snd.{0, 0} Nat InstP (swN T v0))))), (AV.int Go.IntKind.i64 (AttP.d4 (InstP.a (@Prod.snd.{0, 0} Nat InstP (swN T v0))))), (AV.int Go.IntKind.i64 (AttP.d5 (InstP.a (@Prod.snd.{0, 0} Nat InstP (swN T v0))))), (AV.int Go.IntKind.i64 (AttP.d6 (InstP.a (@Prod.snd.{0, 0} Nat InstP (swN T v0)))))]) = (@Option.some.{0} (@List.{0} AV) [(AV.int Go.IntKind.i64 (InstP.r (@Prod.snd.{0, 0} Nat InstP (swN T v2)))), (AV.int Go.IntKind.i64 (InstP.sl (@Prod.snd.{0, 0} Nat InstP (swN T v2)))), (AV.int Go.IntKind.i64 (InstP.st (@Prod.snd.{0, 0} Nat InstP (swN T v2)))), (AV.int Go.IntKind.u32 (InstP.bal (@Prod.snd.{0, 0} Nat InstP (swN T v2)))), (AV.int Go.IntKind.u32 (InstP.vote (@Prod.snd.{0, 0} Nat InstP (swN T v2)))), (AV.bool (InstP.same (@Prod.snd.{0, 0} Nat InstP (swN T v2)))), (AV.int Go.IntKind.i64 (CmdP.k (InstP.c (@Prod.snd.{0, 0} Nat InstP (swN T v2))))), (AV.int Go.IntKind.u64 (CmdP.num (InstP.c (@Prod.snd.{0, 0} Nat InstP (swN T v2))))), (AV.str (CmdP.foot (InstP.c (@Prod.snd.{0, 0} Nat InstP (swN T v2))))), (AV.int Go.IntKind.u64 (CmdP.rq (InstP.c (@Prod.snd.{0, 0} Nat InstP (swN T v2))))), (AV.str (CmdP.path (InstP.c (@Prod.snd.{0, 0} Nat InstP (swN T v2))))), (AV.int Go.IntKind.i64 (CmdP.mode (InstP.c (@Prod.snd.{0, 0} Nat InstP (swN T v2))))), (AV.int Go.IntKind.u64 (CmdP.n (InstP.c (@Prod.snd.{0, 0} Nat InstP (swN T v2))))), (AV.int Go.IntKind.i64 (CmdP.time (InstP.c (@Prod.snd.{0, 0} Nat InstP (swN T v2))))), (AV.int Go.IntKind.i64 (AttP.s (InstP.a (@Prod.snd.{0, 0} Nat InstP (swN T v2))))), (AV.int Go.IntKind.i64 (AttP.d0 (InstP.a (@Prod.snd.{0, 0} Nat InstP (swN T v2))))), (AV.int Go.IntKind.i64 (AttP.d1 (InstP.a (@Prod.snd.{0, 0} Nat InstP (swN T v2))))), (AV.int Go.IntKind.i64 (AttP.d2 (InstP.a (@Prod.snd.{0, 0} Nat InstP (swN T v2))))), (AV.int Go.IntKind.i64 (AttP.d3 (InstP.a (@Prod.snd.{0, 0} Nat InstP (swN T v2))))), (AV.int Go.IntKind.i64 (AttP.d4 (InstP.a (@Prod.snd.{0, 0} Nat InstP (swN T v2))))), (AV.int Go.IntKind.i64 (AttP.d5 (InstP.a (@Prod.snd.{0, 0} Nat InstP (swN T v2))))), (AV.int Go.IntKind.i64 (AttP.d6 (InstP.a (@Prod.snd.{0, 0} Nat InstP (swN T v2)))))])) ∧ True) ∧ T1 ∧ tt ∧ tt) ∧ (v2 ≤ (List.length T)) ∧ (((List.length T) - v2) < ((List.length T) - v0)))))))))))) else (tt ∧ tt ∧ T1 ∧ T1 ∧ (T1 ∧ True) ∧ (∀ (v2 : Int), (∀ (v3 : (v2 = (fN n))), (T1 ∧ tt ∧ T1 ∧ tt ∧ tt ∧ tt ∧ (((InstP.r (@Prod.snd.{0, 0} Nat InstP (swN T (List.length T)))) = (InstP.r (@Prod.snd.{0, 0} Nat InstP (swN T v0)))) ∧ ((InstP.sl (@Prod.snd.{0, 0} Nat InstP (swN T (List.length T)))) = (InstP.sl (@Prod.snd.{0, 0} Nat InstP (swN T v0)))) ∧ ((InstP.st (@Prod.snd.{0, 0} Nat InstP (swN T (List.length T)))) = (InstP.st (@Prod.snd.{0, 0} Nat InstP (swN T v0)))) ∧ ((InstP.bal (@Prod.snd.{0, 0} Nat InstP (swN T (List.length T)))) = (InstP.bal (@Prod.snd.{0, 0} Nat InstP (swN T v0)))) ∧ ((InstP.vote (@Prod.snd.{0, 0} Nat InstP (swN T (List.length T)))) = (InstP.vote (@Prod.snd.{0, 0} Nat InstP (swN T v0)))) ∧ ((InstP.same (@Prod.snd.{0, 0} Nat InstP (swN T (List.length T)))) = (InstP.same (@Prod.snd.{0, 0} Nat InstP (swN T v0)))) ∧ ((CmdP.k (InstP.c (@Prod.snd.{0, 0} Nat InstP (swN T (List.length T))))) = (CmdP.k (InstP.c (@Prod.snd.{0, 0} Nat InstP (swN T v0))))) ∧ ((CmdP.num (InstP.c (@Prod.snd.{0, 0} Nat InstP (swN T (List.length T))))) = (CmdP.num (InstP.c (@Prod.snd.{0, 0} Nat InstP (swN T v0))))) ∧ ((CmdP.foot (InstP.c (@Prod.snd.{0, 0} Nat InstP (swN T (List.length T))))) = (CmdP.foot (InstP.c (@Prod.snd.{0, 0} Nat InstP (swN T v0))))) ∧ ((CmdP.rq (InstP.c (@Prod.snd.{0, 0} Nat InstP (swN T (List.length T))))) = (CmdP.rq (InstP.c (@Prod.snd.{0, 0} Nat InstP (swN T v0))))) ∧ ((CmdP.path (InstP.c (@Prod.snd.{0, 0} Nat InstP (swN T (List.length T))))) = (CmdP.path (InstP.c (@Prod.snd.{0, 0} Nat InstP (swN T v0))))) ∧ ((CmdP.mode (InstP.c (@Prod.snd.{0, 0} Nat InstP (swN T (List.length T))))) = (CmdP.mode (InstP.c (@Prod.snd.{0, 0} Nat InstP (swN T v0))))) ∧ ((CmdP.n (InstP.c (@Prod.snd.{0, 0} Nat InstP (swN T (List.length T))))) = (CmdP.n (InstP.c (@Prod.snd.{0, 0} Nat InstP (swN T v0))))) ∧ ((CmdP.time (InstP.c (@Prod.snd.{0, 0} Nat InstP (swN T (List.length T))))) = (CmdP.time (InstP.c (@Prod.snd.{0, 0} Nat InstP (swN T v0))))) ∧ ((AttP.s (InstP.a (@Prod.snd.{0, 0} Nat InstP (swN T (List.length T))))) = (AttP.s (InstP.a (@Prod.snd.{0, 0} Nat InstP (swN T v0))))) ∧ ((AttP.d0 (InstP.a (@Prod.snd.{0, 0} Nat InstP (swN T (List.length T))))) = (AttP.d0 (InstP.a (@Prod.snd.{0, 0} Nat InstP (swN T v0))))) ∧ ((AttP.d1 (InstP.a (@Prod.snd.{0, 0} Nat InstP (swN T (List.length T))))) = (AttP.d1 (InstP.a (@Prod.snd.{0, 0} Nat InstP (swN T v0))))) ∧ ((AttP.d2 (InstP.a (@Prod.snd.{0, 0} Nat InstP (swN T (List.length T))))) = (AttP.d2 (InstP.a (@Prod.snd.{0, 0} Nat InstP (swN T v0))))) ∧ ((AttP.d3 (InstP.a (@Prod.snd.{0, 0} Nat InstP (swN T (List.length T))))) = (AttP.d3 (InstP.a (@Prod.snd.{0, 0} Nat InstP (swN T v0))))) ∧ ((AttP.d4 (InstP.a (@Prod.snd.{0, 0} Nat InstP (swN T (List.length T))))) = (AttP.d4 (InstP.a (@Prod.snd.{0, 0} Nat InstP (swN T v0))))) ∧ ((AttP.d5 (InstP.a (@Prod.snd.{0, 0} Nat InstP (swN T (List.length T))))) = (AttP.d5 (InstP.a (@Prod.snd.{0, 0} Nat InstP (swN T v0))))) ∧ ((AttP.d6 (InstP.a (@Prod.snd.{0, 0} Nat InstP (swN T (List.length T))))) = (AttP.d6 (InstP.a (@Prod.snd.{0, 0} Nat InstP (swN T v0))))) ∧ ((decide ((fN n) ≤ (@Nat.cast Int _ (@Prod.fst.{0, 0} Nat InstP (swN T (List.length T)))))) = (decide (v2 ≤ (@Nat.cast Int _ (@Prod.fst.{0, 0} Nat InstP (swN T v0)))))) ∧ True) ∧ tt)))))))))) : inPswift0 n r sl T :=
  Eq.mp (show _ = _ by kernel_rfl) h
theorem vcPmerged0 (T : (@List.{0} AV)) (h : (tt ∧ T1 ∧ tt ∧ T1 ∧ tt ∧ T1 ∧ T1 ∧ T1 ∧ (@Exists.{1} (LoopInv.V (loopMer T)) (fun (v0 : Nat) => (((((AV.ptr 2 0) = (AV.ptr 2 0)) ∧ ((AV.ptr 3 0) = (AV.ptr 3 0)) ∧ ((AV.sl T Own.no) = (AV.sl T Own.no)) ∧ ((AV.int Go.IntKind.i64 (@Nat.cast Int _ (List.length T))) = (AV.int Go.IntKind.i64 (@Nat.cast Int _ (List.length T)))) ∧ ((AV.int Go.IntKind.i64 (0 : Int)) = (AV.int Go.IntKind.i64 (@Nat.cast Int _ v0))) ∧ True) ∧ (((@Option.some.{0} (@List.{0} AV) [(AV.int Go.IntKind.i64 (0 : Int)), (AV.int Go.IntKind.i64 (0 : Int)), (AV.int Go.IntKind.i64 (0 : Int)), (AV.int Go.IntKind.i64 (0 : Int)), (AV.int Go.IntKind.i64 (0 : Int)), (AV.int Go.IntKind.i64 (0 : Int)), (AV.int Go.IntKind.i64 (0 : Int)), (AV.int Go.IntKind.i64 (0 : Int))]) = (@Option.some.{0} (@List.{0} AV) [(AV.int Go.IntKind.i64 (0 : Int)), (AV.int Go.IntKind.i64 (0 : Int)), (AV.int Go.IntKind.i64 (0 : Int)), (AV.int Go.IntKind.i64 (0 : Int)), (AV.int Go.IntKind.i64 (0 : Int)), (AV.int Go.IntKind.i64 (0 : Int)), (AV.int Go.IntKind.i64 (0 : Int)), (AV.int Go.IntKind.i64 (0 : Int))])) ∧ ((@Option.some.{0} (@List.{0} AV) [(AV.int Go.IntKind.i64 (0 : Int)), (AV.int Go.IntKind.i64 (0 : Int)), (AV.int Go.IntKind.i64 (0 : Int)), (AV.int Go.IntKind.i64 (0 : Int)), (AV.int Go.IntKind.i64 (0 : Int)), (AV.int Go.IntKind.i64 (0 : Int)), (AV.int Go.IntKind.i64 (0 : Int)), (AV.int Go.IntKind.i64 (0 : Int))]) = (@Option.some.{0} (@List.{0} AV) [(AV.int Go.IntKind.i64 (AttP.s (mergedP T v0))), (AV.int Go.IntKind.i64 (AttP.d0 (mergedP T v0))), (AV.int Go.IntKind.i64 (AttP.d1 (mergedP T v0))), (AV.int Go.IntKind.i64 (AttP.d2 (mergedP T v0))), (AV.int Go.IntKind.i64 (AttP.d3 (mergedP T v0))), (AV.int Go.IntKind.i64 (AttP.d4 (mergedP T v0))), (AV.int Go.IntKind.i64 (AttP.d5 (mergedP T v0))), (AV.int Go.IntKind.i64 (AttP.d6 (mergedP T v0)))])) ∧ True) ∧ T1 ∧ tt ∧ tt) ∧ (v0 ≤ (List.length T))))) ∧ (∀ (v0 : Nat), (∀ (v1 : (v0 ≤ (List.length T))), (tt ∧ T1 ∧ (bif (decide ((@Nat.cast Int _ v0) < (@Nat.cast Int _ (List.length T)))) then (tt ∧ (((0 : Int) ≤ (@Nat.cast Int _ v0)) ∧ ((@Nat.cast Int _ v0) < (@Nat.cast Int _ (List.length T))) ∧ (okElem 23 T (Int.toNat (@Nat.cast Int _ v0)))) ∧ (okRead [(Kd.int Go.IntKind.i64), (Kd.int Go.IntKind.i64), (Kd.int Go.IntKind.i64), (Kd.int Go.IntKind.i64), (Kd.int Go.IntKind.u32), (Kd.int Go.IntKind.u32), Kd.bool, (Kd.int Go.IntKind.i64), (Kd.int Go.IntKind.u64), Kd.str, (Kd.int Go.IntKind.u64), Kd.str, (Kd.int Go.IntKind.i64), (Kd.int Go.IntKind.u64), (Kd.int Go.IntKind.i64), (Kd.int Go.IntKind.i64), (Kd.int Go.IntKind.i64), (Kd.int Go.IntKind.i64), (Kd.int Go.IntKind.i64), (Kd.int Go.IntKind.i64), (Kd.int Go.IntKind.i64), (Kd.int Go.IntKind.i64), (Kd.int Go.IntKind.i64)] (elemAt T (Int.toNat (@Nat.cast Int _ v0))) 0) ∧ T1 ∧ tt ∧ tt ∧ T1 ∧ T1 ∧ tt ∧ T1 ∧ (bif ((rdInt (elemAt T (Int.toNat (@Nat.cast Int _ v0))) 3) == (1 : Int)) then (tt ∧ tt ∧ T1 ∧ T1 ∧ tt ∧ (T1 ∧ True) ∧ tt ∧ tt ∧ T1 ∧ T1 ∧ (@Exists.{1} (LoopInv.V (loopMer T)) (fun (v2 : Nat) => (((((AV.ptr 2 0) = (AV.ptr 2 0)) ∧ ((AV.ptr 3 0) = (AV.ptr 3 0)) ∧ ((AV.sl T Own.no) = (AV.sl T Own.no)) ∧ ((AV.int Go.IntKind.i64 (@Nat.cast Int _ (List.length T))) = (AV.int Go.IntKind.i64 (@Nat.cast Int _ (List.length T)))) ∧ ((AV.int Go.IntKind.i64 (Go.IntKind.wrap Go.IntKind.i64 ((@Nat.cast Int _ v0) + (1 : Int)))) = (AV.int Go.IntKind.i64 (@Nat.cast Int _ v2))) ∧ True) ∧ (((@Option.some.{0} (@List.{0} AV) [(AV.int Go.IntKind.i64 (0 : Int)), (AV.int Go.IntKind.i64 (0 : Int)), (AV.int Go.IntKind.i64 (0 : Int)), (AV.int Go.IntKind.i64 (0 : Int)), (AV.int Go.IntKind.i64 (0 : Int)), (AV.int Go.IntKind.i64 (0 : Int)), (AV.int Go.IntKind.i64 (0 : Int)), (AV.int Go.IntKind.i64 (0 : Int))]) = (@Option.some.{0} (@List.{0} AV) [(AV.int Go.IntKind.i64 (0 : Int)), (AV.int Go.IntKind.i64 (0 : Int)), (AV.int Go.IntKind.i64 (0 : Int)), (AV.int Go.IntKind.i64 (0 : Int)), (AV.int Go.IntKind.i64 (0 : Int)), (AV.int Go.IntKind.i64 (0 : Int)), (AV.int Go.IntKind.i64 (0 : Int)), (AV.int Go.IntKind.i64 (0 : Int))])) ∧ ((@Option.some.{0} (@List.{0} AV) [(AV.int Go.IntKind.i64 (mx (AttP.s (mergedP T v0)) (rdInt (elemAt T (Int.toNat (@Nat.cast Int _ v0))) 15))), (AV.int Go.IntKind.i64 (mx (AttP.d0 (mergedP T v0)) (rdInt (elemAt T (Int.toNat (@Nat.cast Int _ v0))) 16))), (AV.int Go.IntKind.i64 (mx (AttP.d1 (mergedP T v0)) (rdInt (elemAt T (Int.toNat (@Nat.cast Int _ v0))) 17))), (AV.int Go.IntKind.i64 (mx (AttP.d2 (mergedP T v0)) (rdInt (elemAt T (Int.toNat (@Nat.cast Int _ v0))) 18))), (AV.int Go.IntKind.i64 (mx (AttP.d3 (mergedP T v0)) (rdInt (elemAt T (Int.toNat (@Nat.cast Int _ v0))) 19))), (AV.int Go.IntKind.i64 (mx (AttP.d4 (mergedP T v0)) (rdInt (elemAt T (Int.toNat (@Nat.cast Int _ v0))) 20))), (AV.int Go.IntKind.i64 (mx (AttP.d5 (mergedP T v0)) (rdInt (elemAt T (Int.toNat (@Nat.cast Int _ v0))) 21))), (AV.int Go.IntKind.i64 (mx (AttP.d6 (mergedP T v0)) (rdInt (elemAt T (Int.toNat (@Nat.cast Int _ v0))) 22)))]) = (@Option.some.{0} (@List.{0} AV) [(AV.int Go.IntKind.i64 (AttP.s (mergedP T v2))), (AV.int Go.IntKind.i64 (AttP.d0 (mergedP T v2))), (AV.int Go.IntKind.i64 (AttP.d1 (mergedP T v2))), (AV.int Go.IntKind.i64 (AttP.d2 (mergedP T v2))), (AV.int Go.IntKind.i64 (AttP.d3 (mergedP T v2))), (AV.int Go.IntKind.i64 (AttP.d4 (mergedP T v2))), (AV.int Go.IntKind.i64 (AttP.d5 (mergedP T v2))), (AV.int Go.IntKind.i64 (AttP.d6 (mergedP T v2)))])) ∧ True) ∧ T1 ∧ tt ∧ tt) ∧ (v2 ≤ (List.length T)) ∧ (((List.length T) - v2) < ((List.length T) - v0)))))) else (tt ∧ T1 ∧ T1 ∧ (@Exists.{1} (LoopInv.V (loopMer T)) (fun (v2 : Nat) => (((((AV.ptr 2 0) = (AV.ptr 2 0)) ∧ ((AV.ptr 3 0) = (AV.ptr 3 0)) ∧ ((AV.sl T Own.no) = (AV.sl T Own.no)) ∧ ((AV.int Go.IntKind.i64 (@Nat.cast Int _ (List.length T))) = (AV.int Go.IntKind.i64 (@Nat.cast Int _ (List.length T)))) ∧ ((AV.int Go.IntKind.i64 (Go.IntKind.wrap Go.IntKind.i64 ((@Nat.cast Int _ v0) + (1 : Int)))) = (AV.int Go.IntKind.i64 (@Nat.cast Int _ v2))) ∧ True) ∧ (((@Option.some.{0} (@List.{0} AV) [(AV.int Go.IntKind.i64 (0 : Int)), (AV.int Go.IntKind.i64 (0 : Int)), (AV.int Go.IntKind.i64 (0 : Int)), (AV.int Go.IntKind.i64 (0 : Int)), (AV.int Go.IntKind.i64 (0 : Int)), (AV.int Go.IntKind.i64 (0 : Int)), (AV.int Go.IntKind.i64 (0 : Int)), (AV.int Go.IntKind.i64 (0 : Int))]) = (@Option.some.{0} (@List.{0} AV) [(AV.int Go.IntKind.i64 (0 : Int)), (AV.int Go.IntKind.i64 (0 : Int)), (AV.int Go.IntKind.i64 (0 : Int)), (AV.int Go.IntKind.i64 (0 : Int)), (AV.int Go.IntKind.i64 (0 : Int)), (AV.int Go.IntKind.i64 (0 : Int)), (AV.int Go.IntKind.i64 (0 : Int)), (AV.int Go.IntKind.i64 (0 : Int))])) ∧ ((@Option.some.{0} (@List.{0} AV) [(AV.int Go.IntKind.i64 (AttP.s (mergedP T v0))), (AV.int Go.IntKind.i64 (AttP.d0 (mergedP T v0))), (AV.int Go.IntKind.i64 (AttP.d1 (mergedP T v0))), (AV.int Go.IntKind.i64 (AttP.d2 (mergedP T v0))), (AV.int Go.IntKind.i64 (AttP.d3 (mergedP T v0))), (AV.int Go.IntKind.i64 (AttP.d4 (mergedP T v0))), (AV.int Go.IntKind.i64 (AttP.d5 (mergedP T v0))), (AV.int Go.IntKind.i64 (AttP.d6 (mergedP T v0)))]) = (@Option.some.{0} (@List.{0} AV) [(AV.int Go.IntKind.i64 (AttP.s (mergedP T v2))), (AV.int Go.IntKind.i64 (AttP.d0 (mergedP T v2))), (AV.int Go.IntKind.i64 (AttP.d1 (mergedP T v2))), (AV.int Go.IntKind.i64 (AttP.d2 (mergedP T v2))), (AV.int Go.IntKind.i64 (AttP.d3 (mergedP T v2))), (AV.int Go.IntKind.i64 (AttP.d4 (mergedP T v2))), (AV.int Go.IntKind.i64 (AttP.d5 (mergedP T v2))), (AV.int Go.IntKind.i64 (AttP.d6 (mergedP T v2)))])) ∧ True) ∧ T1 ∧ tt ∧ tt) ∧ (v2 ≤ (List.length T)) ∧ (((List.length T) - v2) < ((List.length T) - v0)))))))) else (tt ∧ tt ∧ tt ∧ tt ∧ tt ∧ (((AttP.s (mergedP T (List.length T))) = (AttP.s (mergedP T v0))) ∧ ((AttP.d0 (mergedP T (List.length T))) = (AttP.d0 (mergedP T v0))) ∧ ((AttP.d1 (mergedP T (List.length T))) = (AttP.d1 (mergedP T v0))) ∧ ((AttP.d2 (mergedP T (List.length T))) = (AttP.d2 (mergedP T v0))) ∧ ((AttP.d3 (mergedP T (List.length T))) = (AttP.d3 (mergedP T v0))) ∧ ((AttP.d4 (mergedP T (List.length T))) = (AttP.d4 (mergedP T v0))) ∧ ((AttP.d5 (mergedP T (List.length T))) = (AttP.d5 (mergedP T v0))) ∧ ((AttP.d6 (mergedP T (List.length T))) = (AttP.d6 (mergedP T v0))) ∧ True) ∧ tt))))))) : inPmerged0 T :=
  Eq.mp (show _ = _ by kernel_rfl) h
end Go.Proofs.YtcokifdgbfbonaaDoor
/- The conditions hold: crews and what is picked from what was told. -/
namespace Go.Proofs.YtcokifdgbfbonaaDoor
set_option linter.unusedVariables false
set_option linter.unusedSimpArgs false
open Go.RowKit
set_option maxRecDepth 100000

theorem rightN_iff {n : Int} : rightN n = true ↔ n = 3 ∨ n = 5 ∨ n = 7 := by unfold rightN; simp
theorem fN_vals {n : Int} (h : rightN n = true) : (n = 3 ∧ fN n = 1) ∨ (n = 5 ∧ fN n = 2) ∨ (n = 7 ∧ fN n = 3) := by
  rcases rightN_iff.1 h with rfl | rfl | rfl
  · exact .inl ⟨rfl, by decide⟩
  · exact .inr (.inl ⟨rfl, by decide⟩)
  · exact .inr (.inr ⟨rfl, by decide⟩)
theorem okCrewRight0 : OkCrewRight0 := by
  intro n hq
  refine vcCrewRight0 n ?_
  simp only [true_and, and_true, forall_eq, eq_self]
  refine cond_prop (fun h => cond_prop (fun h2 => ⟨by decide, ?_⟩) fun h2 => ?_) fun h => ?_
  · have h1 : 3 ≤ n := by simpa using h
    have h3 : n ≤ 7 := by simpa using h2
    have : n = 3 ∨ n = 4 ∨ n = 5 ∨ n = 6 ∨ n = 7 := by omega
    rcases this with rfl | rfl | rfl | rfl | rfl <;> decide
  · have h3 : ¬ n ≤ 7 := by simpa using h2
    unfold rightN; rw [decide_eq_false (by omega)]
  · have h3 : ¬ 3 ≤ n := by simpa using h
    unfold rightN; rw [decide_eq_false (by omega)]
theorem okCrewF0 : OkCrewF0 := by
  intro n hq
  refine vcCrewF0 n ?_
  simp only [true_and, and_true, forall_eq, eq_self]
  refine cond_prop (fun h => ?_) fun h => ⟨by omega, ?_⟩
  · have h' : rightN n = false := by simpa using h
    unfold fN; rw [h']; rfl
  · have h' : rightN n = true := by simpa using h
    unfold fN; rw [h']; rfl
theorem okCrewMaj0 : OkCrewMaj0 := by
  intro n hq
  refine vcCrewMaj0 n ?_
  have := fN_vals hq
  simp only [true_and, and_true, forall_eq, eq_self, hq, Bool.not_true, cond_false]
  exact (wrap_i64 (by omega) (by omega)).symm
theorem okCrewFast0 : OkCrewFast0 := by
  intro n hq
  refine vcCrewFast0 n ?_
  have := fN_vals hq
  simp only [true_and, and_true, forall_eq, eq_self]
  refine ⟨by omega, ?_⟩
  rw [wrap_i64 (by omega) (by omega)]; omega
theorem bit_vals {r : Int} (h : 0 ≤ r ∧ r < 7) : ∃ k : Fin 7, r = (k.val : Int) := ⟨⟨r.toNat, by omega⟩, by show r = ((r.toNat : Nat) : Int); omega⟩
theorem byte_vals {s : Int} (h : 0 ≤ s ∧ s ≤ 255) : ∃ k : Fin 256, s = (k.val : Int) := ⟨⟨s.toNat, by omega⟩, by show s = ((s.toNat : Nat) : Int); omega⟩
theorem okBit0 : OkBit0 := by
  intro r hq
  refine vcBit0 r ?_
  simp only [true_and, and_true, forall_eq, eq_self]
  refine cond_prop (fun h => ?_) fun h => cond_prop (fun h2 => ?_) fun h2 => ?_
  · have : r < 0 := by simpa using h
    unfold bitV; rw [if_neg (by omega)]
  · have : 7 ≤ r := by simpa using h2
    unfold bitV; rw [if_neg (by omega)]
  · have h1 : ¬ r < 0 := by simpa using h
    have h3 : ¬ 7 ≤ r := by simpa using h2
    obtain ⟨k, rfl⟩ := bit_vals (r := r) (by omega)
    have key : ∀ k : Fin 7, 0 ≤ IntKind.u64.wrap (k.val : Int) ∧ bitV (k.val : Int) = IntKind.u8.wrap (1 * (2 : Int) ^ (min (IntKind.u64.wrap (k.val : Int)).toNat 8)) := by decide +kernel
    exact key k
theorem bit_out {r : Int} (h : ¬ (0 ≤ r ∧ r < 7)) : bitV r = 0 := by unfold bitV; rw [if_neg h]
theorem okHasC0 : OkHasC0 := by
  intro s r hq hs
  refine vcHasC0 s r ?_
  simp only [true_and, and_true, forall_eq, eq_self]
  obtain ⟨k, rfl⟩ := byte_vals hs
  by_cases h : 0 ≤ r ∧ r < 7
  · obtain ⟨j, rfl⟩ := bit_vals h
    have key : ∀ (k : Fin 256) (j : Fin 7), hasS (k.val : Int) (j.val : Int) = (intBits .and .u8 (k.val : Int) (bitV (j.val : Int)) != 0) := by decide +kernel
    exact key k j
  · rw [bit_out h]
    have key : ∀ k : Fin 256, false = (intBits .and .u8 (k.val : Int) 0 != 0) := by decide +kernel
    have e : hasS (k.val : Int) r = false := by unfold hasS; rw [decide_eq_false h]; rfl
    rw [e]; exact key k
theorem okWithC0 : OkWithC0 := by
  intro s r hq hs
  refine vcWithC0 s r ?_
  simp only [true_and, and_true, forall_eq, eq_self]
  obtain ⟨k, rfl⟩ := byte_vals hs
  by_cases h : 0 ≤ r ∧ r < 7
  · obtain ⟨j, rfl⟩ := bit_vals h
    have key : ∀ (k : Fin 256) (j : Fin 7), withS (k.val : Int) (j.val : Int) = intBits .or .u8 (k.val : Int) (bitV (j.val : Int)) := by decide +kernel
    exact key k j
  · have key : ∀ k : Fin 256, (((k.val : Int).toNat ||| (0 : Int).toNat : Nat) : Int) = intBits .or .u8 (k.val : Int) 0 := by decide +kernel
    unfold withS
    rw [bit_out h]; exact key k
theorem okWithoutC0 : OkWithoutC0 := by
  intro s r hq hs
  refine vcWithoutC0 s r ?_
  simp only [true_and, and_true, forall_eq, eq_self]
  obtain ⟨k, rfl⟩ := byte_vals hs
  by_cases h : 0 ≤ r ∧ r < 7
  · obtain ⟨j, rfl⟩ := bit_vals h
    have key : ∀ (k : Fin 256) (j : Fin 7), withoutS (k.val : Int) (j.val : Int) = intBits .andNot .u8 (k.val : Int) (bitV (j.val : Int)) := by decide +kernel
    exact key k j
  · have key : ∀ k : Fin 256, (((k.val : Int).toNat &&& (255 - (0 : Int).toNat) : Nat) : Int) = intBits .andNot .u8 (k.val : Int) 0 := by decide +kernel
    unfold withoutS
    rw [bit_out h]; exact key k
theorem and_u8 (a b : Nat) (ha : a < 256) (hb : b < 256) : intBits .and .u8 (a : Int) (b : Int) = ((a &&& b : Nat) : Int) := by
  have e1 : (BitVec.ofInt 8 (a : Int) &&& BitVec.ofInt 8 (b : Int)).toNat = a &&& b := by
    rw [BitVec.toNat_and, BitVec.ofInt_natCast, BitVec.ofInt_natCast, BitVec.toNat_ofNat, BitVec.toNat_ofNat, Nat.mod_eq_of_lt ha, Nat.mod_eq_of_lt hb]
  have lt : a &&& b < 256 := Nat.lt_of_le_of_lt Nat.and_le_left ha
  show IntKind.u8.wrap (((BitVec.ofInt 8 (a : Int) &&& BitVec.ofInt 8 (b : Int)).toNat : Nat) : Int) = _
  rw [e1]
  have key : ∀ k : Fin 256, IntKind.u8.wrap (k.val : Int) = (k.val : Int) := by decide +kernel
  exact key ⟨a &&& b, lt⟩
theorem okMeetC0 : OkMeetC0 := by
  intro s o hq hs ho
  refine vcMeetC0 s o ?_
  simp only [true_and, and_true, forall_eq, eq_self]
  obtain ⟨k, rfl⟩ := byte_vals hs
  obtain ⟨j, rfl⟩ := byte_vals ho
  rw [and_u8 _ _ k.2 j.2]
  have h := and_u8 (k.val &&& j.val) 127 (Nat.lt_of_le_of_lt Nat.and_le_left k.2) (by omega)
  exact h.symm
theorem okAllC0 : OkAllC0 := by
  intro n hq
  refine vcAllC0 n ?_
  simp only [true_and, and_true, forall_eq, eq_self]
  rcases rightN_iff.1 hq with rfl | rfl | rfl <;> decide
theorem okOnes0 : OkOnes0 := by
  intro s hq hs
  refine vcOnes0 s ?_
  simp only [true_and, and_true, forall_eq, eq_self]
  refine ⟨⟨by omega, by omega⟩, ?_⟩
  obtain ⟨k, rfl⟩ : ∃ k : Fin 128, s = (k.val : Int) := ⟨⟨s.toNat, by omega⟩, by show s = ((s.toNat : Nat) : Int); omega⟩
  revert k
  decide +kernel
theorem okCountC0 : OkCountC0 := by
  intro s hq hs
  refine vcCountC0 s ?_
  simp only [true_and, and_true, forall_eq, eq_self]
  obtain ⟨k, rfl⟩ := byte_vals hs
  have key : ∀ k : Fin 256, intBits .and .u8 (k.val : Int) 127 < 128 ∧ (cntS (k.val : Int) : Int) = (cntS (intBits .and .u8 (k.val : Int) 127) : Int) := by decide +kernel
  exact key k
theorem isTolds_width {xs : List AV} (h : isTolds xs) : okWidth 23 xs := fun x hx => (h x hx).1
theorem elem_some {T : List AV} {i : Nat} (hi : i < T.length) : T[i]? = some (elemAt T i) := by
  have h := List.getElem?_eq_getElem hi
  unfold elemAt cellAt; rw [h]; rfl
theorem isTolds_at {T : List AV} (h : isTolds T) {i : Nat} (hi : i < T.length) : okTold (elemAt T i) := h _ (List.mem_of_getElem? (elem_some hi))
theorem bestN_succ {T : List AV} {st : Int} {i : Nat} (hi : i < T.length) : bestN T st (i + 1) = if (tolX (elemAt T i)).st = st ∧ ((bestN T st i).1 = false ∨ (bestN T st i).2.vote < (tolX (elemAt T i)).vote) then (true, tolX (elemAt T i)) else bestN T st i := by
  unfold bestN
  rw [List.take_add_one, elem_some hi, List.foldl_append]
  rfl
theorem swN_succ {T : List AV} {i : Nat} (hi : i < T.length) : swN T (i + 1) = if (tolX (elemAt T i)).same = true then ((swN T i).1 + 1, if (swN T i).1 = 0 then tolX (elemAt T i) else (swN T i).2) else swN T i := by
  unfold swN
  rw [List.take_add_one, elem_some hi, List.foldl_append]
  rfl
theorem mergedP_succ {T : List AV} {i : Nat} (hi : i < T.length) : mergedP T (i + 1) = if (tolX (elemAt T i)).st = 1 then mergeQ (mergedP T i) (tolX (elemAt T i)).a else mergedP T i := by
  unfold mergedP
  rw [List.take_add_one, elem_some hi, List.foldl_append]
  rfl
theorem swN_le {T : List AV} : ∀ i, i ≤ T.length → (swN T i).1 ≤ i
  | 0, _ => by simp [swN]
  | i + 1, hi => by
    rw [swN_succ (by omega)]
    have := swN_le (T := T) i (by omega)
    split <;> simp <;> omega
theorem drop_at {T : List AV} {i : Nat} (hi : i < T.length) : T.drop i = elemAt T i :: T.drop (i + 1) := by
  rw [List.drop_eq_getElem_cons hi]
  congr 1
  have := elem_some (T := T) (i := i) hi
  rw [List.getElem?_eq_getElem hi] at this
  exact Option.some.inj this
theorem find_drop {T : List AV} {p : AV → Bool} : ∀ i, i ≤ T.length → (∀ j, j < i → p (elemAt T j) = false) → T.find? p = (T.drop i).find? p
  | 0, _, _ => by simp
  | i + 1, hi, h => by
    rw [find_drop i (by omega) (fun j hj => h j (by omega)), drop_at (by omega : i < T.length), List.find?_cons, h i (by omega)]
theorem find_here {T : List AV} {p : AV → Bool} {i : Nat} (hi : i < T.length) (h : ∀ j, j < i → p (elemAt T j) = false) (he : p (elemAt T i) = true) : T.find? p = some (elemAt T i) := by
  rw [find_drop i (by omega) h, drop_at hi, List.find?_cons, he]
theorem any_find (T : List AV) (p : AV → Bool) : T.any p = (T.find? p).isSome := by
  induction T with
  | nil => rfl
  | cons e T ih =>
    rw [List.any_cons, List.find?_cons]
    cases h : p e
    · simpa using ih
    · rfl
theorem okPfirst0 : OkPfirst0 := by
  intro T hq
  obtain ⟨ht, hl⟩ := hq
  refine vcPfirst0 T ?_
  simp only [true_and, and_true, forall_eq, eq_self, Int.toNat_natCast]
  refine ⟨⟨(0 : Nat), rfl, Nat.zero_le _, fun j hj => absurd hj (Nat.not_lt_zero j)⟩, fun i hi => cond_prop (fun h => ?_) fun h => ?_⟩
  · have h' : i < T.length := by simpa using h
    have ok := isTolds_at ht h'
    have w1 : IntKind.i64.wrap ((i : Int) + 1) = ((i + 1 : Nat) : Int) := by rw [wrap_i64 (by omega) (by omega)]; rfl
    refine ⟨⟨by omega, by omega, ok.1⟩, ok.2, cond_prop (fun g => ?_) fun g => ?_⟩
    · have f := find_here (p := fun e => rdInt e 3 == 3) h' (fun j hj => by simpa using hi.2 j hj) g
      have e1 : firstB T = true := by unfold firstB; rw [any_find, f]; rfl
      have e2 : firstV T = tolX (elemAt T i) := by unfold firstV; rw [f]
      rw [e1, e2]
      and_intros <;> rfl
    · obtain ⟨j, hj⟩ : ∃ j : Nat, j = i + 1 := ⟨_, rfl⟩
      rw [← hj] at w1
      refine ⟨j, by rw [w1], ⟨by omega, fun k hk => ?_⟩, by omega⟩
      by_cases hki : k < i
      · exact hi.2 k hki
      · have : k = i := by omega
        subst this
        simpa using g
  · have h' : i = T.length := by have := hi.1; simp at h; omega
    have f : (T.find? fun e => rdInt e 3 == 3) = none := by
      rw [find_drop i (by omega) (fun j hj => by simpa using hi.2 j hj), h']; simp
    have e1 : firstB T = false := by unfold firstB; rw [any_find, f]; rfl
    have e2 : firstV T = zI := by unfold firstV; rw [f]
    rw [e1, e2]
    and_intros <;> rfl
theorem okPbest0 : OkPbest0 := by
  intro T st hq
  obtain ⟨ht, hl⟩ := hq
  refine vcPbest0 T st ?_
  simp only [true_and, and_true, forall_eq, eq_self, Int.toNat_natCast]
  refine ⟨⟨(0 : Nat), ⟨⟨rfl, rfl⟩, rfl⟩, Nat.zero_le _⟩, fun i hi => cond_prop (fun h => ?_) fun h => ?_⟩
  · have h' : i < T.length := by simpa using h
    have ok := isTolds_at ht h'
    have sc := bestN_succ (st := st) h'
    have w1 : IntKind.i64.wrap ((i : Int) + 1) = ((i + 1 : Nat) : Int) := by rw [wrap_i64 (by omega) (by omega)]; rfl
    obtain ⟨j, hj⟩ : ∃ j : Nat, j = i + 1 := ⟨_, rfl⟩
    rw [← hj] at w1 sc
    have xs : (tolX (elemAt T i)).st = rdInt (elemAt T i) 3 := rfl
    have xv : (tolX (elemAt T i)).vote = rdInt (elemAt T i) 5 := rfl
    rw [xs, xv] at sc
    refine ⟨⟨by omega, by omega, ok.1⟩, ok.2, cond_prop (fun g => cond_prop (fun g2 => ?_) fun g2 => cond_prop (fun g3 => ?_) fun g3 => ?_) fun g => ?_⟩
    · rw [if_pos ⟨by simpa using g, .inl (by simpa using g2)⟩] at sc
      exact ⟨j, ⟨⟨by rw [sc], by rw [w1]⟩, by rw [sc]; rfl⟩, by omega, by omega⟩
    · rw [if_pos ⟨by simpa using g, .inr (by simpa using g3)⟩] at sc
      exact ⟨j, ⟨⟨by rw [sc], by rw [w1]⟩, by rw [sc]; rfl⟩, by omega, by omega⟩
    · rw [if_neg (by
        rintro ⟨_, h1 | h1⟩
        · rw [h1] at g2; cases g2
        · have := of_decide_eq_false g3; exact this h1)] at sc
      exact ⟨j, ⟨⟨by rw [sc], by rw [w1]⟩, by rw [sc]⟩, by omega, by omega⟩
    · rw [if_neg (by
        rintro ⟨h1, _⟩
        rw [h1] at g; simp at g)] at sc
      exact ⟨j, ⟨⟨by rw [sc], by rw [w1]⟩, by rw [sc]⟩, by omega, by omega⟩
  · have h' : i = T.length := by simp at h; omega
    rw [h']
    and_intros <;> rfl
theorem okPswift0 : OkPswift0 := by
  intro n r sl T hq
  obtain ⟨ht, hl, hr⟩ := hq
  refine vcPswift0 n r sl T ?_
  simp only [true_and, and_true, forall_eq, eq_self, Int.toNat_natCast]
  refine ⟨⟨(0 : Nat), ⟨⟨rfl, rfl⟩, rfl⟩, Nat.zero_le _⟩, fun i hi => cond_prop (fun h => ?_) fun h => ?_⟩
  · have h' : i < T.length := by simpa using h
    have ok := isTolds_at ht h'
    have sc := swN_succ h'
    have le := swN_le i hi
    have w1 : IntKind.i64.wrap ((i : Int) + 1) = ((i + 1 : Nat) : Int) := by rw [wrap_i64 (by omega) (by omega)]; rfl
    have w2 : IntKind.i64.wrap (((swN T i).1 : Int) + 1) = (((swN T i).1 + 1 : Nat) : Int) := by rw [wrap_i64 (by omega) (by omega)]; rfl
    obtain ⟨j, hj⟩ : ∃ j : Nat, j = i + 1 := ⟨_, rfl⟩
    rw [← hj] at w1 sc
    have xs : (tolX (elemAt T i)).same = rdBool (elemAt T i) 6 := rfl
    rw [xs] at sc
    refine ⟨⟨by omega, by omega, ok.1⟩, ok.2, cond_prop (fun g => ?_) fun g => cond_prop (fun g2 => ?_) fun g2 => cond_prop (fun g3 => ?_) fun g3 => ?_⟩
    · exact absurd (by simpa using g) (hr i h')
    · rw [if_neg (by intro h1; rw [h1] at g2; cases g2)] at sc
      exact ⟨j, ⟨⟨by rw [sc], by rw [w1]⟩, by rw [sc]⟩, by omega, by omega⟩
    · have g2' : rdBool (elemAt T i) 6 = true := by simpa using g2
      have g3' : (swN T i).1 = 0 := by simp at g3; omega
      rw [if_pos g2', if_pos g3'] at sc
      exact ⟨j, ⟨⟨by rw [sc, w2], by rw [w1]⟩, by rw [sc]; rfl⟩, by omega, by omega⟩
    · have g2' : rdBool (elemAt T i) 6 = true := by simpa using g2
      have g3' : ¬ (swN T i).1 = 0 := by simp at g3; omega
      rw [if_pos g2', if_neg g3'] at sc
      exact ⟨j, ⟨⟨by rw [sc, w2], by rw [w1]⟩, by rw [sc]⟩, by omega, by omega⟩
  · have h' : i = T.length := by simp at h; omega
    rw [h']
    and_intros <;> rfl
theorem okPmerged0 : OkPmerged0 := by
  intro T hq
  obtain ⟨ht, hl⟩ := hq
  refine vcPmerged0 T ?_
  simp only [true_and, and_true, forall_eq, eq_self, Int.toNat_natCast]
  refine ⟨⟨(0 : Nat), ⟨rfl, rfl⟩, Nat.zero_le _⟩, fun i hi => cond_prop (fun h => ?_) fun h => ?_⟩
  · have h' : i < T.length := by simpa using h
    have ok := isTolds_at ht h'
    have sc := mergedP_succ h'
    have w1 : IntKind.i64.wrap ((i : Int) + 1) = ((i + 1 : Nat) : Int) := by rw [wrap_i64 (by omega) (by omega)]; rfl
    obtain ⟨j, hj⟩ : ∃ j : Nat, j = i + 1 := ⟨_, rfl⟩
    rw [← hj] at w1 sc
    have xs : (tolX (elemAt T i)).st = rdInt (elemAt T i) 3 := rfl
    rw [xs] at sc
    refine ⟨⟨by omega, by omega, ok.1⟩, ok.2, cond_prop (fun g => ?_) fun g => ?_⟩
    · rw [if_pos (by simpa using g)] at sc
      exact ⟨j, ⟨by rw [w1], by rw [sc]; rfl⟩, by omega, by omega⟩
    · rw [if_neg (by intro h1; rw [h1] at g; simp at g)] at sc
      exact ⟨j, ⟨by rw [w1], by rw [sc]⟩, by omega, by omega⟩
  · have h' : i = T.length := by simp at h; omega
    rw [h']
    and_intros <;> rfl
end Go.Proofs.YtcokifdgbfbonaaDoor
/- The contracts are met. -/
namespace Go.Proofs.YtcokifdgbfbonaaDoor
set_option linter.unusedVariables false
set_option linter.unusedSimpArgs false
open Go.RowKit
theorem sndCrewRight : Sound Tryd.prog (lookΓ gamCrewRight) := sound_of _ fun p hp => by
  simp [gamCrewRight] at hp
set_option maxHeartbeats 4000000 in
theorem meetsCrewRight : Meets Tryd.prog 36 crewRightF := by
  refine meets_of_awp (Γ := lookΓ gamCrewRight) (L := fun _ _ => none) sndCrewRight mixedOrders Tryd.func36 rfl Tryd.call36 ?_
  intro args q r hF hq ho
  unfold crewRightF at hF
  split at hF
  · cases hF
    exact ⟨by simp only [List.length_cons, List.length_nil]; decide, okCrewRight0 _ hq⟩
  · cases hF
theorem sndCrewF : Sound Tryd.prog (lookΓ gamCrewF) := sound_of _ fun p hp => by
  simp only [gamCrewF, List.mem_cons, List.not_mem_nil, or_false] at hp
  subst hp
  exact meetsCrewRight.orNil
set_option maxHeartbeats 4000000 in
theorem meetsCrewF : Meets Tryd.prog 85 crewFF := by
  refine meets_of_awp (Γ := lookΓ gamCrewF) (L := fun _ _ => none) sndCrewF mixedOrders Tryd.func85 rfl Tryd.call85 ?_
  intro args q r hF hq ho
  unfold crewFF at hF
  split at hF
  · cases hF
    exact ⟨by simp only [List.length_cons, List.length_nil]; decide, okCrewF0 _ hq⟩
  · cases hF
theorem sndCrewMaj : Sound Tryd.prog (lookΓ gamCrewMaj) := sound_of _ fun p hp => by
  simp only [gamCrewMaj, List.mem_cons, List.not_mem_nil, or_false] at hp
  rcases hp with rfl | rfl
  · exact meetsCrewRight.orNil
  · exact meetsCrewF.orNil
set_option maxHeartbeats 4000000 in
theorem meetsCrewMaj : Meets Tryd.prog 40 crewMajF := by
  refine meets_of_awp (Γ := lookΓ gamCrewMaj) (L := fun _ _ => none) sndCrewMaj mixedOrders Tryd.func40 rfl Tryd.call40 ?_
  intro args q r hF hq ho
  unfold crewMajF at hF
  split at hF
  · cases hF
    exact ⟨by simp only [List.length_cons, List.length_nil]; decide, okCrewMaj0 _ hq⟩
  · cases hF
theorem sndCrewFast : Sound Tryd.prog (lookΓ gamCrewFast) := sound_of _ fun p hp => by
  simp only [gamCrewFast, List.mem_cons, List.not_mem_nil, or_false] at hp
  subst hp
  exact meetsCrewF.orNil
set_option maxHeartbeats 4000000 in
theorem meetsCrewFast : Meets Tryd.prog 47 crewFastF := by
  refine meets_of_awp (Γ := lookΓ gamCrewFast) (L := fun _ _ => none) sndCrewFast mixedOrders Tryd.func47 rfl Tryd.call47 ?_
  intro args q r hF hq ho
  unfold crewFastF at hF
  split at hF
  · cases hF
    exact ⟨by simp only [List.length_cons, List.length_nil]; decide, okCrewFast0 _ hq⟩
  · cases hF
theorem sndBit : Sound Tryd.prog (lookΓ gamBit) := sound_of _ fun p hp => by
  simp [gamBit] at hp
set_option maxHeartbeats 4000000 in
theorem meetsBit : Meets Tryd.prog 88 bitF := by
  refine meets_of_awp (Γ := lookΓ gamBit) (L := fun _ _ => none) sndBit mixedOrders Tryd.func88 rfl Tryd.call88 ?_
  intro args q r hF hq ho
  unfold bitF at hF
  split at hF
  · cases hF
    exact ⟨by simp only [List.length_cons, List.length_nil]; decide, okBit0 _ hq⟩
  · cases hF
theorem sndHasC : Sound Tryd.prog (lookΓ gamHasC) := sound_of _ fun p hp => by
  simp only [gamHasC, List.mem_cons, List.not_mem_nil, or_false] at hp
  subst hp
  exact meetsBit.orNil
set_option maxHeartbeats 4000000 in
theorem meetsHasC : Meets Tryd.prog 42 hasCF := by
  refine meets_of_awp (Γ := lookΓ gamHasC) (L := fun _ _ => none) sndHasC mixedOrders Tryd.func42 rfl Tryd.call42 ?_
  intro args q r hF hq ho
  unfold hasCF at hF
  split at hF
  · cases hF
    exact ⟨by simp only [List.length_cons, List.length_nil]; decide, okHasC0 _ _ hq (okay_u8 (argI 0 ho rfl rfl))⟩
  · cases hF
theorem sndWithC : Sound Tryd.prog (lookΓ gamWithC) := sound_of _ fun p hp => by
  simp only [gamWithC, List.mem_cons, List.not_mem_nil, or_false] at hp
  subst hp
  exact meetsBit.orNil
set_option maxHeartbeats 4000000 in
theorem meetsWithC : Meets Tryd.prog 45 withCF := by
  refine meets_of_awp (Γ := lookΓ gamWithC) (L := fun _ _ => none) sndWithC mixedOrders Tryd.func45 rfl Tryd.call45 ?_
  intro args q r hF hq ho
  unfold withCF at hF
  split at hF
  · cases hF
    exact ⟨by simp only [List.length_cons, List.length_nil]; decide, okWithC0 _ _ hq (okay_u8 (argI 0 ho rfl rfl))⟩
  · cases hF
theorem sndWithoutC : Sound Tryd.prog (lookΓ gamWithoutC) := sound_of _ fun p hp => by
  simp only [gamWithoutC, List.mem_cons, List.not_mem_nil, or_false] at hp
  subst hp
  exact meetsBit.orNil
set_option maxHeartbeats 4000000 in
theorem meetsWithoutC : Meets Tryd.prog 46 withoutCF := by
  refine meets_of_awp (Γ := lookΓ gamWithoutC) (L := fun _ _ => none) sndWithoutC mixedOrders Tryd.func46 rfl Tryd.call46 ?_
  intro args q r hF hq ho
  unfold withoutCF at hF
  split at hF
  · cases hF
    exact ⟨by simp only [List.length_cons, List.length_nil]; decide, okWithoutC0 _ _ hq (okay_u8 (argI 0 ho rfl rfl))⟩
  · cases hF
theorem sndMeetC : Sound Tryd.prog (lookΓ gamMeetC) := sound_of _ fun p hp => by
  simp [gamMeetC] at hp
set_option maxHeartbeats 4000000 in
theorem meetsMeetC : Meets Tryd.prog 37 meetCF := by
  refine meets_of_awp (Γ := lookΓ gamMeetC) (L := fun _ _ => none) sndMeetC mixedOrders Tryd.func37 rfl Tryd.call37 ?_
  intro args q r hF hq ho
  unfold meetCF at hF
  split at hF
  · cases hF
    exact ⟨by simp only [List.length_cons, List.length_nil]; decide, okMeetC0 _ _ hq (okay_u8 (argI 0 ho rfl rfl)) (okay_u8 (argI 1 ho rfl rfl))⟩
  · cases hF
theorem sndAllC : Sound Tryd.prog (lookΓ gamAllC) := sound_of _ fun p hp => by
  simp [gamAllC] at hp
set_option maxHeartbeats 4000000 in
theorem meetsAllC : Meets Tryd.prog 38 allCF := by
  refine meets_of_awp (Γ := lookΓ gamAllC) (L := fun _ _ => none) sndAllC mixedOrders Tryd.func38 rfl Tryd.call38 ?_
  intro args q r hF hq ho
  unfold allCF at hF
  split at hF
  · cases hF
    exact ⟨by simp only [List.length_cons, List.length_nil]; decide, okAllC0 _ hq⟩
  · cases hF
theorem sndOnes : Sound Tryd.prog (lookΓ gamOnes) := sound_of _ fun p hp => by
  simp [gamOnes] at hp
set_option maxHeartbeats 4000000 in
theorem meetsOnes : Meets Tryd.prog 84 onesF := by
  refine meets_of_awp (Γ := lookΓ gamOnes) (L := fun _ _ => none) sndOnes mixedOrders Tryd.func84 rfl Tryd.call84 ?_
  intro args q r hF hq ho
  unfold onesF at hF
  split at hF
  · cases hF
    exact ⟨by simp only [List.length_cons, List.length_nil]; decide, okOnes0 _ hq (okay_u8 (argI 0 ho rfl rfl))⟩
  · cases hF
theorem sndCountC : Sound Tryd.prog (lookΓ gamCountC) := sound_of _ fun p hp => by
  simp only [gamCountC, List.mem_cons, List.not_mem_nil, or_false] at hp
  subst hp
  exact meetsOnes.orNil
set_option maxHeartbeats 4000000 in
theorem meetsCountC : Meets Tryd.prog 39 countCF := by
  refine meets_of_awp (Γ := lookΓ gamCountC) (L := fun _ _ => none) sndCountC mixedOrders Tryd.func39 rfl Tryd.call39 ?_
  intro args q r hF hq ho
  unfold countCF at hF
  split at hF
  · cases hF
    exact ⟨by simp only [List.length_cons, List.length_nil]; decide, okCountC0 _ hq (okay_u8 (argI 0 ho rfl rfl))⟩
  · cases hF
theorem sndPfirst : Sound Tryd.prog (lookΓ gamPfirst) := sound_of _ fun p hp => by
  simp [gamPfirst] at hp
set_option maxHeartbeats 4000000 in
theorem meetsPfirst : Meets Tryd.prog 128 pfirstF := by
  refine meets_of_awp (Γ := lookΓ gamPfirst) (L := fun args => match args with | [.val (.sl T .no)] => lpPfirst0 T | _ => fun _ => none) sndPfirst mixedOrders Tryd.func128 rfl Tryd.call128 ?_
  intro args q r hF hq ho
  unfold pfirstF at hF
  split at hF
  · cases hF
    exact ⟨by simp only [List.length_cons, List.length_nil]; decide, okPfirst0 _ hq⟩
  · cases hF
theorem sndPbest : Sound Tryd.prog (lookΓ gamPbest) := sound_of _ fun p hp => by
  simp [gamPbest] at hp
set_option maxHeartbeats 4000000 in
theorem meetsPbest : Meets Tryd.prog 129 pbestF := by
  refine meets_of_awp (Γ := lookΓ gamPbest) (L := fun args => match args with | [.val (.sl T .no), .val (.int .i64 st)] => lpPbest0 T st | _ => fun _ => none) sndPbest mixedOrders Tryd.func129 rfl Tryd.call129 ?_
  intro args q r hF hq ho
  unfold pbestF at hF
  split at hF
  · cases hF
    exact ⟨by simp only [List.length_cons, List.length_nil]; decide, okPbest0 _ _ hq⟩
  · cases hF
theorem sndPswift : Sound Tryd.prog (lookΓ gamPswift) := sound_of _ fun p hp => by
  simp only [gamPswift, List.mem_cons, List.not_mem_nil, or_false] at hp
  subst hp
  exact meetsCrewF.orNil
set_option maxHeartbeats 4000000 in
theorem meetsPswift : Meets Tryd.prog 130 pswiftF := by
  refine meets_of_awp (Γ := lookΓ gamPswift) (L := fun args => match args with | [.val (.int .i64 n), .val (.agg [.int .i64 r, .int .i64 sl]), .val (.sl T .no)] => lpPswift0 n r sl T | _ => fun _ => none) sndPswift mixedOrders Tryd.func130 rfl Tryd.call130 ?_
  intro args q r hF hq ho
  unfold pswiftF at hF
  split at hF
  · cases hF
    exact ⟨by simp only [List.length_cons, List.length_nil]; decide, okPswift0 _ _ _ _ hq⟩
  · cases hF
theorem sndPmerged : Sound Tryd.prog (lookΓ gamPmerged) := sound_of _ fun p hp => by
  simp only [gamPmerged, List.mem_cons, List.not_mem_nil, or_false] at hp
  subst hp
  exact meetsAttMerge.orNil
set_option maxHeartbeats 4000000 in
theorem meetsPmerged : Meets Tryd.prog 131 pmergedF := by
  refine meets_of_awp (Γ := lookΓ gamPmerged) (L := fun args => match args with | [.val (.sl T .no)] => lpPmerged0 T | _ => fun _ => none) sndPmerged mixedOrders Tryd.func131 rfl Tryd.call131 ?_
  intro args q r hF hq ho
  unfold pmergedF at hF
  split at hF
  · cases hF
    exact ⟨by simp only [List.length_cons, List.length_nil]; decide, okPmerged0 _ hq⟩
  · cases hF
end Go.Proofs.YtcokifdgbfbonaaDoor
