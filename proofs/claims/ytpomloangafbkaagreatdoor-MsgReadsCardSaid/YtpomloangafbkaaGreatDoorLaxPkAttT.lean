/- Contracts by content, their conditions, and that they are met: AttT. -/
import Derived.Test.YtpomloangafbkaaGreatDoorLaxPkMkT
import Derived.Test.YtpomloangafbkaaGreatDoorStrs
import Derived.Test.YtpomloangafbkaaGreatDoorSplitP
/- Contracts by content, and the conditions that their code must meet. -/
namespace Go.Proofs.YtpomloangafbkaaGreatDoor
set_option linter.unusedVariables false
set_option linter.unusedSimpArgs false
open Go.RowKit
def itoas (d0 d1 d2 d3 d4 d5 d6 : Int) : List (List UInt8) := [Lib.itoa d0, Lib.itoa d1, Lib.itoa d2, Lib.itoa d3, Lib.itoa d4, Lib.itoa d5, Lib.itoa d6]
def attShowV (s d0 d1 d2 d3 d4 d5 d6 : Int) : List UInt8 := if rightA s d0 d1 d2 d3 d4 d5 d6 then catL (catL (Lib.itoa s) [124]) (Lib.join (itoas d0 d1 d2 d3 d4 d5 d6) [44]) else []
def attShowE (s d0 d1 d2 d3 d4 d5 d6 : Int) : Int := if rightA s d0 d1 d2 d3 d4 d5 d6 then 0 else 12
def text9 (s d0 d1 d2 d3 d4 d5 d6 : Int) : List UInt8 := catL (catL (catL (catL (catL (catL (catL (catL (catL (catL (catL (catL (catL (catL (digL s) [124]) (digL d0)) [44]) (digL d1)) [44]) (digL d2)) [44]) (digL d3)) [44]) (digL d4)) [44]) (digL d5)) [44]) (digL d6)
def partA (t : List UInt8) : List (List UInt8) := Lib.split (Lib.cut t [124]).2.1 [44]
def dkA (t : List UInt8) (k i : Nat) : Int := if k < i then atoiV ((partA t).getD k []) else 0
def rS (t : List UInt8) : Int := atoiV (Lib.cut t [124]).1
def rD (t : List UInt8) (k : Nat) : Int := dkA t k (partA t).length
def rK (t : List UInt8) : Bool := rightA (rS t) (rD t 0) (rD t 1) (rD t 2) (rD t 3) (rD t 4) (rD t 5) (rD t 6) && (attShowV (rS t) (rD t 0) (rD t 1) (rD t 2) (rD t 3) (rD t 4) (rD t 5) (rD t 6) == t)
def raE (t : List UInt8) : Int := if rK t then 0 else 10
def raS (t : List UInt8) : Int := if rK t then rS t else 0
def raD (t : List UInt8) (k : Nat) : Int := if rK t then rD t k else 0
def loopShowA (s d0 d1 d2 d3 d4 d5 d6 : Int) : LoopInv :=
  { V := Nat
    T := fun i => [(1, .ptr 1 0), (4, .sl (strsAV ((itoas d0 d1 d2 d3 d4 d5 d6).take i)) (.row 4 0 9)), (11, .agg [.int .i64 d0, .int .i64 d1, .int .i64 d2, .int .i64 d3, .int .i64 d4, .int .i64 d5, .int .i64 d6]), (12, .int .i64 (i : Int))]
    B := fun i => [(1, [.int .i64 s, .int .i64 d0, .int .i64 d1, .int .i64 d2, .int .i64 d3, .int .i64 d4, .int .i64 d5, .int .i64 d6])]
    R := fun i => [((4, 0), ((itoas d0 d1 d2 d3 d4 d5 d6).take i).length)]
    inv := fun i => i ≤ 7
    mu := fun i => 7 - i }
def loopReadA (t : List UInt8) : LoopInv :=
  { V := Nat
    T := fun i => [(0, .str t), (2, .ptr 2 0), (7, .ptr 7 0), (25, .sl (strsAV (partA t)) .no), (26, .int .i64 ((partA t).length : Int)), (27, .int .i64 (i : Int))]
    B := fun i => [(2, [.int .i64 0, .int .i64 0, .int .i64 0, .int .i64 0, .int .i64 0, .int .i64 0, .int .i64 0, .int .i64 0]), (7, [.int .i64 (rS t), .int .i64 (dkA t 0 i), .int .i64 (dkA t 1 i), .int .i64 (dkA t 2 i), .int .i64 (dkA t 3 i), .int .i64 (dkA t 4 i), .int .i64 (dkA t 5 i), .int .i64 (dkA t 6 i)])]
    R := fun i => []
    inv := fun i => i ≤ (partA t).length
    mu := fun i => (partA t).length - i }
def attShowF : Con
  | [.val (.agg [.int .i64 s, .int .i64 d0, .int .i64 d1, .int .i64 d2, .int .i64 d3, .int .i64 d4, .int .i64 d5, .int .i64 d6])] => (some (True, ⟨.tup [.str (attShowV s d0 d1 d2 d3 d4 d5 d6), .int .i64 (attShowE s d0 d1 d2 d3 d4 d5 d6)], none, none⟩))
  | _ => none
def gamAttShow : List (Nat × Con) := [(67, attRightF.orNil), (50, itoaF.orNil), (28, joinSF.orNil)]
def lpAttShow0 (s d0 d1 d2 d3 d4 d5 d6 : Int) : Nat → Option LoopPlan := fun b => bif Nat.beq b 0 then some (.inv [.nilT 4 4 0 9] (loopShowA s d0 d1 d2 d3 d4 d5 d6)) else none
def inAttShow0 (s d0 d1 d2 d3 d4 d5 d6 : Int) : Prop := awp [] (lpAttShow0 s d0 d1 d2 d3 d4 d5 d6) (lookΓ gamAttShow) Tryz.prog Tryz.f29.ntmps 0 (Tryz.f29.body.getD .skip) (entrySt [.val (.agg [.int .i64 s, .int .i64 d0, .int .i64 d1, .int .i64 d2, .int .i64 d3, .int .i64 d4, .int .i64 d5, .int .i64 d6])]) (exitQ Tryz.prog Tryz.f29.results.toList [] ⟨.tup [.str (attShowV s d0 d1 d2 d3 d4 d5 d6), .int .i64 (attShowE s d0 d1 d2 d3 d4 d5 d6)], none, none⟩)
def OkAttShow0 : Prop := ∀ (s d0 d1 d2 d3 d4 d5 d6 : Int), True → inAttShow0 s d0 d1 d2 d3 d4 d5 d6
def attReadF : Con
  | [.val (.str t)] => (some (t.length ≤ 100000000, ⟨.tup [.agg [.int .i64 (raS t), .int .i64 (raD t 0), .int .i64 (raD t 1), .int .i64 (raD t 2), .int .i64 (raD t 3), .int .i64 (raD t 4), .int .i64 (raD t 5), .int .i64 (raD t 6)], .int .i64 (raE t)], none, none⟩))
  | _ => none
def gamAttRead : List (Nat × Con) := [(54, cutSF.orNil), (55, atoiF.orNil), (76, splitSF.orNil), (29, attShowF.orNil)]
def lpAttRead0 (t : List UInt8) : Nat → Option LoopPlan := fun b => bif Nat.beq b 0 then some (.inv [] (loopReadA t)) else none
def inAttRead0 (t : List UInt8) : Prop := awp [] (lpAttRead0 t) (lookΓ gamAttRead) Tryz.prog Tryz.f43.ntmps 0 (Tryz.f43.body.getD .skip) (entrySt [.val (.str t)]) (exitQ Tryz.prog Tryz.f43.results.toList [] ⟨.tup [.agg [.int .i64 (raS t), .int .i64 (raD t 0), .int .i64 (raD t 1), .int .i64 (raD t 2), .int .i64 (raD t 3), .int .i64 (raD t 4), .int .i64 (raD t 5), .int .i64 (raD t 6)], .int .i64 (raE t)], none, none⟩)
def OkAttRead0 : Prop := ∀ (t : List UInt8), t.length ≤ 100000000 → inAttRead0 t
end Go.Proofs.YtpomloangafbkaaGreatDoor
/- What the verification conditions come to: printed by a program of ours (wip/lax/ex/Norm.lean). -/
namespace Go.Proofs.YtpomloangafbkaaGreatDoor
set_option linter.unusedVariables false
open Go.RowKit
set_option maxRecDepth 100000
theorem vcAttShow0 (s : Int) (d0 : Int) (d1 : Int) (d2 : Int) (d3 : Int) (d4 : Int) (d5 : Int) (d6 : Int) (h : let q0 := (itoas d0 d1 d2 d3 d4 d5 d6); let w0_x := [(AV.int IntKind.i64 s), (AV.int IntKind.i64 d0), (AV.int IntKind.i64 d1), (AV.int IntKind.i64 d2), (AV.int IntKind.i64 d3), (AV.int IntKind.i64 d4), (AV.int IntKind.i64 d5), (AV.int IntKind.i64 d6)]; let w1_x := [(AV.int IntKind.i64 d0), (AV.int IntKind.i64 d1), (AV.int IntKind.i64 d2), (AV.int IntKind.i64 d3), (AV.int IntKind.i64 d4), (AV.int IntKind.i64 d5), (AV.int IntKind.i64 d6)]; (tt ∧ T1 ∧ T1 ∧ T1 ∧ tt ∧ tt ∧ (T1 ∧ True) ∧ T1 ∧ (bif (Bool.not (rightA s d0 d1 d2 d3 d4 d5 d6)) then (tt ∧ T1 ∧ T1 ∧ tt ∧ tt ∧ ((attShowV s d0 d1 d2 d3 d4 d5 d6) = [] ∧ (attShowE s d0 d1 d2 d3 d4 d5 d6) = 12 ∧ True) ∧ tt) else (tt ∧ T1 ∧ tt ∧ T1 ∧ tt ∧ T1 ∧ (@Exists.{1} (loopShowA s d0 d1 d2 d3 d4 d5 d6).V (fun (v0 : Nat) => ((((AV.ptr 1 0) = (AV.ptr 1 0) ∧ (AV.sl [] (Own.row 4 0 9)) = (AV.sl (strsAV (@List.take.{0} (List UInt8) v0 q0)) (Own.row 4 0 9)) ∧ (AV.agg w1_x) = (AV.agg w1_x) ∧ (AV.int IntKind.i64 0) = (AV.int IntKind.i64 (v0 : Int)) ∧ True) ∧ ((@Option.some.{0} (List AV) w0_x) = (@Option.some.{0} (List AV) w0_x) ∧ True) ∧ (@Eq.{1} Nat 0 (List.length (@List.take.{0} (List UInt8) v0 q0)) ∧ True) ∧ tt ∧ tt) ∧ v0 ≤ 7))) ∧ ∀ v0 : Nat, (v0 ≤ 7) → tt ∧ T1 ∧ (bif (decide ((v0 : Int) < 7)) then (tt ∧ ((0 : Int) ≤ (v0 : Int) ∧ (v0 : Int) < 7 ∧ (((Int.toNat (v0 : Int)) * 1) + 1) ≤ 7) ∧ T1 ∧ tt ∧ T1 ∧ T1 ∧ (T1 ∧ True) ∧ ∀ v2 : (List UInt8), (v2 = (Go.Lib.itoa (@cond.{1} Int (Nat.beq ((Int.toNat (v0 : Int)) * 1) 0) d0 (@cond.{1} Int (Nat.beq ((Int.toNat (v0 : Int)) * 1) 1) d1 (@cond.{1} Int (Nat.beq ((Int.toNat (v0 : Int)) * 1) 2) d2 (@cond.{1} Int (Nat.beq ((Int.toNat (v0 : Int)) * 1) 3) d3 (@cond.{1} Int (Nat.beq ((Int.toNat (v0 : Int)) * 1) 4) d4 (@cond.{1} Int (Nat.beq ((Int.toNat (v0 : Int)) * 1) 5) d5 d6)))))))) → T1 ∧ ((List.length (@List.take.{0} (List UInt8) v0 q0)) = (List.length (strsAV (@List.take.{0} (List UInt8) v0 q0))) ∧ (((List.length (strsAV (@List.take.{0} (List UInt8) v0 q0))) + 1) * 16) ≤ 140737488355328 ∧ ((List.length (strsAV (@List.take.{0} (List UInt8) v0 q0))) + 1) ≤ 9223372036854775807 ∧ (okWidth 1 (strsAV (@List.take.{0} (List UInt8) v0 q0))) ∧ (okWidth 1 [(AV.str v2)])) ∧ T1 ∧ tt ∧ T1 ∧ T1 ∧ (@Exists.{1} (loopShowA s d0 d1 d2 d3 d4 d5 d6).V (fun (v4 : Nat) => ((((AV.ptr 1 0) = (AV.ptr 1 0) ∧ (AV.sl (@catL AV (strsAV (@List.take.{0} (List UInt8) v0 q0)) [(AV.str v2)]) (Own.row 4 0 9)) = (AV.sl (strsAV (@List.take.{0} (List UInt8) v4 q0)) (Own.row 4 0 9)) ∧ (AV.agg w1_x) = (AV.agg w1_x) ∧ (AV.int IntKind.i64 (IntKind.wrap IntKind.i64 ((v0 : Int) + (1 : Int)))) = (AV.int IntKind.i64 (v4 : Int)) ∧ True) ∧ ((@Option.some.{0} (List AV) w0_x) = (@Option.some.{0} (List AV) w0_x) ∧ True) ∧ (((List.length (strsAV (@List.take.{0} (List UInt8) v0 q0))) + 1) = (List.length (@List.take.{0} (List UInt8) v4 q0)) ∧ True) ∧ tt ∧ tt) ∧ v4 ≤ 7 ∧ (7 - v4) < (7 - v0))))) else (tt ∧ T1 ∧ tt ∧ (T1 ∧ True) ∧ ∀ v2 : (List UInt8), (v2 = (Go.Lib.itoa s)) → ((List.length v2) + 1) ≤ 9223372036854775807 ∧ T1 ∧ (T1 ∧ (isStrs (strsAV (@List.take.{0} (List UInt8) v0 q0))) ∧ (List.length (Go.Lib.join (strsL (strsAV (@List.take.{0} (List UInt8) v0 q0))) [(44 : UInt8)])) ≤ 140737488355328 ∧ (List.length (strsAV (@List.take.{0} (List UInt8) v0 q0))) ≤ 140737488355328) ∧ ∀ v4 : (List UInt8), (v4 = (Go.Lib.join (strsL (strsAV (@List.take.{0} (List UInt8) v0 q0))) [(44 : UInt8)])) → ((List.length (@catL UInt8 v2 [(124 : UInt8)])) + (List.length v4)) ≤ 9223372036854775807 ∧ T1 ∧ T1 ∧ tt ∧ tt ∧ ((attShowV s d0 d1 d2 d3 d4 d5 d6) = (@catL UInt8 (@catL UInt8 v2 [(124 : UInt8)]) v4) ∧ (attShowE s d0 d1 d2 d3 d4 d5 d6) = 0 ∧ True) ∧ tt)))))) : inAttShow0 s d0 d1 d2 d3 d4 d5 d6 :=
  Eq.mp (show _ = _ by kernel_rfl) h
theorem vcAttRead0 (t : (List UInt8)) (h : let q0 := (List.length (partA t)); let q1 := (strsAV (partA t)); let w0_x := [(AV.int IntKind.i64 0), (AV.int IntKind.i64 0), (AV.int IntKind.i64 0), (AV.int IntKind.i64 0), (AV.int IntKind.i64 0), (AV.int IntKind.i64 0), (AV.int IntKind.i64 0), (AV.int IntKind.i64 0)]; let w1_x := ((raS t) = 0 ∧ (raD t 0) = 0 ∧ (raD t 1) = 0 ∧ (raD t 2) = 0 ∧ (raD t 3) = 0 ∧ (raD t 4) = 0 ∧ (raD t 5) = 0 ∧ (raD t 6) = 0 ∧ (raE t) = 10 ∧ True); (tt ∧ T1 ∧ T1 ∧ tt ∧ T1 ∧ (T1 ∧ (List.length t) < 4294967281) ∧ ∀ v0 : (List UInt8), (v0 = (Go.Lib.cut t [(124 : UInt8)]).1) → ∀ v2 : (List UInt8), (v2 = (Go.Lib.cut t [(124 : UInt8)]).2.1) → T1 ∧ T1 ∧ T1 ∧ T1 ∧ T1 ∧ T1 ∧ T1 ∧ tt ∧ T1 ∧ tt ∧ T1 ∧ (T1 ∧ (List.length v0) ≤ 281474976710656) ∧ ∀ v4 : Int, (v4 = (atoiV v0)) → T1 ∧ T1 ∧ T1 ∧ T1 ∧ tt ∧ tt ∧ T1 ∧ (T1 ∧ (List.length v2) < 4294967281 ∧ 1 ≤ 1) ∧ ∀ v6 : (List AV), (v6 = (strsAV (Go.Lib.split v2 [(44 : UInt8)]))) → T1 ∧ T1 ∧ (@Exists.{1} (loopReadA t).V (fun (v8 : Nat) => ((((AV.str t) = (AV.str t) ∧ (AV.ptr 2 0) = (AV.ptr 2 0) ∧ (AV.ptr 7 0) = (AV.ptr 7 0) ∧ (AV.sl v6 Own.no) = (AV.sl q1 Own.no) ∧ (AV.int IntKind.i64 ((List.length v6) : Int)) = (AV.int IntKind.i64 (q0 : Int)) ∧ (AV.int IntKind.i64 0) = (AV.int IntKind.i64 (v8 : Int)) ∧ True) ∧ ((@Option.some.{0} (List AV) w0_x) = (@Option.some.{0} (List AV) w0_x) ∧ (@Option.some.{0} (List AV) [(AV.int IntKind.i64 v4), (AV.int IntKind.i64 0), (AV.int IntKind.i64 0), (AV.int IntKind.i64 0), (AV.int IntKind.i64 0), (AV.int IntKind.i64 0), (AV.int IntKind.i64 0), (AV.int IntKind.i64 0)]) = (@Option.some.{0} (List AV) [(AV.int IntKind.i64 (rS t)), (AV.int IntKind.i64 (dkA t 0 v8)), (AV.int IntKind.i64 (dkA t 1 v8)), (AV.int IntKind.i64 (dkA t 2 v8)), (AV.int IntKind.i64 (dkA t 3 v8)), (AV.int IntKind.i64 (dkA t 4 v8)), (AV.int IntKind.i64 (dkA t 5 v8)), (AV.int IntKind.i64 (dkA t 6 v8))]) ∧ True) ∧ T1 ∧ tt ∧ tt) ∧ v8 ≤ q0))) ∧ ∀ v8 : Nat, (v8 ≤ q0) → tt ∧ T1 ∧ (bif (decide ((v8 : Int) < (q0 : Int))) then (tt ∧ T1 ∧ ((0 : Int) ≤ (v8 : Int) ∧ (v8 : Int) < ((List.length q1) : Int) ∧ (okElem 1 q1 (Int.toNat (v8 : Int)))) ∧ (okRead [Kd.str] (elemAt q1 (Int.toNat (v8 : Int))) 0) ∧ T1 ∧ T1 ∧ tt ∧ T1 ∧ T1 ∧ (bif (decide ((v8 : Int) < 7)) then (tt ∧ T1 ∧ T1 ∧ (T1 ∧ (List.length (rdStr (elemAt q1 (Int.toNat (v8 : Int))) 0)) ≤ 281474976710656) ∧ ∀ v10 : Int, (v10 = (atoiV (rdStr (elemAt q1 (Int.toNat (v8 : Int))) 0))) → T1 ∧ T1 ∧ T1 ∧ T1 ∧ ((0 : Int) ≤ (v8 : Int) ∧ (v8 : Int) < 7) ∧ (decide (((1 + ((Int.toNat (v8 : Int)) * 1)) + 1) ≤ 8)) = true ∧ tt ∧ T1 ∧ T1 ∧ (@Exists.{1} (loopReadA t).V (fun (v12 : Nat) => ((((AV.str t) = (AV.str t) ∧ (AV.ptr 2 0) = (AV.ptr 2 0) ∧ (AV.ptr 7 0) = (AV.ptr 7 0) ∧ (AV.sl q1 Own.no) = (AV.sl q1 Own.no) ∧ (AV.int IntKind.i64 (q0 : Int)) = (AV.int IntKind.i64 (q0 : Int)) ∧ (AV.int IntKind.i64 (IntKind.wrap IntKind.i64 ((v8 : Int) + (1 : Int)))) = (AV.int IntKind.i64 (v12 : Int)) ∧ True) ∧ ((@Option.some.{0} (List AV) w0_x) = (@Option.some.{0} (List AV) w0_x) ∧ (@Option.some.{0} (List AV) [(AV.int IntKind.i64 (@cond.{1} Int (Nat.beq ((1 + ((Int.toNat (v8 : Int)) * 1)) + 0) 0) v10 (rS t))), (AV.int IntKind.i64 (@cond.{1} Int (Nat.beq ((1 + ((Int.toNat (v8 : Int)) * 1)) + 0) 1) v10 (dkA t 0 v8))), (AV.int IntKind.i64 (@cond.{1} Int (Nat.beq ((1 + ((Int.toNat (v8 : Int)) * 1)) + 0) 2) v10 (dkA t 1 v8))), (AV.int IntKind.i64 (@cond.{1} Int (Nat.beq ((1 + ((Int.toNat (v8 : Int)) * 1)) + 0) 3) v10 (dkA t 2 v8))), (AV.int IntKind.i64 (@cond.{1} Int (Nat.beq ((1 + ((Int.toNat (v8 : Int)) * 1)) + 0) 4) v10 (dkA t 3 v8))), (AV.int IntKind.i64 (@cond.{1} Int (Nat.beq ((1 + ((Int.toNat (v8 : Int)) * 1)) + 0) 5) v10 (dkA t 4 v8))), (AV.int IntKind.i64 (@cond.{1} Int (Nat.beq ((1 + ((Int.toNat (v8 : Int)) * 1)) + 0) 6) v10 (dkA t 5 v8))), (AV.int IntKind.i64 (@cond.{1} Int (Nat.beq ((1 + ((Int.toNat (v8 : Int)) * 1)) + 0) 7) v10 (dkA t 6 v8)))]) = (@Option.some.{0} (List AV) [(AV.int IntKind.i64 (rS t)), (AV.int IntKind.i64 (dkA t 0 v12)), (AV.int IntKind.i64 (dkA t 1 v12)), (AV.int IntKind.i64 (dkA t 2 v12)), (AV.int IntKind.i64 (dkA t 3 v12)), (AV.int IntKind.i64 (dkA t 4 v12)), (AV.int IntKind.i64 (dkA t 5 v12)), (AV.int IntKind.i64 (dkA t 6 v12))]) ∧ True) ∧ T1 ∧ tt ∧ tt) ∧ v12 ≤ q0 ∧ (q0 - v12) < (q0 - v8))))) else (tt ∧ T1 ∧ T1 ∧ (@Exists.{1} (loopReadA t).V (fun (v10 : Nat) => ((((AV.str t) = (AV.str t) ∧ (AV.ptr 2 0) = (AV.ptr 2 0) ∧ (AV.ptr 7 0) = (AV.ptr 7 0) ∧ (AV.sl q1 Own.no) = (AV.sl q1 Own.no) ∧ (AV.int IntKind.i64 (q0 : Int)) = (AV.int IntKind.i64 (q0 : Int)) ∧ (AV.int IntKind.i64 (IntKind.wrap IntKind.i64 ((v8 : Int) + (1 : Int)))) = (AV.int IntKind.i64 (v10 : Int)) ∧ True) ∧ ((@Option.some.{0} (List AV) w0_x) = (@Option.some.{0} (List AV) w0_x) ∧ (@Option.some.{0} (List AV) [(AV.int IntKind.i64 (rS t)), (AV.int IntKind.i64 (dkA t 0 v8)), (AV.int IntKind.i64 (dkA t 1 v8)), (AV.int IntKind.i64 (dkA t 2 v8)), (AV.int IntKind.i64 (dkA t 3 v8)), (AV.int IntKind.i64 (dkA t 4 v8)), (AV.int IntKind.i64 (dkA t 5 v8)), (AV.int IntKind.i64 (dkA t 6 v8))]) = (@Option.some.{0} (List AV) [(AV.int IntKind.i64 (rS t)), (AV.int IntKind.i64 (dkA t 0 v10)), (AV.int IntKind.i64 (dkA t 1 v10)), (AV.int IntKind.i64 (dkA t 2 v10)), (AV.int IntKind.i64 (dkA t 3 v10)), (AV.int IntKind.i64 (dkA t 4 v10)), (AV.int IntKind.i64 (dkA t 5 v10)), (AV.int IntKind.i64 (dkA t 6 v10))]) ∧ True) ∧ T1 ∧ tt ∧ tt) ∧ v10 ≤ q0 ∧ (q0 - v10) < (q0 - v8))))))) else (tt ∧ tt ∧ (T1 ∧ True) ∧ ∀ v10 : (List UInt8), (v10 = (attShowV (rS t) (dkA t 0 v8) (dkA t 1 v8) (dkA t 2 v8) (dkA t 3 v8) (dkA t 4 v8) (dkA t 5 v8) (dkA t 6 v8))) → ∀ v12 : Int, (v12 = (attShowE (rS t) (dkA t 0 v8) (dkA t 1 v8) (dkA t 2 v8) (dkA t 3 v8) (dkA t 4 v8) (dkA t 5 v8) (dkA t 6 v8))) → T1 ∧ T1 ∧ T1 ∧ T1 ∧ T1 ∧ tt ∧ T1 ∧ T1 ∧ T1 ∧ (bif (v12 != 0) then (tt ∧ tt ∧ T1 ∧ tt ∧ T1 ∧ tt ∧ tt ∧ w1_x ∧ tt) else (T1 ∧ T1 ∧ T1 ∧ T1 ∧ (bif (Bool.not (@BEq.beq.{0} (List UInt8) (@List.instBEq.{0} UInt8 (@instBEqOfDecidableEq.{0} UInt8 instDecidableEqUInt8)) v10 t)) then (tt ∧ T1 ∧ tt ∧ T1 ∧ tt ∧ tt ∧ w1_x ∧ tt) else (tt ∧ tt ∧ tt ∧ T1 ∧ tt ∧ tt ∧ ((raS t) = (rS t) ∧ (raD t 0) = (dkA t 0 v8) ∧ (raD t 1) = (dkA t 1 v8) ∧ (raD t 2) = (dkA t 2 v8) ∧ (raD t 3) = (dkA t 3 v8) ∧ (raD t 4) = (dkA t 4 v8) ∧ (raD t 5) = (dkA t 5 v8) ∧ (raD t 6) = (dkA t 6 v8) ∧ (raE t) = 0 ∧ True) ∧ tt)))))))) : inAttRead0 t :=
  Eq.mp (show _ = _ by kernel_rfl) h
end Go.Proofs.YtpomloangafbkaaGreatDoor
/- The conditions hold: attributes as texts. -/
namespace Go.Proofs.YtpomloangafbkaaGreatDoor
set_option linter.unusedVariables false
set_option linter.unusedSimpArgs false
open Go.RowKit
set_option maxRecDepth 100000

theorem rightA_facts {s d0 d1 d2 d3 d4 d5 d6 : Int} (h : rightA s d0 d1 d2 d3 d4 d5 d6 = true) : (0 ≤ d0 ∧ d0 ≤ 1024) ∧ (0 ≤ d1 ∧ d1 ≤ 1024) ∧ (0 ≤ d2 ∧ d2 ≤ 1024) ∧ (0 ≤ d3 ∧ d3 ≤ 1024) ∧ (0 ≤ d4 ∧ d4 ≤ 1024) ∧ (0 ≤ d5 ∧ d5 ≤ 1024) ∧ (0 ≤ d6 ∧ d6 ≤ 1024) ∧ 0 ≤ s ∧ s ≤ 1073741824 := by
  simpa [rightA, inLen, and_assoc] using h
theorem itoas_len (d0 d1 d2 d3 d4 d5 d6 : Int) : (itoas d0 d1 d2 d3 d4 d5 d6).length = 7 := rfl
theorem okAttShow0 : OkAttShow0 := by
  intro s d0 d1 d2 d3 d4 d5 d6 hq
  refine vcAttShow0 s d0 d1 d2 d3 d4 d5 d6 ?_
  simp only [true_and, and_true, forall_eq, eq_self]
  refine cond_prop (fun h => ?_) fun h => ?_
  · have h' : rightA s d0 d1 d2 d3 d4 d5 d6 = false := by simpa using h
    simp [attShowV, attShowE, h']
  · have h' : rightA s d0 d1 d2 d3 d4 d5 d6 = true := by simpa using h
    obtain ⟨f0, f1, f2, f3, f4, f5, f6, fs0, fs1⟩ := rightA_facts h'
    have L : ∀ i, ((itoas d0 d1 d2 d3 d4 d5 d6).take i).length ≤ 7 := fun i => by rw [List.length_take, itoas_len]; omega
    refine ⟨⟨(0 : Nat), ⟨⟨rfl, rfl⟩, by simp⟩, Nat.zero_le _⟩, fun i hi => cond_prop (fun g => ?_) fun g => ?_⟩
    · have g' : (i : Int) < 7 := of_decide_eq_true g
      have hl : (strsAV ((itoas d0 d1 d2 d3 d4 d5 d6).take i)).length = i := by rw [length_strsAV, List.length_take, itoas_len]; omega
      have hl' : ((itoas d0 d1 d2 d3 d4 d5 d6).take i).length = i := by rw [List.length_take, itoas_len]; omega
      rw [hl, hl']
      refine ⟨⟨by omega, by omega, by simp; omega⟩, ⟨rfl, by omega, by omega, okWidth_strs _, okWidth_strs [_]⟩, ⟨i + 1, ?_⟩⟩
      rw [wrap_i64 (n := (i : Int) + 1) (by omega) (by omega)]
      obtain rfl | rfl | rfl | rfl | rfl | rfl | rfl : i = 0 ∨ i = 1 ∨ i = 2 ∨ i = 3 ∨ i = 4 ∨ i = 5 ∨ i = 6 := by omega
      all_goals exact ⟨⟨⟨rfl, rfl⟩, rfl⟩, by omega, by omega⟩
    · have g' : 7 ≤ (i : Int) := by have := of_decide_eq_false g; omega
      obtain rfl : i = 7 := by omega
      have e7 : (itoas d0 d1 d2 d3 d4 d5 d6).take 7 = itoas d0 d1 d2 d3 d4 d5 d6 := rfl
      rw [e7, strsL_strsAV, length_strsAV, itoas_len]
      have i0 := itoa_len d0 (by omega) (by omega)
      have i1 := itoa_len d1 (by omega) (by omega)
      have i2 := itoa_len d2 (by omega) (by omega)
      have i3 := itoa_len d3 (by omega) (by omega)
      have i4 := itoa_len d4 (by omega) (by omega)
      have i5 := itoa_len d5 (by omega) (by omega)
      have i6 := itoa_len d6 (by omega) (by omega)
      have is := itoa_len s (by omega) (by omega)
      have hj : (Lib.join (itoas d0 d1 d2 d3 d4 d5 d6) [44]).length ≤ 200 := by
        have := join_lens 44 22 (Lib.itoa d0) [Lib.itoa d1, Lib.itoa d2, Lib.itoa d3, Lib.itoa d4, Lib.itoa d5, Lib.itoa d6] (by simp; omega)
        exact Nat.le_trans this (by simp)
      refine ⟨by omega, ⟨isStrs_strsAV _, by omega, by omega⟩, by simp [catL]; omega, ?_⟩
      simp [attShowV, attShowE, h']
theorem dkA_next {t : List UInt8} {k i : Nat} (h : i < (partA t).length) : dkA t k (i + 1) = if k = i then atoiV ((partA t).getD i []) else dkA t k i := by
  unfold dkA
  by_cases hk : k = i
  · subst hk; rw [if_pos (by omega), if_pos rfl]
  · rw [if_neg hk]
    by_cases h2 : k < i
    · rw [if_pos (by omega), if_pos h2]
    · rw [if_neg (by omega), if_neg h2]
theorem part_len (t : List UInt8) : (partA t).length ≤ t.length + 1 ∧ ∀ x ∈ partA t, x.length ≤ t.length := by
  have h1 := cut_len t [124]
  have h2 := split_count_le (Lib.cut t [124]).2.1 [44] (by simp)
  refine ⟨by unfold partA; omega, fun x hx => ?_⟩
  have := splitK_len [44] _ _ x hx
  omega
set_option maxHeartbeats 2000000 in
theorem okAttRead0 : OkAttRead0 := by
  intro t hq
  have hq' : t.length ≤ 100000000 := hq
  refine vcAttRead0 t ?_
  simp only [true_and, and_true, forall_eq, eq_self]
  have hc := cut_len t [124]
  obtain ⟨pl, pm⟩ := part_len t
  have ez : ∀ k, dkA t k 0 = 0 := fun k => by unfold dkA; rw [if_neg (by omega)]
  refine ⟨by omega, by omega, ⟨by omega, by simp⟩, ⟨(0 : Nat), ⟨⟨rfl, ?_, rfl⟩, ?_⟩, Nat.zero_le _⟩, fun i hi => cond_prop (fun g => ?_) fun g => ?_⟩
  · rw [length_strsAV]; rfl
  · simp only [ez]; rfl
  · have hi' : i < (partA t).length := by have := of_decide_eq_true g; omega
    have eI : (Int.toNat (i : Int)) = i := by omega
    rw [eI, elemAt_strs hi', show rdStr (AV.str ((partA t).getD i [])) 0 = (partA t).getD i [] from rfl, wrap_i64 (n := (i : Int) + 1) (by omega) (by omega)]
    have hm : ((partA t).getD i []).length ≤ t.length := by
      refine pm _ ?_
      rw [List.getD_eq_getElem?_getD, List.getElem?_eq_getElem hi']
      exact List.getElem_mem hi'
    refine ⟨⟨by omega, by rw [length_strsAV]; omega, okElem_strs hi'⟩, by rw [← elemAt_strs hi']; exact okRead_strs hi', cond_prop (fun g2 => ?_) fun g2 => ?_⟩
    · have g2' : i < 7 := by have := of_decide_eq_true g2; omega
      refine ⟨by omega, ⟨by omega, by omega⟩, by simp; omega, ⟨i + 1, ?_⟩⟩
      simp only [dkA_next hi']
      obtain rfl | rfl | rfl | rfl | rfl | rfl | rfl : i = 0 ∨ i = 1 ∨ i = 2 ∨ i = 3 ∨ i = 4 ∨ i = 5 ∨ i = 6 := by omega
      all_goals exact ⟨⟨rfl, rfl⟩, by omega, by omega⟩
    · have g2' : 7 ≤ i := by have := of_decide_eq_false g2; omega
      refine ⟨i + 1, ⟨?_, ?_⟩, by omega, by omega⟩
      · rfl
      · simp only [dkA_next hi']
        rw [if_neg (by omega), if_neg (by omega), if_neg (by omega), if_neg (by omega), if_neg (by omega), if_neg (by omega), if_neg (by omega)]
  · have hi' : i = (partA t).length := by have := of_decide_eq_false g; omega
    subst hi'
    have eD : ∀ k, dkA t k (partA t).length = rD t k := fun k => rfl
    simp only [eD]
    refine cond_prop (fun g => ?_) fun g => cond_prop (fun g2 => ?_) fun g2 => ?_
    · have h' : rightA (rS t) (rD t 0) (rD t 1) (rD t 2) (rD t 3) (rD t 4) (rD t 5) (rD t 6) = false := by
        cases hr : rightA (rS t) (rD t 0) (rD t 1) (rD t 2) (rD t 3) (rD t 4) (rD t 5) (rD t 6) with
        | false => rfl
        | true => simp [attShowE, hr] at g
      have hk : rK t = false := by unfold rK; rw [h']; rfl
      simp [raS, raD, raE, hk]
    · have hk : rK t = false := by
        unfold rK
        have : (attShowV (rS t) (rD t 0) (rD t 1) (rD t 2) (rD t 3) (rD t 4) (rD t 5) (rD t 6) == t) = false := by simpa using g2
        rw [this]; simp
      simp [raS, raD, raE, hk]
    · have h' : rightA (rS t) (rD t 0) (rD t 1) (rD t 2) (rD t 3) (rD t 4) (rD t 5) (rD t 6) = true := by
        cases hr : rightA (rS t) (rD t 0) (rD t 1) (rD t 2) (rD t 3) (rD t 4) (rD t 5) (rD t 6) with
        | true => rfl
        | false => simp [attShowE, hr] at g
      have hk : rK t = true := by
        unfold rK
        have : (attShowV (rS t) (rD t 0) (rD t 1) (rD t 2) (rD t 3) (rD t 4) (rD t 5) (rD t 6) == t) = true := by simpa using g2
        rw [this, h']; rfl
      simp [raS, raD, raE, hk]
theorem show_text {s d0 d1 d2 d3 d4 d5 d6 : Int} (h : rightA s d0 d1 d2 d3 d4 d5 d6 = true) : attShowV s d0 d1 d2 d3 d4 d5 d6 = text9 s d0 d1 d2 d3 d4 d5 d6 ∧ attShowE s d0 d1 d2 d3 d4 d5 d6 = 0 := by
  obtain ⟨f0, f1, f2, f3, f4, f5, f6, fs0, fs1⟩ := rightA_facts h
  refine ⟨?_, by simp [attShowE, h]⟩
  unfold attShowV text9 itoas digL
  rw [if_pos h, itoa_dec fs0, itoa_dec f0.1, itoa_dec f1.1, itoa_dec f2.1, itoa_dec f3.1, itoa_dec f4.1, itoa_dec f5.1, itoa_dec f6.1]
  simp only [join_two, Lib.join_one, catL_eq, List.append_assoc, List.cons_append, List.nil_append]
theorem read_show {s d0 d1 d2 d3 d4 d5 d6 : Int} (h : rightA s d0 d1 d2 d3 d4 d5 d6 = true) :
    raE (attShowV s d0 d1 d2 d3 d4 d5 d6) = 0 ∧ raS (attShowV s d0 d1 d2 d3 d4 d5 d6) = s ∧ raD (attShowV s d0 d1 d2 d3 d4 d5 d6) 0 = d0 ∧ raD (attShowV s d0 d1 d2 d3 d4 d5 d6) 1 = d1 ∧ raD (attShowV s d0 d1 d2 d3 d4 d5 d6) 2 = d2 ∧ raD (attShowV s d0 d1 d2 d3 d4 d5 d6) 3 = d3 ∧ raD (attShowV s d0 d1 d2 d3 d4 d5 d6) 4 = d4 ∧ raD (attShowV s d0 d1 d2 d3 d4 d5 d6) 5 = d5 ∧ raD (attShowV s d0 d1 d2 d3 d4 d5 d6) 6 = d6 ∧ (attShowV s d0 d1 d2 d3 d4 d5 d6).length ≤ 1000 := by
  obtain ⟨f0, f1, f2, f3, f4, f5, f6, fs0, fs1⟩ := rightA_facts h
  have e : attShowV s d0 d1 d2 d3 d4 d5 d6 = Lib.itoa s ++ 124 :: Lib.join (itoas d0 d1 d2 d3 d4 d5 d6) [44] := by unfold attShowV; rw [if_pos h]; simp [catL]
  have hn : ∀ y ∈ itoas d0 d1 d2 d3 d4 d5 d6, ∀ c ∈ y, c ≠ (44 : UInt8) := by
    intro y hy
    unfold itoas at hy
    rw [itoa_dec f0.1, itoa_dec f1.1, itoa_dec f2.1, itoa_dec f3.1, itoa_dec f4.1, itoa_dec f5.1, itoa_dec f6.1] at hy
    simp only [List.mem_cons, List.not_mem_nil, or_false] at hy
    rcases hy with rfl | rfl | rfl | rfl | rfl | rfl | rfl <;> exact dig_not _ (by decide)
  have hc : Lib.cut (attShowV s d0 d1 d2 d3 d4 d5 d6) [124] = (Lib.itoa s, Lib.join (itoas d0 d1 d2 d3 d4 d5 d6) [44], true) := by
    rw [e]; exact cut_at _ _ _ (by rw [itoa_dec fs0]; exact dig_not' _ (by decide))
  have hp : partA (attShowV s d0 d1 d2 d3 d4 d5 d6) = itoas d0 d1 d2 d3 d4 d5 d6 := by
    unfold partA; rw [hc]; exact split_join 44 _ _ hn
  have rs : rS (attShowV s d0 d1 d2 d3 d4 d5 d6) = s := by unfold rS; rw [hc]; exact atoi_itoa fs0 (by omega)
  have rd : ∀ k d, k < 7 → (itoas d0 d1 d2 d3 d4 d5 d6).getD k [] = Lib.itoa d → 0 ≤ d ∧ d ≤ 1024 → rD (attShowV s d0 d1 d2 d3 d4 d5 d6) k = d := by
    intro k d hk he hd
    unfold rD dkA
    rw [hp, itoas_len, if_pos hk, he]
    exact atoi_itoa hd.1 (by omega)
  have r0 := rd 0 d0 (by omega) rfl f0
  have r1 := rd 1 d1 (by omega) rfl f1
  have r2 := rd 2 d2 (by omega) rfl f2
  have r3 := rd 3 d3 (by omega) rfl f3
  have r4 := rd 4 d4 (by omega) rfl f4
  have r5 := rd 5 d5 (by omega) rfl f5
  have r6 := rd 6 d6 (by omega) rfl f6
  have hk : rK (attShowV s d0 d1 d2 d3 d4 d5 d6) = true := by
    unfold rK
    rw [rs, r0, r1, r2, r3, r4, r5, r6, h]; simp
  have hl : (attShowV s d0 d1 d2 d3 d4 d5 d6).length ≤ 1000 := by
    have is := itoa_len s (by omega) (by omega)
    have hj := join_lens 44 22 (Lib.itoa d0) [Lib.itoa d1, Lib.itoa d2, Lib.itoa d3, Lib.itoa d4, Lib.itoa d5, Lib.itoa d6] (by
      have i0 := itoa_len d0 (by omega) (by omega)
      have i1 := itoa_len d1 (by omega) (by omega)
      have i2 := itoa_len d2 (by omega) (by omega)
      have i3 := itoa_len d3 (by omega) (by omega)
      have i4 := itoa_len d4 (by omega) (by omega)
      have i5 := itoa_len d5 (by omega) (by omega)
      have i6 := itoa_len d6 (by omega) (by omega)
      simp; omega)
    have hj' : (Lib.join (itoas d0 d1 d2 d3 d4 d5 d6) [44]).length ≤ 200 := Nat.le_trans hj (by simp)
    rw [e]; simp; omega
  refine ⟨by unfold raE; rw [if_pos hk], by unfold raS; rw [if_pos hk, rs], ?_, ?_, ?_, ?_, ?_, ?_, ?_, hl⟩ <;> (unfold raD; rw [if_pos hk]; assumption)
end Go.Proofs.YtpomloangafbkaaGreatDoor
/- The contracts are met. -/
namespace Go.Proofs.YtpomloangafbkaaGreatDoor
set_option linter.unusedVariables false
set_option linter.unusedSimpArgs false
open Go.RowKit
theorem sndAttShow : Sound Tryz.prog (lookΓ gamAttShow) := sound_of _ fun p hp => by
  simp only [gamAttShow, List.mem_cons, List.not_mem_nil, or_false] at hp
  rcases hp with rfl | rfl | rfl
  · exact meetsAttRight.orNil
  · exact meetsItoa.orNil
  · exact meetsJoinS.orNil
set_option maxHeartbeats 4000000 in
theorem meetsAttShow : Meets Tryz.prog 29 attShowF := by
  refine meets_of_awp (Γ := lookΓ gamAttShow) (L := fun args => match args with | [.val (.agg [.int .i64 s, .int .i64 d0, .int .i64 d1, .int .i64 d2, .int .i64 d3, .int .i64 d4, .int .i64 d5, .int .i64 d6])] => lpAttShow0 s d0 d1 d2 d3 d4 d5 d6 | _ => fun _ => none) sndAttShow mixedOrders Tryz.func29 rfl Tryz.call29 ?_
  intro args q r hF hq ho
  unfold attShowF at hF
  split at hF
  · cases hF
    exact ⟨by simp only [List.length_cons, List.length_nil]; decide, okAttShow0 _ _ _ _ _ _ _ _ hq⟩
  · cases hF
theorem sndAttRead : Sound Tryz.prog (lookΓ gamAttRead) := sound_of _ fun p hp => by
  simp only [gamAttRead, List.mem_cons, List.not_mem_nil, or_false] at hp
  rcases hp with rfl | rfl | rfl | rfl
  · exact meetsCutS.orNil
  · exact meetsAtoi.orNil
  · exact meetsSplitS.orNil
  · exact meetsAttShow.orNil
set_option maxHeartbeats 4000000 in
theorem meetsAttRead : Meets Tryz.prog 43 attReadF := by
  refine meets_of_awp (Γ := lookΓ gamAttRead) (L := fun args => match args with | [.val (.str t)] => lpAttRead0 t | _ => fun _ => none) sndAttRead mixedOrders Tryz.func43 rfl Tryz.call43 ?_
  intro args q r hF hq ho
  unfold attReadF at hF
  split at hF
  · cases hF
    exact ⟨by simp only [List.length_cons, List.length_nil]; decide, okAttRead0 _ hq⟩
  · cases hF
end Go.Proofs.YtpomloangafbkaaGreatDoor
