/- Contracts by content, their conditions, and that they are met: ClashL. -/
import Derived.Test.YtddilmocngedjaaDoorLaxPkClashA
/- Contracts by content, and the conditions that their code must meet. -/
namespace Go.Proofs.YtddilmocngedjaaDoor
set_option linter.unusedVariables false
set_option linter.unusedSimpArgs false
open Go.RowKit
def cmdV (e : AV) : CmdP := ⟨rdInt e 0, rdInt e 1, rdStr e 2, rdInt e 3, rdStr e 4, rdInt e 5, rdInt e 6, rdInt e 7⟩
def cmdKs : List Kd := [.int .i64, .int .u64, .str, .int .u64, .str, .int .i64, .int .u64, .int .i64]
def isCmds (xs : List AV) : Prop := ∀ i, i < xs.length → okElem 8 xs i ∧ okRead cmdKs (elemAt xs i) 0 ∧ (cmdV (elemAt xs i)).foot.length ≤ 9223372036854775807 ∧ (cmdV (elemAt xs i)).path.length ≤ 9223372036854775807
def isBools (bs : List AV) : Prop := ∀ i, i < bs.length → okElem 1 bs i ∧ okRead [.bool] (elemAt bs i) 0
def smallV (c : CmdP) : Bool := decide (c.path.length < 200) && decide (c.foot.length < 200)
def smallAll (xs : List AV) (i : Nat) : Prop := ∀ j, j < i → smallV (cmdV (elemAt xs j)) = true
def hasN (bs : List AV) (i : Nat) : Bool := decide (i < bs.length) && rdBool (elemAt bs i) 0
def amongL (xs : List AV) (c : CmdP) (i : Nat) : List Int := ((List.range i).filter fun j => clashC (cmdV (elemAt xs j)) c).map fun j : Nat => (j : Int)
def intsAV (l : List Int) : List AV := l.map (AV.int .i64)
def closedRow (xs bs : List AV) (i j : Nat) : Bool := (List.range j).all fun q => !hasN bs i || hasN bs q || !clashC (cmdV (elemAt xs q)) (cmdV (elemAt xs i))
def closedN (xs bs : List AV) (i : Nat) : Bool := (List.range i).all fun q => closedRow xs bs q q
def loopAmong (xs : List AV) (c : CmdP) : LoopInv :=
  { V := Nat
    T := fun i => [(3, .ptr 3 0), (5, .sl (intsAV (amongL xs c i)) (.row 5 0 3)), (8, .sl xs .no), (9, .int .i64 (xs.length : Int)), (10, .int .i64 (i : Int))]
    B := fun i => [(3, cmdL c)]
    R := fun i => [((5, 0), (intsAV (amongL xs c i)).length)]
    inv := fun i => i ≤ xs.length
    mu := fun i => xs.length - i }
def loopClosed (xs bs : List AV) : LoopInv :=
  { V := Nat
    T := fun i => [(0, .sl xs .no), (5, .vec 3 0 (30 + 2) true), (11, .sl xs .no), (12, .int .i64 (xs.length : Int)), (13, .int .i64 (i : Int))]
    B := fun i => [(3, [.sl bs .no])]
    R := fun i => []
    inv := fun i => i ≤ xs.length ∧ closedN xs bs i = true
    mu := fun i => xs.length - i }
def loopClosed2 (xs bs : List AV) : LoopInv :=
  { V := Nat × Nat
    T := fun v => [(0, .sl xs .no), (5, .vec 3 0 (30 + 2) true), (11, .sl xs .no), (12, .int .i64 (xs.length : Int)), (13, .int .i64 (v.1 : Int)), (26, .sl (intsAV (amongL xs (cmdV (elemAt xs v.1)) v.1)) .no), (27, .int .i64 ((amongL xs (cmdV (elemAt xs v.1)) v.1).length : Int)), (28, .int .i64 (v.2 : Int))]
    B := fun v => [(3, [.sl bs .no])]
    R := fun v => []
    inv := fun v => v.1 < xs.length ∧ closedN xs bs v.1 = true ∧ hasN bs v.1 = true ∧ v.2 ≤ (amongL xs (cmdV (elemAt xs v.1)) v.1).length ∧ ∀ q, q < v.2 → hasN bs ((amongL xs (cmdV (elemAt xs v.1)) v.1).getD q 0).toNat = true
    mu := fun v => (amongL xs (cmdV (elemAt xs v.1)) v.1).length - v.2 }
def loopLaw0 (xs bs : List AV) (c : CmdP) : LoopInv :=
  { V := Nat
    T := fun i => [(0, .sl xs .no), (2, .sl bs .no), (4, .ptr 4 0), (24, .sl xs .no), (25, .int .i64 (xs.length : Int)), (26, .int .i64 (i : Int))]
    B := fun i => [(4, cmdL c)]
    R := fun i => []
    inv := fun i => i ≤ xs.length ∧ smallAll xs i
    mu := fun i => xs.length - i }
def loopLaw2 (xs bs : List AV) (c : CmdP) : LoopInv :=
  { V := Nat
    T := fun i => [(0, .sl xs .no), (2, .sl bs .no), (4, .ptr 4 0), (9, .sl (intsAV (amongL xs c xs.length)) .no), (10, .int .i64 ((amongL xs c i).length : Int)), (37, .sl xs .no), (38, .int .i64 (xs.length : Int)), (39, .int .i64 (i : Int))]
    B := fun i => [(4, cmdL c)]
    R := fun i => []
    inv := fun i => i ≤ xs.length
    mu := fun i => xs.length - i }
def loopLaw4 (xs bs : List AV) (c : CmdP) : LoopInv :=
  { V := Nat
    T := fun i => [(0, .sl xs .no), (2, .sl bs .no), (9, .sl (intsAV (amongL xs c xs.length)) .no), (10, .int .i64 ((amongL xs c xs.length).length : Int)), (13, .bool (closedN xs bs i)), (65, .int .i64 (xs.length : Int)), (66, .int .i64 (i : Int))]
    B := fun i => []
    R := fun i => []
    inv := fun i => i ≤ xs.length
    mu := fun i => xs.length - i }
def loopLaw6 (xs bs : List AV) (c : CmdP) : LoopInv :=
  { V := Nat × Nat
    T := fun v => [(0, .sl xs .no), (2, .sl bs .no), (9, .sl (intsAV (amongL xs c xs.length)) .no), (10, .int .i64 ((amongL xs c xs.length).length : Int)), (13, .bool (closedN xs bs v.1 && closedRow xs bs v.1 v.2)), (14, .int .i64 (v.1 : Int)), (65, .int .i64 (xs.length : Int)), (66, .int .i64 (v.1 : Int)), (69, .int .i64 (v.1 : Int)), (70, .int .i64 (v.2 : Int))]
    B := fun v => []
    R := fun v => []
    inv := fun v => v.1 < xs.length ∧ v.2 ≤ v.1
    mu := fun v => v.1 - v.2 }
def amongF : Con
  | [.val (.sl xs .no), .val (.agg [.int .i64 k, .int .u64 num, .str foot, .int .u64 rq, .str path, .int .i64 mode, .int .u64 n, .int .i64 time])] => (some (isCmds xs ∧ xs.length ≤ 1000 ∧ smallAll xs xs.length ∧ foot.length ≤ 900000 ∧ path.length ≤ 900000, ⟨.sl (intsAV (amongL xs ⟨k, num, foot, rq, path, mode, n, time⟩ xs.length)) .no, none, none⟩))
  | _ => none
def gamAmong : List (Nat × Con) := [(27, clashF.orNil)]
def lpAmong0 (xs : List AV) (k num : Int) (foot : List UInt8) (rq : Int) (path : List UInt8) (mode n time : Int) : Nat → Option LoopPlan := fun b => bif Nat.beq b 0 then some (.inv [.nilT 5 5 0 3] (loopAmong xs ⟨k, num, foot, rq, path, mode, n, time⟩)) else none
def inAmong0 (xs : List AV) (k num : Int) (foot : List UInt8) (rq : Int) (path : List UInt8) (mode n time : Int) : Prop := awp [] (lpAmong0 xs k num foot rq path mode n time) (lookΓ gamAmong) Tryd.prog Tryd.f8.ntmps 0 (Tryd.f8.body.getD .skip) (entrySt [.val (.sl xs .no), .val (.agg [.int .i64 k, .int .u64 num, .str foot, .int .u64 rq, .str path, .int .i64 mode, .int .u64 n, .int .i64 time])]) (exitQ Tryd.prog Tryd.f8.results.toList [] ⟨.sl (intsAV (amongL xs ⟨k, num, foot, rq, path, mode, n, time⟩ xs.length)) .no, none, none⟩)
def OkAmong0 : Prop := ∀ (xs : List AV) (k num : Int) (foot : List UInt8) (rq : Int) (path : List UInt8) (mode n time : Int), isCmds xs ∧ xs.length ≤ 1000 ∧ smallAll xs xs.length ∧ foot.length ≤ 900000 ∧ path.length ≤ 900000 → inAmong0 xs k num foot rq path mode n time
def has08F : Con
  | [.val (.int .i64 i), .box [.sl bs .no]] => (some (isBools bs ∧ 0 ≤ i, ⟨.bool (hasN bs i.toNat), (some [.sl bs .no]), none⟩))
  | _ => none
def gamHas08 : List (Nat × Con) := []
def lpHas081 (i : Int) (bs : List AV) : Nat → Option LoopPlan := fun _ => none
def inHas081 (i : Int) (bs : List AV) : Prop := awp [1] (lpHas081 i bs) (lookΓ gamHas08) Tryd.prog Tryd.f30.ntmps 0 (Tryd.f30.body.getD .skip) (entrySt [.val (.int .i64 i), .box [.sl bs .no]]) (exitQ Tryd.prog Tryd.f30.results.toList [1] ⟨.bool (hasN bs i.toNat), (some [.sl bs .no]), none⟩)
def OkHas081 : Prop := ∀ (i : Int) (bs : List AV), isBools bs ∧ 0 ≤ i → inHas081 i bs
def closedF : Con
  | [.val (.sl xs .no), .val (.sl bs .no)] => (some (isCmds xs ∧ isBools bs ∧ xs.length ≤ 1000 ∧ smallAll xs xs.length, ⟨.bool (closedN xs bs xs.length), none, none⟩))
  | _ => none
def gamClosed : List (Nat × Con) := [(30, has08F.orNil), (8, amongF.orNil)]
def lpClosed0 (xs bs : List AV) : Nat → Option LoopPlan := fun b => bif Nat.beq b 0 then some (.inv [] (loopClosed xs bs)) else bif Nat.beq b 2 then some (.invK [] (loopClosed2 xs bs) (fun v => v.1)) else none
def inClosed0 (xs bs : List AV) : Prop := awp [] (lpClosed0 xs bs) (lookΓ gamClosed) Tryd.prog Tryd.f11.ntmps 0 (Tryd.f11.body.getD .skip) (entrySt [.val (.sl xs .no), .val (.sl bs .no)]) (exitQ Tryd.prog Tryd.f11.results.toList [] ⟨.bool (closedN xs bs xs.length), none, none⟩)
def OkClosed0 : Prop := ∀ (xs bs : List AV), isCmds xs ∧ isBools bs ∧ xs.length ≤ 1000 ∧ smallAll xs xs.length → inClosed0 xs bs
def lawListsF : Con
  | [.val (.sl xs .no), .val (.agg [.int .i64 k, .int .u64 num, .str foot, .int .u64 rq, .str path, .int .i64 mode, .int .u64 n, .int .i64 time]), .val (.sl bs .no)] => (some (isCmds xs ∧ isBools bs ∧ foot.length ≤ 9223372036854775807 ∧ path.length ≤ 9223372036854775807, ⟨.bool true, none, none⟩))
  | _ => none
def gamLawLists : List (Nat × Con) := [(6, anchor08F.orNil), (7, small08F.orNil), (10, of08F.orNil), (9, rclashF.orNil), (8, amongF.orNil), (11, closedF.orNil)]
def lpLawLists0 (xs : List AV) (k num : Int) (foot : List UInt8) (rq : Int) (path : List UInt8) (mode n time : Int) (bs : List AV) : Nat → Option LoopPlan := fun b => bif Nat.beq b 0 then some (.inv [] (loopLaw0 xs bs ⟨k, num, foot, rq, path, mode, n, time⟩)) else bif Nat.beq b 2 then some (.inv [] (loopLaw2 xs bs ⟨k, num, foot, rq, path, mode, n, time⟩)) else bif Nat.beq b 4 then some (.inv [] (loopLaw4 xs bs ⟨k, num, foot, rq, path, mode, n, time⟩)) else bif Nat.beq b 6 then some (.invK [] (loopLaw6 xs bs ⟨k, num, foot, rq, path, mode, n, time⟩) (fun v => v.1)) else none
def inLawLists0 (xs : List AV) (k num : Int) (foot : List UInt8) (rq : Int) (path : List UInt8) (mode n time : Int) (bs : List AV) : Prop := awp [] (lpLawLists0 xs k num foot rq path mode n time bs) (lookΓ gamLawLists) Tryd.prog Tryd.f3.ntmps 0 (Tryd.f3.body.getD .skip) (entrySt [.val (.sl xs .no), .val (.agg [.int .i64 k, .int .u64 num, .str foot, .int .u64 rq, .str path, .int .i64 mode, .int .u64 n, .int .i64 time]), .val (.sl bs .no)]) (exitQ Tryd.prog Tryd.f3.results.toList [] ⟨.bool true, none, none⟩)
def OkLawLists0 : Prop := ∀ (xs : List AV) (k num : Int) (foot : List UInt8) (rq : Int) (path : List UInt8) (mode n time : Int) (bs : List AV), isCmds xs ∧ isBools bs ∧ foot.length ≤ 9223372036854775807 ∧ path.length ≤ 9223372036854775807 → inLawLists0 xs k num foot rq path mode n time bs
end Go.Proofs.YtddilmocngedjaaDoor
/- What the verification conditions come to: printed by a program of ours (wip/lax/ex/Norm.lean). -/
namespace Go.Proofs.YtddilmocngedjaaDoor
set_option linter.unusedVariables false
open Go.RowKit
set_option maxRecDepth 100000
theorem vcAmong0 (xs : (List AV)) (k : Int) (num : Int) (foot : (List UInt8)) (rq : Int) (path : (List UInt8)) (mode : Int) (n : Int) (time : Int) (h : let q0 := (CmdP.mk k num foot rq path mode n time); let q1 := (List.length xs); let q2 := (Own.row 5 0 3); let w0_x := [(AV.int IntKind.i64 k), (AV.int IntKind.u64 num), (AV.str foot), (AV.int IntKind.u64 rq), (AV.str path), (AV.int IntKind.i64 mode), (AV.int IntKind.u64 n), (AV.int IntKind.i64 time)]; (tt ∧ T1 ∧ T1 ∧ tt ∧ T1 ∧ tt ∧ T1 ∧ T1 ∧ T1 ∧ (@Exists.{1} (loopAmong xs q0).V (fun (v0 : Nat) => ((((AV.ptr 3 0) = (AV.ptr 3 0) ∧ (AV.sl [] q2) = (AV.sl (intsAV (amongL xs q0 v0)) q2) ∧ (AV.sl xs Own.no) = (AV.sl xs Own.no) ∧ (AV.int IntKind.i64 (q1 : Int)) = (AV.int IntKind.i64 (q1 : Int)) ∧ (AV.int IntKind.i64 0) = (AV.int IntKind.i64 (v0 : Int)) ∧ True) ∧ ((@Option.some.{0} (List AV) w0_x) = (@Option.some.{0} (List AV) w0_x) ∧ True) ∧ (@Eq.{1} Nat 0 (List.length (intsAV (amongL xs q0 v0))) ∧ True) ∧ tt ∧ tt) ∧ v0 ≤ q1))) ∧ ∀ v0 : Nat, let w1_0 := (intsAV (amongL xs q0 v0)); let w2_0 := (List.length w1_0); (v0 ≤ q1) → tt ∧ T1 ∧ (bif (decide ((v0 : Int) < (q1 : Int))) then (tt ∧ T1 ∧ ((0 : Int) ≤ (v0 : Int) ∧ (v0 : Int) < (q1 : Int) ∧ (okElem 8 xs (Int.toNat (v0 : Int)))) ∧ (okRead [(Kd.int IntKind.i64), (Kd.int IntKind.u64), Kd.str, (Kd.int IntKind.u64), Kd.str, (Kd.int IntKind.i64), (Kd.int IntKind.u64), (Kd.int IntKind.i64)] (elemAt xs (Int.toNat (v0 : Int))) 0) ∧ T1 ∧ T1 ∧ tt ∧ tt ∧ tt ∧ tt ∧ (T1 ∧ (List.length (rdStr (elemAt xs (Int.toNat (v0 : Int))) 2)) ≤ 900000 ∧ (List.length (rdStr (elemAt xs (Int.toNat (v0 : Int))) 4)) ≤ 900000 ∧ (List.length foot) ≤ 900000 ∧ (List.length path) ≤ 900000) ∧ (bif (clashC (CmdP.mk (rdInt (elemAt xs (Int.toNat (v0 : Int))) 0) (rdInt (elemAt xs (Int.toNat (v0 : Int))) 1) (rdStr (elemAt xs (Int.toNat (v0 : Int))) 2) (rdInt (elemAt xs (Int.toNat (v0 : Int))) 3) (rdStr (elemAt xs (Int.toNat (v0 : Int))) 4) (rdInt (elemAt xs (Int.toNat (v0 : Int))) 5) (rdInt (elemAt xs (Int.toNat (v0 : Int))) 6) (rdInt (elemAt xs (Int.toNat (v0 : Int))) 7)) q0) then (tt ∧ T1 ∧ T1 ∧ T1 ∧ (w2_0 = w2_0 ∧ ((w2_0 + 1) * 8) ≤ 140737488355328 ∧ (w2_0 + 1) ≤ 9223372036854775807 ∧ (okWidth 1 w1_0) ∧ (okWidth 1 [(AV.int IntKind.i64 (v0 : Int))])) ∧ T1 ∧ tt ∧ T1 ∧ T1 ∧ (@Exists.{1} (loopAmong xs q0).V (fun (v2 : Nat) => ((((AV.ptr 3 0) = (AV.ptr 3 0) ∧ (AV.sl (@catL AV w1_0 [(AV.int IntKind.i64 (v0 : Int))]) q2) = (AV.sl (intsAV (amongL xs q0 v2)) q2) ∧ (AV.sl xs Own.no) = (AV.sl xs Own.no) ∧ (AV.int IntKind.i64 (q1 : Int)) = (AV.int IntKind.i64 (q1 : Int)) ∧ (AV.int IntKind.i64 (IntKind.wrap IntKind.i64 ((v0 : Int) + (1 : Int)))) = (AV.int IntKind.i64 (v2 : Int)) ∧ True) ∧ ((@Option.some.{0} (List AV) w0_x) = (@Option.some.{0} (List AV) w0_x) ∧ True) ∧ ((w2_0 + 1) = (List.length (intsAV (amongL xs q0 v2))) ∧ True) ∧ tt ∧ tt) ∧ v2 ≤ q1 ∧ (q1 - v2) < (q1 - v0))))) else (tt ∧ T1 ∧ T1 ∧ (@Exists.{1} (loopAmong xs q0).V (fun (v2 : Nat) => ((((AV.ptr 3 0) = (AV.ptr 3 0) ∧ (AV.sl w1_0 q2) = (AV.sl (intsAV (amongL xs q0 v2)) q2) ∧ (AV.sl xs Own.no) = (AV.sl xs Own.no) ∧ (AV.int IntKind.i64 (q1 : Int)) = (AV.int IntKind.i64 (q1 : Int)) ∧ (AV.int IntKind.i64 (IntKind.wrap IntKind.i64 ((v0 : Int) + (1 : Int)))) = (AV.int IntKind.i64 (v2 : Int)) ∧ True) ∧ ((@Option.some.{0} (List AV) w0_x) = (@Option.some.{0} (List AV) w0_x) ∧ True) ∧ (w2_0 = (List.length (intsAV (amongL xs q0 v2))) ∧ True) ∧ tt ∧ tt) ∧ v2 ≤ q1 ∧ (q1 - v2) < (q1 - v0))))))) else (tt ∧ T1 ∧ T1 ∧ tt ∧ tt ∧ ((intsAV (amongL xs q0 q1)) = w1_0 ∧ True) ∧ tt)))) : inAmong0 xs k num foot rq path mode n time :=
  Eq.mp (show _ = _ by kernel_rfl) h
theorem vcHas081 (i : Int) (bs : (List AV)) (h : (tt ∧ T1 ∧ tt ∧ T1 ∧ tt ∧ T1 ∧ T1 ∧ T1 ∧ (bif (decide (i < ((List.length bs) : Int))) then (tt ∧ T1 ∧ ((0 : Int) ≤ i ∧ i < ((List.length bs) : Int) ∧ (okElem 1 bs (Int.toNat i))) ∧ (okRead [Kd.bool] (elemAt bs (Int.toNat i)) 0) ∧ T1 ∧ T1 ∧ tt ∧ tt ∧ (bs = bs ∧ (hasN bs (Int.toNat i)) = (rdBool (elemAt bs (Int.toNat i)) 0) ∧ True) ∧ tt) else (false = false ∧ T1 ∧ tt ∧ tt ∧ (bs = bs ∧ (hasN bs (Int.toNat i)) = false ∧ True) ∧ tt)))) : inHas081 i bs :=
  Eq.mp (show _ = _ by kernel_rfl) h
theorem vcClosed0 (xs : (List AV)) (bs : (List AV)) (h : let q0 := (List.length xs); let w2_x := [(AV.sl bs Own.no)]; (tt ∧ T1 ∧ T1 ∧ tt ∧ T1 ∧ T1 ∧ tt ∧ T1 ∧ T1 ∧ T1 ∧ (@Exists.{1} (loopClosed xs bs).V (fun (v0 : Nat) => ((((AV.sl xs Own.no) = (AV.sl xs Own.no) ∧ (AV.vec 3 0 32 true) = (AV.vec 3 0 32 true) ∧ (AV.sl xs Own.no) = (AV.sl xs Own.no) ∧ (AV.int IntKind.i64 (q0 : Int)) = (AV.int IntKind.i64 (q0 : Int)) ∧ (AV.int IntKind.i64 0) = (AV.int IntKind.i64 (v0 : Int)) ∧ True) ∧ ((@Option.some.{0} (List AV) w2_x) = (@Option.some.{0} (List AV) w2_x) ∧ True) ∧ T1 ∧ tt ∧ tt) ∧ v0 ≤ q0 ∧ (closedN xs bs v0) = true))) ∧ ∀ v0 : Nat, (v0 ≤ q0 ∧ (closedN xs bs v0) = true) → tt ∧ T1 ∧ (bif (decide ((v0 : Int) < (q0 : Int))) then (tt ∧ T1 ∧ ((0 : Int) ≤ (v0 : Int) ∧ (v0 : Int) < (q0 : Int) ∧ (okElem 8 xs (Int.toNat (v0 : Int)))) ∧ (okRead [(Kd.int IntKind.i64), (Kd.int IntKind.u64), Kd.str, (Kd.int IntKind.u64), Kd.str, (Kd.int IntKind.i64), (Kd.int IntKind.u64), (Kd.int IntKind.i64)] (elemAt xs (Int.toNat (v0 : Int))) 0) ∧ T1 ∧ T1 ∧ tt ∧ tt ∧ T1 ∧ T1 ∧ (T1 ∧ (isBools bs) ∧ (0 : Int) ≤ (v0 : Int)) ∧ ∀ v2 : (List AV), (v2 = bs) → T1 ∧ (bif (Bool.not (hasN bs (Int.toNat (v0 : Int)))) then (tt ∧ T1 ∧ T1 ∧ (@Exists.{1} (loopClosed xs bs).V (fun (v4 : Nat) => ((((AV.sl xs Own.no) = (AV.sl xs Own.no) ∧ (AV.vec 3 0 32 true) = (AV.vec 3 0 32 true) ∧ (AV.sl xs Own.no) = (AV.sl xs Own.no) ∧ (AV.int IntKind.i64 (q0 : Int)) = (AV.int IntKind.i64 (q0 : Int)) ∧ (AV.int IntKind.i64 (IntKind.wrap IntKind.i64 ((v0 : Int) + (1 : Int)))) = (AV.int IntKind.i64 (v4 : Int)) ∧ True) ∧ ((@Option.some.{0} (List AV) [(AV.sl v2 Own.no)]) = (@Option.some.{0} (List AV) w2_x) ∧ True) ∧ T1 ∧ tt ∧ tt) ∧ (v4 ≤ q0 ∧ (closedN xs bs v4) = true) ∧ (q0 - v4) < (q0 - v0))))) else (tt ∧ T1 ∧ T1 ∧ (((0 : Int) ≤ (v0 : Int) ∧ (v0 : Int) ≤ (q0 : Int)) ∧ (okWidth 8 xs)) ∧ tt ∧ (T1 ∧ (isCmds (@cutL AV xs 0 (Int.toNat (v0 : Int)))) ∧ (List.length (@cutL AV xs 0 (Int.toNat (v0 : Int)))) ≤ 1000 ∧ (smallAll (@cutL AV xs 0 (Int.toNat (v0 : Int))) (List.length (@cutL AV xs 0 (Int.toNat (v0 : Int))))) ∧ (List.length (rdStr (elemAt xs (Int.toNat (v0 : Int))) 2)) ≤ 900000 ∧ (List.length (rdStr (elemAt xs (Int.toNat (v0 : Int))) 4)) ≤ 900000) ∧ ∀ v4 : (List AV), (v4 = (intsAV (amongL (@cutL AV xs 0 (Int.toNat (v0 : Int))) (CmdP.mk (rdInt (elemAt xs (Int.toNat (v0 : Int))) 0) (rdInt (elemAt xs (Int.toNat (v0 : Int))) 1) (rdStr (elemAt xs (Int.toNat (v0 : Int))) 2) (rdInt (elemAt xs (Int.toNat (v0 : Int))) 3) (rdStr (elemAt xs (Int.toNat (v0 : Int))) 4) (rdInt (elemAt xs (Int.toNat (v0 : Int))) 5) (rdInt (elemAt xs (Int.toNat (v0 : Int))) 6) (rdInt (elemAt xs (Int.toNat (v0 : Int))) 7)) (List.length (@cutL AV xs 0 (Int.toNat (v0 : Int))))))) → T1 ∧ T1 ∧ tt ∧ (@Exists.{1} (loopClosed2 xs bs).V (fun (v6 : (@Prod.{0, 0} Nat Nat)) => let w1_6 := (amongL xs (cmdV (elemAt xs v6.1)) v6.1); (((((AV.sl xs Own.no) = (AV.sl xs Own.no) ∧ (AV.vec 3 0 32 true) = (AV.vec 3 0 32 true) ∧ (AV.sl xs Own.no) = (AV.sl xs Own.no) ∧ (AV.int IntKind.i64 (q0 : Int)) = (AV.int IntKind.i64 (q0 : Int)) ∧ (AV.int IntKind.i64 (v0 : Int)) = (AV.int IntKind.i64 (v6.1 : Int)) ∧ (AV.sl v4 Own.no) = (AV.sl (intsAV w1_6) Own.no) ∧ (AV.int IntKind.i64 ((List.length v4) : Int)) = (AV.int IntKind.i64 ((List.length w1_6) : Int)) ∧ (AV.int IntKind.i64 0) = (AV.int IntKind.i64 (v6.2 : Int)) ∧ True) ∧ ((@Option.some.{0} (List AV) [(AV.sl v2 Own.no)]) = (@Option.some.{0} (List AV) w2_x) ∧ True) ∧ T1 ∧ tt ∧ tt) ∧ v6.1 < q0 ∧ (closedN xs bs v6.1) = true ∧ (hasN bs v6.1) = true ∧ v6.2 ≤ (List.length w1_6) ∧ ∀ v7 : Nat, (v7 < v6.2) → ((hasN bs (Int.toNat (@List.getD.{0} Int w1_6 v7 (0 : Int)))) = true)) ∧ ∀ v7 : (@Prod.{0, 0} Nat Nat), (v7.1 < q0 ∧ (closedN xs bs v7.1) = true ∧ (hasN bs v7.1) = true ∧ v7.2 ≤ (List.length (amongL xs (cmdV (elemAt xs v7.1)) v7.1)) ∧ ∀ v8 : Nat, (v8 < v7.2) → ((hasN bs (Int.toNat (@List.getD.{0} Int (amongL xs (cmdV (elemAt xs v7.1)) v7.1) v8 (0 : Int)))) = true)) → (v7.1 = v6.1) → tt ∧ T1 ∧ (bif (decide ((v7.2 : Int) < ((List.length (amongL xs (cmdV (elemAt xs v7.1)) v7.1)) : Int))) then (tt ∧ ((0 : Int) ≤ (v7.2 : Int) ∧ (v7.2 : Int) < ((List.length (intsAV (amongL xs (cmdV (elemAt xs v7.1)) v7.1))) : Int) ∧ (okElem 1 (intsAV (amongL xs (cmdV (elemAt xs v7.1)) v7.1)) (Int.toNat (v7.2 : Int)))) ∧ (okRead [(Kd.int IntKind.i64)] (elemAt (intsAV (amongL xs (cmdV (elemAt xs v7.1)) v7.1)) (Int.toNat (v7.2 : Int))) 0) ∧ T1 ∧ tt ∧ T1 ∧ T1 ∧ (T1 ∧ (isBools bs) ∧ (0 : Int) ≤ (rdInt (elemAt (intsAV (amongL xs (cmdV (elemAt xs v7.1)) v7.1)) (Int.toNat (v7.2 : Int))) 0)) ∧ ∀ v10 : (List AV), (v10 = bs) → T1 ∧ (bif (Bool.not (hasN bs (Int.toNat (rdInt (elemAt (intsAV (amongL xs (cmdV (elemAt xs v7.1)) v7.1)) (Int.toNat (v7.2 : Int))) 0)))) then (tt ∧ T1 ∧ tt ∧ tt ∧ ((closedN xs bs q0) = false ∧ True) ∧ tt) else (tt ∧ T1 ∧ T1 ∧ (@Exists.{1} (loopClosed2 xs bs).V (fun (v12 : (@Prod.{0, 0} Nat Nat)) => let w0_12 := (amongL xs (cmdV (elemAt xs v12.1)) v12.1); ((((AV.sl xs Own.no) = (AV.sl xs Own.no) ∧ (AV.vec 3 0 32 true) = (AV.vec 3 0 32 true) ∧ (AV.sl xs Own.no) = (AV.sl xs Own.no) ∧ (AV.int IntKind.i64 (q0 : Int)) = (AV.int IntKind.i64 (q0 : Int)) ∧ (AV.int IntKind.i64 (v7.1 : Int)) = (AV.int IntKind.i64 (v12.1 : Int)) ∧ (AV.sl (intsAV (amongL xs (cmdV (elemAt xs v7.1)) v7.1)) Own.no) = (AV.sl (intsAV w0_12) Own.no) ∧ (AV.int IntKind.i64 ((List.length (amongL xs (cmdV (elemAt xs v7.1)) v7.1)) : Int)) = (AV.int IntKind.i64 ((List.length w0_12) : Int)) ∧ (AV.int IntKind.i64 (IntKind.wrap IntKind.i64 ((v7.2 : Int) + (1 : Int)))) = (AV.int IntKind.i64 (v12.2 : Int)) ∧ True) ∧ ((@Option.some.{0} (List AV) [(AV.sl v10 Own.no)]) = (@Option.some.{0} (List AV) w2_x) ∧ True) ∧ T1 ∧ tt ∧ tt) ∧ (v12.1 < q0 ∧ (closedN xs bs v12.1) = true ∧ (hasN bs v12.1) = true ∧ v12.2 ≤ (List.length w0_12) ∧ ∀ v13 : Nat, (v13 < v12.2) → ((hasN bs (Int.toNat (@List.getD.{0} Int w0_12 v13 (0 : Int)))) = true)) ∧ v12.1 = v6.1 ∧ ((List.length w0_12) - v12.2) < ((List.length (amongL xs (cmdV (elemAt xs v7.1)) v7.1)) - v7.2))))))) else (tt ∧ T1 ∧ T1 ∧ (@Exists.{1} (loopClosed xs bs).V (fun (v10 : Nat) => ((((AV.sl xs Own.no) = (AV.sl xs Own.no) ∧ (AV.vec 3 0 32 true) = (AV.vec 3 0 32 true) ∧ (AV.sl xs Own.no) = (AV.sl xs Own.no) ∧ (AV.int IntKind.i64 (q0 : Int)) = (AV.int IntKind.i64 (q0 : Int)) ∧ (AV.int IntKind.i64 (IntKind.wrap IntKind.i64 ((v7.1 : Int) + (1 : Int)))) = (AV.int IntKind.i64 (v10 : Int)) ∧ True) ∧ ((@Option.some.{0} (List AV) w2_x) = (@Option.some.{0} (List AV) w2_x) ∧ True) ∧ T1 ∧ tt ∧ tt) ∧ (v10 ≤ q0 ∧ (closedN xs bs v10) = true) ∧ (q0 - v10) < (q0 - v0)))))))))))) else (tt ∧ T1 ∧ tt ∧ tt ∧ ((closedN xs bs q0) = true ∧ True) ∧ tt)))) : inClosed0 xs bs :=
  Eq.mp (show _ = _ by kernel_rfl) h
theorem vcLawLists0 (xs : (List AV)) (k : Int) (num : Int) (foot : (List UInt8)) (rq : Int) (path : (List UInt8)) (mode : Int) (n : Int) (time : Int) (bs : (List AV)) (h : let q0 := (amongL xs (CmdP.mk k num foot rq path mode n time) (List.length xs)); let q1 := (List.length xs); let q2 := (CmdP.mk k num foot rq path mode n time); let q3 := (intsAV q0); let q4 := (List.length q0); let q5 := (loopLaw6 xs bs q2); let w0_x := [(AV.int IntKind.i64 k), (AV.int IntKind.u64 num), (AV.str foot), (AV.int IntKind.u64 rq), (AV.str path), (AV.int IntKind.i64 mode), (AV.int IntKind.u64 n), (AV.int IntKind.i64 time)]; let w2_x := (tt ∧ T1 ∧ tt ∧ tt ∧ (tt ∧ True) ∧ tt); let w3_x := ((List.length bs) : Int); (tt ∧ T1 ∧ T1 ∧ tt ∧ (T1 ∧ True) ∧ T1 ∧ tt ∧ T1 ∧ T1 ∧ T1 ∧ (bif (decide ((30 : Int) < (q1 : Int))) then w2_x else (tt ∧ tt ∧ (T1 ∧ (List.length foot) ≤ 9223372036854775807 ∧ (List.length path) ≤ 9223372036854775807) ∧ T1 ∧ (bif (Bool.not (Bool.and (decide ((List.length path) < 200)) (decide ((List.length foot) < 200)))) then w2_x else (tt ∧ T1 ∧ T1 ∧ T1 ∧ (@Exists.{1} (loopLaw0 xs bs q2).V (fun (v0 : Nat) => ((((AV.sl xs Own.no) = (AV.sl xs Own.no) ∧ (AV.sl bs Own.no) = (AV.sl bs Own.no) ∧ (AV.ptr 4 0) = (AV.ptr 4 0) ∧ (AV.sl xs Own.no) = (AV.sl xs Own.no) ∧ (AV.int IntKind.i64 (q1 : Int)) = (AV.int IntKind.i64 (q1 : Int)) ∧ (AV.int IntKind.i64 0) = (AV.int IntKind.i64 (v0 : Int)) ∧ True) ∧ ((@Option.some.{0} (List AV) w0_x) = (@Option.some.{0} (List AV) w0_x) ∧ True) ∧ T1 ∧ tt ∧ tt) ∧ v0 ≤ q1 ∧ (smallAll xs v0)))) ∧ ∀ v0 : Nat, (v0 ≤ q1 ∧ (smallAll xs v0)) → tt ∧ T1 ∧ (bif (decide ((v0 : Int) < (q1 : Int))) then (tt ∧ ((0 : Int) ≤ (v0 : Int) ∧ (v0 : Int) < (q1 : Int) ∧ (okElem 8 xs (Int.toNat (v0 : Int)))) ∧ (okRead [(Kd.int IntKind.i64), (Kd.int IntKind.u64), Kd.str, (Kd.int IntKind.u64), Kd.str, (Kd.int IntKind.i64), (Kd.int IntKind.u64), (Kd.int IntKind.i64)] (elemAt xs (Int.toNat (v0 : Int))) 0) ∧ T1 ∧ tt ∧ tt ∧ tt ∧ (T1 ∧ (List.length (rdStr (elemAt xs (Int.toNat (v0 : Int))) 2)) ≤ 9223372036854775807 ∧ (List.length (rdStr (elemAt xs (Int.toNat (v0 : Int))) 4)) ≤ 9223372036854775807) ∧ T1 ∧ (bif (Bool.not (Bool.and (decide ((List.length (rdStr (elemAt xs (Int.toNat (v0 : Int))) 4)) < 200)) (decide ((List.length (rdStr (elemAt xs (Int.toNat (v0 : Int))) 2)) < 200)))) then w2_x else (tt ∧ T1 ∧ T1 ∧ (@Exists.{1} (loopLaw0 xs bs q2).V (fun (v2 : Nat) => ((((AV.sl xs Own.no) = (AV.sl xs Own.no) ∧ (AV.sl bs Own.no) = (AV.sl bs Own.no) ∧ (AV.ptr 4 0) = (AV.ptr 4 0) ∧ (AV.sl xs Own.no) = (AV.sl xs Own.no) ∧ (AV.int IntKind.i64 (q1 : Int)) = (AV.int IntKind.i64 (q1 : Int)) ∧ (AV.int IntKind.i64 (IntKind.wrap IntKind.i64 ((v0 : Int) + (1 : Int)))) = (AV.int IntKind.i64 (v2 : Int)) ∧ True) ∧ ((@Option.some.{0} (List AV) w0_x) = (@Option.some.{0} (List AV) w0_x) ∧ True) ∧ T1 ∧ tt ∧ tt) ∧ (v2 ≤ q1 ∧ (smallAll xs v2)) ∧ (q1 - v2) < (q1 - v0))))))) else (tt ∧ T1 ∧ tt ∧ (T1 ∧ (isCmds xs) ∧ q1 ≤ 1000 ∧ (smallAll xs q1) ∧ (List.length foot) ≤ 900000 ∧ (List.length path) ≤ 900000) ∧ ∀ v2 : (List AV), (v2 = q3) → T1 ∧ tt ∧ T1 ∧ tt ∧ T1 ∧ T1 ∧ T1 ∧ (@Exists.{1} (loopLaw2 xs bs q2).V (fun (v4 : Nat) => ((((AV.sl xs Own.no) = (AV.sl xs Own.no) ∧ (AV.sl bs Own.no) = (AV.sl bs Own.no) ∧ (AV.ptr 4 0) = (AV.ptr 4 0) ∧ (AV.sl v2 Own.no) = (AV.sl q3 Own.no) ∧ (AV.int IntKind.i64 0) = (AV.int IntKind.i64 ((List.length (amongL xs q2 v4)) : Int)) ∧ (AV.sl xs Own.no) = (AV.sl xs Own.no) ∧ (AV.int IntKind.i64 (q1 : Int)) = (AV.int IntKind.i64 (q1 : Int)) ∧ (AV.int IntKind.i64 0) = (AV.int IntKind.i64 (v4 : Int)) ∧ True) ∧ ((@Option.some.{0} (List AV) w0_x) = (@Option.some.{0} (List AV) w0_x) ∧ True) ∧ T1 ∧ tt ∧ tt) ∧ v4 ≤ q1))) ∧ ∀ v4 : Nat, let w1_4 := ((List.length (amongL xs q2 v4)) : Int); (v4 ≤ q1) → tt ∧ T1 ∧ (bif (decide ((v4 : Int) < (q1 : Int))) then (tt ∧ T1 ∧ ((0 : Int) ≤ (v4 : Int) ∧ (v4 : Int) < (q1 : Int) ∧ (okElem 8 xs (Int.toNat (v4 : Int)))) ∧ (okRead [(Kd.int IntKind.i64), (Kd.int IntKind.u64), Kd.str, (Kd.int IntKind.u64), Kd.str, (Kd.int IntKind.i64), (Kd.int IntKind.u64), (Kd.int IntKind.i64)] (elemAt xs (Int.toNat (v4 : Int))) 0) ∧ T1 ∧ T1 ∧ tt ∧ tt ∧ tt ∧ (T1 ∧ True) ∧ ∀ v6 : Int, (v6 = (rdInt (elemAt xs (Int.toNat (v4 : Int))) 0)) → ∀ v8 : Int, (v8 = (rdInt (elemAt xs (Int.toNat (v4 : Int))) 1)) → ∀ v10 : (List UInt8), (v10 = (rdStr (elemAt xs (Int.toNat (v4 : Int))) 2)) → ∀ v12 : Int, (v12 = (rdInt (elemAt xs (Int.toNat (v4 : Int))) 3)) → ∀ v14 : (List UInt8), (v14 = (rdStr (elemAt xs (Int.toNat (v4 : Int))) 4)) → ∀ v16 : Int, (v16 = (rdInt (elemAt xs (Int.toNat (v4 : Int))) 5)) → ∀ v18 : Int, (v18 = (rdInt (elemAt xs (Int.toNat (v4 : Int))) 6)) → ∀ v20 : Int, (v20 = (rdInt (elemAt xs (Int.toNat (v4 : Int))) 7)) → tt ∧ (T1 ∧ True) ∧ ∀ v22 : Int, (v22 = k) → ∀ v24 : Int, (v24 = num) → ∀ v26 : (List UInt8), (v26 = foot) → ∀ v28 : Int, (v28 = rq) → ∀ v30 : (List UInt8), (v30 = path) → ∀ v32 : Int, (v32 = mode) → ∀ v34 : Int, (v34 = n) → ∀ v36 : Int, (v36 = time) → (T1 ∧ (List.length v10) ≤ 900000 ∧ (List.length v14) ≤ 900000 ∧ (List.length v26) ≤ 900000 ∧ (List.length v30) ≤ 900000) ∧ tt ∧ (bif (clashC (CmdP.mk v6 v8 v10 v12 v14 v16 v18 v20) (CmdP.mk v22 v24 v26 v28 v30 v32 v34 v36)) then (tt ∧ T1 ∧ T1 ∧ T1 ∧ T1 ∧ T1 ∧ (bif (decide (((List.length q3) : Int) ≤ w1_4)) then (tt ∧ tt ∧ T1 ∧ tt ∧ tt ∧ (true = false ∧ True) ∧ tt) else (T1 ∧ T1 ∧ ((0 : Int) ≤ w1_4 ∧ w1_4 < ((List.length q3) : Int) ∧ (okElem 1 q3 (Int.toNat w1_4))) ∧ (okRead [(Kd.int IntKind.i64)] (elemAt q3 (Int.toNat w1_4)) 0) ∧ T1 ∧ T1 ∧ T1 ∧ (bif ((rdInt (elemAt q3 (Int.toNat w1_4)) 0) != (v4 : Int)) then (tt ∧ T1 ∧ tt ∧ tt ∧ (true = false ∧ True) ∧ tt) else (tt ∧ T1 ∧ T1 ∧ T1 ∧ tt ∧ T1 ∧ T1 ∧ (@Exists.{1} (loopLaw2 xs bs q2).V (fun (v38 : Nat) => ((((AV.sl xs Own.no) = (AV.sl xs Own.no) ∧ (AV.sl bs Own.no) = (AV.sl bs Own.no) ∧ (AV.ptr 4 0) = (AV.ptr 4 0) ∧ (AV.sl q3 Own.no) = (AV.sl q3 Own.no) ∧ (AV.int IntKind.i64 (IntKind.wrap IntKind.i64 (w1_4 + (1 : Int)))) = (AV.int IntKind.i64 ((List.length (amongL xs q2 v38)) : Int)) ∧ (AV.sl xs Own.no) = (AV.sl xs Own.no) ∧ (AV.int IntKind.i64 (q1 : Int)) = (AV.int IntKind.i64 (q1 : Int)) ∧ (AV.int IntKind.i64 (IntKind.wrap IntKind.i64 ((v4 : Int) + (1 : Int)))) = (AV.int IntKind.i64 (v38 : Int)) ∧ True) ∧ ((@Option.some.{0} (List AV) w0_x) = (@Option.some.{0} (List AV) w0_x) ∧ True) ∧ T1 ∧ tt ∧ tt) ∧ v38 ≤ q1 ∧ (q1 - v38) < (q1 - v4))))))))) else (tt ∧ T1 ∧ T1 ∧ (@Exists.{1} (loopLaw2 xs bs q2).V (fun (v38 : Nat) => ((((AV.sl xs Own.no) = (AV.sl xs Own.no) ∧ (AV.sl bs Own.no) = (AV.sl bs Own.no) ∧ (AV.ptr 4 0) = (AV.ptr 4 0) ∧ (AV.sl q3 Own.no) = (AV.sl q3 Own.no) ∧ (AV.int IntKind.i64 w1_4) = (AV.int IntKind.i64 ((List.length (amongL xs q2 v38)) : Int)) ∧ (AV.sl xs Own.no) = (AV.sl xs Own.no) ∧ (AV.int IntKind.i64 (q1 : Int)) = (AV.int IntKind.i64 (q1 : Int)) ∧ (AV.int IntKind.i64 (IntKind.wrap IntKind.i64 ((v4 : Int) + (1 : Int)))) = (AV.int IntKind.i64 (v38 : Int)) ∧ True) ∧ ((@Option.some.{0} (List AV) w0_x) = (@Option.some.{0} (List AV) w0_x) ∧ True) ∧ T1 ∧ tt ∧ tt) ∧ v38 ≤ q1 ∧ (q1 - v38) < (q1 - v4))))))) else (tt ∧ T1 ∧ tt ∧ T1 ∧ T1 ∧ T1 ∧ (@Exists.{1} (loopLaw4 xs bs q2).V (fun (v6 : Nat) => ((((AV.sl xs Own.no) = (AV.sl xs Own.no) ∧ (AV.sl bs Own.no) = (AV.sl bs Own.no) ∧ (AV.sl q3 Own.no) = (AV.sl q3 Own.no) ∧ (AV.int IntKind.i64 w1_4) = (AV.int IntKind.i64 (q4 : Int)) ∧ (AV.bool true) = (AV.bool (closedN xs bs v6)) ∧ (AV.int IntKind.i64 (q1 : Int)) = (AV.int IntKind.i64 (q1 : Int)) ∧ (AV.int IntKind.i64 0) = (AV.int IntKind.i64 (v6 : Int)) ∧ True) ∧ T1 ∧ T1 ∧ tt ∧ tt) ∧ v6 ≤ q1))) ∧ ∀ v6 : Nat, (v6 ≤ q1) → tt ∧ T1 ∧ (bif (decide ((v6 : Int) < (q1 : Int))) then (tt ∧ T1 ∧ T1 ∧ tt ∧ T1 ∧ T1 ∧ (@Exists.{1} q5.V (fun (v8 : (@Prod.{0, 0} Nat Nat)) => (((((AV.sl xs Own.no) = (AV.sl xs Own.no) ∧ (AV.sl bs Own.no) = (AV.sl bs Own.no) ∧ (AV.sl q3 Own.no) = (AV.sl q3 Own.no) ∧ (AV.int IntKind.i64 (q4 : Int)) = (AV.int IntKind.i64 (q4 : Int)) ∧ (AV.bool (closedN xs bs v6)) = (AV.bool (Bool.and (closedN xs bs v8.1) (closedRow xs bs v8.1 v8.2))) ∧ (AV.int IntKind.i64 (v6 : Int)) = (AV.int IntKind.i64 (v8.1 : Int)) ∧ (AV.int IntKind.i64 (q1 : Int)) = (AV.int IntKind.i64 (q1 : Int)) ∧ (AV.int IntKind.i64 (v6 : Int)) = (AV.int IntKind.i64 (v8.1 : Int)) ∧ (AV.int IntKind.i64 (v6 : Int)) = (AV.int IntKind.i64 (v8.1 : Int)) ∧ (AV.int IntKind.i64 0) = (AV.int IntKind.i64 (v8.2 : Int)) ∧ True) ∧ T1 ∧ T1 ∧ tt ∧ tt) ∧ v8.1 < q1 ∧ v8.2 ≤ v8.1) ∧ ∀ v9 : (@Prod.{0, 0} Nat Nat), (v9.1 < q1 ∧ v9.2 ≤ v9.1) → (v9.1 = v8.1) → tt ∧ T1 ∧ (bif (decide ((v9.2 : Int) < (v9.1 : Int))) then (tt ∧ T1 ∧ T1 ∧ tt ∧ T1 ∧ T1 ∧ (bif (Bool.and (closedN xs bs v9.1) (closedRow xs bs v9.1 v9.2)) then (T1 ∧ T1 ∧ T1 ∧ T1 ∧ T1 ∧ (bif (decide (w3_x ≤ (v9.1 : Int))) then (tt ∧ T1 ∧ tt ∧ T1 ∧ tt ∧ T1 ∧ T1 ∧ tt ∧ tt ∧ T1 ∧ T1 ∧ (@Exists.{1} q5.V (fun (v12 : (@Prod.{0, 0} Nat Nat)) => ((((AV.sl xs Own.no) = (AV.sl xs Own.no) ∧ (AV.sl bs Own.no) = (AV.sl bs Own.no) ∧ (AV.sl q3 Own.no) = (AV.sl q3 Own.no) ∧ (AV.int IntKind.i64 (q4 : Int)) = (AV.int IntKind.i64 (q4 : Int)) ∧ (AV.bool true) = (AV.bool (Bool.and (closedN xs bs v12.1) (closedRow xs bs v12.1 v12.2))) ∧ (AV.int IntKind.i64 (v9.1 : Int)) = (AV.int IntKind.i64 (v12.1 : Int)) ∧ (AV.int IntKind.i64 (q1 : Int)) = (AV.int IntKind.i64 (q1 : Int)) ∧ (AV.int IntKind.i64 (v9.1 : Int)) = (AV.int IntKind.i64 (v12.1 : Int)) ∧ (AV.int IntKind.i64 (v9.1 : Int)) = (AV.int IntKind.i64 (v12.1 : Int)) ∧ (AV.int IntKind.i64 (IntKind.wrap IntKind.i64 ((v9.2 : Int) + (1 : Int)))) = (AV.int IntKind.i64 (v12.2 : Int)) ∧ True) ∧ T1 ∧ T1 ∧ tt ∧ tt) ∧ (v12.1 < q1 ∧ v12.2 ≤ v12.1) ∧ v12.1 = v8.1 ∧ (v12.1 - v12.2) < (v9.1 - v9.2))))) else (T1 ∧ T1 ∧ ((0 : Int) ≤ (v9.1 : Int) ∧ (v9.1 : Int) < w3_x ∧ (okElem 1 bs (Int.toNat (v9.1 : Int)))) ∧ (okRead [Kd.bool] (elemAt bs (Int.toNat (v9.1 : Int))) 0) ∧ T1 ∧ T1 ∧ T1 ∧ (bif (Bool.not (rdBool (elemAt bs (Int.toNat (v9.1 : Int))) 0)) then (tt ∧ T1 ∧ tt ∧ T1 ∧ T1 ∧ tt ∧ tt ∧ T1 ∧ T1 ∧ (@Exists.{1} q5.V (fun (v12 : (@Prod.{0, 0} Nat Nat)) => ((((AV.sl xs Own.no) = (AV.sl xs Own.no) ∧ (AV.sl bs Own.no) = (AV.sl bs Own.no) ∧ (AV.sl q3 Own.no) = (AV.sl q3 Own.no) ∧ (AV.int IntKind.i64 (q4 : Int)) = (AV.int IntKind.i64 (q4 : Int)) ∧ (AV.bool true) = (AV.bool (Bool.and (closedN xs bs v12.1) (closedRow xs bs v12.1 v12.2))) ∧ (AV.int IntKind.i64 (v9.1 : Int)) = (AV.int IntKind.i64 (v12.1 : Int)) ∧ (AV.int IntKind.i64 (q1 : Int)) = (AV.int IntKind.i64 (q1 : Int)) ∧ (AV.int IntKind.i64 (v9.1 : Int)) = (AV.int IntKind.i64 (v12.1 : Int)) ∧ (AV.int IntKind.i64 (v9.1 : Int)) = (AV.int IntKind.i64 (v12.1 : Int)) ∧ (AV.int IntKind.i64 (IntKind.wrap IntKind.i64 ((v9.2 : Int) + (1 : Int)))) = (AV.int IntKind.i64 (v12.2 : Int)) ∧ True) ∧ T1 ∧ T1 ∧ tt ∧ tt) ∧ (v12.1 < q1 ∧ v12.2 ≤ v12.1) ∧ v12.1 = v8.1 ∧ (v12.1 - v12.2) < (v9.1 - v9.2))))) else (T1 ∧ T1 ∧ T1 ∧ T1 ∧ T1 ∧ (bif (decide ((v9.2 : Int) < w3_x)) then (T1 ∧ T1 ∧ ((0 : Int) ≤ (v9.2 : Int) ∧ (v9.2 : Int) < w3_x ∧ (okElem 1 bs (Int.toNat (v9.2 : Int)))) ∧ (okRead [Kd.bool] (elemAt bs (Int.toNat (v9.2 : Int))) 0) ∧ T1 ∧ T1 ∧ T1 ∧ (bif (rdBool (elemAt bs (Int.toNat (v9.2 : Int))) 0) then (tt ∧ T1 ∧ T1 ∧ tt ∧ tt ∧ T1 ∧ T1 ∧ (@Exists.{1} q5.V (fun (v12 : (@Prod.{0, 0} Nat Nat)) => ((((AV.sl xs Own.no) = (AV.sl xs Own.no) ∧ (AV.sl bs Own.no) = (AV.sl bs Own.no) ∧ (AV.sl q3 Own.no) = (AV.sl q3 Own.no) ∧ (AV.int IntKind.i64 (q4 : Int)) = (AV.int IntKind.i64 (q4 : Int)) ∧ (AV.bool true) = (AV.bool (Bool.and (closedN xs bs v12.1) (closedRow xs bs v12.1 v12.2))) ∧ (AV.int IntKind.i64 (v9.1 : Int)) = (AV.int IntKind.i64 (v12.1 : Int)) ∧ (AV.int IntKind.i64 (q1 : Int)) = (AV.int IntKind.i64 (q1 : Int)) ∧ (AV.int IntKind.i64 (v9.1 : Int)) = (AV.int IntKind.i64 (v12.1 : Int)) ∧ (AV.int IntKind.i64 (v9.1 : Int)) = (AV.int IntKind.i64 (v12.1 : Int)) ∧ (AV.int IntKind.i64 (IntKind.wrap IntKind.i64 ((v9.2 : Int) + (1 : Int)))) = (AV.int IntKind.i64 (v12.2 : Int)) ∧ True) ∧ T1 ∧ T1 ∧ tt ∧ tt) ∧ (v12.1 < q1 ∧ v12.2 ≤ v12.1) ∧ v12.1 = v8.1 ∧ (v12.1 - v12.2) < (v9.1 - v9.2))))) else (T1 ∧ T1 ∧ ((0 : Int) ≤ (v9.2 : Int) ∧ (v9.2 : Int) < (q1 : Int) ∧ (okElem 8 xs (Int.toNat (v9.2 : Int)))) ∧ (okRead [(Kd.int IntKind.i64), (Kd.int IntKind.u64), Kd.str, (Kd.int IntKind.u64), Kd.str, (Kd.int IntKind.i64), (Kd.int IntKind.u64), (Kd.int IntKind.i64)] (elemAt xs (Int.toNat (v9.2 : Int))) 0) ∧ (T1 ∧ True) ∧ ∀ v12 : Int, (v12 = (rdInt (elemAt xs (Int.toNat (v9.2 : Int))) 0)) → ∀ v14 : Int, (v14 = (rdInt (elemAt xs (Int.toNat (v9.2 : Int))) 1)) → ∀ v16 : (List UInt8), (v16 = (rdStr (elemAt xs (Int.toNat (v9.2 : Int))) 2)) → ∀ v18 : Int, (v18 = (rdInt (elemAt xs (Int.toNat (v9.2 : Int))) 3)) → ∀ v20 : (List UInt8), (v20 = (rdStr (elemAt xs (Int.toNat (v9.2 : Int))) 4)) → ∀ v22 : Int, (v22 = (rdInt (elemAt xs (Int.toNat (v9.2 : Int))) 5)) → ∀ v24 : Int, (v24 = (rdInt (elemAt xs (Int.toNat (v9.2 : Int))) 6)) → ∀ v26 : Int, (v26 = (rdInt (elemAt xs (Int.toNat (v9.2 : Int))) 7)) → T1 ∧ T1 ∧ ((0 : Int) ≤ (v9.1 : Int) ∧ (v9.1 : Int) < (q1 : Int) ∧ (okElem 8 xs (Int.toNat (v9.1 : Int)))) ∧ (okRead [(Kd.int IntKind.i64), (Kd.int IntKind.u64), Kd.str, (Kd.int IntKind.u64), Kd.str, (Kd.int IntKind.i64), (Kd.int IntKind.u64), (Kd.int IntKind.i64)] (elemAt xs (Int.toNat (v9.1 : Int))) 0) ∧ (T1 ∧ True) ∧ ∀ v28 : Int, (v28 = (rdInt (elemAt xs (Int.toNat (v9.1 : Int))) 0)) → ∀ v30 : Int, (v30 = (rdInt (elemAt xs (Int.toNat (v9.1 : Int))) 1)) → ∀ v32 : (List UInt8), (v32 = (rdStr (elemAt xs (Int.toNat (v9.1 : Int))) 2)) → ∀ v34 : Int, (v34 = (rdInt (elemAt xs (Int.toNat (v9.1 : Int))) 3)) → ∀ v36 : (List UInt8), (v36 = (rdStr (elemAt xs (Int.toNat (v9.1 : Int))) 4)) → ∀ v38 : Int, (v38 = (rdInt (elemAt xs (Int.toNat (v9.1 : Int))) 5)) → ∀ v40 : Int, (v40 = (rdInt (elemAt xs (Int.toNat (v9.1 : Int))) 6)) → ∀ v42 : Int, (v42 = (rdInt (elemAt xs (Int.toNat (v9.1 : Int))) 7)) → (T1 ∧ (List.length v16) ≤ 900000 ∧ (List.length v20) ≤ 900000 ∧ (List.length v32) ≤ 900000 ∧ (List.length v36) ≤ 900000) ∧ T1 ∧ T1 ∧ T1 ∧ T1 ∧ tt ∧ tt ∧ T1 ∧ T1 ∧ (@Exists.{1} q5.V (fun (v44 : (@Prod.{0, 0} Nat Nat)) => ((((AV.sl xs Own.no) = (AV.sl xs Own.no) ∧ (AV.sl bs Own.no) = (AV.sl bs Own.no) ∧ (AV.sl q3 Own.no) = (AV.sl q3 Own.no) ∧ (AV.int IntKind.i64 (q4 : Int)) = (AV.int IntKind.i64 (q4 : Int)) ∧ (AV.bool (Bool.not (clashC (CmdP.mk v12 v14 v16 v18 v20 v22 v24 v26) (CmdP.mk v28 v30 v32 v34 v36 v38 v40 v42)))) = (AV.bool (Bool.and (closedN xs bs v44.1) (closedRow xs bs v44.1 v44.2))) ∧ (AV.int IntKind.i64 (v9.1 : Int)) = (AV.int IntKind.i64 (v44.1 : Int)) ∧ (AV.int IntKind.i64 (q1 : Int)) = (AV.int IntKind.i64 (q1 : Int)) ∧ (AV.int IntKind.i64 (v9.1 : Int)) = (AV.int IntKind.i64 (v44.1 : Int)) ∧ (AV.int IntKind.i64 (v9.1 : Int)) = (AV.int IntKind.i64 (v44.1 : Int)) ∧ (AV.int IntKind.i64 (IntKind.wrap IntKind.i64 ((v9.2 : Int) + (1 : Int)))) = (AV.int IntKind.i64 (v44.2 : Int)) ∧ True) ∧ T1 ∧ T1 ∧ tt ∧ tt) ∧ (v44.1 < q1 ∧ v44.2 ≤ v44.1) ∧ v44.1 = v8.1 ∧ (v44.1 - v44.2) < (v9.1 - v9.2))))))) else (false = false ∧ T1 ∧ T1 ∧ T1 ∧ T1 ∧ ((0 : Int) ≤ (v9.2 : Int) ∧ (v9.2 : Int) < (q1 : Int) ∧ (okElem 8 xs (Int.toNat (v9.2 : Int)))) ∧ (okRead [(Kd.int IntKind.i64), (Kd.int IntKind.u64), Kd.str, (Kd.int IntKind.u64), Kd.str, (Kd.int IntKind.i64), (Kd.int IntKind.u64), (Kd.int IntKind.i64)] (elemAt xs (Int.toNat (v9.2 : Int))) 0) ∧ (T1 ∧ True) ∧ ∀ v12 : Int, (v12 = (rdInt (elemAt xs (Int.toNat (v9.2 : Int))) 0)) → ∀ v14 : Int, (v14 = (rdInt (elemAt xs (Int.toNat (v9.2 : Int))) 1)) → ∀ v16 : (List UInt8), (v16 = (rdStr (elemAt xs (Int.toNat (v9.2 : Int))) 2)) → ∀ v18 : Int, (v18 = (rdInt (elemAt xs (Int.toNat (v9.2 : Int))) 3)) → ∀ v20 : (List UInt8), (v20 = (rdStr (elemAt xs (Int.toNat (v9.2 : Int))) 4)) → ∀ v22 : Int, (v22 = (rdInt (elemAt xs (Int.toNat (v9.2 : Int))) 5)) → ∀ v24 : Int, (v24 = (rdInt (elemAt xs (Int.toNat (v9.2 : Int))) 6)) → ∀ v26 : Int, (v26 = (rdInt (elemAt xs (Int.toNat (v9.2 : Int))) 7)) → T1 ∧ T1 ∧ ((0 : Int) ≤ (v9.1 : Int) ∧ (v9.1 : Int) < (q1 : Int) ∧ (okElem 8 xs (Int.toNat (v9.1 : Int)))) ∧ (okRead [(Kd.int IntKind.i64), (Kd.int IntKind.u64), Kd.str, (Kd.int IntKind.u64), Kd.str, (Kd.int IntKind.i64), (Kd.int IntKind.u64), (Kd.int IntKind.i64)] (elemAt xs (Int.toNat (v9.1 : Int))) 0) ∧ (T1 ∧ True) ∧ ∀ v28 : Int, (v28 = (rdInt (elemAt xs (Int.toNat (v9.1 : Int))) 0)) → ∀ v30 : Int, (v30 = (rdInt (elemAt xs (Int.toNat (v9.1 : Int))) 1)) → ∀ v32 : (List UInt8), (v32 = (rdStr (elemAt xs (Int.toNat (v9.1 : Int))) 2)) → ∀ v34 : Int, (v34 = (rdInt (elemAt xs (Int.toNat (v9.1 : Int))) 3)) → ∀ v36 : (List UInt8), (v36 = (rdStr (elemAt xs (Int.toNat (v9.1 : Int))) 4)) → ∀ v38 : Int, (v38 = (rdInt (elemAt xs (Int.toNat (v9.1 : Int))) 5)) → ∀ v40 : Int, (v40 = (rdInt (elemAt xs (Int.toNat (v9.1 : Int))) 6)) → ∀ v42 : Int, (v42 = (rdInt (elemAt xs (Int.toNat (v9.1 : Int))) 7)) → (T1 ∧ (List.length v16) ≤ 900000 ∧ (List.length v20) ≤ 900000 ∧ (List.length v32) ≤ 900000 ∧ (List.length v36) ≤ 900000) ∧ T1 ∧ T1 ∧ T1 ∧ T1 ∧ tt ∧ tt ∧ T1 ∧ T1 ∧ (@Exists.{1} q5.V (fun (v44 : (@Prod.{0, 0} Nat Nat)) => ((((AV.sl xs Own.no) = (AV.sl xs Own.no) ∧ (AV.sl bs Own.no) = (AV.sl bs Own.no) ∧ (AV.sl q3 Own.no) = (AV.sl q3 Own.no) ∧ (AV.int IntKind.i64 (q4 : Int)) = (AV.int IntKind.i64 (q4 : Int)) ∧ (AV.bool (Bool.not (clashC (CmdP.mk v12 v14 v16 v18 v20 v22 v24 v26) (CmdP.mk v28 v30 v32 v34 v36 v38 v40 v42)))) = (AV.bool (Bool.and (closedN xs bs v44.1) (closedRow xs bs v44.1 v44.2))) ∧ (AV.int IntKind.i64 (v9.1 : Int)) = (AV.int IntKind.i64 (v44.1 : Int)) ∧ (AV.int IntKind.i64 (q1 : Int)) = (AV.int IntKind.i64 (q1 : Int)) ∧ (AV.int IntKind.i64 (v9.1 : Int)) = (AV.int IntKind.i64 (v44.1 : Int)) ∧ (AV.int IntKind.i64 (v9.1 : Int)) = (AV.int IntKind.i64 (v44.1 : Int)) ∧ (AV.int IntKind.i64 (IntKind.wrap IntKind.i64 ((v9.2 : Int) + (1 : Int)))) = (AV.int IntKind.i64 (v44.2 : Int)) ∧ True) ∧ T1 ∧ T1 ∧ tt ∧ tt) ∧ (v44.1 < q1 ∧ v44.2 ≤ v44.1) ∧ v44.1 = v8.1 ∧ (v44.1 - v44.2) < (v9.1 - v9.2))))))))))) else (false = false ∧ T1 ∧ tt ∧ tt ∧ T1 ∧ T1 ∧ (@Exists.{1} q5.V (fun (v12 : (@Prod.{0, 0} Nat Nat)) => ((((AV.sl xs Own.no) = (AV.sl xs Own.no) ∧ (AV.sl bs Own.no) = (AV.sl bs Own.no) ∧ (AV.sl q3 Own.no) = (AV.sl q3 Own.no) ∧ (AV.int IntKind.i64 (q4 : Int)) = (AV.int IntKind.i64 (q4 : Int)) ∧ (AV.bool false) = (AV.bool (Bool.and (closedN xs bs v12.1) (closedRow xs bs v12.1 v12.2))) ∧ (AV.int IntKind.i64 (v9.1 : Int)) = (AV.int IntKind.i64 (v12.1 : Int)) ∧ (AV.int IntKind.i64 (q1 : Int)) = (AV.int IntKind.i64 (q1 : Int)) ∧ (AV.int IntKind.i64 (v9.1 : Int)) = (AV.int IntKind.i64 (v12.1 : Int)) ∧ (AV.int IntKind.i64 (v9.1 : Int)) = (AV.int IntKind.i64 (v12.1 : Int)) ∧ (AV.int IntKind.i64 (IntKind.wrap IntKind.i64 ((v9.2 : Int) + (1 : Int)))) = (AV.int IntKind.i64 (v12.2 : Int)) ∧ True) ∧ T1 ∧ T1 ∧ tt ∧ tt) ∧ (v12.1 < q1 ∧ v12.2 ≤ v12.1) ∧ v12.1 = v8.1 ∧ (v12.1 - v12.2) < (v9.1 - v9.2))))))) else (tt ∧ T1 ∧ T1 ∧ (@Exists.{1} (loopLaw4 xs bs q2).V (fun (v12 : Nat) => ((((AV.sl xs Own.no) = (AV.sl xs Own.no) ∧ (AV.sl bs Own.no) = (AV.sl bs Own.no) ∧ (AV.sl q3 Own.no) = (AV.sl q3 Own.no) ∧ (AV.int IntKind.i64 (q4 : Int)) = (AV.int IntKind.i64 (q4 : Int)) ∧ (AV.bool (Bool.and (closedN xs bs v9.1) (closedRow xs bs v9.1 v9.2))) = (AV.bool (closedN xs bs v12)) ∧ (AV.int IntKind.i64 (q1 : Int)) = (AV.int IntKind.i64 (q1 : Int)) ∧ (AV.int IntKind.i64 (IntKind.wrap IntKind.i64 ((v9.1 : Int) + (1 : Int)))) = (AV.int IntKind.i64 (v12 : Int)) ∧ True) ∧ T1 ∧ T1 ∧ tt ∧ tt) ∧ v12 ≤ q1 ∧ (q1 - v12) < (q1 - v6)))))))))) else (tt ∧ T1 ∧ T1 ∧ T1 ∧ T1 ∧ T1 ∧ (bif ((q4 : Int) == ((List.length q3) : Int)) then (T1 ∧ T1 ∧ (T1 ∧ (isCmds xs) ∧ (isBools bs) ∧ q1 ≤ 1000 ∧ (smallAll xs q1)) ∧ T1 ∧ T1 ∧ T1 ∧ T1 ∧ tt ∧ tt ∧ (true = (@BEq.beq.{0} Bool (@instBEqOfDecidableEq.{0} Bool instDecidableEqBool) (closedN xs bs q1) (closedN xs bs v6)) ∧ True) ∧ tt) else (false = false ∧ T1 ∧ tt ∧ tt ∧ (true = false ∧ True) ∧ tt)))))))))))))) : inLawLists0 xs k num foot rq path mode n time bs :=
  Eq.mp (show _ = _ by kernel_rfl) h
end Go.Proofs.YtddilmocngedjaaDoor
/- Lists of commands that interfere: the conditions hold. -/
namespace Go.Proofs.YtddilmocngedjaaDoor
set_option linter.unusedVariables false
set_option linter.unusedSimpArgs false
open Go.RowKit
set_option maxRecDepth 100000
theorem okHas081 : OkHas081 := by
  intro i bs hq
  refine vcHas081 i bs ?_
  obtain ⟨hb, h0⟩ := hq
  simp only [true_and, and_true, forall_eq, eq_self]
  have e : hasN bs i.toNat = (decide (i < (bs.length : Int)) && rdBool (elemAt bs i.toNat) 0) := by
    unfold hasN
    congr 1
    rw [decide_eq_decide]; omega
  rw [e]
  refine cond_prop (fun h => ?_) fun h => ?_
  · have h' := of_decide_eq_true h
    obtain ⟨o, r⟩ := hb i.toNat (by omega)
    exact ⟨⟨h0, h', o⟩, r, by rw [h]; rfl⟩
  · rw [h]; rfl
theorem among_zero (xs : List AV) (c : CmdP) : amongL xs c 0 = [] := rfl
theorem among_succ (xs : List AV) (c : CmdP) (i : Nat) : amongL xs c (i + 1) = amongL xs c i ++ if clashC (cmdV (elemAt xs i)) c then [(i : Int)] else [] := by
  unfold amongL
  rw [List.range_succ, List.filter_append, List.map_append]
  congr 1
  cases h : clashC (cmdV (elemAt xs i)) c <;> simp [List.filter, h]
theorem among_len (xs : List AV) (c : CmdP) : ∀ i, (amongL xs c i).length ≤ i
  | 0 => by simp [among_zero]
  | i + 1 => by
    have := among_len xs c i
    rw [among_succ]
    split <;> simp <;> omega
theorem length_intsAV (l : List Int) : (intsAV l).length = l.length := by simp [intsAV]
theorem okWidth_ints (l : List Int) : okWidth 1 (intsAV l) := by
  intro x hx
  obtain ⟨y, _, rfl⟩ := List.mem_map.1 hx
  rfl
theorem ints_cat (l : List Int) (v : Int) : catL (intsAV l) [AV.int .i64 v] = intsAV (l ++ [v]) := by simp [catL, intsAV]
theorem elemAt_ints {l : List Int} {i : Nat} (h : i < l.length) : elemAt (intsAV l) i = .int .i64 (l.getD i 0) := by
  simp [elemAt, cellAt, intsAV, List.getD_eq_getElem?_getD, List.getElem?_eq_getElem h]
theorem okElem_ints {l : List Int} {i : Nat} (h : i < l.length) : okElem 1 (intsAV l) i := by
  unfold okElem; rw [elemAt_ints h]; rfl
theorem okRead_ints {l : List Int} {i : Nat} (h : i < l.length) : okRead [.int .i64] (elemAt (intsAV l) i) 0 := by
  rw [elemAt_ints h]
  intro j kd hj
  match j, hj with
  | 0, hj => simp at hj; subst hj; rfl
  | j + 1, hj => simp at hj
theorem rdInt_ints {l : List Int} {i : Nat} (h : i < l.length) : rdInt (elemAt (intsAV l) i) 0 = l.getD i 0 := by
  rw [elemAt_ints h]; rfl
theorem small_lens {c : CmdP} (h : smallV c = true) : c.foot.length ≤ 900000 ∧ c.path.length ≤ 900000 := by
  simp [smallV] at h; omega
set_option maxHeartbeats 2000000 in
theorem okAmong0 : OkAmong0 := by
  intro xs k num foot rq path mode n time hq
  obtain ⟨hc, hl, hs, hf, hp⟩ := hq
  refine vcAmong0 xs k num foot rq path mode n time ?_
  generalize hC : (CmdP.mk k num foot rq path mode n time) = c
  simp only [true_and, and_true, forall_eq, eq_self, length_intsAV]
  refine ⟨⟨(0 : Nat), ⟨⟨rfl, rfl⟩, rfl⟩, Nat.zero_le _⟩, fun i hi => cond_prop (fun g => ?_) fun g => ?_⟩
  · have hi' : i < xs.length := by have := of_decide_eq_true g; omega
    have eI : (Int.toNat (i : Int)) = i := by omega
    obtain ⟨o, r, _, _⟩ := hc i hi'
    obtain ⟨l1, l2⟩ := small_lens (hs i hi')
    have e1 : rdStr (elemAt xs i) 2 = (cmdV (elemAt xs i)).foot := rfl
    have e2 : rdStr (elemAt xs i) 4 = (cmdV (elemAt xs i)).path := rfl
    have hal := among_len xs c i
    rw [eI, wrap_i64 (n := (i : Int) + 1) (by omega) (by omega)]
    refine ⟨⟨by omega, by omega, o⟩, r, ⟨l1, l2, hf, hp⟩, cond_prop (fun h => ?_) fun h => ?_⟩
    · have h' : clashC (cmdV (elemAt xs i)) c = true := h
      have e3 : amongL xs c (i + 1) = amongL xs c i ++ [(i : Int)] := by rw [among_succ, if_pos h']
      refine ⟨⟨by omega, by omega, okWidth_ints _, okWidth_ints [(i : Int)]⟩, (i + 1 : Nat), ⟨⟨by rw [ints_cat, e3], rfl⟩, by rw [e3]; simp⟩, by omega, by omega⟩
    · have h' : clashC (cmdV (elemAt xs i)) c = false := h
      have e3 : amongL xs c (i + 1) = amongL xs c i := by rw [among_succ, if_neg (by rw [h']; simp)]; simp
      refine ⟨(i + 1 : Nat), ⟨⟨by rw [e3], rfl⟩, by rw [e3]⟩, by omega, by omega⟩
  · have hi' : i = xs.length := by have := of_decide_eq_false g; omega
    rw [hi']
theorem closedN_succ (xs bs : List AV) (i : Nat) : closedN xs bs (i + 1) = (closedN xs bs i && closedRow xs bs i i) := by
  unfold closedN
  rw [List.range_succ, List.all_append]; simp
theorem closedRow_succ (xs bs : List AV) (i j : Nat) : closedRow xs bs i (j + 1) = (closedRow xs bs i j && (!hasN bs i || hasN bs j || !clashC (cmdV (elemAt xs j)) (cmdV (elemAt xs i)))) := by
  unfold closedRow
  rw [List.range_succ, List.all_append]; simp
theorem mem_among {xs : List AV} {c : CmdP} {i : Nat} {v : Int} : v ∈ amongL xs c i ↔ ∃ j, j < i ∧ clashC (cmdV (elemAt xs j)) c = true ∧ v = (j : Int) := by
  unfold amongL
  simp only [List.mem_map, List.mem_filter, List.mem_range]
  constructor
  · rintro ⟨j, ⟨h1, h2⟩, rfl⟩; exact ⟨j, h1, h2, rfl⟩
  · rintro ⟨j, h1, h2, rfl⟩; exact ⟨j, ⟨h1, h2⟩, rfl⟩
theorem row_free {xs bs : List AV} {i j : Nat} (h : hasN bs i = false) : closedRow xs bs i j = true := by
  unfold closedRow
  rw [List.all_eq_true]
  intro q _
  rw [h]; rfl
theorem row_of {xs bs : List AV} {i : Nat} (h : ∀ v ∈ amongL xs (cmdV (elemAt xs i)) i, hasN bs v.toNat = true) : closedRow xs bs i i = true := by
  unfold closedRow
  rw [List.all_eq_true]
  intro q hq
  have hq' : q < i := List.mem_range.1 hq
  cases hcl : clashC (cmdV (elemAt xs q)) (cmdV (elemAt xs i)) with
  | false => simp
  | true =>
    have := h (q : Int) (mem_among.2 ⟨q, hq', hcl, rfl⟩)
    have e : ((q : Int)).toNat = q := by omega
    rw [e] at this
    rw [this]; simp
theorem row_not {xs bs : List AV} {i : Nat} {v : Int} (hi : hasN bs i = true) (hv : v ∈ amongL xs (cmdV (elemAt xs i)) i) (h : hasN bs v.toNat = false) : closedRow xs bs i i = false := by
  obtain ⟨q, hq, hcl, rfl⟩ := mem_among.1 hv
  have e : ((q : Int)).toNat = q := by omega
  rw [e] at h
  unfold closedRow
  rw [List.all_eq_false]
  exact ⟨q, List.mem_range.2 hq, by rw [hi, h, hcl]; simp⟩
theorem closedN_not {xs bs : List AV} {i n : Nat} (hi : i < n) (h : closedRow xs bs i i = false) : closedN xs bs n = false := by
  unfold closedN
  rw [List.all_eq_false]
  exact ⟨i, List.mem_range.2 hi, by rw [h]; simp⟩
theorem elem_cut {xs : List AV} {i j : Nat} (h : j < i) : elemAt (cutL xs 0 i) j = elemAt xs j := by
  simp [elemAt, cellAt, cutL, List.getElem?_take, h]
theorem among_cut (xs : List AV) (c : CmdP) (i : Nat) : amongL (cutL xs 0 i) c i = amongL xs c i := by
  unfold amongL
  congr 1
  apply List.filter_congr
  intro j hj
  rw [elem_cut (List.mem_range.1 hj)]
theorem cut_length {xs : List AV} {i : Nat} (h : i ≤ xs.length) : (cutL xs 0 i).length = i := by simp [cutL]; omega
theorem cmds_cut {xs : List AV} {i : Nat} (h : isCmds xs) (hi : i ≤ xs.length) : isCmds (cutL xs 0 i) := by
  intro j hj
  rw [cut_length hi] at hj
  have := h j (by omega)
  unfold okElem at this ⊢
  rw [elem_cut hj]; exact this
theorem width_cmds {xs : List AV} (h : isCmds xs) : okWidth 8 xs := by
  intro x hx
  obtain ⟨i, hi, rfl⟩ := List.mem_iff_getElem.1 hx
  have h1 := (h i hi).1
  unfold okElem at h1
  have e : elemAt xs i = xs[i] := by simp [elemAt, cellAt, List.getElem?_eq_getElem hi]
  rw [e] at h1
  exact h1
set_option maxHeartbeats 4000000 in
theorem okClosed0 : OkClosed0 := by
  intro xs bs hq
  obtain ⟨hc, hb, hl, hs⟩ := hq
  refine vcClosed0 xs bs ?_
  simp only [true_and, and_true, forall_eq, eq_self, length_intsAV]
  refine ⟨⟨(0 : Nat), rfl, Nat.zero_le _, rfl⟩, ?_⟩
  rintro i ⟨hi, hcl⟩
  refine cond_prop (fun g => ?_) fun g => ?_
  · have hi' : i < xs.length := by have := of_decide_eq_true g; omega
    have eI : (Int.toNat (i : Int)) = i := by omega
    obtain ⟨o, r, _, _⟩ := hc i hi'
    obtain ⟨l1, l2⟩ := small_lens (hs i hi')
    have e1 : rdStr (elemAt xs i) 2 = (cmdV (elemAt xs i)).foot := rfl
    have e2 : rdStr (elemAt xs i) 4 = (cmdV (elemAt xs i)).path := rfl
    have e3 : CmdP.mk (rdInt (elemAt xs i) 0) (rdInt (elemAt xs i) 1) (rdStr (elemAt xs i) 2) (rdInt (elemAt xs i) 3) (rdStr (elemAt xs i) 4) (rdInt (elemAt xs i) 5) (rdInt (elemAt xs i) 6) (rdInt (elemAt xs i) 7) = cmdV (elemAt xs i) := rfl
    rw [eI, wrap_i64 (n := (i : Int) + 1) (by omega) (by omega)]
    refine ⟨⟨by omega, by omega, o⟩, r, ⟨hb, by omega⟩, cond_prop (fun h => ?_) fun h => ?_⟩
    · have h' : hasN bs i = false := by simpa using h
      exact ⟨(i + 1 : Nat), rfl, ⟨by omega, by rw [closedN_succ, hcl, row_free h']; rfl⟩, by omega⟩
    · have h' : hasN bs i = true := by simpa using h
      have hcut := cut_length hi
      rw [e3, hcut, among_cut]
      refine ⟨⟨⟨by omega, by omega⟩, width_cmds hc⟩, ⟨cmds_cut hc hi, by omega, fun j hj => by rw [elem_cut hj]; exact hs j (by omega), l1, l2⟩, ?_⟩
      refine ⟨((i, 0) : Nat × Nat), ⟨⟨⟨rfl, rfl, rfl, rfl⟩, hi', hcl, h', Nat.zero_le _, fun q hq => by omega⟩, ?_⟩⟩
      rintro ⟨i2, j⟩ ⟨w1, w2, w3, w4, w5⟩ hk
      simp only at w1 w2 w3 w4 w5 hk ⊢
      obtain rfl : i2 = i := hk
      refine cond_prop (fun g2 => ?_) fun g2 => ?_
      · have hj : j < (amongL xs (cmdV (elemAt xs i2)) i2).length := by have := of_decide_eq_true g2; omega
        have hal := among_len xs (cmdV (elemAt xs i2)) i2
        have eJ : (Int.toNat (j : Int)) = j := by omega
        have hmem : (amongL xs (cmdV (elemAt xs i2)) i2).getD j 0 ∈ amongL xs (cmdV (elemAt xs i2)) i2 := by
          rw [List.getD_eq_getElem?_getD, List.getElem?_eq_getElem hj]; exact List.getElem_mem hj
        have hnn : 0 ≤ (amongL xs (cmdV (elemAt xs i2)) i2).getD j 0 := by
          obtain ⟨q, _, _, e⟩ := mem_among.1 hmem
          omega
        rw [eJ, rdInt_ints hj, wrap_i64 (n := (j : Int) + 1) (by omega) (by omega)]
        refine ⟨⟨by omega, by omega, okElem_ints hj⟩, okRead_ints hj, ⟨hb, hnn⟩, cond_prop (fun h2 => ?_) fun h2 => ?_⟩
        · exact closedN_not w1 (row_not w3 hmem (by simpa using h2))
        · refine ⟨((i2, j + 1) : Nat × Nat), ⟨rfl, rfl, rfl, rfl⟩, ⟨w1, w2, w3, by show j + 1 ≤ (amongL xs (cmdV (elemAt xs i2)) i2).length; omega, fun q hq => ?_⟩, rfl, by show (amongL xs (cmdV (elemAt xs i2)) i2).length - (j + 1) < (amongL xs (cmdV (elemAt xs i2)) i2).length - j; omega⟩
          by_cases e : q = j
          · subst e; simpa using h2
          · exact w5 q (by omega)
      · have hj : j = (amongL xs (cmdV (elemAt xs i2)) i2).length := by have := of_decide_eq_false g2; omega
        rw [wrap_i64 (n := (i2 : Int) + 1) (by omega) (by omega)]
        have hrow : closedRow xs bs i2 i2 = true := row_of fun v hv => by
          obtain ⟨q, hq, rfl⟩ := List.mem_iff_getElem.1 hv
          have := w5 q (by omega)
          rw [List.getD_eq_getElem?_getD, List.getElem?_eq_getElem hq] at this
          exact this
        exact ⟨(i2 + 1 : Nat), rfl, ⟨by omega, by rw [closedN_succ, w2, hrow]; rfl⟩, by omega⟩
  · have hi' : i = xs.length := by have := of_decide_eq_false g; omega
    rw [← hi']; exact hcl
theorem among_mono (xs : List AV) (c : CmdP) : ∀ (d i : Nat), ∃ r, amongL xs c (i + d) = amongL xs c i ++ r
  | 0, i => ⟨[], by simp⟩
  | d + 1, i => by
    obtain ⟨r, h⟩ := among_mono xs c d i
    have e := among_succ xs c (i + d)
    rw [h] at e
    exact ⟨_, by rw [show i + (d + 1) = i + d + 1 by omega, e, List.append_assoc]⟩
theorem among_here {xs : List AV} {c : CmdP} {i n : Nat} (hi : i < n) (h : clashC (cmdV (elemAt xs i)) c = true) : (amongL xs c i).length < (amongL xs c n).length ∧ (amongL xs c n).getD (amongL xs c i).length 0 = (i : Int) := by
  obtain ⟨r, e⟩ := among_mono xs c (n - (i + 1)) (i + 1)
  rw [show i + 1 + (n - (i + 1)) = n by omega, among_succ, if_pos h] at e
  rw [e]
  constructor
  · simp
  · simp [List.getD_eq_getElem?_getD]
set_option maxHeartbeats 8000000 in
theorem okLawLists0 : OkLawLists0 := by
  intro xs k num foot rq path mode n time bs hq
  obtain ⟨hc, hb, hf, hp⟩ := hq
  refine vcLawLists0 xs k num foot rq path mode n time bs ?_
  simp only [true_and, and_true, forall_eq, eq_self, length_intsAV]
  generalize hC : CmdP.mk k num foot rq path mode n time = c
  refine cond_prop (fun _ => trivial) fun h0 => ⟨⟨hf, hp⟩, cond_prop (fun _ => trivial) fun h1 => ?_⟩
  have hl : xs.length ≤ 30 := by have := of_decide_eq_false h0; omega
  have hsm : foot.length ≤ 900000 ∧ path.length ≤ 900000 := by simp at h1; omega
  refine ⟨⟨(0 : Nat), rfl, Nat.zero_le _, fun j hj => by omega⟩, ?_⟩
  rintro i ⟨hi, hs⟩
  refine cond_prop (fun g => ?_) fun g => ?_
  · have hi' : i < xs.length := by have := of_decide_eq_true g; omega
    have eI : (Int.toNat (i : Int)) = i := by omega
    obtain ⟨o, r, m1, m2⟩ := hc i hi'
    rw [eI, wrap_i64 (n := (i : Int) + 1) (by omega) (by omega)]
    refine ⟨⟨by omega, by omega, o⟩, r, ⟨m1, m2⟩, cond_prop (fun _ => trivial) fun h => ?_⟩
    have h2 : (!smallV (cmdV (elemAt xs i))) = false := h
    have hv : smallV (cmdV (elemAt xs i)) = true := by simpa using h2
    refine ⟨(i + 1 : Nat), rfl, ⟨by omega, fun j hj => ?_⟩, by omega⟩
    by_cases e : j = i
    · subst e; exact hv
    · exact hs j (by omega)
  have hi' : i = xs.length := by have := of_decide_eq_false g; omega
  subst hi'
  clear g hi
  refine ⟨⟨hc, by omega, hs, hsm.1, hsm.2⟩, ⟨(0 : Nat), ⟨rfl, rfl⟩, Nat.zero_le _⟩, fun i hi => cond_prop (fun g => ?_) fun g => ?_⟩
  · have hi' : i < xs.length := by have := of_decide_eq_true g; omega
    have eI : (Int.toNat (i : Int)) = i := by omega
    obtain ⟨o, r, m1, m2⟩ := hc i hi'
    obtain ⟨l1, l2⟩ := small_lens (hs i hi')
    have hal := among_len xs c i
    have eA : (Int.toNat (((amongL xs c i).length : Nat) : Int)) = (amongL xs c i).length := by omega
    rw [eI, eA, wrap_i64 (n := (i : Int) + 1) (by omega) (by omega), wrap_i64 (n := ((amongL xs c i).length : Int) + 1) (by omega) (by omega)]
    refine ⟨⟨by omega, by omega, o⟩, r, ⟨l1, l2, hsm.1, hsm.2⟩, cond_prop (fun h => ?_) fun h => ?_⟩
    · have h' : clashC (cmdV (elemAt xs i)) c = true := h
      obtain ⟨a1, a2⟩ := among_here hi' h'
      have e3 : (amongL xs c (i + 1)).length = (amongL xs c i).length + 1 := by rw [among_succ, if_pos h']; simp
      refine cond_prop (fun h3 => by have := of_decide_eq_true h3; omega) fun _ => ⟨⟨by omega, by omega, okElem_ints a1⟩, okRead_ints a1, ?_⟩
      rw [rdInt_ints a1, a2]
      refine cond_prop (fun h3 => by simp at h3) fun _ => ⟨(i + 1 : Nat), ⟨by rw [e3]; rfl, rfl⟩, by omega, by omega⟩
    · have h' : clashC (cmdV (elemAt xs i)) c = false := h
      have e3 : amongL xs c (i + 1) = amongL xs c i := by rw [among_succ, if_neg (by rw [h']; simp)]; simp
      exact ⟨(i + 1 : Nat), ⟨by rw [e3], rfl⟩, by omega, by omega⟩
  have hi' : i = xs.length := by have := of_decide_eq_false g; omega
  subst hi'
  clear g hi
  refine ⟨⟨(0 : Nat), ⟨rfl, rfl, rfl⟩, Nat.zero_le _⟩, fun i hi => cond_prop (fun g => ?_) fun g => ?_⟩
  · have hi' : i < xs.length := by have := of_decide_eq_true g; omega
    refine ⟨((i, 0) : Nat × Nat), ⟨⟨by simp [closedRow], rfl, rfl, rfl, rfl⟩, hi', Nat.zero_le _⟩, ?_⟩
    rintro ⟨i2, j⟩ ⟨w1, w2⟩ hk
    simp only at w1 w2 hk ⊢
    obtain rfl : i2 = i := hk
    have eI : (Int.toNat (i2 : Int)) = i2 := by omega
    have eJ : (Int.toNat (j : Int)) = j := by omega
    refine cond_prop (fun g2 => ?_) fun g2 => ?_
    · have hj : j < i2 := by have := of_decide_eq_true g2; omega
      rw [eI, eJ, wrap_i64 (n := (j : Int) + 1) (by omega) (by omega)]
      have fin : ∀ b : Bool, b = (closedN xs bs i2 && closedRow xs bs i2 (j + 1)) → AV.bool b = AV.bool (closedN xs bs i2 && closedRow xs bs i2 (j + 1)) := fun b h => by rw [h]
      obtain ⟨o1, r1, _, _⟩ := hc i2 w1
      obtain ⟨o2, r2, _, _⟩ := hc j (by omega)
      obtain ⟨l1, l2⟩ := small_lens (hs i2 w1)
      obtain ⟨l3, l4⟩ := small_lens (hs j (by omega))
      refine cond_prop (fun h => ?_) fun h => ?_
      · have h' : closedN xs bs i2 = true ∧ closedRow xs bs i2 j = true := by simpa using h
        refine cond_prop (fun p => ?_) fun p => ?_
        · have p' : hasN bs i2 = false := by unfold hasN; have := of_decide_eq_true p; simp; omega
          refine ⟨((i2, j + 1) : Nat × Nat), ⟨fin true ?_, rfl, rfl, rfl, rfl⟩, ⟨w1, hj⟩, rfl, by show i2 - (j + 1) < i2 - j; omega⟩
          rw [closedRow_succ, h'.1, h'.2, p']; rfl
        · have p' : i2 < bs.length := by have := of_decide_eq_false p; omega
          obtain ⟨b1, b2⟩ := hb i2 p'
          refine ⟨⟨by omega, by omega, b1⟩, b2, cond_prop (fun q => ?_) fun q => ?_⟩
          · have q' : hasN bs i2 = false := by unfold hasN; have : rdBool (elemAt bs i2) 0 = false := by simpa using q
                                               rw [this]; simp
            refine ⟨((i2, j + 1) : Nat × Nat), ⟨fin true ?_, rfl, rfl, rfl, rfl⟩, ⟨w1, hj⟩, rfl, by show i2 - (j + 1) < i2 - j; omega⟩
            rw [closedRow_succ, h'.1, h'.2, q']; rfl
          · have q' : hasN bs i2 = true := by unfold hasN; have : rdBool (elemAt bs i2) 0 = true := by simpa using q
                                              rw [this]; simp [p']
            refine cond_prop (fun s => ?_) fun s => ?_
            · have s' : j < bs.length := by have := of_decide_eq_true s; omega
              obtain ⟨b3, b4⟩ := hb j s'
              refine ⟨⟨by omega, by omega, b3⟩, b4, cond_prop (fun u => ?_) fun u => ?_⟩
              · have u' : hasN bs j = true := by unfold hasN; rw [u]; simp [s']
                refine ⟨((i2, j + 1) : Nat × Nat), ⟨fin true ?_, rfl, rfl, rfl, rfl⟩, ⟨w1, hj⟩, rfl, by show i2 - (j + 1) < i2 - j; omega⟩
                rw [closedRow_succ, h'.1, h'.2, q', u']; rfl
              · have u' : hasN bs j = false := by unfold hasN; rw [u]; simp
                refine ⟨⟨by omega, by omega, o2⟩, r2, ⟨by omega, by omega, o1⟩, r1, ⟨l3, l4, l1, l2⟩, ((i2, j + 1) : Nat × Nat), ⟨fin _ ?_, rfl, rfl, rfl, rfl⟩, ⟨w1, hj⟩, rfl, by show i2 - (j + 1) < i2 - j; omega⟩
                rw [closedRow_succ, h'.1, h'.2, q', u']; rfl
            · have s' : ¬ j < bs.length := by have := of_decide_eq_false s; omega
              have u' : hasN bs j = false := by unfold hasN; simp [s']
              refine ⟨⟨by omega, by omega, o2⟩, r2, ⟨by omega, by omega, o1⟩, r1, ⟨l3, l4, l1, l2⟩, ((i2, j + 1) : Nat × Nat), ⟨fin _ ?_, rfl, rfl, rfl, rfl⟩, ⟨w1, hj⟩, rfl, by show i2 - (j + 1) < i2 - j; omega⟩
              rw [closedRow_succ, h'.1, h'.2, q', u']; rfl
      · refine ⟨((i2, j + 1) : Nat × Nat), ⟨fin false ?_, rfl, rfl, rfl, rfl⟩, ⟨w1, hj⟩, rfl, by show i2 - (j + 1) < i2 - j; omega⟩
        rw [closedRow_succ]
        cases h1 : closedN xs bs i2 <;> cases h2 : closedRow xs bs i2 j <;> simp [h1, h2] at h ⊢
    · have hj : j = i2 := by have := of_decide_eq_false g2; omega
      subst hj
      rw [wrap_i64 (n := (j : Int) + 1) (by omega) (by omega)]
      exact ⟨(j + 1 : Nat), ⟨by rw [closedN_succ], rfl⟩, by omega, by omega⟩
  · have hi' : i = xs.length := by have := of_decide_eq_false g; omega
    subst hi'
    refine cond_prop (fun _ => ⟨⟨hc, hb, by omega, hs⟩, ?_⟩) fun h => by simp at h
    simp
end Go.Proofs.YtddilmocngedjaaDoor
/- The contracts are met. -/
namespace Go.Proofs.YtddilmocngedjaaDoor
set_option linter.unusedVariables false
set_option linter.unusedSimpArgs false
open Go.RowKit
theorem sndAmong : Sound Tryd.prog (lookΓ gamAmong) := sound_of _ fun p hp => by
  simp only [gamAmong, List.mem_cons, List.not_mem_nil, or_false] at hp
  subst hp
  exact meetsClash.orNil
set_option maxHeartbeats 4000000 in
theorem meetsAmong : Meets Tryd.prog 8 amongF := by
  refine meets_of_awp (Γ := lookΓ gamAmong) (L := fun args => match args with | [.val (.sl xs .no), .val (.agg [.int .i64 k, .int .u64 num, .str foot, .int .u64 rq, .str path, .int .i64 mode, .int .u64 n, .int .i64 time])] => lpAmong0 xs k num foot rq path mode n time | _ => fun _ => none) sndAmong mixedOrders Tryd.func8 rfl Tryd.call8 ?_
  intro args q r hF hq ho
  unfold amongF at hF
  split at hF
  · cases hF
    exact ⟨by simp only [List.length_cons, List.length_nil]; decide, okAmong0 _ _ _ _ _ _ _ _ _ hq⟩
  · cases hF
theorem sndHas08 : Sound Tryd.prog (lookΓ gamHas08) := sound_of _ fun p hp => by
  simp [gamHas08] at hp
set_option maxHeartbeats 4000000 in
theorem meetsHas08 : Meets Tryd.prog 30 has08F := by
  refine meets_of_awp (Γ := lookΓ gamHas08) (L := fun _ _ => none) sndHas08 mixedOrders Tryd.func30 rfl Tryd.call30 ?_
  intro args q r hF hq ho
  unfold has08F at hF
  split at hF
  · cases hF
    exact ⟨by simp only [List.length_cons, List.length_nil]; decide, okHas081 _ _ hq⟩
  · cases hF
theorem sndClosed : Sound Tryd.prog (lookΓ gamClosed) := sound_of _ fun p hp => by
  simp only [gamClosed, List.mem_cons, List.not_mem_nil, or_false] at hp
  rcases hp with rfl | rfl
  · exact meetsHas08.orNil
  · exact meetsAmong.orNil
set_option maxHeartbeats 4000000 in
theorem meetsClosed : Meets Tryd.prog 11 closedF := by
  refine meets_of_awp (Γ := lookΓ gamClosed) (L := fun args => match args with | [.val (.sl xs .no), .val (.sl bs .no)] => lpClosed0 xs bs | _ => fun _ => none) sndClosed mixedOrders Tryd.func11 rfl Tryd.call11 ?_
  intro args q r hF hq ho
  unfold closedF at hF
  split at hF
  · cases hF
    exact ⟨by simp only [List.length_cons, List.length_nil]; decide, okClosed0 _ _ hq⟩
  · cases hF
theorem sndLawLists : Sound Tryd.prog (lookΓ gamLawLists) := sound_of _ fun p hp => by
  simp only [gamLawLists, List.mem_cons, List.not_mem_nil, or_false] at hp
  rcases hp with rfl | rfl | rfl | rfl | rfl | rfl
  · exact meetsAnchor08.orNil
  · exact meetsSmall08.orNil
  · exact meetsOf08.orNil
  · exact meetsRclash.orNil
  · exact meetsAmong.orNil
  · exact meetsClosed.orNil
set_option maxHeartbeats 4000000 in
theorem meetsLawLists : Meets Tryd.prog 3 lawListsF := by
  refine meets_of_awp (Γ := lookΓ gamLawLists) (L := fun args => match args with | [.val (.sl xs .no), .val (.agg [.int .i64 k, .int .u64 num, .str foot, .int .u64 rq, .str path, .int .i64 mode, .int .u64 n, .int .i64 time]), .val (.sl bs .no)] => lpLawLists0 xs k num foot rq path mode n time bs | _ => fun _ => none) sndLawLists mixedOrders Tryd.func3 rfl Tryd.call3 ?_
  intro args q r hF hq ho
  unfold lawListsF at hF
  split at hF
  · cases hF
    exact ⟨by simp only [List.length_cons, List.length_nil]; decide, okLawLists0 _ _ _ _ _ _ _ _ _ _ hq⟩
  · cases hF
end Go.Proofs.YtddilmocngedjaaDoor
