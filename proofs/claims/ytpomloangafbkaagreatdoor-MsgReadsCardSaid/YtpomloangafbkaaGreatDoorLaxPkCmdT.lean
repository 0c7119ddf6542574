/- Contracts by content, their conditions, and that they are met: CmdT. -/
import Derived.Test.YtpomloangafbkaaGreatDoorLaxCmdC
import Derived.Test.YtpomloangafbkaaGreatDoorLaxCloneS
import Derived.Test.YtpomloangafbkaaGreatDoorFmtU
import Derived.Test.YtpomloangafbkaaGreatDoorLaxPkCmdB
import Derived.Test.YtpomloangafbkaaGreatDoorSplitP
/- Contracts by content, and the conditions that their code must meet. -/
namespace Go.Proofs.YtpomloangafbkaaGreatDoor
set_option linter.unusedVariables false
set_option linter.unusedSimpArgs false
open Go.RowKit
def encByte (b : Int) : List UInt8 := [UInt8.ofNat b.toNat]
def digC (v : Int) : List UInt8 := Lib.decDigits v.toNat
def nameC (k : Int) : List UInt8 := if k = 0 then [110, 111, 111, 112] else if k = 1 then [111, 112, 101, 110] else if k = 2 then [99, 108, 111, 115, 101] else if k = 3 then [107, 101, 101, 112] else if k = 4 then [97, 99, 113, 117, 105, 114, 101] else if k = 5 then [116, 114, 121] else if k = 6 then [114, 101, 108, 101, 97, 115, 101] else if k = 7 then [99, 104, 101, 99, 107] else if k = 8 then [101, 120, 112, 105, 114, 101] else []
def kindN (s : List UInt8) : Int := if s = [110, 111, 111, 112] then 0 else if s = [111, 112, 101, 110] then 1 else if s = [99, 108, 111, 115, 101] then 2 else if s = [107, 101, 101, 112] then 3 else if s = [97, 99, 113, 117, 105, 114, 101] then 4 else if s = [116, 114, 121] then 5 else if s = [114, 101, 108, 101, 97, 115, 101] then 6 else if s = [99, 104, 101, 99, 107] then 7 else if s = [101, 120, 112, 105, 114, 101] then 8 else -1
def pairN (nm : List UInt8) (v : Int) : List UInt8 := catL (catL nm [61]) (digC v)
def fieldsC (c : CmdP) : List (List UInt8) := (((((([nameC c.k] ++ if hS c.k then [pairN [110, 117, 109] c.num, catL [102, 111, 111, 116, 61] c.foot] else []) ++ if hR c.k then [pairN [114, 101, 113, 117, 101, 115, 116] c.rq] else []) ++ if hP c.k then [catL [112, 97, 116, 104, 61] c.path] else []) ++ if hM c.k then [pairN [109, 111, 100, 101] c.mode] else []) ++ if hN c.k then [pairN [110] c.n] else []) ++ if hT c.k then [pairN [116, 105, 109, 101] c.time] else [])
def showV (c : CmdP) : List UInt8 := if rightC c then Lib.join (fieldsC c) [32] else []
def showE (c : CmdP) : Int := if rightC c then 0 else 10
def fN (f : List UInt8) : List UInt8 := (Lib.cut f [61]).1
def fV (f : List UInt8) : List UInt8 := (Lib.cut f [61]).2.1
def fOK (f : List UInt8) : Bool := (Lib.cut f [61]).2.2
def setFoot (x : List UInt8) (f : List UInt8) : List UInt8 := if fN f = [102, 111, 111, 116] then fV f else x
def setPath (x : List UInt8) (f : List UInt8) : List UInt8 := if fN f = [112, 97, 116, 104] then fV f else x
def setNum (x : Int) (f : List UInt8) : Int := if fN f = [110, 117, 109] then puV (fV f) else x
def setRq (x : Int) (f : List UInt8) : Int := if fN f = [114, 101, 113, 117, 101, 115, 116] then puV (fV f) else x
def setMode (x : Int) (f : List UInt8) : Int := if fN f = [109, 111, 100, 101] then puV (fV f) % 4 else x
def setN (x : Int) (f : List UInt8) : Int := if fN f = [110] then puV (fV f) else x
def setTime (x : Int) (f : List UInt8) : Int := if fN f = [116, 105, 109, 101] then min (puV (fV f)) 1099511627777 else x
def setK (f : List UInt8) : Bool := if fN f = [102, 111, 111, 116] ∨ fN f = [112, 97, 116, 104] then fOK f else if fN f = [110, 117, 109] ∨ fN f = [114, 101, 113, 117, 101, 115, 116] ∨ fN f = [109, 111, 100, 101] ∨ fN f = [110] ∨ fN f = [116, 105, 109, 101] then fOK f && puK (fV f) else false
def pairCF : Con
  | [.val (.str nm), .val (.int .u64 v)] => (some (nm.length ≤ 100, ⟨.str (pairN nm v), none, none⟩))
  | _ => none
def gamPairC : List (Nat × Con) := [(73, fmtF.orNil)]
def lpPairC0 (nm : List UInt8) (v : Int) : Nat → Option LoopPlan := fun _ => none
def inPairC0 (nm : List UInt8) (v : Int) : Prop := awp [] (lpPairC0 nm v) (lookΓ gamPairC) Tryz.prog Tryz.f38.ntmps 0 (Tryz.f38.body.getD .skip) (entrySt [.val (.str nm), .val (.int .u64 v)]) (exitQ Tryz.prog Tryz.f38.results.toList [] ⟨.str (pairN nm v), none, none⟩)
def OkPairC0 : Prop := ∀ (nm : List UInt8) (v : Int), nm.length ≤ 100 → (0 ≤ v ∧ v ≤ 18446744073709551615) → inPairC0 nm v
def kindF : Con
  | [.val (.str t)] => (some (True, ⟨.int .i64 (kindN t), none, none⟩))
  | _ => none
def gamKind : List (Nat × Con) := []
def lpKind0 (t : List UInt8) : Nat → Option LoopPlan := fun b => bif Nat.beq b 0 then some (.unroll [] 11) else none
def inKind0 (t : List UInt8) : Prop := awp [] (lpKind0 t) (lookΓ gamKind) Tryz.prog Tryz.f77.ntmps 0 (Tryz.f77.body.getD .skip) (entrySt [.val (.str t)]) (exitQ Tryz.prog Tryz.f77.results.toList [] ⟨.int .i64 (kindN t), none, none⟩)
def OkKind0 : Prop := ∀ (t : List UInt8), True → inKind0 t
def setFF : Con
  | [.box [.int .i64 k, .int .u64 num, .str foot, .int .u64 rq, .str path, .int .i64 mode, .int .u64 n, .int .i64 time], .val (.str f)] => (some (f.length ≤ 900000, ⟨.bool (setK f), (some [.int .i64 k, .int .u64 (setNum num f), .str (setFoot foot f), .int .u64 (setRq rq f), .str (setPath path f), .int .i64 (setMode mode f), .int .u64 (setN n f), .int .i64 (setTime time f)]), none⟩))
  | _ => none
def gamSetF : List (Nat × Con) := [(54, cutSF.orNil), (107, puF.orNil)]
def lpSetF1 (k num : Int) (foot : List UInt8) (rq : Int) (path : List UInt8) (mode n time : Int) (f : List UInt8) : Nat → Option LoopPlan := fun _ => none
def inSetF1 (k num : Int) (foot : List UInt8) (rq : Int) (path : List UInt8) (mode n time : Int) (f : List UInt8) : Prop := awp [0] (lpSetF1 k num foot rq path mode n time f) (lookΓ gamSetF) Tryz.prog Tryz.f78.ntmps 0 (Tryz.f78.body.getD .skip) (entrySt [.box [.int .i64 k, .int .u64 num, .str foot, .int .u64 rq, .str path, .int .i64 mode, .int .u64 n, .int .i64 time], .val (.str f)]) (exitQ Tryz.prog Tryz.f78.results.toList [0] ⟨.bool (setK f), (some [.int .i64 k, .int .u64 (setNum num f), .str (setFoot foot f), .int .u64 (setRq rq f), .str (setPath path f), .int .i64 (setMode mode f), .int .u64 (setN n f), .int .i64 (setTime time f)]), none⟩)
def OkSetF1 : Prop := ∀ (k num : Int) (foot : List UInt8) (rq : Int) (path : List UInt8) (mode n time : Int) (f : List UInt8), f.length ≤ 900000 → inSetF1 k num foot rq path mode n time f
def cshowOF : Con
  | [.val (.agg [.int .i64 k, .int .u64 num, .str foot, .int .u64 rq, .str path, .int .i64 mode, .int .u64 n, .int .i64 time])] => (some ((k < 0 ∨ 8 < k) ∧ foot.length ≤ 900000 ∧ path.length ≤ 900000, ⟨.tup [.str [], .int .i64 10], none, none⟩))
  | _ => none
def gamCshowO : List (Nat × Con) := [(36, hadF.orNil), (37, crightF.orNil)]
def lpCshowO0 (k num : Int) (foot : List UInt8) (rq : Int) (path : List UInt8) (mode n time : Int) : Nat → Option LoopPlan := fun _ => none
def inCshowO0 (k num : Int) (foot : List UInt8) (rq : Int) (path : List UInt8) (mode n time : Int) : Prop := awp [] (lpCshowO0 k num foot rq path mode n time) (lookΓ gamCshowO) Tryz.prog Tryz.f13.ntmps 0 (Tryz.f13.body.getD .skip) (entrySt [.val (.agg [.int .i64 k, .int .u64 num, .str foot, .int .u64 rq, .str path, .int .i64 mode, .int .u64 n, .int .i64 time])]) (exitQ Tryz.prog Tryz.f13.results.toList [] ⟨.tup [.str [], .int .i64 10], none, none⟩)
def OkCshowO0 : Prop := ∀ (k num : Int) (foot : List UInt8) (rq : Int) (path : List UInt8) (mode n time : Int), (k < 0 ∨ 8 < k) ∧ foot.length ≤ 900000 ∧ path.length ≤ 900000 → inCshowO0 k num foot rq path mode n time
def cshowIF : Con
  | [.val (.agg [.int .i64 k, .int .u64 num, .str foot, .int .u64 rq, .str path, .int .i64 mode, .int .u64 n, .int .i64 time])] => (some ((0 ≤ k ∧ k ≤ 8) ∧ foot.length ≤ 900000 ∧ path.length ≤ 900000, ⟨.tup [.str (showV ⟨k, num, foot, rq, path, mode, n, time⟩), .int .i64 (showE ⟨k, num, foot, rq, path, mode, n, time⟩)], none, none⟩))
  | _ => none
def gamCshowI : List (Nat × Con) := [(36, hadF.orNil), (37, crightF.orNil), (38, pairCF.orNil), (28, joinSF.orNil)]
def lpCshowI0 (k num : Int) (foot : List UInt8) (rq : Int) (path : List UInt8) (mode n time : Int) : Nat → Option LoopPlan := fun _ => none
def inCshowI0 (k num : Int) (foot : List UInt8) (rq : Int) (path : List UInt8) (mode n time : Int) : Prop := awp [] (lpCshowI0 k num foot rq path mode n time) (lookΓ gamCshowI) Tryz.prog Tryz.f13.ntmps 0 (Tryz.f13.body.getD .skip) (entrySt [.val (.agg [.int .i64 k, .int .u64 num, .str foot, .int .u64 rq, .str path, .int .i64 mode, .int .u64 n, .int .i64 time])]) (exitQ Tryz.prog Tryz.f13.results.toList [] ⟨.tup [.str (showV ⟨k, num, foot, rq, path, mode, n, time⟩), .int .i64 (showE ⟨k, num, foot, rq, path, mode, n, time⟩)], none, none⟩)
def OkCshowI0 : Prop := ∀ (k num : Int) (foot : List UInt8) (rq : Int) (path : List UInt8) (mode n time : Int), (0 ≤ k ∧ k ≤ 8) ∧ foot.length ≤ 900000 ∧ path.length ≤ 900000 → ((0 ≤ num ∧ num ≤ 18446744073709551615) ∧ (0 ≤ rq ∧ rq ≤ 18446744073709551615) ∧ (0 ≤ n ∧ n ≤ 18446744073709551615)) → inCshowI0 k num foot rq path mode n time
def inCshowK0 (num : Int) (foot : List UInt8) (rq : Int) (path : List UInt8) (mode n time : Int) : Prop := inCshowI0 0 num foot rq path mode n time
def inCshowK1 (num : Int) (foot : List UInt8) (rq : Int) (path : List UInt8) (mode n time : Int) : Prop := inCshowI0 1 num foot rq path mode n time
def inCshowK2 (num : Int) (foot : List UInt8) (rq : Int) (path : List UInt8) (mode n time : Int) : Prop := inCshowI0 2 num foot rq path mode n time
def inCshowK3 (num : Int) (foot : List UInt8) (rq : Int) (path : List UInt8) (mode n time : Int) : Prop := inCshowI0 3 num foot rq path mode n time
def inCshowK4 (num : Int) (foot : List UInt8) (rq : Int) (path : List UInt8) (mode n time : Int) : Prop := inCshowI0 4 num foot rq path mode n time
def inCshowK5 (num : Int) (foot : List UInt8) (rq : Int) (path : List UInt8) (mode n time : Int) : Prop := inCshowI0 5 num foot rq path mode n time
def inCshowK6 (num : Int) (foot : List UInt8) (rq : Int) (path : List UInt8) (mode n time : Int) : Prop := inCshowI0 6 num foot rq path mode n time
def inCshowK7 (num : Int) (foot : List UInt8) (rq : Int) (path : List UInt8) (mode n time : Int) : Prop := inCshowI0 7 num foot rq path mode n time
def inCshowK8 (num : Int) (foot : List UInt8) (rq : Int) (path : List UInt8) (mode n time : Int) : Prop := inCshowI0 8 num foot rq path mode n time
end Go.Proofs.YtpomloangafbkaaGreatDoor
/- What the verification conditions come to: printed by a program of ours (wip/lax/ex/Norm.lean). -/
namespace Go.Proofs.YtpomloangafbkaaGreatDoor
set_option linter.unusedVariables false
open Go.RowKit
set_option maxRecDepth 100000
theorem vcPairC0 (nm : (List UInt8)) (v : Int) (h : (tt ∧ T1 ∧ tt ∧ T1 ∧ ((List.length nm) + 1) ≤ 9223372036854775807 ∧ T1 ∧ (T1 ∧ (10 : Int) = 10) ∧ ∀ v0 : (List UInt8), (v0 = (Go.Lib.decDigits (Int.toNat v))) → ((List.length (@catL UInt8 nm [(61 : UInt8)])) + (List.length v0)) ≤ 9223372036854775807 ∧ T1 ∧ tt ∧ tt ∧ ((pairN nm v) = (@catL UInt8 (@catL UInt8 nm [(61 : UInt8)]) v0) ∧ True) ∧ tt)) : inPairC0 nm v :=
  Eq.mp (show _ = _ by kernel_rfl) h
theorem vcKind0 (t : (List UInt8)) (h : let q0 := (kindN t); let w0_x := (tt ∧ tt); (tt ∧ T1 ∧ tt ∧ (okRead [Kd.str, Kd.str, Kd.str, Kd.str, Kd.str, Kd.str, Kd.str, Kd.str, Kd.str] (AV.agg [(AV.str [(110 : UInt8), 111, 111, 112]), (AV.str [(111 : UInt8), 112, 101, 110]), (AV.str [(99 : UInt8), 108, 111, 115, 101]), (AV.str [(107 : UInt8), 101, 101, 112]), (AV.str [(97 : UInt8), 99, 113, 117, 105, 114, 101]), (AV.str [(116 : UInt8), 114, 121]), (AV.str [(114 : UInt8), 101, 108, 101, 97, 115, 101]), (AV.str [(99 : UInt8), 104, 101, 99, 107]), (AV.str [(101 : UInt8), 120, 112, 105, 114, 101])]) 0) ∧ T1 ∧ w0_x ∧ tt ∧ T1 ∧ tt ∧ T1 ∧ ((0 : Int) ≤ (0 : Int) ∧ (0 : Int) < (9 : Int) ∧ 1 ≤ 9) ∧ T1 ∧ T1 ∧ tt ∧ T1 ∧ T1 ∧ T1 ∧ (bif (@BEq.beq.{0} (List UInt8) (@List.instBEq.{0} UInt8 (@instBEqOfDecidableEq.{0} UInt8 instDecidableEqUInt8)) [(110 : UInt8), 111, 111, 112] t) then (tt ∧ T1 ∧ T1 ∧ tt ∧ tt ∧ (q0 = 0 ∧ True) ∧ tt) else (tt ∧ T1 ∧ T1 ∧ w0_x ∧ tt ∧ T1 ∧ tt ∧ T1 ∧ ((0 : Int) ≤ (1 : Int) ∧ (1 : Int) < (9 : Int) ∧ 2 ≤ 9) ∧ T1 ∧ T1 ∧ tt ∧ T1 ∧ T1 ∧ T1 ∧ (bif (@BEq.beq.{0} (List UInt8) (@List.instBEq.{0} UInt8 (@instBEqOfDecidableEq.{0} UInt8 instDecidableEqUInt8)) [(111 : UInt8), 112, 101, 110] t) then (tt ∧ T1 ∧ T1 ∧ tt ∧ tt ∧ (q0 = 1 ∧ True) ∧ tt) else (tt ∧ T1 ∧ T1 ∧ w0_x ∧ tt ∧ T1 ∧ tt ∧ T1 ∧ ((0 : Int) ≤ (2 : Int) ∧ (2 : Int) < (9 : Int) ∧ 3 ≤ 9) ∧ T1 ∧ T1 ∧ tt ∧ T1 ∧ T1 ∧ T1 ∧ (bif (@BEq.beq.{0} (List UInt8) (@List.instBEq.{0} UInt8 (@instBEqOfDecidableEq.{0} UInt8 instDecidableEqUInt8)) [(99 : UInt8), 108, 111, 115, 101] t) then (tt ∧ T1 ∧ T1 ∧ tt ∧ tt ∧ (q0 = 2 ∧ True) ∧ tt) else (tt ∧ T1 ∧ T1 ∧ w0_x ∧ tt ∧ T1 ∧ tt ∧ T1 ∧ ((0 : Int) ≤ (3 : Int) ∧ (3 : Int) < (9 : Int) ∧ 4 ≤ 9) ∧ T1 ∧ T1 ∧ tt ∧ T1 ∧ T1 ∧ T1 ∧ (bif (@BEq.beq.{0} (List UInt8) (@List.instBEq.{0} UInt8 (@instBEqOfDecidableEq.{0} UInt8 instDecidableEqUInt8)) [(107 : UInt8), 101, 101, 112] t) then (tt ∧ T1 ∧ T1 ∧ tt ∧ tt ∧ (q0 = 3 ∧ True) ∧ tt) else (tt ∧ T1 ∧ T1 ∧ w0_x ∧ tt ∧ T1 ∧ tt ∧ T1 ∧ ((0 : Int) ≤ (4 : Int) ∧ (4 : Int) < (9 : Int) ∧ 5 ≤ 9) ∧ T1 ∧ T1 ∧ tt ∧ T1 ∧ T1 ∧ T1 ∧ (bif (@BEq.beq.{0} (List UInt8) (@List.instBEq.{0} UInt8 (@instBEqOfDecidableEq.{0} UInt8 instDecidableEqUInt8)) [(97 : UInt8), 99, 113, 117, 105, 114, 101] t) then (tt ∧ T1 ∧ T1 ∧ tt ∧ tt ∧ (q0 = 4 ∧ True) ∧ tt) else (tt ∧ T1 ∧ T1 ∧ w0_x ∧ tt ∧ T1 ∧ tt ∧ T1 ∧ ((0 : Int) ≤ (5 : Int) ∧ (5 : Int) < (9 : Int) ∧ 6 ≤ 9) ∧ T1 ∧ T1 ∧ tt ∧ T1 ∧ T1 ∧ T1 ∧ (bif (@BEq.beq.{0} (List UInt8) (@List.instBEq.{0} UInt8 (@instBEqOfDecidableEq.{0} UInt8 instDecidableEqUInt8)) [(116 : UInt8), 114, 121] t) then (tt ∧ T1 ∧ T1 ∧ tt ∧ tt ∧ (q0 = 5 ∧ True) ∧ tt) else (tt ∧ T1 ∧ T1 ∧ w0_x ∧ tt ∧ T1 ∧ tt ∧ T1 ∧ ((0 : Int) ≤ (6 : Int) ∧ (6 : Int) < (9 : Int) ∧ 7 ≤ 9) ∧ T1 ∧ T1 ∧ tt ∧ T1 ∧ T1 ∧ T1 ∧ (bif (@BEq.beq.{0} (List UInt8) (@List.instBEq.{0} UInt8 (@instBEqOfDecidableEq.{0} UInt8 instDecidableEqUInt8)) [(114 : UInt8), 101, 108, 101, 97, 115, 101] t) then (tt ∧ T1 ∧ T1 ∧ tt ∧ tt ∧ (q0 = 6 ∧ True) ∧ tt) else (tt ∧ T1 ∧ T1 ∧ w0_x ∧ tt ∧ T1 ∧ tt ∧ T1 ∧ ((0 : Int) ≤ (7 : Int) ∧ (7 : Int) < (9 : Int) ∧ 8 ≤ 9) ∧ T1 ∧ T1 ∧ tt ∧ T1 ∧ T1 ∧ T1 ∧ (bif (@BEq.beq.{0} (List UInt8) (@List.instBEq.{0} UInt8 (@instBEqOfDecidableEq.{0} UInt8 instDecidableEqUInt8)) [(99 : UInt8), 104, 101, 99, 107] t) then (tt ∧ T1 ∧ T1 ∧ tt ∧ tt ∧ (q0 = 7 ∧ True) ∧ tt) else (tt ∧ T1 ∧ T1 ∧ w0_x ∧ tt ∧ T1 ∧ tt ∧ T1 ∧ ((0 : Int) ≤ (8 : Int) ∧ (8 : Int) < (9 : Int) ∧ 9 ≤ 9) ∧ T1 ∧ T1 ∧ tt ∧ T1 ∧ T1 ∧ T1 ∧ (bif (@BEq.beq.{0} (List UInt8) (@List.instBEq.{0} UInt8 (@instBEqOfDecidableEq.{0} UInt8 instDecidableEqUInt8)) [(101 : UInt8), 120, 112, 105, 114, 101] t) then (tt ∧ T1 ∧ T1 ∧ tt ∧ tt ∧ (q0 = 8 ∧ True) ∧ tt) else (tt ∧ T1 ∧ T1 ∧ w0_x ∧ tt ∧ T1 ∧ tt ∧ T1 ∧ tt ∧ tt ∧ (q0 = (@Neg.neg.{0} Int Int.instNegInt (1 : Int)) ∧ True) ∧ tt)))))))))))))))))))) : inKind0 t :=
  Eq.mp (show _ = _ by kernel_rfl) h
theorem vcSetF1 (k : Int) (num : Int) (foot : (List UInt8)) (rq : Int) (path : (List UInt8)) (mode : Int) (n : Int) (time : Int) (f : (List UInt8)) (h : let q0 := (setFoot foot f); let q1 := (setPath path f); let q2 := (setMode mode f); let q3 := (setTime time f); let q4 := (setNum num f); let q5 := (setRq rq f); let q6 := (setN n f); let q7 := (setK f); let w0_x := (Go.Lib.cut f [(61 : UInt8)]); let w2_x := (1099511627777 : Int); (tt ∧ T1 ∧ tt ∧ T1 ∧ (T1 ∧ (List.length f) < 4294967281) ∧ ∀ v0 : (List UInt8), (v0 = w0_x.1) → ∀ v2 : (List UInt8), (v2 = w0_x.2.1) → T1 ∧ T1 ∧ T1 ∧ T1 ∧ T1 ∧ T1 ∧ T1 ∧ tt ∧ T1 ∧ (T1 ∧ (10 : Int) = 10 ∧ (64 : Int) = 64 ∧ (List.length v2) ≤ 281474976710656) ∧ ∀ v4 : Int, let w1_4 := (IntKind.wrap IntKind.i64 (intBits Go.BinOp.and IntKind.u64 v4 3)); (v4 = (puV v2)) → T1 ∧ T1 ∧ T1 ∧ T1 ∧ T1 ∧ tt ∧ T1 ∧ tt ∧ T1 ∧ T1 ∧ (bif (@BEq.beq.{0} (List UInt8) (@List.instBEq.{0} UInt8 (@instBEqOfDecidableEq.{0} UInt8 instDecidableEqUInt8)) v0 [(102 : UInt8), 111, 111, 116]) then (tt ∧ T1 ∧ T1 ∧ T1 ∧ T1 ∧ T1 ∧ tt ∧ tt ∧ T1 ∧ T1 ∧ tt ∧ tt ∧ (k = k ∧ q4 = num ∧ q0 = v2 ∧ q5 = rq ∧ q1 = path ∧ q2 = mode ∧ q6 = n ∧ q3 = time ∧ q7 = w0_x.2.2 ∧ True) ∧ tt) else (tt ∧ T1 ∧ T1 ∧ (bif (@BEq.beq.{0} (List UInt8) (@List.instBEq.{0} UInt8 (@instBEqOfDecidableEq.{0} UInt8 instDecidableEqUInt8)) v0 [(112 : UInt8), 97, 116, 104]) then (tt ∧ T1 ∧ T1 ∧ T1 ∧ T1 ∧ tt ∧ tt ∧ T1 ∧ T1 ∧ tt ∧ tt ∧ (k = k ∧ q4 = num ∧ q0 = foot ∧ q5 = rq ∧ q1 = v2 ∧ q2 = mode ∧ q6 = n ∧ q3 = time ∧ q7 = w0_x.2.2 ∧ True) ∧ tt) else (tt ∧ T1 ∧ T1 ∧ (bif (@BEq.beq.{0} (List UInt8) (@List.instBEq.{0} UInt8 (@instBEqOfDecidableEq.{0} UInt8 instDecidableEqUInt8)) v0 [(110 : UInt8), 117, 109]) then (tt ∧ T1 ∧ T1 ∧ T1 ∧ T1 ∧ T1 ∧ tt ∧ tt ∧ T1 ∧ T1 ∧ (bif w0_x.2.2 then (T1 ∧ T1 ∧ T1 ∧ T1 ∧ tt ∧ tt ∧ (k = k ∧ q4 = v4 ∧ q0 = foot ∧ q5 = rq ∧ q1 = path ∧ q2 = mode ∧ q6 = n ∧ q3 = time ∧ q7 = (puK v2) ∧ True) ∧ tt) else (false = false ∧ T1 ∧ tt ∧ tt ∧ (k = k ∧ q4 = v4 ∧ q0 = foot ∧ q5 = rq ∧ q1 = path ∧ q2 = mode ∧ q6 = n ∧ q3 = time ∧ q7 = false ∧ True) ∧ tt))) else (tt ∧ T1 ∧ T1 ∧ (bif (@BEq.beq.{0} (List UInt8) (@List.instBEq.{0} UInt8 (@instBEqOfDecidableEq.{0} UInt8 instDecidableEqUInt8)) v0 [(114 : UInt8), 101, 113, 117, 101, 115, 116]) then (tt ∧ T1 ∧ T1 ∧ T1 ∧ T1 ∧ tt ∧ tt ∧ T1 ∧ T1 ∧ (bif w0_x.2.2 then (T1 ∧ T1 ∧ T1 ∧ T1 ∧ tt ∧ tt ∧ (k = k ∧ q4 = num ∧ q0 = foot ∧ q5 = v4 ∧ q1 = path ∧ q2 = mode ∧ q6 = n ∧ q3 = time ∧ q7 = (puK v2) ∧ True) ∧ tt) else (false = false ∧ T1 ∧ tt ∧ tt ∧ (k = k ∧ q4 = num ∧ q0 = foot ∧ q5 = v4 ∧ q1 = path ∧ q2 = mode ∧ q6 = n ∧ q3 = time ∧ q7 = false ∧ True) ∧ tt))) else (tt ∧ T1 ∧ T1 ∧ (bif (@BEq.beq.{0} (List UInt8) (@List.instBEq.{0} UInt8 (@instBEqOfDecidableEq.{0} UInt8 instDecidableEqUInt8)) v0 [(109 : UInt8), 111, 100, 101]) then (tt ∧ T1 ∧ T1 ∧ T1 ∧ T1 ∧ T1 ∧ T1 ∧ tt ∧ tt ∧ T1 ∧ T1 ∧ (bif w0_x.2.2 then (T1 ∧ T1 ∧ T1 ∧ T1 ∧ tt ∧ tt ∧ (k = k ∧ q4 = num ∧ q0 = foot ∧ q5 = rq ∧ q1 = path ∧ q2 = w1_4 ∧ q6 = n ∧ q3 = time ∧ q7 = (puK v2) ∧ True) ∧ tt) else (false = false ∧ T1 ∧ tt ∧ tt ∧ (k = k ∧ q4 = num ∧ q0 = foot ∧ q5 = rq ∧ q1 = path ∧ q2 = w1_4 ∧ q6 = n ∧ q3 = time ∧ q7 = false ∧ True) ∧ tt))) else (tt ∧ T1 ∧ T1 ∧ (bif (@BEq.beq.{0} (List UInt8) (@List.instBEq.{0} UInt8 (@instBEqOfDecidableEq.{0} UInt8 instDecidableEqUInt8)) v0 [(110 : UInt8)]) then (tt ∧ T1 ∧ T1 ∧ T1 ∧ T1 ∧ tt ∧ tt ∧ T1 ∧ T1 ∧ (bif w0_x.2.2 then (T1 ∧ T1 ∧ T1 ∧ T1 ∧ tt ∧ tt ∧ (k = k ∧ q4 = num ∧ q0 = foot ∧ q5 = rq ∧ q1 = path ∧ q2 = mode ∧ q6 = v4 ∧ q3 = time ∧ q7 = (puK v2) ∧ True) ∧ tt) else (false = false ∧ T1 ∧ tt ∧ tt ∧ (k = k ∧ q4 = num ∧ q0 = foot ∧ q5 = rq ∧ q1 = path ∧ q2 = mode ∧ q6 = v4 ∧ q3 = time ∧ q7 = false ∧ True) ∧ tt))) else (tt ∧ T1 ∧ T1 ∧ (bif (@BEq.beq.{0} (List UInt8) (@List.instBEq.{0} UInt8 (@instBEqOfDecidableEq.{0} UInt8 instDecidableEqUInt8)) v0 [(116 : UInt8), 105, 109, 101]) then (tt ∧ T1 ∧ T1 ∧ T1 ∧ T1 ∧ T1 ∧ T1 ∧ tt ∧ tt ∧ T1 ∧ T1 ∧ (bif w0_x.2.2 then (T1 ∧ T1 ∧ T1 ∧ T1 ∧ tt ∧ tt ∧ (k = k ∧ q4 = num ∧ q0 = foot ∧ q5 = rq ∧ q1 = path ∧ q2 = mode ∧ q6 = n ∧ q3 = (IntKind.wrap IntKind.i64 (@ite.{1} Int (w2_x < v4) (Int.decLt 1099511627777 v4) w2_x v4)) ∧ q7 = (puK v2) ∧ True) ∧ tt) else (false = false ∧ T1 ∧ tt ∧ tt ∧ (k = k ∧ q4 = num ∧ q0 = foot ∧ q5 = rq ∧ q1 = path ∧ q2 = mode ∧ q6 = n ∧ q3 = (IntKind.wrap IntKind.i64 (@ite.{1} Int (w2_x < v4) (Int.decLt 1099511627777 v4) w2_x v4)) ∧ q7 = false ∧ True) ∧ tt))) else (tt ∧ T1 ∧ tt ∧ tt ∧ (k = k ∧ q4 = num ∧ q0 = foot ∧ q5 = rq ∧ q1 = path ∧ q2 = mode ∧ q6 = n ∧ q3 = time ∧ q7 = false ∧ True) ∧ tt)))))))))))))))) : inSetF1 k num foot rq path mode n time f :=
  Eq.mp (show _ = _ by kernel_rfl) h
theorem vcCshowO0 (k : Int) (num : Int) (foot : (List UInt8)) (rq : Int) (path : (List UInt8)) (mode : Int) (n : Int) (time : Int) (h : let w0_x := [(AV.str [(110 : UInt8), 111, 111, 112]), (AV.str [(111 : UInt8), 112, 101, 110]), (AV.str [(99 : UInt8), 108, 111, 115, 101]), (AV.str [(107 : UInt8), 101, 101, 112]), (AV.str [(97 : UInt8), 99, 113, 117, 105, 114, 101]), (AV.str [(116 : UInt8), 114, 121]), (AV.str [(114 : UInt8), 101, 108, 101, 97, 115, 101]), (AV.str [(99 : UInt8), 104, 101, 99, 107]), (AV.str [(101 : UInt8), 120, 112, 105, 114, 101])]; let w2_x := (tt ∧ T1 ∧ T1 ∧ tt ∧ T1 ∧ False); let w3_x := (tt ∧ T1 ∧ T1 ∧ tt ∧ False); let w1_x := (bif (Bool.or (decide (k = 4)) (decide (k = 5))) then w2_x else (tt ∧ T1 ∧ tt ∧ (bif (Bool.or (decide (k = 1)) (decide (k = 7))) then w3_x else (tt ∧ T1 ∧ tt ∧ (bif (Bool.or (Bool.or (decide (k = 1)) (decide (k = 3))) (decide (k = 8))) then w2_x else (tt ∧ T1 ∧ False)))))); (tt ∧ T1 ∧ T1 ∧ T1 ∧ tt ∧ T1 ∧ tt ∧ (T1 ∧ True) ∧ T1 ∧ T1 ∧ T1 ∧ T1 ∧ tt ∧ T1 ∧ tt ∧ tt ∧ (T1 ∧ (List.length foot) ≤ 900000 ∧ (List.length path) ≤ 900000) ∧ T1 ∧ (bif (Bool.not (rightC (CmdP.mk k num foot rq path mode n time))) then (tt ∧ T1 ∧ T1 ∧ tt ∧ tt ∧ ((@List.nil.{0} UInt8) = [] ∧ (10 : Int) = 10 ∧ True) ∧ tt) else (tt ∧ T1 ∧ tt ∧ ((0 : Int) ≤ k ∧ k < 9) ∧ (okRead [Kd.str] (AV.agg w0_x) (0 + ((Int.toNat k) * 1))) ∧ T1 ∧ T1 ∧ tt ∧ T1 ∧ tt ∧ (bif (Bool.and (decide ((1 : Int) ≤ k)) (decide (k ≤ 8))) then (tt ∧ T1 ∧ T1 ∧ T1 ∧ tt ∧ False) else (tt ∧ T1 ∧ tt ∧ (bif (Bool.and (decide ((1 : Int) ≤ k)) (decide (k ≤ 7))) then w3_x else (tt ∧ T1 ∧ tt ∧ (bif (Bool.and (decide ((4 : Int) ≤ k)) (decide (k ≤ 7))) then (tt ∧ T1 ∧ T1 ∧ tt ∧ (5 + (List.length path)) ≤ 9223372036854775807 ∧ T1 ∧ (@Eq.{1} Nat 1 1 ∧ 32 ≤ 140737488355328 ∧ 2 ≤ 9223372036854775807 ∧ (okWidth 1 [(AV.str (rdStr (AV.agg w0_x) (0 + ((Int.toNat k) * 1))))]) ∧ (okWidth 1 [(AV.str (@catL UInt8 [(112 : UInt8), 97, 116, 104, 61] path))])) ∧ T1 ∧ tt ∧ T1 ∧ tt ∧ w1_x) else (tt ∧ T1 ∧ tt ∧ w1_x)))))))))) : inCshowO0 k num foot rq path mode n time :=
  Eq.mp (show _ = _ by kernel_rfl) h
theorem vcCshowK0 (num : Int) (foot : (List UInt8)) (rq : Int) (path : (List UInt8)) (mode : Int) (n : Int) (time : Int) (h : let q0 := (CmdP.mk 0 num foot rq path mode n time); let w0_x := [(AV.str [(110 : UInt8), 111, 111, 112])]; (tt ∧ T1 ∧ T1 ∧ T1 ∧ tt ∧ T1 ∧ tt ∧ (T1 ∧ True) ∧ T1 ∧ T1 ∧ T1 ∧ T1 ∧ tt ∧ T1 ∧ tt ∧ tt ∧ (T1 ∧ (List.length foot) ≤ 900000 ∧ (List.length path) ≤ 900000) ∧ T1 ∧ (bif (Bool.not (rightC q0)) then (tt ∧ T1 ∧ T1 ∧ tt ∧ tt ∧ ((showV q0) = [] ∧ (showE q0) = 10 ∧ True) ∧ tt) else (tt ∧ T1 ∧ tt ∧ ((0 : Int) ≤ (0 : Int) ∧ (0 : Int) < (9 : Int)) ∧ (okRead [Kd.str] (AV.agg [(AV.str [(110 : UInt8), 111, 111, 112]), (AV.str [(111 : UInt8), 112, 101, 110]), (AV.str [(99 : UInt8), 108, 111, 115, 101]), (AV.str [(107 : UInt8), 101, 101, 112]), (AV.str [(97 : UInt8), 99, 113, 117, 105, 114, 101]), (AV.str [(116 : UInt8), 114, 121]), (AV.str [(114 : UInt8), 101, 108, 101, 97, 115, 101]), (AV.str [(99 : UInt8), 104, 101, 99, 107]), (AV.str [(101 : UInt8), 120, 112, 105, 114, 101])]) 0) ∧ T1 ∧ T1 ∧ tt ∧ T1 ∧ tt ∧ tt ∧ T1 ∧ tt ∧ tt ∧ T1 ∧ tt ∧ tt ∧ T1 ∧ tt ∧ tt ∧ T1 ∧ tt ∧ tt ∧ T1 ∧ tt ∧ tt ∧ T1 ∧ (T1 ∧ (isStrs w0_x) ∧ 4 ≤ 140737488355328 ∧ 1 ≤ 140737488355328) ∧ ∀ v0 : (List UInt8), (v0 = (Go.Lib.join (strsL w0_x) [(32 : UInt8)])) → T1 ∧ T1 ∧ tt ∧ tt ∧ ((showV q0) = v0 ∧ (showE q0) = 0 ∧ True) ∧ tt)))) : inCshowK0 num foot rq path mode n time :=
  Eq.mp (show _ = _ by kernel_rfl) h
theorem vcCshowK1 (num : Int) (foot : (List UInt8)) (rq : Int) (path : (List UInt8)) (mode : Int) (n : Int) (time : Int) (h : let q0 := (CmdP.mk 1 num foot rq path mode n time); let w5_x := [(AV.str [(111 : UInt8), 112, 101, 110])]; (tt ∧ T1 ∧ T1 ∧ T1 ∧ tt ∧ T1 ∧ tt ∧ (T1 ∧ True) ∧ T1 ∧ T1 ∧ T1 ∧ T1 ∧ tt ∧ T1 ∧ tt ∧ tt ∧ (T1 ∧ (List.length foot) ≤ 900000 ∧ (List.length path) ≤ 900000) ∧ T1 ∧ (bif (Bool.not (rightC q0)) then (tt ∧ T1 ∧ T1 ∧ tt ∧ tt ∧ ((showV q0) = [] ∧ (showE q0) = 10 ∧ True) ∧ tt) else (tt ∧ T1 ∧ tt ∧ ((0 : Int) ≤ (1 : Int) ∧ (1 : Int) < (9 : Int)) ∧ (okRead [Kd.str] (AV.agg [(AV.str [(110 : UInt8), 111, 111, 112]), (AV.str [(111 : UInt8), 112, 101, 110]), (AV.str [(99 : UInt8), 108, 111, 115, 101]), (AV.str [(107 : UInt8), 101, 101, 112]), (AV.str [(97 : UInt8), 99, 113, 117, 105, 114, 101]), (AV.str [(116 : UInt8), 114, 121]), (AV.str [(114 : UInt8), 101, 108, 101, 97, 115, 101]), (AV.str [(99 : UInt8), 104, 101, 99, 107]), (AV.str [(101 : UInt8), 120, 112, 105, 114, 101])]) 1) ∧ T1 ∧ T1 ∧ tt ∧ T1 ∧ tt ∧ tt ∧ T1 ∧ T1 ∧ T1 ∧ tt ∧ (T1 ∧ 3 ≤ 100) ∧ ∀ v0 : (List UInt8), let w3_0 := [(AV.str v0), (AV.str (@catL UInt8 [(102 : UInt8), 111, 111, 116, 61] foot))]; let w0_0 := (@catL AV w5_x w3_0); (v0 = (pairN [(110 : UInt8), 117, 109] num)) → T1 ∧ T1 ∧ tt ∧ (5 + (List.length foot)) ≤ 9223372036854775807 ∧ T1 ∧ (@Eq.{1} Nat 1 1 ∧ 48 ≤ 140737488355328 ∧ 3 ≤ 9223372036854775807 ∧ (okWidth 1 w5_x) ∧ (okWidth 1 w3_0)) ∧ T1 ∧ tt ∧ tt ∧ T1 ∧ tt ∧ tt ∧ T1 ∧ T1 ∧ tt ∧ (T1 ∧ 7 ≤ 100) ∧ ∀ v2 : (List UInt8), let w2_2 := (@catL AV w0_0 [(AV.str v2)]); (v2 = (pairN [(114 : UInt8), 101, 113, 117, 101, 115, 116] rq)) → T1 ∧ (@Eq.{1} Nat 3 (List.length w0_0) ∧ (((List.length w0_0) + 1) * 16) ≤ 140737488355328 ∧ ((List.length w0_0) + 1) ≤ 9223372036854775807 ∧ (okWidth 1 w0_0) ∧ (okWidth 1 [(AV.str v2)])) ∧ T1 ∧ tt ∧ T1 ∧ tt ∧ tt ∧ T1 ∧ tt ∧ tt ∧ T1 ∧ tt ∧ tt ∧ T1 ∧ T1 ∧ tt ∧ (T1 ∧ 1 ≤ 100) ∧ ∀ v4 : (List UInt8), let w1_4 := (@catL AV w2_2 [(AV.str v4)]); (v4 = (pairN [(110 : UInt8)] n)) → T1 ∧ (((List.length w0_0) + 1) = (List.length w2_2) ∧ (((List.length w2_2) + 1) * 16) ≤ 140737488355328 ∧ ((List.length w2_2) + 1) ≤ 9223372036854775807 ∧ (okWidth 1 w2_2) ∧ (okWidth 1 [(AV.str v4)])) ∧ T1 ∧ tt ∧ T1 ∧ tt ∧ tt ∧ T1 ∧ T1 ∧ tt ∧ T1 ∧ (T1 ∧ 4 ≤ 100) ∧ ∀ v6 : (List UInt8), let w4_6 := (@catL AV w1_4 [(AV.str v6)]); (v6 = (pairN [(116 : UInt8), 105, 109, 101] (IntKind.wrap IntKind.u64 time))) → T1 ∧ (((List.length w2_2) + 1) = (List.length w1_4) ∧ (((List.length w1_4) + 1) * 16) ≤ 140737488355328 ∧ ((List.length w1_4) + 1) ≤ 9223372036854775807 ∧ (okWidth 1 w1_4) ∧ (okWidth 1 [(AV.str v6)])) ∧ T1 ∧ tt ∧ T1 ∧ (T1 ∧ (isStrs w4_6) ∧ (List.length (Go.Lib.join (strsL w4_6) [(32 : UInt8)])) ≤ 140737488355328 ∧ (List.length w4_6) ≤ 140737488355328) ∧ ∀ v8 : (List UInt8), (v8 = (Go.Lib.join (strsL w4_6) [(32 : UInt8)])) → T1 ∧ T1 ∧ tt ∧ tt ∧ ((showV q0) = v8 ∧ (showE q0) = 0 ∧ True) ∧ tt)))) : inCshowK1 num foot rq path mode n time :=
  Eq.mp (show _ = _ by kernel_rfl) h
theorem vcCshowK2 (num : Int) (foot : (List UInt8)) (rq : Int) (path : (List UInt8)) (mode : Int) (n : Int) (time : Int) (h : let q0 := (CmdP.mk 2 num foot rq path mode n time); let w2_x := [(AV.str [(99 : UInt8), 108, 111, 115, 101])]; (tt ∧ T1 ∧ T1 ∧ T1 ∧ tt ∧ T1 ∧ tt ∧ (T1 ∧ True) ∧ T1 ∧ T1 ∧ T1 ∧ T1 ∧ tt ∧ T1 ∧ tt ∧ tt ∧ (T1 ∧ (List.length foot) ≤ 900000 ∧ (List.length path) ≤ 900000) ∧ T1 ∧ (bif (Bool.not (rightC q0)) then (tt ∧ T1 ∧ T1 ∧ tt ∧ tt ∧ ((showV q0) = [] ∧ (showE q0) = 10 ∧ True) ∧ tt) else (tt ∧ T1 ∧ tt ∧ ((0 : Int) ≤ (2 : Int) ∧ (2 : Int) < (9 : Int)) ∧ (okRead [Kd.str] (AV.agg [(AV.str [(110 : UInt8), 111, 111, 112]), (AV.str [(111 : UInt8), 112, 101, 110]), (AV.str [(99 : UInt8), 108, 111, 115, 101]), (AV.str [(107 : UInt8), 101, 101, 112]), (AV.str [(97 : UInt8), 99, 113, 117, 105, 114, 101]), (AV.str [(116 : UInt8), 114, 121]), (AV.str [(114 : UInt8), 101, 108, 101, 97, 115, 101]), (AV.str [(99 : UInt8), 104, 101, 99, 107]), (AV.str [(101 : UInt8), 120, 112, 105, 114, 101])]) 2) ∧ T1 ∧ T1 ∧ tt ∧ T1 ∧ tt ∧ tt ∧ T1 ∧ T1 ∧ T1 ∧ tt ∧ (T1 ∧ 3 ≤ 100) ∧ ∀ v0 : (List UInt8), let w1_0 := [(AV.str v0), (AV.str (@catL UInt8 [(102 : UInt8), 111, 111, 116, 61] foot))]; let w0_0 := (@catL AV w2_x w1_0); (v0 = (pairN [(110 : UInt8), 117, 109] num)) → T1 ∧ T1 ∧ tt ∧ (5 + (List.length foot)) ≤ 9223372036854775807 ∧ T1 ∧ (@Eq.{1} Nat 1 1 ∧ 48 ≤ 140737488355328 ∧ 3 ≤ 9223372036854775807 ∧ (okWidth 1 w2_x) ∧ (okWidth 1 w1_0)) ∧ T1 ∧ tt ∧ tt ∧ T1 ∧ tt ∧ tt ∧ T1 ∧ T1 ∧ tt ∧ (T1 ∧ 7 ≤ 100) ∧ ∀ v2 : (List UInt8), let w3_2 := (@catL AV w0_0 [(AV.str v2)]); (v2 = (pairN [(114 : UInt8), 101, 113, 117, 101, 115, 116] rq)) → T1 ∧ (@Eq.{1} Nat 3 (List.length w0_0) ∧ (((List.length w0_0) + 1) * 16) ≤ 140737488355328 ∧ ((List.length w0_0) + 1) ≤ 9223372036854775807 ∧ (okWidth 1 w0_0) ∧ (okWidth 1 [(AV.str v2)])) ∧ T1 ∧ tt ∧ T1 ∧ tt ∧ tt ∧ T1 ∧ tt ∧ tt ∧ T1 ∧ tt ∧ tt ∧ T1 ∧ tt ∧ tt ∧ T1 ∧ (T1 ∧ (isStrs w3_2) ∧ (List.length (Go.Lib.join (strsL w3_2) [(32 : UInt8)])) ≤ 140737488355328 ∧ (List.length w3_2) ≤ 140737488355328) ∧ ∀ v4 : (List UInt8), (v4 = (Go.Lib.join (strsL w3_2) [(32 : UInt8)])) → T1 ∧ T1 ∧ tt ∧ tt ∧ ((showV q0) = v4 ∧ (showE q0) = 0 ∧ True) ∧ tt)))) : inCshowK2 num foot rq path mode n time :=
  Eq.mp (show _ = _ by kernel_rfl) h
theorem vcCshowK3 (num : Int) (foot : (List UInt8)) (rq : Int) (path : (List UInt8)) (mode : Int) (n : Int) (time : Int) (h : let q0 := (CmdP.mk 3 num foot rq path mode n time); let w4_x := [(AV.str [(107 : UInt8), 101, 101, 112])]; (tt ∧ T1 ∧ T1 ∧ T1 ∧ tt ∧ T1 ∧ tt ∧ (T1 ∧ True) ∧ T1 ∧ T1 ∧ T1 ∧ T1 ∧ tt ∧ T1 ∧ tt ∧ tt ∧ (T1 ∧ (List.length foot) ≤ 900000 ∧ (List.length path) ≤ 900000) ∧ T1 ∧ (bif (Bool.not (rightC q0)) then (tt ∧ T1 ∧ T1 ∧ tt ∧ tt ∧ ((showV q0) = [] ∧ (showE q0) = 10 ∧ True) ∧ tt) else (tt ∧ T1 ∧ tt ∧ ((0 : Int) ≤ (3 : Int) ∧ (3 : Int) < (9 : Int)) ∧ (okRead [Kd.str] (AV.agg [(AV.str [(110 : UInt8), 111, 111, 112]), (AV.str [(111 : UInt8), 112, 101, 110]), (AV.str [(99 : UInt8), 108, 111, 115, 101]), (AV.str [(107 : UInt8), 101, 101, 112]), (AV.str [(97 : UInt8), 99, 113, 117, 105, 114, 101]), (AV.str [(116 : UInt8), 114, 121]), (AV.str [(114 : UInt8), 101, 108, 101, 97, 115, 101]), (AV.str [(99 : UInt8), 104, 101, 99, 107]), (AV.str [(101 : UInt8), 120, 112, 105, 114, 101])]) 3) ∧ T1 ∧ T1 ∧ tt ∧ T1 ∧ tt ∧ tt ∧ T1 ∧ T1 ∧ T1 ∧ tt ∧ (T1 ∧ 3 ≤ 100) ∧ ∀ v0 : (List UInt8), let w2_0 := [(AV.str v0), (AV.str (@catL UInt8 [(102 : UInt8), 111, 111, 116, 61] foot))]; let w0_0 := (@catL AV w4_x w2_0); (v0 = (pairN [(110 : UInt8), 117, 109] num)) → T1 ∧ T1 ∧ tt ∧ (5 + (List.length foot)) ≤ 9223372036854775807 ∧ T1 ∧ (@Eq.{1} Nat 1 1 ∧ 48 ≤ 140737488355328 ∧ 3 ≤ 9223372036854775807 ∧ (okWidth 1 w4_x) ∧ (okWidth 1 w2_0)) ∧ T1 ∧ tt ∧ tt ∧ T1 ∧ tt ∧ tt ∧ T1 ∧ T1 ∧ tt ∧ (T1 ∧ 7 ≤ 100) ∧ ∀ v2 : (List UInt8), let w1_2 := (@catL AV w0_0 [(AV.str v2)]); (v2 = (pairN [(114 : UInt8), 101, 113, 117, 101, 115, 116] rq)) → T1 ∧ (@Eq.{1} Nat 3 (List.length w0_0) ∧ (((List.length w0_0) + 1) * 16) ≤ 140737488355328 ∧ ((List.length w0_0) + 1) ≤ 9223372036854775807 ∧ (okWidth 1 w0_0) ∧ (okWidth 1 [(AV.str v2)])) ∧ T1 ∧ tt ∧ T1 ∧ tt ∧ tt ∧ T1 ∧ tt ∧ tt ∧ T1 ∧ tt ∧ tt ∧ T1 ∧ tt ∧ tt ∧ T1 ∧ T1 ∧ tt ∧ T1 ∧ (T1 ∧ 4 ≤ 100) ∧ ∀ v4 : (List UInt8), let w3_4 := (@catL AV w1_2 [(AV.str v4)]); (v4 = (pairN [(116 : UInt8), 105, 109, 101] (IntKind.wrap IntKind.u64 time))) → T1 ∧ (((List.length w0_0) + 1) = (List.length w1_2) ∧ (((List.length w1_2) + 1) * 16) ≤ 140737488355328 ∧ ((List.length w1_2) + 1) ≤ 9223372036854775807 ∧ (okWidth 1 w1_2) ∧ (okWidth 1 [(AV.str v4)])) ∧ T1 ∧ tt ∧ T1 ∧ (T1 ∧ (isStrs w3_4) ∧ (List.length (Go.Lib.join (strsL w3_4) [(32 : UInt8)])) ≤ 140737488355328 ∧ (List.length w3_4) ≤ 140737488355328) ∧ ∀ v6 : (List UInt8), (v6 = (Go.Lib.join (strsL w3_4) [(32 : UInt8)])) → T1 ∧ T1 ∧ tt ∧ tt ∧ ((showV q0) = v6 ∧ (showE q0) = 0 ∧ True) ∧ tt)))) : inCshowK3 num foot rq path mode n time :=
  Eq.mp (show _ = _ by kernel_rfl) h
theorem vcCshowK4 (num : Int) (foot : (List UInt8)) (rq : Int) (path : (List UInt8)) (mode : Int) (n : Int) (time : Int) (h : let q0 := (CmdP.mk 4 num foot rq path mode n time); let w4_x := [(AV.str [(97 : UInt8), 99, 113, 117, 105, 114, 101])]; let w5_x := [(AV.str (@catL UInt8 [(112 : UInt8), 97, 116, 104, 61] path))]; (tt ∧ T1 ∧ T1 ∧ T1 ∧ tt ∧ T1 ∧ tt ∧ (T1 ∧ True) ∧ T1 ∧ T1 ∧ T1 ∧ T1 ∧ tt ∧ T1 ∧ tt ∧ tt ∧ (T1 ∧ (List.length foot) ≤ 900000 ∧ (List.length path) ≤ 900000) ∧ T1 ∧ (bif (Bool.not (rightC q0)) then (tt ∧ T1 ∧ T1 ∧ tt ∧ tt ∧ ((showV q0) = [] ∧ (showE q0) = 10 ∧ True) ∧ tt) else (tt ∧ T1 ∧ tt ∧ ((0 : Int) ≤ (4 : Int) ∧ (4 : Int) < (9 : Int)) ∧ (okRead [Kd.str] (AV.agg [(AV.str [(110 : UInt8), 111, 111, 112]), (AV.str [(111 : UInt8), 112, 101, 110]), (AV.str [(99 : UInt8), 108, 111, 115, 101]), (AV.str [(107 : UInt8), 101, 101, 112]), (AV.str [(97 : UInt8), 99, 113, 117, 105, 114, 101]), (AV.str [(116 : UInt8), 114, 121]), (AV.str [(114 : UInt8), 101, 108, 101, 97, 115, 101]), (AV.str [(99 : UInt8), 104, 101, 99, 107]), (AV.str [(101 : UInt8), 120, 112, 105, 114, 101])]) 4) ∧ T1 ∧ T1 ∧ tt ∧ T1 ∧ tt ∧ tt ∧ T1 ∧ T1 ∧ T1 ∧ tt ∧ (T1 ∧ 3 ≤ 100) ∧ ∀ v0 : (List UInt8), let w3_0 := [(AV.str v0), (AV.str (@catL UInt8 [(102 : UInt8), 111, 111, 116, 61] foot))]; let w0_0 := (@catL AV w4_x w3_0); (v0 = (pairN [(110 : UInt8), 117, 109] num)) → T1 ∧ T1 ∧ tt ∧ (5 + (List.length foot)) ≤ 9223372036854775807 ∧ T1 ∧ (@Eq.{1} Nat 1 1 ∧ 48 ≤ 140737488355328 ∧ 3 ≤ 9223372036854775807 ∧ (okWidth 1 w4_x) ∧ (okWidth 1 w3_0)) ∧ T1 ∧ tt ∧ tt ∧ T1 ∧ tt ∧ tt ∧ T1 ∧ T1 ∧ tt ∧ (T1 ∧ 7 ≤ 100) ∧ ∀ v2 : (List UInt8), let w2_2 := (@catL AV w0_0 [(AV.str v2)]); let w1_2 := (@catL AV w2_2 w5_x); (v2 = (pairN [(114 : UInt8), 101, 113, 117, 101, 115, 116] rq)) → T1 ∧ (@Eq.{1} Nat 3 (List.length w0_0) ∧ (((List.length w0_0) + 1) * 16) ≤ 140737488355328 ∧ ((List.length w0_0) + 1) ≤ 9223372036854775807 ∧ (okWidth 1 w0_0) ∧ (okWidth 1 [(AV.str v2)])) ∧ T1 ∧ tt ∧ T1 ∧ tt ∧ tt ∧ T1 ∧ T1 ∧ tt ∧ (5 + (List.length path)) ≤ 9223372036854775807 ∧ T1 ∧ (((List.length w0_0) + 1) = (List.length w2_2) ∧ (((List.length w2_2) + 1) * 16) ≤ 140737488355328 ∧ ((List.length w2_2) + 1) ≤ 9223372036854775807 ∧ (okWidth 1 w2_2) ∧ (okWidth 1 w5_x)) ∧ T1 ∧ tt ∧ T1 ∧ tt ∧ tt ∧ T1 ∧ T1 ∧ tt ∧ T1 ∧ (T1 ∧ 4 ≤ 100) ∧ ∀ v4 : (List UInt8), let w6_4 := (@catL AV w1_2 [(AV.str v4)]); (v4 = (pairN [(109 : UInt8), 111, 100, 101] (IntKind.wrap IntKind.u64 mode))) → T1 ∧ (((List.length w2_2) + 1) = (List.length w1_2) ∧ (((List.length w1_2) + 1) * 16) ≤ 140737488355328 ∧ ((List.length w1_2) + 1) ≤ 9223372036854775807 ∧ (okWidth 1 w1_2) ∧ (okWidth 1 [(AV.str v4)])) ∧ T1 ∧ tt ∧ T1 ∧ tt ∧ tt ∧ T1 ∧ tt ∧ tt ∧ T1 ∧ (T1 ∧ (isStrs w6_4) ∧ (List.length (Go.Lib.join (strsL w6_4) [(32 : UInt8)])) ≤ 140737488355328 ∧ (List.length w6_4) ≤ 140737488355328) ∧ ∀ v6 : (List UInt8), (v6 = (Go.Lib.join (strsL w6_4) [(32 : UInt8)])) → T1 ∧ T1 ∧ tt ∧ tt ∧ ((showV q0) = v6 ∧ (showE q0) = 0 ∧ True) ∧ tt)))) : inCshowK4 num foot rq path mode n time :=
  Eq.mp (show _ = _ by kernel_rfl) h
theorem vcCshowK5 (num : Int) (foot : (List UInt8)) (rq : Int) (path : (List UInt8)) (mode : Int) (n : Int) (time : Int) (h : let q0 := (CmdP.mk 5 num foot rq path mode n time); let w4_x := [(AV.str (@catL UInt8 [(112 : UInt8), 97, 116, 104, 61] path))]; let w6_x := [(AV.str [(116 : UInt8), 114, 121])]; (tt ∧ T1 ∧ T1 ∧ T1 ∧ tt ∧ T1 ∧ tt ∧ (T1 ∧ True) ∧ T1 ∧ T1 ∧ T1 ∧ T1 ∧ tt ∧ T1 ∧ tt ∧ tt ∧ (T1 ∧ (List.length foot) ≤ 900000 ∧ (List.length path) ≤ 900000) ∧ T1 ∧ (bif (Bool.not (rightC q0)) then (tt ∧ T1 ∧ T1 ∧ tt ∧ tt ∧ ((showV q0) = [] ∧ (showE q0) = 10 ∧ True) ∧ tt) else (tt ∧ T1 ∧ tt ∧ ((0 : Int) ≤ (5 : Int) ∧ (5 : Int) < (9 : Int)) ∧ (okRead [Kd.str] (AV.agg [(AV.str [(110 : UInt8), 111, 111, 112]), (AV.str [(111 : UInt8), 112, 101, 110]), (AV.str [(99 : UInt8), 108, 111, 115, 101]), (AV.str [(107 : UInt8), 101, 101, 112]), (AV.str [(97 : UInt8), 99, 113, 117, 105, 114, 101]), (AV.str [(116 : UInt8), 114, 121]), (AV.str [(114 : UInt8), 101, 108, 101, 97, 115, 101]), (AV.str [(99 : UInt8), 104, 101, 99, 107]), (AV.str [(101 : UInt8), 120, 112, 105, 114, 101])]) 5) ∧ T1 ∧ T1 ∧ tt ∧ T1 ∧ tt ∧ tt ∧ T1 ∧ T1 ∧ T1 ∧ tt ∧ (T1 ∧ 3 ≤ 100) ∧ ∀ v0 : (List UInt8), let w3_0 := [(AV.str v0), (AV.str (@catL UInt8 [(102 : UInt8), 111, 111, 116, 61] foot))]; let w0_0 := (@catL AV w6_x w3_0); (v0 = (pairN [(110 : UInt8), 117, 109] num)) → T1 ∧ T1 ∧ tt ∧ (5 + (List.length foot)) ≤ 9223372036854775807 ∧ T1 ∧ (@Eq.{1} Nat 1 1 ∧ 48 ≤ 140737488355328 ∧ 3 ≤ 9223372036854775807 ∧ (okWidth 1 w6_x) ∧ (okWidth 1 w3_0)) ∧ T1 ∧ tt ∧ tt ∧ T1 ∧ tt ∧ tt ∧ T1 ∧ T1 ∧ tt ∧ (T1 ∧ 7 ≤ 100) ∧ ∀ v2 : (List UInt8), let w2_2 := (@catL AV w0_0 [(AV.str v2)]); let w1_2 := (@catL AV w2_2 w4_x); (v2 = (pairN [(114 : UInt8), 101, 113, 117, 101, 115, 116] rq)) → T1 ∧ (@Eq.{1} Nat 3 (List.length w0_0) ∧ (((List.length w0_0) + 1) * 16) ≤ 140737488355328 ∧ ((List.length w0_0) + 1) ≤ 9223372036854775807 ∧ (okWidth 1 w0_0) ∧ (okWidth 1 [(AV.str v2)])) ∧ T1 ∧ tt ∧ T1 ∧ tt ∧ tt ∧ T1 ∧ T1 ∧ tt ∧ (5 + (List.length path)) ≤ 9223372036854775807 ∧ T1 ∧ (((List.length w0_0) + 1) = (List.length w2_2) ∧ (((List.length w2_2) + 1) * 16) ≤ 140737488355328 ∧ ((List.length w2_2) + 1) ≤ 9223372036854775807 ∧ (okWidth 1 w2_2) ∧ (okWidth 1 w4_x)) ∧ T1 ∧ tt ∧ T1 ∧ tt ∧ tt ∧ T1 ∧ T1 ∧ tt ∧ T1 ∧ (T1 ∧ 4 ≤ 100) ∧ ∀ v4 : (List UInt8), let w5_4 := (@catL AV w1_2 [(AV.str v4)]); (v4 = (pairN [(109 : UInt8), 111, 100, 101] (IntKind.wrap IntKind.u64 mode))) → T1 ∧ (((List.length w2_2) + 1) = (List.length w1_2) ∧ (((List.length w1_2) + 1) * 16) ≤ 140737488355328 ∧ ((List.length w1_2) + 1) ≤ 9223372036854775807 ∧ (okWidth 1 w1_2) ∧ (okWidth 1 [(AV.str v4)])) ∧ T1 ∧ tt ∧ T1 ∧ tt ∧ tt ∧ T1 ∧ tt ∧ tt ∧ T1 ∧ (T1 ∧ (isStrs w5_4) ∧ (List.length (Go.Lib.join (strsL w5_4) [(32 : UInt8)])) ≤ 140737488355328 ∧ (List.length w5_4) ≤ 140737488355328) ∧ ∀ v6 : (List UInt8), (v6 = (Go.Lib.join (strsL w5_4) [(32 : UInt8)])) → T1 ∧ T1 ∧ tt ∧ tt ∧ ((showV q0) = v6 ∧ (showE q0) = 0 ∧ True) ∧ tt)))) : inCshowK5 num foot rq path mode n time :=
  Eq.mp (show _ = _ by kernel_rfl) h
theorem vcCshowK6 (num : Int) (foot : (List UInt8)) (rq : Int) (path : (List UInt8)) (mode : Int) (n : Int) (time : Int) (h : let q0 := (CmdP.mk 6 num foot rq path mode n time); let w3_x := [(AV.str [(114 : UInt8), 101, 108, 101, 97, 115, 101])]; let w5_x := [(AV.str (@catL UInt8 [(112 : UInt8), 97, 116, 104, 61] path))]; (tt ∧ T1 ∧ T1 ∧ T1 ∧ tt ∧ T1 ∧ tt ∧ (T1 ∧ True) ∧ T1 ∧ T1 ∧ T1 ∧ T1 ∧ tt ∧ T1 ∧ tt ∧ tt ∧ (T1 ∧ (List.length foot) ≤ 900000 ∧ (List.length path) ≤ 900000) ∧ T1 ∧ (bif (Bool.not (rightC q0)) then (tt ∧ T1 ∧ T1 ∧ tt ∧ tt ∧ ((showV q0) = [] ∧ (showE q0) = 10 ∧ True) ∧ tt) else (tt ∧ T1 ∧ tt ∧ ((0 : Int) ≤ (6 : Int) ∧ (6 : Int) < (9 : Int)) ∧ (okRead [Kd.str] (AV.agg [(AV.str [(110 : UInt8), 111, 111, 112]), (AV.str [(111 : UInt8), 112, 101, 110]), (AV.str [(99 : UInt8), 108, 111, 115, 101]), (AV.str [(107 : UInt8), 101, 101, 112]), (AV.str [(97 : UInt8), 99, 113, 117, 105, 114, 101]), (AV.str [(116 : UInt8), 114, 121]), (AV.str [(114 : UInt8), 101, 108, 101, 97, 115, 101]), (AV.str [(99 : UInt8), 104, 101, 99, 107]), (AV.str [(101 : UInt8), 120, 112, 105, 114, 101])]) 6) ∧ T1 ∧ T1 ∧ tt ∧ T1 ∧ tt ∧ tt ∧ T1 ∧ T1 ∧ T1 ∧ tt ∧ (T1 ∧ 3 ≤ 100) ∧ ∀ v0 : (List UInt8), let w2_0 := [(AV.str v0), (AV.str (@catL UInt8 [(102 : UInt8), 111, 111, 116, 61] foot))]; let w0_0 := (@catL AV w3_x w2_0); (v0 = (pairN [(110 : UInt8), 117, 109] num)) → T1 ∧ T1 ∧ tt ∧ (5 + (List.length foot)) ≤ 9223372036854775807 ∧ T1 ∧ (@Eq.{1} Nat 1 1 ∧ 48 ≤ 140737488355328 ∧ 3 ≤ 9223372036854775807 ∧ (okWidth 1 w3_x) ∧ (okWidth 1 w2_0)) ∧ T1 ∧ tt ∧ tt ∧ T1 ∧ tt ∧ tt ∧ T1 ∧ T1 ∧ tt ∧ (T1 ∧ 7 ≤ 100) ∧ ∀ v2 : (List UInt8), let w4_2 := (@catL AV w0_0 [(AV.str v2)]); let w1_2 := (@catL AV w4_2 w5_x); (v2 = (pairN [(114 : UInt8), 101, 113, 117, 101, 115, 116] rq)) → T1 ∧ (@Eq.{1} Nat 3 (List.length w0_0) ∧ (((List.length w0_0) + 1) * 16) ≤ 140737488355328 ∧ ((List.length w0_0) + 1) ≤ 9223372036854775807 ∧ (okWidth 1 w0_0) ∧ (okWidth 1 [(AV.str v2)])) ∧ T1 ∧ tt ∧ T1 ∧ tt ∧ tt ∧ T1 ∧ T1 ∧ tt ∧ (5 + (List.length path)) ≤ 9223372036854775807 ∧ T1 ∧ (((List.length w0_0) + 1) = (List.length w4_2) ∧ (((List.length w4_2) + 1) * 16) ≤ 140737488355328 ∧ ((List.length w4_2) + 1) ≤ 9223372036854775807 ∧ (okWidth 1 w4_2) ∧ (okWidth 1 w5_x)) ∧ T1 ∧ tt ∧ T1 ∧ tt ∧ tt ∧ T1 ∧ tt ∧ tt ∧ T1 ∧ tt ∧ tt ∧ T1 ∧ (T1 ∧ (isStrs w1_2) ∧ (List.length (Go.Lib.join (strsL w1_2) [(32 : UInt8)])) ≤ 140737488355328 ∧ (List.length w1_2) ≤ 140737488355328) ∧ ∀ v4 : (List UInt8), (v4 = (Go.Lib.join (strsL w1_2) [(32 : UInt8)])) → T1 ∧ T1 ∧ tt ∧ tt ∧ ((showV q0) = v4 ∧ (showE q0) = 0 ∧ True) ∧ tt)))) : inCshowK6 num foot rq path mode n time :=
  Eq.mp (show _ = _ by kernel_rfl) h
theorem vcCshowK7 (num : Int) (foot : (List UInt8)) (rq : Int) (path : (List UInt8)) (mode : Int) (n : Int) (time : Int) (h : let q0 := (CmdP.mk 7 num foot rq path mode n time); let w4_x := [(AV.str (@catL UInt8 [(112 : UInt8), 97, 116, 104, 61] path))]; let w5_x := [(AV.str [(99 : UInt8), 104, 101, 99, 107])]; (tt ∧ T1 ∧ T1 ∧ T1 ∧ tt ∧ T1 ∧ tt ∧ (T1 ∧ True) ∧ T1 ∧ T1 ∧ T1 ∧ T1 ∧ tt ∧ T1 ∧ tt ∧ tt ∧ (T1 ∧ (List.length foot) ≤ 900000 ∧ (List.length path) ≤ 900000) ∧ T1 ∧ (bif (Bool.not (rightC q0)) then (tt ∧ T1 ∧ T1 ∧ tt ∧ tt ∧ ((showV q0) = [] ∧ (showE q0) = 10 ∧ True) ∧ tt) else (tt ∧ T1 ∧ tt ∧ ((0 : Int) ≤ (7 : Int) ∧ (7 : Int) < (9 : Int)) ∧ (okRead [Kd.str] (AV.agg [(AV.str [(110 : UInt8), 111, 111, 112]), (AV.str [(111 : UInt8), 112, 101, 110]), (AV.str [(99 : UInt8), 108, 111, 115, 101]), (AV.str [(107 : UInt8), 101, 101, 112]), (AV.str [(97 : UInt8), 99, 113, 117, 105, 114, 101]), (AV.str [(116 : UInt8), 114, 121]), (AV.str [(114 : UInt8), 101, 108, 101, 97, 115, 101]), (AV.str [(99 : UInt8), 104, 101, 99, 107]), (AV.str [(101 : UInt8), 120, 112, 105, 114, 101])]) 7) ∧ T1 ∧ T1 ∧ tt ∧ T1 ∧ tt ∧ tt ∧ T1 ∧ T1 ∧ T1 ∧ tt ∧ (T1 ∧ 3 ≤ 100) ∧ ∀ v0 : (List UInt8), let w3_0 := [(AV.str v0), (AV.str (@catL UInt8 [(102 : UInt8), 111, 111, 116, 61] foot))]; let w0_0 := (@catL AV w5_x w3_0); (v0 = (pairN [(110 : UInt8), 117, 109] num)) → T1 ∧ T1 ∧ tt ∧ (5 + (List.length foot)) ≤ 9223372036854775807 ∧ T1 ∧ (@Eq.{1} Nat 1 1 ∧ 48 ≤ 140737488355328 ∧ 3 ≤ 9223372036854775807 ∧ (okWidth 1 w5_x) ∧ (okWidth 1 w3_0)) ∧ T1 ∧ tt ∧ tt ∧ T1 ∧ tt ∧ tt ∧ T1 ∧ T1 ∧ tt ∧ (T1 ∧ 7 ≤ 100) ∧ ∀ v2 : (List UInt8), let w2_2 := (@catL AV w0_0 [(AV.str v2)]); let w1_2 := (@catL AV w2_2 w4_x); (v2 = (pairN [(114 : UInt8), 101, 113, 117, 101, 115, 116] rq)) → T1 ∧ (@Eq.{1} Nat 3 (List.length w0_0) ∧ (((List.length w0_0) + 1) * 16) ≤ 140737488355328 ∧ ((List.length w0_0) + 1) ≤ 9223372036854775807 ∧ (okWidth 1 w0_0) ∧ (okWidth 1 [(AV.str v2)])) ∧ T1 ∧ tt ∧ T1 ∧ tt ∧ tt ∧ T1 ∧ T1 ∧ tt ∧ (5 + (List.length path)) ≤ 9223372036854775807 ∧ T1 ∧ (((List.length w0_0) + 1) = (List.length w2_2) ∧ (((List.length w2_2) + 1) * 16) ≤ 140737488355328 ∧ ((List.length w2_2) + 1) ≤ 9223372036854775807 ∧ (okWidth 1 w2_2) ∧ (okWidth 1 w4_x)) ∧ T1 ∧ tt ∧ T1 ∧ tt ∧ tt ∧ T1 ∧ tt ∧ tt ∧ T1 ∧ T1 ∧ tt ∧ (T1 ∧ 1 ≤ 100) ∧ ∀ v4 : (List UInt8), let w6_4 := (@catL AV w1_2 [(AV.str v4)]); (v4 = (pairN [(110 : UInt8)] n)) → T1 ∧ (((List.length w2_2) + 1) = (List.length w1_2) ∧ (((List.length w1_2) + 1) * 16) ≤ 140737488355328 ∧ ((List.length w1_2) + 1) ≤ 9223372036854775807 ∧ (okWidth 1 w1_2) ∧ (okWidth 1 [(AV.str v4)])) ∧ T1 ∧ tt ∧ T1 ∧ tt ∧ tt ∧ T1 ∧ (T1 ∧ (isStrs w6_4) ∧ (List.length (Go.Lib.join (strsL w6_4) [(32 : UInt8)])) ≤ 140737488355328 ∧ (List.length w6_4) ≤ 140737488355328) ∧ ∀ v6 : (List UInt8), (v6 = (Go.Lib.join (strsL w6_4) [(32 : UInt8)])) → T1 ∧ T1 ∧ tt ∧ tt ∧ ((showV q0) = v6 ∧ (showE q0) = 0 ∧ True) ∧ tt)))) : inCshowK7 num foot rq path mode n time :=
  Eq.mp (show _ = _ by kernel_rfl) h
theorem vcCshowK8 (num : Int) (foot : (List UInt8)) (rq : Int) (path : (List UInt8)) (mode : Int) (n : Int) (time : Int) (h : let q0 := (CmdP.mk 8 num foot rq path mode n time); let w2_x := [(AV.str [(101 : UInt8), 120, 112, 105, 114, 101])]; (tt ∧ T1 ∧ T1 ∧ T1 ∧ tt ∧ T1 ∧ tt ∧ (T1 ∧ True) ∧ T1 ∧ T1 ∧ T1 ∧ T1 ∧ tt ∧ T1 ∧ tt ∧ tt ∧ (T1 ∧ (List.length foot) ≤ 900000 ∧ (List.length path) ≤ 900000) ∧ T1 ∧ (bif (Bool.not (rightC q0)) then (tt ∧ T1 ∧ T1 ∧ tt ∧ tt ∧ ((showV q0) = [] ∧ (showE q0) = 10 ∧ True) ∧ tt) else (tt ∧ T1 ∧ tt ∧ ((0 : Int) ≤ (8 : Int) ∧ (8 : Int) < (9 : Int)) ∧ (okRead [Kd.str] (AV.agg [(AV.str [(110 : UInt8), 111, 111, 112]), (AV.str [(111 : UInt8), 112, 101, 110]), (AV.str [(99 : UInt8), 108, 111, 115, 101]), (AV.str [(107 : UInt8), 101, 101, 112]), (AV.str [(97 : UInt8), 99, 113, 117, 105, 114, 101]), (AV.str [(116 : UInt8), 114, 121]), (AV.str [(114 : UInt8), 101, 108, 101, 97, 115, 101]), (AV.str [(99 : UInt8), 104, 101, 99, 107]), (AV.str [(101 : UInt8), 120, 112, 105, 114, 101])]) 8) ∧ T1 ∧ T1 ∧ tt ∧ T1 ∧ tt ∧ tt ∧ T1 ∧ T1 ∧ T1 ∧ tt ∧ (T1 ∧ 3 ≤ 100) ∧ ∀ v0 : (List UInt8), let w1_0 := [(AV.str v0), (AV.str (@catL UInt8 [(102 : UInt8), 111, 111, 116, 61] foot))]; let w0_0 := (@catL AV w2_x w1_0); (v0 = (pairN [(110 : UInt8), 117, 109] num)) → T1 ∧ T1 ∧ tt ∧ (5 + (List.length foot)) ≤ 9223372036854775807 ∧ T1 ∧ (@Eq.{1} Nat 1 1 ∧ 48 ≤ 140737488355328 ∧ 3 ≤ 9223372036854775807 ∧ (okWidth 1 w2_x) ∧ (okWidth 1 w1_0)) ∧ T1 ∧ tt ∧ tt ∧ T1 ∧ tt ∧ tt ∧ T1 ∧ tt ∧ tt ∧ T1 ∧ tt ∧ tt ∧ T1 ∧ tt ∧ tt ∧ T1 ∧ tt ∧ tt ∧ T1 ∧ T1 ∧ tt ∧ T1 ∧ (T1 ∧ 4 ≤ 100) ∧ ∀ v2 : (List UInt8), let w3_2 := (@catL AV w0_0 [(AV.str v2)]); (v2 = (pairN [(116 : UInt8), 105, 109, 101] (IntKind.wrap IntKind.u64 time))) → T1 ∧ (@Eq.{1} Nat 3 (List.length w0_0) ∧ (((List.length w0_0) + 1) * 16) ≤ 140737488355328 ∧ ((List.length w0_0) + 1) ≤ 9223372036854775807 ∧ (okWidth 1 w0_0) ∧ (okWidth 1 [(AV.str v2)])) ∧ T1 ∧ tt ∧ T1 ∧ (T1 ∧ (isStrs w3_2) ∧ (List.length (Go.Lib.join (strsL w3_2) [(32 : UInt8)])) ≤ 140737488355328 ∧ (List.length w3_2) ≤ 140737488355328) ∧ ∀ v4 : (List UInt8), (v4 = (Go.Lib.join (strsL w3_2) [(32 : UInt8)])) → T1 ∧ T1 ∧ tt ∧ tt ∧ ((showV q0) = v4 ∧ (showE q0) = 0 ∧ True) ∧ tt)))) : inCshowK8 num foot rq path mode n time :=
  Eq.mp (show _ = _ by kernel_rfl) h
end Go.Proofs.YtpomloangafbkaaGreatDoor
/- The conditions hold: commands' texts. -/
namespace Go.Proofs.YtpomloangafbkaaGreatDoor
set_option linter.unusedVariables false
set_option linter.unusedSimpArgs false
open Go.RowKit
set_option maxRecDepth 100000

theorem catL_cons (l : List UInt8) (b : UInt8) : catL (bytesAV l) [byteAV b] = bytesAV (catL l [b]) := by simp [catL, bytesAV]
theorem digC_len (v : Int) (h : v ≤ 18446744073709551615) : (digC v).length ≤ 21 := by
  unfold digC
  have := decDigits_len 20 v.toNat (by omega)
  omega
theorem okPairC0 : OkPairC0 := by
  intro nm v hq hv
  have hq' : nm.length ≤ 100 := hq
  refine vcPairC0 nm v ?_
  have h1 := digC_len v hv.2
  have e : Lib.decDigits v.toNat = digC v := rfl
  simp only [true_and, and_true, forall_eq, eq_self, e]
  refine ⟨by omega, by simp [catL]; omega, rfl⟩
def tabL : List (List UInt8) := [[110, 111, 111, 112], [111, 112, 101, 110], [99, 108, 111, 115, 101], [107, 101, 101, 112], [97, 99, 113, 117, 105, 114, 101], [116, 114, 121], [114, 101, 108, 101, 97, 115, 101], [99, 104, 101, 99, 107], [101, 120, 112, 105, 114, 101]]
theorem tabRead (j : Nat) (h : j < 9) : okRead [Kd.str] (.agg (tabL.map .str)) j := by
  intro i kd hi
  match i, hi with
  | 0, hi =>
    simp at hi; subst hi
    have : j = 0 ∨ j = 1 ∨ j = 2 ∨ j = 3 ∨ j = 4 ∨ j = 5 ∨ j = 6 ∨ j = 7 ∨ j = 8 := by omega
    rcases this with rfl | rfl | rfl | rfl | rfl | rfl | rfl | rfl | rfl <;> rfl
  | i + 1, hi => simp at hi
theorem tabAll : okRead [Kd.str, Kd.str, Kd.str, Kd.str, Kd.str, Kd.str, Kd.str, Kd.str, Kd.str] (.agg (tabL.map .str)) 0 := by
  intro i kd hi
  match i, hi with
  | 0, hi => simp at hi; subst hi; rfl
  | 1, hi => simp at hi; subst hi; rfl
  | 2, hi => simp at hi; subst hi; rfl
  | 3, hi => simp at hi; subst hi; rfl
  | 4, hi => simp at hi; subst hi; rfl
  | 5, hi => simp at hi; subst hi; rfl
  | 6, hi => simp at hi; subst hi; rfl
  | 7, hi => simp at hi; subst hi; rfl
  | 8, hi => simp at hi; subst hi; rfl
  | i + 9, hi => simp at hi
theorem beq_yes {a b : List UInt8} (h : (a == b) = true) : b = a := (beq_iff_eq.1 h).symm
theorem beq_no {a b : List UInt8} (h : (a == b) = false) : ¬ b = a := fun e => by rw [e] at h; simp at h
theorem okKind0 : OkKind0 := by
  intro t hq
  refine vcKind0 t ?_
  simp only [true_and, and_true, forall_eq, eq_self]
  refine ⟨tabAll, by omega, cond_prop (fun h => by rw [beq_yes h]; rfl) fun h0 => ⟨by omega, cond_prop (fun h => by rw [beq_yes h]; rfl) fun h1 => ⟨by omega, cond_prop (fun h => by rw [beq_yes h]; rfl) fun h2 => ⟨by omega, cond_prop (fun h => by rw [beq_yes h]; rfl) fun h3 => ⟨by omega, cond_prop (fun h => by rw [beq_yes h]; rfl) fun h4 => ⟨by omega, cond_prop (fun h => by rw [beq_yes h]; rfl) fun h5 => ⟨by omega, cond_prop (fun h => by rw [beq_yes h]; rfl) fun h6 => ⟨by omega, cond_prop (fun h => by rw [beq_yes h]; rfl) fun h7 => ⟨by omega, cond_prop (fun h => by rw [beq_yes h]; rfl) fun h8 => ?_⟩⟩⟩⟩⟩⟩⟩⟩⟩
  unfold kindN
  rw [if_neg (beq_no h0), if_neg (beq_no h1), if_neg (beq_no h2), if_neg (beq_no h3), if_neg (beq_no h4), if_neg (beq_no h5), if_neg (beq_no h6), if_neg (beq_no h7), if_neg (beq_no h8)]
theorem beq_yes' {a b : List UInt8} (h : (a == b) = true) : a = b := beq_iff_eq.1 h
theorem beq_no' {a b : List UInt8} (h : (a == b) = false) : ¬ a = b := fun e => by rw [e] at h; simp at h
theorem and3 {v : Int} (h0 : 0 ≤ v) (h1 : v ≤ 18446744073709551615) : IntKind.i64.wrap (intBits .and .u64 v 3) = v % 4 := by
  obtain ⟨m, rfl⟩ : ∃ m : Nat, v = (m : Int) := ⟨v.toNat, by omega⟩
  have e : intBits .and .u64 (m : Int) 3 = ((m % 4 : Nat) : Int) := by
    unfold intBits
    show IntKind.u64.wrap (((BitVec.ofInt 64 (m : Int) &&& BitVec.ofInt 64 3).toNat : Nat) : Int) = _
    have e3 : (BitVec.ofInt 64 (m : Int) &&& BitVec.ofInt 64 3).toNat = m % 4 := by
      rw [BitVec.toNat_and]
      have : (BitVec.ofInt 64 (m : Int)).toNat = m := by
        rw [BitVec.toNat_ofInt]; omega
      rw [this]
      show m &&& 3 = m % 4
      exact Nat.and_two_pow_sub_one_eq_mod m 2
    rw [e3, wrap_u64 (by omega) (by omega)]
  rw [e, wrap_i64 (by omega) (by omega)]
  omega
theorem okSetF1 : OkSetF1 := by
  intro k num foot rq path mode n time f hq
  have hq' : f.length ≤ 900000 := hq
  refine vcSetF1 k num foot rq path mode n time f ?_
  have hl := cut_len f [61]
  have e1 : (Lib.cut f [61]).1 = fN f := rfl
  have e2 : (Lib.cut f [61]).2.1 = fV f := rfl
  have e3 : (Lib.cut f [61]).2.2 = fOK f := rfl
  rw [e2] at hl
  have hr := puV_range (fV f)
  have w1 := and3 hr.1 hr.2
  have w2 : IntKind.i64.wrap (if (1099511627777 : Int) < puV (fV f) then 1099511627777 else puV (fV f)) = min (puV (fV f)) 1099511627777 := by
    by_cases h : (1099511627777 : Int) < puV (fV f)
    · rw [if_pos h, wrap_i64 (by omega) (by omega)]; omega
    · rw [if_neg h, wrap_i64 (by omega) (by omega)]; omega
  simp only [true_and, and_true, forall_eq, eq_self, e1, e2, e3]
  refine ⟨by omega, by omega, ?_⟩
  refine cond_prop (fun g0 => ?_) fun g0 => cond_prop (fun g1 => ?_) fun g1 => cond_prop (fun g2 => ?_) fun g2 => cond_prop (fun g3 => ?_) fun g3 => cond_prop (fun g4 => ?_) fun g4 => cond_prop (fun g5 => ?_) fun g5 => cond_prop (fun g6 => ?_) fun g6 => ?_
  · have h := beq_yes' g0
    simp [setNum, setFoot, setRq, setPath, setMode, setN, setTime, setK, h]
  · have h := beq_yes' g1
    simp [setNum, setFoot, setRq, setPath, setMode, setN, setTime, setK, h]
  · have h := beq_yes' g2
    refine cond_prop (fun g => ?_) fun g => ?_ <;> simp [setNum, setFoot, setRq, setPath, setMode, setN, setTime, setK, h, g]
  · have h := beq_yes' g3
    refine cond_prop (fun g => ?_) fun g => ?_ <;> simp [setNum, setFoot, setRq, setPath, setMode, setN, setTime, setK, h, g]
  · have h := beq_yes' g4
    rw [w1]
    refine cond_prop (fun g => ?_) fun g => ?_ <;> simp [setNum, setFoot, setRq, setPath, setMode, setN, setTime, setK, h, g]
  · have h := beq_yes' g5
    refine cond_prop (fun g => ?_) fun g => ?_ <;> simp [setNum, setFoot, setRq, setPath, setMode, setN, setTime, setK, h, g]
  · have h := beq_yes' g6
    rw [w2]
    refine cond_prop (fun g => ?_) fun g => ?_ <;> simp [setNum, setFoot, setRq, setPath, setMode, setN, setTime, setK, h, g]
  · have h0 := beq_no' g0
    have h1 := beq_no' g1
    have h2 := beq_no' g2
    have h3 := beq_no' g3
    have h4 := beq_no' g4
    have h5 := beq_no' g5
    have h6 := beq_no' g6
    simp [setNum, setFoot, setRq, setPath, setMode, setN, setTime, setK, h0, h1, h2, h3, h4, h5, h6]
structure NumOK (c : CmdP) : Prop where
  num : 0 ≤ c.num ∧ c.num ≤ 18446744073709551615
  rq : 0 ≤ c.rq ∧ c.rq ≤ 18446744073709551615
  n : 0 ≤ c.n ∧ c.n ≤ 18446744073709551615
theorem time_facts {c : CmdP} (h : rightC c = true) : 0 ≤ c.time ∧ c.time ≤ 1099511627776 ∧ (hM c.k = true → c.mode = 1 ∨ c.mode = 2) := by
  unfold rightC at h
  simp only [Bool.and_eq_true, Bool.or_eq_true, Bool.not_eq_true', decide_eq_true_eq] at h
  obtain ⟨⟨⟨⟨⟨⟨⟨⟨⟨⟨⟨⟨⟨a1, a2⟩, a3⟩, a4⟩, a5⟩, a6⟩, a7⟩, a8⟩, a9⟩, b1⟩, b2⟩, b3⟩, b4⟩, b5⟩ := h
  refine ⟨b4, b5, fun h => ?_⟩
  rcases b2 with (h' | h') | h'
  · rw [h] at h'; cases h'
  · exact .inl h'
  · exact .inr h'
theorem pairN_len {nm : List UInt8} {v : Int} (h0 : nm.length ≤ 10) (h : v ≤ 18446744073709551615) : (pairN nm v).length ≤ 32 := by
  have := digC_len v h
  simp [pairN, catL]; omega
theorem nameC_len (k : Int) : (nameC k).length ≤ 7 := by
  unfold nameC
  repeat' split
  all_goals simp
theorem fields_len {c : CmdP} (hn : NumOK c) (hr : rightC c = true) (hf : c.foot.length ≤ 900000) (hp : c.path.length ≤ 900000) : ∀ y ∈ fieldsC c, y.length ≤ 900010 := by
  intro y hy
  have ht := time_facts hr
  unfold fieldsC at hy
  simp only [List.mem_append, List.mem_cons, List.not_mem_nil, or_false] at hy
  rcases hy with (((((rfl | hy) | hy) | hy) | hy) | hy) | hy
  · have := nameC_len c.k; omega
  · split at hy
    · simp only [List.mem_cons, List.not_mem_nil, or_false] at hy
      rcases hy with rfl | rfl
      · have := pairN_len (nm := [110, 117, 109]) (by decide) hn.num.2; omega
      · simp [catL]; omega
    · simp at hy
  · split at hy
    · simp at hy; subst hy
      have := pairN_len (nm := [114, 101, 113, 117, 101, 115, 116]) (by decide) hn.rq.2; omega
    · simp at hy
  · split at hy
    · simp at hy; subst hy
      simp [catL]; omega
    · simp at hy
  · split at hy
    · rename_i h
      simp at hy; subst hy
      have hm := ht.2.2 h
      have := pairN_len (nm := [109, 111, 100, 101]) (v := c.mode) (by decide) (by omega); omega
    · simp at hy
  · split at hy
    · simp at hy; subst hy
      have := pairN_len (nm := [110]) (by decide) hn.n.2; omega
    · simp at hy
  · split at hy
    · simp at hy; subst hy
      have := pairN_len (nm := [116, 105, 109, 101]) (v := c.time) (by decide) (by omega); omega
    · simp at hy
theorem fields_head (c : CmdP) : ∃ r, fieldsC c = nameC c.k :: r ∧ r.length ≤ 7 := by
  unfold fieldsC
  refine ⟨_, by simp only [List.cons_append, List.nil_append]; rfl, ?_⟩
  simp only [List.length_append]
  have l : ∀ (b : Bool) (xs : List (List UInt8)) (m : Nat), xs.length ≤ m → (if b = true then xs else []).length ≤ m := by
    intro b xs m h
    split
    · exact h
    · simp
  have h1 := l (hS c.k) [pairN [110, 117, 109] c.num, catL [102, 111, 111, 116, 61] c.foot] 2 (by simp)
  have h2 := l (hR c.k) [pairN [114, 101, 113, 117, 101, 115, 116] c.rq] 1 (by simp)
  have h3 := l (hP c.k) [catL [112, 97, 116, 104, 61] c.path] 1 (by simp)
  have h4 := l (hM c.k) [pairN [109, 111, 100, 101] c.mode] 1 (by simp)
  have h5 := l (hN c.k) [pairN [110] c.n] 1 (by simp)
  have h6 := l (hT c.k) [pairN [116, 105, 109, 101] c.time] 1 (by simp)
  omega
theorem show_done {c : CmdP} (hn : NumOK c) (hr : rightC c = true) (hf : c.foot.length ≤ 900000) (hp : c.path.length ≤ 900000) : (Lib.join (fieldsC c) [32]).length ≤ 8000000 ∧ showV c = Lib.join (fieldsC c) [32] ∧ showE c = 0 := by
  obtain ⟨r, h1, h2⟩ := fields_head c
  have h3 := fields_len hn hr hf hp
  refine ⟨?_, by unfold showV; rw [if_pos hr], by unfold showE; rw [if_pos hr]⟩
  rw [h1] at h3 ⊢
  have := join_lens 32 900010 (nameC c.k) r h3
  have h4 : (900010 + 1) * (r.length + 1) ≤ (900010 + 1) * 8 := Nat.mul_le_mul_left _ (by omega)
  omega
theorem show_not {c : CmdP} (hr : rightC c = false) : showV c = [] ∧ showE c = 10 := by
  unfold showV showE
  rw [hr]
  exact ⟨rfl, rfl⟩
theorem okWidth_all {n : Nat} {xs : List AV} (h : xs.all (fun x => Nat.beq x.cells.length n) = true) : okWidth n xs := by
  rw [List.all_eq_true] at h
  exact fun x hx => Nat.eq_of_beq_eq_true (h x hx)
theorem rightC_out' {c : CmdP} (h : ¬ (0 ≤ c.k ∧ c.k ≤ 8)) : rightC c = false := by
  have : okK c.k = false := by unfold okK; simp; omega
  simp [rightC, this]
theorem okCshowO0 : OkCshowO0 := by
  intro k num foot rq path mode n time ⟨hk, hf, hp⟩
  refine vcCshowO0 k num foot rq path mode n time ?_
  have h := rightC_out' (c := ⟨k, num, foot, rq, path, mode, n, time⟩) (by show ¬ (0 ≤ k ∧ k ≤ 8); omega)
  simp only [true_and, and_true, forall_eq, eq_self, h]
  exact ⟨⟨hf, hp⟩, trivial⟩
theorem okCshowI0 : OkCshowI0 := by
  intro k num foot rq path mode n time ⟨hk, hf, hp⟩ hh
  obtain ⟨c, hc⟩ : ∃ c : CmdP, c = ⟨k, num, foot, rq, path, mode, n, time⟩ := ⟨_, rfl⟩
  have hn : NumOK c := by rw [hc]; exact ⟨hh.1, hh.2.1, hh.2.2⟩
  have hf' : c.foot.length ≤ 900000 := by rw [hc]; exact hf
  have hp' : c.path.length ≤ 900000 := by rw [hc]; exact hp
  cases hr : rightC c with
  | false =>
    have hs := show_not hr
    rw [hc] at hr hs
    have : k = 0 ∨ k = 1 ∨ k = 2 ∨ k = 3 ∨ k = 4 ∨ k = 5 ∨ k = 6 ∨ k = 7 ∨ k = 8 := by omega
    rcases this with rfl | rfl | rfl | rfl | rfl | rfl | rfl | rfl | rfl
    · refine vcCshowK0 num foot rq path mode n time ?_; simp only [true_and, and_true, forall_eq, eq_self, hr]; exact ⟨⟨hf, hp⟩, hs⟩
    · refine vcCshowK1 num foot rq path mode n time ?_; simp only [true_and, and_true, forall_eq, eq_self, hr]; exact ⟨⟨hf, hp⟩, hs⟩
    · refine vcCshowK2 num foot rq path mode n time ?_; simp only [true_and, and_true, forall_eq, eq_self, hr]; exact ⟨⟨hf, hp⟩, hs⟩
    · refine vcCshowK3 num foot rq path mode n time ?_; simp only [true_and, and_true, forall_eq, eq_self, hr]; exact ⟨⟨hf, hp⟩, hs⟩
    · refine vcCshowK4 num foot rq path mode n time ?_; simp only [true_and, and_true, forall_eq, eq_self, hr]; exact ⟨⟨hf, hp⟩, hs⟩
    · refine vcCshowK5 num foot rq path mode n time ?_; simp only [true_and, and_true, forall_eq, eq_self, hr]; exact ⟨⟨hf, hp⟩, hs⟩
    · refine vcCshowK6 num foot rq path mode n time ?_; simp only [true_and, and_true, forall_eq, eq_self, hr]; exact ⟨⟨hf, hp⟩, hs⟩
    · refine vcCshowK7 num foot rq path mode n time ?_; simp only [true_and, and_true, forall_eq, eq_self, hr]; exact ⟨⟨hf, hp⟩, hs⟩
    · refine vcCshowK8 num foot rq path mode n time ?_; simp only [true_and, and_true, forall_eq, eq_self, hr]; exact ⟨⟨hf, hp⟩, hs⟩
  | true =>
    obtain ⟨d1, d2, d3⟩ := show_done hn hr hf' hp'
    have ht := time_facts hr
    have w1 : IntKind.u64.wrap c.time = c.time := wrap_u64 (by omega) (by omega)
    have w2 : hM c.k = true → IntKind.u64.wrap c.mode = c.mode := fun h => by have := ht.2.2 h; exact wrap_u64 (by omega) (by omega)
    have hl := fields_len hn hr hf' hp'
    rw [hc] at hr d1 d2 d3 w1 w2 hl
    simp only at w1 w2
    have : k = 0 ∨ k = 1 ∨ k = 2 ∨ k = 3 ∨ k = 4 ∨ k = 5 ∨ k = 6 ∨ k = 7 ∨ k = 8 := by omega
    rcases this with rfl | rfl | rfl | rfl | rfl | rfl | rfl | rfl | rfl
    · refine vcCshowK0 num foot rq path mode n time ?_
      simp only [true_and, and_true, forall_eq, eq_self, hr, Bool.not_true, cond_false, w1, d2, d3]
      exact ⟨⟨hf, hp⟩, by omega, tabRead 0 (by omega), ⟨rfl, by omega, by omega⟩, rfl⟩
    · refine vcCshowK1 num foot rq path mode n time ?_
      simp only [true_and, and_true, forall_eq, eq_self, hr, Bool.not_true, cond_false, w1, d2, d3, catL, List.cons_append, List.nil_append, List.length_cons, List.length_nil, List.length_append]
      and_intros
      all_goals first | omega | exact hf | exact hp | exact tabRead _ (by decide) | exact okWidth_all rfl | rfl | (refine Nat.le_trans d1 ?_; omega)
    · refine vcCshowK2 num foot rq path mode n time ?_
      simp only [true_and, and_true, forall_eq, eq_self, hr, Bool.not_true, cond_false, w1, d2, d3, catL, List.cons_append, List.nil_append, List.length_cons, List.length_nil, List.length_append]
      and_intros
      all_goals first | omega | exact hf | exact hp | exact tabRead _ (by decide) | exact okWidth_all rfl | rfl | (refine Nat.le_trans d1 ?_; omega)
    · refine vcCshowK3 num foot rq path mode n time ?_
      simp only [true_and, and_true, forall_eq, eq_self, hr, Bool.not_true, cond_false, w1, d2, d3, catL, List.cons_append, List.nil_append, List.length_cons, List.length_nil, List.length_append]
      and_intros
      all_goals first | omega | exact hf | exact hp | exact tabRead _ (by decide) | exact okWidth_all rfl | rfl | (refine Nat.le_trans d1 ?_; omega)
    · refine vcCshowK4 num foot rq path mode n time ?_
      have w3 := w2 rfl
      simp only [true_and, and_true, forall_eq, eq_self, hr, Bool.not_true, cond_false, w1, d2, d3, w3, catL, List.cons_append, List.nil_append, List.length_cons, List.length_nil, List.length_append]
      and_intros
      all_goals first | omega | exact hf | exact hp | exact tabRead _ (by decide) | exact okWidth_all rfl | rfl | (refine Nat.le_trans d1 ?_; omega)
    · refine vcCshowK5 num foot rq path mode n time ?_
      have w3 := w2 rfl
      simp only [true_and, and_true, forall_eq, eq_self, hr, Bool.not_true, cond_false, w1, d2, d3, w3, catL, List.cons_append, List.nil_append, List.length_cons, List.length_nil, List.length_append]
      and_intros
      all_goals first | omega | exact hf | exact hp | exact tabRead _ (by decide) | exact okWidth_all rfl | rfl | (refine Nat.le_trans d1 ?_; omega)
    · refine vcCshowK6 num foot rq path mode n time ?_
      simp only [true_and, and_true, forall_eq, eq_self, hr, Bool.not_true, cond_false, w1, d2, d3, catL, List.cons_append, List.nil_append, List.length_cons, List.length_nil, List.length_append]
      and_intros
      all_goals first | omega | exact hf | exact hp | exact tabRead _ (by decide) | exact okWidth_all rfl | rfl | (refine Nat.le_trans d1 ?_; omega)
    · refine vcCshowK7 num foot rq path mode n time ?_
      simp only [true_and, and_true, forall_eq, eq_self, hr, Bool.not_true, cond_false, w1, d2, d3, catL, List.cons_append, List.nil_append, List.length_cons, List.length_nil, List.length_append]
      and_intros
      all_goals first | omega | exact hf | exact hp | exact tabRead _ (by decide) | exact okWidth_all rfl | rfl | (refine Nat.le_trans d1 ?_; omega)
    · refine vcCshowK8 num foot rq path mode n time ?_
      simp only [true_and, and_true, forall_eq, eq_self, hr, Bool.not_true, cond_false, w1, d2, d3, catL, List.cons_append, List.nil_append, List.length_cons, List.length_nil, List.length_append]
      and_intros
      all_goals first | omega | exact hf | exact hp | exact tabRead _ (by decide) | exact okWidth_all rfl | rfl | (refine Nat.le_trans d1 ?_; omega)
end Go.Proofs.YtpomloangafbkaaGreatDoor
/- The contracts are met. -/
namespace Go.Proofs.YtpomloangafbkaaGreatDoor
set_option linter.unusedVariables false
set_option linter.unusedSimpArgs false
open Go.RowKit
theorem sndPairC : Sound Tryz.prog (lookΓ gamPairC) := sound_of _ fun p hp => by
  simp only [gamPairC, List.mem_cons, List.not_mem_nil, or_false] at hp
  subst hp
  exact meetsFmt.orNil
set_option maxHeartbeats 4000000 in
theorem meetsPairC : Meets Tryz.prog 38 pairCF := by
  refine meets_of_awp (Γ := lookΓ gamPairC) (L := fun _ _ => none) sndPairC mixedOrders Tryz.func38 rfl Tryz.call38 ?_
  intro args q r hF hq ho
  unfold pairCF at hF
  split at hF
  · cases hF
    exact ⟨by simp only [List.length_cons, List.length_nil]; decide, okPairC0 _ _ hq (okay_u64 (argI 1 ho rfl rfl))⟩
  · cases hF
theorem sndKind : Sound Tryz.prog (lookΓ gamKind) := sound_of _ fun p hp => by
  simp [gamKind] at hp
set_option maxHeartbeats 4000000 in
theorem meetsKind : Meets Tryz.prog 77 kindF := by
  refine meets_of_awp (Γ := lookΓ gamKind) (L := fun args => match args with | [.val (.str t)] => lpKind0 t | _ => fun _ => none) sndKind mixedOrders Tryz.func77 rfl Tryz.call77 ?_
  intro args q r hF hq ho
  unfold kindF at hF
  split at hF
  · cases hF
    exact ⟨by simp only [List.length_cons, List.length_nil]; decide, okKind0 _ hq⟩
  · cases hF
theorem sndSetF : Sound Tryz.prog (lookΓ gamSetF) := sound_of _ fun p hp => by
  simp only [gamSetF, List.mem_cons, List.not_mem_nil, or_false] at hp
  rcases hp with rfl | rfl
  · exact meetsCutS.orNil
  · exact meetsPu.orNil
set_option maxHeartbeats 4000000 in
theorem meetsSetF : Meets Tryz.prog 78 setFF := by
  refine meets_of_awp (Γ := lookΓ gamSetF) (L := fun _ _ => none) sndSetF mixedOrders Tryz.func78 rfl Tryz.call78 ?_
  intro args q r hF hq ho
  unfold setFF at hF
  split at hF
  · cases hF
    exact ⟨by simp only [List.length_cons, List.length_nil]; decide, okSetF1 _ _ _ _ _ _ _ _ _ hq⟩
  · cases hF
theorem sndCshowO : Sound Tryz.prog (lookΓ gamCshowO) := sound_of _ fun p hp => by
  simp only [gamCshowO, List.mem_cons, List.not_mem_nil, or_false] at hp
  rcases hp with rfl | rfl
  · exact meetsHad.orNil
  · exact meetsCright.orNil
set_option maxHeartbeats 4000000 in
theorem meetsCshowO : Meets Tryz.prog 13 cshowOF := by
  refine meets_of_awp (Γ := lookΓ gamCshowO) (L := fun _ _ => none) sndCshowO mixedOrders Tryz.func13 rfl Tryz.call13 ?_
  intro args q r hF hq ho
  unfold cshowOF at hF
  split at hF
  · cases hF
    exact ⟨by simp only [List.length_cons, List.length_nil]; decide, okCshowO0 _ _ _ _ _ _ _ _ hq⟩
  · cases hF
theorem sndCshowI : Sound Tryz.prog (lookΓ gamCshowI) := sound_of _ fun p hp => by
  simp only [gamCshowI, List.mem_cons, List.not_mem_nil, or_false] at hp
  rcases hp with rfl | rfl | rfl | rfl
  · exact meetsHad.orNil
  · exact meetsCright.orNil
  · exact meetsPairC.orNil
  · exact meetsJoinS.orNil
set_option maxHeartbeats 4000000 in
theorem meetsCshowI : Meets Tryz.prog 13 cshowIF := by
  refine meets_of_awp (Γ := lookΓ gamCshowI) (L := fun _ _ => none) sndCshowI mixedOrders Tryz.func13 rfl Tryz.call13 ?_
  intro args q r hF hq ho
  unfold cshowIF at hF
  split at hF
  · cases hF
    exact ⟨by simp only [List.length_cons, List.length_nil]; decide, okCshowI0 _ _ _ _ _ _ _ _ hq (⟨okay_u64 (argA 0 1 ho rfl rfl), okay_u64 (argA 0 3 ho rfl rfl), okay_u64 (argA 0 6 ho rfl rfl)⟩)⟩
  · cases hF
end Go.Proofs.YtpomloangafbkaaGreatDoor
