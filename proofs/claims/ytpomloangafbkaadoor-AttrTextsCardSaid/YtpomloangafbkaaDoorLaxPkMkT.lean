/- Contracts by content, their conditions, and that they are met: MkT. -/
import Derived.Test.YtpomloangafbkaaDoorLaxStr
import Derived.Test.YtpomloangafbkaaDoorLaxPkIoA
import Derived.Test.YtpomloangafbkaaDoorLaxWrap
import Derived.Test.YtpomloangafbkaaDoorDigP
/- Contracts by content, and the conditions that their code must meet. -/
namespace Go.Proofs.YtpomloangafbkaaDoor
set_option linter.unusedVariables false
set_option linter.unusedSimpArgs false
open Go.RowKit
def pairL (a b : Int) : List UInt8 := catL (catL (Lib.itoa a) [46]) (Lib.itoa b)
def numA (s : List UInt8) : Int := atoiV (Lib.cut s [46]).1
def numB (s : List UInt8) : Int := atoiV (Lib.cut s [46]).2.1
def numK (s : List UInt8) : Bool := pairL (numA s) (numB s) == s
def idShowV (r n : Int) : List UInt8 := if rightId r n then pairL r n else []
def idShowE (r n : Int) : Int := if rightId r n then 0 else 12
def ridE (s : List UInt8) : Int := if numK s then (if rightId (numA s) (numB s) then 0 else 12) else 10
def ridR (s : List UInt8) : Int := if ridE s = 0 then numA s else 0
def ridS (s : List UInt8) : Int := if ridE s = 0 then numB s else 0
def balShowV (b : Int) : List UInt8 := if balOK b then pairL (b / 8) (b % 8) else []
def balShowE (b : Int) : Int := if balOK b then 0 else 60
def rbalE (s : List UInt8) : Int := if numK s then (if numA s < 0 ∨ 16777216 ≤ numA s ∨ numB s < 0 ∨ 6 < numB s then 60 else if balOK (numA s * 8 + numB s) then 0 else 60) else 10
def rbalV (s : List UInt8) : Int := if rbalE s = 0 then numA s * 8 + numB s else 0
def digL (v : Int) : List UInt8 := Lib.decDigits v.toNat
def pair6 (a b : Int) : List UInt8 := catL (catL (digL a) [46]) (digL b)
def loopDig (v : Int) : LoopInv :=
  { V := Int × List UInt8
    T := fun p => [(0, .int .u64 p.1), (3, .str p.2)]
    B := fun p => []
    R := fun p => []
    inv := fun p => 0 ≤ p.1 ∧ p.1 ≤ v ∧ digL v = digL p.1 ++ p.2
    mu := fun p => p.1.toNat }
def pairF : Con
  | [.val (.int .i64 a), .val (.int .i64 b)] => (some (True, ⟨.str (pairL a b), none, none⟩))
  | _ => none
def gamPair : List (Nat × Con) := [(39, itoaF.orNil)]
def lpPair0 (a b : Int) : Nat → Option LoopPlan := fun _ => none
def inPair0 (a b : Int) : Prop := awp [] (lpPair0 a b) (lookΓ gamPair) Tryd.prog Tryd.f33.ntmps 0 (Tryd.f33.body.getD .skip) (entrySt [.val (.int .i64 a), .val (.int .i64 b)]) (exitQ Tryd.prog Tryd.f33.results.toList [] ⟨.str (pairL a b), none, none⟩)
def OkPair0 : Prop := ∀ (a b : Int), True → ((-9223372036854775808 ≤ a ∧ a ≤ 9223372036854775807) ∧ (-9223372036854775808 ≤ b ∧ b ≤ 9223372036854775807)) → inPair0 a b
def numbersF : Con
  | [.val (.str s)] => (some (s.length ≤ 100000000, ⟨.tup [.int .i64 (numA s), .int .i64 (numB s), .bool (numK s)], none, none⟩))
  | _ => none
def gamNumbers : List (Nat × Con) := [(41, cutSF.orNil), (42, atoiF.orNil), (33, pairF.orNil)]
def lpNumbers0 (s : List UInt8) : Nat → Option LoopPlan := fun _ => none
def inNumbers0 (s : List UInt8) : Prop := awp [] (lpNumbers0 s) (lookΓ gamNumbers) Tryd.prog Tryd.f29.ntmps 0 (Tryd.f29.body.getD .skip) (entrySt [.val (.str s)]) (exitQ Tryd.prog Tryd.f29.results.toList [] ⟨.tup [.int .i64 (numA s), .int .i64 (numB s), .bool (numK s)], none, none⟩)
def OkNumbers0 : Prop := ∀ (s : List UInt8), s.length ≤ 100000000 → inNumbers0 s
def idShowF : Con
  | [.val (.agg [.int .i64 r, .int .i64 n])] => (some (True, ⟨.tup [.str (idShowV r n), .int .i64 (idShowE r n)], none, none⟩))
  | _ => none
def gamIdShow : List (Nat × Con) := [(30, idRightF.orNil), (33, pairF.orNil)]
def lpIdShow0 (r n : Int) : Nat → Option LoopPlan := fun _ => none
def inIdShow0 (r n : Int) : Prop := awp [] (lpIdShow0 r n) (lookΓ gamIdShow) Tryd.prog Tryd.f14.ntmps 0 (Tryd.f14.body.getD .skip) (entrySt [.val (.agg [.int .i64 r, .int .i64 n])]) (exitQ Tryd.prog Tryd.f14.results.toList [] ⟨.tup [.str (idShowV r n), .int .i64 (idShowE r n)], none, none⟩)
def OkIdShow0 : Prop := ∀ (r n : Int), True → inIdShow0 r n
def readIDF : Con
  | [.val (.str s)] => (some (s.length ≤ 100000000, ⟨.tup [.agg [.int .i64 (ridR s), .int .i64 (ridS s)], .int .i64 (ridE s)], none, none⟩))
  | _ => none
def gamReadID : List (Nat × Con) := [(29, numbersF.orNil), (30, idRightF.orNil)]
def lpReadID0 (s : List UInt8) : Nat → Option LoopPlan := fun _ => none
def inReadID0 (s : List UInt8) : Prop := awp [] (lpReadID0 s) (lookΓ gamReadID) Tryd.prog Tryd.f9.ntmps 0 (Tryd.f9.body.getD .skip) (entrySt [.val (.str s)]) (exitQ Tryd.prog Tryd.f9.results.toList [] ⟨.tup [.agg [.int .i64 (ridR s), .int .i64 (ridS s)], .int .i64 (ridE s)], none, none⟩)
def OkReadID0 : Prop := ∀ (s : List UInt8), s.length ≤ 100000000 → inReadID0 s
def balShowF : Con
  | [.val (.int .u32 b)] => (some (True, ⟨.tup [.str (balShowV b), .int .i64 (balShowE b)], none, none⟩))
  | _ => none
def gamBalShow : List (Nat × Con) := [(31, balRightF.orNil), (34, balRoundF.orNil), (35, balRepF.orNil), (33, pairF.orNil)]
def lpBalShow0 (b : Int) : Nat → Option LoopPlan := fun _ => none
def inBalShow0 (b : Int) : Prop := awp [] (lpBalShow0 b) (lookΓ gamBalShow) Tryd.prog Tryd.f15.ntmps 0 (Tryd.f15.body.getD .skip) (entrySt [.val (.int .u32 b)]) (exitQ Tryd.prog Tryd.f15.results.toList [] ⟨.tup [.str (balShowV b), .int .i64 (balShowE b)], none, none⟩)
def OkBalShow0 : Prop := ∀ (b : Int), True → (0 ≤ b ∧ b ≤ 4294967295) → inBalShow0 b
def readBalF : Con
  | [.val (.str s)] => (some (s.length ≤ 100000000, ⟨.tup [.int .u32 (rbalV s), .int .i64 (rbalE s)], none, none⟩))
  | _ => none
def gamReadBal : List (Nat × Con) := [(29, numbersF.orNil), (31, balRightF.orNil)]
def lpReadBal0 (s : List UInt8) : Nat → Option LoopPlan := fun _ => none
def inReadBal0 (s : List UInt8) : Prop := awp [] (lpReadBal0 s) (lookΓ gamReadBal) Tryd.prog Tryd.f10.ntmps 0 (Tryd.f10.body.getD .skip) (entrySt [.val (.str s)]) (exitQ Tryd.prog Tryd.f10.results.toList [] ⟨.tup [.int .u32 (rbalV s), .int .i64 (rbalE s)], none, none⟩)
def OkReadBal0 : Prop := ∀ (s : List UInt8), s.length ≤ 100000000 → inReadBal0 s
def digits6F : Con
  | [.val (.int .u64 v)] => (some (True, ⟨.str (digL v), none, none⟩))
  | _ => none
def gamDigits6 : List (Nat × Con) := []
def lpDigits60 (v : Int) : Nat → Option LoopPlan := fun b => bif Nat.beq b 0 then some (.inv [] (loopDig v)) else none
def inDigits60 (v : Int) : Prop := awp [] (lpDigits60 v) (lookΓ gamDigits6) Tryd.prog Tryd.f32.ntmps 0 (Tryd.f32.body.getD .skip) (entrySt [.val (.int .u64 v)]) (exitQ Tryd.prog Tryd.f32.results.toList [] ⟨.str (digL v), none, none⟩)
def OkDigits60 : Prop := ∀ (v : Int), True → (0 ≤ v ∧ v ≤ 18446744073709551615) → inDigits60 v
def pair06F : Con
  | [.val (.int .u64 a), .val (.int .u64 b)] => (some (True, ⟨.str (pair6 a b), none, none⟩))
  | _ => none
def gamPair06 : List (Nat × Con) := [(32, digits6F.orNil)]
def lpPair060 (a b : Int) : Nat → Option LoopPlan := fun _ => none
def inPair060 (a b : Int) : Prop := awp [] (lpPair060 a b) (lookΓ gamPair06) Tryd.prog Tryd.f12.ntmps 0 (Tryd.f12.body.getD .skip) (entrySt [.val (.int .u64 a), .val (.int .u64 b)]) (exitQ Tryd.prog Tryd.f12.results.toList [] ⟨.str (pair6 a b), none, none⟩)
def OkPair060 : Prop := ∀ (a b : Int), True → ((0 ≤ a ∧ a ≤ 18446744073709551615) ∧ (0 ≤ b ∧ b ≤ 18446744073709551615)) → inPair060 a b
def balNextF : Con
  | [.val (.int .u32 b), .val (.int .i64 r)] => (some ((b = 0 ∧ r = 2) ∨ (b = 10 ∧ r = 0), ⟨.tup [.int .u32 (if b = 0 then 10 else 16), .int .i64 0], none, none⟩))
  | _ => none
def gamBalNext : List (Nat × Con) := [(34, balRoundF.orNil)]
def lpBalNext0 (b r : Int) : Nat → Option LoopPlan := fun _ => none
def inBalNext0 (b r : Int) : Prop := awp [] (lpBalNext0 b r) (lookΓ gamBalNext) Tryd.prog Tryd.f28.ntmps 0 (Tryd.f28.body.getD .skip) (entrySt [.val (.int .u32 b), .val (.int .i64 r)]) (exitQ Tryd.prog Tryd.f28.results.toList [] ⟨.tup [.int .u32 (if b = 0 then 10 else 16), .int .i64 0], none, none⟩)
def OkBalNext0 : Prop := ∀ (b r : Int), (b = 0 ∧ r = 2) ∨ (b = 10 ∧ r = 0) → inBalNext0 b r
def anchor6F : Con
  | [] => (some (True, ⟨.bool true, none, none⟩))
  | _ => none
def gamAnchor6 : List (Nat × Con) := [(28, balNextF.orNil)]
def lpAnchor60  : Nat → Option LoopPlan := fun _ => none
def inAnchor60  : Prop := awp [] (lpAnchor60) (lookΓ gamAnchor6) Tryd.prog Tryd.f8.ntmps 0 (Tryd.f8.body.getD .skip) (entrySt []) (exitQ Tryd.prog Tryd.f8.results.toList [] ⟨.bool true, none, none⟩)
def OkAnchor60 : Prop := True → inAnchor60
def lawTextsF : Con
  | [.val (.agg [.int .i64 r, .int .i64 n]), .val (.int .u32 b)] => (some (True, ⟨.bool true, none, none⟩))
  | _ => none
def gamLawTexts : List (Nat × Con) := [(8, anchor6F.orNil), (14, idShowF.orNil), (11, refIdRightF.orNil), (9, readIDF.orNil), (12, pair06F.orNil), (15, balShowF.orNil), (13, refBalF.orNil), (10, readBalF.orNil)]
def lpLawTexts0 (r n b : Int) : Nat → Option LoopPlan := fun _ => none
def inLawTexts0 (r n b : Int) : Prop := awp [] (lpLawTexts0 r n b) (lookΓ gamLawTexts) Tryd.prog Tryd.f4.ntmps 0 (Tryd.f4.body.getD .skip) (entrySt [.val (.agg [.int .i64 r, .int .i64 n]), .val (.int .u32 b)]) (exitQ Tryd.prog Tryd.f4.results.toList [] ⟨.bool true, none, none⟩)
def OkLawTexts0 : Prop := ∀ (r n b : Int), True → (0 ≤ b ∧ b ≤ 4294967295) → inLawTexts0 r n b
def lawReadsF : Con
  | [.val (.str s)] => (some (s.length ≤ 9223372036854775807, ⟨.bool true, none, none⟩))
  | _ => none
def gamLawReads : List (Nat × Con) := [(8, anchor6F.orNil), (9, readIDF.orNil), (10, readBalF.orNil), (11, refIdRightF.orNil), (13, refBalF.orNil), (12, pair06F.orNil)]
def lpLawReads0 (s : List UInt8) : Nat → Option LoopPlan := fun _ => none
def inLawReads0 (s : List UInt8) : Prop := awp [] (lpLawReads0 s) (lookΓ gamLawReads) Tryd.prog Tryd.f3.ntmps 0 (Tryd.f3.body.getD .skip) (entrySt [.val (.str s)]) (exitQ Tryd.prog Tryd.f3.results.toList [] ⟨.bool true, none, none⟩)
def OkLawReads0 : Prop := ∀ (s : List UInt8), s.length ≤ 9223372036854775807 → inLawReads0 s
end Go.Proofs.YtpomloangafbkaaDoor
/- What the verification conditions come to: printed by a program of ours (wip/lax/ex/Norm.lean). -/
namespace Go.Proofs.YtpomloangafbkaaDoor
set_option linter.unusedVariables false
open Go.RowKit
set_option maxRecDepth 100000
theorem vcPair0 (a : Int) (b : Int) (h : (tt ∧ T1 ∧ tt ∧ T1 ∧ (T1 ∧ True) ∧ ∀ v0 : (List UInt8), (v0 = (Go.Lib.itoa a)) → ((List.length v0) + 1) ≤ 9223372036854775807 ∧ T1 ∧ (T1 ∧ True) ∧ ∀ v2 : (List UInt8), (v2 = (Go.Lib.itoa b)) → ((List.length (@catL UInt8 v0 [(46 : UInt8)])) + (List.length v2)) ≤ 9223372036854775807 ∧ T1 ∧ tt ∧ tt ∧ ((pairL a b) = (@catL UInt8 (@catL UInt8 v0 [(46 : UInt8)]) v2) ∧ True) ∧ tt)) : inPair0 a b :=
  Eq.mp (show _ = _ by kernel_rfl) h
theorem vcNumbers0 (s : (List UInt8)) (h : (tt ∧ T1 ∧ T1 ∧ T1 ∧ tt ∧ T1 ∧ (T1 ∧ (List.length s) < 4294967281) ∧ ∀ v0 : (List UInt8), (v0 = (Go.Lib.cut s [(46 : UInt8)]).1) → ∀ v2 : (List UInt8), (v2 = (Go.Lib.cut s [(46 : UInt8)]).2.1) → T1 ∧ T1 ∧ T1 ∧ T1 ∧ T1 ∧ T1 ∧ T1 ∧ tt ∧ T1 ∧ (T1 ∧ (List.length v0) ≤ 281474976710656) ∧ ∀ v4 : Int, (v4 = (atoiV v0)) → T1 ∧ T1 ∧ T1 ∧ T1 ∧ tt ∧ T1 ∧ (T1 ∧ (List.length v2) ≤ 281474976710656) ∧ ∀ v6 : Int, (v6 = (atoiV v2)) → T1 ∧ T1 ∧ T1 ∧ T1 ∧ tt ∧ T1 ∧ T1 ∧ T1 ∧ T1 ∧ (T1 ∧ True) ∧ ∀ v8 : (List UInt8), (v8 = (pairL v4 v6)) → T1 ∧ T1 ∧ T1 ∧ T1 ∧ T1 ∧ tt ∧ tt ∧ ((numA s) = v4 ∧ (numB s) = v6 ∧ (numK s) = (@BEq.beq.{0} (List UInt8) (@List.instBEq.{0} UInt8 (@instBEqOfDecidableEq.{0} UInt8 instDecidableEqUInt8)) v8 s) ∧ True) ∧ tt)) : inNumbers0 s :=
  Eq.mp (show _ = _ by kernel_rfl) h
theorem vcIdShow0 (r : Int) (n : Int) (h : (tt ∧ T1 ∧ T1 ∧ T1 ∧ tt ∧ tt ∧ (T1 ∧ True) ∧ T1 ∧ (bif (Bool.not (rightId r n)) then (tt ∧ T1 ∧ T1 ∧ tt ∧ tt ∧ ((idShowV r n) = [] ∧ (idShowE r n) = 12 ∧ True) ∧ tt) else (tt ∧ T1 ∧ tt ∧ T1 ∧ tt ∧ (T1 ∧ True) ∧ ∀ v0 : (List UInt8), (v0 = (pairL r n)) → T1 ∧ T1 ∧ tt ∧ tt ∧ ((idShowV r n) = v0 ∧ (idShowE r n) = 0 ∧ True) ∧ tt)))) : inIdShow0 r n :=
  Eq.mp (show _ = _ by kernel_rfl) h
theorem vcReadID0 (s : (List UInt8)) (h : (tt ∧ T1 ∧ T1 ∧ tt ∧ T1 ∧ (T1 ∧ (List.length s) ≤ 100000000) ∧ ∀ v0 : Int, (v0 = (numA s)) → ∀ v2 : Int, (v2 = (numB s)) → T1 ∧ T1 ∧ T1 ∧ T1 ∧ T1 ∧ T1 ∧ T1 ∧ tt ∧ T1 ∧ T1 ∧ T1 ∧ T1 ∧ tt ∧ tt ∧ T1 ∧ T1 ∧ T1 ∧ (bif (Bool.not (numK s)) then (tt ∧ T1 ∧ tt ∧ T1 ∧ tt ∧ tt ∧ ((ridR s) = 0 ∧ (ridS s) = 0 ∧ (ridE s) = 10 ∧ True) ∧ tt) else (tt ∧ tt ∧ (T1 ∧ True) ∧ T1 ∧ T1 ∧ (bif (Bool.not (rightId v0 v2)) then (tt ∧ T1 ∧ tt ∧ T1 ∧ tt ∧ tt ∧ ((ridR s) = 0 ∧ (ridS s) = 0 ∧ (ridE s) = 12 ∧ True) ∧ tt) else (tt ∧ tt ∧ tt ∧ T1 ∧ tt ∧ tt ∧ ((ridR s) = v0 ∧ (ridS s) = v2 ∧ (ridE s) = 0 ∧ True) ∧ tt)))))) : inReadID0 s :=
  Eq.mp (show _ = _ by kernel_rfl) h
theorem vcBalShow0 (b : Int) (h : (tt ∧ T1 ∧ T1 ∧ tt ∧ T1 ∧ (T1 ∧ True) ∧ T1 ∧ (bif (Bool.not (balOK b)) then (tt ∧ T1 ∧ T1 ∧ tt ∧ tt ∧ ((balShowV b) = [] ∧ (balShowE b) = 60 ∧ True) ∧ tt) else (tt ∧ T1 ∧ (T1 ∧ True) ∧ ∀ v0 : Int, (v0 = (@HDiv.hDiv.{0, 0, 0} Int Int Int (@instHDiv.{0} Int Int.instDiv) b (8 : Int))) → T1 ∧ (T1 ∧ True) ∧ ∀ v2 : Int, (v2 = (@HMod.hMod.{0, 0, 0} Int Int Int (@instHMod.{0} Int Int.instMod) b (8 : Int))) → (T1 ∧ True) ∧ ∀ v4 : (List UInt8), (v4 = (pairL v0 v2)) → T1 ∧ T1 ∧ tt ∧ tt ∧ ((balShowV b) = v4 ∧ (balShowE b) = 0 ∧ True) ∧ tt)))) : inBalShow0 b :=
  Eq.mp (show _ = _ by kernel_rfl) h
theorem vcReadBal0 (s : (List UInt8)) (h : (tt ∧ T1 ∧ T1 ∧ tt ∧ T1 ∧ (T1 ∧ (List.length s) ≤ 100000000) ∧ ∀ v0 : Int, (v0 = (numA s)) → ∀ v2 : Int, (v2 = (numB s)) → T1 ∧ T1 ∧ T1 ∧ T1 ∧ T1 ∧ T1 ∧ T1 ∧ tt ∧ T1 ∧ T1 ∧ T1 ∧ (bif (Bool.not (numK s)) then (tt ∧ T1 ∧ T1 ∧ tt ∧ tt ∧ ((rbalV s) = 0 ∧ (rbalE s) = 10 ∧ True) ∧ tt) else (tt ∧ T1 ∧ T1 ∧ T1 ∧ (bif (decide (v0 < 0)) then (tt ∧ T1 ∧ tt ∧ T1 ∧ tt ∧ T1 ∧ tt ∧ T1 ∧ T1 ∧ tt ∧ tt ∧ ((rbalV s) = 0 ∧ (rbalE s) = 60 ∧ True) ∧ tt) else (T1 ∧ T1 ∧ T1 ∧ T1 ∧ (bif (decide ((16777216 : Int) ≤ v0)) then (tt ∧ T1 ∧ tt ∧ T1 ∧ tt ∧ T1 ∧ T1 ∧ tt ∧ tt ∧ ((rbalV s) = 0 ∧ (rbalE s) = 60 ∧ True) ∧ tt) else (T1 ∧ T1 ∧ T1 ∧ T1 ∧ (bif (decide (v2 < 0)) then (tt ∧ T1 ∧ tt ∧ T1 ∧ T1 ∧ tt ∧ tt ∧ ((rbalV s) = 0 ∧ (rbalE s) = 60 ∧ True) ∧ tt) else (T1 ∧ T1 ∧ T1 ∧ T1 ∧ (bif (decide ((6 : Int) < v2)) then (tt ∧ T1 ∧ T1 ∧ tt ∧ tt ∧ ((rbalV s) = 0 ∧ (rbalE s) = 60 ∧ True) ∧ tt) else (tt ∧ T1 ∧ T1 ∧ (0 : Int) ≤ (3 : Int) ∧ T1 ∧ T1 ∧ T1 ∧ T1 ∧ tt ∧ T1 ∧ (T1 ∧ True) ∧ T1 ∧ (bif (Bool.not (balOK (intBits Go.BinOp.or IntKind.u32 (IntKind.wrap IntKind.u32 ((IntKind.wrap IntKind.u32 v0) * (8 : Int))) (IntKind.wrap IntKind.u32 v2)))) then (tt ∧ T1 ∧ T1 ∧ tt ∧ tt ∧ ((rbalV s) = 0 ∧ (rbalE s) = 60 ∧ True) ∧ tt) else (tt ∧ T1 ∧ T1 ∧ T1 ∧ tt ∧ tt ∧ ((rbalV s) = (intBits Go.BinOp.or IntKind.u32 (IntKind.wrap IntKind.u32 ((IntKind.wrap IntKind.u32 v0) * (8 : Int))) (IntKind.wrap IntKind.u32 v2)) ∧ (rbalE s) = 0 ∧ True) ∧ tt)))))))))))))) : inReadBal0 s :=
  Eq.mp (show _ = _ by kernel_rfl) h
theorem vcDigits60 (v : Int) (h : (tt ∧ T1 ∧ tt ∧ T1 ∧ (@Exists.{1} (loopDig v).V (fun (v0 : (@Prod.{0, 0} Int (List UInt8))) => ((((AV.int IntKind.u64 v) = (AV.int IntKind.u64 v0.1) ∧ (AV.str []) = (AV.str v0.2) ∧ True) ∧ T1 ∧ T1 ∧ tt ∧ tt) ∧ (0 : Int) ≤ v0.1 ∧ v0.1 ≤ v ∧ (digL v) = (@List.append.{0} UInt8 (digL v0.1) v0.2)))) ∧ ∀ v0 : (@Prod.{0, 0} Int (List UInt8)), ((0 : Int) ≤ v0.1 ∧ v0.1 ≤ v ∧ (digL v) = (@List.append.{0} UInt8 (digL v0.1) v0.2)) → tt ∧ T1 ∧ (@Ne.{1} Int (10 : Int) (0 : Int)) ∧ T1 ∧ T1 ∧ T1 ∧ (isBytes [(AV.int IntKind.u8 (IntKind.wrap IntKind.u8 (IntKind.wrap IntKind.u64 ((48 : Int) + (Int.tmod v0.1 10)))))]) ∧ T1 ∧ ((List.length (bytesL [(AV.int IntKind.u8 (IntKind.wrap IntKind.u8 (IntKind.wrap IntKind.u64 ((48 : Int) + (Int.tmod v0.1 10)))))])) + (List.length v0.2)) ≤ 9223372036854775807 ∧ T1 ∧ tt ∧ T1 ∧ (@Ne.{1} Int (10 : Int) (0 : Int)) ∧ T1 ∧ tt ∧ T1 ∧ T1 ∧ (bif ((IntKind.wrap IntKind.u64 (Int.tdiv v0.1 10)) == 0) then (tt ∧ T1 ∧ T1 ∧ tt ∧ tt ∧ ((digL v) = (@catL UInt8 (bytesL [(AV.int IntKind.u8 (IntKind.wrap IntKind.u8 (IntKind.wrap IntKind.u64 ((48 : Int) + (Int.tmod v0.1 10)))))]) v0.2) ∧ True) ∧ tt) else (@Exists.{1} (loopDig v).V (fun (v2 : (@Prod.{0, 0} Int (List UInt8))) => ((((AV.int IntKind.u64 (IntKind.wrap IntKind.u64 (Int.tdiv v0.1 10))) = (AV.int IntKind.u64 v2.1) ∧ (AV.str (@catL UInt8 (bytesL [(AV.int IntKind.u8 (IntKind.wrap IntKind.u8 (IntKind.wrap IntKind.u64 ((48 : Int) + (Int.tmod v0.1 10)))))]) v0.2)) = (AV.str v2.2) ∧ True) ∧ T1 ∧ T1 ∧ tt ∧ tt) ∧ ((0 : Int) ≤ v2.1 ∧ v2.1 ≤ v ∧ (digL v) = (@List.append.{0} UInt8 (digL v2.1) v2.2)) ∧ (Int.toNat v2.1) < (Int.toNat v0.1))))))) : inDigits60 v :=
  Eq.mp (show _ = _ by kernel_rfl) h
theorem vcPair060 (a : Int) (b : Int) (h : (tt ∧ T1 ∧ tt ∧ T1 ∧ (T1 ∧ True) ∧ ∀ v0 : (List UInt8), (v0 = (digL a)) → ((List.length v0) + 1) ≤ 9223372036854775807 ∧ T1 ∧ (T1 ∧ True) ∧ ∀ v2 : (List UInt8), (v2 = (digL b)) → ((List.length (@catL UInt8 v0 [(46 : UInt8)])) + (List.length v2)) ≤ 9223372036854775807 ∧ T1 ∧ tt ∧ tt ∧ ((pair6 a b) = (@catL UInt8 (@catL UInt8 v0 [(46 : UInt8)]) v2) ∧ True) ∧ tt)) : inPair060 a b :=
  Eq.mp (show _ = _ by kernel_rfl) h
theorem vcBalNext0 (b : Int) (r : Int) (h : (tt ∧ T1 ∧ T1 ∧ tt ∧ T1 ∧ T1 ∧ T1 ∧ (bif (decide (r < 0)) then (tt ∧ T1 ∧ tt ∧ T1 ∧ T1 ∧ tt ∧ tt ∧ ((@ite.{1} Int (b = 0) (@Int.instDecidableEq b (0 : Int)) (10 : Int) (16 : Int)) = 0 ∧ (0 : Int) = 12 ∧ True) ∧ tt) else (T1 ∧ T1 ∧ T1 ∧ T1 ∧ (bif (decide ((6 : Int) < r)) then (tt ∧ T1 ∧ T1 ∧ tt ∧ tt ∧ ((@ite.{1} Int (b = 0) (@Int.instDecidableEq b (0 : Int)) (10 : Int) (16 : Int)) = 0 ∧ (0 : Int) = 12 ∧ True) ∧ tt) else (tt ∧ T1 ∧ (T1 ∧ True) ∧ ∀ v0 : Int, (v0 = (@HDiv.hDiv.{0, 0, 0} Int Int Int (@instHDiv.{0} Int Int.instDiv) b (8 : Int))) → T1 ∧ T1 ∧ (bif (decide ((16777215 : Int) ≤ v0)) then (tt ∧ T1 ∧ T1 ∧ tt ∧ tt ∧ ((@ite.{1} Int (b = 0) (@Int.instDecidableEq b (0 : Int)) (10 : Int) (16 : Int)) = 0 ∧ (0 : Int) = 60 ∧ True) ∧ tt) else (tt ∧ T1 ∧ (T1 ∧ True) ∧ ∀ v2 : Int, (v2 = (@HDiv.hDiv.{0, 0, 0} Int Int Int (@instHDiv.{0} Int Int.instDiv) b (8 : Int))) → T1 ∧ T1 ∧ (0 : Int) ≤ (3 : Int) ∧ T1 ∧ T1 ∧ T1 ∧ T1 ∧ T1 ∧ tt ∧ tt ∧ ((@ite.{1} Int (b = 0) (@Int.instDecidableEq b (0 : Int)) (10 : Int) (16 : Int)) = (intBits Go.BinOp.or IntKind.u32 (IntKind.wrap IntKind.u32 ((IntKind.wrap IntKind.u32 (IntKind.wrap IntKind.i64 (v2 + (1 : Int)))) * (8 : Int))) (IntKind.wrap IntKind.u32 r)) ∧ (0 : Int) = 0 ∧ True) ∧ tt)))))))) : inBalNext0 b r :=
  Eq.mp (show _ = _ by kernel_rfl) h
theorem vcAnchor60 (h : (tt ∧ T1 ∧ tt ∧ (T1 ∧ (Or ((0 : Int) = 0 ∧ (2 : Int) = 2) ((0 : Int) = 10 ∧ (2 : Int) = 0))) ∧ ∀ v0 : Int, (v0 = 10) → ∀ v2 : Int, (v2 = 0) → T1 ∧ T1 ∧ T1 ∧ T1 ∧ T1 ∧ tt ∧ T1 ∧ (T1 ∧ (Or (v0 = 0 ∧ (0 : Int) = 2) (v0 = 10 ∧ (0 : Int) = 0))) ∧ ∀ v4 : Int, (v4 = (@ite.{1} Int (v0 = 0) (@Int.instDecidableEq v0 (0 : Int)) (10 : Int) (16 : Int))) → ∀ v6 : Int, (v6 = 0) → T1 ∧ T1 ∧ T1 ∧ T1 ∧ T1 ∧ tt ∧ T1 ∧ T1 ∧ T1 ∧ (bif (v0 == 10) then (T1 ∧ T1 ∧ T1 ∧ T1 ∧ (bif (v4 == 16) then (T1 ∧ T1 ∧ T1 ∧ T1 ∧ (bif (v2 == 0) then (T1 ∧ T1 ∧ T1 ∧ T1 ∧ tt ∧ tt ∧ (true = (v6 == 0) ∧ True) ∧ tt) else (false = false ∧ T1 ∧ tt ∧ tt ∧ (true = false ∧ True) ∧ tt))) else (false = false ∧ T1 ∧ false = false ∧ T1 ∧ tt ∧ tt ∧ (true = false ∧ True) ∧ tt))) else (false = false ∧ T1 ∧ false = false ∧ T1 ∧ false = false ∧ T1 ∧ tt ∧ tt ∧ (true = false ∧ True) ∧ tt)))) : inAnchor60 :=
  Eq.mp (show _ = _ by kernel_rfl) h
theorem vcLawTexts0 (r : Int) (n : Int) (b : Int) (h : let q0 := (pair6 (IntKind.wrap IntKind.u64 (Int.tdiv (IntKind.wrap IntKind.u64 b) 8)) (Int.tmod (IntKind.wrap IntKind.u64 b) 8)); (tt ∧ T1 ∧ T1 ∧ tt ∧ (T1 ∧ True) ∧ T1 ∧ tt ∧ tt ∧ (T1 ∧ True) ∧ ∀ v0 : (List UInt8), (v0 = (idShowV r n)) → ∀ v2 : Int, (v2 = (idShowE r n)) → T1 ∧ T1 ∧ T1 ∧ T1 ∧ T1 ∧ tt ∧ tt ∧ (T1 ∧ True) ∧ (bif (rightId r n) then (tt ∧ T1 ∧ (T1 ∧ (List.length v0) ≤ 100000000) ∧ ∀ v4 : Int, (v4 = (ridR v0)) → ∀ v6 : Int, (v6 = (ridS v0)) → ∀ v8 : Int, (v8 = (ridE v0)) → T1 ∧ T1 ∧ T1 ∧ T1 ∧ tt ∧ T1 ∧ tt ∧ T1 ∧ T1 ∧ T1 ∧ (bif (v2 != 0) then (tt ∧ T1 ∧ tt ∧ T1 ∧ tt ∧ tt ∧ T1 ∧ tt ∧ tt ∧ (true = false ∧ True) ∧ tt) else (T1 ∧ T1 ∧ tt ∧ T1 ∧ T1 ∧ tt ∧ T1 ∧ (T1 ∧ True) ∧ ∀ v10 : (List UInt8), (v10 = (pair6 (IntKind.wrap IntKind.u64 r) (IntKind.wrap IntKind.u64 n))) → T1 ∧ T1 ∧ T1 ∧ (bif (Bool.not (@BEq.beq.{0} (List UInt8) (@List.instBEq.{0} UInt8 (@instBEqOfDecidableEq.{0} UInt8 instDecidableEqUInt8)) v0 v10)) then (tt ∧ T1 ∧ tt ∧ tt ∧ T1 ∧ tt ∧ tt ∧ (true = false ∧ True) ∧ tt) else (tt ∧ tt ∧ T1 ∧ T1 ∧ T1 ∧ (bif (Bool.not (Bool.and (v4 == r) (Bool.and (v6 == n) true))) then (tt ∧ tt ∧ T1 ∧ tt ∧ tt ∧ (true = false ∧ True) ∧ tt) else (T1 ∧ T1 ∧ T1 ∧ (bif (v8 != 0) then (tt ∧ T1 ∧ tt ∧ tt ∧ (true = false ∧ True) ∧ tt) else (tt ∧ T1 ∧ (T1 ∧ True) ∧ ∀ v12 : (List UInt8), (v12 = (balShowV b)) → ∀ v14 : Int, (v14 = (balShowE b)) → T1 ∧ T1 ∧ T1 ∧ T1 ∧ T1 ∧ tt ∧ T1 ∧ (T1 ∧ True) ∧ T1 ∧ (bif (Bool.not (balOK b)) then (tt ∧ T1 ∧ T1 ∧ T1 ∧ (bif (v14 == 60) then (T1 ∧ T1 ∧ T1 ∧ T1 ∧ tt ∧ tt ∧ (true = (@BEq.beq.{0} (List UInt8) (@List.instBEq.{0} UInt8 (@instBEqOfDecidableEq.{0} UInt8 instDecidableEqUInt8)) v12 (@List.nil.{0} UInt8)) ∧ True) ∧ tt) else (false = false ∧ T1 ∧ tt ∧ tt ∧ (true = false ∧ True) ∧ tt))) else (tt ∧ T1 ∧ (T1 ∧ (List.length v12) ≤ 100000000) ∧ ∀ v16 : Int, (v16 = (rbalV v12)) → ∀ v18 : Int, (v18 = (rbalE v12)) → T1 ∧ T1 ∧ T1 ∧ T1 ∧ T1 ∧ tt ∧ T1 ∧ T1 ∧ T1 ∧ (bif (v14 == 0) then (T1 ∧ T1 ∧ T1 ∧ (@Ne.{1} Int (8 : Int) (0 : Int)) ∧ T1 ∧ T1 ∧ (@Ne.{1} Int (8 : Int) (0 : Int)) ∧ (T1 ∧ True) ∧ ∀ v20 : (List UInt8), (v20 = q0) → T1 ∧ T1 ∧ T1 ∧ (bif (@BEq.beq.{0} (List UInt8) (@List.instBEq.{0} UInt8 (@instBEqOfDecidableEq.{0} UInt8 instDecidableEqUInt8)) v12 v20) then (T1 ∧ T1 ∧ T1 ∧ T1 ∧ T1 ∧ (bif (v16 == b) then (T1 ∧ T1 ∧ T1 ∧ T1 ∧ tt ∧ tt ∧ (true = (v18 == 0) ∧ True) ∧ tt) else (false = false ∧ T1 ∧ tt ∧ tt ∧ (true = false ∧ True) ∧ tt))) else (false = false ∧ T1 ∧ false = false ∧ T1 ∧ tt ∧ tt ∧ (true = false ∧ True) ∧ tt))) else (false = false ∧ T1 ∧ false = false ∧ T1 ∧ false = false ∧ T1 ∧ tt ∧ tt ∧ (true = false ∧ True) ∧ tt))))))))))))) else (tt ∧ T1 ∧ T1 ∧ T1 ∧ (bif (v2 != 12) then (tt ∧ tt ∧ T1 ∧ tt ∧ tt ∧ (true = false ∧ True) ∧ tt) else (T1 ∧ T1 ∧ T1 ∧ (bif (Bool.not (@BEq.beq.{0} (List UInt8) (@List.instBEq.{0} UInt8 (@instBEqOfDecidableEq.{0} UInt8 instDecidableEqUInt8)) v0 (@List.nil.{0} UInt8))) then (tt ∧ T1 ∧ tt ∧ tt ∧ (true = false ∧ True) ∧ tt) else (tt ∧ T1 ∧ (T1 ∧ True) ∧ ∀ v4 : (List UInt8), (v4 = (balShowV b)) → ∀ v6 : Int, (v6 = (balShowE b)) → T1 ∧ T1 ∧ T1 ∧ T1 ∧ T1 ∧ tt ∧ T1 ∧ (T1 ∧ True) ∧ T1 ∧ (bif (Bool.not (balOK b)) then (tt ∧ T1 ∧ T1 ∧ T1 ∧ (bif (v6 == 60) then (T1 ∧ T1 ∧ T1 ∧ T1 ∧ tt ∧ tt ∧ (true = (@BEq.beq.{0} (List UInt8) (@List.instBEq.{0} UInt8 (@instBEqOfDecidableEq.{0} UInt8 instDecidableEqUInt8)) v4 (@List.nil.{0} UInt8)) ∧ True) ∧ tt) else (false = false ∧ T1 ∧ tt ∧ tt ∧ (true = false ∧ True) ∧ tt))) else (tt ∧ T1 ∧ (T1 ∧ (List.length v4) ≤ 100000000) ∧ ∀ v8 : Int, (v8 = (rbalV v4)) → ∀ v10 : Int, (v10 = (rbalE v4)) → T1 ∧ T1 ∧ T1 ∧ T1 ∧ T1 ∧ tt ∧ T1 ∧ T1 ∧ T1 ∧ (bif (v6 == 0) then (T1 ∧ T1 ∧ T1 ∧ (@Ne.{1} Int (8 : Int) (0 : Int)) ∧ T1 ∧ T1 ∧ (@Ne.{1} Int (8 : Int) (0 : Int)) ∧ (T1 ∧ True) ∧ ∀ v12 : (List UInt8), (v12 = q0) → T1 ∧ T1 ∧ T1 ∧ (bif (@BEq.beq.{0} (List UInt8) (@List.instBEq.{0} UInt8 (@instBEqOfDecidableEq.{0} UInt8 instDecidableEqUInt8)) v4 v12) then (T1 ∧ T1 ∧ T1 ∧ T1 ∧ T1 ∧ (bif (v8 == b) then (T1 ∧ T1 ∧ T1 ∧ T1 ∧ tt ∧ tt ∧ (true = (v10 == 0) ∧ True) ∧ tt) else (false = false ∧ T1 ∧ tt ∧ tt ∧ (true = false ∧ True) ∧ tt))) else (false = false ∧ T1 ∧ false = false ∧ T1 ∧ tt ∧ tt ∧ (true = false ∧ True) ∧ tt))) else (false = false ∧ T1 ∧ false = false ∧ T1 ∧ false = false ∧ T1 ∧ tt ∧ tt ∧ (true = false ∧ True) ∧ tt)))))))))))) : inLawTexts0 r n b :=
  Eq.mp (show _ = _ by kernel_rfl) h
theorem vcLawReads0 (s : (List UInt8)) (h : (tt ∧ T1 ∧ tt ∧ (T1 ∧ True) ∧ T1 ∧ tt ∧ T1 ∧ T1 ∧ T1 ∧ (bif (decide ((100 : Int) < ((List.length s) : Int))) then (tt ∧ T1 ∧ tt ∧ tt ∧ (tt ∧ True) ∧ tt) else (tt ∧ T1 ∧ (T1 ∧ (List.length s) ≤ 100000000) ∧ ∀ v0 : Int, (v0 = (ridR s)) → ∀ v2 : Int, (v2 = (ridS s)) → ∀ v4 : Int, (v4 = (ridE s)) → T1 ∧ T1 ∧ T1 ∧ T1 ∧ tt ∧ T1 ∧ tt ∧ T1 ∧ (T1 ∧ (List.length s) ≤ 100000000) ∧ ∀ v6 : Int, (v6 = (rbalV s)) → ∀ v8 : Int, (v8 = (rbalE s)) → T1 ∧ T1 ∧ T1 ∧ T1 ∧ T1 ∧ tt ∧ T1 ∧ T1 ∧ T1 ∧ (bif (v4 == 0) then (tt ∧ (T1 ∧ True) ∧ T1 ∧ T1 ∧ (bif (Bool.not (rightId v0 v2)) then (tt ∧ T1 ∧ T1 ∧ tt ∧ tt ∧ T1 ∧ tt ∧ tt ∧ (true = false ∧ True) ∧ tt) else (T1 ∧ tt ∧ T1 ∧ T1 ∧ tt ∧ T1 ∧ (T1 ∧ True) ∧ ∀ v10 : (List UInt8), (v10 = (pair6 (IntKind.wrap IntKind.u64 v0) (IntKind.wrap IntKind.u64 v2))) → T1 ∧ T1 ∧ T1 ∧ T1 ∧ T1 ∧ (bif (Bool.not (@BEq.beq.{0} (List UInt8) (@List.instBEq.{0} UInt8 (@instBEqOfDecidableEq.{0} UInt8 instDecidableEqUInt8)) v10 s)) then (tt ∧ tt ∧ T1 ∧ tt ∧ tt ∧ (true = false ∧ True) ∧ tt) else (T1 ∧ T1 ∧ T1 ∧ (bif (v4 != 0) then (tt ∧ T1 ∧ T1 ∧ T1 ∧ T1 ∧ (bif (Bool.not (Bool.and (v0 == 0) (Bool.and (v2 == 0) true))) then (tt ∧ T1 ∧ tt ∧ tt ∧ (true = false ∧ True) ∧ tt) else (tt ∧ T1 ∧ T1 ∧ T1 ∧ (bif (v8 == 0) then (T1 ∧ (T1 ∧ True) ∧ T1 ∧ T1 ∧ (bif (Bool.not (balOK v6)) then (tt ∧ T1 ∧ T1 ∧ tt ∧ tt ∧ T1 ∧ tt ∧ tt ∧ (true = false ∧ True) ∧ tt) else (T1 ∧ T1 ∧ (@Ne.{1} Int (8 : Int) (0 : Int)) ∧ T1 ∧ T1 ∧ (@Ne.{1} Int (8 : Int) (0 : Int)) ∧ (T1 ∧ True) ∧ ∀ v12 : (List UInt8), (v12 = (pair6 (IntKind.wrap IntKind.u64 (Int.tdiv (IntKind.wrap IntKind.u64 v6) 8)) (Int.tmod (IntKind.wrap IntKind.u64 v6) 8))) → T1 ∧ T1 ∧ T1 ∧ T1 ∧ T1 ∧ (bif (Bool.not (@BEq.beq.{0} (List UInt8) (@List.instBEq.{0} UInt8 (@instBEqOfDecidableEq.{0} UInt8 instDecidableEqUInt8)) v12 s)) then (tt ∧ tt ∧ T1 ∧ tt ∧ tt ∧ (true = false ∧ True) ∧ tt) else (T1 ∧ T1 ∧ T1 ∧ (bif (v8 != 0) then (T1 ∧ T1 ∧ T1 ∧ T1 ∧ (bif (v6 != 0) then (tt ∧ T1 ∧ tt ∧ tt ∧ (true = false ∧ True) ∧ tt) else (tt ∧ T1 ∧ T1 ∧ T1 ∧ T1 ∧ T1 ∧ T1 ∧ (bif (@BEq.beq.{0} Bool (@instBEqOfDecidableEq.{0} Bool instDecidableEqBool) (v4 == 10) (v8 == 10)) then (T1 ∧ T1 ∧ T1 ∧ (bif (v4 == 0) then (tt ∧ T1 ∧ tt ∧ T1 ∧ T1 ∧ T1 ∧ T1 ∧ T1 ∧ (bif (v8 == 0) then (tt ∧ T1 ∧ tt ∧ T1 ∧ T1 ∧ tt ∧ tt ∧ (tt ∧ True) ∧ tt) else (T1 ∧ T1 ∧ T1 ∧ T1 ∧ (bif (v8 == 10) then (tt ∧ T1 ∧ T1 ∧ tt ∧ tt ∧ (tt ∧ True) ∧ tt) else (T1 ∧ T1 ∧ T1 ∧ T1 ∧ T1 ∧ tt ∧ tt ∧ (true = (v8 == 60) ∧ True) ∧ tt))))) else (T1 ∧ T1 ∧ T1 ∧ T1 ∧ (bif (v4 == 10) then (tt ∧ T1 ∧ T1 ∧ T1 ∧ T1 ∧ T1 ∧ (bif (v8 == 0) then (tt ∧ T1 ∧ tt ∧ T1 ∧ T1 ∧ tt ∧ tt ∧ (tt ∧ True) ∧ tt) else (T1 ∧ T1 ∧ T1 ∧ T1 ∧ (bif (v8 == 10) then (tt ∧ T1 ∧ T1 ∧ tt ∧ tt ∧ (tt ∧ True) ∧ tt) else (T1 ∧ T1 ∧ T1 ∧ T1 ∧ T1 ∧ tt ∧ tt ∧ (true = (v8 == 60) ∧ True) ∧ tt))))) else (T1 ∧ T1 ∧ T1 ∧ T1 ∧ T1 ∧ (bif (v4 == 12) then (T1 ∧ T1 ∧ T1 ∧ (bif (v8 == 0) then (tt ∧ T1 ∧ tt ∧ T1 ∧ T1 ∧ tt ∧ tt ∧ (tt ∧ True) ∧ tt) else (T1 ∧ T1 ∧ T1 ∧ T1 ∧ (bif (v8 == 10) then (tt ∧ T1 ∧ T1 ∧ tt ∧ tt ∧ (tt ∧ True) ∧ tt) else (T1 ∧ T1 ∧ T1 ∧ T1 ∧ T1 ∧ tt ∧ tt ∧ (true = (v8 == 60) ∧ True) ∧ tt))))) else (false = false ∧ T1 ∧ tt ∧ tt ∧ (true = false ∧ True) ∧ tt))))))) else (false = false ∧ T1 ∧ false = false ∧ T1 ∧ tt ∧ tt ∧ (true = false ∧ True) ∧ tt))))) else (false = false ∧ T1 ∧ tt ∧ T1 ∧ T1 ∧ T1 ∧ T1 ∧ T1 ∧ T1 ∧ (bif (@BEq.beq.{0} Bool (@instBEqOfDecidableEq.{0} Bool instDecidableEqBool) (v4 == 10) (v8 == 10)) then (T1 ∧ T1 ∧ T1 ∧ (bif (v4 == 0) then (tt ∧ T1 ∧ tt ∧ T1 ∧ T1 ∧ T1 ∧ T1 ∧ T1 ∧ (bif (v8 == 0) then (tt ∧ T1 ∧ tt ∧ T1 ∧ T1 ∧ tt ∧ tt ∧ (tt ∧ True) ∧ tt) else (T1 ∧ T1 ∧ T1 ∧ T1 ∧ (bif (v8 == 10) then (tt ∧ T1 ∧ T1 ∧ tt ∧ tt ∧ (tt ∧ True) ∧ tt) else (T1 ∧ T1 ∧ T1 ∧ T1 ∧ T1 ∧ tt ∧ tt ∧ (true = (v8 == 60) ∧ True) ∧ tt))))) else (T1 ∧ T1 ∧ T1 ∧ T1 ∧ (bif (v4 == 10) then (tt ∧ T1 ∧ T1 ∧ T1 ∧ T1 ∧ T1 ∧ (bif (v8 == 0) then (tt ∧ T1 ∧ tt ∧ T1 ∧ T1 ∧ tt ∧ tt ∧ (tt ∧ True) ∧ tt) else (T1 ∧ T1 ∧ T1 ∧ T1 ∧ (bif (v8 == 10) then (tt ∧ T1 ∧ T1 ∧ tt ∧ tt ∧ (tt ∧ True) ∧ tt) else (T1 ∧ T1 ∧ T1 ∧ T1 ∧ T1 ∧ tt ∧ tt ∧ (true = (v8 == 60) ∧ True) ∧ tt))))) else (T1 ∧ T1 ∧ T1 ∧ T1 ∧ T1 ∧ (bif (v4 == 12) then (T1 ∧ T1 ∧ T1 ∧ (bif (v8 == 0) then (tt ∧ T1 ∧ tt ∧ T1 ∧ T1 ∧ tt ∧ tt ∧ (tt ∧ True) ∧ tt) else (T1 ∧ T1 ∧ T1 ∧ T1 ∧ (bif (v8 == 10) then (tt ∧ T1 ∧ T1 ∧ tt ∧ tt ∧ (tt ∧ True) ∧ tt) else (T1 ∧ T1 ∧ T1 ∧ T1 ∧ T1 ∧ tt ∧ tt ∧ (true = (v8 == 60) ∧ True) ∧ tt))))) else (false = false ∧ T1 ∧ tt ∧ tt ∧ (true = false ∧ True) ∧ tt))))))) else (false = false ∧ T1 ∧ false = false ∧ T1 ∧ tt ∧ tt ∧ (true = false ∧ True) ∧ tt))))))))) else (false = false ∧ T1 ∧ T1 ∧ T1 ∧ T1 ∧ (bif (v8 != 0) then (T1 ∧ T1 ∧ T1 ∧ T1 ∧ (bif (v6 != 0) then (tt ∧ T1 ∧ tt ∧ tt ∧ (true = false ∧ True) ∧ tt) else (tt ∧ T1 ∧ T1 ∧ T1 ∧ T1 ∧ T1 ∧ T1 ∧ (bif (@BEq.beq.{0} Bool (@instBEqOfDecidableEq.{0} Bool instDecidableEqBool) (v4 == 10) (v8 == 10)) then (T1 ∧ T1 ∧ T1 ∧ (bif (v4 == 0) then (tt ∧ T1 ∧ tt ∧ T1 ∧ T1 ∧ T1 ∧ T1 ∧ T1 ∧ (bif (v8 == 0) then (tt ∧ T1 ∧ tt ∧ T1 ∧ T1 ∧ tt ∧ tt ∧ (tt ∧ True) ∧ tt) else (T1 ∧ T1 ∧ T1 ∧ T1 ∧ (bif (v8 == 10) then (tt ∧ T1 ∧ T1 ∧ tt ∧ tt ∧ (tt ∧ True) ∧ tt) else (T1 ∧ T1 ∧ T1 ∧ T1 ∧ T1 ∧ tt ∧ tt ∧ (true = (v8 == 60) ∧ True) ∧ tt))))) else (T1 ∧ T1 ∧ T1 ∧ T1 ∧ (bif (v4 == 10) then (tt ∧ T1 ∧ T1 ∧ T1 ∧ T1 ∧ T1 ∧ (bif (v8 == 0) then (tt ∧ T1 ∧ tt ∧ T1 ∧ T1 ∧ tt ∧ tt ∧ (tt ∧ True) ∧ tt) else (T1 ∧ T1 ∧ T1 ∧ T1 ∧ (bif (v8 == 10) then (tt ∧ T1 ∧ T1 ∧ tt ∧ tt ∧ (tt ∧ True) ∧ tt) else (T1 ∧ T1 ∧ T1 ∧ T1 ∧ T1 ∧ tt ∧ tt ∧ (true = (v8 == 60) ∧ True) ∧ tt))))) else (T1 ∧ T1 ∧ T1 ∧ T1 ∧ T1 ∧ (bif (v4 == 12) then (T1 ∧ T1 ∧ T1 ∧ (bif (v8 == 0) then (tt ∧ T1 ∧ tt ∧ T1 ∧ T1 ∧ tt ∧ tt ∧ (tt ∧ True) ∧ tt) else (T1 ∧ T1 ∧ T1 ∧ T1 ∧ (bif (v8 == 10) then (tt ∧ T1 ∧ T1 ∧ tt ∧ tt ∧ (tt ∧ True) ∧ tt) else (T1 ∧ T1 ∧ T1 ∧ T1 ∧ T1 ∧ tt ∧ tt ∧ (true = (v8 == 60) ∧ True) ∧ tt))))) else (false = false ∧ T1 ∧ tt ∧ tt ∧ (true = false ∧ True) ∧ tt))))))) else (false = false ∧ T1 ∧ false = false ∧ T1 ∧ tt ∧ tt ∧ (true = false ∧ True) ∧ tt))))) else (false = false ∧ T1 ∧ tt ∧ T1 ∧ T1 ∧ T1 ∧ T1 ∧ T1 ∧ T1 ∧ (bif (@BEq.beq.{0} Bool (@instBEqOfDecidableEq.{0} Bool instDecidableEqBool) (v4 == 10) (v8 == 10)) then (T1 ∧ T1 ∧ T1 ∧ (bif (v4 == 0) then (tt ∧ T1 ∧ tt ∧ T1 ∧ T1 ∧ T1 ∧ T1 ∧ T1 ∧ (bif (v8 == 0) then (tt ∧ T1 ∧ tt ∧ T1 ∧ T1 ∧ tt ∧ tt ∧ (tt ∧ True) ∧ tt) else (T1 ∧ T1 ∧ T1 ∧ T1 ∧ (bif (v8 == 10) then (tt ∧ T1 ∧ T1 ∧ tt ∧ tt ∧ (tt ∧ True) ∧ tt) else (T1 ∧ T1 ∧ T1 ∧ T1 ∧ T1 ∧ tt ∧ tt ∧ (true = (v8 == 60) ∧ True) ∧ tt))))) else (T1 ∧ T1 ∧ T1 ∧ T1 ∧ (bif (v4 == 10) then (tt ∧ T1 ∧ T1 ∧ T1 ∧ T1 ∧ T1 ∧ (bif (v8 == 0) then (tt ∧ T1 ∧ tt ∧ T1 ∧ T1 ∧ tt ∧ tt ∧ (tt ∧ True) ∧ tt) else (T1 ∧ T1 ∧ T1 ∧ T1 ∧ (bif (v8 == 10) then (tt ∧ T1 ∧ T1 ∧ tt ∧ tt ∧ (tt ∧ True) ∧ tt) else (T1 ∧ T1 ∧ T1 ∧ T1 ∧ T1 ∧ tt ∧ tt ∧ (true = (v8 == 60) ∧ True) ∧ tt))))) else (T1 ∧ T1 ∧ T1 ∧ T1 ∧ T1 ∧ (bif (v4 == 12) then (T1 ∧ T1 ∧ T1 ∧ (bif (v8 == 0) then (tt ∧ T1 ∧ tt ∧ T1 ∧ T1 ∧ tt ∧ tt ∧ (tt ∧ True) ∧ tt) else (T1 ∧ T1 ∧ T1 ∧ T1 ∧ (bif (v8 == 10) then (tt ∧ T1 ∧ T1 ∧ tt ∧ tt ∧ (tt ∧ True) ∧ tt) else (T1 ∧ T1 ∧ T1 ∧ T1 ∧ T1 ∧ tt ∧ tt ∧ (true = (v8 == 60) ∧ True) ∧ tt))))) else (false = false ∧ T1 ∧ tt ∧ tt ∧ (true = false ∧ True) ∧ tt))))))) else (false = false ∧ T1 ∧ false = false ∧ T1 ∧ tt ∧ tt ∧ (true = false ∧ True) ∧ tt))))))))) else (false = false ∧ T1 ∧ tt ∧ T1 ∧ T1 ∧ T1 ∧ (bif (v8 == 0) then (T1 ∧ (T1 ∧ True) ∧ T1 ∧ T1 ∧ (bif (Bool.not (balOK v6)) then (tt ∧ T1 ∧ T1 ∧ tt ∧ tt ∧ T1 ∧ tt ∧ tt ∧ (true = false ∧ True) ∧ tt) else (T1 ∧ T1 ∧ (@Ne.{1} Int (8 : Int) (0 : Int)) ∧ T1 ∧ T1 ∧ (@Ne.{1} Int (8 : Int) (0 : Int)) ∧ (T1 ∧ True) ∧ ∀ v12 : (List UInt8), (v12 = (pair6 (IntKind.wrap IntKind.u64 (Int.tdiv (IntKind.wrap IntKind.u64 v6) 8)) (Int.tmod (IntKind.wrap IntKind.u64 v6) 8))) → T1 ∧ T1 ∧ T1 ∧ T1 ∧ T1 ∧ (bif (Bool.not (@BEq.beq.{0} (List UInt8) (@List.instBEq.{0} UInt8 (@instBEqOfDecidableEq.{0} UInt8 instDecidableEqUInt8)) v12 s)) then (tt ∧ tt ∧ T1 ∧ tt ∧ tt ∧ (true = false ∧ True) ∧ tt) else (T1 ∧ T1 ∧ T1 ∧ (bif (v8 != 0) then (T1 ∧ T1 ∧ T1 ∧ T1 ∧ (bif (v6 != 0) then (tt ∧ T1 ∧ tt ∧ tt ∧ (true = false ∧ True) ∧ tt) else (tt ∧ T1 ∧ T1 ∧ T1 ∧ T1 ∧ T1 ∧ T1 ∧ (bif (@BEq.beq.{0} Bool (@instBEqOfDecidableEq.{0} Bool instDecidableEqBool) (v4 == 10) (v8 == 10)) then (T1 ∧ T1 ∧ T1 ∧ (bif (v4 == 0) then (tt ∧ T1 ∧ tt ∧ T1 ∧ T1 ∧ T1 ∧ T1 ∧ T1 ∧ (bif (v8 == 0) then (tt ∧ T1 ∧ tt ∧ T1 ∧ T1 ∧ tt ∧ tt ∧ (tt ∧ True) ∧ tt) else (T1 ∧ T1 ∧ T1 ∧ T1 ∧ (bif (v8 == 10) then (tt ∧ T1 ∧ T1 ∧ tt ∧ tt ∧ (tt ∧ True) ∧ tt) else (T1 ∧ T1 ∧ T1 ∧ T1 ∧ T1 ∧ tt ∧ tt ∧ (true = (v8 == 60) ∧ True) ∧ tt))))) else (T1 ∧ T1 ∧ T1 ∧ T1 ∧ (bif (v4 == 10) then (tt ∧ T1 ∧ T1 ∧ T1 ∧ T1 ∧ T1 ∧ (bif (v8 == 0) then (tt ∧ T1 ∧ tt ∧ T1 ∧ T1 ∧ tt ∧ tt ∧ (tt ∧ True) ∧ tt) else (T1 ∧ T1 ∧ T1 ∧ T1 ∧ (bif (v8 == 10) then (tt ∧ T1 ∧ T1 ∧ tt ∧ tt ∧ (tt ∧ True) ∧ tt) else (T1 ∧ T1 ∧ T1 ∧ T1 ∧ T1 ∧ tt ∧ tt ∧ (true = (v8 == 60) ∧ True) ∧ tt))))) else (T1 ∧ T1 ∧ T1 ∧ T1 ∧ T1 ∧ (bif (v4 == 12) then (T1 ∧ T1 ∧ T1 ∧ (bif (v8 == 0) then (tt ∧ T1 ∧ tt ∧ T1 ∧ T1 ∧ tt ∧ tt ∧ (tt ∧ True) ∧ tt) else (T1 ∧ T1 ∧ T1 ∧ T1 ∧ (bif (v8 == 10) then (tt ∧ T1 ∧ T1 ∧ tt ∧ tt ∧ (tt ∧ True) ∧ tt) else (T1 ∧ T1 ∧ T1 ∧ T1 ∧ T1 ∧ tt ∧ tt ∧ (true = (v8 == 60) ∧ True) ∧ tt))))) else (false = false ∧ T1 ∧ tt ∧ tt ∧ (true = false ∧ True) ∧ tt))))))) else (false = false ∧ T1 ∧ false = false ∧ T1 ∧ tt ∧ tt ∧ (true = false ∧ True) ∧ tt))))) else (false = false ∧ T1 ∧ tt ∧ T1 ∧ T1 ∧ T1 ∧ T1 ∧ T1 ∧ T1 ∧ (bif (@BEq.beq.{0} Bool (@instBEqOfDecidableEq.{0} Bool instDecidableEqBool) (v4 == 10) (v8 == 10)) then (T1 ∧ T1 ∧ T1 ∧ (bif (v4 == 0) then (tt ∧ T1 ∧ tt ∧ T1 ∧ T1 ∧ T1 ∧ T1 ∧ T1 ∧ (bif (v8 == 0) then (tt ∧ T1 ∧ tt ∧ T1 ∧ T1 ∧ tt ∧ tt ∧ (tt ∧ True) ∧ tt) else (T1 ∧ T1 ∧ T1 ∧ T1 ∧ (bif (v8 == 10) then (tt ∧ T1 ∧ T1 ∧ tt ∧ tt ∧ (tt ∧ True) ∧ tt) else (T1 ∧ T1 ∧ T1 ∧ T1 ∧ T1 ∧ tt ∧ tt ∧ (true = (v8 == 60) ∧ True) ∧ tt))))) else (T1 ∧ T1 ∧ T1 ∧ T1 ∧ (bif (v4 == 10) then (tt ∧ T1 ∧ T1 ∧ T1 ∧ T1 ∧ T1 ∧ (bif (v8 == 0) then (tt ∧ T1 ∧ tt ∧ T1 ∧ T1 ∧ tt ∧ tt ∧ (tt ∧ True) ∧ tt) else (T1 ∧ T1 ∧ T1 ∧ T1 ∧ (bif (v8 == 10) then (tt ∧ T1 ∧ T1 ∧ tt ∧ tt ∧ (tt ∧ True) ∧ tt) else (T1 ∧ T1 ∧ T1 ∧ T1 ∧ T1 ∧ tt ∧ tt ∧ (true = (v8 == 60) ∧ True) ∧ tt))))) else (T1 ∧ T1 ∧ T1 ∧ T1 ∧ T1 ∧ (bif (v4 == 12) then (T1 ∧ T1 ∧ T1 ∧ (bif (v8 == 0) then (tt ∧ T1 ∧ tt ∧ T1 ∧ T1 ∧ tt ∧ tt ∧ (tt ∧ True) ∧ tt) else (T1 ∧ T1 ∧ T1 ∧ T1 ∧ (bif (v8 == 10) then (tt ∧ T1 ∧ T1 ∧ tt ∧ tt ∧ (tt ∧ True) ∧ tt) else (T1 ∧ T1 ∧ T1 ∧ T1 ∧ T1 ∧ tt ∧ tt ∧ (true = (v8 == 60) ∧ True) ∧ tt))))) else (false = false ∧ T1 ∧ tt ∧ tt ∧ (true = false ∧ True) ∧ tt))))))) else (false = false ∧ T1 ∧ false = false ∧ T1 ∧ tt ∧ tt ∧ (true = false ∧ True) ∧ tt))))))))) else (false = false ∧ T1 ∧ T1 ∧ T1 ∧ T1 ∧ (bif (v8 != 0) then (T1 ∧ T1 ∧ T1 ∧ T1 ∧ (bif (v6 != 0) then (tt ∧ T1 ∧ tt ∧ tt ∧ (true = false ∧ True) ∧ tt) else (tt ∧ T1 ∧ T1 ∧ T1 ∧ T1 ∧ T1 ∧ T1 ∧ (bif (@BEq.beq.{0} Bool (@instBEqOfDecidableEq.{0} Bool instDecidableEqBool) (v4 == 10) (v8 == 10)) then (T1 ∧ T1 ∧ T1 ∧ (bif (v4 == 0) then (tt ∧ T1 ∧ tt ∧ T1 ∧ T1 ∧ T1 ∧ T1 ∧ T1 ∧ (bif (v8 == 0) then (tt ∧ T1 ∧ tt ∧ T1 ∧ T1 ∧ tt ∧ tt ∧ (tt ∧ True) ∧ tt) else (T1 ∧ T1 ∧ T1 ∧ T1 ∧ (bif (v8 == 10) then (tt ∧ T1 ∧ T1 ∧ tt ∧ tt ∧ (tt ∧ True) ∧ tt) else (T1 ∧ T1 ∧ T1 ∧ T1 ∧ T1 ∧ tt ∧ tt ∧ (true = (v8 == 60) ∧ True) ∧ tt))))) else (T1 ∧ T1 ∧ T1 ∧ T1 ∧ (bif (v4 == 10) then (tt ∧ T1 ∧ T1 ∧ T1 ∧ T1 ∧ T1 ∧ (bif (v8 == 0) then (tt ∧ T1 ∧ tt ∧ T1 ∧ T1 ∧ tt ∧ tt ∧ (tt ∧ True) ∧ tt) else (T1 ∧ T1 ∧ T1 ∧ T1 ∧ (bif (v8 == 10) then (tt ∧ T1 ∧ T1 ∧ tt ∧ tt ∧ (tt ∧ True) ∧ tt) else (T1 ∧ T1 ∧ T1 ∧ T1 ∧ T1 ∧ tt ∧ tt ∧ (true = (v8 == 60) ∧ True) ∧ tt))))) else (T1 ∧ T1 ∧ T1 ∧ T1 ∧ T1 ∧ (bif (v4 == 12) then (T1 ∧ T1 ∧ T1 ∧ (bif (v8 == 0) then (tt ∧ T1 ∧ tt ∧ T1 ∧ T1 ∧ tt ∧ tt ∧ (tt ∧ True) ∧ tt) else (T1 ∧ T1 ∧ T1 ∧ T1 ∧ (bif (v8 == 10) then (tt ∧ T1 ∧ T1 ∧ tt ∧ tt ∧ (tt ∧ True) ∧ tt) else (T1 ∧ T1 ∧ T1 ∧ T1 ∧ T1 ∧ tt ∧ tt ∧ (true = (v8 == 60) ∧ True) ∧ tt))))) else (false = false ∧ T1 ∧ tt ∧ tt ∧ (true = false ∧ True) ∧ tt))))))) else (false = false ∧ T1 ∧ false = false ∧ T1 ∧ tt ∧ tt ∧ (true = false ∧ True) ∧ tt))))) else (false = false ∧ T1 ∧ tt ∧ T1 ∧ T1 ∧ T1 ∧ T1 ∧ T1 ∧ T1 ∧ (bif (@BEq.beq.{0} Bool (@instBEqOfDecidableEq.{0} Bool instDecidableEqBool) (v4 == 10) (v8 == 10)) then (T1 ∧ T1 ∧ T1 ∧ (bif (v4 == 0) then (tt ∧ T1 ∧ tt ∧ T1 ∧ T1 ∧ T1 ∧ T1 ∧ T1 ∧ (bif (v8 == 0) then (tt ∧ T1 ∧ tt ∧ T1 ∧ T1 ∧ tt ∧ tt ∧ (tt ∧ True) ∧ tt) else (T1 ∧ T1 ∧ T1 ∧ T1 ∧ (bif (v8 == 10) then (tt ∧ T1 ∧ T1 ∧ tt ∧ tt ∧ (tt ∧ True) ∧ tt) else (T1 ∧ T1 ∧ T1 ∧ T1 ∧ T1 ∧ tt ∧ tt ∧ (true = (v8 == 60) ∧ True) ∧ tt))))) else (T1 ∧ T1 ∧ T1 ∧ T1 ∧ (bif (v4 == 10) then (tt ∧ T1 ∧ T1 ∧ T1 ∧ T1 ∧ T1 ∧ (bif (v8 == 0) then (tt ∧ T1 ∧ tt ∧ T1 ∧ T1 ∧ tt ∧ tt ∧ (tt ∧ True) ∧ tt) else (T1 ∧ T1 ∧ T1 ∧ T1 ∧ (bif (v8 == 10) then (tt ∧ T1 ∧ T1 ∧ tt ∧ tt ∧ (tt ∧ True) ∧ tt) else (T1 ∧ T1 ∧ T1 ∧ T1 ∧ T1 ∧ tt ∧ tt ∧ (true = (v8 == 60) ∧ True) ∧ tt))))) else (T1 ∧ T1 ∧ T1 ∧ T1 ∧ T1 ∧ (bif (v4 == 12) then (T1 ∧ T1 ∧ T1 ∧ (bif (v8 == 0) then (tt ∧ T1 ∧ tt ∧ T1 ∧ T1 ∧ tt ∧ tt ∧ (tt ∧ True) ∧ tt) else (T1 ∧ T1 ∧ T1 ∧ T1 ∧ (bif (v8 == 10) then (tt ∧ T1 ∧ T1 ∧ tt ∧ tt ∧ (tt ∧ True) ∧ tt) else (T1 ∧ T1 ∧ T1 ∧ T1 ∧ T1 ∧ tt ∧ tt ∧ (true = (v8 == 60) ∧ True) ∧ tt))))) else (false = false ∧ T1 ∧ tt ∧ tt ∧ (true = false ∧ True) ∧ tt))))))) else (false = false ∧ T1 ∧ false = false ∧ T1 ∧ tt ∧ tt ∧ (true = false ∧ True) ∧ tt))))))))))))) else (false = false ∧ T1 ∧ T1 ∧ T1 ∧ T1 ∧ (bif (v4 != 0) then (tt ∧ T1 ∧ T1 ∧ T1 ∧ T1 ∧ (bif (Bool.not (Bool.and (v0 == 0) (Bool.and (v2 == 0) true))) then (tt ∧ T1 ∧ tt ∧ tt ∧ (true = false ∧ True) ∧ tt) else (tt ∧ T1 ∧ T1 ∧ T1 ∧ (bif (v8 == 0) then (T1 ∧ (T1 ∧ True) ∧ T1 ∧ T1 ∧ (bif (Bool.not (balOK v6)) then (tt ∧ T1 ∧ T1 ∧ tt ∧ tt ∧ T1 ∧ tt ∧ tt ∧ (true = false ∧ True) ∧ tt) else (T1 ∧ T1 ∧ (@Ne.{1} Int (8 : Int) (0 : Int)) ∧ T1 ∧ T1 ∧ (@Ne.{1} Int (8 : Int) (0 : Int)) ∧ (T1 ∧ True) ∧ ∀ v10 : (List UInt8), (v10 = (pair6 (IntKind.wrap IntKind.u64 (Int.tdiv (IntKind.wrap IntKind.u64 v6) 8)) (Int.tmod (IntKind.wrap IntKind.u64 v6) 8))) → T1 ∧ T1 ∧ T1 ∧ T1 ∧ T1 ∧ (bif (Bool.not (@BEq.beq.{0} (List UInt8) (@List.instBEq.{0} UInt8 (@instBEqOfDecidableEq.{0} UInt8 instDecidableEqUInt8)) v10 s)) then (tt ∧ tt ∧ T1 ∧ tt ∧ tt ∧ (true = false ∧ True) ∧ tt) else (T1 ∧ T1 ∧ T1 ∧ (bif (v8 != 0) then (T1 ∧ T1 ∧ T1 ∧ T1 ∧ (bif (v6 != 0) then (tt ∧ T1 ∧ tt ∧ tt ∧ (true = false ∧ True) ∧ tt) else (tt ∧ T1 ∧ T1 ∧ T1 ∧ T1 ∧ T1 ∧ T1 ∧ (bif (@BEq.beq.{0} Bool (@instBEqOfDecidableEq.{0} Bool instDecidableEqBool) (v4 == 10) (v8 == 10)) then (T1 ∧ T1 ∧ T1 ∧ (bif (v4 == 0) then (tt ∧ T1 ∧ tt ∧ T1 ∧ T1 ∧ T1 ∧ T1 ∧ T1 ∧ (bif (v8 == 0) then (tt ∧ T1 ∧ tt ∧ T1 ∧ T1 ∧ tt ∧ tt ∧ (tt ∧ True) ∧ tt) else (T1 ∧ T1 ∧ T1 ∧ T1 ∧ (bif (v8 == 10) then (tt ∧ T1 ∧ T1 ∧ tt ∧ tt ∧ (tt ∧ True) ∧ tt) else (T1 ∧ T1 ∧ T1 ∧ T1 ∧ T1 ∧ tt ∧ tt ∧ (true = (v8 == 60) ∧ True) ∧ tt))))) else (T1 ∧ T1 ∧ T1 ∧ T1 ∧ (bif (v4 == 10) then (tt ∧ T1 ∧ T1 ∧ T1 ∧ T1 ∧ T1 ∧ (bif (v8 == 0) then (tt ∧ T1 ∧ tt ∧ T1 ∧ T1 ∧ tt ∧ tt ∧ (tt ∧ True) ∧ tt) else (T1 ∧ T1 ∧ T1 ∧ T1 ∧ (bif (v8 == 10) then (tt ∧ T1 ∧ T1 ∧ tt ∧ tt ∧ (tt ∧ True) ∧ tt) else (T1 ∧ T1 ∧ T1 ∧ T1 ∧ T1 ∧ tt ∧ tt ∧ (true = (v8 == 60) ∧ True) ∧ tt))))) else (T1 ∧ T1 ∧ T1 ∧ T1 ∧ T1 ∧ (bif (v4 == 12) then (T1 ∧ T1 ∧ T1 ∧ (bif (v8 == 0) then (tt ∧ T1 ∧ tt ∧ T1 ∧ T1 ∧ tt ∧ tt ∧ (tt ∧ True) ∧ tt) else (T1 ∧ T1 ∧ T1 ∧ T1 ∧ (bif (v8 == 10) then (tt ∧ T1 ∧ T1 ∧ tt ∧ tt ∧ (tt ∧ True) ∧ tt) else (T1 ∧ T1 ∧ T1 ∧ T1 ∧ T1 ∧ tt ∧ tt ∧ (true = (v8 == 60) ∧ True) ∧ tt))))) else (false = false ∧ T1 ∧ tt ∧ tt ∧ (true = false ∧ True) ∧ tt))))))) else (false = false ∧ T1 ∧ false = false ∧ T1 ∧ tt ∧ tt ∧ (true = false ∧ True) ∧ tt))))) else (false = false ∧ T1 ∧ tt ∧ T1 ∧ T1 ∧ T1 ∧ T1 ∧ T1 ∧ T1 ∧ (bif (@BEq.beq.{0} Bool (@instBEqOfDecidableEq.{0} Bool instDecidableEqBool) (v4 == 10) (v8 == 10)) then (T1 ∧ T1 ∧ T1 ∧ (bif (v4 == 0) then (tt ∧ T1 ∧ tt ∧ T1 ∧ T1 ∧ T1 ∧ T1 ∧ T1 ∧ (bif (v8 == 0) then (tt ∧ T1 ∧ tt ∧ T1 ∧ T1 ∧ tt ∧ tt ∧ (tt ∧ True) ∧ tt) else (T1 ∧ T1 ∧ T1 ∧ T1 ∧ (bif (v8 == 10) then (tt ∧ T1 ∧ T1 ∧ tt ∧ tt ∧ (tt ∧ True) ∧ tt) else (T1 ∧ T1 ∧ T1 ∧ T1 ∧ T1 ∧ tt ∧ tt ∧ (true = (v8 == 60) ∧ True) ∧ tt))))) else (T1 ∧ T1 ∧ T1 ∧ T1 ∧ (bif (v4 == 10) then (tt ∧ T1 ∧ T1 ∧ T1 ∧ T1 ∧ T1 ∧ (bif (v8 == 0) then (tt ∧ T1 ∧ tt ∧ T1 ∧ T1 ∧ tt ∧ tt ∧ (tt ∧ True) ∧ tt) else (T1 ∧ T1 ∧ T1 ∧ T1 ∧ (bif (v8 == 10) then (tt ∧ T1 ∧ T1 ∧ tt ∧ tt ∧ (tt ∧ True) ∧ tt) else (T1 ∧ T1 ∧ T1 ∧ T1 ∧ T1 ∧ tt ∧ tt ∧ (true = (v8 == 60) ∧ True) ∧ tt))))) else (T1 ∧ T1 ∧ T1 ∧ T1 ∧ T1 ∧ (bif (v4 == 12) then (T1 ∧ T1 ∧ T1 ∧ (bif (v8 == 0) then (tt ∧ T1 ∧ tt ∧ T1 ∧ T1 ∧ tt ∧ tt ∧ (tt ∧ True) ∧ tt) else (T1 ∧ T1 ∧ T1 ∧ T1 ∧ (bif (v8 == 10) then (tt ∧ T1 ∧ T1 ∧ tt ∧ tt ∧ (tt ∧ True) ∧ tt) else (T1 ∧ T1 ∧ T1 ∧ T1 ∧ T1 ∧ tt ∧ tt ∧ (true = (v8 == 60) ∧ True) ∧ tt))))) else (false = false ∧ T1 ∧ tt ∧ tt ∧ (true = false ∧ True) ∧ tt))))))) else (false = false ∧ T1 ∧ false = false ∧ T1 ∧ tt ∧ tt ∧ (true = false ∧ True) ∧ tt))))))))) else (false = false ∧ T1 ∧ T1 ∧ T1 ∧ T1 ∧ (bif (v8 != 0) then (T1 ∧ T1 ∧ T1 ∧ T1 ∧ (bif (v6 != 0) then (tt ∧ T1 ∧ tt ∧ tt ∧ (true = false ∧ True) ∧ tt) else (tt ∧ T1 ∧ T1 ∧ T1 ∧ T1 ∧ T1 ∧ T1 ∧ (bif (@BEq.beq.{0} Bool (@instBEqOfDecidableEq.{0} Bool instDecidableEqBool) (v4 == 10) (v8 == 10)) then (T1 ∧ T1 ∧ T1 ∧ (bif (v4 == 0) then (tt ∧ T1 ∧ tt ∧ T1 ∧ T1 ∧ T1 ∧ T1 ∧ T1 ∧ (bif (v8 == 0) then (tt ∧ T1 ∧ tt ∧ T1 ∧ T1 ∧ tt ∧ tt ∧ (tt ∧ True) ∧ tt) else (T1 ∧ T1 ∧ T1 ∧ T1 ∧ (bif (v8 == 10) then (tt ∧ T1 ∧ T1 ∧ tt ∧ tt ∧ (tt ∧ True) ∧ tt) else (T1 ∧ T1 ∧ T1 ∧ T1 ∧ T1 ∧ tt ∧ tt ∧ (true = (v8 == 60) ∧ True) ∧ tt))))) else (T1 ∧ T1 ∧ T1 ∧ T1 ∧ (bif (v4 == 10) then (tt ∧ T1 ∧ T1 ∧ T1 ∧ T1 ∧ T1 ∧ (bif (v8 == 0) then (tt ∧ T1 ∧ tt ∧ T1 ∧ T1 ∧ tt ∧ tt ∧ (tt ∧ True) ∧ tt) else (T1 ∧ T1 ∧ T1 ∧ T1 ∧ (bif (v8 == 10) then (tt ∧ T1 ∧ T1 ∧ tt ∧ tt ∧ (tt ∧ True) ∧ tt) else (T1 ∧ T1 ∧ T1 ∧ T1 ∧ T1 ∧ tt ∧ tt ∧ (true = (v8 == 60) ∧ True) ∧ tt))))) else (T1 ∧ T1 ∧ T1 ∧ T1 ∧ T1 ∧ (bif (v4 == 12) then (T1 ∧ T1 ∧ T1 ∧ (bif (v8 == 0) then (tt ∧ T1 ∧ tt ∧ T1 ∧ T1 ∧ tt ∧ tt ∧ (tt ∧ True) ∧ tt) else (T1 ∧ T1 ∧ T1 ∧ T1 ∧ (bif (v8 == 10) then (tt ∧ T1 ∧ T1 ∧ tt ∧ tt ∧ (tt ∧ True) ∧ tt) else (T1 ∧ T1 ∧ T1 ∧ T1 ∧ T1 ∧ tt ∧ tt ∧ (true = (v8 == 60) ∧ True) ∧ tt))))) else (false = false ∧ T1 ∧ tt ∧ tt ∧ (true = false ∧ True) ∧ tt))))))) else (false = false ∧ T1 ∧ false = false ∧ T1 ∧ tt ∧ tt ∧ (true = false ∧ True) ∧ tt))))) else (false = false ∧ T1 ∧ tt ∧ T1 ∧ T1 ∧ T1 ∧ T1 ∧ T1 ∧ T1 ∧ (bif (@BEq.beq.{0} Bool (@instBEqOfDecidableEq.{0} Bool instDecidableEqBool) (v4 == 10) (v8 == 10)) then (T1 ∧ T1 ∧ T1 ∧ (bif (v4 == 0) then (tt ∧ T1 ∧ tt ∧ T1 ∧ T1 ∧ T1 ∧ T1 ∧ T1 ∧ (bif (v8 == 0) then (tt ∧ T1 ∧ tt ∧ T1 ∧ T1 ∧ tt ∧ tt ∧ (tt ∧ True) ∧ tt) else (T1 ∧ T1 ∧ T1 ∧ T1 ∧ (bif (v8 == 10) then (tt ∧ T1 ∧ T1 ∧ tt ∧ tt ∧ (tt ∧ True) ∧ tt) else (T1 ∧ T1 ∧ T1 ∧ T1 ∧ T1 ∧ tt ∧ tt ∧ (true = (v8 == 60) ∧ True) ∧ tt))))) else (T1 ∧ T1 ∧ T1 ∧ T1 ∧ (bif (v4 == 10) then (tt ∧ T1 ∧ T1 ∧ T1 ∧ T1 ∧ T1 ∧ (bif (v8 == 0) then (tt ∧ T1 ∧ tt ∧ T1 ∧ T1 ∧ tt ∧ tt ∧ (tt ∧ True) ∧ tt) else (T1 ∧ T1 ∧ T1 ∧ T1 ∧ (bif (v8 == 10) then (tt ∧ T1 ∧ T1 ∧ tt ∧ tt ∧ (tt ∧ True) ∧ tt) else (T1 ∧ T1 ∧ T1 ∧ T1 ∧ T1 ∧ tt ∧ tt ∧ (true = (v8 == 60) ∧ True) ∧ tt))))) else (T1 ∧ T1 ∧ T1 ∧ T1 ∧ T1 ∧ (bif (v4 == 12) then (T1 ∧ T1 ∧ T1 ∧ (bif (v8 == 0) then (tt ∧ T1 ∧ tt ∧ T1 ∧ T1 ∧ tt ∧ tt ∧ (tt ∧ True) ∧ tt) else (T1 ∧ T1 ∧ T1 ∧ T1 ∧ (bif (v8 == 10) then (tt ∧ T1 ∧ T1 ∧ tt ∧ tt ∧ (tt ∧ True) ∧ tt) else (T1 ∧ T1 ∧ T1 ∧ T1 ∧ T1 ∧ tt ∧ tt ∧ (true = (v8 == 60) ∧ True) ∧ tt))))) else (false = false ∧ T1 ∧ tt ∧ tt ∧ (true = false ∧ True) ∧ tt))))))) else (false = false ∧ T1 ∧ false = false ∧ T1 ∧ tt ∧ tt ∧ (true = false ∧ True) ∧ tt))))))))) else (false = false ∧ T1 ∧ tt ∧ T1 ∧ T1 ∧ T1 ∧ (bif (v8 == 0) then (T1 ∧ (T1 ∧ True) ∧ T1 ∧ T1 ∧ (bif (Bool.not (balOK v6)) then (tt ∧ T1 ∧ T1 ∧ tt ∧ tt ∧ T1 ∧ tt ∧ tt ∧ (true = false ∧ True) ∧ tt) else (T1 ∧ T1 ∧ (@Ne.{1} Int (8 : Int) (0 : Int)) ∧ T1 ∧ T1 ∧ (@Ne.{1} Int (8 : Int) (0 : Int)) ∧ (T1 ∧ True) ∧ ∀ v10 : (List UInt8), (v10 = (pair6 (IntKind.wrap IntKind.u64 (Int.tdiv (IntKind.wrap IntKind.u64 v6) 8)) (Int.tmod (IntKind.wrap IntKind.u64 v6) 8))) → T1 ∧ T1 ∧ T1 ∧ T1 ∧ T1 ∧ (bif (Bool.not (@BEq.beq.{0} (List UInt8) (@List.instBEq.{0} UInt8 (@instBEqOfDecidableEq.{0} UInt8 instDecidableEqUInt8)) v10 s)) then (tt ∧ tt ∧ T1 ∧ tt ∧ tt ∧ (true = false ∧ True) ∧ tt) else (T1 ∧ T1 ∧ T1 ∧ (bif (v8 != 0) then (T1 ∧ T1 ∧ T1 ∧ T1 ∧ (bif (v6 != 0) then (tt ∧ T1 ∧ tt ∧ tt ∧ (true = false ∧ True) ∧ tt) else (tt ∧ T1 ∧ T1 ∧ T1 ∧ T1 ∧ T1 ∧ T1 ∧ (bif (@BEq.beq.{0} Bool (@instBEqOfDecidableEq.{0} Bool instDecidableEqBool) (v4 == 10) (v8 == 10)) then (T1 ∧ T1 ∧ T1 ∧ (bif (v4 == 0) then (tt ∧ T1 ∧ tt ∧ T1 ∧ T1 ∧ T1 ∧ T1 ∧ T1 ∧ (bif (v8 == 0) then (tt ∧ T1 ∧ tt ∧ T1 ∧ T1 ∧ tt ∧ tt ∧ (tt ∧ True) ∧ tt) else (T1 ∧ T1 ∧ T1 ∧ T1 ∧ (bif (v8 == 10) then (tt ∧ T1 ∧ T1 ∧ tt ∧ tt ∧ (tt ∧ True) ∧ tt) else (T1 ∧ T1 ∧ T1 ∧ T1 ∧ T1 ∧ tt ∧ tt ∧ (true = (v8 == 60) ∧ True) ∧ tt))))) else (T1 ∧ T1 ∧ T1 ∧ T1 ∧ (bif (v4 == 10) then (tt ∧ T1 ∧ T1 ∧ T1 ∧ T1 ∧ T1 ∧ (bif (v8 == 0) then (tt ∧ T1 ∧ tt ∧ T1 ∧ T1 ∧ tt ∧ tt ∧ (tt ∧ True) ∧ tt) else (T1 ∧ T1 ∧ T1 ∧ T1 ∧ (bif (v8 == 10) then (tt ∧ T1 ∧ T1 ∧ tt ∧ tt ∧ (tt ∧ True) ∧ tt) else (T1 ∧ T1 ∧ T1 ∧ T1 ∧ T1 ∧ tt ∧ tt ∧ (true = (v8 == 60) ∧ True) ∧ tt))))) else (T1 ∧ T1 ∧ T1 ∧ T1 ∧ T1 ∧ (bif (v4 == 12) then (T1 ∧ T1 ∧ T1 ∧ (bif (v8 == 0) then (tt ∧ T1 ∧ tt ∧ T1 ∧ T1 ∧ tt ∧ tt ∧ (tt ∧ True) ∧ tt) else (T1 ∧ T1 ∧ T1 ∧ T1 ∧ (bif (v8 == 10) then (tt ∧ T1 ∧ T1 ∧ tt ∧ tt ∧ (tt ∧ True) ∧ tt) else (T1 ∧ T1 ∧ T1 ∧ T1 ∧ T1 ∧ tt ∧ tt ∧ (true = (v8 == 60) ∧ True) ∧ tt))))) else (false = false ∧ T1 ∧ tt ∧ tt ∧ (true = false ∧ True) ∧ tt))))))) else (false = false ∧ T1 ∧ false = false ∧ T1 ∧ tt ∧ tt ∧ (true = false ∧ True) ∧ tt))))) else (false = false ∧ T1 ∧ tt ∧ T1 ∧ T1 ∧ T1 ∧ T1 ∧ T1 ∧ T1 ∧ (bif (@BEq.beq.{0} Bool (@instBEqOfDecidableEq.{0} Bool instDecidableEqBool) (v4 == 10) (v8 == 10)) then (T1 ∧ T1 ∧ T1 ∧ (bif (v4 == 0) then (tt ∧ T1 ∧ tt ∧ T1 ∧ T1 ∧ T1 ∧ T1 ∧ T1 ∧ (bif (v8 == 0) then (tt ∧ T1 ∧ tt ∧ T1 ∧ T1 ∧ tt ∧ tt ∧ (tt ∧ True) ∧ tt) else (T1 ∧ T1 ∧ T1 ∧ T1 ∧ (bif (v8 == 10) then (tt ∧ T1 ∧ T1 ∧ tt ∧ tt ∧ (tt ∧ True) ∧ tt) else (T1 ∧ T1 ∧ T1 ∧ T1 ∧ T1 ∧ tt ∧ tt ∧ (true = (v8 == 60) ∧ True) ∧ tt))))) else (T1 ∧ T1 ∧ T1 ∧ T1 ∧ (bif (v4 == 10) then (tt ∧ T1 ∧ T1 ∧ T1 ∧ T1 ∧ T1 ∧ (bif (v8 == 0) then (tt ∧ T1 ∧ tt ∧ T1 ∧ T1 ∧ tt ∧ tt ∧ (tt ∧ True) ∧ tt) else (T1 ∧ T1 ∧ T1 ∧ T1 ∧ (bif (v8 == 10) then (tt ∧ T1 ∧ T1 ∧ tt ∧ tt ∧ (tt ∧ True) ∧ tt) else (T1 ∧ T1 ∧ T1 ∧ T1 ∧ T1 ∧ tt ∧ tt ∧ (true = (v8 == 60) ∧ True) ∧ tt))))) else (T1 ∧ T1 ∧ T1 ∧ T1 ∧ T1 ∧ (bif (v4 == 12) then (T1 ∧ T1 ∧ T1 ∧ (bif (v8 == 0) then (tt ∧ T1 ∧ tt ∧ T1 ∧ T1 ∧ tt ∧ tt ∧ (tt ∧ True) ∧ tt) else (T1 ∧ T1 ∧ T1 ∧ T1 ∧ (bif (v8 == 10) then (tt ∧ T1 ∧ T1 ∧ tt ∧ tt ∧ (tt ∧ True) ∧ tt) else (T1 ∧ T1 ∧ T1 ∧ T1 ∧ T1 ∧ tt ∧ tt ∧ (true = (v8 == 60) ∧ True) ∧ tt))))) else (false = false ∧ T1 ∧ tt ∧ tt ∧ (true = false ∧ True) ∧ tt))))))) else (false = false ∧ T1 ∧ false = false ∧ T1 ∧ tt ∧ tt ∧ (true = false ∧ True) ∧ tt))))))))) else (false = false ∧ T1 ∧ T1 ∧ T1 ∧ T1 ∧ (bif (v8 != 0) then (T1 ∧ T1 ∧ T1 ∧ T1 ∧ (bif (v6 != 0) then (tt ∧ T1 ∧ tt ∧ tt ∧ (true = false ∧ True) ∧ tt) else (tt ∧ T1 ∧ T1 ∧ T1 ∧ T1 ∧ T1 ∧ T1 ∧ (bif (@BEq.beq.{0} Bool (@instBEqOfDecidableEq.{0} Bool instDecidableEqBool) (v4 == 10) (v8 == 10)) then (T1 ∧ T1 ∧ T1 ∧ (bif (v4 == 0) then (tt ∧ T1 ∧ tt ∧ T1 ∧ T1 ∧ T1 ∧ T1 ∧ T1 ∧ (bif (v8 == 0) then (tt ∧ T1 ∧ tt ∧ T1 ∧ T1 ∧ tt ∧ tt ∧ (tt ∧ True) ∧ tt) else (T1 ∧ T1 ∧ T1 ∧ T1 ∧ (bif (v8 == 10) then (tt ∧ T1 ∧ T1 ∧ tt ∧ tt ∧ (tt ∧ True) ∧ tt) else (T1 ∧ T1 ∧ T1 ∧ T1 ∧ T1 ∧ tt ∧ tt ∧ (true = (v8 == 60) ∧ True) ∧ tt))))) else (T1 ∧ T1 ∧ T1 ∧ T1 ∧ (bif (v4 == 10) then (tt ∧ T1 ∧ T1 ∧ T1 ∧ T1 ∧ T1 ∧ (bif (v8 == 0) then (tt ∧ T1 ∧ tt ∧ T1 ∧ T1 ∧ tt ∧ tt ∧ (tt ∧ True) ∧ tt) else (T1 ∧ T1 ∧ T1 ∧ T1 ∧ (bif (v8 == 10) then (tt ∧ T1 ∧ T1 ∧ tt ∧ tt ∧ (tt ∧ True) ∧ tt) else (T1 ∧ T1 ∧ T1 ∧ T1 ∧ T1 ∧ tt ∧ tt ∧ (true = (v8 == 60) ∧ True) ∧ tt))))) else (T1 ∧ T1 ∧ T1 ∧ T1 ∧ T1 ∧ (bif (v4 == 12) then (T1 ∧ T1 ∧ T1 ∧ (bif (v8 == 0) then (tt ∧ T1 ∧ tt ∧ T1 ∧ T1 ∧ tt ∧ tt ∧ (tt ∧ True) ∧ tt) else (T1 ∧ T1 ∧ T1 ∧ T1 ∧ (bif (v8 == 10) then (tt ∧ T1 ∧ T1 ∧ tt ∧ tt ∧ (tt ∧ True) ∧ tt) else (T1 ∧ T1 ∧ T1 ∧ T1 ∧ T1 ∧ tt ∧ tt ∧ (true = (v8 == 60) ∧ True) ∧ tt))))) else (false = false ∧ T1 ∧ tt ∧ tt ∧ (true = false ∧ True) ∧ tt))))))) else (false = false ∧ T1 ∧ false = false ∧ T1 ∧ tt ∧ tt ∧ (true = false ∧ True) ∧ tt))))) else (false = false ∧ T1 ∧ tt ∧ T1 ∧ T1 ∧ T1 ∧ T1 ∧ T1 ∧ T1 ∧ (bif (@BEq.beq.{0} Bool (@instBEqOfDecidableEq.{0} Bool instDecidableEqBool) (v4 == 10) (v8 == 10)) then (T1 ∧ T1 ∧ T1 ∧ (bif (v4 == 0) then (tt ∧ T1 ∧ tt ∧ T1 ∧ T1 ∧ T1 ∧ T1 ∧ T1 ∧ (bif (v8 == 0) then (tt ∧ T1 ∧ tt ∧ T1 ∧ T1 ∧ tt ∧ tt ∧ (tt ∧ True) ∧ tt) else (T1 ∧ T1 ∧ T1 ∧ T1 ∧ (bif (v8 == 10) then (tt ∧ T1 ∧ T1 ∧ tt ∧ tt ∧ (tt ∧ True) ∧ tt) else (T1 ∧ T1 ∧ T1 ∧ T1 ∧ T1 ∧ tt ∧ tt ∧ (true = (v8 == 60) ∧ True) ∧ tt))))) else (T1 ∧ T1 ∧ T1 ∧ T1 ∧ (bif (v4 == 10) then (tt ∧ T1 ∧ T1 ∧ T1 ∧ T1 ∧ T1 ∧ (bif (v8 == 0) then (tt ∧ T1 ∧ tt ∧ T1 ∧ T1 ∧ tt ∧ tt ∧ (tt ∧ True) ∧ tt) else (T1 ∧ T1 ∧ T1 ∧ T1 ∧ (bif (v8 == 10) then (tt ∧ T1 ∧ T1 ∧ tt ∧ tt ∧ (tt ∧ True) ∧ tt) else (T1 ∧ T1 ∧ T1 ∧ T1 ∧ T1 ∧ tt ∧ tt ∧ (true = (v8 == 60) ∧ True) ∧ tt))))) else (T1 ∧ T1 ∧ T1 ∧ T1 ∧ T1 ∧ (bif (v4 == 12) then (T1 ∧ T1 ∧ T1 ∧ (bif (v8 == 0) then (tt ∧ T1 ∧ tt ∧ T1 ∧ T1 ∧ tt ∧ tt ∧ (tt ∧ True) ∧ tt) else (T1 ∧ T1 ∧ T1 ∧ T1 ∧ (bif (v8 == 10) then (tt ∧ T1 ∧ T1 ∧ tt ∧ tt ∧ (tt ∧ True) ∧ tt) else (T1 ∧ T1 ∧ T1 ∧ T1 ∧ T1 ∧ tt ∧ tt ∧ (true = (v8 == 60) ∧ True) ∧ tt))))) else (false = false ∧ T1 ∧ tt ∧ tt ∧ (true = false ∧ True) ∧ tt))))))) else (false = false ∧ T1 ∧ false = false ∧ T1 ∧ tt ∧ tt ∧ (true = false ∧ True) ∧ tt)))))))))))))) : inLawReads0 s :=
  Eq.mp (show _ = _ by kernel_rfl) h
end Go.Proofs.YtpomloangafbkaaDoor
/- The conditions hold: names and ballots as texts. -/
namespace Go.Proofs.YtpomloangafbkaaDoor
set_option linter.unusedVariables false
set_option linter.unusedSimpArgs false
open Go.RowKit
set_option maxRecDepth 100000

theorem digL_len (v : Int) (h : v ≤ 18446744073709551615) : (digL v).length ≤ 21 := by
  unfold digL
  have := decDigits_len 20 v.toNat (by omega)
  omega
theorem okPair0 : OkPair0 := by
  intro a b hq hh
  refine vcPair0 a b ?_
  have h1 := itoa_len a hh.1.1 hh.1.2
  have h2 := itoa_len b hh.2.1 hh.2.2
  simp only [true_and, and_true, forall_eq, eq_self]
  refine ⟨by omega, by simp [catL]; omega, rfl⟩
theorem okNumbers0 : OkNumbers0 := by
  intro s hq
  refine vcNumbers0 s ?_
  have hl := cut_len s [46]
  have hq' : s.length ≤ 100000000 := hq
  simp only [true_and, and_true, forall_eq, eq_self]
  exact ⟨by omega, by omega, by omega, rfl, rfl, rfl⟩
theorem okIdShow0 : OkIdShow0 := by
  intro r n hq
  refine vcIdShow0 r n ?_
  simp only [true_and, and_true, forall_eq, eq_self]
  refine cond_prop (fun h => ?_) fun h => ?_
  · have h' : rightId r n = false := by simpa using h
    simp [idShowV, idShowE, h']
  · have h' : rightId r n = true := by simpa using h
    simp [idShowV, idShowE, h']
theorem okReadID0 : OkReadID0 := by
  intro s hq
  refine vcReadID0 s ?_
  simp only [true_and, and_true, forall_eq, eq_self]
  refine ⟨hq, cond_prop (fun h => ?_) fun h => cond_prop (fun g => ?_) fun g => ?_⟩
  · have h' : numK s = false := by simpa using h
    simp [ridR, ridS, ridE, h']
  · have h' : numK s = true := by simpa using h
    have g' : rightId (numA s) (numB s) = false := by simpa using g
    simp [ridR, ridS, ridE, h', g']
  · have h' : numK s = true := by simpa using h
    have g' : rightId (numA s) (numB s) = true := by simpa using g
    simp [ridR, ridS, ridE, h', g']
theorem okBalShow0 : OkBalShow0 := by
  intro b hq hb
  refine vcBalShow0 b ?_
  simp only [true_and, and_true, forall_eq, eq_self]
  refine cond_prop (fun h => ?_) fun h => ?_
  · have h' : balOK b = false := by simpa using h
    simp [balShowV, balShowE, h']
  · have h' : balOK b = true := by simpa using h
    simp [balShowV, balShowE, h']
theorem or8 {a r : Int} (h0 : 0 ≤ a) (h1 : a < 16777216) (h2 : 0 ≤ r) (h3 : r ≤ 6) : intBits .or .u32 (IntKind.u32.wrap (IntKind.u32.wrap a * 8)) (IntKind.u32.wrap r) = a * 8 + r := by
  obtain ⟨n, rfl⟩ : ∃ n : Nat, a = n := ⟨a.toNat, by omega⟩
  obtain ⟨m, rfl⟩ : ∃ m : Nat, r = m := ⟨r.toNat, by omega⟩
  have w1 : IntKind.u32.wrap (n : Int) = n := by rw [IntKind.wrap_u32]; omega
  have w2 : IntKind.u32.wrap (m : Int) = m := by rw [IntKind.wrap_u32]; omega
  have w3 : IntKind.u32.wrap ((n : Int) * 8) = (n : Int) * 8 := by rw [IntKind.wrap_u32]; omega
  rw [w1, w2, w3]
  have e1 : (BitVec.ofInt 32 ((n : Int) * 8) ||| BitVec.ofInt 32 (m : Int)).toNat = n * 8 + m := by
    rw [BitVec.toNat_or]
    have t1 : (BitVec.ofInt 32 ((n : Int) * 8)).toNat = n * 8 := by rw [BitVec.toNat_ofInt]; omega
    have t2 : (BitVec.ofInt 32 (m : Int)).toNat = m := by rw [BitVec.toNat_ofInt]; omega
    rw [t1, t2, show n * 8 = n <<< 3 by rw [Nat.shiftLeft_eq]]
    rw [← Nat.shiftLeft_add_eq_or_of_lt (show m < 2 ^ 3 by omega) n]
  show IntKind.u32.wrap ((BitVec.ofInt 32 ((n : Int) * 8) ||| BitVec.ofInt 32 (m : Int)).toNat : Int) = _
  rw [e1, IntKind.wrap_u32]; omega
theorem okReadBal0 : OkReadBal0 := by
  intro s hq
  refine vcReadBal0 s ?_
  simp only [true_and, and_true, forall_eq, eq_self]
  have bad : numK s = true → (numA s < 0 ∨ 16777216 ≤ numA s ∨ numB s < 0 ∨ 6 < numB s) → rbalV s = 0 ∧ rbalE s = 60 := by
    intro h1 h2
    have e : rbalE s = 60 := by unfold rbalE; rw [if_pos h1, if_pos h2]
    exact ⟨by unfold rbalV; rw [if_neg (by omega)], e⟩
  refine ⟨hq, cond_prop (fun h => ?_) fun h => ?_⟩
  · have h' : numK s = false := by simpa using h
    have e : rbalE s = 10 := by unfold rbalE; rw [if_neg (by rw [h']; simp)]
    exact ⟨by unfold rbalV; rw [if_neg (by omega)], e⟩
  · have h' : numK s = true := by simpa using h
    refine cond_prop (fun g => bad h' (.inl (of_decide_eq_true g))) fun g1 => cond_prop (fun g => bad h' (.inr (.inl (of_decide_eq_true g)))) fun g2 => cond_prop (fun g => bad h' (.inr (.inr (.inl (of_decide_eq_true g))))) fun g3 => cond_prop (fun g => bad h' (.inr (.inr (.inr (of_decide_eq_true g))))) fun g4 => ?_
    have g1 := of_decide_eq_false g1
    have g2 := of_decide_eq_false g2
    have g3 := of_decide_eq_false g3
    have g4 := of_decide_eq_false g4
    rw [or8 (by omega) (by omega) (by omega) (by omega)]
    have e : rbalE s = if balOK (numA s * 8 + numB s) then 0 else 60 := by unfold rbalE; rw [if_pos h', if_neg (by omega)]
    refine ⟨by omega, cond_prop (fun g => ?_) fun g => ?_⟩
    · have g' : balOK (numA s * 8 + numB s) = false := by simpa using g
      rw [g'] at e
      have e : rbalE s = 60 := e
      exact ⟨by unfold rbalV; rw [if_neg (by omega)], e⟩
    · have g' : balOK (numA s * 8 + numB s) = true := by simpa using g
      rw [g'] at e
      have e : rbalE s = 0 := e
      exact ⟨by unfold rbalV; rw [if_pos e], e⟩
theorem digL_step {v : Int} (h0 : 0 ≤ v) (h1 : v ≤ 18446744073709551615) :
    bytesL [AV.int .u8 (IntKind.u8.wrap (IntKind.u64.wrap (48 + v.tmod 10)))] = [UInt8.ofNat (48 + v.toNat % 10)] ∧ isBytes [AV.int .u8 (IntKind.u8.wrap (IntKind.u64.wrap (48 + v.tmod 10)))] ∧ IntKind.u64.wrap (v.tdiv 10) = v / 10 := by
  have e1 : v.tmod 10 = v % 10 := Int.tmod_eq_emod_of_nonneg h0
  have e2 : v.tdiv 10 = v / 10 := Int.tdiv_eq_ediv_of_nonneg h0
  have w1 : IntKind.u8.wrap (IntKind.u64.wrap (48 + v % 10)) = 48 + v % 10 := by rw [IntKind.wrap_u64, IntKind.wrap_u8]; omega
  rw [e1, e2, w1]
  have eb : ([AV.int .u8 (48 + v % 10)] : List AV) = bytesAV [UInt8.ofNat (48 + v % 10).toNat] := bytes_one (by omega) (by omega)
  rw [eb]
  refine ⟨?_, isBytes_bytesAV _, by rw [IntKind.wrap_u64]; omega⟩
  rw [bytesL_bytesAV]
  congr 2; omega
theorem okDigits60 : OkDigits60 := by
  intro v hq hv
  refine vcDigits60 v ?_
  simp only [true_and, and_true, forall_eq, eq_self]
  refine ⟨⟨((v, []) : Int × List UInt8), ⟨rfl, rfl⟩, hv.1, Int.le_refl _, by simp⟩, ?_⟩
  rintro ⟨x, l⟩ ⟨p1, p2, p3⟩
  simp only at p1 p2 p3 ⊢
  obtain ⟨s1, s2, s3⟩ := digL_step p1 (by omega)
  have hl := digL_len v hv.2
  rw [p3] at hl
  simp only [List.append_eq, List.length_append] at hl
  rw [s1, s3]
  refine ⟨by decide, s2, by simp; omega, by decide, cond_prop (fun h => ?_) fun h => ?_⟩
  · have h' : x / 10 = 0 := by simpa using h
    have hx : x.toNat < 10 := by omega
    rw [p3]
    have : digL x = [UInt8.ofNat (48 + x.toNat % 10)] := by
      unfold digL
      rw [Lib.decDigits, dif_pos hx, Nat.mod_eq_of_lt hx]
    rw [this]; rfl
  · have h' : x / 10 ≠ 0 := by simpa using h
    have hx : ¬ x.toNat < 10 := by omega
    refine ⟨((x / 10, UInt8.ofNat (48 + x.toNat % 10) :: l) : Int × List UInt8), ⟨rfl, rfl⟩, ⟨by show 0 ≤ x / 10; omega, by show x / 10 ≤ v; omega, ?_⟩, by show (x / 10).toNat < x.toNat; omega⟩
    have : digL x = digL (x / 10) ++ [UInt8.ofNat (48 + x.toNat % 10)] := by
      unfold digL
      rw [Lib.decDigits, dif_neg hx, show (x / 10).toNat = x.toNat / 10 by omega]
    show digL v = digL (x / 10) ++ (UInt8.ofNat (48 + x.toNat % 10) :: l)
    rw [p3, this]
    simp
theorem okPair060 : OkPair060 := by
  intro a b hq hh
  refine vcPair060 a b ?_
  have h1 := digL_len a hh.1.2
  have h2 := digL_len b hh.2.2
  simp only [true_and, and_true, forall_eq, eq_self]
  refine ⟨by omega, by simp [catL]; omega, rfl⟩
theorem okBalNext0 : OkBalNext0 := by
  intro b r hq
  refine vcBalNext0 b r ?_
  simp only [true_and, and_true, forall_eq, eq_self]
  rcases hq with ⟨rfl, rfl⟩ | ⟨rfl, rfl⟩ <;> simp <;> decide
theorem okAnchor60 : OkAnchor60 := by
  intro hq
  refine vcAnchor60 ?_
  simp
theorem itoa_dig {n : Int} (h : 0 ≤ n) : Lib.itoa n = digL n := by unfold Lib.itoa digL; rw [if_neg (by omega)]
theorem pair_dig {a b : Int} (ha : 0 ≤ a) (hb : 0 ≤ b) : pairL a b = pair6 a b := by unfold pairL pair6; rw [itoa_dig ha, itoa_dig hb]
theorem dig_ndot (v : Int) : ∀ c ∈ digL v, c ≠ 46 := by
  intro c hc e
  have := dec_dig _ c hc
  subst e
  exact absurd this.1 (by decide)
theorem pair_nums {a b : Int} (ha : 0 ≤ a) (hb : 0 ≤ b) (ha' : a ≤ 9223372036854775807) (hb' : b ≤ 9223372036854775807) : numA (pairL a b) = a ∧ numB (pairL a b) = b ∧ numK (pairL a b) = true := by
  have hc : Lib.cut (pairL a b) [46] = (digL a, digL b, true) := by
    have : pairL a b = digL a ++ 46 :: digL b := by unfold pairL; rw [itoa_dig ha, itoa_dig hb]; simp [catL]
    rw [this]; exact cut_at _ _ _ (dig_ndot a)
  have h1 : numA (pairL a b) = a := by
    unfold numA; rw [hc]
    show atoiV (Lib.decDigits a.toNat) = a
    rw [atoi_dec (by omega)]; omega
  have h2 : numB (pairL a b) = b := by
    unfold numB; rw [hc]
    show atoiV (Lib.decDigits b.toNat) = b
    rw [atoi_dec (by omega)]; omega
  refine ⟨h1, h2, ?_⟩
  unfold numK; rw [h1, h2]; simp
theorem pair_len {a b : Int} (ha : 0 ≤ a) (hb : 0 ≤ b) (ha' : a ≤ 9223372036854775807) (hb' : b ≤ 9223372036854775807) : (pairL a b).length ≤ 100 := by
  rw [pair_dig ha hb]
  unfold pair6
  have := digL_len a (by omega)
  have := digL_len b (by omega)
  simp [catL]; omega
theorem rightId_facts {r n : Int} (h : rightId r n = true) : 0 ≤ r ∧ r ≤ 6 ∧ 0 ≤ n ∧ n < 1024 := by simpa [rightId] using h
theorem balOK_facts {b : Int} (h : balOK b = true) (h0 : 0 ≤ b) : 0 ≤ b / 8 ∧ b / 8 < 16777216 ∧ 0 ≤ b % 8 ∧ b % 8 ≤ 6 := by
  simp [balOK] at h; omega
theorem bal_text {b : Int} (h0 : 0 ≤ b) (h1 : b ≤ 4294967295) :
    (balOK b = false → balShowV b = [] ∧ balShowE b = 60) ∧ (balOK b = true → balShowE b = 0 ∧ (balShowV b).length ≤ 100000000 ∧ balShowV b = pair6 (b / 8) (b % 8) ∧ rbalV (balShowV b) = b ∧ rbalE (balShowV b) = 0) := by
  refine ⟨fun h => by simp [balShowV, balShowE, h], fun h => ?_⟩
  obtain ⟨f1, f2, f3, f4⟩ := balOK_facts h h0
  obtain ⟨n1, n2, n3⟩ := pair_nums f1 f3 (by omega) (by omega)
  have e : balShowV b = pairL (b / 8) (b % 8) := by unfold balShowV; rw [if_pos h]
  have hl := pair_len f1 f3 (by omega) (by omega)
  have eb : b / 8 * 8 + b % 8 = b := by omega
  have ee : rbalE (pairL (b / 8) (b % 8)) = 0 := by
    unfold rbalE
    rw [if_pos n3, n1, n2, if_neg (by omega), eb, if_pos h]
  rw [e]
  refine ⟨by simp [balShowE, h], by omega, pair_dig f1 f3, ?_, ee⟩
  unfold rbalV; rw [if_pos ee, n1, n2, eb]
theorem okLawTexts0 : OkLawTexts0 := by
  intro r n b hq hb
  refine vcLawTexts0 r n b ?_
  simp only [true_and, and_true, forall_eq, eq_self]
  obtain ⟨t1, t2⟩ := bal_text hb.1 hb.2
  have wb : IntKind.u64.wrap b = b := wrap_u64 hb.1 (by omega)
  have e1 : b.tdiv 8 = b / 8 := Int.tdiv_eq_ediv_of_nonneg hb.1
  have e2 : b.tmod 8 = b % 8 := Int.tmod_eq_emod_of_nonneg hb.1
  have w8 : IntKind.u64.wrap (b / 8) = b / 8 := wrap_u64 (by omega) (by omega)
  rw [wb, e1, e2, w8]
  refine cond_prop (fun h => ?_) fun h => ?_
  · obtain ⟨f1, f2, f3, f4⟩ := rightId_facts h
    obtain ⟨n1, n2, n3⟩ := pair_nums f1 f3 (by omega) (by omega)
    have hl := pair_len f1 f3 (by omega) (by omega)
    have e : idShowV r n = pairL r n := by unfold idShowV; rw [if_pos h]
    have ee : idShowE r n = 0 := by unfold idShowE; rw [if_pos h]
    have re : ridE (pairL r n) = 0 := by unfold ridE; rw [if_pos n3, n1, n2, if_pos h]
    have rr : ridR (pairL r n) = r := by unfold ridR; rw [if_pos re, n1]
    have rs : ridS (pairL r n) = n := by unfold ridS; rw [if_pos re, n2]
    have wr : IntKind.u64.wrap r = r := wrap_u64 (by omega) (by omega)
    have wn : IntKind.u64.wrap n = n := wrap_u64 (by omega) (by omega)
    rw [e, ee, re, rr, rs, wr, wn, ← pair_dig f1 f3]
    refine ⟨by omega, cond_prop (fun g => by simp at g) fun _ => cond_prop (fun g => by simp at g) fun _ => cond_prop (fun g => by simp at g) fun _ => cond_prop (fun g => by simp at g) fun _ => cond_prop (fun g => ?_) fun g => ?_⟩
    · obtain ⟨u1, u2⟩ := t1 (by simpa using g)
      rw [u1, u2]
      refine cond_prop (fun _ => by simp) fun g => by simp at g
    · obtain ⟨u1, u2, u3, u4, u5⟩ := t2 (by simpa using g)
      rw [u1, u4, u5]
      refine ⟨u2, cond_prop (fun _ => ⟨by decide, by decide, ?_⟩) fun g => by simp at g⟩
      rw [u3]
      refine cond_prop (fun _ => cond_prop (fun _ => by simp) fun g => by simp at g) fun g => by simp at g
  · have e : idShowV r n = [] := by unfold idShowV; rw [if_neg (by rw [h]; simp)]
    have ee : idShowE r n = 12 := by unfold idShowE; rw [if_neg (by rw [h]; simp)]
    rw [e, ee]
    refine cond_prop (fun g => by simp at g) fun _ => cond_prop (fun g => by simp at g) fun _ => cond_prop (fun g => ?_) fun g => ?_
    · obtain ⟨u1, u2⟩ := t1 (by simpa using g)
      rw [u1, u2]
      refine cond_prop (fun _ => by simp) fun g => by simp at g
    · obtain ⟨u1, u2, u3, u4, u5⟩ := t2 (by simpa using g)
      rw [u1, u4, u5]
      refine ⟨u2, cond_prop (fun _ => ⟨by decide, by decide, ?_⟩) fun g => by simp at g⟩
      rw [u3]
      refine cond_prop (fun _ => cond_prop (fun _ => by simp) fun g => by simp at g) fun g => by simp at g
set_option maxHeartbeats 1000000 in
theorem okLawReads0 : OkLawReads0 := by
  intro s hq
  refine vcLawReads0 s ?_
  simp only [true_and, and_true, forall_eq, eq_self]
  refine cond_prop (fun _ => trivial) fun h => ?_
  have hl : s.length ≤ 100 := by simp at h; omega
  refine ⟨by omega, by omega, ?_⟩
  cases hk : numK s with
  | false =>
    have a1 : ridE s = 10 := by unfold ridE; rw [if_neg (by rw [hk]; simp)]
    have a2 : ridR s = 0 := by unfold ridR; rw [if_neg (by omega)]
    have a3 : ridS s = 0 := by unfold ridS; rw [if_neg (by omega)]
    have a4 : rbalE s = 10 := by unfold rbalE; rw [if_neg (by rw [hk]; simp)]
    have a5 : rbalV s = 0 := by unfold rbalV; rw [if_neg (by omega)]
    rw [a1, a2, a3, a4, a5]
    simp
  | true =>
    have hs : pairL (numA s) (numB s) = s := by unfold numK at hk; simpa using hk
    have I : (ridE s = 0 ∧ rightId (ridR s) (ridS s) = true ∧ pair6 (IntKind.u64.wrap (ridR s)) (IntKind.u64.wrap (ridS s)) = s) ∨ (ridE s = 12 ∧ ridR s = 0 ∧ ridS s = 0) := by
      cases hr : rightId (numA s) (numB s) with
      | false =>
        have a1 : ridE s = 12 := by unfold ridE; rw [if_pos hk, if_neg (by rw [hr]; simp)]
        exact .inr ⟨a1, by unfold ridR; rw [if_neg (by omega)], by unfold ridS; rw [if_neg (by omega)]⟩
      | true =>
        have a1 : ridE s = 0 := by unfold ridE; rw [if_pos hk, if_pos hr]
        obtain ⟨f1, f2, f3, f4⟩ := rightId_facts hr
        have a2 : ridR s = numA s := by unfold ridR; rw [if_pos a1]
        have a3 : ridS s = numB s := by unfold ridS; rw [if_pos a1]
        refine .inl ⟨a1, by rw [a2, a3]; exact hr, ?_⟩
        rw [a2, a3, wrap_u64 (by omega) (by omega), wrap_u64 (by omega) (by omega), ← pair_dig f1 f3]; exact hs
    have B : (rbalE s = 0 ∧ balOK (rbalV s) = true ∧ pair6 (IntKind.u64.wrap ((IntKind.u64.wrap (rbalV s)).tdiv 8)) ((IntKind.u64.wrap (rbalV s)).tmod 8) = s) ∨ (rbalE s = 60 ∧ rbalV s = 0) := by
      by_cases hb : numA s < 0 ∨ 16777216 ≤ numA s ∨ numB s < 0 ∨ 6 < numB s
      · have a1 : rbalE s = 60 := by unfold rbalE; rw [if_pos hk, if_pos hb]
        exact .inr ⟨a1, by unfold rbalV; rw [if_neg (by omega)]⟩
      · cases hr : balOK (numA s * 8 + numB s) with
        | false =>
          have a1 : rbalE s = 60 := by unfold rbalE; rw [if_pos hk, if_neg hb, if_neg (by rw [hr]; simp)]
          exact .inr ⟨a1, by unfold rbalV; rw [if_neg (by omega)]⟩
        | true =>
          have a1 : rbalE s = 0 := by unfold rbalE; rw [if_pos hk, if_neg hb, if_pos hr]
          have a2 : rbalV s = numA s * 8 + numB s := by unfold rbalV; rw [if_pos a1]
          refine .inl ⟨a1, by rw [a2]; exact hr, ?_⟩
          rw [a2, wrap_u64 (n := numA s * 8 + numB s) (by omega) (by omega), Int.tdiv_eq_ediv_of_nonneg (by omega), Int.tmod_eq_emod_of_nonneg (by omega), show (numA s * 8 + numB s) / 8 = numA s by omega, show (numA s * 8 + numB s) % 8 = numB s by omega, wrap_u64 (n := numA s) (by omega) (by omega), ← pair_dig (by omega) (by omega)]
          exact hs
    rcases I with ⟨i1, i2, i3⟩ | ⟨i1, i2, i3⟩ <;> rcases B with ⟨b1, b2, b3⟩ | ⟨b1, b2⟩
    · rw [i1, i2, i3, b1, b2, b3]; simp
    · rw [i1, i2, i3, b1, b2]; simp
    · rw [i1, i2, i3, b1, b2, b3]; simp
    · rw [i1, i2, i3, b1, b2]; simp
end Go.Proofs.YtpomloangafbkaaDoor
/- The contracts are met. -/
namespace Go.Proofs.YtpomloangafbkaaDoor
set_option linter.unusedVariables false
set_option linter.unusedSimpArgs false
open Go.RowKit
theorem sndPair : Sound Tryd.prog (lookΓ gamPair) := sound_of _ fun p hp => by
  simp only [gamPair, List.mem_cons, List.not_mem_nil, or_false] at hp
  subst hp
  exact meetsItoa.orNil
set_option maxHeartbeats 4000000 in
theorem meetsPair : Meets Tryd.prog 33 pairF := by
  refine meets_of_awp (Γ := lookΓ gamPair) (L := fun _ _ => none) sndPair mixedOrders Tryd.func33 rfl Tryd.call33 ?_
  intro args q r hF hq ho
  unfold pairF at hF
  split at hF
  · cases hF
    exact ⟨by simp only [List.length_cons, List.length_nil]; decide, okPair0 _ _ hq (⟨okay_i64 (argI 0 ho rfl rfl), okay_i64 (argI 1 ho rfl rfl)⟩)⟩
  · cases hF
theorem sndNumbers : Sound Tryd.prog (lookΓ gamNumbers) := sound_of _ fun p hp => by
  simp only [gamNumbers, List.mem_cons, List.not_mem_nil, or_false] at hp
  rcases hp with rfl | rfl | rfl
  · exact meetsCutS.orNil
  · exact meetsAtoi.orNil
  · exact meetsPair.orNil
set_option maxHeartbeats 4000000 in
theorem meetsNumbers : Meets Tryd.prog 29 numbersF := by
  refine meets_of_awp (Γ := lookΓ gamNumbers) (L := fun _ _ => none) sndNumbers mixedOrders Tryd.func29 rfl Tryd.call29 ?_
  intro args q r hF hq ho
  unfold numbersF at hF
  split at hF
  · cases hF
    exact ⟨by simp only [List.length_cons, List.length_nil]; decide, okNumbers0 _ hq⟩
  · cases hF
theorem sndIdShow : Sound Tryd.prog (lookΓ gamIdShow) := sound_of _ fun p hp => by
  simp only [gamIdShow, List.mem_cons, List.not_mem_nil, or_false] at hp
  rcases hp with rfl | rfl
  · exact meetsIdRight.orNil
  · exact meetsPair.orNil
set_option maxHeartbeats 4000000 in
theorem meetsIdShow : Meets Tryd.prog 14 idShowF := by
  refine meets_of_awp (Γ := lookΓ gamIdShow) (L := fun _ _ => none) sndIdShow mixedOrders Tryd.func14 rfl Tryd.call14 ?_
  intro args q r hF hq ho
  unfold idShowF at hF
  split at hF
  · cases hF
    exact ⟨by simp only [List.length_cons, List.length_nil]; decide, okIdShow0 _ _ hq⟩
  · cases hF
theorem sndReadID : Sound Tryd.prog (lookΓ gamReadID) := sound_of _ fun p hp => by
  simp only [gamReadID, List.mem_cons, List.not_mem_nil, or_false] at hp
  rcases hp with rfl | rfl
  · exact meetsNumbers.orNil
  · exact meetsIdRight.orNil
set_option maxHeartbeats 4000000 in
theorem meetsReadID : Meets Tryd.prog 9 readIDF := by
  refine meets_of_awp (Γ := lookΓ gamReadID) (L := fun _ _ => none) sndReadID mixedOrders Tryd.func9 rfl Tryd.call9 ?_
  intro args q r hF hq ho
  unfold readIDF at hF
  split at hF
  · cases hF
    exact ⟨by simp only [List.length_cons, List.length_nil]; decide, okReadID0 _ hq⟩
  · cases hF
theorem sndBalShow : Sound Tryd.prog (lookΓ gamBalShow) := sound_of _ fun p hp => by
  simp only [gamBalShow, List.mem_cons, List.not_mem_nil, or_false] at hp
  rcases hp with rfl | rfl | rfl | rfl
  · exact meetsBalRight.orNil
  · exact meetsBalRound.orNil
  · exact meetsBalRep.orNil
  · exact meetsPair.orNil
set_option maxHeartbeats 4000000 in
theorem meetsBalShow : Meets Tryd.prog 15 balShowF := by
  refine meets_of_awp (Γ := lookΓ gamBalShow) (L := fun _ _ => none) sndBalShow mixedOrders Tryd.func15 rfl Tryd.call15 ?_
  intro args q r hF hq ho
  unfold balShowF at hF
  split at hF
  · cases hF
    exact ⟨by simp only [List.length_cons, List.length_nil]; decide, okBalShow0 _ hq (okay_u32 (argI 0 ho rfl rfl))⟩
  · cases hF
theorem sndReadBal : Sound Tryd.prog (lookΓ gamReadBal) := sound_of _ fun p hp => by
  simp only [gamReadBal, List.mem_cons, List.not_mem_nil, or_false] at hp
  rcases hp with rfl | rfl
  · exact meetsNumbers.orNil
  · exact meetsBalRight.orNil
set_option maxHeartbeats 4000000 in
theorem meetsReadBal : Meets Tryd.prog 10 readBalF := by
  refine meets_of_awp (Γ := lookΓ gamReadBal) (L := fun _ _ => none) sndReadBal mixedOrders Tryd.func10 rfl Tryd.call10 ?_
  intro args q r hF hq ho
  unfold readBalF at hF
  split at hF
  · cases hF
    exact ⟨by simp only [List.length_cons, List.length_nil]; decide, okReadBal0 _ hq⟩
  · cases hF
theorem sndDigits6 : Sound Tryd.prog (lookΓ gamDigits6) := sound_of _ fun p hp => by
  simp [gamDigits6] at hp
set_option maxHeartbeats 4000000 in
theorem meetsDigits6 : Meets Tryd.prog 32 digits6F := by
  refine meets_of_awp (Γ := lookΓ gamDigits6) (L := fun args => match args with | [.val (.int .u64 v)] => lpDigits60 v | _ => fun _ => none) sndDigits6 mixedOrders Tryd.func32 rfl Tryd.call32 ?_
  intro args q r hF hq ho
  unfold digits6F at hF
  split at hF
  · cases hF
    exact ⟨by simp only [List.length_cons, List.length_nil]; decide, okDigits60 _ hq (okay_u64 (argI 0 ho rfl rfl))⟩
  · cases hF
theorem sndPair06 : Sound Tryd.prog (lookΓ gamPair06) := sound_of _ fun p hp => by
  simp only [gamPair06, List.mem_cons, List.not_mem_nil, or_false] at hp
  subst hp
  exact meetsDigits6.orNil
set_option maxHeartbeats 4000000 in
theorem meetsPair06 : Meets Tryd.prog 12 pair06F := by
  refine meets_of_awp (Γ := lookΓ gamPair06) (L := fun _ _ => none) sndPair06 mixedOrders Tryd.func12 rfl Tryd.call12 ?_
  intro args q r hF hq ho
  unfold pair06F at hF
  split at hF
  · cases hF
    exact ⟨by simp only [List.length_cons, List.length_nil]; decide, okPair060 _ _ hq (⟨okay_u64 (argI 0 ho rfl rfl), okay_u64 (argI 1 ho rfl rfl)⟩)⟩
  · cases hF
theorem sndBalNext : Sound Tryd.prog (lookΓ gamBalNext) := sound_of _ fun p hp => by
  simp only [gamBalNext, List.mem_cons, List.not_mem_nil, or_false] at hp
  subst hp
  exact meetsBalRound.orNil
set_option maxHeartbeats 4000000 in
theorem meetsBalNext : Meets Tryd.prog 28 balNextF := by
  refine meets_of_awp (Γ := lookΓ gamBalNext) (L := fun _ _ => none) sndBalNext mixedOrders Tryd.func28 rfl Tryd.call28 ?_
  intro args q r hF hq ho
  unfold balNextF at hF
  split at hF
  · cases hF
    exact ⟨by simp only [List.length_cons, List.length_nil]; decide, okBalNext0 _ _ hq⟩
  · cases hF
theorem sndAnchor6 : Sound Tryd.prog (lookΓ gamAnchor6) := sound_of _ fun p hp => by
  simp only [gamAnchor6, List.mem_cons, List.not_mem_nil, or_false] at hp
  subst hp
  exact meetsBalNext.orNil
set_option maxHeartbeats 4000000 in
theorem meetsAnchor6 : Meets Tryd.prog 8 anchor6F := by
  refine meets_of_awp (Γ := lookΓ gamAnchor6) (L := fun _ _ => none) sndAnchor6 mixedOrders Tryd.func8 rfl Tryd.call8 ?_
  intro args q r hF hq ho
  unfold anchor6F at hF
  split at hF
  · cases hF
    exact ⟨by simp only [List.length_cons, List.length_nil]; decide, okAnchor60 hq⟩
  · cases hF
theorem sndLawTexts : Sound Tryd.prog (lookΓ gamLawTexts) := sound_of _ fun p hp => by
  simp only [gamLawTexts, List.mem_cons, List.not_mem_nil, or_false] at hp
  rcases hp with rfl | rfl | rfl | rfl | rfl | rfl | rfl | rfl
  · exact meetsAnchor6.orNil
  · exact meetsIdShow.orNil
  · exact meetsRefIdRight.orNil
  · exact meetsReadID.orNil
  · exact meetsPair06.orNil
  · exact meetsBalShow.orNil
  · exact meetsRefBal.orNil
  · exact meetsReadBal.orNil
set_option maxHeartbeats 4000000 in
theorem meetsLawTexts : Meets Tryd.prog 4 lawTextsF := by
  refine meets_of_awp (Γ := lookΓ gamLawTexts) (L := fun _ _ => none) sndLawTexts mixedOrders Tryd.func4 rfl Tryd.call4 ?_
  intro args q r hF hq ho
  unfold lawTextsF at hF
  split at hF
  · cases hF
    exact ⟨by simp only [List.length_cons, List.length_nil]; decide, okLawTexts0 _ _ _ hq (okay_u32 (argI 1 ho rfl rfl))⟩
  · cases hF
theorem sndLawReads : Sound Tryd.prog (lookΓ gamLawReads) := sound_of _ fun p hp => by
  simp only [gamLawReads, List.mem_cons, List.not_mem_nil, or_false] at hp
  rcases hp with rfl | rfl | rfl | rfl | rfl | rfl
  · exact meetsAnchor6.orNil
  · exact meetsReadID.orNil
  · exact meetsReadBal.orNil
  · exact meetsRefIdRight.orNil
  · exact meetsRefBal.orNil
  · exact meetsPair06.orNil
set_option maxHeartbeats 4000000 in
theorem meetsLawReads : Meets Tryd.prog 3 lawReadsF := by
  refine meets_of_awp (Γ := lookΓ gamLawReads) (L := fun _ _ => none) sndLawReads mixedOrders Tryd.func3 rfl Tryd.call3 ?_
  intro args q r hF hq ho
  unfold lawReadsF at hF
  split at hF
  · cases hF
    exact ⟨by simp only [List.length_cons, List.length_nil]; decide, okLawReads0 _ hq⟩
  · cases hF
end Go.Proofs.YtpomloangafbkaaDoor
