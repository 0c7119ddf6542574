/- Contracts by content, their conditions, and that they are met: MkT. -/
import Derived.Test.YtpomloangafbkaaGreatDoorLaxStr
import Derived.Test.YtpomloangafbkaaGreatDoorLaxPkIoA
import Derived.Test.YtpomloangafbkaaGreatDoorLaxWrap
import Derived.Test.YtpomloangafbkaaGreatDoorDigP
/- Contracts by content, and the conditions that their code must meet. -/
namespace Go.Proofs.YtpomloangafbkaaGreatDoor
set_option linter.unusedVariables false
set_option linter.unusedSimpArgs false
open Go.RowKit
def pairL (a b : Int) : List UInt8 := catL (catL (Lib.itoa a) [46]) (Lib.itoa b)
def numA (s : List UInt8) : Int := atoiV (Lib.cut s [46]).1
def numB (s : List UInt8) : Int := atoiV (Lib.cut s [46]).2.1
def numK (s : List UInt8) : Bool := pairL (numA s) (numB s) == s
def idShowV (r n : Int) : List UInt8 := if rightId r n then pairL r n else []
def idShowE (r n : Int) : Int := if rightId r n then 0 else 12
def ridE (s : List UInt8) : Int := if numK s then (if rightId (numA s) (numB s) then 0 else 12) else 10
def ridR (s : List UInt8) : Int := if ridE s = 0 then numA s else 0
def ridS (s : List UInt8) : Int := if ridE s = 0 then numB s else 0
def balShowV (b : Int) : List UInt8 := if balOK b then pairL (b / 8) (b % 8) else []
def balShowE (b : Int) : Int := if balOK b then 0 else 60
def rbalE (s : List UInt8) : Int := if numK s then (if numA s < 0 ∨ 16777216 ≤ numA s ∨ numB s < 0 ∨ 6 < numB s then 60 else if balOK (numA s * 8 + numB s) then 0 else 60) else 10
def rbalV (s : List UInt8) : Int := if rbalE s = 0 then numA s * 8 + numB s else 0
def digL (v : Int) : List UInt8 := Lib.decDigits v.toNat
def pair6 (a b : Int) : List UInt8 := catL (catL (digL a) [46]) (digL b)
def loopDig (v : Int) : LoopInv :=
  { V := Int × List UInt8
    T := fun p => [(0, .int .u64 p.1), (3, .str p.2)]
    B := fun p => []
    R := fun p => []
    inv := fun p => 0 ≤ p.1 ∧ p.1 ≤ v ∧ digL v = digL p.1 ++ p.2
    mu := fun p => p.1.toNat }
def pairF : Con
  | [.val (.int .i64 a), .val (.int .i64 b)] => (some (True, ⟨.str (pairL a b), none, none⟩))
  | _ => none
def gamPair : List (Nat × Con) := [(50, itoaF.orNil)]
def lpPair0 (a b : Int) : Nat → Option LoopPlan := fun _ => none
def inPair0 (a b : Int) : Prop := awp [] (lpPair0 a b) (lookΓ gamPair) Tryz.prog Tryz.f61.ntmps 0 (Tryz.f61.body.getD .skip) (entrySt [.val (.int .i64 a), .val (.int .i64 b)]) (exitQ Tryz.prog Tryz.f61.results.toList [] ⟨.str (pairL a b), none, none⟩)
def OkPair0 : Prop := ∀ (a b : Int), True → ((-9223372036854775808 ≤ a ∧ a ≤ 9223372036854775807) ∧ (-9223372036854775808 ≤ b ∧ b ≤ 9223372036854775807)) → inPair0 a b
def numbersF : Con
  | [.val (.str s)] => (some (s.length ≤ 100000000, ⟨.tup [.int .i64 (numA s), .int .i64 (numB s), .bool (numK s)], none, none⟩))
  | _ => none
def gamNumbers : List (Nat × Con) := [(54, cutSF.orNil), (55, atoiF.orNil), (61, pairF.orNil)]
def lpNumbers0 (s : List UInt8) : Nat → Option LoopPlan := fun _ => none
def inNumbers0 (s : List UInt8) : Prop := awp [] (lpNumbers0 s) (lookΓ gamNumbers) Tryz.prog Tryz.f75.ntmps 0 (Tryz.f75.body.getD .skip) (entrySt [.val (.str s)]) (exitQ Tryz.prog Tryz.f75.results.toList [] ⟨.tup [.int .i64 (numA s), .int .i64 (numB s), .bool (numK s)], none, none⟩)
def OkNumbers0 : Prop := ∀ (s : List UInt8), s.length ≤ 100000000 → inNumbers0 s
def idShowF : Con
  | [.val (.agg [.int .i64 r, .int .i64 n])] => (some (True, ⟨.tup [.str (idShowV r n), .int .i64 (idShowE r n)], none, none⟩))
  | _ => none
def gamIdShow : List (Nat × Con) := [(58, idRightF.orNil), (61, pairF.orNil)]
def lpIdShow0 (r n : Int) : Nat → Option LoopPlan := fun _ => none
def inIdShow0 (r n : Int) : Prop := awp [] (lpIdShow0 r n) (lookΓ gamIdShow) Tryz.prog Tryz.f25.ntmps 0 (Tryz.f25.body.getD .skip) (entrySt [.val (.agg [.int .i64 r, .int .i64 n])]) (exitQ Tryz.prog Tryz.f25.results.toList [] ⟨.tup [.str (idShowV r n), .int .i64 (idShowE r n)], none, none⟩)
def OkIdShow0 : Prop := ∀ (r n : Int), True → inIdShow0 r n
def readIDF : Con
  | [.val (.str s)] => (some (s.length ≤ 100000000, ⟨.tup [.agg [.int .i64 (ridR s), .int .i64 (ridS s)], .int .i64 (ridE s)], none, none⟩))
  | _ => none
def gamReadID : List (Nat × Con) := [(75, numbersF.orNil), (58, idRightF.orNil)]
def lpReadID0 (s : List UInt8) : Nat → Option LoopPlan := fun _ => none
def inReadID0 (s : List UInt8) : Prop := awp [] (lpReadID0 s) (lookΓ gamReadID) Tryz.prog Tryz.f40.ntmps 0 (Tryz.f40.body.getD .skip) (entrySt [.val (.str s)]) (exitQ Tryz.prog Tryz.f40.results.toList [] ⟨.tup [.agg [.int .i64 (ridR s), .int .i64 (ridS s)], .int .i64 (ridE s)], none, none⟩)
def OkReadID0 : Prop := ∀ (s : List UInt8), s.length ≤ 100000000 → inReadID0 s
def balShowF : Con
  | [.val (.int .u32 b)] => (some (True, ⟨.tup [.str (balShowV b), .int .i64 (balShowE b)], none, none⟩))
  | _ => none
def gamBalShow : List (Nat × Con) := [(59, balRightF.orNil), (62, balRoundF.orNil), (63, balRepF.orNil), (61, pairF.orNil)]
def lpBalShow0 (b : Int) : Nat → Option LoopPlan := fun _ => none
def inBalShow0 (b : Int) : Prop := awp [] (lpBalShow0 b) (lookΓ gamBalShow) Tryz.prog Tryz.f26.ntmps 0 (Tryz.f26.body.getD .skip) (entrySt [.val (.int .u32 b)]) (exitQ Tryz.prog Tryz.f26.results.toList [] ⟨.tup [.str (balShowV b), .int .i64 (balShowE b)], none, none⟩)
def OkBalShow0 : Prop := ∀ (b : Int), True → (0 ≤ b ∧ b ≤ 4294967295) → inBalShow0 b
def readBalF : Con
  | [.val (.str s)] => (some (s.length ≤ 100000000, ⟨.tup [.int .u32 (rbalV s), .int .i64 (rbalE s)], none, none⟩))
  | _ => none
def gamReadBal : List (Nat × Con) := [(75, numbersF.orNil), (59, balRightF.orNil)]
def lpReadBal0 (s : List UInt8) : Nat → Option LoopPlan := fun _ => none
def inReadBal0 (s : List UInt8) : Prop := awp [] (lpReadBal0 s) (lookΓ gamReadBal) Tryz.prog Tryz.f41.ntmps 0 (Tryz.f41.body.getD .skip) (entrySt [.val (.str s)]) (exitQ Tryz.prog Tryz.f41.results.toList [] ⟨.tup [.int .u32 (rbalV s), .int .i64 (rbalE s)], none, none⟩)
def OkReadBal0 : Prop := ∀ (s : List UInt8), s.length ≤ 100000000 → inReadBal0 s
end Go.Proofs.YtpomloangafbkaaGreatDoor
/- What the verification conditions come to: printed by a program of ours (wip/lax/ex/Norm.lean). -/
namespace Go.Proofs.YtpomloangafbkaaGreatDoor
set_option linter.unusedVariables false
open Go.RowKit
set_option maxRecDepth 100000
theorem vcPair0 (a : Int) (b : Int) (h : (tt ∧ T1 ∧ tt ∧ T1 ∧ (T1 ∧ True) ∧ ∀ v0 : (List UInt8), (v0 = (Go.Lib.itoa a)) → ((List.length v0) + 1) ≤ 9223372036854775807 ∧ T1 ∧ (T1 ∧ True) ∧ ∀ v2 : (List UInt8), (v2 = (Go.Lib.itoa b)) → ((List.length (@catL UInt8 v0 [(46 : UInt8)])) + (List.length v2)) ≤ 9223372036854775807 ∧ T1 ∧ tt ∧ tt ∧ ((pairL a b) = (@catL UInt8 (@catL UInt8 v0 [(46 : UInt8)]) v2) ∧ True) ∧ tt)) : inPair0 a b :=
  Eq.mp (show _ = _ by kernel_rfl) h
theorem vcNumbers0 (s : (List UInt8)) (h : (tt ∧ T1 ∧ T1 ∧ T1 ∧ tt ∧ T1 ∧ (T1 ∧ (List.length s) < 4294967281) ∧ ∀ v0 : (List UInt8), (v0 = (Go.Lib.cut s [(46 : UInt8)]).1) → ∀ v2 : (List UInt8), (v2 = (Go.Lib.cut s [(46 : UInt8)]).2.1) → T1 ∧ T1 ∧ T1 ∧ T1 ∧ T1 ∧ T1 ∧ T1 ∧ tt ∧ T1 ∧ (T1 ∧ (List.length v0) ≤ 281474976710656) ∧ ∀ v4 : Int, (v4 = (atoiV v0)) → T1 ∧ T1 ∧ T1 ∧ T1 ∧ tt ∧ T1 ∧ (T1 ∧ (List.length v2) ≤ 281474976710656) ∧ ∀ v6 : Int, (v6 = (atoiV v2)) → T1 ∧ T1 ∧ T1 ∧ T1 ∧ tt ∧ T1 ∧ T1 ∧ T1 ∧ T1 ∧ (T1 ∧ True) ∧ ∀ v8 : (List UInt8), (v8 = (pairL v4 v6)) → T1 ∧ T1 ∧ T1 ∧ T1 ∧ T1 ∧ tt ∧ tt ∧ ((numA s) = v4 ∧ (numB s) = v6 ∧ (numK s) = (@BEq.beq.{0} (List UInt8) (@List.instBEq.{0} UInt8 (@instBEqOfDecidableEq.{0} UInt8 instDecidableEqUInt8)) v8 s) ∧ True) ∧ tt)) : inNumbers0 s :=
  Eq.mp (show _ = _ by kernel_rfl) h
theorem vcIdShow0 (r : Int) (n : Int) (h : (tt ∧ T1 ∧ T1 ∧ T1 ∧ tt ∧ tt ∧ (T1 ∧ True) ∧ T1 ∧ (bif (Bool.not (rightId r n)) then (tt ∧ T1 ∧ T1 ∧ tt ∧ tt ∧ ((idShowV r n) = [] ∧ (idShowE r n) = 12 ∧ True) ∧ tt) else (tt ∧ T1 ∧ tt ∧ T1 ∧ tt ∧ (T1 ∧ True) ∧ ∀ v0 : (List UInt8), (v0 = (pairL r n)) → T1 ∧ T1 ∧ tt ∧ tt ∧ ((idShowV r n) = v0 ∧ (idShowE r n) = 0 ∧ True) ∧ tt)))) : inIdShow0 r n :=
  Eq.mp (show _ = _ by kernel_rfl) h
theorem vcReadID0 (s : (List UInt8)) (h : (tt ∧ T1 ∧ T1 ∧ tt ∧ T1 ∧ (T1 ∧ (List.length s) ≤ 100000000) ∧ ∀ v0 : Int, (v0 = (numA s)) → ∀ v2 : Int, (v2 = (numB s)) → T1 ∧ T1 ∧ T1 ∧ T1 ∧ T1 ∧ T1 ∧ T1 ∧ tt ∧ T1 ∧ T1 ∧ T1 ∧ T1 ∧ tt ∧ tt ∧ T1 ∧ T1 ∧ T1 ∧ (bif (Bool.not (numK s)) then (tt ∧ T1 ∧ tt ∧ T1 ∧ tt ∧ tt ∧ ((ridR s) = 0 ∧ (ridS s) = 0 ∧ (ridE s) = 10 ∧ True) ∧ tt) else (tt ∧ tt ∧ (T1 ∧ True) ∧ T1 ∧ T1 ∧ (bif (Bool.not (rightId v0 v2)) then (tt ∧ T1 ∧ tt ∧ T1 ∧ tt ∧ tt ∧ ((ridR s) = 0 ∧ (ridS s) = 0 ∧ (ridE s) = 12 ∧ True) ∧ tt) else (tt ∧ tt ∧ tt ∧ T1 ∧ tt ∧ tt ∧ ((ridR s) = v0 ∧ (ridS s) = v2 ∧ (ridE s) = 0 ∧ True) ∧ tt)))))) : inReadID0 s :=
  Eq.mp (show _ = _ by kernel_rfl) h
theorem vcBalShow0 (b : Int) (h : (tt ∧ T1 ∧ T1 ∧ tt ∧ T1 ∧ (T1 ∧ True) ∧ T1 ∧ (bif (Bool.not (balOK b)) then (tt ∧ T1 ∧ T1 ∧ tt ∧ tt ∧ ((balShowV b) = [] ∧ (balShowE b) = 60 ∧ True) ∧ tt) else (tt ∧ T1 ∧ (T1 ∧ True) ∧ ∀ v0 : Int, (v0 = (@HDiv.hDiv.{0, 0, 0} Int Int Int (@instHDiv.{0} Int Int.instDiv) b (8 : Int))) → T1 ∧ (T1 ∧ True) ∧ ∀ v2 : Int, (v2 = (@HMod.hMod.{0, 0, 0} Int Int Int (@instHMod.{0} Int Int.instMod) b (8 : Int))) → (T1 ∧ True) ∧ ∀ v4 : (List UInt8), (v4 = (pairL v0 v2)) → T1 ∧ T1 ∧ tt ∧ tt ∧ ((balShowV b) = v4 ∧ (balShowE b) = 0 ∧ True) ∧ tt)))) : inBalShow0 b :=
  Eq.mp (show _ = _ by kernel_rfl) h
theorem vcReadBal0 (s : (List UInt8)) (h : let w0_x := ((rbalV s) = 0 ∧ (rbalE s) = 60 ∧ True); let w2_x := (tt ∧ T1 ∧ T1 ∧ tt ∧ tt ∧ w0_x ∧ tt); (tt ∧ T1 ∧ T1 ∧ tt ∧ T1 ∧ (T1 ∧ (List.length s) ≤ 100000000) ∧ ∀ v0 : Int, (v0 = (numA s)) → ∀ v2 : Int, let w1_2 := (intBits Go.BinOp.or IntKind.u32 (IntKind.wrap IntKind.u32 ((IntKind.wrap IntKind.u32 v0) * (8 : Int))) (IntKind.wrap IntKind.u32 v2)); (v2 = (numB s)) → T1 ∧ T1 ∧ T1 ∧ T1 ∧ T1 ∧ T1 ∧ T1 ∧ tt ∧ T1 ∧ T1 ∧ T1 ∧ (bif (Bool.not (numK s)) then (tt ∧ T1 ∧ T1 ∧ tt ∧ tt ∧ ((rbalV s) = 0 ∧ (rbalE s) = 10 ∧ True) ∧ tt) else (tt ∧ T1 ∧ T1 ∧ T1 ∧ (bif (decide (v0 < 0)) then (tt ∧ T1 ∧ tt ∧ T1 ∧ tt ∧ T1 ∧ tt ∧ T1 ∧ T1 ∧ tt ∧ tt ∧ w0_x ∧ tt) else (T1 ∧ T1 ∧ T1 ∧ T1 ∧ (bif (decide ((16777216 : Int) ≤ v0)) then (tt ∧ T1 ∧ tt ∧ T1 ∧ tt ∧ T1 ∧ T1 ∧ tt ∧ tt ∧ w0_x ∧ tt) else (T1 ∧ T1 ∧ T1 ∧ T1 ∧ (bif (decide (v2 < 0)) then (tt ∧ T1 ∧ tt ∧ T1 ∧ T1 ∧ tt ∧ tt ∧ w0_x ∧ tt) else (T1 ∧ T1 ∧ T1 ∧ T1 ∧ (bif (decide ((6 : Int) < v2)) then w2_x else (tt ∧ T1 ∧ T1 ∧ (0 : Int) ≤ (3 : Int) ∧ T1 ∧ T1 ∧ T1 ∧ T1 ∧ tt ∧ T1 ∧ (T1 ∧ True) ∧ T1 ∧ (bif (Bool.not (balOK w1_2)) then w2_x else (tt ∧ T1 ∧ T1 ∧ T1 ∧ tt ∧ tt ∧ ((rbalV s) = w1_2 ∧ (rbalE s) = 0 ∧ True) ∧ tt)))))))))))))) : inReadBal0 s :=
  Eq.mp (show _ = _ by kernel_rfl) h
end Go.Proofs.YtpomloangafbkaaGreatDoor
/- The conditions hold: names and ballots as texts. -/
namespace Go.Proofs.YtpomloangafbkaaGreatDoor
set_option linter.unusedVariables false
set_option linter.unusedSimpArgs false
open Go.RowKit
set_option maxRecDepth 100000

theorem digL_len (v : Int) (h : v ≤ 18446744073709551615) : (digL v).length ≤ 21 := by
  unfold digL
  have := decDigits_len 20 v.toNat (by omega)
  omega
theorem okPair0 : OkPair0 := by
  intro a b hq hh
  refine vcPair0 a b ?_
  have h1 := itoa_len a hh.1.1 hh.1.2
  have h2 := itoa_len b hh.2.1 hh.2.2
  simp only [true_and, and_true, forall_eq, eq_self]
  refine ⟨by omega, by simp [catL]; omega, rfl⟩
theorem okNumbers0 : OkNumbers0 := by
  intro s hq
  refine vcNumbers0 s ?_
  have hl := cut_len s [46]
  have hq' : s.length ≤ 100000000 := hq
  simp only [true_and, and_true, forall_eq, eq_self]
  exact ⟨by omega, by omega, by omega, rfl, rfl, rfl⟩
theorem okIdShow0 : OkIdShow0 := by
  intro r n hq
  refine vcIdShow0 r n ?_
  simp only [true_and, and_true, forall_eq, eq_self]
  refine cond_prop (fun h => ?_) fun h => ?_
  · have h' : rightId r n = false := by simpa using h
    simp [idShowV, idShowE, h']
  · have h' : rightId r n = true := by simpa using h
    simp [idShowV, idShowE, h']
theorem okReadID0 : OkReadID0 := by
  intro s hq
  refine vcReadID0 s ?_
  simp only [true_and, and_true, forall_eq, eq_self]
  refine ⟨hq, cond_prop (fun h => ?_) fun h => cond_prop (fun g => ?_) fun g => ?_⟩
  · have h' : numK s = false := by simpa using h
    simp [ridR, ridS, ridE, h']
  · have h' : numK s = true := by simpa using h
    have g' : rightId (numA s) (numB s) = false := by simpa using g
    simp [ridR, ridS, ridE, h', g']
  · have h' : numK s = true := by simpa using h
    have g' : rightId (numA s) (numB s) = true := by simpa using g
    simp [ridR, ridS, ridE, h', g']
theorem okBalShow0 : OkBalShow0 := by
  intro b hq hb
  refine vcBalShow0 b ?_
  simp only [true_and, and_true, forall_eq, eq_self]
  refine cond_prop (fun h => ?_) fun h => ?_
  · have h' : balOK b = false := by simpa using h
    simp [balShowV, balShowE, h']
  · have h' : balOK b = true := by simpa using h
    simp [balShowV, balShowE, h']
theorem or8 {a r : Int} (h0 : 0 ≤ a) (h1 : a < 16777216) (h2 : 0 ≤ r) (h3 : r ≤ 6) : intBits .or .u32 (IntKind.u32.wrap (IntKind.u32.wrap a * 8)) (IntKind.u32.wrap r) = a * 8 + r := by
  obtain ⟨n, rfl⟩ : ∃ n : Nat, a = n := ⟨a.toNat, by omega⟩
  obtain ⟨m, rfl⟩ : ∃ m : Nat, r = m := ⟨r.toNat, by omega⟩
  have w1 : IntKind.u32.wrap (n : Int) = n := by rw [IntKind.wrap_u32]; omega
  have w2 : IntKind.u32.wrap (m : Int) = m := by rw [IntKind.wrap_u32]; omega
  have w3 : IntKind.u32.wrap ((n : Int) * 8) = (n : Int) * 8 := by rw [IntKind.wrap_u32]; omega
  rw [w1, w2, w3]
  have e1 : (BitVec.ofInt 32 ((n : Int) * 8) ||| BitVec.ofInt 32 (m : Int)).toNat = n * 8 + m := by
    rw [BitVec.toNat_or]
    have t1 : (BitVec.ofInt 32 ((n : Int) * 8)).toNat = n * 8 := by rw [BitVec.toNat_ofInt]; omega
    have t2 : (BitVec.ofInt 32 (m : Int)).toNat = m := by rw [BitVec.toNat_ofInt]; omega
    rw [t1, t2, show n * 8 = n <<< 3 by rw [Nat.shiftLeft_eq]]
    rw [← Nat.shiftLeft_add_eq_or_of_lt (show m < 2 ^ 3 by omega) n]
  show IntKind.u32.wrap ((BitVec.ofInt 32 ((n : Int) * 8) ||| BitVec.ofInt 32 (m : Int)).toNat : Int) = _
  rw [e1, IntKind.wrap_u32]; omega
theorem okReadBal0 : OkReadBal0 := by
  intro s hq
  refine vcReadBal0 s ?_
  simp only [true_and, and_true, forall_eq, eq_self]
  have bad : numK s = true → (numA s < 0 ∨ 16777216 ≤ numA s ∨ numB s < 0 ∨ 6 < numB s) → rbalV s = 0 ∧ rbalE s = 60 := by
    intro h1 h2
    have e : rbalE s = 60 := by unfold rbalE; rw [if_pos h1, if_pos h2]
    exact ⟨by unfold rbalV; rw [if_neg (by omega)], e⟩
  refine ⟨hq, cond_prop (fun h => ?_) fun h => ?_⟩
  · have h' : numK s = false := by simpa using h
    have e : rbalE s = 10 := by unfold rbalE; rw [if_neg (by rw [h']; simp)]
    exact ⟨by unfold rbalV; rw [if_neg (by omega)], e⟩
  · have h' : numK s = true := by simpa using h
    refine cond_prop (fun g => bad h' (.inl (of_decide_eq_true g))) fun g1 => cond_prop (fun g => bad h' (.inr (.inl (of_decide_eq_true g)))) fun g2 => cond_prop (fun g => bad h' (.inr (.inr (.inl (of_decide_eq_true g))))) fun g3 => cond_prop (fun g => bad h' (.inr (.inr (.inr (of_decide_eq_true g))))) fun g4 => ?_
    have g1 := of_decide_eq_false g1
    have g2 := of_decide_eq_false g2
    have g3 := of_decide_eq_false g3
    have g4 := of_decide_eq_false g4
    rw [or8 (by omega) (by omega) (by omega) (by omega)]
    have e : rbalE s = if balOK (numA s * 8 + numB s) then 0 else 60 := by unfold rbalE; rw [if_pos h', if_neg (by omega)]
    refine ⟨by omega, cond_prop (fun g => ?_) fun g => ?_⟩
    · have g' : balOK (numA s * 8 + numB s) = false := by simpa using g
      rw [g'] at e
      have e : rbalE s = 60 := e
      exact ⟨by unfold rbalV; rw [if_neg (by omega)], e⟩
    · have g' : balOK (numA s * 8 + numB s) = true := by simpa using g
      rw [g'] at e
      have e : rbalE s = 0 := e
      exact ⟨by unfold rbalV; rw [if_pos e], e⟩
theorem digL_step {v : Int} (h0 : 0 ≤ v) (h1 : v ≤ 18446744073709551615) :
    bytesL [AV.int .u8 (IntKind.u8.wrap (IntKind.u64.wrap (48 + v.tmod 10)))] = [UInt8.ofNat (48 + v.toNat % 10)] ∧ isBytes [AV.int .u8 (IntKind.u8.wrap (IntKind.u64.wrap (48 + v.tmod 10)))] ∧ IntKind.u64.wrap (v.tdiv 10) = v / 10 := by
  have e1 : v.tmod 10 = v % 10 := Int.tmod_eq_emod_of_nonneg h0
  have e2 : v.tdiv 10 = v / 10 := Int.tdiv_eq_ediv_of_nonneg h0
  have w1 : IntKind.u8.wrap (IntKind.u64.wrap (48 + v % 10)) = 48 + v % 10 := by rw [IntKind.wrap_u64, IntKind.wrap_u8]; omega
  rw [e1, e2, w1]
  have eb : ([AV.int .u8 (48 + v % 10)] : List AV) = bytesAV [UInt8.ofNat (48 + v % 10).toNat] := bytes_one (by omega) (by omega)
  rw [eb]
  refine ⟨?_, isBytes_bytesAV _, by rw [IntKind.wrap_u64]; omega⟩
  rw [bytesL_bytesAV]
  congr 2; omega
theorem itoa_dig {n : Int} (h : 0 ≤ n) : Lib.itoa n = digL n := by unfold Lib.itoa digL; rw [if_neg (by omega)]
theorem pair_dig {a b : Int} (ha : 0 ≤ a) (hb : 0 ≤ b) : pairL a b = pair6 a b := by unfold pairL pair6; rw [itoa_dig ha, itoa_dig hb]
theorem dig_ndot (v : Int) : ∀ c ∈ digL v, c ≠ 46 := by
  intro c hc e
  have := dec_dig _ c hc
  subst e
  exact absurd this.1 (by decide)
theorem pair_nums {a b : Int} (ha : 0 ≤ a) (hb : 0 ≤ b) (ha' : a ≤ 9223372036854775807) (hb' : b ≤ 9223372036854775807) : numA (pairL a b) = a ∧ numB (pairL a b) = b ∧ numK (pairL a b) = true := by
  have hc : Lib.cut (pairL a b) [46] = (digL a, digL b, true) := by
    have : pairL a b = digL a ++ 46 :: digL b := by unfold pairL; rw [itoa_dig ha, itoa_dig hb]; simp [catL]
    rw [this]; exact cut_at _ _ _ (dig_ndot a)
  have h1 : numA (pairL a b) = a := by
    unfold numA; rw [hc]
    show atoiV (Lib.decDigits a.toNat) = a
    rw [atoi_dec (by omega)]; omega
  have h2 : numB (pairL a b) = b := by
    unfold numB; rw [hc]
    show atoiV (Lib.decDigits b.toNat) = b
    rw [atoi_dec (by omega)]; omega
  refine ⟨h1, h2, ?_⟩
  unfold numK; rw [h1, h2]; simp
theorem pair_len {a b : Int} (ha : 0 ≤ a) (hb : 0 ≤ b) (ha' : a ≤ 9223372036854775807) (hb' : b ≤ 9223372036854775807) : (pairL a b).length ≤ 100 := by
  rw [pair_dig ha hb]
  unfold pair6
  have := digL_len a (by omega)
  have := digL_len b (by omega)
  simp [catL]; omega
theorem rightId_facts {r n : Int} (h : rightId r n = true) : 0 ≤ r ∧ r ≤ 6 ∧ 0 ≤ n ∧ n < 1024 := by simpa [rightId] using h
theorem balOK_facts {b : Int} (h : balOK b = true) (h0 : 0 ≤ b) : 0 ≤ b / 8 ∧ b / 8 < 16777216 ∧ 0 ≤ b % 8 ∧ b % 8 ≤ 6 := by
  simp [balOK] at h; omega
theorem bal_text {b : Int} (h0 : 0 ≤ b) (h1 : b ≤ 4294967295) :
    (balOK b = false → balShowV b = [] ∧ balShowE b = 60) ∧ (balOK b = true → balShowE b = 0 ∧ (balShowV b).length ≤ 100000000 ∧ balShowV b = pair6 (b / 8) (b % 8) ∧ rbalV (balShowV b) = b ∧ rbalE (balShowV b) = 0) := by
  refine ⟨fun h => by simp [balShowV, balShowE, h], fun h => ?_⟩
  obtain ⟨f1, f2, f3, f4⟩ := balOK_facts h h0
  obtain ⟨n1, n2, n3⟩ := pair_nums f1 f3 (by omega) (by omega)
  have e : balShowV b = pairL (b / 8) (b % 8) := by unfold balShowV; rw [if_pos h]
  have hl := pair_len f1 f3 (by omega) (by omega)
  have eb : b / 8 * 8 + b % 8 = b := by omega
  have ee : rbalE (pairL (b / 8) (b % 8)) = 0 := by
    unfold rbalE
    rw [if_pos n3, n1, n2, if_neg (by omega), eb, if_pos h]
  rw [e]
  refine ⟨by simp [balShowE, h], by omega, pair_dig f1 f3, ?_, ee⟩
  unfold rbalV; rw [if_pos ee, n1, n2, eb]
end Go.Proofs.YtpomloangafbkaaGreatDoor
/- The contracts are met. -/
namespace Go.Proofs.YtpomloangafbkaaGreatDoor
set_option linter.unusedVariables false
set_option linter.unusedSimpArgs false
open Go.RowKit
theorem sndPair : Sound Tryz.prog (lookΓ gamPair) := sound_of _ fun p hp => by
  simp only [gamPair, List.mem_cons, List.not_mem_nil, or_false] at hp
  subst hp
  exact meetsItoa.orNil
set_option maxHeartbeats 4000000 in
theorem meetsPair : Meets Tryz.prog 61 pairF := by
  refine meets_of_awp (Γ := lookΓ gamPair) (L := fun _ _ => none) sndPair mixedOrders Tryz.func61 rfl Tryz.call61 ?_
  intro args q r hF hq ho
  unfold pairF at hF
  split at hF
  · cases hF
    exact ⟨by simp only [List.length_cons, List.length_nil]; decide, okPair0 _ _ hq (⟨okay_i64 (argI 0 ho rfl rfl), okay_i64 (argI 1 ho rfl rfl)⟩)⟩
  · cases hF
theorem sndNumbers : Sound Tryz.prog (lookΓ gamNumbers) := sound_of _ fun p hp => by
  simp only [gamNumbers, List.mem_cons, List.not_mem_nil, or_false] at hp
  rcases hp with rfl | rfl | rfl
  · exact meetsCutS.orNil
  · exact meetsAtoi.orNil
  · exact meetsPair.orNil
set_option maxHeartbeats 4000000 in
theorem meetsNumbers : Meets Tryz.prog 75 numbersF := by
  refine meets_of_awp (Γ := lookΓ gamNumbers) (L := fun _ _ => none) sndNumbers mixedOrders Tryz.func75 rfl Tryz.call75 ?_
  intro args q r hF hq ho
  unfold numbersF at hF
  split at hF
  · cases hF
    exact ⟨by simp only [List.length_cons, List.length_nil]; decide, okNumbers0 _ hq⟩
  · cases hF
theorem sndIdShow : Sound Tryz.prog (lookΓ gamIdShow) := sound_of _ fun p hp => by
  simp only [gamIdShow, List.mem_cons, List.not_mem_nil, or_false] at hp
  rcases hp with rfl | rfl
  · exact meetsIdRight.orNil
  · exact meetsPair.orNil
set_option maxHeartbeats 4000000 in
theorem meetsIdShow : Meets Tryz.prog 25 idShowF := by
  refine meets_of_awp (Γ := lookΓ gamIdShow) (L := fun _ _ => none) sndIdShow mixedOrders Tryz.func25 rfl Tryz.call25 ?_
  intro args q r hF hq ho
  unfold idShowF at hF
  split at hF
  · cases hF
    exact ⟨by simp only [List.length_cons, List.length_nil]; decide, okIdShow0 _ _ hq⟩
  · cases hF
theorem sndReadID : Sound Tryz.prog (lookΓ gamReadID) := sound_of _ fun p hp => by
  simp only [gamReadID, List.mem_cons, List.not_mem_nil, or_false] at hp
  rcases hp with rfl | rfl
  · exact meetsNumbers.orNil
  · exact meetsIdRight.orNil
set_option maxHeartbeats 4000000 in
theorem meetsReadID : Meets Tryz.prog 40 readIDF := by
  refine meets_of_awp (Γ := lookΓ gamReadID) (L := fun _ _ => none) sndReadID mixedOrders Tryz.func40 rfl Tryz.call40 ?_
  intro args q r hF hq ho
  unfold readIDF at hF
  split at hF
  · cases hF
    exact ⟨by simp only [List.length_cons, List.length_nil]; decide, okReadID0 _ hq⟩
  · cases hF
theorem sndBalShow : Sound Tryz.prog (lookΓ gamBalShow) := sound_of _ fun p hp => by
  simp only [gamBalShow, List.mem_cons, List.not_mem_nil, or_false] at hp
  rcases hp with rfl | rfl | rfl | rfl
  · exact meetsBalRight.orNil
  · exact meetsBalRound.orNil
  · exact meetsBalRep.orNil
  · exact meetsPair.orNil
set_option maxHeartbeats 4000000 in
theorem meetsBalShow : Meets Tryz.prog 26 balShowF := by
  refine meets_of_awp (Γ := lookΓ gamBalShow) (L := fun _ _ => none) sndBalShow mixedOrders Tryz.func26 rfl Tryz.call26 ?_
  intro args q r hF hq ho
  unfold balShowF at hF
  split at hF
  · cases hF
    exact ⟨by simp only [List.length_cons, List.length_nil]; decide, okBalShow0 _ hq (okay_u32 (argI 0 ho rfl rfl))⟩
  · cases hF
theorem sndReadBal : Sound Tryz.prog (lookΓ gamReadBal) := sound_of _ fun p hp => by
  simp only [gamReadBal, List.mem_cons, List.not_mem_nil, or_false] at hp
  rcases hp with rfl | rfl
  · exact meetsNumbers.orNil
  · exact meetsBalRight.orNil
set_option maxHeartbeats 4000000 in
theorem meetsReadBal : Meets Tryz.prog 41 readBalF := by
  refine meets_of_awp (Γ := lookΓ gamReadBal) (L := fun _ _ => none) sndReadBal mixedOrders Tryz.func41 rfl Tryz.call41 ?_
  intro args q r hF hq ho
  unfold readBalF at hF
  split at hF
  · cases hF
    exact ⟨by simp only [List.length_cons, List.length_nil]; decide, okReadBal0 _ hq⟩
  · cases hF
end Go.Proofs.YtpomloangafbkaaGreatDoor
