/- Contracts by content, their conditions, and that they are met: IoB. -/
import Derived.Test.YtfoabkkkdcicgaaGreatDoorLaxPkWire
import Derived.Test.YtfoabkkkdcicgaaGreatDoorLaxPkIoA
/- Contracts by content, and the conditions that their code must meet. -/
namespace Go.Proofs.YtfoabkkkdcicgaaGreatDoor
set_option linter.unusedVariables false
set_option linter.unusedSimpArgs false
open Go.RowKit
def idE1 (l : List UInt8) (e : Int) : Int := if 6 < inByteV l e then inFail (tkErr l.length e 1) 12 else tkErr l.length e 1
def idRest (l : List UInt8) (e : Int) : List UInt8 := shRest (tkRest l e 1) (idE1 l e) 1023
def idErr (l : List UInt8) (e : Int) : Int := shErr (tkRest l e 1) (idE1 l e) 1023
def idR (l : List UInt8) (e : Int) : Int := if idErr l e = 0 then inByteV l e else 0
def idS (l : List UInt8) (e : Int) : Int := if idErr l e = 0 then shV (tkRest l e 1) (idE1 l e) 1023 else 0
def balV (l : List UInt8) (e : Int) : Int := if balOK (shV l e 4294967295) then shV l e 4294967295 else 0
def balE (l : List UInt8) (e : Int) : Int := if balOK (shV l e 4294967295) then shErr l e 4294967295 else inFail (shErr l e 4294967295) 60
def encID (r s : Int) : List UInt8 := catL (encByte (IntKind.u8.wrap r)) (short (IntKind.u64.wrap s).toNat)
def atS (l : List UInt8) (e : Int) : Nat → List UInt8 × Int
  | 0 => (shRest l e 1073741824, shErr l e 1073741824)
  | k + 1 => (shRest (atS l e k).1 (atS l e k).2 1024, shErr (atS l e k).1 (atS l e k).2 1024)
def atV (l : List UInt8) (e : Int) (k : Nat) : Int := shV (atS l e k).1 (atS l e k).2 1024
def atZ (l : List UInt8) (e v : Int) : Int := if (atS l e 7).2 = 0 then v else 0
def encA (s d0 d1 d2 d3 d4 d5 d6 : Int) : List UInt8 := catL (catL (catL (catL (catL (catL (catL (short s.toNat) (short d0.toNat)) (short d1.toNat)) (short d2.toNat)) (short d3.toNat)) (short d4.toNat)) (short d5.toNat)) (short d6.toNat)
def zA (s d0 d1 d2 d3 d4 d5 d6 v : Int) : Int := if rightA s d0 d1 d2 d3 d4 d5 d6 then v else 0
def takeIDF : Con
  | [.box [.sl xs .no, .int .i64 e]] => (some (isBytes xs, ⟨.agg [.int .i64 (idR (bytesL xs) e), .int .i64 (idS (bytesL xs) e)], (some [.sl (bytesAV (idRest (bytesL xs) e)) .no, .int .i64 (idErr (bytesL xs) e)]), none⟩))
  | _ => none
def gamTakeID : List (Nat × Con) := [(59, inByteF.orNil), (60, inFailF.orNil), (86, inShortF.orNil), (64, inFailedF.orNil)]
def lpTakeID0 (xs : List AV) (e : Int) : Nat → Option LoopPlan := fun _ => none
def inTakeID0 (xs : List AV) (e : Int) : Prop := awp [0] (lpTakeID0 xs e) (lookΓ gamTakeID) Tryz.prog Tryz.f57.ntmps 0 (Tryz.f57.body.getD .skip) (entrySt [.box [.sl xs .no, .int .i64 e]]) (exitQ Tryz.prog Tryz.f57.results.toList [0] ⟨.agg [.int .i64 (idR (bytesL xs) e), .int .i64 (idS (bytesL xs) e)], (some [.sl (bytesAV (idRest (bytesL xs) e)) .no, .int .i64 (idErr (bytesL xs) e)]), none⟩)
def OkTakeID0 : Prop := ∀ (xs : List AV) (e : Int), isBytes xs → inTakeID0 xs e
def takeBalF : Con
  | [.box [.sl xs .no, .int .i64 e]] => (some (isBytes xs, ⟨.int .u32 (balV (bytesL xs) e), (some [.sl (bytesAV (shRest (bytesL xs) e 4294967295)) .no, .int .i64 (balE (bytesL xs) e)]), none⟩))
  | _ => none
def gamTakeBal : List (Nat × Con) := [(86, inShortF.orNil), (22, balRightF.orNil), (60, inFailF.orNil)]
def lpTakeBal0 (xs : List AV) (e : Int) : Nat → Option LoopPlan := fun _ => none
def inTakeBal0 (xs : List AV) (e : Int) : Prop := awp [0] (lpTakeBal0 xs e) (lookΓ gamTakeBal) Tryz.prog Tryz.f58.ntmps 0 (Tryz.f58.body.getD .skip) (entrySt [.box [.sl xs .no, .int .i64 e]]) (exitQ Tryz.prog Tryz.f58.results.toList [0] ⟨.int .u32 (balV (bytesL xs) e), (some [.sl (bytesAV (shRest (bytesL xs) e 4294967295)) .no, .int .i64 (balE (bytesL xs) e)]), none⟩)
def OkTakeBal0 : Prop := ∀ (xs : List AV) (e : Int), isBytes xs → inTakeBal0 xs e
def idPutF : Con
  | [.val (.agg [.int .i64 r, .int .i64 n]), .box [.sl xs (.row p q te0)]] => (if te0 = 5 then some (isBytes xs ∧ xs.length + 11 ≤ 140737488355328, ⟨.tup [], (some [.sl (bytesAV (catL (bytesL xs) (encID r n))) (.row 0 0 5)]), none⟩) else none)
  | _ => none
def gamIdPut : List (Nat × Con) := [(41, outByteF.orNil), (75, outShortF.orNil)]
def lpIdPut0 (xs : List AV) (p q : Nat) (r n : Int) : Nat → Option LoopPlan := fun _ => none
def inIdPut0 (xs : List AV) (p q : Nat) (r n : Int) : Prop := awp [1] (lpIdPut0 xs p q r n) (lookΓ gamIdPut) Tryz.prog Tryz.f42.ntmps 0 (Tryz.f42.body.getD .skip) (entrySt [.val (.agg [.int .i64 r, .int .i64 n]), .box [.sl xs (.row p q 5)]]) (exitQ Tryz.prog Tryz.f42.results.toList [1] ⟨.tup [], (some [.sl (bytesAV (catL (bytesL xs) (encID r n))) (.row 0 0 5)]), none⟩)
def OkIdPut0 : Prop := ∀ (xs : List AV) (p q : Nat) (r n : Int), isBytes xs ∧ xs.length + 11 ≤ 140737488355328 → inIdPut0 xs p q r n
def balPutF : Con
  | [.val (.int .u32 b), .box [.sl xs (.row p q te0)]] => (if te0 = 5 then some (isBytes xs ∧ xs.length + 10 ≤ 140737488355328, ⟨.tup [], (some [.sl (bytesAV (catL (bytesL xs) (short b.toNat))) (.row 0 0 5)]), none⟩) else none)
  | _ => none
def gamBalPut : List (Nat × Con) := [(75, outShortF.orNil)]
def lpBalPut0 (xs : List AV) (p q : Nat) (b : Int) : Nat → Option LoopPlan := fun _ => none
def inBalPut0 (xs : List AV) (p q : Nat) (b : Int) : Prop := awp [1] (lpBalPut0 xs p q b) (lookΓ gamBalPut) Tryz.prog Tryz.f43.ntmps 0 (Tryz.f43.body.getD .skip) (entrySt [.val (.int .u32 b), .box [.sl xs (.row p q 5)]]) (exitQ Tryz.prog Tryz.f43.results.toList [1] ⟨.tup [], (some [.sl (bytesAV (catL (bytesL xs) (short b.toNat))) (.row 0 0 5)]), none⟩)
def OkBalPut0 : Prop := ∀ (xs : List AV) (p q : Nat) (b : Int), isBytes xs ∧ xs.length + 10 ≤ 140737488355328 → (0 ≤ b ∧ b ≤ 4294967295) → inBalPut0 xs p q b
def attPutF : Con
  | [.val (.agg [.int .i64 s, .int .i64 d0, .int .i64 d1, .int .i64 d2, .int .i64 d3, .int .i64 d4, .int .i64 d5, .int .i64 d6]), .box [.sl xs (.row p q te0)]] => (if te0 = 5 then some (isBytes xs ∧ xs.length + 80 ≤ 140737488355328, ⟨.tup [], (some [.sl (bytesAV (catL (bytesL xs) (encA (zA s d0 d1 d2 d3 d4 d5 d6 s) (zA s d0 d1 d2 d3 d4 d5 d6 d0) (zA s d0 d1 d2 d3 d4 d5 d6 d1) (zA s d0 d1 d2 d3 d4 d5 d6 d2) (zA s d0 d1 d2 d3 d4 d5 d6 d3) (zA s d0 d1 d2 d3 d4 d5 d6 d4) (zA s d0 d1 d2 d3 d4 d5 d6 d5) (zA s d0 d1 d2 d3 d4 d5 d6 d6)))) (.row 0 0 5)]), none⟩) else none)
  | _ => none
def gamAttPut : List (Nat × Con) := [(84, attRightF.orNil), (75, outShortF.orNil)]
def lpAttPut0 (s d0 d1 d2 d3 d4 d5 d6 : Int) (xs : List AV) (p q : Nat) : Nat → Option LoopPlan := fun b => bif Nat.beq b 0 then some (.unroll [] 9) else none
def inAttPut0 (s d0 d1 d2 d3 d4 d5 d6 : Int) (xs : List AV) (p q : Nat) : Prop := awp [1] (lpAttPut0 s d0 d1 d2 d3 d4 d5 d6 xs p q) (lookΓ gamAttPut) Tryz.prog Tryz.f74.ntmps 0 (Tryz.f74.body.getD .skip) (entrySt [.val (.agg [.int .i64 s, .int .i64 d0, .int .i64 d1, .int .i64 d2, .int .i64 d3, .int .i64 d4, .int .i64 d5, .int .i64 d6]), .box [.sl xs (.row p q 5)]]) (exitQ Tryz.prog Tryz.f74.results.toList [1] ⟨.tup [], (some [.sl (bytesAV (catL (bytesL xs) (encA (zA s d0 d1 d2 d3 d4 d5 d6 s) (zA s d0 d1 d2 d3 d4 d5 d6 d0) (zA s d0 d1 d2 d3 d4 d5 d6 d1) (zA s d0 d1 d2 d3 d4 d5 d6 d2) (zA s d0 d1 d2 d3 d4 d5 d6 d3) (zA s d0 d1 d2 d3 d4 d5 d6 d4) (zA s d0 d1 d2 d3 d4 d5 d6 d5) (zA s d0 d1 d2 d3 d4 d5 d6 d6)))) (.row 0 0 5)]), none⟩)
def OkAttPut0 : Prop := ∀ (s d0 d1 d2 d3 d4 d5 d6 : Int) (xs : List AV) (p q : Nat), isBytes xs ∧ xs.length + 80 ≤ 140737488355328 → inAttPut0 s d0 d1 d2 d3 d4 d5 d6 xs p q
def attTakeF : Con
  | [.box [.sl xs .no, .int .i64 e]] => (some (isBytes xs, ⟨.agg [.int .i64 (atZ (bytesL xs) e (shV (bytesL xs) e 1073741824)), .int .i64 (atZ (bytesL xs) e (atV (bytesL xs) e 0)), .int .i64 (atZ (bytesL xs) e (atV (bytesL xs) e 1)), .int .i64 (atZ (bytesL xs) e (atV (bytesL xs) e 2)), .int .i64 (atZ (bytesL xs) e (atV (bytesL xs) e 3)), .int .i64 (atZ (bytesL xs) e (atV (bytesL xs) e 4)), .int .i64 (atZ (bytesL xs) e (atV (bytesL xs) e 5)), .int .i64 (atZ (bytesL xs) e (atV (bytesL xs) e 6))], (some [.sl (bytesAV (atS (bytesL xs) e 7).1) .no, .int .i64 (atS (bytesL xs) e 7).2]), none⟩))
  | _ => none
def gamAttTake : List (Nat × Con) := [(86, inShortF.orNil), (64, inFailedF.orNil)]
def lpAttTake0 (xs : List AV) (e : Int) : Nat → Option LoopPlan := fun b => bif Nat.beq b 0 then some (.unroll [] 9) else none
def inAttTake0 (xs : List AV) (e : Int) : Prop := awp [0] (lpAttTake0 xs e) (lookΓ gamAttTake) Tryz.prog Tryz.f63.ntmps 0 (Tryz.f63.body.getD .skip) (entrySt [.box [.sl xs .no, .int .i64 e]]) (exitQ Tryz.prog Tryz.f63.results.toList [0] ⟨.agg [.int .i64 (atZ (bytesL xs) e (shV (bytesL xs) e 1073741824)), .int .i64 (atZ (bytesL xs) e (atV (bytesL xs) e 0)), .int .i64 (atZ (bytesL xs) e (atV (bytesL xs) e 1)), .int .i64 (atZ (bytesL xs) e (atV (bytesL xs) e 2)), .int .i64 (atZ (bytesL xs) e (atV (bytesL xs) e 3)), .int .i64 (atZ (bytesL xs) e (atV (bytesL xs) e 4)), .int .i64 (atZ (bytesL xs) e (atV (bytesL xs) e 5)), .int .i64 (atZ (bytesL xs) e (atV (bytesL xs) e 6))], (some [.sl (bytesAV (atS (bytesL xs) e 7).1) .no, .int .i64 (atS (bytesL xs) e 7).2]), none⟩)
def OkAttTake0 : Prop := ∀ (xs : List AV) (e : Int), isBytes xs → inAttTake0 xs e
end Go.Proofs.YtfoabkkkdcicgaaGreatDoor
/- What the verification conditions come to: printed by a program of ours (wip/lax/ex/Norm.lean). -/
namespace Go.Proofs.YtfoabkkkdcicgaaGreatDoor
set_option linter.unusedVariables false
open Go.RowKit
set_option maxRecDepth 100000
theorem vcTakeID0 (xs : (List AV)) (e : Int) (h : let q0 := (bytesL xs); let q1 := (bytesAV (idRest q0 e)); (tt ∧ T1 ∧ tt ∧ T1 ∧ (T1 ∧ (isBytes xs)) ∧ ∀ v0 : Int, (v0 = (inByteV q0 e)) → ∀ v2 : (List AV), (v2 = (bytesAV (tkRest q0 e 1))) → ∀ v4 : Int, (v4 = (tkErr (List.length q0) e 1)) → T1 ∧ tt ∧ T1 ∧ T1 ∧ (bif (decide ((6 : Int) < v0)) then (tt ∧ T1 ∧ (T1 ∧ True) ∧ ∀ v6 : (List AV), (v6 = v2) → ∀ v8 : Int, (v8 = (inFail v4 12)) → tt ∧ T1 ∧ (T1 ∧ (isBytes v6)) ∧ ∀ v10 : Int, (v10 = (shV (bytesL v6) v8 1023)) → ∀ v12 : (List AV), (v12 = (bytesAV (shRest (bytesL v6) v8 1023))) → ∀ v14 : Int, (v14 = (shErr (bytesL v6) v8 1023)) → T1 ∧ tt ∧ T1 ∧ (T1 ∧ True) ∧ ∀ v16 : (List AV), (v16 = v12) → ∀ v18 : Int, (v18 = v14) → (bif (@Decidable.decide (@Ne.{1} Int v14 (0 : Int)) (@instDecidableNot (v14 = 0) (@Int.instDecidableEq v14 (0 : Int)))) then (tt ∧ T1 ∧ tt ∧ tt ∧ tt ∧ (q1 = v16 ∧ (idErr q0 e) = v18 ∧ (idR q0 e) = 0 ∧ (idS q0 e) = 0 ∧ True) ∧ tt) else (tt ∧ T1 ∧ T1 ∧ T1 ∧ T1 ∧ T1 ∧ tt ∧ tt ∧ tt ∧ (q1 = v16 ∧ (idErr q0 e) = v18 ∧ (idR q0 e) = (IntKind.wrap IntKind.i64 v0) ∧ (idS q0 e) = (IntKind.wrap IntKind.i64 v10) ∧ True) ∧ tt))) else (tt ∧ T1 ∧ (T1 ∧ (isBytes v2)) ∧ ∀ v6 : Int, (v6 = (shV (bytesL v2) v4 1023)) → ∀ v8 : (List AV), (v8 = (bytesAV (shRest (bytesL v2) v4 1023))) → ∀ v10 : Int, (v10 = (shErr (bytesL v2) v4 1023)) → T1 ∧ tt ∧ T1 ∧ (T1 ∧ True) ∧ ∀ v12 : (List AV), (v12 = v8) → ∀ v14 : Int, (v14 = v10) → (bif (@Decidable.decide (@Ne.{1} Int v10 (0 : Int)) (@instDecidableNot (v10 = 0) (@Int.instDecidableEq v10 (0 : Int)))) then (tt ∧ T1 ∧ tt ∧ tt ∧ tt ∧ (q1 = v12 ∧ (idErr q0 e) = v14 ∧ (idR q0 e) = 0 ∧ (idS q0 e) = 0 ∧ True) ∧ tt) else (tt ∧ T1 ∧ T1 ∧ T1 ∧ T1 ∧ T1 ∧ tt ∧ tt ∧ tt ∧ (q1 = v12 ∧ (idErr q0 e) = v14 ∧ (idR q0 e) = (IntKind.wrap IntKind.i64 v0) ∧ (idS q0 e) = (IntKind.wrap IntKind.i64 v6) ∧ True) ∧ tt)))))) : inTakeID0 xs e :=
  Eq.mp (show _ = _ by kernel_rfl) h
theorem vcTakeBal0 (xs : (List AV)) (e : Int) (h : let q0 := (bytesAV (shRest (bytesL xs) e 4294967295)); (tt ∧ T1 ∧ tt ∧ T1 ∧ (T1 ∧ (isBytes xs)) ∧ ∀ v0 : Int, (v0 = (shV (bytesL xs) e 4294967295)) → ∀ v2 : (List AV), (v2 = q0) → ∀ v4 : Int, (v4 = (shErr (bytesL xs) e 4294967295)) → T1 ∧ T1 ∧ tt ∧ T1 ∧ (T1 ∧ True) ∧ T1 ∧ (bif (Bool.not (balOK (IntKind.wrap IntKind.u32 v0))) then (tt ∧ T1 ∧ (T1 ∧ True) ∧ ∀ v6 : (List AV), (v6 = v2) → ∀ v8 : Int, (v8 = (inFail v4 60)) → tt ∧ T1 ∧ tt ∧ tt ∧ (q0 = v6 ∧ (balE (bytesL xs) e) = v8 ∧ (balV (bytesL xs) e) = 0 ∧ True) ∧ tt) else (tt ∧ T1 ∧ T1 ∧ tt ∧ tt ∧ (q0 = v2 ∧ (balE (bytesL xs) e) = v4 ∧ (balV (bytesL xs) e) = (IntKind.wrap IntKind.u32 v0) ∧ True) ∧ tt)))) : inTakeBal0 xs e :=
  Eq.mp (show _ = _ by kernel_rfl) h
theorem vcIdPut0 (xs : (List AV)) (p : Nat) (q : Nat) (r : Int) (n : Int) (h : (tt ∧ T1 ∧ tt ∧ T1 ∧ T1 ∧ tt ∧ T1 ∧ (((List.length xs) = (List.length xs) ∧ True) ∧ (isBytes xs) ∧ ((List.length xs) + 1) ≤ 140737488355328) ∧ ∀ v0 : (List AV), (v0 = (bytesAV (@catL UInt8 (bytesL xs) (encByte (IntKind.wrap IntKind.u8 r))))) → ∀ v2 : Nat, (v2 = (List.length (bytesAV (@catL UInt8 (bytesL xs) (encByte (IntKind.wrap IntKind.u8 r)))))) → T1 ∧ tt ∧ T1 ∧ ((v2 = (List.length v0) ∧ True) ∧ (isBytes v0) ∧ ((List.length v0) + 10) ≤ 140737488355328) ∧ ∀ v4 : (List AV), (v4 = (bytesAV (@catL UInt8 (bytesL v0) (short (Int.toNat (IntKind.wrap IntKind.u64 n)))))) → ∀ v6 : Nat, (v6 = (List.length (bytesAV (@catL UInt8 (bytesL v0) (short (Int.toNat (IntKind.wrap IntKind.u64 n))))))) → tt ∧ tt ∧ tt ∧ ((0 < 1 ∧ (bytesAV (@catL UInt8 (bytesL xs) (encID r n))) = v4 ∧ v6 = (List.length v4)) ∧ True) ∧ tt)) : inIdPut0 xs p q r n :=
  Eq.mp (show _ = _ by kernel_rfl) h
theorem vcBalPut0 (xs : (List AV)) (p : Nat) (q : Nat) (b : Int) (h : (tt ∧ T1 ∧ T1 ∧ T1 ∧ (((List.length xs) = (List.length xs) ∧ True) ∧ (isBytes xs) ∧ ((List.length xs) + 10) ≤ 140737488355328) ∧ ∀ v0 : (List AV), (v0 = (bytesAV (@catL UInt8 (bytesL xs) (short (Int.toNat (IntKind.wrap IntKind.u64 b)))))) → ∀ v2 : Nat, (v2 = (List.length (bytesAV (@catL UInt8 (bytesL xs) (short (Int.toNat (IntKind.wrap IntKind.u64 b))))))) → tt ∧ tt ∧ ((0 < 1 ∧ (bytesAV (@catL UInt8 (bytesL xs) (short (Int.toNat b)))) = v0 ∧ v2 = (List.length v0)) ∧ True) ∧ tt)) : inBalPut0 xs p q b :=
  Eq.mp (show _ = _ by kernel_rfl) h
theorem vcAttPut0 (s : Int) (d0 : Int) (d1 : Int) (d2 : Int) (d3 : Int) (d4 : Int) (d5 : Int) (d6 : Int) (xs : (List AV)) (p : Nat) (q : Nat) (h : let q0 := (encA (zA s d0 d1 d2 d3 d4 d5 d6 s) (zA s d0 d1 d2 d3 d4 d5 d6 d0) (zA s d0 d1 d2 d3 d4 d5 d6 d1) (zA s d0 d1 d2 d3 d4 d5 d6 d2) (zA s d0 d1 d2 d3 d4 d5 d6 d3) (zA s d0 d1 d2 d3 d4 d5 d6 d4) (zA s d0 d1 d2 d3 d4 d5 d6 d5) (zA s d0 d1 d2 d3 d4 d5 d6 d6)); let q1 := (short 0); let q2 := (List.length xs); (tt ∧ T1 ∧ tt ∧ tt ∧ (T1 ∧ True) ∧ T1 ∧ (bif (Bool.not (rightA s d0 d1 d2 d3 d4 d5 d6)) then (tt ∧ T1 ∧ tt ∧ tt ∧ T1 ∧ T1 ∧ tt ∧ T1 ∧ ((q2 = q2 ∧ True) ∧ (isBytes xs) ∧ (q2 + 10) ≤ 140737488355328) ∧ ∀ v0 : (List AV), (v0 = (bytesAV (@catL UInt8 (bytesL xs) q1))) → ∀ v2 : Nat, (v2 = (List.length (bytesAV (@catL UInt8 (bytesL xs) q1)))) → tt ∧ T1 ∧ tt ∧ T1 ∧ (tt ∧ tt) ∧ tt ∧ T1 ∧ tt ∧ ((0 : Int) ≤ (0 : Int) ∧ (0 : Int) < (7 : Int) ∧ 1 ≤ 7) ∧ T1 ∧ tt ∧ T1 ∧ T1 ∧ T1 ∧ ((v2 = (List.length v0) ∧ True) ∧ (isBytes v0) ∧ ((List.length v0) + 10) ≤ 140737488355328) ∧ ∀ v4 : (List AV), (v4 = (bytesAV (@catL UInt8 (bytesL v0) q1))) → ∀ v6 : Nat, (v6 = (List.length (bytesAV (@catL UInt8 (bytesL v0) q1)))) → tt ∧ T1 ∧ T1 ∧ (tt ∧ tt) ∧ tt ∧ T1 ∧ tt ∧ ((0 : Int) ≤ (1 : Int) ∧ (1 : Int) < (7 : Int) ∧ 2 ≤ 7) ∧ T1 ∧ tt ∧ T1 ∧ T1 ∧ T1 ∧ ((v6 = (List.length v4) ∧ True) ∧ (isBytes v4) ∧ ((List.length v4) + 10) ≤ 140737488355328) ∧ ∀ v8 : (List AV), (v8 = (bytesAV (@catL UInt8 (bytesL v4) q1))) → ∀ v10 : Nat, (v10 = (List.length (bytesAV (@catL UInt8 (bytesL v4) q1)))) → tt ∧ T1 ∧ T1 ∧ (tt ∧ tt) ∧ tt ∧ T1 ∧ tt ∧ ((0 : Int) ≤ (2 : Int) ∧ (2 : Int) < (7 : Int) ∧ 3 ≤ 7) ∧ T1 ∧ tt ∧ T1 ∧ T1 ∧ T1 ∧ ((v10 = (List.length v8) ∧ True) ∧ (isBytes v8) ∧ ((List.length v8) + 10) ≤ 140737488355328) ∧ ∀ v12 : (List AV), (v12 = (bytesAV (@catL UInt8 (bytesL v8) q1))) → ∀ v14 : Nat, (v14 = (List.length (bytesAV (@catL UInt8 (bytesL v8) q1)))) → tt ∧ T1 ∧ T1 ∧ (tt ∧ tt) ∧ tt ∧ T1 ∧ tt ∧ ((0 : Int) ≤ (3 : Int) ∧ (3 : Int) < (7 : Int) ∧ 4 ≤ 7) ∧ T1 ∧ tt ∧ T1 ∧ T1 ∧ T1 ∧ ((v14 = (List.length v12) ∧ True) ∧ (isBytes v12) ∧ ((List.length v12) + 10) ≤ 140737488355328) ∧ ∀ v16 : (List AV), (v16 = (bytesAV (@catL UInt8 (bytesL v12) q1))) → ∀ v18 : Nat, (v18 = (List.length (bytesAV (@catL UInt8 (bytesL v12) q1)))) → tt ∧ T1 ∧ T1 ∧ (tt ∧ tt) ∧ tt ∧ T1 ∧ tt ∧ ((0 : Int) ≤ (4 : Int) ∧ (4 : Int) < (7 : Int) ∧ 5 ≤ 7) ∧ T1 ∧ tt ∧ T1 ∧ T1 ∧ T1 ∧ ((v18 = (List.length v16) ∧ True) ∧ (isBytes v16) ∧ ((List.length v16) + 10) ≤ 140737488355328) ∧ ∀ v20 : (List AV), (v20 = (bytesAV (@catL UInt8 (bytesL v16) q1))) → ∀ v22 : Nat, (v22 = (List.length (bytesAV (@catL UInt8 (bytesL v16) q1)))) → tt ∧ T1 ∧ T1 ∧ (tt ∧ tt) ∧ tt ∧ T1 ∧ tt ∧ ((0 : Int) ≤ (5 : Int) ∧ (5 : Int) < (7 : Int) ∧ 6 ≤ 7) ∧ T1 ∧ tt ∧ T1 ∧ T1 ∧ T1 ∧ ((v22 = (List.length v20) ∧ True) ∧ (isBytes v20) ∧ ((List.length v20) + 10) ≤ 140737488355328) ∧ ∀ v24 : (List AV), (v24 = (bytesAV (@catL UInt8 (bytesL v20) q1))) → ∀ v26 : Nat, (v26 = (List.length (bytesAV (@catL UInt8 (bytesL v20) q1)))) → tt ∧ T1 ∧ T1 ∧ (tt ∧ tt) ∧ tt ∧ T1 ∧ tt ∧ ((0 : Int) ≤ (6 : Int) ∧ (6 : Int) < (7 : Int) ∧ 7 ≤ 7) ∧ T1 ∧ tt ∧ T1 ∧ T1 ∧ T1 ∧ ((v26 = (List.length v24) ∧ True) ∧ (isBytes v24) ∧ ((List.length v24) + 10) ≤ 140737488355328) ∧ ∀ v28 : (List AV), (v28 = (bytesAV (@catL UInt8 (bytesL v24) q1))) → ∀ v30 : Nat, (v30 = (List.length (bytesAV (@catL UInt8 (bytesL v24) q1)))) → tt ∧ T1 ∧ T1 ∧ (tt ∧ tt) ∧ tt ∧ T1 ∧ tt ∧ tt ∧ ((0 < 1 ∧ (bytesAV (@catL UInt8 (bytesL xs) q0)) = v28 ∧ v30 = (List.length v28)) ∧ True) ∧ tt) else (tt ∧ T1 ∧ T1 ∧ tt ∧ T1 ∧ ((q2 = q2 ∧ True) ∧ (isBytes xs) ∧ (q2 + 10) ≤ 140737488355328) ∧ ∀ v0 : (List AV), (v0 = (bytesAV (@catL UInt8 (bytesL xs) (short (Int.toNat (IntKind.wrap IntKind.u64 s)))))) → ∀ v2 : Nat, (v2 = (List.length (bytesAV (@catL UInt8 (bytesL xs) (short (Int.toNat (IntKind.wrap IntKind.u64 s))))))) → tt ∧ T1 ∧ tt ∧ T1 ∧ (tt ∧ tt) ∧ tt ∧ T1 ∧ tt ∧ ((0 : Int) ≤ (0 : Int) ∧ (0 : Int) < (7 : Int) ∧ 1 ≤ 7) ∧ T1 ∧ tt ∧ T1 ∧ T1 ∧ T1 ∧ ((v2 = (List.length v0) ∧ True) ∧ (isBytes v0) ∧ ((List.length v0) + 10) ≤ 140737488355328) ∧ ∀ v4 : (List AV), (v4 = (bytesAV (@catL UInt8 (bytesL v0) (short (Int.toNat (IntKind.wrap IntKind.u64 d0)))))) → ∀ v6 : Nat, (v6 = (List.length (bytesAV (@catL UInt8 (bytesL v0) (short (Int.toNat (IntKind.wrap IntKind.u64 d0))))))) → tt ∧ T1 ∧ T1 ∧ (tt ∧ tt) ∧ tt ∧ T1 ∧ tt ∧ ((0 : Int) ≤ (1 : Int) ∧ (1 : Int) < (7 : Int) ∧ 2 ≤ 7) ∧ T1 ∧ tt ∧ T1 ∧ T1 ∧ T1 ∧ ((v6 = (List.length v4) ∧ True) ∧ (isBytes v4) ∧ ((List.length v4) + 10) ≤ 140737488355328) ∧ ∀ v8 : (List AV), (v8 = (bytesAV (@catL UInt8 (bytesL v4) (short (Int.toNat (IntKind.wrap IntKind.u64 d1)))))) → ∀ v10 : Nat, (v10 = (List.length (bytesAV (@catL UInt8 (bytesL v4) (short (Int.toNat (IntKind.wrap IntKind.u64 d1))))))) → tt ∧ T1 ∧ T1 ∧ (tt ∧ tt) ∧ tt ∧ T1 ∧ tt ∧ ((0 : Int) ≤ (2 : Int) ∧ (2 : Int) < (7 : Int) ∧ 3 ≤ 7) ∧ T1 ∧ tt ∧ T1 ∧ T1 ∧ T1 ∧ ((v10 = (List.length v8) ∧ True) ∧ (isBytes v8) ∧ ((List.length v8) + 10) ≤ 140737488355328) ∧ ∀ v12 : (List AV), (v12 = (bytesAV (@catL UInt8 (bytesL v8) (short (Int.toNat (IntKind.wrap IntKind.u64 d2)))))) → ∀ v14 : Nat, (v14 = (List.length (bytesAV (@catL UInt8 (bytesL v8) (short (Int.toNat (IntKind.wrap IntKind.u64 d2))))))) → tt ∧ T1 ∧ T1 ∧ (tt ∧ tt) ∧ tt ∧ T1 ∧ tt ∧ ((0 : Int) ≤ (3 : Int) ∧ (3 : Int) < (7 : Int) ∧ 4 ≤ 7) ∧ T1 ∧ tt ∧ T1 ∧ T1 ∧ T1 ∧ ((v14 = (List.length v12) ∧ True) ∧ (isBytes v12) ∧ ((List.length v12) + 10) ≤ 140737488355328) ∧ ∀ v16 : (List AV), (v16 = (bytesAV (@catL UInt8 (bytesL v12) (short (Int.toNat (IntKind.wrap IntKind.u64 d3)))))) → ∀ v18 : Nat, (v18 = (List.length (bytesAV (@catL UInt8 (bytesL v12) (short (Int.toNat (IntKind.wrap IntKind.u64 d3))))))) → tt ∧ T1 ∧ T1 ∧ (tt ∧ tt) ∧ tt ∧ T1 ∧ tt ∧ ((0 : Int) ≤ (4 : Int) ∧ (4 : Int) < (7 : Int) ∧ 5 ≤ 7) ∧ T1 ∧ tt ∧ T1 ∧ T1 ∧ T1 ∧ ((v18 = (List.length v16) ∧ True) ∧ (isBytes v16) ∧ ((List.length v16) + 10) ≤ 140737488355328) ∧ ∀ v20 : (List AV), (v20 = (bytesAV (@catL UInt8 (bytesL v16) (short (Int.toNat (IntKind.wrap IntKind.u64 d4)))))) → ∀ v22 : Nat, (v22 = (List.length (bytesAV (@catL UInt8 (bytesL v16) (short (Int.toNat (IntKind.wrap IntKind.u64 d4))))))) → tt ∧ T1 ∧ T1 ∧ (tt ∧ tt) ∧ tt ∧ T1 ∧ tt ∧ ((0 : Int) ≤ (5 : Int) ∧ (5 : Int) < (7 : Int) ∧ 6 ≤ 7) ∧ T1 ∧ tt ∧ T1 ∧ T1 ∧ T1 ∧ ((v22 = (List.length v20) ∧ True) ∧ (isBytes v20) ∧ ((List.length v20) + 10) ≤ 140737488355328) ∧ ∀ v24 : (List AV), (v24 = (bytesAV (@catL UInt8 (bytesL v20) (short (Int.toNat (IntKind.wrap IntKind.u64 d5)))))) → ∀ v26 : Nat, (v26 = (List.length (bytesAV (@catL UInt8 (bytesL v20) (short (Int.toNat (IntKind.wrap IntKind.u64 d5))))))) → tt ∧ T1 ∧ T1 ∧ (tt ∧ tt) ∧ tt ∧ T1 ∧ tt ∧ ((0 : Int) ≤ (6 : Int) ∧ (6 : Int) < (7 : Int) ∧ 7 ≤ 7) ∧ T1 ∧ tt ∧ T1 ∧ T1 ∧ T1 ∧ ((v26 = (List.length v24) ∧ True) ∧ (isBytes v24) ∧ ((List.length v24) + 10) ≤ 140737488355328) ∧ ∀ v28 : (List AV), (v28 = (bytesAV (@catL UInt8 (bytesL v24) (short (Int.toNat (IntKind.wrap IntKind.u64 d6)))))) → ∀ v30 : Nat, (v30 = (List.length (bytesAV (@catL UInt8 (bytesL v24) (short (Int.toNat (IntKind.wrap IntKind.u64 d6))))))) → tt ∧ T1 ∧ T1 ∧ (tt ∧ tt) ∧ tt ∧ T1 ∧ tt ∧ tt ∧ ((0 < 1 ∧ (bytesAV (@catL UInt8 (bytesL xs) q0)) = v28 ∧ v30 = (List.length v28)) ∧ True) ∧ tt)))) : inAttPut0 s d0 d1 d2 d3 d4 d5 d6 xs p q :=
  Eq.mp (show _ = _ by kernel_rfl) h
theorem vcAttTake0 (xs : (List AV)) (e : Int) (h : let q0 := (bytesL xs); (tt ∧ T1 ∧ tt ∧ T1 ∧ (T1 ∧ (isBytes xs)) ∧ ∀ v0 : Int, (v0 = (shV q0 e 1073741824)) → ∀ v2 : (List AV), (v2 = (bytesAV (shRest q0 e 1073741824))) → ∀ v4 : Int, (v4 = (shErr q0 e 1073741824)) → T1 ∧ T1 ∧ T1 ∧ tt ∧ tt ∧ T1 ∧ (tt ∧ tt) ∧ tt ∧ T1 ∧ tt ∧ T1 ∧ T1 ∧ tt ∧ T1 ∧ T1 ∧ (T1 ∧ (isBytes v2)) ∧ ∀ v6 : Int, (v6 = (shV (bytesL v2) v4 1024)) → ∀ v8 : (List AV), (v8 = (bytesAV (shRest (bytesL v2) v4 1024))) → ∀ v10 : Int, (v10 = (shErr (bytesL v2) v4 1024)) → T1 ∧ T1 ∧ ((0 : Int) ≤ (0 : Int) ∧ (0 : Int) < (7 : Int)) ∧ tt ∧ tt ∧ T1 ∧ T1 ∧ (tt ∧ tt) ∧ tt ∧ T1 ∧ tt ∧ T1 ∧ T1 ∧ tt ∧ T1 ∧ T1 ∧ (T1 ∧ (isBytes v8)) ∧ ∀ v12 : Int, (v12 = (shV (bytesL v8) v10 1024)) → ∀ v14 : (List AV), (v14 = (bytesAV (shRest (bytesL v8) v10 1024))) → ∀ v16 : Int, (v16 = (shErr (bytesL v8) v10 1024)) → T1 ∧ T1 ∧ ((0 : Int) ≤ (1 : Int) ∧ (1 : Int) < (7 : Int)) ∧ tt ∧ tt ∧ T1 ∧ T1 ∧ (tt ∧ tt) ∧ tt ∧ T1 ∧ tt ∧ T1 ∧ T1 ∧ tt ∧ T1 ∧ T1 ∧ (T1 ∧ (isBytes v14)) ∧ ∀ v18 : Int, (v18 = (shV (bytesL v14) v16 1024)) → ∀ v20 : (List AV), (v20 = (bytesAV (shRest (bytesL v14) v16 1024))) → ∀ v22 : Int, (v22 = (shErr (bytesL v14) v16 1024)) → T1 ∧ T1 ∧ ((0 : Int) ≤ (2 : Int) ∧ (2 : Int) < (7 : Int)) ∧ tt ∧ tt ∧ T1 ∧ T1 ∧ (tt ∧ tt) ∧ tt ∧ T1 ∧ tt ∧ T1 ∧ T1 ∧ tt ∧ T1 ∧ T1 ∧ (T1 ∧ (isBytes v20)) ∧ ∀ v24 : Int, (v24 = (shV (bytesL v20) v22 1024)) → ∀ v26 : (List AV), (v26 = (bytesAV (shRest (bytesL v20) v22 1024))) → ∀ v28 : Int, (v28 = (shErr (bytesL v20) v22 1024)) → T1 ∧ T1 ∧ ((0 : Int) ≤ (3 : Int) ∧ (3 : Int) < (7 : Int)) ∧ tt ∧ tt ∧ T1 ∧ T1 ∧ (tt ∧ tt) ∧ tt ∧ T1 ∧ tt ∧ T1 ∧ T1 ∧ tt ∧ T1 ∧ T1 ∧ (T1 ∧ (isBytes v26)) ∧ ∀ v30 : Int, (v30 = (shV (bytesL v26) v28 1024)) → ∀ v32 : (List AV), (v32 = (bytesAV (shRest (bytesL v26) v28 1024))) → ∀ v34 : Int, (v34 = (shErr (bytesL v26) v28 1024)) → T1 ∧ T1 ∧ ((0 : Int) ≤ (4 : Int) ∧ (4 : Int) < (7 : Int)) ∧ tt ∧ tt ∧ T1 ∧ T1 ∧ (tt ∧ tt) ∧ tt ∧ T1 ∧ tt ∧ T1 ∧ T1 ∧ tt ∧ T1 ∧ T1 ∧ (T1 ∧ (isBytes v32)) ∧ ∀ v36 : Int, (v36 = (shV (bytesL v32) v34 1024)) → ∀ v38 : (List AV), (v38 = (bytesAV (shRest (bytesL v32) v34 1024))) → ∀ v40 : Int, (v40 = (shErr (bytesL v32) v34 1024)) → T1 ∧ T1 ∧ ((0 : Int) ≤ (5 : Int) ∧ (5 : Int) < (7 : Int)) ∧ tt ∧ tt ∧ T1 ∧ T1 ∧ (tt ∧ tt) ∧ tt ∧ T1 ∧ tt ∧ T1 ∧ T1 ∧ tt ∧ T1 ∧ T1 ∧ (T1 ∧ (isBytes v38)) ∧ ∀ v42 : Int, (v42 = (shV (bytesL v38) v40 1024)) → ∀ v44 : (List AV), (v44 = (bytesAV (shRest (bytesL v38) v40 1024))) → ∀ v46 : Int, (v46 = (shErr (bytesL v38) v40 1024)) → T1 ∧ T1 ∧ ((0 : Int) ≤ (6 : Int) ∧ (6 : Int) < (7 : Int)) ∧ tt ∧ tt ∧ T1 ∧ T1 ∧ (tt ∧ tt) ∧ tt ∧ T1 ∧ tt ∧ T1 ∧ (T1 ∧ True) ∧ ∀ v48 : (List AV), (v48 = v44) → ∀ v50 : Int, (v50 = v46) → (bif (@Decidable.decide (@Ne.{1} Int v46 (0 : Int)) (@instDecidableNot (v46 = 0) (@Int.instDecidableEq v46 (0 : Int)))) then (tt ∧ T1 ∧ tt ∧ tt ∧ tt ∧ ((bytesAV (atS q0 e 7).1) = v48 ∧ (atS q0 e 7).2 = v50 ∧ (atZ q0 e (shV q0 e 1073741824)) = 0 ∧ (atZ q0 e (atV q0 e 0)) = 0 ∧ (atZ q0 e (atV q0 e 1)) = 0 ∧ (atZ q0 e (atV q0 e 2)) = 0 ∧ (atZ q0 e (atV q0 e 3)) = 0 ∧ (atZ q0 e (atV q0 e 4)) = 0 ∧ (atZ q0 e (atV q0 e 5)) = 0 ∧ (atZ q0 e (atV q0 e 6)) = 0 ∧ True) ∧ tt) else (tt ∧ tt ∧ tt ∧ tt ∧ tt ∧ ((bytesAV (atS q0 e 7).1) = v48 ∧ (atS q0 e 7).2 = v50 ∧ (atZ q0 e (shV q0 e 1073741824)) = (IntKind.wrap IntKind.i64 v0) ∧ (atZ q0 e (atV q0 e 0)) = (IntKind.wrap IntKind.i64 v6) ∧ (atZ q0 e (atV q0 e 1)) = (IntKind.wrap IntKind.i64 v12) ∧ (atZ q0 e (atV q0 e 2)) = (IntKind.wrap IntKind.i64 v18) ∧ (atZ q0 e (atV q0 e 3)) = (IntKind.wrap IntKind.i64 v24) ∧ (atZ q0 e (atV q0 e 4)) = (IntKind.wrap IntKind.i64 v30) ∧ (atZ q0 e (atV q0 e 5)) = (IntKind.wrap IntKind.i64 v36) ∧ (atZ q0 e (atV q0 e 6)) = (IntKind.wrap IntKind.i64 v42) ∧ True) ∧ tt)))) : inAttTake0 xs e :=
  Eq.mp (show _ = _ by kernel_rfl) h
end Go.Proofs.YtfoabkkkdcicgaaGreatDoor
/- The conditions hold: names, ballots, attributes in bytes. -/
namespace Go.Proofs.YtfoabkkkdcicgaaGreatDoor
set_option linter.unusedVariables false
set_option linter.unusedSimpArgs false
open Go.RowKit
set_option maxRecDepth 100000

theorem tkRest_suf (l : List UInt8) (e k : Int) : tkRest l e k <:+ l := by
  unfold tkRest; split
  · exact List.drop_suffix _ _
  · exact List.suffix_refl _
theorem shRest_suf (l : List UInt8) (e m : Int) : shRest l e m <:+ l := by
  unfold shRest; split
  · exact List.suffix_refl _
  · split
    · exact List.suffix_refl _
    · split
      · exact List.suffix_refl _
      · exact List.drop_suffix _ _
theorem idRest_suf (l : List UInt8) (e : Int) : idRest l e <:+ l := (shRest_suf _ _ _).trans (tkRest_suf _ _ _)
theorem atS_suf (l : List UInt8) (e : Int) : ∀ k, (atS l e k).1 <:+ l
  | 0 => shRest_suf _ _ _
  | k + 1 => (shRest_suf _ _ _).trans (atS_suf l e k)
theorem inByteV_range (l : List UInt8) (e : Int) : 0 ≤ inByteV l e ∧ inByteV l e ≤ 255 := by
  unfold inByteV
  have := ((tkOut l e 1).getD 0 0).toNat_lt
  omega
theorem okTakeID0 : OkTakeID0 := by
  intro xs e hq
  refine vcTakeID0 xs e ?_
  simp only [true_and, and_true, forall_eq, eq_self, bytesL_bytesAV, isBytes_bytesAV]
  have hb := inByteV_range (bytesL xs) e
  have w1 : IntKind.i64.wrap (inByteV (bytesL xs) e) = inByteV (bytesL xs) e := wrap_i64 (by omega) (by omega)
  have w2 : ∀ l e, IntKind.i64.wrap (shV l e 1023) = shV l e 1023 := fun l e => by have := shV_range l e 1023 (by omega); exact wrap_i64 (by omega) (by omega)
  rw [w1]
  simp only [w2]
  have e2 : idErr (bytesL xs) e = shErr (tkRest (bytesL xs) e 1) (idE1 (bytesL xs) e) 1023 := rfl
  refine ⟨hq, cond_prop (fun h => ?_) fun h => ?_⟩
  · have e1 : idE1 (bytesL xs) e = inFail (tkErr (bytesL xs).length e 1) 12 := if_pos (by simpa using h)
    rw [← e1]
    refine cond_prop (fun h' => ?_) fun h' => ?_
    · simp at h'
      exact ⟨rfl, rfl, by unfold idR; rw [e2]; simp [h'], by unfold idS; rw [e2]; simp [h']⟩
    · simp at h'
      exact ⟨rfl, rfl, by unfold idR; rw [e2]; simp [h'], by unfold idS; rw [e2]; simp [h']⟩
  · have e1 : idE1 (bytesL xs) e = tkErr (bytesL xs).length e 1 := if_neg (by simpa using h)
    rw [← e1]
    refine cond_prop (fun h' => ?_) fun h' => ?_
    · simp at h'
      exact ⟨rfl, rfl, by unfold idR; rw [e2]; simp [h'], by unfold idS; rw [e2]; simp [h']⟩
    · simp at h'
      exact ⟨rfl, rfl, by unfold idR; rw [e2]; simp [h'], by unfold idS; rw [e2]; simp [h']⟩
theorem okTakeBal0 : OkTakeBal0 := by
  intro xs e hq
  refine vcTakeBal0 xs e ?_
  simp only [true_and, and_true, forall_eq, eq_self, bytesL_bytesAV, isBytes_bytesAV]
  have hr := shV_range (bytesL xs) e 4294967295 (by omega)
  rw [wrap_u32 hr.1 hr.2]
  refine ⟨hq, cond_prop (fun h => ?_) fun h => ?_⟩
  · simp at h; simp [balE, balV, h]
  · simp at h; simp [balE, balV, h]
theorem okIdPut0 : OkIdPut0 := by
  intro xs p q r n hq
  refine vcIdPut0 xs p q r n ?_
  simp only [true_and, and_true, forall_eq, eq_self, bytesL_bytesAV, isBytes_bytesAV, length_bytesAV]
  obtain ⟨hb, hl⟩ := hq
  have hlen : (bytesL xs).length = xs.length := by simp [bytesL]
  refine ⟨⟨hb, by omega⟩, ?_, by omega, ?_⟩
  · rw [catL_length, hlen]; simp [encByte]; omega
  · rw [catL_assoc]; rfl
theorem okBalPut0 : OkBalPut0 := by
  intro xs p q b hq hb
  refine vcBalPut0 xs p q b ?_
  simp only [true_and, and_true, forall_eq, eq_self, bytesL_bytesAV, isBytes_bytesAV, length_bytesAV]
  rw [wrap_u64 hb.1 (by omega)]
  exact ⟨hq, by omega, rfl⟩
theorem okAttPut0 : OkAttPut0 := by
  intro s d0 d1 d2 d3 d4 d5 d6 xs p q hq
  refine vcAttPut0 s d0 d1 d2 d3 d4 d5 d6 xs p q ?_
  simp only [true_and, and_true, forall_eq, eq_self, bytesL_bytesAV, isBytes_bytesAV, length_bytesAV, catL_length]
  obtain ⟨hb, hl⟩ := hq
  have hlen : (bytesL xs).length = xs.length := by simp [bytesL]
  have sl : ∀ v : Int, (short (IntKind.u64.wrap v).toNat).length ≤ 10 := fun v => by
    have : 0 ≤ IntKind.u64.wrap v ∧ IntKind.u64.wrap v ≤ 18446744073709551615 := by rw [IntKind.wrap_u64]; omega
    exact short_le10 this.1 this.2
  have s0 : (short 0).length ≤ 10 := sl 0
  refine cond_prop (fun h => ?_) fun h => ?_
  · simp only [Bool.not_eq_true'] at h
    refine ⟨⟨hb, by omega⟩, ?_⟩
    repeat' (refine And.intro ?_ ?_)
    all_goals first | omega | simp [zA, h, encA, catL_assoc]
  · simp only [Bool.not_eq_false'] at h
    have hh := h
    simp only [rightA, inLen, Bool.and_eq_true, decide_eq_true_eq] at hh
    have := sl s; have := sl d0; have := sl d1; have := sl d2; have := sl d3; have := sl d4; have := sl d5; have := sl d6
    have w : ∀ v : Int, 0 ≤ v → v ≤ 1073741824 → IntKind.u64.wrap v = v := fun v h0 h1 => wrap_u64 h0 (by omega)
    rw [w s (by omega) (by omega), w d0 (by omega) (by omega), w d1 (by omega) (by omega), w d2 (by omega) (by omega), w d3 (by omega) (by omega), w d4 (by omega) (by omega), w d5 (by omega) (by omega), w d6 (by omega) (by omega)] at *
    refine ⟨⟨hb, by omega⟩, ?_⟩
    repeat' (refine And.intro ?_ ?_)
    all_goals first | omega | simp [zA, h, encA, catL_assoc]
theorem okAttTake0 : OkAttTake0 := by
  intro xs e hq
  refine vcAttTake0 xs e ?_
  have s0 : ∀ l, shRest l e 1073741824 = (atS l e 0).1 := fun l => rfl
  have t0 : ∀ l, shErr l e 1073741824 = (atS l e 0).2 := fun l => rfl
  have s1 : ∀ l k, shRest (atS l e k).1 (atS l e k).2 1024 = (atS l e (k + 1)).1 := fun l k => rfl
  have t1 : ∀ l k, shErr (atS l e k).1 (atS l e k).2 1024 = (atS l e (k + 1)).2 := fun l k => rfl
  have v1 : ∀ l k, shV (atS l e k).1 (atS l e k).2 1024 = atV l e k := fun l k => rfl
  have w2 : ∀ l k, IntKind.i64.wrap (atV l e k) = atV l e k := fun l k => by have := shV_range (atS l e k).1 (atS l e k).2 1024 (by omega); exact wrap_i64 (by unfold atV; omega) (by unfold atV; omega)
  have w3 : ∀ l, IntKind.i64.wrap (shV l e 1073741824) = shV l e 1073741824 := fun l => by have := shV_range l e 1073741824 (by omega); exact wrap_i64 (by omega) (by omega)
  simp only [true_and, and_true, forall_eq, eq_self, bytesL_bytesAV, isBytes_bytesAV, s0, t0, s1, t1, v1, w2, w3, Nat.reduceAdd]
  refine ⟨hq, ?_⟩
  refine ⟨by omega, by omega, by omega, by omega, by omega, by omega, by omega, ?_⟩
  refine cond_prop (fun h => ?_) fun h => ?_
  · simp at h; simp [atZ, h]
  · simp at h; simp [atZ, h]
end Go.Proofs.YtfoabkkkdcicgaaGreatDoor
/- The contracts are met. -/
namespace Go.Proofs.YtfoabkkkdcicgaaGreatDoor
set_option linter.unusedVariables false
set_option linter.unusedSimpArgs false
open Go.RowKit
theorem sndTakeID : Sound Tryz.prog (lookΓ gamTakeID) := sound_of _ fun p hp => by
  simp only [gamTakeID, List.mem_cons, List.not_mem_nil, or_false] at hp
  rcases hp with rfl | rfl | rfl | rfl
  · exact meetsInByte.orNil
  · exact meetsInFail.orNil
  · exact meetsInShort.orNil
  · exact meetsInFailed.orNil
set_option maxHeartbeats 4000000 in
theorem meetsTakeID : Meets Tryz.prog 57 takeIDF := by
  refine meets_of_awp (Γ := lookΓ gamTakeID) (L := fun _ _ => none) sndTakeID mixedOrders Tryz.func57 rfl Tryz.call57 ?_
  intro args q r hF hq ho
  unfold takeIDF at hF
  split at hF
  · cases hF
    exact ⟨by simp only [List.length_cons, List.length_nil]; decide, okTakeID0 _ _ hq⟩
  · cases hF
theorem sndTakeBal : Sound Tryz.prog (lookΓ gamTakeBal) := sound_of _ fun p hp => by
  simp only [gamTakeBal, List.mem_cons, List.not_mem_nil, or_false] at hp
  rcases hp with rfl | rfl | rfl
  · exact meetsInShort.orNil
  · exact meetsBalRight.orNil
  · exact meetsInFail.orNil
set_option maxHeartbeats 4000000 in
theorem meetsTakeBal : Meets Tryz.prog 58 takeBalF := by
  refine meets_of_awp (Γ := lookΓ gamTakeBal) (L := fun _ _ => none) sndTakeBal mixedOrders Tryz.func58 rfl Tryz.call58 ?_
  intro args q r hF hq ho
  unfold takeBalF at hF
  split at hF
  · cases hF
    exact ⟨by simp only [List.length_cons, List.length_nil]; decide, okTakeBal0 _ _ hq⟩
  · cases hF
theorem sndIdPut : Sound Tryz.prog (lookΓ gamIdPut) := sound_of _ fun p hp => by
  simp only [gamIdPut, List.mem_cons, List.not_mem_nil, or_false] at hp
  rcases hp with rfl | rfl
  · exact meetsOutByte.orNil
  · exact meetsOutShort.orNil
set_option maxHeartbeats 4000000 in
theorem meetsIdPut : Meets Tryz.prog 42 idPutF := by
  refine meets_of_awp (Γ := lookΓ gamIdPut) (L := fun _ _ => none) sndIdPut mixedOrders Tryz.func42 rfl Tryz.call42 ?_
  intro args q r hF hq ho
  unfold idPutF at hF
  split at hF
  · split at hF
    · rename_i hte
      subst hte
      cases hF
      exact ⟨by simp only [List.length_cons, List.length_nil]; decide, okIdPut0 _ _ _ _ _ hq⟩
    · cases hF
  · cases hF
theorem sndBalPut : Sound Tryz.prog (lookΓ gamBalPut) := sound_of _ fun p hp => by
  simp only [gamBalPut, List.mem_cons, List.not_mem_nil, or_false] at hp
  subst hp
  exact meetsOutShort.orNil
set_option maxHeartbeats 4000000 in
theorem meetsBalPut : Meets Tryz.prog 43 balPutF := by
  refine meets_of_awp (Γ := lookΓ gamBalPut) (L := fun _ _ => none) sndBalPut mixedOrders Tryz.func43 rfl Tryz.call43 ?_
  intro args q r hF hq ho
  unfold balPutF at hF
  split at hF
  · split at hF
    · rename_i hte
      subst hte
      cases hF
      exact ⟨by simp only [List.length_cons, List.length_nil]; decide, okBalPut0 _ _ _ _ hq (okay_u32 (argI 0 ho rfl rfl))⟩
    · cases hF
  · cases hF
theorem sndAttPut : Sound Tryz.prog (lookΓ gamAttPut) := sound_of _ fun p hp => by
  simp only [gamAttPut, List.mem_cons, List.not_mem_nil, or_false] at hp
  rcases hp with rfl | rfl
  · exact meetsAttRight.orNil
  · exact meetsOutShort.orNil
set_option maxHeartbeats 4000000 in
theorem meetsAttPut : Meets Tryz.prog 74 attPutF := by
  refine meets_of_awp (Γ := lookΓ gamAttPut) (L := fun args => match args with | [.val (.agg [.int .i64 s, .int .i64 d0, .int .i64 d1, .int .i64 d2, .int .i64 d3, .int .i64 d4, .int .i64 d5, .int .i64 d6]), .box [.sl xs (.row p q te0)]] => lpAttPut0 s d0 d1 d2 d3 d4 d5 d6 xs p q | _ => fun _ => none) sndAttPut mixedOrders Tryz.func74 rfl Tryz.call74 ?_
  intro args q r hF hq ho
  unfold attPutF at hF
  split at hF
  · split at hF
    · rename_i hte
      subst hte
      cases hF
      exact ⟨by simp only [List.length_cons, List.length_nil]; decide, okAttPut0 _ _ _ _ _ _ _ _ _ _ _ hq⟩
    · cases hF
  · cases hF
theorem sndAttTake : Sound Tryz.prog (lookΓ gamAttTake) := sound_of _ fun p hp => by
  simp only [gamAttTake, List.mem_cons, List.not_mem_nil, or_false] at hp
  rcases hp with rfl | rfl
  · exact meetsInShort.orNil
  · exact meetsInFailed.orNil
set_option maxHeartbeats 4000000 in
theorem meetsAttTake : Meets Tryz.prog 63 attTakeF := by
  refine meets_of_awp (Γ := lookΓ gamAttTake) (L := fun args => match args with | [.box [.sl xs .no, .int .i64 e]] => lpAttTake0 xs e | _ => fun _ => none) sndAttTake mixedOrders Tryz.func63 rfl Tryz.call63 ?_
  intro args q r hF hq ho
  unfold attTakeF at hF
  split at hF
  · cases hF
    exact ⟨by simp only [List.length_cons, List.length_nil]; decide, okAttTake0 _ _ hq⟩
  · cases hF
end Go.Proofs.YtfoabkkkdcicgaaGreatDoor
