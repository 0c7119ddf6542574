/- Contracts by content, their conditions, and that they are met: IoB. -/
import Derived.Test.YtcokifdgbfbonaaDoorLaxPkWire
import Derived.Test.YtcokifdgbfbonaaDoorLaxPkIoA
/- Contracts by content, and the conditions that their code must meet. -/
namespace Go.Proofs.YtcokifdgbfbonaaDoor
set_option linter.unusedVariables false
set_option linter.unusedSimpArgs false
open Go.RowKit
def idE1 (l : List UInt8) (e : Int) : Int := if 6 < inByteV l e then inFail (tkErr l.length e 1) 12 else tkErr l.length e 1
def idRest (l : List UInt8) (e : Int) : List UInt8 := shRest (tkRest l e 1) (idE1 l e) 1023
def idErr (l : List UInt8) (e : Int) : Int := shErr (tkRest l e 1) (idE1 l e) 1023
def idR (l : List UInt8) (e : Int) : Int := if idErr l e = 0 then inByteV l e else 0
def idS (l : List UInt8) (e : Int) : Int := if idErr l e = 0 then shV (tkRest l e 1) (idE1 l e) 1023 else 0
def balV (l : List UInt8) (e : Int) : Int := if balOK (shV l e 4294967295) then shV l e 4294967295 else 0
def balE (l : List UInt8) (e : Int) : Int := if balOK (shV l e 4294967295) then shErr l e 4294967295 else inFail (shErr l e 4294967295) 60
def encID (r s : Int) : List UInt8 := catL (encByte (IntKind.u8.wrap r)) (short (IntKind.u64.wrap s).toNat)
def atS (l : List UInt8) (e : Int) : Nat → List UInt8 × Int
  | 0 => (shRest l e 1073741824, shErr l e 1073741824)
  | k + 1 => (shRest (atS l e k).1 (atS l e k).2 1024, shErr (atS l e k).1 (atS l e k).2 1024)
def atV (l : List UInt8) (e : Int) (k : Nat) : Int := shV (atS l e k).1 (atS l e k).2 1024
def atZ (l : List UInt8) (e v : Int) : Int := if (atS l e 7).2 = 0 then v else 0
def encA (s d0 d1 d2 d3 d4 d5 d6 : Int) : List UInt8 := catL (catL (catL (catL (catL (catL (catL (short s.toNat) (short d0.toNat)) (short d1.toNat)) (short d2.toNat)) (short d3.toNat)) (short d4.toNat)) (short d5.toNat)) (short d6.toNat)
def zA (s d0 d1 d2 d3 d4 d5 d6 v : Int) : Int := if rightA s d0 d1 d2 d3 d4 d5 d6 then v else 0
def takeIDF : Con
  | [.box [.sl xs .no, .int .i64 e]] => some (isBytes xs, ⟨.agg [.int .i64 (idR (bytesL xs) e), .int .i64 (idS (bytesL xs) e)], (some [.sl (bytesAV (idRest (bytesL xs) e)) .no, .int .i64 (idErr (bytesL xs) e)]), none⟩)
  | _ => none
def gamTakeID : List (Nat × Con) := [(93, inByteF.orNil), (95, inFailF.orNil), (135, inShortF.orNil), (97, inFailedF.orNil)]
def lpTakeID0 (xs : List AV) (e : Int) : Nat → Option LoopPlan := fun _ => none
def inTakeID0 (xs : List AV) (e : Int) : Prop := awp [0] (lpTakeID0 xs e) (lookΓ gamTakeID) Tryd.prog Tryd.f109.ntmps 0 (Tryd.f109.body.getD .skip) (entrySt [.box [.sl xs .no, .int .i64 e]]) (exitQ Tryd.prog Tryd.f109.results.toList [0] ⟨.agg [.int .i64 (idR (bytesL xs) e), .int .i64 (idS (bytesL xs) e)], (some [.sl (bytesAV (idRest (bytesL xs) e)) .no, .int .i64 (idErr (bytesL xs) e)]), none⟩)
def OkTakeID0 : Prop := ∀ (xs : List AV) (e : Int), isBytes xs → inTakeID0 xs e
def takeBalF : Con
  | [.box [.sl xs .no, .int .i64 e]] => some (isBytes xs, ⟨.int .u32 (balV (bytesL xs) e), (some [.sl (bytesAV (shRest (bytesL xs) e 4294967295)) .no, .int .i64 (balE (bytesL xs) e)]), none⟩)
  | _ => none
def gamTakeBal : List (Nat × Con) := [(135, inShortF.orNil), (75, balRightF.orNil), (95, inFailF.orNil)]
def lpTakeBal0 (xs : List AV) (e : Int) : Nat → Option LoopPlan := fun _ => none
def inTakeBal0 (xs : List AV) (e : Int) : Prop := awp [0] (lpTakeBal0 xs e) (lookΓ gamTakeBal) Tryd.prog Tryd.f110.ntmps 0 (Tryd.f110.body.getD .skip) (entrySt [.box [.sl xs .no, .int .i64 e]]) (exitQ Tryd.prog Tryd.f110.results.toList [0] ⟨.int .u32 (balV (bytesL xs) e), (some [.sl (bytesAV (shRest (bytesL xs) e 4294967295)) .no, .int .i64 (balE (bytesL xs) e)]), none⟩)
def OkTakeBal0 : Prop := ∀ (xs : List AV) (e : Int), isBytes xs → inTakeBal0 xs e
def idPutF : Con
  | [.val (.agg [.int .i64 r, .int .i64 n]), .box [.sl xs (.row p q te0)]] => if te0 = 5 then some (isBytes xs ∧ xs.length + 11 ≤ 140737488355328, ⟨.tup [], (some [.sl (bytesAV (catL (bytesL xs) (encID r n))) (.row 0 0 5)]), none⟩) else none
  | _ => none
def gamIdPut : List (Nat × Con) := [(120, outByteF.orNil), (123, outShortF.orNil)]
def lpIdPut0 (xs : List AV) (p q : Nat) (r n : Int) : Nat → Option LoopPlan := fun _ => none
def inIdPut0 (xs : List AV) (p q : Nat) (r n : Int) : Prop := awp [1] (lpIdPut0 xs p q r n) (lookΓ gamIdPut) Tryd.prog Tryd.f141.ntmps 0 (Tryd.f141.body.getD .skip) (entrySt [.val (.agg [.int .i64 r, .int .i64 n]), .box [.sl xs (.row p q 5)]]) (exitQ Tryd.prog Tryd.f141.results.toList [1] ⟨.tup [], (some [.sl (bytesAV (catL (bytesL xs) (encID r n))) (.row 0 0 5)]), none⟩)
def OkIdPut0 : Prop := ∀ (xs : List AV) (p q : Nat) (r n : Int), isBytes xs ∧ xs.length + 11 ≤ 140737488355328 → inIdPut0 xs p q r n
def balPutF : Con
  | [.val (.int .u32 b), .box [.sl xs (.row p q te0)]] => if te0 = 5 then some (isBytes xs ∧ xs.length + 10 ≤ 140737488355328, ⟨.tup [], (some [.sl (bytesAV (catL (bytesL xs) (short b.toNat))) (.row 0 0 5)]), none⟩) else none
  | _ => none
def gamBalPut : List (Nat × Con) := [(123, outShortF.orNil)]
def lpBalPut0 (xs : List AV) (p q : Nat) (b : Int) : Nat → Option LoopPlan := fun _ => none
def inBalPut0 (xs : List AV) (p q : Nat) (b : Int) : Prop := awp [1] (lpBalPut0 xs p q b) (lookΓ gamBalPut) Tryd.prog Tryd.f142.ntmps 0 (Tryd.f142.body.getD .skip) (entrySt [.val (.int .u32 b), .box [.sl xs (.row p q 5)]]) (exitQ Tryd.prog Tryd.f142.results.toList [1] ⟨.tup [], (some [.sl (bytesAV (catL (bytesL xs) (short b.toNat))) (.row 0 0 5)]), none⟩)
def OkBalPut0 : Prop := ∀ (xs : List AV) (p q : Nat) (b : Int), isBytes xs ∧ xs.length + 10 ≤ 140737488355328 → (0 ≤ b ∧ b ≤ 4294967295) → inBalPut0 xs p q b
def attPutF : Con
  | [.val (.agg [.int .i64 s, .int .i64 d0, .int .i64 d1, .int .i64 d2, .int .i64 d3, .int .i64 d4, .int .i64 d5, .int .i64 d6]), .box [.sl xs (.row p q te0)]] => if te0 = 5 then some (isBytes xs ∧ xs.length + 80 ≤ 140737488355328, ⟨.tup [], (some [.sl (bytesAV (catL (bytesL xs) (encA (zA s d0 d1 d2 d3 d4 d5 d6 s) (zA s d0 d1 d2 d3 d4 d5 d6 d0) (zA s d0 d1 d2 d3 d4 d5 d6 d1) (zA s d0 d1 d2 d3 d4 d5 d6 d2) (zA s d0 d1 d2 d3 d4 d5 d6 d3) (zA s d0 d1 d2 d3 d4 d5 d6 d4) (zA s d0 d1 d2 d3 d4 d5 d6 d5) (zA s d0 d1 d2 d3 d4 d5 d6 d6)))) (.row 0 0 5)]), none⟩) else none
  | _ => none
def gamAttPut : List (Nat × Con) := [(126, attRightF.orNil), (123, outShortF.orNil)]
def lpAttPut0 (s d0 d1 d2 d3 d4 d5 d6 : Int) (xs : List AV) (p q : Nat) : Nat → Option LoopPlan := fun b => bif Nat.beq b 0 then some (.unroll [] 9) else none
def inAttPut0 (s d0 d1 d2 d3 d4 d5 d6 : Int) (xs : List AV) (p q : Nat) : Prop := awp [1] (lpAttPut0 s d0 d1 d2 d3 d4 d5 d6 xs p q) (lookΓ gamAttPut) Tryd.prog Tryd.f144.ntmps 0 (Tryd.f144.body.getD .skip) (entrySt [.val (.agg [.int .i64 s, .int .i64 d0, .int .i64 d1, .int .i64 d2, .int .i64 d3, .int .i64 d4, .int .i64 d5, .int .i64 d6]), .box [.sl xs (.row p q 5)]]) (exitQ Tryd.prog Tryd.f144.results.toList [1] ⟨.tup [], (some [.sl (bytesAV (catL (bytesL xs) (encA (zA s d0 d1 d2 d3 d4 d5 d6 s) (zA s d0 d1 d2 d3 d4 d5 d6 d0) (zA s d0 d1 d2 d3 d4 d5 d6 d1) (zA s d0 d1 d2 d3 d4 d5 d6 d2) (zA s d0 d1 d2 d3 d4 d5 d6 d3) (zA s d0 d1 d2 d3 d4 d5 d6 d4) (zA s d0 d1 d2 d3 d4 d5 d6 d5) (zA s d0 d1 d2 d3 d4 d5 d6 d6)))) (.row 0 0 5)]), none⟩)
def OkAttPut0 : Prop := ∀ (s d0 d1 d2 d3 d4 d5 d6 : Int) (xs : List AV) (p q : Nat), isBytes xs ∧ xs.length + 80 ≤ 140737488355328 → inAttPut0 s d0 d1 d2 d3 d4 d5 d6 xs p q
def attTakeF : Con
  | [.box [.sl xs .no, .int .i64 e]] => some (isBytes xs, ⟨.agg [.int .i64 (atZ (bytesL xs) e (shV (bytesL xs) e 1073741824)), .int .i64 (atZ (bytesL xs) e (atV (bytesL xs) e 0)), .int .i64 (atZ (bytesL xs) e (atV (bytesL xs) e 1)), .int .i64 (atZ (bytesL xs) e (atV (bytesL xs) e 2)), .int .i64 (atZ (bytesL xs) e (atV (bytesL xs) e 3)), .int .i64 (atZ (bytesL xs) e (atV (bytesL xs) e 4)), .int .i64 (atZ (bytesL xs) e (atV (bytesL xs) e 5)), .int .i64 (atZ (bytesL xs) e (atV (bytesL xs) e 6))], (some [.sl (bytesAV (atS (bytesL xs) e 7).1) .no, .int .i64 (atS (bytesL xs) e 7).2]), none⟩)
  | _ => none
def gamAttTake : List (Nat × Con) := [(135, inShortF.orNil), (97, inFailedF.orNil)]
def lpAttTake0 (xs : List AV) (e : Int) : Nat → Option LoopPlan := fun b => bif Nat.beq b 0 then some (.unroll [] 9) else none
def inAttTake0 (xs : List AV) (e : Int) : Prop := awp [0] (lpAttTake0 xs e) (lookΓ gamAttTake) Tryd.prog Tryd.f112.ntmps 0 (Tryd.f112.body.getD .skip) (entrySt [.box [.sl xs .no, .int .i64 e]]) (exitQ Tryd.prog Tryd.f112.results.toList [0] ⟨.agg [.int .i64 (atZ (bytesL xs) e (shV (bytesL xs) e 1073741824)), .int .i64 (atZ (bytesL xs) e (atV (bytesL xs) e 0)), .int .i64 (atZ (bytesL xs) e (atV (bytesL xs) e 1)), .int .i64 (atZ (bytesL xs) e (atV (bytesL xs) e 2)), .int .i64 (atZ (bytesL xs) e (atV (bytesL xs) e 3)), .int .i64 (atZ (bytesL xs) e (atV (bytesL xs) e 4)), .int .i64 (atZ (bytesL xs) e (atV (bytesL xs) e 5)), .int .i64 (atZ (bytesL xs) e (atV (bytesL xs) e 6))], (some [.sl (bytesAV (atS (bytesL xs) e 7).1) .no, .int .i64 (atS (bytesL xs) e 7).2]), none⟩)
def OkAttTake0 : Prop := ∀ (xs : List AV) (e : Int), isBytes xs → inAttTake0 xs e
end Go.Proofs.YtcokifdgbfbonaaDoor
/- What the verification conditions come to: printed by a program of ours (wip/lax/ex/Norm.lean). -/
namespace Go.Proofs.YtcokifdgbfbonaaDoor
set_option linter.unusedVariables false
open Go.RowKit
set_option maxRecDepth 100000
theorem vcTakeID0 (xs : (@List.{0} AV)) (e : Int) (h : (tt ∧ T1 ∧ tt ∧ T1 ∧ (T1 ∧ (isBytes xs)) ∧ (∀ (v0 : Int), (∀ (v1 : (v0 = (inByteV (bytesL xs) e))), (∀ (v2 : (@List.{0} AV)), (∀ (v3 : (v2 = (bytesAV (tkRest (bytesL xs) e (1 : Int))))), (∀ (v4 : Int), (∀ (v5 : (v4 = (tkErr (List.length (bytesL xs)) e (1 : Int)))), (T1 ∧ tt ∧ T1 ∧ T1 ∧ (bif (decide ((6 : Int) < v0)) then (tt ∧ T1 ∧ (T1 ∧ True) ∧ (∀ (v6 : (@List.{0} AV)), (∀ (v7 : (v6 = v2)), (∀ (v8 : Int), (∀ (v9 : (v8 = (inFail v4 (12 : Int)))), (tt ∧ T1 ∧ (T1 ∧ (isBytes v6)) ∧ (∀ (v10 : Int), (∀ (v11 : (v10 = (shV (bytesL v6) v8 (1023 : Int)))), (∀ (v12 : (@List.{0} AV)), (∀ (v13 : (v12 = (bytesAV (shRest (bytesL v6) v8 (1023 : Int))))), (∀ (v14 : Int), (∀ (v15 : (v14 = (shErr (bytesL v6) v8 (1023 : Int)))), (T1 ∧ tt ∧ T1 ∧ (T1 ∧ True) ∧ (∀ (v16 : (@List.{0} AV)), (∀ (v17 : (v16 = v12)), (∀ (v18 : Int), (∀ (v19 : (v18 = v14)), (bif (@Decidable.decide (@Ne.{1} Int v14 (0 : Int)) (@instDecidableNot (v14 = (0 : Int)) (@Int.instDecidableEq v14 (0 : Int)))) then (tt ∧ T1 ∧ tt ∧ tt ∧ tt ∧ (((bytesAV (idRest (bytesL xs) e)) = v16) ∧ ((idErr (bytesL xs) e) = v18) ∧ ((idR (bytesL xs) e) = (0 : Int)) ∧ ((idS (bytesL xs) e) = (0 : Int)) ∧ True) ∧ tt) else (tt ∧ T1 ∧ T1 ∧ T1 ∧ T1 ∧ T1 ∧ tt ∧ tt ∧ tt ∧ (((bytesAV (idRest (bytesL xs) e)) = v16) ∧ ((idErr (bytesL xs) e) = v18) ∧ ((idR (bytesL xs) e) = (Go.IntKind.wrap Go.IntKind.i64 v0)) ∧ ((idS (bytesL xs) e) = (Go.IntKind.wrap Go.IntKind.i64 v10)) ∧ True) ∧ tt))))))))))))))))))) else (tt ∧ T1 ∧ (T1 ∧ (isBytes v2)) ∧ (∀ (v6 : Int), (∀ (v7 : (v6 = (shV (bytesL v2) v4 (1023 : Int)))), (∀ (v8 : (@List.{0} AV)), (∀ (v9 : (v8 = (bytesAV (shRest (bytesL v2) v4 (1023 : Int))))), (∀ (v10 : Int), (∀ (v11 : (v10 = (shErr (bytesL v2) v4 (1023 : Int)))), (T1 ∧ tt ∧ T1 ∧ (T1 ∧ True) ∧ (∀ (v12 : (@List.{0} AV)), (∀ (v13 : (v12 = v8)), (∀ (v14 : Int), (∀ (v15 : (v14 = v10)), (bif (@Decidable.decide (@Ne.{1} Int v10 (0 : Int)) (@instDecidableNot (v10 = (0 : Int)) (@Int.instDecidableEq v10 (0 : Int)))) then (tt ∧ T1 ∧ tt ∧ tt ∧ tt ∧ (((bytesAV (idRest (bytesL xs) e)) = v12) ∧ ((idErr (bytesL xs) e) = v14) ∧ ((idR (bytesL xs) e) = (0 : Int)) ∧ ((idS (bytesL xs) e) = (0 : Int)) ∧ True) ∧ tt) else (tt ∧ T1 ∧ T1 ∧ T1 ∧ T1 ∧ T1 ∧ tt ∧ tt ∧ tt ∧ (((bytesAV (idRest (bytesL xs) e)) = v12) ∧ ((idErr (bytesL xs) e) = v14) ∧ ((idR (bytesL xs) e) = (Go.IntKind.wrap Go.IntKind.i64 v0)) ∧ ((idS (bytesL xs) e) = (Go.IntKind.wrap Go.IntKind.i64 v6)) ∧ True) ∧ tt)))))))))))))))))))))))) : inTakeID0 xs e :=
  Eq.mp (show _ = _ by kernel_rfl) h
theorem vcTakeBal0 (xs : (@List.{0} AV)) (e : Int) (h : (tt ∧ T1 ∧ tt ∧ T1 ∧ (T1 ∧ (isBytes xs)) ∧ (∀ (v0 : Int), (∀ (v1 : (v0 = (shV (bytesL xs) e (4294967295 : Int)))), (∀ (v2 : (@List.{0} AV)), (∀ (v3 : (v2 = (bytesAV (shRest (bytesL xs) e (4294967295 : Int))))), (∀ (v4 : Int), (∀ (v5 : (v4 = (shErr (bytesL xs) e (4294967295 : Int)))), (T1 ∧ T1 ∧ tt ∧ T1 ∧ (T1 ∧ True) ∧ T1 ∧ (bif (Bool.not (balOK (Go.IntKind.wrap Go.IntKind.u32 v0))) then (tt ∧ T1 ∧ (T1 ∧ True) ∧ (∀ (v6 : (@List.{0} AV)), (∀ (v7 : (v6 = v2)), (∀ (v8 : Int), (∀ (v9 : (v8 = (inFail v4 (60 : Int)))), (tt ∧ T1 ∧ tt ∧ tt ∧ (((bytesAV (shRest (bytesL xs) e (4294967295 : Int))) = v6) ∧ ((balE (bytesL xs) e) = v8) ∧ ((balV (bytesL xs) e) = (0 : Int)) ∧ True) ∧ tt)))))) else (tt ∧ T1 ∧ T1 ∧ tt ∧ tt ∧ (((bytesAV (shRest (bytesL xs) e (4294967295 : Int))) = v2) ∧ ((balE (bytesL xs) e) = v4) ∧ ((balV (bytesL xs) e) = (Go.IntKind.wrap Go.IntKind.u32 v0)) ∧ True) ∧ tt))))))))))) : inTakeBal0 xs e :=
  Eq.mp (show _ = _ by kernel_rfl) h
theorem vcIdPut0 (xs : (@List.{0} AV)) (p : Nat) (q : Nat) (r : Int) (n : Int) (h : (tt ∧ T1 ∧ tt ∧ T1 ∧ T1 ∧ tt ∧ T1 ∧ ((((List.length xs) = (List.length xs)) ∧ True) ∧ (isBytes xs) ∧ (((List.length xs) + 1) ≤ 140737488355328)) ∧ (∀ (v0 : (@List.{0} AV)), (∀ (v1 : (v0 = (bytesAV (@catL UInt8 (bytesL xs) (encByte (Go.IntKind.wrap Go.IntKind.u8 r)))))), (∀ (v2 : Nat), (∀ (v3 : (v2 = (List.length (bytesAV (@catL UInt8 (bytesL xs) (encByte (Go.IntKind.wrap Go.IntKind.u8 r))))))), (T1 ∧ tt ∧ T1 ∧ (((v2 = (List.length v0)) ∧ True) ∧ (isBytes v0) ∧ (((List.length v0) + 10) ≤ 140737488355328)) ∧ (∀ (v4 : (@List.{0} AV)), (∀ (v5 : (v4 = (bytesAV (@catL UInt8 (bytesL v0) (short (Int.toNat (Go.IntKind.wrap Go.IntKind.u64 n))))))), (∀ (v6 : Nat), (∀ (v7 : (v6 = (List.length (bytesAV (@catL UInt8 (bytesL v0) (short (Int.toNat (Go.IntKind.wrap Go.IntKind.u64 n)))))))), (tt ∧ tt ∧ tt ∧ (((0 < 1) ∧ ((bytesAV (@catL UInt8 (bytesL xs) (encID r n))) = v4) ∧ (v6 = (List.length v4))) ∧ True) ∧ tt)))))))))))) : inIdPut0 xs p q r n :=
  Eq.mp (show _ = _ by kernel_rfl) h
theorem vcBalPut0 (xs : (@List.{0} AV)) (p : Nat) (q : Nat) (b : Int) (h : (tt ∧ T1 ∧ T1 ∧ T1 ∧ ((((List.length xs) = (List.length xs)) ∧ True) ∧ (isBytes xs) ∧ (((List.length xs) + 10) ≤ 140737488355328)) ∧ (∀ (v0 : (@List.{0} AV)), (∀ (v1 : (v0 = (bytesAV (@catL UInt8 (bytesL xs) (short (Int.toNat (Go.IntKind.wrap Go.IntKind.u64 b))))))), (∀ (v2 : Nat), (∀ (v3 : (v2 = (List.length (bytesAV (@catL UInt8 (bytesL xs) (short (Int.toNat (Go.IntKind.wrap Go.IntKind.u64 b)))))))), (tt ∧ tt ∧ (((0 < 1) ∧ ((bytesAV (@catL UInt8 (bytesL xs) (short (Int.toNat b)))) = v0) ∧ (v2 = (List.length v0))) ∧ True) ∧ tt))))))) : inBalPut0 xs p q b :=
  Eq.mp (show _ = _ by kernel_rfl) h
theorem vcAttPut0 (s : Int) (d0 : Int) (d1 : Int) (d2 : Int) (d3 : Int) (d4 : Int) (d5 : Int) (d6 : Int) (xs : (@List.{0} AV)) (p : Nat) (q : Nat) (h : (tt ∧ T1 ∧ tt ∧ tt ∧ (T1 ∧ True) ∧ T1 ∧ (bif (Bool.not (rightA s d0 d1 d2 d3 d4 d5 d6)) then (tt ∧ T1 ∧ tt ∧ tt ∧ T1 ∧ T1 ∧ tt ∧ T1 ∧ ((((List.length xs) = (List.length xs)) ∧ True) ∧ (isBytes xs) ∧ (((List.length xs) + 10) ≤ 140737488355328)) ∧ (∀ (v0 : (@List.{0} AV)), (∀ (v1 : (v0 = (bytesAV (@catL UInt8 (bytesL xs) (short 0))))), (∀ (v2 : Nat), (∀ (v3 : (v2 = (List.length (bytesAV (@catL UInt8 (bytesL xs) (short 0)))))), (tt ∧ T1 ∧ tt ∧ T1 ∧ (tt ∧ tt) ∧ tt ∧ T1 ∧ tt ∧ (((0 : Int) ≤ (0 : Int)) ∧ ((0 : Int) < (7 : Int)) ∧ (1 ≤ 7)) ∧ T1 ∧ tt ∧ T1 ∧ T1 ∧ T1 ∧ (((v2 = (List.length v0)) ∧ True) ∧ (isBytes v0) ∧ (((List.length v0) + 10) ≤ 140737488355328)) ∧ (∀ (v4 : (@List.{0} AV)), (∀ (v5 : (v4 = (bytesAV (@catL UInt8 (bytesL v0) (short 0))))), (∀ (v6 : Nat), (∀ (v7 : (v6 = (List.length (bytesAV (@catL UInt8 (bytesL v0) (short 0)))))), (tt ∧ T1 ∧ T1 ∧ (tt ∧ tt) ∧ tt ∧ T1 ∧ tt ∧ (((0 : Int) ≤ (1 : Int)) ∧ ((1 : Int) < (7 : Int)) ∧ (2 ≤ 7)) ∧ T1 ∧ tt ∧ T1 ∧ T1 ∧ T1 ∧ (((v6 = (List.length v4)) ∧ True) ∧ (isBytes v4) ∧ (((List.length v4) + 10) ≤ 140737488355328)) ∧ (∀ (v8 : (@List.{0} AV)), (∀ (v9 : (v8 = (bytesAV (@catL UInt8 (bytesL v4) (short 0))))), (∀ (v10 : Nat), (∀ (v11 : (v10 = (List.length (bytesAV (@catL UInt8 (bytesL v4) (short 0)))))), (tt ∧ T1 ∧ T1 ∧ (tt ∧ tt) ∧ tt ∧ T1 ∧ tt ∧ (((0 : Int) ≤ (2 : Int)) ∧ ((2 : Int) < (7 : Int)) ∧ (3 ≤ 7)) ∧ T1 ∧ tt ∧ T1 ∧ T1 ∧ T1 ∧ (((v10 = (List.length v8)) ∧ True) ∧ (isBytes v8) ∧ (((List.length v8) + 10) ≤ 140737488355328)) ∧ (∀ (v12 : (@List.{0} AV)), (∀ (v13 : (v12 = (bytesAV (@catL UInt8 (bytesL v8) (short 0))))), (∀ (v14 : Nat), (∀ (v15 : (v14 = (List.length (bytesAV (@catL UInt8 (bytesL v8) (short 0)))))), (tt ∧ T1 ∧ T1 ∧ (tt ∧ tt) ∧ tt ∧ T1 ∧ tt ∧ (((0 : Int) ≤ (3 : Int)) ∧ ((3 : Int) < (7 : Int)) ∧ (4 ≤ 7)) ∧ T1 ∧ tt ∧ T1 ∧ T1 ∧ T1 ∧ (((v14 = (List.length v12)) ∧ True) ∧ (isBytes v12) ∧ (((List.length v12) + 10) ≤ 140737488355328)) ∧ (∀ (v16 : (@List.{0} AV)), (∀ (v17 : (v16 = (bytesAV (@catL UInt8 (bytesL v12) (short 0))))), (∀ (v18 : Nat), (∀ (v19 : (v18 = (List.length (bytesAV (@catL UInt8 (bytesL v12) (short 0)))))), (tt ∧ T1 ∧ T1 ∧ (tt ∧ tt) ∧ tt ∧ T1 ∧ tt ∧ (((0 : Int) ≤ (4 : Int)) ∧ ((4 : Int) < (7 : Int)) ∧ (5 ≤ 7)) ∧ T1 ∧ tt ∧ T1 ∧ T1 ∧ T1 ∧ (((v18 = (List.length v16)) ∧ True) ∧ (isBytes v16) ∧ (((List.length v16) + 10) ≤ 140737488355328)) ∧ (∀ (v20 : (@List.{0} AV)), (∀ (v21 : (v20 = (bytesAV (@catL UInt8 (bytesL v16) (short 0))))), (∀ (v22 : Nat), (∀ (v23 : (v22 = (List.length (bytesAV (@catL UInt8 (bytesL v16) (short 0)))))), (tt ∧ T1 ∧ T1 ∧ (tt ∧ tt) ∧ tt ∧ T1 ∧ tt ∧ (((0 : Int) ≤ (5 : Int)) ∧ ((5 : Int) < (7 : Int)) ∧ (6 ≤ 7)) ∧ T1 ∧ tt ∧ T1 ∧ T1 ∧ T1 ∧ (((v22 = (List.length v20)) ∧ True) ∧ (isBytes v20) ∧ (((List.length v20) + 10) ≤ 140737488355328)) ∧ (∀ (v24 : (@List.{0} AV)), (∀ (v25 : (v24 = (bytesAV (@catL UInt8 (bytesL v20) (short 0))))), (∀ (v26 : Nat), (∀ (v27 : (v26 = (List.length (bytesAV (@catL UInt8 (bytesL v20) (short 0)))))), (tt ∧ T1 ∧ T1 ∧ (tt ∧ tt) ∧ tt ∧ T1 ∧ tt ∧ (((0 : Int) ≤ (6 : Int)) ∧ ((6 : Int) < (7 : Int)) ∧ (7 ≤ 7)) ∧ T1 ∧ tt ∧ T1 ∧ T1 ∧ T1 ∧ (((v26 = (List.length v24)) ∧ True) ∧ (isBytes v24) ∧ (((List.length v24) + 10) ≤ 140737488355328)) ∧ (∀ (v28 : (@List.{0} AV)), (∀ (v29 : (v28 = (bytesAV (@catL UInt8 (bytesL v24) (short 0))))), (∀ (v30 : Nat), (∀ (v31 : (v30 = (List.length (bytesAV (@catL UInt8 (bytesL v24) (short 0)))))), (tt ∧ T1 ∧ T1 ∧ (tt ∧ tt) ∧ tt ∧ T1 ∧ tt ∧ tt ∧ (((0 < 1) ∧ ((bytesAV (@catL UInt8 (bytesL xs) (encA (zA s d0 d1 d2 d3 d4 d5 d6 s) (zA s d0 d1 d2 d3 d4 d5 d6 d0) (zA s d0 d1 d2 d3 d4 d5 d6 d1) (zA s d0 d1 d2 d3 d4 d5 d6 d2) (zA s d0 d1 d2 d3 d4 d5 d6 d3) (zA s d0 d1 d2 d3 d4 d5 d6 d4) (zA s d0 d1 d2 d3 d4 d5 d6 d5) (zA s d0 d1 d2 d3 d4 d5 d6 d6)))) = v28) ∧ (v30 = (List.length v28))) ∧ True) ∧ tt))))))))))))))))))))))))))))))))))))))))) else (tt ∧ T1 ∧ T1 ∧ tt ∧ T1 ∧ ((((List.length xs) = (List.length xs)) ∧ True) ∧ (isBytes xs) ∧ (((List.length xs) + 10) ≤ 140737488355328)) ∧ (∀ (v0 : (@List.{0} AV)), (∀ (v1 : (v0 = (bytesAV (@catL UInt8 (bytesL xs) (short (Int.toNat (Go.IntKind.wrap Go.IntKind.u64 s))))))), (∀ (v2 : Nat), (∀ (v3 : (v2 = (List.length (bytesAV (@catL UInt8 (bytesL xs) (short (Int.toNat (Go.IntKind.wrap Go.IntKind.u64 s)))))))), (tt ∧ T1 ∧ tt ∧ T1 ∧ (tt ∧ tt) ∧ tt ∧ T1 ∧ tt ∧ (((0 : Int) ≤ (0 : Int)) ∧ ((0 : Int) < (7 : Int)) ∧ (1 ≤ 7)) ∧ T1 ∧ tt ∧ T1 ∧ T1 ∧ T1 ∧ (((v2 = (List.length v0)) ∧ True) ∧ (isBytes v0) ∧ (((List.length v0) + 10) ≤ 140737488355328)) ∧ (∀ (v4 : (@List.{0} AV)), (∀ (v5 : (v4 = (bytesAV (@catL UInt8 (bytesL v0) (short (Int.toNat (Go.IntKind.wrap Go.IntKind.u64 d0))))))), (∀ (v6 : Nat), (∀ (v7 : (v6 = (List.length (bytesAV (@catL UInt8 (bytesL v0) (short (Int.toNat (Go.IntKind.wrap Go.IntKind.u64 d0)))))))), (tt ∧ T1 ∧ T1 ∧ (tt ∧ tt) ∧ tt ∧ T1 ∧ tt ∧ (((0 : Int) ≤ (1 : Int)) ∧ ((1 : Int) < (7 : Int)) ∧ (2 ≤ 7)) ∧ T1 ∧ tt ∧ T1 ∧ T1 ∧ T1 ∧ (((v6 = (List.length v4)) ∧ True) ∧ (isBytes v4) ∧ (((List.length v4) + 10) ≤ 140737488355328)) ∧ (∀ (v8 : (@List.{0} AV)), (∀ (v9 : (v8 = (bytesAV (@catL UInt8 (bytesL v4) (short (Int.toNat (Go.IntKind.wrap Go.IntKind.u64 d1))))))), (∀ (v10 : Nat), (∀ (v11 : (v10 = (List.length (bytesAV (@catL UInt8 (bytesL v4) (short (Int.toNat (Go.IntKind.wrap Go.IntKind.u64 d1)))))))), (tt ∧ T1 ∧ T1 ∧ (tt ∧ tt) ∧ tt ∧ T1 ∧ tt ∧ (((0 : Int) ≤ (2 : Int)) ∧ ((2 : Int) < (7 : Int)) ∧ (3 ≤ 7)) ∧ T1 ∧ tt ∧ T1 ∧ T1 ∧ T1 ∧ (((v10 = (List.length v8)) ∧ True) ∧ (isBytes v8) ∧ (((List.length v8) + 10) ≤ 140737488355328)) ∧ (∀ (v12 : (@List.{0} AV)), (∀ (v13 : (v12 = (bytesAV (@catL UInt8 (bytesL v8) (short (Int.toNat (Go.IntKind.wrap Go.IntKind.u64 d2))))))), (∀ (v14 : Nat), (∀ (v15 : (v14 = (List.length (bytesAV (@catL UInt8 (bytesL v8) (short (Int.toNat (Go.IntKind.wrap Go.IntKind.u64 d2)))))))), (tt ∧ T1 ∧ T1 ∧ (tt ∧ tt) ∧ tt ∧ T1 ∧ tt ∧ (((0 : Int) ≤ (3 : Int)) ∧ ((3 : Int) < (7 : Int)) ∧ (4 ≤ 7)) ∧ T1 ∧ tt ∧ T1 ∧ T1 ∧ T1 ∧ (((v14 = (List.length v12)) ∧ True) ∧ (isBytes v12) ∧ (((List.length v12) + 10) ≤ 140737488355328)) ∧ (∀ (v16 : (@List.{0} AV)), (∀ (v17 : (v16 = (bytesAV (@catL UInt8 (bytesL v12) (short (Int.toNat (Go.IntKind.wrap Go.IntKind.u64 d3))))))), (∀ (v18 : Nat), (∀ (v19 : (v18 = (List.length (bytesAV (@catL UInt8 (bytesL v12) (short (Int.toNat (Go.IntKind.wrap Go.IntKind.u64 d3)))))))), (tt ∧ T1 ∧ T1 ∧ (tt ∧ tt) ∧ tt ∧ T1 ∧ tt ∧ (((0 : Int) ≤ (4 : Int)) ∧ ((4 : Int) < (7 : Int)) ∧ (5 ≤ 7)) ∧ T1 ∧ tt ∧ T1 ∧ T1 ∧ T1 ∧ (((v18 = (List.length v16)) ∧ True) ∧ (isBytes v16) ∧ (((List.length v16) + 10) ≤ 140737488355328)) ∧ (∀ (v20 : (@List.{0} AV)), (∀ (v21 : (v20 = (bytesAV (@catL UInt8 (bytesL v16) (short (Int.toNat (Go.IntKind.wrap Go.IntKind.u64 d4))))))), (∀ (v22 : Nat), (∀ (v23 : (v22 = (List.length (bytesAV (@catL UInt8 (bytesL v16) (short (Int.toNat (Go.IntKind.wrap Go.IntKind.u64 d4)))))))), (tt ∧ T1 ∧ T1 ∧ (tt ∧ tt) ∧ tt ∧ T1 ∧ tt ∧ (((0 : Int) ≤ (5 : Int)) ∧ ((5 : Int) < (7 : Int)) ∧ (6 ≤ 7)) ∧ T1 ∧ tt ∧ T1 ∧ T1 ∧ T1 ∧ (((v22 = (List.length v20)) ∧ True) ∧ (isBytes v20) ∧ (((List.length v20) + 10) ≤ 140737488355328)) ∧ (∀ (v24 : (@List.{0} AV)), (∀ (v25 : (v24 = (bytesAV (@catL UInt8 (bytesL v20) (short (Int.toNat (Go.IntKind.wrap Go.IntKind.u64 d5))))))), (∀ (v26 : Nat), (∀ (v27 : (v26 = (List.length (bytesAV (@catL UInt8 (bytesL v20) (short (Int.toNat (Go.IntKind.wrap Go.IntKind.u64 d5)))))))), (tt ∧ T1 ∧ T1 ∧ (tt ∧ tt) ∧ tt ∧ T1 ∧ tt ∧ (((0 : Int) ≤ (6 : Int)) ∧ ((6 : Int) < (7 : Int)) ∧ (7 ≤ 7)) ∧ T1 ∧ tt ∧ T1 ∧ T1 ∧ T1 ∧ (((v26 = (List.length v24)) ∧ True) ∧ (isBytes v24) ∧ (((List.length v24) + 10) ≤ 140737488355328)) ∧ (∀ (v28 : (@List.{0} AV)), (∀ (v29 : (v28 = (bytesAV (@catL UInt8 (bytesL v24) (short (Int.toNat (Go.IntKind.wrap Go.IntKind.u64 d6))))))), (∀ (v30 : Nat), (∀ (v31 : (v30 = (List.length (bytesAV (@catL UInt8 (bytesL v24) (short (Int.toNat (Go.IntKind.wrap Go.IntKind.u64 d6)))))))), (tt ∧ T1 ∧ T1 ∧ (tt ∧ tt) ∧ tt ∧ T1 ∧ tt ∧ tt ∧ (((0 < 1) ∧ ((bytesAV (@catL UInt8 (bytesL xs) (encA (zA s d0 d1 d2 d3 d4 d5 d6 s) (zA s d0 d1 d2 d3 d4 d5 d6 d0) (zA s d0 d1 d2 d3 d4 d5 d6 d1) (zA s d0 d1 d2 d3 d4 d5 d6 d2) (zA s d0 d1 d2 d3 d4 d5 d6 d3) (zA s d0 d1 d2 d3 d4 d5 d6 d4) (zA s d0 d1 d2 d3 d4 d5 d6 d5) (zA s d0 d1 d2 d3 d4 d5 d6 d6)))) = v28) ∧ (v30 = (List.length v28))) ∧ True) ∧ tt)))))))))))))))))))))))))))))))))))))))))))) : inAttPut0 s d0 d1 d2 d3 d4 d5 d6 xs p q :=
  Eq.mp (show _ = _ by kernel_rfl) h
theorem vcAttTake0 (xs : (@List.{0} AV)) (e : Int) (h : (tt ∧ T1 ∧ tt ∧ T1 ∧ (T1 ∧ (isBytes xs)) ∧ (∀ (v0 : Int), (∀ (v1 : (v0 = (shV (bytesL xs) e (1073741824 : Int)))), (∀ (v2 : (@List.{0} AV)), (∀ (v3 : (v2 = (bytesAV (shRest (bytesL xs) e (1073741824 : Int))))), (∀ (v4 : Int), (∀ (v5 : (v4 = (shErr (bytesL xs) e (1073741824 : Int)))), (T1 ∧ T1 ∧ T1 ∧ tt ∧ tt ∧ T1 ∧ (tt ∧ tt) ∧ tt ∧ T1 ∧ tt ∧ T1 ∧ T1 ∧ tt ∧ T1 ∧ T1 ∧ (T1 ∧ (isBytes v2)) ∧ (∀ (v6 : Int), (∀ (v7 : (v6 = (shV (bytesL v2) v4 (1024 : Int)))), (∀ (v8 : (@List.{0} AV)), (∀ (v9 : (v8 = (bytesAV (shRest (bytesL v2) v4 (1024 : Int))))), (∀ (v10 : Int), (∀ (v11 : (v10 = (shErr (bytesL v2) v4 (1024 : Int)))), (T1 ∧ T1 ∧ (((0 : Int) ≤ (0 : Int)) ∧ ((0 : Int) < (7 : Int))) ∧ tt ∧ tt ∧ T1 ∧ T1 ∧ (tt ∧ tt) ∧ tt ∧ T1 ∧ tt ∧ T1 ∧ T1 ∧ tt ∧ T1 ∧ T1 ∧ (T1 ∧ (isBytes v8)) ∧ (∀ (v12 : Int), (∀ (v13 : (v12 = (shV (bytesL v8) v10 (1024 : Int)))), (∀ (v14 : (@List.{0} AV)), (∀ (v15 : (v14 = (bytesAV (shRest (bytesL v8) v10 (1024 : Int))))), (∀ (v16 : Int), (∀ (v17 : (v16 = (shErr (bytesL v8) v10 (1024 : Int)))), (T1 ∧ T1 ∧ (((0 : Int) ≤ (1 : Int)) ∧ ((1 : Int) < (7 : Int))) ∧ tt ∧ tt ∧ T1 ∧ T1 ∧ (tt ∧ tt) ∧ tt ∧ T1 ∧ tt ∧ T1 ∧ T1 ∧ tt ∧ T1 ∧ T1 ∧ (T1 ∧ (isBytes v14)) ∧ (∀ (v18 : Int), (∀ (v19 : (v18 = (shV (bytesL v14) v16 (1024 : Int)))), (∀ (v20 : (@List.{0} AV)), (∀ (v21 : (v20 = (bytesAV (shRest (bytesL v14) v16 (1024 : Int))))), (∀ (v22 : Int), (∀ (v23 : (v22 = (shErr (bytesL v14) v16 (1024 : Int)))), (T1 ∧ T1 ∧ (((0 : Int) ≤ (2 : Int)) ∧ ((2 : Int) < (7 : Int))) ∧ tt ∧ tt ∧ T1 ∧ T1 ∧ (tt ∧ tt) ∧ tt ∧ T1 ∧ tt ∧ T1 ∧ T1 ∧ tt ∧ T1 ∧ T1 ∧ (T1 ∧ (isBytes v20)) ∧ (∀ (v24 : Int), (∀ (v25 : (v24 = (shV (bytesL v20) v22 (1024 : Int)))), (∀ (v26 : (@List.{0} AV)), (∀ (v27 : (v26 = (bytesAV (shRest (bytesL v20) v22 (1024 : Int))))), (∀ (v28 : Int), (∀ (v29 : (v28 = (shErr (bytesL v20) v22 (1024 : Int)))), (T1 ∧ T1 ∧ (((0 : Int) ≤ (3 : Int)) ∧ ((3 : Int) < (7 : Int))) ∧ tt ∧ tt ∧ T1 ∧ T1 ∧ (tt ∧ tt) ∧ tt ∧ T1 ∧ tt ∧ T1 ∧ T1 ∧ tt ∧ T1 ∧ T1 ∧ (T1 ∧ (isBytes v26)) ∧ (∀ (v30 : Int), (∀ (v31 : (v30 = (shV (bytesL v26) v28 (1024 : Int)))), (∀ (v32 : (@List.{0} AV)), (∀ (v33 : (v32 = (bytesAV (shRest (bytesL v26) v28 (1024 : Int))))), (∀ (v34 : Int), (∀ (v35 : (v34 = (shErr (bytesL v26) v28 (1024 : Int)))), (T1 ∧ T1 ∧ (((0 : Int) ≤ (4 : Int)) ∧ ((4 : Int) < (7 : Int))) ∧ tt ∧ tt ∧ T1 ∧ T1 ∧ (tt ∧ tt) ∧ tt ∧ T1 ∧ tt ∧ T1 ∧ T1 ∧ tt ∧ T1 ∧ T1 ∧ (T1 ∧ (isBytes v32)) ∧ (∀ (v36 : Int), (∀ (v37 : (v36 = (shV (bytesL v32) v34 (1024 : Int)))), (∀ (v38 : (@List.{0} AV)), (∀ (v39 : (v38 = (bytesAV (shRest (bytesL v32) v34 (1024 : Int))))), (∀ (v40 : Int), (∀ (v41 : (v40 = (shErr (bytesL v32) v34 (1024 : Int)))), (T1 ∧ T1 ∧ (((0 : Int) ≤ (5 : Int)) ∧ ((5 : Int) < (7 : Int))) ∧ tt ∧ tt ∧ T1 ∧ T1 ∧ (tt ∧ tt) ∧ tt ∧ T1 ∧ tt ∧ T1 ∧ T1 ∧ tt ∧ T1 ∧ T1 ∧ (T1 ∧ (isBytes v38)) ∧ (∀ (v42 : Int), (∀ (v43 : (v42 = (shV (bytesL v38) v40 (1024 : Int)))), (∀ (v44 : (@List.{0} AV)), (∀ (v45 : (v44 = (bytesAV (shRest (bytesL v38) v40 (1024 : Int))))), (∀ (v46 : Int), (∀ (v47 : (v46 = (shErr (bytesL v38) v40 (1024 : Int)))), (T1 ∧ T1 ∧ (((0 : Int) ≤ (6 : Int)) ∧ ((6 : Int) < (7 : Int))) ∧ tt ∧ tt ∧ T1 ∧ T1 ∧ (tt ∧ tt) ∧ tt ∧ T1 ∧ tt ∧ T1 ∧ (T1 ∧ True) ∧ (∀ (v48 : (@List.{0} AV)), (∀ (v49 : (v48 = v44)), (∀ (v50 : Int), (∀ (v51 : (v50 = v46)), (bif (@Decidable.decide (@Ne.{1} Int v46 (0 : Int)) (@instDecidableNot (v46 = (0 : Int)) (@Int.instDecidableEq v46 (0 : Int)))) then (tt ∧ T1 ∧ tt ∧ tt ∧ tt ∧ (((bytesAV (@Prod.fst.{0, 0} (List UInt8) Int (atS (bytesL xs) e 7))) = v48) ∧ ((@Prod.snd.{0, 0} (List UInt8) Int (atS (bytesL xs) e 7)) = v50) ∧ ((atZ (bytesL xs) e (shV (bytesL xs) e (1073741824 : Int))) = (0 : Int)) ∧ ((atZ (bytesL xs) e (atV (bytesL xs) e 0)) = (0 : Int)) ∧ ((atZ (bytesL xs) e (atV (bytesL xs) e 1)) = (0 : Int)) ∧ ((atZ (bytesL xs) e (atV (bytesL xs) e 2)) = (0 : Int)) ∧ ((atZ (bytesL xs) e (atV (bytesL xs) e 3)) = (0 : Int)) ∧ ((atZ (bytesL xs) e (atV (bytesL xs) e 4)) = (0 : Int)) ∧ ((atZ (bytesL xs) e (atV (bytesL xs) e 5)) = (0 : Int)) ∧ ((atZ (bytesL xs) e (atV (bytesL xs) e 6)) = (0 : Int)) ∧ True) ∧ tt) else (tt ∧ tt ∧ tt ∧ tt ∧ tt ∧ (((bytesAV (@Prod.fst.{0, 0} (List UInt8) Int (atS (bytesL xs) e 7))) = v48) ∧ ((@Prod.snd.{0, 0} (List UInt8) Int (atS (bytesL xs) e 7)) = v50) ∧ ((atZ (bytesL xs) e (shV (bytesL xs) e (1073741824 : Int))) = (Go.IntKind.wrap Go.IntKind.i64 v0)) ∧ ((atZ (bytesL xs) e (atV (bytesL xs) e 0)) = (Go.IntKind.wrap Go.IntKind.i64 v6)) ∧ ((atZ (bytesL xs) e (atV (bytesL xs) e 1)) = (Go.IntKind.wrap Go.IntKind.i64 v12)) ∧ ((atZ (bytesL xs) e (atV (bytesL xs) e 2)) = (Go.IntKind.wrap Go.IntKind.i64 v18)) ∧ ((atZ (bytesL xs) e (atV (bytesL xs) e 3)) = (Go.IntKind.wrap Go.IntKind.i64 v24)) ∧ ((atZ (bytesL xs) e (atV (bytesL xs) e 4)) = (Go.IntKind.wrap Go.IntKind.i64 v30)) ∧ ((atZ (bytesL xs) e (atV (bytesL xs) e 5)) = (Go.IntKind.wrap Go.IntKind.i64 v36)) ∧ ((atZ (bytesL xs) e (atV (bytesL xs) e 6)) = (Go.IntKind.wrap Go.IntKind.i64 v42)) ∧ True) ∧ tt)))))))))))))))))))))))))))))))))))))))))))))))))))))))))))))))) : inAttTake0 xs e :=
  Eq.mp (show _ = _ by kernel_rfl) h
end Go.Proofs.YtcokifdgbfbonaaDoor
/- The conditions hold: names, ballots, attributes in bytes. -/
namespace Go.Proofs.YtcokifdgbfbonaaDoor
set_option linter.unusedVariables false
set_option linter.unusedSimpArgs false
open Go.RowKit
set_option maxRecDepth 100000

theorem tkRest_suf (l : List UInt8) (e k : Int) : tkRest l e k <:+ l := by
  unfold tkRest; split
  · exact List.drop_suffix _ _
  · exact List.suffix_refl _
theorem shRest_suf (l : List UInt8) (e m : Int) : shRest l e m <:+ l := by
  unfold shRest; split
  · exact List.suffix_refl _
  · split
    · exact List.suffix_refl _
    · split
      · exact List.suffix_refl _
      · exact List.drop_suffix _ _
theorem idRest_suf (l : List UInt8) (e : Int) : idRest l e <:+ l := (shRest_suf _ _ _).trans (tkRest_suf _ _ _)
theorem atS_suf (l : List UInt8) (e : Int) : ∀ k, (atS l e k).1 <:+ l
  | 0 => shRest_suf _ _ _
  | k + 1 => (shRest_suf _ _ _).trans (atS_suf l e k)
theorem inByteV_range (l : List UInt8) (e : Int) : 0 ≤ inByteV l e ∧ inByteV l e ≤ 255 := by
  unfold inByteV
  have := ((tkOut l e 1).getD 0 0).toNat_lt
  omega
theorem okTakeID0 : OkTakeID0 := by
  intro xs e hq
  refine vcTakeID0 xs e ?_
  simp only [true_and, and_true, forall_eq, eq_self, bytesL_bytesAV, isBytes_bytesAV]
  have hb := inByteV_range (bytesL xs) e
  have w1 : IntKind.i64.wrap (inByteV (bytesL xs) e) = inByteV (bytesL xs) e := wrap_i64 (by omega) (by omega)
  have w2 : ∀ l e, IntKind.i64.wrap (shV l e 1023) = shV l e 1023 := fun l e => by have := shV_range l e 1023 (by omega); exact wrap_i64 (by omega) (by omega)
  rw [w1]
  simp only [w2]
  have e2 : idErr (bytesL xs) e = shErr (tkRest (bytesL xs) e 1) (idE1 (bytesL xs) e) 1023 := rfl
  refine ⟨hq, cond_prop (fun h => ?_) fun h => ?_⟩
  · have e1 : idE1 (bytesL xs) e = inFail (tkErr (bytesL xs).length e 1) 12 := if_pos (by simpa using h)
    rw [← e1]
    refine cond_prop (fun h' => ?_) fun h' => ?_
    · simp at h'
      exact ⟨rfl, rfl, by unfold idR; rw [e2]; simp [h'], by unfold idS; rw [e2]; simp [h']⟩
    · simp at h'
      exact ⟨rfl, rfl, by unfold idR; rw [e2]; simp [h'], by unfold idS; rw [e2]; simp [h']⟩
  · have e1 : idE1 (bytesL xs) e = tkErr (bytesL xs).length e 1 := if_neg (by simpa using h)
    rw [← e1]
    refine cond_prop (fun h' => ?_) fun h' => ?_
    · simp at h'
      exact ⟨rfl, rfl, by unfold idR; rw [e2]; simp [h'], by unfold idS; rw [e2]; simp [h']⟩
    · simp at h'
      exact ⟨rfl, rfl, by unfold idR; rw [e2]; simp [h'], by unfold idS; rw [e2]; simp [h']⟩
theorem okTakeBal0 : OkTakeBal0 := by
  intro xs e hq
  refine vcTakeBal0 xs e ?_
  simp only [true_and, and_true, forall_eq, eq_self, bytesL_bytesAV, isBytes_bytesAV]
  have hr := shV_range (bytesL xs) e 4294967295 (by omega)
  rw [wrap_u32 hr.1 hr.2]
  refine ⟨hq, cond_prop (fun h => ?_) fun h => ?_⟩
  · simp at h; simp [balE, balV, h]
  · simp at h; simp [balE, balV, h]
theorem okIdPut0 : OkIdPut0 := by
  intro xs p q r n hq
  refine vcIdPut0 xs p q r n ?_
  simp only [true_and, and_true, forall_eq, eq_self, bytesL_bytesAV, isBytes_bytesAV, length_bytesAV]
  obtain ⟨hb, hl⟩ := hq
  have hlen : (bytesL xs).length = xs.length := by simp [bytesL]
  refine ⟨⟨hb, by omega⟩, ?_, by omega, ?_⟩
  · rw [catL_length, hlen]; simp [encByte]; omega
  · rw [catL_assoc]; rfl
theorem okBalPut0 : OkBalPut0 := by
  intro xs p q b hq hb
  refine vcBalPut0 xs p q b ?_
  simp only [true_and, and_true, forall_eq, eq_self, bytesL_bytesAV, isBytes_bytesAV, length_bytesAV]
  rw [wrap_u64 hb.1 (by omega)]
  exact ⟨hq, by omega, rfl⟩
theorem okAttPut0 : OkAttPut0 := by
  intro s d0 d1 d2 d3 d4 d5 d6 xs p q hq
  refine vcAttPut0 s d0 d1 d2 d3 d4 d5 d6 xs p q ?_
  simp only [true_and, and_true, forall_eq, eq_self, bytesL_bytesAV, isBytes_bytesAV, length_bytesAV, catL_length]
  obtain ⟨hb, hl⟩ := hq
  have hlen : (bytesL xs).length = xs.length := by simp [bytesL]
  have sl : ∀ v : Int, (short (IntKind.u64.wrap v).toNat).length ≤ 10 := fun v => by
    have : 0 ≤ IntKind.u64.wrap v ∧ IntKind.u64.wrap v ≤ 18446744073709551615 := by rw [IntKind.wrap_u64]; omega
    exact short_le10 this.1 this.2
  have s0 : (short 0).length ≤ 10 := sl 0
  refine cond_prop (fun h => ?_) fun h => ?_
  · simp only [Bool.not_eq_true'] at h
    refine ⟨⟨hb, by omega⟩, ?_⟩
    repeat' (refine And.intro ?_ ?_)
    all_goals first | omega | simp [zA, h, encA, catL_assoc]
  · simp only [Bool.not_eq_false'] at h
    have hh := h
    simp only [rightA, inLen, Bool.and_eq_true, decide_eq_true_eq] at hh
    have := sl s; have := sl d0; have := sl d1; have := sl d2; have := sl d3; have := sl d4; have := sl d5; have := sl d6
    have w : ∀ v : Int, 0 ≤ v → v ≤ 1073741824 → IntKind.u64.wrap v = v := fun v h0 h1 => wrap_u64 h0 (by omega)
    rw [w s (by omega) (by omega), w d0 (by omega) (by omega), w d1 (by omega) (by omega), w d2 (by omega) (by omega), w d3 (by omega) (by omega), w d4 (by omega) (by omega), w d5 (by omega) (by omega), w d6 (by omega) (by omega)] at *
    refine ⟨⟨hb, by omega⟩, ?_⟩
    repeat' (refine And.intro ?_ ?_)
    all_goals first | omega | simp [zA, h, encA, catL_assoc]
theorem okAttTake0 : OkAttTake0 := by
  intro xs e hq
  refine vcAttTake0 xs e ?_
  have s0 : ∀ l, shRest l e 1073741824 = (atS l e 0).1 := fun l => rfl
  have t0 : ∀ l, shErr l e 1073741824 = (atS l e 0).2 := fun l => rfl
  have s1 : ∀ l k, shRest (atS l e k).1 (atS l e k).2 1024 = (atS l e (k + 1)).1 := fun l k => rfl
  have t1 : ∀ l k, shErr (atS l e k).1 (atS l e k).2 1024 = (atS l e (k + 1)).2 := fun l k => rfl
  have v1 : ∀ l k, shV (atS l e k).1 (atS l e k).2 1024 = atV l e k := fun l k => rfl
  have w2 : ∀ l k, IntKind.i64.wrap (atV l e k) = atV l e k := fun l k => by have := shV_range (atS l e k).1 (atS l e k).2 1024 (by omega); exact wrap_i64 (by unfold atV; omega) (by unfold atV; omega)
  have w3 : ∀ l, IntKind.i64.wrap (shV l e 1073741824) = shV l e 1073741824 := fun l => by have := shV_range l e 1073741824 (by omega); exact wrap_i64 (by omega) (by omega)
  simp only [true_and, and_true, forall_eq, eq_self, bytesL_bytesAV, isBytes_bytesAV, s0, t0, s1, t1, v1, w2, w3, Nat.reduceAdd]
  refine ⟨hq, ?_⟩
  refine ⟨by omega, by omega, by omega, by omega, by omega, by omega, by omega, ?_⟩
  refine cond_prop (fun h => ?_) fun h => ?_
  · simp at h; simp [atZ, h]
  · simp at h; simp [atZ, h]
end Go.Proofs.YtcokifdgbfbonaaDoor
/- The contracts are met. -/
namespace Go.Proofs.YtcokifdgbfbonaaDoor
set_option linter.unusedVariables false
set_option linter.unusedSimpArgs false
open Go.RowKit
theorem sndTakeID : Sound Tryd.prog (lookΓ gamTakeID) := sound_of _ fun p hp => by
  simp only [gamTakeID, List.mem_cons, List.not_mem_nil, or_false] at hp
  rcases hp with rfl | rfl | rfl | rfl
  · exact meetsInByte.orNil
  · exact meetsInFail.orNil
  · exact meetsInShort.orNil
  · exact meetsInFailed.orNil
theorem meetsTakeID : Meets Tryd.prog 109 takeIDF := by
  refine meets_of_awp (Γ := lookΓ gamTakeID) (L := fun args => match args with | [.box [.sl xs .no, .int .i64 e]] => lpTakeID0 xs e | _ => fun _ => none) sndTakeID mixedOrders Tryd.func109 rfl Tryd.call109 ?_
  intro args q r hF hq ho
  unfold takeIDF at hF
  split at hF
  · cases hF
    exact ⟨by simp only [List.length_cons, List.length_nil]; decide, okTakeID0 _ _ hq⟩
  · cases hF
theorem sndTakeBal : Sound Tryd.prog (lookΓ gamTakeBal) := sound_of _ fun p hp => by
  simp only [gamTakeBal, List.mem_cons, List.not_mem_nil, or_false] at hp
  rcases hp with rfl | rfl | rfl
  · exact meetsInShort.orNil
  · exact meetsBalRight.orNil
  · exact meetsInFail.orNil
theorem meetsTakeBal : Meets Tryd.prog 110 takeBalF := by
  refine meets_of_awp (Γ := lookΓ gamTakeBal) (L := fun args => match args with | [.box [.sl xs .no, .int .i64 e]] => lpTakeBal0 xs e | _ => fun _ => none) sndTakeBal mixedOrders Tryd.func110 rfl Tryd.call110 ?_
  intro args q r hF hq ho
  unfold takeBalF at hF
  split at hF
  · cases hF
    exact ⟨by simp only [List.length_cons, List.length_nil]; decide, okTakeBal0 _ _ hq⟩
  · cases hF
theorem sndIdPut : Sound Tryd.prog (lookΓ gamIdPut) := sound_of _ fun p hp => by
  simp only [gamIdPut, List.mem_cons, List.not_mem_nil, or_false] at hp
  rcases hp with rfl | rfl
  · exact meetsOutByte.orNil
  · exact meetsOutShort.orNil
theorem meetsIdPut : Meets Tryd.prog 141 idPutF := by
  refine meets_of_awp (Γ := lookΓ gamIdPut) (L := fun args => match args with | [.val (.agg [.int .i64 r, .int .i64 n]), .box [.sl xs (.row p q te0)]] => lpIdPut0 xs p q r n | _ => fun _ => none) sndIdPut mixedOrders Tryd.func141 rfl Tryd.call141 ?_
  intro args q r hF hq ho
  unfold idPutF at hF
  split at hF
  · split at hF
    · rename_i hte
      subst hte
      cases hF
      exact ⟨by simp only [List.length_cons, List.length_nil]; decide, okIdPut0 _ _ _ _ _ hq⟩
    · cases hF
  · cases hF
theorem sndBalPut : Sound Tryd.prog (lookΓ gamBalPut) := sound_of _ fun p hp => by
  simp only [gamBalPut, List.mem_cons, List.not_mem_nil, or_false] at hp
  subst hp
  exact meetsOutShort.orNil
theorem meetsBalPut : Meets Tryd.prog 142 balPutF := by
  refine meets_of_awp (Γ := lookΓ gamBalPut) (L := fun args => match args with | [.val (.int .u32 b), .box [.sl xs (.row p q te0)]] => lpBalPut0 xs p q b | _ => fun _ => none) sndBalPut mixedOrders Tryd.func142 rfl Tryd.call142 ?_
  intro args q r hF hq ho
  unfold balPutF at hF
  split at hF
  · split at hF
    · rename_i hte
      subst hte
      cases hF
      exact ⟨by simp only [List.length_cons, List.length_nil]; decide, okBalPut0 _ _ _ _ hq (okay_u32 (argI 0 ho rfl rfl))⟩
    · cases hF
  · cases hF
theorem sndAttPut : Sound Tryd.prog (lookΓ gamAttPut) := sound_of _ fun p hp => by
  simp only [gamAttPut, List.mem_cons, List.not_mem_nil, or_false] at hp
  rcases hp with rfl | rfl
  · exact meetsAttRight.orNil
  · exact meetsOutShort.orNil
theorem meetsAttPut : Meets Tryd.prog 144 attPutF := by
  refine meets_of_awp (Γ := lookΓ gamAttPut) (L := fun args => match args with | [.val (.agg [.int .i64 s, .int .i64 d0, .int .i64 d1, .int .i64 d2, .int .i64 d3, .int .i64 d4, .int .i64 d5, .int .i64 d6]), .box [.sl xs (.row p q te0)]] => lpAttPut0 s d0 d1 d2 d3 d4 d5 d6 xs p q | _ => fun _ => none) sndAttPut mixedOrders Tryd.func144 rfl Tryd.call144 ?_
  intro args q r hF hq ho
  unfold attPutF at hF
  split at hF
  · split at hF
    · rename_i hte
      subst hte
      cases hF
      exact ⟨by simp only [List.length_cons, List.length_nil]; decide, okAttPut0 _ _ _ _ _ _ _ _ _ _ _ hq⟩
    · cases hF
  · cases hF
theorem sndAttTake : Sound Tryd.prog (lookΓ gamAttTake) := sound_of _ fun p hp => by
  simp only [gamAttTake, List.mem_cons, List.not_mem_nil, or_false] at hp
  rcases hp with rfl | rfl
  · exact meetsInShort.orNil
  · exact meetsInFailed.orNil
theorem meetsAttTake : Meets Tryd.prog 112 attTakeF := by
  refine meets_of_awp (Γ := lookΓ gamAttTake) (L := fun args => match args with | [.box [.sl xs .no, .int .i64 e]] => lpAttTake0 xs e | _ => fun _ => none) sndAttTake mixedOrders Tryd.func112 rfl Tryd.call112 ?_
  intro args q r hF hq ho
  unfold attTakeF at hF
  split at hF
  · cases hF
    exact ⟨by simp only [List.length_cons, List.length_nil]; decide, okAttTake0 _ _ hq⟩
  · cases hF
end Go.Proofs.YtcokifdgbfbonaaDoor
