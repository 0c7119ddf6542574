/- Contracts by content, and the conditions that their code must meet. -/
import Derived.Test.YtledoikeaidlfaaLaxWireMeets
namespace Go.Proofs.Ytledoikeaidlfaa
set_option linter.unusedVariables false
set_option linter.unusedSimpArgs false
open Go.RowKit
def rightId (r n : Int) : Bool := decide (0 ≤ r ∧ r ≤ 6 ∧ 0 ≤ n ∧ n < 1024)
def balOK (b : Int) : Bool := decide (b = 0 ∨ (0 < b / 8 ∧ b / 8 < 16777216 ∧ b % 8 ≤ 6))
def idE1 (l : List UInt8) (e : Int) : Int := if 6 < inByteV l e then inFail (tkErr l.length e 1) 12 else tkErr l.length e 1
def idRest (l : List UInt8) (e : Int) : List UInt8 := shRest (tkRest l e 1) (idE1 l e) 1023
def idErr (l : List UInt8) (e : Int) : Int := shErr (tkRest l e 1) (idE1 l e) 1023
def idR (l : List UInt8) (e : Int) : Int := if idErr l e = 0 then inByteV l e else 0
def idS (l : List UInt8) (e : Int) : Int := if idErr l e = 0 then shV (tkRest l e 1) (idE1 l e) 1023 else 0
def balV (l : List UInt8) (e : Int) : Int := if balOK (shV l e 4294967295) then shV l e 4294967295 else 0
def balE (l : List UInt8) (e : Int) : Int := if balOK (shV l e 4294967295) then shErr l e 4294967295 else inFail (shErr l e 4294967295) 60
def encID (r s : Int) : List UInt8 := catL (encByte (IntKind.u8.wrap r)) (short (IntKind.u64.wrap s).toNat)
def inLen (d : Int) : Bool := decide (0 ≤ d ∧ d ≤ 1024)
def rightA (s d0 d1 d2 d3 d4 d5 d6 : Int) : Bool := inLen d0 && inLen d1 && inLen d2 && inLen d3 && inLen d4 && inLen d5 && inLen d6 && decide (0 ≤ s ∧ s ≤ 1073741824)
/-- attributes that are taken: behind the number and k of the seven -/
def atS (l : List UInt8) (e : Int) : Nat → List UInt8 × Int
  | 0 => (shRest l e 1073741824, shErr l e 1073741824)
  | k + 1 => (shRest (atS l e k).1 (atS l e k).2 1024, shErr (atS l e k).1 (atS l e k).2 1024)
def atV (l : List UInt8) (e : Int) (k : Nat) : Int := shV (atS l e k).1 (atS l e k).2 1024
def atZ (l : List UInt8) (e v : Int) : Int := if (atS l e 7).2 = 0 then v else 0
def encA (s d0 d1 d2 d3 d4 d5 d6 : Int) : List UInt8 := catL (catL (catL (catL (catL (catL (catL (short s.toNat) (short d0.toNat)) (short d1.toNat)) (short d2.toNat)) (short d3.toNat)) (short d4.toNat)) (short d5.toNat)) (short d6.toNat)
def zA (s d0 d1 d2 d3 d4 d5 d6 v : Int) : Int := if rightA s d0 d1 d2 d3 d4 d5 d6 then v else 0
/-- the reference's place, and what is left from there -/
def refL (l : List UInt8) (a : Int) : List UInt8 := l.drop a.toNat
def refAt (l rest : List UInt8) : Int := ((l.length - rest.length : Nat) : Int)
def idRightF : Con
  | [.val (.agg [.int .i64 r, .int .i64 n])] => some (True, ⟨.bool (rightId r n), none, none⟩)
  | _ => none
def gamIdRight : List (Nat × Con) := []
def lpIdRight0 (r n : Int) : Nat → Option LoopPlan := fun _ => none
def inIdRight0 (r n : Int) : Prop := awp [] (lpIdRight0 r n) (lookΓ gamIdRight) Try.prog Try.f21.ntmps 0 (Try.f21.body.getD .skip) (entrySt [.val (.agg [.int .i64 r, .int .i64 n])]) (exitQ Try.prog Try.f21.results.toList [] ⟨.bool (rightId r n), none, none⟩)
def OkIdRight0 : Prop := ∀ (r n : Int), True → inIdRight0 r n
def balRoundF : Con
  | [.val (.int .u32 b)] => some (True, ⟨.int .i64 (b / 8), none, none⟩)
  | _ => none
def gamBalRound : List (Nat × Con) := []
def lpBalRound0 (b : Int) : Nat → Option LoopPlan := fun _ => none
def inBalRound0 (b : Int) : Prop := awp [] (lpBalRound0 b) (lookΓ gamBalRound) Try.prog Try.f49.ntmps 0 (Try.f49.body.getD .skip) (entrySt [.val (.int .u32 b)]) (exitQ Try.prog Try.f49.results.toList [] ⟨.int .i64 (b / 8), none, none⟩)
def OkBalRound0 : Prop := ∀ (b : Int), True → (0 ≤ b ∧ b ≤ 4294967295) → inBalRound0 b
def balRepF : Con
  | [.val (.int .u32 b)] => some (True, ⟨.int .i64 (b % 8), none, none⟩)
  | _ => none
def gamBalRep : List (Nat × Con) := []
def lpBalRep0 (b : Int) : Nat → Option LoopPlan := fun _ => none
def inBalRep0 (b : Int) : Prop := awp [] (lpBalRep0 b) (lookΓ gamBalRep) Try.prog Try.f50.ntmps 0 (Try.f50.body.getD .skip) (entrySt [.val (.int .u32 b)]) (exitQ Try.prog Try.f50.results.toList [] ⟨.int .i64 (b % 8), none, none⟩)
def OkBalRep0 : Prop := ∀ (b : Int), True → (0 ≤ b ∧ b ≤ 4294967295) → inBalRep0 b
def balRightF : Con
  | [.val (.int .u32 b)] => some (True, ⟨.bool (balOK b), none, none⟩)
  | _ => none
def gamBalRight : List (Nat × Con) := [(49, balRoundF), (50, balRepF)]
def lpBalRight0 (b : Int) : Nat → Option LoopPlan := fun _ => none
def inBalRight0 (b : Int) : Prop := awp [] (lpBalRight0 b) (lookΓ gamBalRight) Try.prog Try.f22.ntmps 0 (Try.f22.body.getD .skip) (entrySt [.val (.int .u32 b)]) (exitQ Try.prog Try.f22.results.toList [] ⟨.bool (balOK b), none, none⟩)
def OkBalRight0 : Prop := ∀ (b : Int), True → (0 ≤ b ∧ b ≤ 4294967295) → inBalRight0 b
def takeIDF : Con
  | [.box [.sl xs .no, .int .i64 e]] => some (isBytes xs, ⟨.agg [.int .i64 (idR (bytesL xs) e), .int .i64 (idS (bytesL xs) e)], (some [.sl (bytesAV (idRest (bytesL xs) e)) .no, .int .i64 (idErr (bytesL xs) e)]), none⟩)
  | _ => none
def gamTakeID : List (Nat × Con) := [(34, inByteF), (47, inFailF), (36, inShortF), (28, inFailedF)]
def lpTakeID0 (xs : List AV) (e : Int) : Nat → Option LoopPlan := fun _ => none
def inTakeID0 (xs : List AV) (e : Int) : Prop := awp [0] (lpTakeID0 xs e) (lookΓ gamTakeID) Try.prog Try.f18.ntmps 0 (Try.f18.body.getD .skip) (entrySt [.box [.sl xs .no, .int .i64 e]]) (exitQ Try.prog Try.f18.results.toList [0] ⟨.agg [.int .i64 (idR (bytesL xs) e), .int .i64 (idS (bytesL xs) e)], (some [.sl (bytesAV (idRest (bytesL xs) e)) .no, .int .i64 (idErr (bytesL xs) e)]), none⟩)
def OkTakeID0 : Prop := ∀ (xs : List AV) (e : Int), isBytes xs → inTakeID0 xs e
def takeBalF : Con
  | [.box [.sl xs .no, .int .i64 e]] => some (isBytes xs, ⟨.int .u32 (balV (bytesL xs) e), (some [.sl (bytesAV (shRest (bytesL xs) e 4294967295)) .no, .int .i64 (balE (bytesL xs) e)]), none⟩)
  | _ => none
def gamTakeBal : List (Nat × Con) := [(36, inShortF), (22, balRightF), (47, inFailF)]
def lpTakeBal0 (xs : List AV) (e : Int) : Nat → Option LoopPlan := fun _ => none
def inTakeBal0 (xs : List AV) (e : Int) : Prop := awp [0] (lpTakeBal0 xs e) (lookΓ gamTakeBal) Try.prog Try.f20.ntmps 0 (Try.f20.body.getD .skip) (entrySt [.box [.sl xs .no, .int .i64 e]]) (exitQ Try.prog Try.f20.results.toList [0] ⟨.int .u32 (balV (bytesL xs) e), (some [.sl (bytesAV (shRest (bytesL xs) e 4294967295)) .no, .int .i64 (balE (bytesL xs) e)]), none⟩)
def OkTakeBal0 : Prop := ∀ (xs : List AV) (e : Int), isBytes xs → inTakeBal0 xs e
def idPutF : Con
  | [.val (.agg [.int .i64 r, .int .i64 n]), .box [.sl xs (.row p q te0)]] => if te0 = 5 then some (isBytes xs ∧ xs.length + 11 ≤ 140737488355328, ⟨.tup [], (some [.sl (bytesAV (catL (bytesL xs) (encID r n))) (.row 0 0 5)]), none⟩) else none
  | _ => none
def gamIdPut : List (Nat × Con) := [(29, outByteF), (31, outShortF)]
def lpIdPut0 (xs : List AV) (p q : Nat) (r n : Int) : Nat → Option LoopPlan := fun _ => none
def inIdPut0 (xs : List AV) (p q : Nat) (r n : Int) : Prop := awp [1] (lpIdPut0 xs p q r n) (lookΓ gamIdPut) Try.prog Try.f23.ntmps 0 (Try.f23.body.getD .skip) (entrySt [.val (.agg [.int .i64 r, .int .i64 n]), .box [.sl xs (.row p q 5)]]) (exitQ Try.prog Try.f23.results.toList [1] ⟨.tup [], (some [.sl (bytesAV (catL (bytesL xs) (encID r n))) (.row 0 0 5)]), none⟩)
def OkIdPut0 : Prop := ∀ (xs : List AV) (p q : Nat) (r n : Int), isBytes xs ∧ xs.length + 11 ≤ 140737488355328 → inIdPut0 xs p q r n
def balPutF : Con
  | [.val (.int .u32 b), .box [.sl xs (.row p q te0)]] => if te0 = 5 then some (isBytes xs ∧ xs.length + 10 ≤ 140737488355328, ⟨.tup [], (some [.sl (bytesAV (catL (bytesL xs) (short b.toNat))) (.row 0 0 5)]), none⟩) else none
  | _ => none
def gamBalPut : List (Nat × Con) := [(31, outShortF)]
def lpBalPut0 (xs : List AV) (p q : Nat) (b : Int) : Nat → Option LoopPlan := fun _ => none
def inBalPut0 (xs : List AV) (p q : Nat) (b : Int) : Prop := awp [1] (lpBalPut0 xs p q b) (lookΓ gamBalPut) Try.prog Try.f24.ntmps 0 (Try.f24.body.getD .skip) (entrySt [.val (.int .u32 b), .box [.sl xs (.row p q 5)]]) (exitQ Try.prog Try.f24.results.toList [1] ⟨.tup [], (some [.sl (bytesAV (catL (bytesL xs) (short b.toNat))) (.row 0 0 5)]), none⟩)
def OkBalPut0 : Prop := ∀ (xs : List AV) (p q : Nat) (b : Int), isBytes xs ∧ xs.length + 10 ≤ 140737488355328 → (0 ≤ b ∧ b ≤ 4294967295) → inBalPut0 xs p q b
def attRightF : Con
  | [.val (.agg [.int .i64 s, .int .i64 d0, .int .i64 d1, .int .i64 d2, .int .i64 d3, .int .i64 d4, .int .i64 d5, .int .i64 d6])] => some (True, ⟨.bool (rightA s d0 d1 d2 d3 d4 d5 d6), none, none⟩)
  | _ => none
def gamAttRight : List (Nat × Con) := []
def lpAttRight0 (s d0 d1 d2 d3 d4 d5 d6 : Int) : Nat → Option LoopPlan := fun b => bif Nat.beq b 0 then some (.unroll [] 9) else none
def inAttRight0 (s d0 d1 d2 d3 d4 d5 d6 : Int) : Prop := awp [] (lpAttRight0 s d0 d1 d2 d3 d4 d5 d6) (lookΓ gamAttRight) Try.prog Try.f44.ntmps 0 (Try.f44.body.getD .skip) (entrySt [.val (.agg [.int .i64 s, .int .i64 d0, .int .i64 d1, .int .i64 d2, .int .i64 d3, .int .i64 d4, .int .i64 d5, .int .i64 d6])]) (exitQ Try.prog Try.f44.results.toList [] ⟨.bool (rightA s d0 d1 d2 d3 d4 d5 d6), none, none⟩)
def OkAttRight0 : Prop := ∀ (s d0 d1 d2 d3 d4 d5 d6 : Int), True → inAttRight0 s d0 d1 d2 d3 d4 d5 d6
def attPutF : Con
  | [.val (.agg [.int .i64 s, .int .i64 d0, .int .i64 d1, .int .i64 d2, .int .i64 d3, .int .i64 d4, .int .i64 d5, .int .i64 d6]), .box [.sl xs (.row p q te0)]] => if te0 = 5 then some (isBytes xs ∧ xs.length + 80 ≤ 140737488355328, ⟨.tup [], (some [.sl (bytesAV (catL (bytesL xs) (encA (zA s d0 d1 d2 d3 d4 d5 d6 s) (zA s d0 d1 d2 d3 d4 d5 d6 d0) (zA s d0 d1 d2 d3 d4 d5 d6 d1) (zA s d0 d1 d2 d3 d4 d5 d6 d2) (zA s d0 d1 d2 d3 d4 d5 d6 d3) (zA s d0 d1 d2 d3 d4 d5 d6 d4) (zA s d0 d1 d2 d3 d4 d5 d6 d5) (zA s d0 d1 d2 d3 d4 d5 d6 d6)))) (.row 0 0 5)]), none⟩) else none
  | _ => none
def gamAttPut : List (Nat × Con) := [(44, attRightF), (31, outShortF)]
def lpAttPut0 (s d0 d1 d2 d3 d4 d5 d6 : Int) (xs : List AV) (p q : Nat) : Nat → Option LoopPlan := fun b => bif Nat.beq b 0 then some (.unroll [] 9) else none
def inAttPut0 (s d0 d1 d2 d3 d4 d5 d6 : Int) (xs : List AV) (p q : Nat) : Prop := awp [1] (lpAttPut0 s d0 d1 d2 d3 d4 d5 d6 xs p q) (lookΓ gamAttPut) Try.prog Try.f13.ntmps 0 (Try.f13.body.getD .skip) (entrySt [.val (.agg [.int .i64 s, .int .i64 d0, .int .i64 d1, .int .i64 d2, .int .i64 d3, .int .i64 d4, .int .i64 d5, .int .i64 d6]), .box [.sl xs (.row p q 5)]]) (exitQ Try.prog Try.f13.results.toList [1] ⟨.tup [], (some [.sl (bytesAV (catL (bytesL xs) (encA (zA s d0 d1 d2 d3 d4 d5 d6 s) (zA s d0 d1 d2 d3 d4 d5 d6 d0) (zA s d0 d1 d2 d3 d4 d5 d6 d1) (zA s d0 d1 d2 d3 d4 d5 d6 d2) (zA s d0 d1 d2 d3 d4 d5 d6 d3) (zA s d0 d1 d2 d3 d4 d5 d6 d4) (zA s d0 d1 d2 d3 d4 d5 d6 d5) (zA s d0 d1 d2 d3 d4 d5 d6 d6)))) (.row 0 0 5)]), none⟩)
def OkAttPut0 : Prop := ∀ (s d0 d1 d2 d3 d4 d5 d6 : Int) (xs : List AV) (p q : Nat), isBytes xs ∧ xs.length + 80 ≤ 140737488355328 → inAttPut0 s d0 d1 d2 d3 d4 d5 d6 xs p q
def attTakeF : Con
  | [.box [.sl xs .no, .int .i64 e]] => some (isBytes xs, ⟨.agg [.int .i64 (atZ (bytesL xs) e (shV (bytesL xs) e 1073741824)), .int .i64 (atZ (bytesL xs) e (atV (bytesL xs) e 0)), .int .i64 (atZ (bytesL xs) e (atV (bytesL xs) e 1)), .int .i64 (atZ (bytesL xs) e (atV (bytesL xs) e 2)), .int .i64 (atZ (bytesL xs) e (atV (bytesL xs) e 3)), .int .i64 (atZ (bytesL xs) e (atV (bytesL xs) e 4)), .int .i64 (atZ (bytesL xs) e (atV (bytesL xs) e 5)), .int .i64 (atZ (bytesL xs) e (atV (bytesL xs) e 6))], (some [.sl (bytesAV (atS (bytesL xs) e 7).1) .no, .int .i64 (atS (bytesL xs) e 7).2]), none⟩)
  | _ => none
def gamAttTake : List (Nat × Con) := [(36, inShortF), (28, inFailedF)]
def lpAttTake0 (xs : List AV) (e : Int) : Nat → Option LoopPlan := fun b => bif Nat.beq b 0 then some (.unroll [] 9) else none
def inAttTake0 (xs : List AV) (e : Int) : Prop := awp [0] (lpAttTake0 xs e) (lookΓ gamAttTake) Try.prog Try.f10.ntmps 0 (Try.f10.body.getD .skip) (entrySt [.box [.sl xs .no, .int .i64 e]]) (exitQ Try.prog Try.f10.results.toList [0] ⟨.agg [.int .i64 (atZ (bytesL xs) e (shV (bytesL xs) e 1073741824)), .int .i64 (atZ (bytesL xs) e (atV (bytesL xs) e 0)), .int .i64 (atZ (bytesL xs) e (atV (bytesL xs) e 1)), .int .i64 (atZ (bytesL xs) e (atV (bytesL xs) e 2)), .int .i64 (atZ (bytesL xs) e (atV (bytesL xs) e 3)), .int .i64 (atZ (bytesL xs) e (atV (bytesL xs) e 4)), .int .i64 (atZ (bytesL xs) e (atV (bytesL xs) e 5)), .int .i64 (atZ (bytesL xs) e (atV (bytesL xs) e 6))], (some [.sl (bytesAV (atS (bytesL xs) e 7).1) .no, .int .i64 (atS (bytesL xs) e 7).2]), none⟩)
def OkAttTake0 : Prop := ∀ (xs : List AV) (e : Int), isBytes xs → inAttTake0 xs e
def refBadF : Con
  | [.val (.agg [.sl xs .no, .int .i64 at', .int .i64 e]), .val (.int .i64 c)] => some (True, ⟨.agg [.sl xs .no, .int .i64 at', .int .i64 (inFail e c)], none, none⟩)
  | _ => none
def gamRefBad : List (Nat × Con) := []
def lpRefBad0 (xs : List AV) (at' e c : Int) : Nat → Option LoopPlan := fun _ => none
def inRefBad0 (xs : List AV) (at' e c : Int) : Prop := awp [] (lpRefBad0 xs at' e c) (lookΓ gamRefBad) Try.prog Try.f61.ntmps 0 (Try.f61.body.getD .skip) (entrySt [.val (.agg [.sl xs .no, .int .i64 at', .int .i64 e]), .val (.int .i64 c)]) (exitQ Try.prog Try.f61.results.toList [] ⟨.agg [.sl xs .no, .int .i64 at', .int .i64 (inFail e c)], none, none⟩)
def OkRefBad0 : Prop := ∀ (xs : List AV) (at' e c : Int), True → inRefBad0 xs at' e c
def refByteF : Con
  | [.val (.agg [.sl xs .no, .int .i64 at', .int .i64 e])] => some (isBytes xs ∧ 0 ≤ at' ∧ at' ≤ xs.length, ⟨.tup [.agg [.sl xs .no, .int .i64 (refAt (bytesL xs) (tkRest (refL (bytesL xs) at') e 1)), .int .i64 (tkErr (refL (bytesL xs) at').length e 1)], .int .u8 (inByteV (refL (bytesL xs) at') e)], none, none⟩)
  | _ => none
def gamRefByte : List (Nat × Con) := [(61, refBadF)]
def lpRefByte0 (xs : List AV) (at' e : Int) : Nat → Option LoopPlan := fun _ => none
def inRefByte0 (xs : List AV) (at' e : Int) : Prop := awp [] (lpRefByte0 xs at' e) (lookΓ gamRefByte) Try.prog Try.f46.ntmps 0 (Try.f46.body.getD .skip) (entrySt [.val (.agg [.sl xs .no, .int .i64 at', .int .i64 e])]) (exitQ Try.prog Try.f46.results.toList [] ⟨.tup [.agg [.sl xs .no, .int .i64 (refAt (bytesL xs) (tkRest (refL (bytesL xs) at') e 1)), .int .i64 (tkErr (refL (bytesL xs) at').length e 1)], .int .u8 (inByteV (refL (bytesL xs) at') e)], none, none⟩)
def OkRefByte0 : Prop := ∀ (xs : List AV) (at' e : Int), isBytes xs ∧ 0 ≤ at' ∧ at' ≤ xs.length → (xs.length ≤ 9223372036854775807) → inRefByte0 xs at' e
def refShortF : Con
  | [.val (.agg [.sl xs .no, .int .i64 at', .int .i64 e]), .val (.int .u64 m)] => some (isBytes xs ∧ 0 ≤ at' ∧ at' ≤ xs.length, ⟨.tup [.agg [.sl xs .no, .int .i64 (refAt (bytesL xs) (shRest (refL (bytesL xs) at') e m)), .int .i64 (shErr (refL (bytesL xs) at') e m)], .int .u64 (shV (refL (bytesL xs) at') e m)], none, none⟩)
  | _ => none
def gamRefShort : List (Nat × Con) := [(60, readShortF), (61, refBadF)]
def lpRefShort0 (xs : List AV) (at' e m : Int) : Nat → Option LoopPlan := fun _ => none
def inRefShort0 (xs : List AV) (at' e m : Int) : Prop := awp [] (lpRefShort0 xs at' e m) (lookΓ gamRefShort) Try.prog Try.f43.ntmps 0 (Try.f43.body.getD .skip) (entrySt [.val (.agg [.sl xs .no, .int .i64 at', .int .i64 e]), .val (.int .u64 m)]) (exitQ Try.prog Try.f43.results.toList [] ⟨.tup [.agg [.sl xs .no, .int .i64 (refAt (bytesL xs) (shRest (refL (bytesL xs) at') e m)), .int .i64 (shErr (refL (bytesL xs) at') e m)], .int .u64 (shV (refL (bytesL xs) at') e m)], none, none⟩)
def OkRefShort0 : Prop := ∀ (xs : List AV) (at' e m : Int), isBytes xs ∧ 0 ≤ at' ∧ at' ≤ xs.length → (xs.length ≤ 9223372036854775807) → inRefShort0 xs at' e m
def refEndF : Con
  | [.val (.agg [.sl xs .no, .int .i64 at', .int .i64 e])] => some (isBytes xs ∧ 0 ≤ at' ∧ at' ≤ xs.length, ⟨.int .i64 (inEnd (refL (bytesL xs) at') e), none, none⟩)
  | _ => none
def gamRefEnd : List (Nat × Con) := []
def lpRefEnd0 (xs : List AV) (at' e : Int) : Nat → Option LoopPlan := fun _ => none
def inRefEnd0 (xs : List AV) (at' e : Int) : Prop := awp [] (lpRefEnd0 xs at' e) (lookΓ gamRefEnd) Try.prog Try.f12.ntmps 0 (Try.f12.body.getD .skip) (entrySt [.val (.agg [.sl xs .no, .int .i64 at', .int .i64 e])]) (exitQ Try.prog Try.f12.results.toList [] ⟨.int .i64 (inEnd (refL (bytesL xs) at') e), none, none⟩)
def OkRefEnd0 : Prop := ∀ (xs : List AV) (at' e : Int), isBytes xs ∧ 0 ≤ at' ∧ at' ≤ xs.length → inRefEnd0 xs at' e
def refBalF : Con
  | [.val (.int .u32 b)] => some (True, ⟨.bool (balOK b), none, none⟩)
  | _ => none
def gamRefBal : List (Nat × Con) := []
def lpRefBal0 (b : Int) : Nat → Option LoopPlan := fun _ => none
def inRefBal0 (b : Int) : Prop := awp [] (lpRefBal0 b) (lookΓ gamRefBal) Try.prog Try.f48.ntmps 0 (Try.f48.body.getD .skip) (entrySt [.val (.int .u32 b)]) (exitQ Try.prog Try.f48.results.toList [] ⟨.bool (balOK b), none, none⟩)
def OkRefBal0 : Prop := ∀ (b : Int), True → (0 ≤ b ∧ b ≤ 4294967295) → inRefBal0 b
def refTakeIDF : Con
  | [.val (.agg [.sl xs .no, .int .i64 at', .int .i64 e])] => some (isBytes xs ∧ 0 ≤ at' ∧ at' ≤ xs.length, ⟨.tup [.agg [.sl xs .no, .int .i64 (refAt (bytesL xs) (idRest (refL (bytesL xs) at') e)), .int .i64 (idErr (refL (bytesL xs) at') e)], .agg [.int .i64 (idR (refL (bytesL xs) at') e), .int .i64 (idS (refL (bytesL xs) at') e)]], none, none⟩)
  | _ => none
def gamRefTakeID : List (Nat × Con) := [(46, refByteF), (43, refShortF)]
def lpRefTakeID0 (xs : List AV) (at' e : Int) : Nat → Option LoopPlan := fun _ => none
def inRefTakeID0 (xs : List AV) (at' e : Int) : Prop := awp [] (lpRefTakeID0 xs at' e) (lookΓ gamRefTakeID) Try.prog Try.f17.ntmps 0 (Try.f17.body.getD .skip) (entrySt [.val (.agg [.sl xs .no, .int .i64 at', .int .i64 e])]) (exitQ Try.prog Try.f17.results.toList [] ⟨.tup [.agg [.sl xs .no, .int .i64 (refAt (bytesL xs) (idRest (refL (bytesL xs) at') e)), .int .i64 (idErr (refL (bytesL xs) at') e)], .agg [.int .i64 (idR (refL (bytesL xs) at') e), .int .i64 (idS (refL (bytesL xs) at') e)]], none, none⟩)
def OkRefTakeID0 : Prop := ∀ (xs : List AV) (at' e : Int), isBytes xs ∧ 0 ≤ at' ∧ at' ≤ xs.length → inRefTakeID0 xs at' e
def refTakeBalF : Con
  | [.val (.agg [.sl xs .no, .int .i64 at', .int .i64 e])] => some (isBytes xs ∧ 0 ≤ at' ∧ at' ≤ xs.length, ⟨.tup [.agg [.sl xs .no, .int .i64 (refAt (bytesL xs) (shRest (refL (bytesL xs) at') e 4294967295)), .int .i64 (balE (refL (bytesL xs) at') e)], .int .u32 (balV (refL (bytesL xs) at') e)], none, none⟩)
  | _ => none
def gamRefTakeBal : List (Nat × Con) := [(43, refShortF), (48, refBalF)]
def lpRefTakeBal0 (xs : List AV) (at' e : Int) : Nat → Option LoopPlan := fun _ => none
def inRefTakeBal0 (xs : List AV) (at' e : Int) : Prop := awp [] (lpRefTakeBal0 xs at' e) (lookΓ gamRefTakeBal) Try.prog Try.f19.ntmps 0 (Try.f19.body.getD .skip) (entrySt [.val (.agg [.sl xs .no, .int .i64 at', .int .i64 e])]) (exitQ Try.prog Try.f19.results.toList [] ⟨.tup [.agg [.sl xs .no, .int .i64 (refAt (bytesL xs) (shRest (refL (bytesL xs) at') e 4294967295)), .int .i64 (balE (refL (bytesL xs) at') e)], .int .u32 (balV (refL (bytesL xs) at') e)], none, none⟩)
def OkRefTakeBal0 : Prop := ∀ (xs : List AV) (at' e : Int), isBytes xs ∧ 0 ≤ at' ∧ at' ≤ xs.length → inRefTakeBal0 xs at' e
def refARightF : Con
  | [.val (.agg [.int .i64 s, .int .i64 d0, .int .i64 d1, .int .i64 d2, .int .i64 d3, .int .i64 d4, .int .i64 d5, .int .i64 d6])] => some (True, ⟨.bool (rightA s d0 d1 d2 d3 d4 d5 d6), none, none⟩)
  | _ => none
def gamRefARight : List (Nat × Con) := []
def lpRefARight0 (s d0 d1 d2 d3 d4 d5 d6 : Int) : Nat → Option LoopPlan := fun b => bif Nat.beq b 0 then some (.unroll [] 9) else none
def inRefARight0 (s d0 d1 d2 d3 d4 d5 d6 : Int) : Prop := awp [] (lpRefARight0 s d0 d1 d2 d3 d4 d5 d6) (lookΓ gamRefARight) Try.prog Try.f15.ntmps 0 (Try.f15.body.getD .skip) (entrySt [.val (.agg [.int .i64 s, .int .i64 d0, .int .i64 d1, .int .i64 d2, .int .i64 d3, .int .i64 d4, .int .i64 d5, .int .i64 d6])]) (exitQ Try.prog Try.f15.results.toList [] ⟨.bool (rightA s d0 d1 d2 d3 d4 d5 d6), none, none⟩)
def OkRefARight0 : Prop := ∀ (s d0 d1 d2 d3 d4 d5 d6 : Int), True → inRefARight0 s d0 d1 d2 d3 d4 d5 d6
def refATakeF : Con
  | [.val (.agg [.sl xs .no, .int .i64 at', .int .i64 e])] => some (isBytes xs ∧ 0 ≤ at' ∧ at' ≤ xs.length, ⟨.tup [.agg [.sl xs .no, .int .i64 (refAt (bytesL xs) (atS (refL (bytesL xs) at') e 7).1), .int .i64 (atS (refL (bytesL xs) at') e 7).2], .agg [.int .i64 (atZ (refL (bytesL xs) at') e (shV (refL (bytesL xs) at') e 1073741824)), .int .i64 (atZ (refL (bytesL xs) at') e (atV (refL (bytesL xs) at') e 0)), .int .i64 (atZ (refL (bytesL xs) at') e (atV (refL (bytesL xs) at') e 1)), .int .i64 (atZ (refL (bytesL xs) at') e (atV (refL (bytesL xs) at') e 2)), .int .i64 (atZ (refL (bytesL xs) at') e (atV (refL (bytesL xs) at') e 3)), .int .i64 (atZ (refL (bytesL xs) at') e (atV (refL (bytesL xs) at') e 4)), .int .i64 (atZ (refL (bytesL xs) at') e (atV (refL (bytesL xs) at') e 5)), .int .i64 (atZ (refL (bytesL xs) at') e (atV (refL (bytesL xs) at') e 6))]], none, none⟩)
  | _ => none
def gamRefATake : List (Nat × Con) := [(43, refShortF)]
def lpRefATake0 (xs : List AV) (at' e : Int) : Nat → Option LoopPlan := fun b => bif Nat.beq b 0 then some (.unroll [] 9) else none
def inRefATake0 (xs : List AV) (at' e : Int) : Prop := awp [] (lpRefATake0 xs at' e) (lookΓ gamRefATake) Try.prog Try.f9.ntmps 0 (Try.f9.body.getD .skip) (entrySt [.val (.agg [.sl xs .no, .int .i64 at', .int .i64 e])]) (exitQ Try.prog Try.f9.results.toList [] ⟨.tup [.agg [.sl xs .no, .int .i64 (refAt (bytesL xs) (atS (refL (bytesL xs) at') e 7).1), .int .i64 (atS (refL (bytesL xs) at') e 7).2], .agg [.int .i64 (atZ (refL (bytesL xs) at') e (shV (refL (bytesL xs) at') e 1073741824)), .int .i64 (atZ (refL (bytesL xs) at') e (atV (refL (bytesL xs) at') e 0)), .int .i64 (atZ (refL (bytesL xs) at') e (atV (refL (bytesL xs) at') e 1)), .int .i64 (atZ (refL (bytesL xs) at') e (atV (refL (bytesL xs) at') e 2)), .int .i64 (atZ (refL (bytesL xs) at') e (atV (refL (bytesL xs) at') e 3)), .int .i64 (atZ (refL (bytesL xs) at') e (atV (refL (bytesL xs) at') e 4)), .int .i64 (atZ (refL (bytesL xs) at') e (atV (refL (bytesL xs) at') e 5)), .int .i64 (atZ (refL (bytesL xs) at') e (atV (refL (bytesL xs) at') e 6))]], none, none⟩)
def OkRefATake0 : Prop := ∀ (xs : List AV) (at' e : Int), isBytes xs ∧ 0 ≤ at' ∧ at' ≤ xs.length → inRefATake0 xs at' e
end Go.Proofs.Ytledoikeaidlfaa
