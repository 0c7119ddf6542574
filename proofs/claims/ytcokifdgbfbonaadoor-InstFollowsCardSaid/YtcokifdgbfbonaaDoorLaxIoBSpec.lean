/- Contracts by content, and the conditions that their code must meet. -/
import Derived.Test.YtcokifdgbfbonaaDoorLaxWireMeets
import Derived.Test.YtcokifdgbfbonaaDoorLaxIoAMeets
namespace Go.Proofs.YtcokifdgbfbonaaDoor
set_option linter.unusedVariables false
set_option linter.unusedSimpArgs false
open Go.RowKit
def idE1 (l : List UInt8) (e : Int) : Int := if 6 < inByteV l e then inFail (tkErr l.length e 1) 12 else tkErr l.length e 1
def idRest (l : List UInt8) (e : Int) : List UInt8 := shRest (tkRest l e 1) (idE1 l e) 1023
def idErr (l : List UInt8) (e : Int) : Int := shErr (tkRest l e 1) (idE1 l e) 1023
def idR (l : List UInt8) (e : Int) : Int := if idErr l e = 0 then inByteV l e else 0
def idS (l : List UInt8) (e : Int) : Int := if idErr l e = 0 then shV (tkRest l e 1) (idE1 l e) 1023 else 0
def balV (l : List UInt8) (e : Int) : Int := if balOK (shV l e 4294967295) then shV l e 4294967295 else 0
def balE (l : List UInt8) (e : Int) : Int := if balOK (shV l e 4294967295) then shErr l e 4294967295 else inFail (shErr l e 4294967295) 60
def encID (r s : Int) : List UInt8 := catL (encByte (IntKind.u8.wrap r)) (short (IntKind.u64.wrap s).toNat)
def atS (l : List UInt8) (e : Int) : Nat → List UInt8 × Int
  | 0 => (shRest l e 1073741824, shErr l e 1073741824)
  | k + 1 => (shRest (atS l e k).1 (atS l e k).2 1024, shErr (atS l e k).1 (atS l e k).2 1024)
def atV (l : List UInt8) (e : Int) (k : Nat) : Int := shV (atS l e k).1 (atS l e k).2 1024
def atZ (l : List UInt8) (e v : Int) : Int := if (atS l e 7).2 = 0 then v else 0
def encA (s d0 d1 d2 d3 d4 d5 d6 : Int) : List UInt8 := catL (catL (catL (catL (catL (catL (catL (short s.toNat) (short d0.toNat)) (short d1.toNat)) (short d2.toNat)) (short d3.toNat)) (short d4.toNat)) (short d5.toNat)) (short d6.toNat)
def zA (s d0 d1 d2 d3 d4 d5 d6 v : Int) : Int := if rightA s d0 d1 d2 d3 d4 d5 d6 then v else 0
def takeIDF : Con
  | [.box [.sl xs .no, .int .i64 e]] => some (isBytes xs, ⟨.agg [.int .i64 (idR (bytesL xs) e), .int .i64 (idS (bytesL xs) e)], (some [.sl (bytesAV (idRest (bytesL xs) e)) .no, .int .i64 (idErr (bytesL xs) e)]), none⟩)
  | _ => none
def gamTakeID : List (Nat × Con) := [(93, inByteF.orNil), (95, inFailF.orNil), (135, inShortF.orNil), (97, inFailedF.orNil)]
def lpTakeID0 (xs : List AV) (e : Int) : Nat → Option LoopPlan := fun _ => none
def inTakeID0 (xs : List AV) (e : Int) : Prop := awp [0] (lpTakeID0 xs e) (lookΓ gamTakeID) Tryd.prog Tryd.f109.ntmps 0 (Tryd.f109.body.getD .skip) (entrySt [.box [.sl xs .no, .int .i64 e]]) (exitQ Tryd.prog Tryd.f109.results.toList [0] ⟨.agg [.int .i64 (idR (bytesL xs) e), .int .i64 (idS (bytesL xs) e)], (some [.sl (bytesAV (idRest (bytesL xs) e)) .no, .int .i64 (idErr (bytesL xs) e)]), none⟩)
def OkTakeID0 : Prop := ∀ (xs : List AV) (e : Int), isBytes xs → inTakeID0 xs e
def takeBalF : Con
  | [.box [.sl xs .no, .int .i64 e]] => some (isBytes xs, ⟨.int .u32 (balV (bytesL xs) e), (some [.sl (bytesAV (shRest (bytesL xs) e 4294967295)) .no, .int .i64 (balE (bytesL xs) e)]), none⟩)
  | _ => none
def gamTakeBal : List (Nat × Con) := [(135, inShortF.orNil), (75, balRightF.orNil), (95, inFailF.orNil)]
def lpTakeBal0 (xs : List AV) (e : Int) : Nat → Option LoopPlan := fun _ => none
def inTakeBal0 (xs : List AV) (e : Int) : Prop := awp [0] (lpTakeBal0 xs e) (lookΓ gamTakeBal) Tryd.prog Tryd.f110.ntmps 0 (Tryd.f110.body.getD .skip) (entrySt [.box [.sl xs .no, .int .i64 e]]) (exitQ Tryd.prog Tryd.f110.results.toList [0] ⟨.int .u32 (balV (bytesL xs) e), (some [.sl (bytesAV (shRest (bytesL xs) e 4294967295)) .no, .int .i64 (balE (bytesL xs) e)]), none⟩)
def OkTakeBal0 : Prop := ∀ (xs : List AV) (e : Int), isBytes xs → inTakeBal0 xs e
def idPutF : Con
  | [.val (.agg [.int .i64 r, .int .i64 n]), .box [.sl xs (.row p q te0)]] => if te0 = 5 then some (isBytes xs ∧ xs.length + 11 ≤ 140737488355328, ⟨.tup [], (some [.sl (bytesAV (catL (bytesL xs) (encID r n))) (.row 0 0 5)]), none⟩) else none
  | _ => none
def gamIdPut : List (Nat × Con) := [(120, outByteF.orNil), (123, outShortF.orNil)]
def lpIdPut0 (xs : List AV) (p q : Nat) (r n : Int) : Nat → Option LoopPlan := fun _ => none
def inIdPut0 (xs : List AV) (p q : Nat) (r n : Int) : Prop := awp [1] (lpIdPut0 xs p q r n) (lookΓ gamIdPut) Tryd.prog Tryd.f141.ntmps 0 (Tryd.f141.body.getD .skip) (entrySt [.val (.agg [.int .i64 r, .int .i64 n]), .box [.sl xs (.row p q 5)]]) (exitQ Tryd.prog Tryd.f141.results.toList [1] ⟨.tup [], (some [.sl (bytesAV (catL (bytesL xs) (encID r n))) (.row 0 0 5)]), none⟩)
def OkIdPut0 : Prop := ∀ (xs : List AV) (p q : Nat) (r n : Int), isBytes xs ∧ xs.length + 11 ≤ 140737488355328 → inIdPut0 xs p q r n
def balPutF : Con
  | [.val (.int .u32 b), .box [.sl xs (.row p q te0)]] => if te0 = 5 then some (isBytes xs ∧ xs.length + 10 ≤ 140737488355328, ⟨.tup [], (some [.sl (bytesAV (catL (bytesL xs) (short b.toNat))) (.row 0 0 5)]), none⟩) else none
  | _ => none
def gamBalPut : List (Nat × Con) := [(123, outShortF.orNil)]
def lpBalPut0 (xs : List AV) (p q : Nat) (b : Int) : Nat → Option LoopPlan := fun _ => none
def inBalPut0 (xs : List AV) (p q : Nat) (b : Int) : Prop := awp [1] (lpBalPut0 xs p q b) (lookΓ gamBalPut) Tryd.prog Tryd.f142.ntmps 0 (Tryd.f142.body.getD .skip) (entrySt [.val (.int .u32 b), .box [.sl xs (.row p q 5)]]) (exitQ Tryd.prog Tryd.f142.results.toList [1] ⟨.tup [], (some [.sl (bytesAV (catL (bytesL xs) (short b.toNat))) (.row 0 0 5)]), none⟩)
def OkBalPut0 : Prop := ∀ (xs : List AV) (p q : Nat) (b : Int), isBytes xs ∧ xs.length + 10 ≤ 140737488355328 → (0 ≤ b ∧ b ≤ 4294967295) → inBalPut0 xs p q b
def attPutF : Con
  | [.val (.agg [.int .i64 s, .int .i64 d0, .int .i64 d1, .int .i64 d2, .int .i64 d3, .int .i64 d4, .int .i64 d5, .int .i64 d6]), .box [.sl xs (.row p q te0)]] => if te0 = 5 then some (isBytes xs ∧ xs.length + 80 ≤ 140737488355328, ⟨.tup [], (some [.sl (bytesAV (catL (bytesL xs) (encA (zA s d0 d1 d2 d3 d4 d5 d6 s) (zA s d0 d1 d2 d3 d4 d5 d6 d0) (zA s d0 d1 d2 d3 d4 d5 d6 d1) (zA s d0 d1 d2 d3 d4 d5 d6 d2) (zA s d0 d1 d2 d3 d4 d5 d6 d3) (zA s d0 d1 d2 d3 d4 d5 d6 d4) (zA s d0 d1 d2 d3 d4 d5 d6 d5) (zA s d0 d1 d2 d3 d4 d5 d6 d6)))) (.row 0 0 5)]), none⟩) else none
  | _ => none
def gamAttPut : List (Nat × Con) := [(126, attRightF.orNil), (123, outShortF.orNil)]
def lpAttPut0 (s d0 d1 d2 d3 d4 d5 d6 : Int) (xs : List AV) (p q : Nat) : Nat → Option LoopPlan := fun b => bif Nat.beq b 0 then some (.unroll [] 9) else none
def inAttPut0 (s d0 d1 d2 d3 d4 d5 d6 : Int) (xs : List AV) (p q : Nat) : Prop := awp [1] (lpAttPut0 s d0 d1 d2 d3 d4 d5 d6 xs p q) (lookΓ gamAttPut) Tryd.prog Tryd.f144.ntmps 0 (Tryd.f144.body.getD .skip) (entrySt [.val (.agg [.int .i64 s, .int .i64 d0, .int .i64 d1, .int .i64 d2, .int .i64 d3, .int .i64 d4, .int .i64 d5, .int .i64 d6]), .box [.sl xs (.row p q 5)]]) (exitQ Tryd.prog Tryd.f144.results.toList [1] ⟨.tup [], (some [.sl (bytesAV (catL (bytesL xs) (encA (zA s d0 d1 d2 d3 d4 d5 d6 s) (zA s d0 d1 d2 d3 d4 d5 d6 d0) (zA s d0 d1 d2 d3 d4 d5 d6 d1) (zA s d0 d1 d2 d3 d4 d5 d6 d2) (zA s d0 d1 d2 d3 d4 d5 d6 d3) (zA s d0 d1 d2 d3 d4 d5 d6 d4) (zA s d0 d1 d2 d3 d4 d5 d6 d5) (zA s d0 d1 d2 d3 d4 d5 d6 d6)))) (.row 0 0 5)]), none⟩)
def OkAttPut0 : Prop := ∀ (s d0 d1 d2 d3 d4 d5 d6 : Int) (xs : List AV) (p q : Nat), isBytes xs ∧ xs.length + 80 ≤ 140737488355328 → inAttPut0 s d0 d1 d2 d3 d4 d5 d6 xs p q
def attTakeF : Con
  | [.box [.sl xs .no, .int .i64 e]] => some (isBytes xs, ⟨.agg [.int .i64 (atZ (bytesL xs) e (shV (bytesL xs) e 1073741824)), .int .i64 (atZ (bytesL xs) e (atV (bytesL xs) e 0)), .int .i64 (atZ (bytesL xs) e (atV (bytesL xs) e 1)), .int .i64 (atZ (bytesL xs) e (atV (bytesL xs) e 2)), .int .i64 (atZ (bytesL xs) e (atV (bytesL xs) e 3)), .int .i64 (atZ (bytesL xs) e (atV (bytesL xs) e 4)), .int .i64 (atZ (bytesL xs) e (atV (bytesL xs) e 5)), .int .i64 (atZ (bytesL xs) e (atV (bytesL xs) e 6))], (some [.sl (bytesAV (atS (bytesL xs) e 7).1) .no, .int .i64 (atS (bytesL xs) e 7).2]), none⟩)
  | _ => none
def gamAttTake : List (Nat × Con) := [(135, inShortF.orNil), (97, inFailedF.orNil)]
def lpAttTake0 (xs : List AV) (e : Int) : Nat → Option LoopPlan := fun b => bif Nat.beq b 0 then some (.unroll [] 9) else none
def inAttTake0 (xs : List AV) (e : Int) : Prop := awp [0] (lpAttTake0 xs e) (lookΓ gamAttTake) Tryd.prog Tryd.f112.ntmps 0 (Tryd.f112.body.getD .skip) (entrySt [.box [.sl xs .no, .int .i64 e]]) (exitQ Tryd.prog Tryd.f112.results.toList [0] ⟨.agg [.int .i64 (atZ (bytesL xs) e (shV (bytesL xs) e 1073741824)), .int .i64 (atZ (bytesL xs) e (atV (bytesL xs) e 0)), .int .i64 (atZ (bytesL xs) e (atV (bytesL xs) e 1)), .int .i64 (atZ (bytesL xs) e (atV (bytesL xs) e 2)), .int .i64 (atZ (bytesL xs) e (atV (bytesL xs) e 3)), .int .i64 (atZ (bytesL xs) e (atV (bytesL xs) e 4)), .int .i64 (atZ (bytesL xs) e (atV (bytesL xs) e 5)), .int .i64 (atZ (bytesL xs) e (atV (bytesL xs) e 6))], (some [.sl (bytesAV (atS (bytesL xs) e 7).1) .no, .int .i64 (atS (bytesL xs) e 7).2]), none⟩)
def OkAttTake0 : Prop := ∀ (xs : List AV) (e : Int), isBytes xs → inAttTake0 xs e
end Go.Proofs.YtcokifdgbfbonaaDoor
