/- Contracts by content, their conditions, and that they are met: Wire. -/
import Derived.Test.YtcokifdgbfbonaaDoorLaxClone
import Derived.Test.YtcokifdgbfbonaaDoorLaxNumP
import Derived.Test.YtcokifdgbfbonaaDoorLaxWrap
/- Contracts by content, and the conditions that their code must meet. -/
namespace Go.Proofs.YtcokifdgbfbonaaDoor
set_option linter.unusedVariables false
set_option linter.unusedSimpArgs false
open Go.RowKit
/-- the first error stays -/
def inFail (e c : Int) : Int := if e = 0 then c else e
def tkOK (n : Nat) (e k : Int) : Bool := decide (e = 0 ∧ k ≤ n)
def tkOut (l : List UInt8) (e k : Int) : List UInt8 := if tkOK l.length e k then l.take k.toNat else []
def tkRest (l : List UInt8) (e k : Int) : List UInt8 := if tkOK l.length e k then l.drop k.toNat else l
def tkErr (n : Nat) (e k : Int) : Int := if tkOK n e k then e else inFail e 20
def inByteV (l : List UInt8) (e : Int) : Int := ((tkOut l e 1).getD 0 0).toNat
def inTruthE (l : List UInt8) (e : Int) : Int := if 1 < inByteV l e then inFail (tkErr l.length e 1) 10 else tkErr l.length e 1
def inTruthV (l : List UInt8) (e : Int) : Bool := decide (inTruthE l e = 0) && (inByteV l e == 1)
/-- a short number: its value, what is left, the error -/
def shV (l : List UInt8) (e m : Int) : Int := if e ≠ 0 then 0 else if (rShort l).2.2 ≠ 0 then 0 else if m < (rShort l).1 then 0 else (rShort l).1
def shRest (l : List UInt8) (e m : Int) : List UInt8 := if e ≠ 0 then l else if (rShort l).2.2 ≠ 0 then l else if m < (rShort l).1 then l else l.drop (rShort l).2.1
def shErr (l : List UInt8) (e m : Int) : Int := if e ≠ 0 then e else if (rShort l).2.2 ≠ 0 then (rShort l).2.2 else if m < (rShort l).1 then 12 else 0
def most0 (m : Int) : Int := if m < 0 then 0 else m
def inTextV (l : List UInt8) (e m : Int) : List UInt8 := tkOut (shRest l e (most0 m)) (shErr l e (most0 m)) (shV l e (most0 m))
def inTextR (l : List UInt8) (e m : Int) : List UInt8 := tkRest (shRest l e (most0 m)) (shErr l e (most0 m)) (shV l e (most0 m))
def inTextE (l : List UInt8) (e m : Int) : Int := tkErr (shRest l e (most0 m)).length (shErr l e (most0 m)) (shV l e (most0 m))
def inLeft (l : List UInt8) (e : Int) : Int := if e ≠ 0 then 0 else l.length
def inEnd (l : List UInt8) (e : Int) : Int := if 0 < inLeft l e then 21 else e
def encByte (b : Int) : List UInt8 := [UInt8.ofNat b.toNat]
def encTruth (b : Bool) : List UInt8 := [if b then 1 else 0]
def encText (s : List UInt8) : List UInt8 := short s.length ++ s
def inFailF : Con
  | [.box [.sl xs .no, .int .i64 e], .val (.int .i64 c)] => some (True, ⟨.tup [], (some [.sl xs .no, .int .i64 (inFail e c)]), none⟩)
  | _ => none
def gamInFail : List (Nat × Con) := []
def lpInFail0 (xs : List AV) (e c : Int) : Nat → Option LoopPlan := fun _ => none
def inInFail0 (xs : List AV) (e c : Int) : Prop := awp [0] (lpInFail0 xs e c) (lookΓ gamInFail) Tryd.prog Tryd.f95.ntmps 0 (Tryd.f95.body.getD .skip) (entrySt [.box [.sl xs .no, .int .i64 e], .val (.int .i64 c)]) (exitQ Tryd.prog Tryd.f95.results.toList [0] ⟨.tup [], (some [.sl xs .no, .int .i64 (inFail e c)]), none⟩)
def OkInFail0 : Prop := ∀ (xs : List AV) (e c : Int), True → inInFail0 xs e c
def takeF : Con
  | [.box [.sl xs .no, .int .i64 e], .val (.int .i64 k)] => some (isBytes xs ∧ 0 ≤ k, ⟨.sl (bytesAV (tkOut (bytesL xs) e k)) .no, (some [.sl (bytesAV (tkRest (bytesL xs) e k)) .no, .int .i64 (tkErr (bytesL xs).length e k)]), none⟩)
  | _ => none
def gamTake : List (Nat × Con) := [(95, inFailF.orNil)]
def lpTake0 (xs : List AV) (e k : Int) : Nat → Option LoopPlan := fun _ => none
def inTake0 (xs : List AV) (e k : Int) : Prop := awp [0] (lpTake0 xs e k) (lookΓ gamTake) Tryd.prog Tryd.f132.ntmps 0 (Tryd.f132.body.getD .skip) (entrySt [.box [.sl xs .no, .int .i64 e], .val (.int .i64 k)]) (exitQ Tryd.prog Tryd.f132.results.toList [0] ⟨.sl (bytesAV (tkOut (bytesL xs) e k)) .no, (some [.sl (bytesAV (tkRest (bytesL xs) e k)) .no, .int .i64 (tkErr (bytesL xs).length e k)]), none⟩)
def OkTake0 : Prop := ∀ (xs : List AV) (e k : Int), isBytes xs ∧ 0 ≤ k → inTake0 xs e k
def inByteF : Con
  | [.box [.sl xs .no, .int .i64 e]] => some (isBytes xs, ⟨.int .u8 (inByteV (bytesL xs) e), (some [.sl (bytesAV (tkRest (bytesL xs) e 1)) .no, .int .i64 (tkErr (bytesL xs).length e 1)]), none⟩)
  | _ => none
def gamInByte : List (Nat × Con) := [(132, takeF.orNil)]
def lpInByte0 (xs : List AV) (e : Int) : Nat → Option LoopPlan := fun _ => none
def inInByte0 (xs : List AV) (e : Int) : Prop := awp [0] (lpInByte0 xs e) (lookΓ gamInByte) Tryd.prog Tryd.f93.ntmps 0 (Tryd.f93.body.getD .skip) (entrySt [.box [.sl xs .no, .int .i64 e]]) (exitQ Tryd.prog Tryd.f93.results.toList [0] ⟨.int .u8 (inByteV (bytesL xs) e), (some [.sl (bytesAV (tkRest (bytesL xs) e 1)) .no, .int .i64 (tkErr (bytesL xs).length e 1)]), none⟩)
def OkInByte0 : Prop := ∀ (xs : List AV) (e : Int), isBytes xs → inInByte0 xs e
def inTruthF : Con
  | [.box [.sl xs .no, .int .i64 e]] => some (isBytes xs, ⟨.bool (inTruthV (bytesL xs) e), (some [.sl (bytesAV (tkRest (bytesL xs) e 1)) .no, .int .i64 (inTruthE (bytesL xs) e)]), none⟩)
  | _ => none
def gamInTruth : List (Nat × Con) := [(93, inByteF.orNil), (95, inFailF.orNil)]
def lpInTruth0 (xs : List AV) (e : Int) : Nat → Option LoopPlan := fun _ => none
def inInTruth0 (xs : List AV) (e : Int) : Prop := awp [0] (lpInTruth0 xs e) (lookΓ gamInTruth) Tryd.prog Tryd.f111.ntmps 0 (Tryd.f111.body.getD .skip) (entrySt [.box [.sl xs .no, .int .i64 e]]) (exitQ Tryd.prog Tryd.f111.results.toList [0] ⟨.bool (inTruthV (bytesL xs) e), (some [.sl (bytesAV (tkRest (bytesL xs) e 1)) .no, .int .i64 (inTruthE (bytesL xs) e)]), none⟩)
def OkInTruth0 : Prop := ∀ (xs : List AV) (e : Int), isBytes xs → inInTruth0 xs e
def inShortF : Con
  | [.box [.sl xs .no, .int .i64 e], .val (.int .u64 m)] => some (isBytes xs, ⟨.int .u64 (shV (bytesL xs) e m), (some [.sl (bytesAV (shRest (bytesL xs) e m)) .no, .int .i64 (shErr (bytesL xs) e m)]), none⟩)
  | _ => none
def gamInShort : List (Nat × Con) := [(155, readShortF.orNil), (95, inFailF.orNil), (132, takeF.orNil)]
def lpInShort0 (xs : List AV) (e m : Int) : Nat → Option LoopPlan := fun _ => none
def inInShort0 (xs : List AV) (e m : Int) : Prop := awp [0] (lpInShort0 xs e m) (lookΓ gamInShort) Tryd.prog Tryd.f135.ntmps 0 (Tryd.f135.body.getD .skip) (entrySt [.box [.sl xs .no, .int .i64 e], .val (.int .u64 m)]) (exitQ Tryd.prog Tryd.f135.results.toList [0] ⟨.int .u64 (shV (bytesL xs) e m), (some [.sl (bytesAV (shRest (bytesL xs) e m)) .no, .int .i64 (shErr (bytesL xs) e m)]), none⟩)
def OkInShort0 : Prop := ∀ (xs : List AV) (e m : Int), isBytes xs → inInShort0 xs e m
def inFixedF : Con
  | [.box [.sl xs .no, .int .i64 e]] => some (isBytes xs, ⟨.int .u64 (val8 (tkOut (bytesL xs) e 8)), (some [.sl (bytesAV (tkRest (bytesL xs) e 8)) .no, .int .i64 (tkErr (bytesL xs).length e 8)]), none⟩)
  | _ => none
def gamInFixed : List (Nat × Con) := [(132, takeF.orNil), (154, numReadF.orNil)]
def lpInFixed0 (xs : List AV) (e : Int) : Nat → Option LoopPlan := fun _ => none
def inInFixed0 (xs : List AV) (e : Int) : Prop := awp [0] (lpInFixed0 xs e) (lookΓ gamInFixed) Tryd.prog Tryd.f133.ntmps 0 (Tryd.f133.body.getD .skip) (entrySt [.box [.sl xs .no, .int .i64 e]]) (exitQ Tryd.prog Tryd.f133.results.toList [0] ⟨.int .u64 (val8 (tkOut (bytesL xs) e 8)), (some [.sl (bytesAV (tkRest (bytesL xs) e 8)) .no, .int .i64 (tkErr (bytesL xs).length e 8)]), none⟩)
def OkInFixed0 : Prop := ∀ (xs : List AV) (e : Int), isBytes xs → inInFixed0 xs e
def inTextF : Con
  | [.box [.sl xs .no, .int .i64 e], .val (.int .i64 m)] => some (isBytes xs, ⟨.str (inTextV (bytesL xs) e m), (some [.sl (bytesAV (inTextR (bytesL xs) e m)) .no, .int .i64 (inTextE (bytesL xs) e m)]), none⟩)
  | _ => none
def gamInText : List (Nat × Con) := [(135, inShortF.orNil), (132, takeF.orNil)]
def lpInText0 (xs : List AV) (e m : Int) : Nat → Option LoopPlan := fun _ => none
def inInText0 (xs : List AV) (e m : Int) : Prop := awp [0] (lpInText0 xs e m) (lookΓ gamInText) Tryd.prog Tryd.f134.ntmps 0 (Tryd.f134.body.getD .skip) (entrySt [.box [.sl xs .no, .int .i64 e], .val (.int .i64 m)]) (exitQ Tryd.prog Tryd.f134.results.toList [0] ⟨.str (inTextV (bytesL xs) e m), (some [.sl (bytesAV (inTextR (bytesL xs) e m)) .no, .int .i64 (inTextE (bytesL xs) e m)]), none⟩)
def OkInText0 : Prop := ∀ (xs : List AV) (e m : Int), isBytes xs → (-9223372036854775808 ≤ m ∧ m ≤ 9223372036854775807) → inInText0 xs e m
def inFailedF : Con
  | [.box [.sl xs .no, .int .i64 e]] => some (True, ⟨.bool (decide (e ≠ 0)), (some [.sl xs .no, .int .i64 e]), none⟩)
  | _ => none
def gamInFailed : List (Nat × Con) := []
def lpInFailed0 (xs : List AV) (e : Int) : Nat → Option LoopPlan := fun _ => none
def inInFailed0 (xs : List AV) (e : Int) : Prop := awp [0] (lpInFailed0 xs e) (lookΓ gamInFailed) Tryd.prog Tryd.f97.ntmps 0 (Tryd.f97.body.getD .skip) (entrySt [.box [.sl xs .no, .int .i64 e]]) (exitQ Tryd.prog Tryd.f97.results.toList [0] ⟨.bool (decide (e ≠ 0)), (some [.sl xs .no, .int .i64 e]), none⟩)
def OkInFailed0 : Prop := ∀ (xs : List AV) (e : Int), True → inInFailed0 xs e
def inLeftF : Con
  | [.box [.sl xs .no, .int .i64 e]] => some (isBytes xs, ⟨.int .i64 (inLeft (bytesL xs) e), (some [.sl xs .no, .int .i64 e]), none⟩)
  | _ => none
def gamInLeft : List (Nat × Con) := []
def lpInLeft0 (xs : List AV) (e : Int) : Nat → Option LoopPlan := fun _ => none
def inInLeft0 (xs : List AV) (e : Int) : Prop := awp [0] (lpInLeft0 xs e) (lookΓ gamInLeft) Tryd.prog Tryd.f51.ntmps 0 (Tryd.f51.body.getD .skip) (entrySt [.box [.sl xs .no, .int .i64 e]]) (exitQ Tryd.prog Tryd.f51.results.toList [0] ⟨.int .i64 (inLeft (bytesL xs) e), (some [.sl xs .no, .int .i64 e]), none⟩)
def OkInLeft0 : Prop := ∀ (xs : List AV) (e : Int), isBytes xs → inInLeft0 xs e
def inEndF : Con
  | [.box [.sl xs .no, .int .i64 e]] => some (isBytes xs, ⟨.int .i64 (inEnd (bytesL xs) e), (some [.sl xs .no, .int .i64 e]), none⟩)
  | _ => none
def gamInEnd : List (Nat × Con) := [(51, inLeftF.orNil)]
def lpInEnd0 (xs : List AV) (e : Int) : Nat → Option LoopPlan := fun _ => none
def inInEnd0 (xs : List AV) (e : Int) : Prop := awp [0] (lpInEnd0 xs e) (lookΓ gamInEnd) Tryd.prog Tryd.f91.ntmps 0 (Tryd.f91.body.getD .skip) (entrySt [.box [.sl xs .no, .int .i64 e]]) (exitQ Tryd.prog Tryd.f91.results.toList [0] ⟨.int .i64 (inEnd (bytesL xs) e), (some [.sl xs .no, .int .i64 e]), none⟩)
def OkInEnd0 : Prop := ∀ (xs : List AV) (e : Int), isBytes xs → inInEnd0 xs e
def newInF : Con
  | [.val (.sl xs .no)] => some (isBytes xs ∧ xs.length ≤ 140737488355328, ⟨.ptr 2000 0, none, (some [.sl xs .no, .int .i64 0])⟩)
  | _ => none
def gamNewIn : List (Nat × Con) := [(92, cloneF.orNil)]
def lpNewIn0 (xs : List AV) : Nat → Option LoopPlan := fun _ => none
def inNewIn0 (xs : List AV) : Prop := awp [] (lpNewIn0 xs) (lookΓ gamNewIn) Tryd.prog Tryd.f49.ntmps 0 (Tryd.f49.body.getD .skip) (entrySt [.val (.sl xs .no)]) (exitQ Tryd.prog Tryd.f49.results.toList [] ⟨.ptr 2000 0, none, (some [.sl xs .no, .int .i64 0])⟩)
def OkNewIn0 : Prop := ∀ (xs : List AV), isBytes xs ∧ xs.length ≤ 140737488355328 → inNewIn0 xs
def outByteF : Con
  | [.box [.sl xs (.row p q te0)], .val (.int .u8 b)] => if te0 = 5 then some (isBytes xs ∧ xs.length + 1 ≤ 140737488355328, ⟨.ptr 0 0, (some [.sl (bytesAV (catL (bytesL xs) (encByte b))) (.row 0 0 5)]), none⟩) else none
  | _ => none
def gamOutByte : List (Nat × Con) := []
def lpOutByte1 (xs : List AV) (p q : Nat) (b : Int) : Nat → Option LoopPlan := fun _ => none
def inOutByte1 (xs : List AV) (p q : Nat) (b : Int) : Prop := awp [0] (lpOutByte1 xs p q b) (lookΓ gamOutByte) Tryd.prog Tryd.f120.ntmps 0 (Tryd.f120.body.getD .skip) (entrySt [.box [.sl xs (.row p q 5)], .val (.int .u8 b)]) (exitQ Tryd.prog Tryd.f120.results.toList [0] ⟨.ptr 0 0, (some [.sl (bytesAV (catL (bytesL xs) (encByte b))) (.row 0 0 5)]), none⟩)
def OkOutByte1 : Prop := ∀ (xs : List AV) (p q : Nat) (b : Int), isBytes xs ∧ xs.length + 1 ≤ 140737488355328 → (0 ≤ b ∧ b ≤ 255) → inOutByte1 xs p q b
def outTruthF : Con
  | [.box [.sl xs (.row p q te0)], .val (.bool b)] => if te0 = 5 then some (isBytes xs ∧ xs.length + 1 ≤ 140737488355328, ⟨.ptr 0 0, (some [.sl (bytesAV (catL (bytesL xs) (encTruth b))) (.row 0 0 5)]), none⟩) else none
  | _ => none
def gamOutTruth : List (Nat × Con) := [(120, outByteF.orNil)]
def lpOutTruth1 (xs : List AV) (p q : Nat) (b : Bool) : Nat → Option LoopPlan := fun _ => none
def inOutTruth1 (xs : List AV) (p q : Nat) (b : Bool) : Prop := awp [0] (lpOutTruth1 xs p q b) (lookΓ gamOutTruth) Tryd.prog Tryd.f143.ntmps 0 (Tryd.f143.body.getD .skip) (entrySt [.box [.sl xs (.row p q 5)], .val (.bool b)]) (exitQ Tryd.prog Tryd.f143.results.toList [0] ⟨.ptr 0 0, (some [.sl (bytesAV (catL (bytesL xs) (encTruth b))) (.row 0 0 5)]), none⟩)
def OkOutTruth1 : Prop := ∀ (xs : List AV) (p q : Nat) (b : Bool), isBytes xs ∧ xs.length + 1 ≤ 140737488355328 → inOutTruth1 xs p q b
def outShortF : Con
  | [.box [.sl xs (.row p q te0)], .val (.int .u64 v)] => if te0 = 5 then some (isBytes xs ∧ xs.length + 10 ≤ 140737488355328, ⟨.ptr 0 0, (some [.sl (bytesAV (catL (bytesL xs) (short v.toNat))) (.row 0 0 5)]), none⟩) else none
  | _ => none
def gamOutShort : List (Nat × Con) := [(153, numShortF.orNil)]
def lpOutShort1 (xs : List AV) (p q : Nat) (v : Int) : Nat → Option LoopPlan := fun _ => none
def inOutShort1 (xs : List AV) (p q : Nat) (v : Int) : Prop := awp [0] (lpOutShort1 xs p q v) (lookΓ gamOutShort) Tryd.prog Tryd.f123.ntmps 0 (Tryd.f123.body.getD .skip) (entrySt [.box [.sl xs (.row p q 5)], .val (.int .u64 v)]) (exitQ Tryd.prog Tryd.f123.results.toList [0] ⟨.ptr 0 0, (some [.sl (bytesAV (catL (bytesL xs) (short v.toNat))) (.row 0 0 5)]), none⟩)
def OkOutShort1 : Prop := ∀ (xs : List AV) (p q : Nat) (v : Int), isBytes xs ∧ xs.length + 10 ≤ 140737488355328 → (0 ≤ v ∧ v ≤ 18446744073709551615) → inOutShort1 xs p q v
def outFixedF : Con
  | [.box [.sl xs (.row p q te0)], .val (.int .u64 v)] => if te0 = 5 then some (isBytes xs ∧ xs.length + 8 ≤ 140737488355328, ⟨.ptr 0 0, (some [.sl (bytesAV (catL (bytesL xs) (bytesOf v (cap8 8)))) (.row 0 0 5)]), none⟩) else none
  | _ => none
def gamOutFixed : List (Nat × Con) := [(152, numBytesF.orNil)]
def lpOutFixed1 (xs : List AV) (p q : Nat) (v : Int) : Nat → Option LoopPlan := fun _ => none
def inOutFixed1 (xs : List AV) (p q : Nat) (v : Int) : Prop := awp [0] (lpOutFixed1 xs p q v) (lookΓ gamOutFixed) Tryd.prog Tryd.f121.ntmps 0 (Tryd.f121.body.getD .skip) (entrySt [.box [.sl xs (.row p q 5)], .val (.int .u64 v)]) (exitQ Tryd.prog Tryd.f121.results.toList [0] ⟨.ptr 0 0, (some [.sl (bytesAV (catL (bytesL xs) (bytesOf v (cap8 8)))) (.row 0 0 5)]), none⟩)
def OkOutFixed1 : Prop := ∀ (xs : List AV) (p q : Nat) (v : Int), isBytes xs ∧ xs.length + 8 ≤ 140737488355328 → inOutFixed1 xs p q v
def outTextF : Con
  | [.box [.sl xs (.row p q te0)], .val (.str s)] => if te0 = 5 then some (isBytes xs ∧ xs.length + s.length + 10 ≤ 140737488355328, ⟨.ptr 0 0, (some [.sl (bytesAV (catL (bytesL xs) (encText s))) (.row 0 0 5)]), none⟩) else none
  | _ => none
def gamOutText : List (Nat × Con) := [(123, outShortF.orNil)]
def lpOutText1 (xs : List AV) (p q : Nat) (s : List UInt8) : Nat → Option LoopPlan := fun _ => none
def inOutText1 (xs : List AV) (p q : Nat) (s : List UInt8) : Prop := awp [0] (lpOutText1 xs p q s) (lookΓ gamOutText) Tryd.prog Tryd.f122.ntmps 0 (Tryd.f122.body.getD .skip) (entrySt [.box [.sl xs (.row p q 5)], .val (.str s)]) (exitQ Tryd.prog Tryd.f122.results.toList [0] ⟨.ptr 0 0, (some [.sl (bytesAV (catL (bytesL xs) (encText s))) (.row 0 0 5)]), none⟩)
def OkOutText1 : Prop := ∀ (xs : List AV) (p q : Nat) (s : List UInt8), isBytes xs ∧ xs.length + s.length + 10 ≤ 140737488355328 → inOutText1 xs p q s
def outBytesF : Con
  | [.box [.sl xs (.row p q te0)]] => if te0 = 5 then some (isBytes xs ∧ xs.length ≤ 140737488355328, ⟨.sl xs .no, (some [.sl xs (.row 0 0 5)]), none⟩) else none
  | _ => none
def gamOutBytes : List (Nat × Con) := [(92, cloneF.orNil)]
def lpOutBytes1 (xs : List AV) (p q : Nat) : Nat → Option LoopPlan := fun _ => none
def inOutBytes1 (xs : List AV) (p q : Nat) : Prop := awp [0] (lpOutBytes1 xs p q) (lookΓ gamOutBytes) Tryd.prog Tryd.f72.ntmps 0 (Tryd.f72.body.getD .skip) (entrySt [.box [.sl xs (.row p q 5)]]) (exitQ Tryd.prog Tryd.f72.results.toList [0] ⟨.sl xs .no, (some [.sl xs (.row 0 0 5)]), none⟩)
def OkOutBytes1 : Prop := ∀ (xs : List AV) (p q : Nat), isBytes xs ∧ xs.length ≤ 140737488355328 → inOutBytes1 xs p q
end Go.Proofs.YtcokifdgbfbonaaDoor
/- What the verification conditions come to: printed by a program of ours (wip/lax/ex/Norm.lean). -/
namespace Go.Proofs.YtcokifdgbfbonaaDoor
set_option linter.unusedVariables false
open Go.RowKit
set_option maxRecDepth 100000
theorem vcInFail0 (xs : (@List.{0} AV)) (e : Int) (c : Int) (h : (tt ∧ T1 ∧ T1 ∧ T1 ∧ tt ∧ T1 ∧ (bif (e == (0 : Int)) then (tt ∧ T1 ∧ T1 ∧ T1 ∧ T1 ∧ tt ∧ tt ∧ tt ∧ ((xs = xs) ∧ ((inFail e c) = c) ∧ True) ∧ tt) else (tt ∧ tt ∧ ((xs = xs) ∧ ((inFail e c) = e) ∧ True) ∧ tt)))) : inInFail0 xs e c :=
  Eq.mp (show _ = _ by kernel_rfl) h
theorem vcTake0 (xs : (@List.{0} AV)) (e : Int) (k : Int) (h : (tt ∧ T1 ∧ tt ∧ T1 ∧ T1 ∧ T1 ∧ tt ∧ T1 ∧ T1 ∧ (bif (e != (0 : Int)) then (tt ∧ tt ∧ T1 ∧ (T1 ∧ True) ∧ (∀ (v0 : (@List.{0} AV)), (∀ (v1 : (v0 = xs)), (∀ (v2 : Int), (∀ (v3 : (v2 = (inFail e (20 : Int)))), (tt ∧ T1 ∧ tt ∧ tt ∧ (((bytesAV (tkRest (bytesL xs) e k)) = v0) ∧ ((tkErr (List.length (bytesL xs)) e k) = v2) ∧ ((bytesAV (tkOut (bytesL xs) e k)) = (@List.nil.{0} AV)) ∧ True) ∧ tt)))))) else (T1 ∧ T1 ∧ T1 ∧ T1 ∧ tt ∧ T1 ∧ T1 ∧ T1 ∧ (bif (decide ((@Nat.cast Int _ (List.length xs)) < k)) then (tt ∧ T1 ∧ (T1 ∧ True) ∧ (∀ (v0 : (@List.{0} AV)), (∀ (v1 : (v0 = xs)), (∀ (v2 : Int), (∀ (v3 : (v2 = (inFail e (20 : Int)))), (tt ∧ T1 ∧ tt ∧ tt ∧ (((bytesAV (tkRest (bytesL xs) e k)) = v0) ∧ ((tkErr (List.length (bytesL xs)) e k) = v2) ∧ ((bytesAV (tkOut (bytesL xs) e k)) = (@List.nil.{0} AV)) ∧ True) ∧ tt)))))) else (tt ∧ T1 ∧ T1 ∧ T1 ∧ tt ∧ T1 ∧ T1 ∧ ((((0 : Int) ≤ k) ∧ (k ≤ k) ∧ (k ≤ (@Nat.cast Int _ (List.length xs)))) ∧ (okWidth 1 xs)) ∧ T1 ∧ tt ∧ T1 ∧ T1 ∧ T1 ∧ T1 ∧ tt ∧ T1 ∧ ((((0 : Int) ≤ k) ∧ (k ≤ (@Nat.cast Int _ (List.length xs)))) ∧ (okWidth 1 xs)) ∧ T1 ∧ T1 ∧ tt ∧ tt ∧ T1 ∧ T1 ∧ tt ∧ tt ∧ (((bytesAV (tkRest (bytesL xs) e k)) = (@cutL AV xs (Int.toNat k) (List.length xs))) ∧ ((tkErr (List.length (bytesL xs)) e k) = e) ∧ ((bytesAV (tkOut (bytesL xs) e k)) = (@cutL AV xs 0 (Int.toNat k))) ∧ True) ∧ tt)))))) : inTake0 xs e k :=
  Eq.mp (show _ = _ by kernel_rfl) h
theorem vcInByte0 (xs : (@List.{0} AV)) (e : Int) (h : (tt ∧ T1 ∧ tt ∧ T1 ∧ (T1 ∧ (isBytes xs) ∧ ((0 : Int) ≤ (1 : Int))) ∧ (∀ (v0 : (@List.{0} AV)), (∀ (v1 : (v0 = (bytesAV (tkOut (bytesL xs) e (1 : Int))))), (∀ (v2 : (@List.{0} AV)), (∀ (v3 : (v2 = (bytesAV (tkRest (bytesL xs) e (1 : Int))))), (∀ (v4 : Int), (∀ (v5 : (v4 = (tkErr (List.length (bytesL xs)) e (1 : Int)))), (T1 ∧ tt ∧ T1 ∧ T1 ∧ T1 ∧ (bif ((@Nat.cast Int _ (List.length v0)) == (0 : Int)) then (tt ∧ T1 ∧ tt ∧ tt ∧ (((bytesAV (tkRest (bytesL xs) e (1 : Int))) = v2) ∧ ((tkErr (List.length (bytesL xs)) e (1 : Int)) = v4) ∧ ((inByteV (bytesL xs) e) = (0 : Int)) ∧ True) ∧ tt) else (tt ∧ T1 ∧ (((0 : Int) ≤ (0 : Int)) ∧ ((0 : Int) < (@Nat.cast Int _ (List.length v0))) ∧ (okElem 1 v0 0)) ∧ (okRead [(Kd.int Go.IntKind.u8)] (elemAt v0 0) 0) ∧ T1 ∧ tt ∧ tt ∧ (((bytesAV (tkRest (bytesL xs) e (1 : Int))) = v2) ∧ ((tkErr (List.length (bytesL xs)) e (1 : Int)) = v4) ∧ ((inByteV (bytesL xs) e) = (rdInt (elemAt v0 0) 0)) ∧ True) ∧ tt))))))))))) : inInByte0 xs e :=
  Eq.mp (show _ = _ by kernel_rfl) h
theorem vcInTruth0 (xs : (@List.{0} AV)) (e : Int) (h : (tt ∧ T1 ∧ tt ∧ T1 ∧ (T1 ∧ (isBytes xs)) ∧ (∀ (v0 : Int), (∀ (v1 : (v0 = (inByteV (bytesL xs) e))), (∀ (v2 : (@List.{0} AV)), (∀ (v3 : (v2 = (bytesAV (tkRest (bytesL xs) e (1 : Int))))), (∀ (v4 : Int), (∀ (v5 : (v4 = (tkErr (List.length (bytesL xs)) e (1 : Int)))), (T1 ∧ tt ∧ T1 ∧ T1 ∧ (bif (decide ((1 : Int) < v0)) then (tt ∧ T1 ∧ (T1 ∧ True) ∧ (∀ (v6 : (@List.{0} AV)), (∀ (v7 : (v6 = v2)), (∀ (v8 : Int), (∀ (v9 : (v8 = (inFail v4 (10 : Int)))), (tt ∧ T1 ∧ T1 ∧ T1 ∧ tt ∧ T1 ∧ T1 ∧ (bif (v8 == (0 : Int)) then (T1 ∧ T1 ∧ T1 ∧ T1 ∧ tt ∧ tt ∧ (((bytesAV (tkRest (bytesL xs) e (1 : Int))) = v6) ∧ ((inTruthE (bytesL xs) e) = v8) ∧ ((inTruthV (bytesL xs) e) = (v0 == (1 : Int))) ∧ True) ∧ tt) else ((false = false) ∧ T1 ∧ tt ∧ tt ∧ (((bytesAV (tkRest (bytesL xs) e (1 : Int))) = v6) ∧ ((inTruthE (bytesL xs) e) = v8) ∧ ((inTruthV (bytesL xs) e) = false) ∧ True) ∧ tt)))))))) else (tt ∧ T1 ∧ T1 ∧ T1 ∧ tt ∧ T1 ∧ T1 ∧ (bif (v4 == (0 : Int)) then (T1 ∧ T1 ∧ T1 ∧ T1 ∧ tt ∧ tt ∧ (((bytesAV (tkRest (bytesL xs) e (1 : Int))) = v2) ∧ ((inTruthE (bytesL xs) e) = v4) ∧ ((inTruthV (bytesL xs) e) = (v0 == (1 : Int))) ∧ True) ∧ tt) else ((false = false) ∧ T1 ∧ tt ∧ tt ∧ (((bytesAV (tkRest (bytesL xs) e (1 : Int))) = v2) ∧ ((inTruthE (bytesL xs) e) = v4) ∧ ((inTruthV (bytesL xs) e) = false) ∧ True) ∧ tt))))))))))))) : inInTruth0 xs e :=
  Eq.mp (show _ = _ by kernel_rfl) h
theorem vcInShort0 (xs : (@List.{0} AV)) (e : Int) (m : Int) (h : (tt ∧ T1 ∧ tt ∧ T1 ∧ T1 ∧ T1 ∧ tt ∧ T1 ∧ (bif (e != (0 : Int)) then (tt ∧ T1 ∧ tt ∧ tt ∧ (((bytesAV (shRest (bytesL xs) e m)) = xs) ∧ ((shErr (bytesL xs) e m) = e) ∧ ((shV (bytesL xs) e m) = (0 : Int)) ∧ True) ∧ tt) else (tt ∧ T1 ∧ T1 ∧ T1 ∧ tt ∧ (T1 ∧ (isBytes xs)) ∧ (∀ (v0 : Int), (∀ (v1 : (v0 = (@Nat.cast Int _ (@Prod.fst.{0, 0} Nat (@Prod.{0, 0} Nat Nat) (rShort (bytesL xs)))))), (∀ (v2 : Int), (∀ (v3 : (v2 = (@Nat.cast Int _ (@Prod.fst.{0, 0} Nat Nat (@Prod.snd.{0, 0} Nat (@Prod.{0, 0} Nat Nat) (rShort (bytesL xs))))))), (∀ (v4 : Int), (∀ (v5 : (v4 = (@Nat.cast Int _ (@Prod.snd.{0, 0} Nat Nat (@Prod.snd.{0, 0} Nat (@Prod.{0, 0} Nat Nat) (rShort (bytesL xs))))))), (T1 ∧ T1 ∧ T1 ∧ T1 ∧ T1 ∧ T1 ∧ T1 ∧ tt ∧ T1 ∧ T1 ∧ T1 ∧ (bif (v4 != (0 : Int)) then (tt ∧ T1 ∧ T1 ∧ (T1 ∧ True) ∧ (∀ (v6 : (@List.{0} AV)), (∀ (v7 : (v6 = xs)), (∀ (v8 : Int), (∀ (v9 : (v8 = (inFail e v4))), (tt ∧ T1 ∧ tt ∧ tt ∧ (((bytesAV (shRest (bytesL xs) e m)) = v6) ∧ ((shErr (bytesL xs) e m) = v8) ∧ ((shV (bytesL xs) e m) = (0 : Int)) ∧ True) ∧ tt)))))) else (tt ∧ T1 ∧ T1 ∧ T1 ∧ T1 ∧ (bif (decide (m < v0)) then (tt ∧ T1 ∧ (T1 ∧ True) ∧ (∀ (v6 : (@List.{0} AV)), (∀ (v7 : (v6 = xs)), (∀ (v8 : Int), (∀ (v9 : (v8 = (inFail e (12 : Int)))), (tt ∧ T1 ∧ tt ∧ tt ∧ (((bytesAV (shRest (bytesL xs) e m)) = v6) ∧ ((shErr (bytesL xs) e m) = v8) ∧ ((shV (bytesL xs) e m) = (0 : Int)) ∧ True) ∧ tt)))))) else (tt ∧ T1 ∧ T1 ∧ (T1 ∧ (isBytes xs) ∧ ((0 : Int) ≤ v2)) ∧ (∀ (v6 : (@List.{0} AV)), (∀ (v7 : (v6 = (bytesAV (tkOut (bytesL xs) e v2)))), (∀ (v8 : (@List.{0} AV)), (∀ (v9 : (v8 = (bytesAV (tkRest (bytesL xs) e v2)))), (∀ (v10 : Int), (∀ (v11 : (v10 = (tkErr (List.length (bytesL xs)) e v2))), (tt ∧ T1 ∧ T1 ∧ tt ∧ tt ∧ (((bytesAV (shRest (bytesL xs) e m)) = v8) ∧ ((shErr (bytesL xs) e m) = v10) ∧ ((shV (bytesL xs) e m) = v0) ∧ True) ∧ tt)))))))))))))))))))))) : inInShort0 xs e m :=
  Eq.mp (show _ = _ by kernel_rfl) h
theorem vcInFixed0 (xs : (@List.{0} AV)) (e : Int) (h : (tt ∧ T1 ∧ tt ∧ T1 ∧ (T1 ∧ (isBytes xs) ∧ ((0 : Int) ≤ (8 : Int))) ∧ (∀ (v0 : (@List.{0} AV)), (∀ (v1 : (v0 = (bytesAV (tkOut (bytesL xs) e (8 : Int))))), (∀ (v2 : (@List.{0} AV)), (∀ (v3 : (v2 = (bytesAV (tkRest (bytesL xs) e (8 : Int))))), (∀ (v4 : Int), (∀ (v5 : (v4 = (tkErr (List.length (bytesL xs)) e (8 : Int)))), ((T1 ∧ (isBytes v0) ∧ ((8 : Int) = (8 : Int))) ∧ (∀ (v6 : Int), (∀ (v7 : (v6 = (@Nat.cast Int _ (val8 (bytesL v0))))), (∀ (v8 : Int), (∀ (v9 : (v8 = (@ite.{1} Int ((List.length (bytesL v0)) < 8) (Nat.decLt (List.length (bytesL v0)) 8) (0 : Int) (8 : Int)))), (∀ (v10 : Int), (∀ (v11 : (v10 = (@ite.{1} Int ((List.length (bytesL v0)) < 8) (Nat.decLt (List.length (bytesL v0)) 8) (20 : Int) (0 : Int)))), (T1 ∧ T1 ∧ T1 ∧ T1 ∧ T1 ∧ T1 ∧ T1 ∧ tt ∧ T1 ∧ T1 ∧ tt ∧ tt ∧ (((bytesAV (tkRest (bytesL xs) e (8 : Int))) = v2) ∧ ((tkErr (List.length (bytesL xs)) e (8 : Int)) = v4) ∧ ((@Nat.cast Int _ (val8 (tkOut (bytesL xs) e (8 : Int)))) = v6) ∧ True) ∧ tt)))))))))))))))) : inInFixed0 xs e :=
  Eq.mp (show _ = _ by kernel_rfl) h
theorem vcInText0 (xs : (@List.{0} AV)) (e : Int) (m : Int) (h : (tt ∧ T1 ∧ tt ∧ T1 ∧ T1 ∧ T1 ∧ T1 ∧ (T1 ∧ (isBytes xs)) ∧ (∀ (v0 : Int), (∀ (v1 : (v0 = (shV (bytesL xs) e (Go.IntKind.wrap Go.IntKind.u64 (@ite.{1} Int (m < (0 : Int)) (Int.decLt m (0 : Int)) (0 : Int) m))))), (∀ (v2 : (@List.{0} AV)), (∀ (v3 : (v2 = (bytesAV (shRest (bytesL xs) e (Go.IntKind.wrap Go.IntKind.u64 (@ite.{1} Int (m < (0 : Int)) (Int.decLt m (0 : Int)) (0 : Int) m)))))), (∀ (v4 : Int), (∀ (v5 : (v4 = (shErr (bytesL xs) e (Go.IntKind.wrap Go.IntKind.u64 (@ite.{1} Int (m < (0 : Int)) (Int.decLt m (0 : Int)) (0 : Int) m))))), (T1 ∧ tt ∧ T1 ∧ T1 ∧ T1 ∧ (T1 ∧ (isBytes v2) ∧ ((0 : Int) ≤ (Go.IntKind.wrap Go.IntKind.i64 v0))) ∧ (∀ (v6 : (@List.{0} AV)), (∀ (v7 : (v6 = (bytesAV (tkOut (bytesL v2) v4 (Go.IntKind.wrap Go.IntKind.i64 v0))))), (∀ (v8 : (@List.{0} AV)), (∀ (v9 : (v8 = (bytesAV (tkRest (bytesL v2) v4 (Go.IntKind.wrap Go.IntKind.i64 v0))))), (∀ (v10 : Int), (∀ (v11 : (v10 = (tkErr (List.length (bytesL v2)) v4 (Go.IntKind.wrap Go.IntKind.i64 v0)))), ((isBytes v6) ∧ T1 ∧ tt ∧ tt ∧ (((bytesAV (inTextR (bytesL xs) e m)) = v8) ∧ ((inTextE (bytesL xs) e m) = v10) ∧ ((inTextV (bytesL xs) e m) = (bytesL v6)) ∧ True) ∧ tt)))))))))))))))) : inInText0 xs e m :=
  Eq.mp (show _ = _ by kernel_rfl) h
theorem vcInFailed0 (xs : (@List.{0} AV)) (e : Int) (h : (tt ∧ T1 ∧ tt ∧ T1 ∧ T1 ∧ T1 ∧ tt ∧ T1 ∧ T1 ∧ tt ∧ tt ∧ ((xs = xs) ∧ (e = e) ∧ ((@Decidable.decide (@Ne.{1} Int e (0 : Int)) (@instDecidableNot (e = (0 : Int)) (@Int.instDecidableEq e (0 : Int)))) = (e != (0 : Int))) ∧ True) ∧ tt)) : inInFailed0 xs e :=
  Eq.mp (show _ = _ by kernel_rfl) h
theorem vcInLeft0 (xs : (@List.{0} AV)) (e : Int) (h : (tt ∧ T1 ∧ tt ∧ T1 ∧ T1 ∧ T1 ∧ tt ∧ T1 ∧ (bif (e != (0 : Int)) then (tt ∧ T1 ∧ tt ∧ tt ∧ ((xs = xs) ∧ (e = e) ∧ ((inLeft (bytesL xs) e) = (0 : Int)) ∧ True) ∧ tt) else (tt ∧ T1 ∧ T1 ∧ T1 ∧ tt ∧ T1 ∧ T1 ∧ tt ∧ tt ∧ ((xs = xs) ∧ (e = e) ∧ ((inLeft (bytesL xs) e) = (@Nat.cast Int _ (List.length xs))) ∧ True) ∧ tt)))) : inInLeft0 xs e :=
  Eq.mp (show _ = _ by kernel_rfl) h
theorem vcInEnd0 (xs : (@List.{0} AV)) (e : Int) (h : (tt ∧ T1 ∧ tt ∧ T1 ∧ (T1 ∧ (isBytes xs)) ∧ (∀ (v0 : Int), (∀ (v1 : (v0 = (inLeft (bytesL xs) e))), (∀ (v2 : (@List.{0} AV)), (∀ (v3 : (v2 = xs)), (∀ (v4 : Int), (∀ (v5 : (v4 = e)), (T1 ∧ (bif (decide ((0 : Int) < v0)) then (tt ∧ T1 ∧ tt ∧ tt ∧ ((xs = v2) ∧ (e = v4) ∧ ((inEnd (bytesL xs) e) = (21 : Int)) ∧ True) ∧ tt) else (tt ∧ T1 ∧ T1 ∧ T1 ∧ tt ∧ T1 ∧ tt ∧ tt ∧ ((xs = v2) ∧ (e = v4) ∧ ((inEnd (bytesL xs) e) = v4) ∧ True) ∧ tt))))))))))) : inInEnd0 xs e :=
  Eq.mp (show _ = _ by kernel_rfl) h
theorem vcNewIn0 (xs : (@List.{0} AV)) (h : (tt ∧ T1 ∧ tt ∧ T1 ∧ (T1 ∧ (isBytes xs) ∧ ((List.length xs) ≤ 140737488355328)) ∧ (∀ (v0 : (@List.{0} AV)), (∀ (v1 : (v0 = xs)), (∀ (v2 : Nat), (∀ (v3 : (v2 = (List.length xs))), (T1 ∧ T1 ∧ T1 ∧ tt ∧ tt ∧ ((xs = v0) ∧ ((0 : Int) = (0 : Int)) ∧ T1 ∧ True) ∧ tt))))))) : inNewIn0 xs :=
  Eq.mp (show _ = _ by kernel_rfl) h
theorem vcOutByte1 (xs : (@List.{0} AV)) (p : Nat) (q : Nat) (b : Int) (h : (tt ∧ T1 ∧ tt ∧ T1 ∧ T1 ∧ T1 ∧ T1 ∧ tt ∧ T1 ∧ T1 ∧ (((List.length xs) = (List.length xs)) ∧ ((((List.length xs) + 1) * 1) ≤ 140737488355328) ∧ (((List.length xs) + 1) ≤ 9223372036854775807) ∧ (okWidth 1 xs) ∧ (okWidth 1 [(AV.int Go.IntKind.u8 b)])) ∧ T1 ∧ T1 ∧ tt ∧ tt ∧ T1 ∧ T1 ∧ tt ∧ tt ∧ (((0 < 1) ∧ ((bytesAV (@catL UInt8 (bytesL xs) (encByte b))) = (@catL AV xs [(AV.int Go.IntKind.u8 b)])) ∧ (((List.length xs) + 1) = (List.length (@catL AV xs [(AV.int Go.IntKind.u8 b)])))) ∧ T1 ∧ True) ∧ tt)) : inOutByte1 xs p q b :=
  Eq.mp (show _ = _ by kernel_rfl) h
theorem vcOutTruth1 (xs : (@List.{0} AV)) (p : Nat) (q : Nat) (b : Bool) (h : (tt ∧ T1 ∧ tt ∧ T1 ∧ (bif b then (tt ∧ T1 ∧ ((((List.length xs) = (List.length xs)) ∧ True) ∧ (isBytes xs) ∧ (((List.length xs) + 1) ≤ 140737488355328)) ∧ (∀ (v0 : (@List.{0} AV)), (∀ (v1 : (v0 = (bytesAV (@catL UInt8 (bytesL xs) (encByte (1 : Int)))))), (∀ (v2 : Nat), (∀ (v3 : (v2 = (List.length (bytesAV (@catL UInt8 (bytesL xs) (encByte (1 : Int))))))), (T1 ∧ tt ∧ tt ∧ (((0 < 1) ∧ ((bytesAV (@catL UInt8 (bytesL xs) (encTruth b))) = v0) ∧ (v2 = (List.length v0))) ∧ T1 ∧ True) ∧ tt)))))) else (tt ∧ T1 ∧ ((((List.length xs) = (List.length xs)) ∧ True) ∧ (isBytes xs) ∧ (((List.length xs) + 1) ≤ 140737488355328)) ∧ (∀ (v0 : (@List.{0} AV)), (∀ (v1 : (v0 = (bytesAV (@catL UInt8 (bytesL xs) (encByte (0 : Int)))))), (∀ (v2 : Nat), (∀ (v3 : (v2 = (List.length (bytesAV (@catL UInt8 (bytesL xs) (encByte (0 : Int))))))), (T1 ∧ tt ∧ tt ∧ (((0 < 1) ∧ ((bytesAV (@catL UInt8 (bytesL xs) (encTruth b))) = v0) ∧ (v2 = (List.length v0))) ∧ T1 ∧ True) ∧ tt))))))))) : inOutTruth1 xs p q b :=
  Eq.mp (show _ = _ by kernel_rfl) h
theorem vcOutShort1 (xs : (@List.{0} AV)) (p : Nat) (q : Nat) (v : Int) (h : (tt ∧ T1 ∧ tt ∧ T1 ∧ T1 ∧ T1 ∧ T1 ∧ tt ∧ T1 ∧ (T1 ∧ True) ∧ (∀ (v0 : (@List.{0} AV)), (∀ (v1 : (v0 = (bytesAV (short (Int.toNat v))))), (∀ (v2 : Nat), (∀ (v3 : (v2 = (List.length (bytesAV (short (Int.toNat v)))))), ((((List.length xs) = (List.length xs)) ∧ ((((List.length xs) + (List.length v0)) * 1) ≤ 140737488355328) ∧ (((List.length xs) + (List.length v0)) ≤ 9223372036854775807) ∧ (okWidth 1 xs) ∧ (okWidth 1 v0)) ∧ T1 ∧ T1 ∧ tt ∧ tt ∧ tt ∧ T1 ∧ T1 ∧ tt ∧ tt ∧ (((0 < 1) ∧ ((bytesAV (@catL UInt8 (bytesL xs) (short (Int.toNat v)))) = (@catL AV xs v0)) ∧ (((List.length xs) + (List.length v0)) = (List.length (@catL AV xs v0)))) ∧ T1 ∧ True) ∧ tt))))))) : inOutShort1 xs p q v :=
  Eq.mp (show _ = _ by kernel_rfl) h
theorem vcOutFixed1 (xs : (@List.{0} AV)) (p : Nat) (q : Nat) (v : Int) (h : (tt ∧ T1 ∧ tt ∧ T1 ∧ T1 ∧ T1 ∧ T1 ∧ tt ∧ T1 ∧ (T1 ∧ True) ∧ (∀ (v0 : (@List.{0} AV)), (∀ (v1 : (v0 = (bytesAV (bytesOf v (cap8 (8 : Int)))))), (∀ (v2 : Nat), (∀ (v3 : (v2 = (List.length (bytesAV (bytesOf v (cap8 (8 : Int))))))), ((((List.length xs) = (List.length xs)) ∧ ((((List.length xs) + (List.length v0)) * 1) ≤ 140737488355328) ∧ (((List.length xs) + (List.length v0)) ≤ 9223372036854775807) ∧ (okWidth 1 xs) ∧ (okWidth 1 v0)) ∧ T1 ∧ T1 ∧ tt ∧ tt ∧ tt ∧ T1 ∧ T1 ∧ tt ∧ tt ∧ (((0 < 1) ∧ ((bytesAV (@catL UInt8 (bytesL xs) (bytesOf v (cap8 (8 : Int))))) = (@catL AV xs v0)) ∧ (((List.length xs) + (List.length v0)) = (List.length (@catL AV xs v0)))) ∧ T1 ∧ True) ∧ tt))))))) : inOutFixed1 xs p q v :=
  Eq.mp (show _ = _ by kernel_rfl) h
theorem vcOutText1 (xs : (@List.{0} AV)) (p : Nat) (q : Nat) (s : (List UInt8)) (h : (tt ∧ T1 ∧ tt ∧ T1 ∧ T1 ∧ T1 ∧ T1 ∧ ((((List.length xs) = (List.length xs)) ∧ True) ∧ (isBytes xs) ∧ (((List.length xs) + 10) ≤ 140737488355328)) ∧ (∀ (v0 : (@List.{0} AV)), (∀ (v1 : (v0 = (bytesAV (@catL UInt8 (bytesL xs) (short (Int.toNat (Go.IntKind.wrap Go.IntKind.u64 (@Nat.cast Int _ (List.length s))))))))), (∀ (v2 : Nat), (∀ (v3 : (v2 = (List.length (bytesAV (@catL UInt8 (bytesL xs) (short (Int.toNat (Go.IntKind.wrap Go.IntKind.u64 (@Nat.cast Int _ (List.length s)))))))))), (tt ∧ T1 ∧ T1 ∧ T1 ∧ T1 ∧ tt ∧ T1 ∧ ((v2 = (List.length v0)) ∧ ((((List.length v0) + (List.length (bytesAV s))) * 1) ≤ 140737488355328) ∧ (((List.length v0) + (List.length (bytesAV s))) ≤ 9223372036854775807) ∧ (okWidth 1 v0) ∧ (okWidth 1 (bytesAV s))) ∧ T1 ∧ T1 ∧ tt ∧ tt ∧ T1 ∧ T1 ∧ tt ∧ tt ∧ (((0 < 1) ∧ ((bytesAV (@catL UInt8 (bytesL xs) (encText s))) = (@catL AV v0 (bytesAV s))) ∧ (((List.length v0) + (List.length (bytesAV s))) = (List.length (@catL AV v0 (bytesAV s))))) ∧ T1 ∧ True) ∧ tt))))))) : inOutText1 xs p q s :=
  Eq.mp (show _ = _ by kernel_rfl) h
theorem vcOutBytes1 (xs : (@List.{0} AV)) (p : Nat) (q : Nat) (h : (tt ∧ T1 ∧ tt ∧ T1 ∧ T1 ∧ T1 ∧ tt ∧ (T1 ∧ (isBytes xs) ∧ ((List.length xs) ≤ 140737488355328)) ∧ (∀ (v0 : (@List.{0} AV)), (∀ (v1 : (v0 = xs)), (∀ (v2 : Nat), (∀ (v3 : (v2 = (List.length xs))), (T1 ∧ tt ∧ tt ∧ (((0 < 1) ∧ (xs = xs) ∧ ((List.length xs) = (List.length xs))) ∧ (xs = v0) ∧ True) ∧ tt))))))) : inOutBytes1 xs p q :=
  Eq.mp (show _ = _ by kernel_rfl) h
end Go.Proofs.YtcokifdgbfbonaaDoor
/- The conditions of wire's code hold. -/
namespace Go.Proofs.YtcokifdgbfbonaaDoor
set_option linter.unusedVariables false
set_option linter.unusedSimpArgs false
open Go.RowKit

theorem cutL_to {α : Type} (l : List α) (k : Nat) : cutL l 0 k = l.take k := by simp [cutL]
theorem cutL_from {α : Type} (l : List α) (k : Nat) : cutL l k l.length = l.drop k := by simp [cutL]
theorem catL_cons (l : List UInt8) (b : UInt8) : catL (bytesAV l) [byteAV b] = bytesAV (catL l [b]) := by simp [catL, bytesAV]
theorem catL_bytes' (l m : List UInt8) : catL (bytesAV l) (bytesAV m) = bytesAV (catL l m) := by simp [catL, bytesAV]
theorem catL_assoc {α : Type} (l m k : List α) : catL (catL l m) k = catL l (catL m k) := by simp [catL]
theorem short_le10 {v : Int} (h0 : 0 ≤ v) (h1 : v ≤ 18446744073709551615) : (short v.toNat).length ≤ 10 := short_len64 _ (by omega)

theorem okInFail0 : OkInFail0 := by
  intro xs e c hq
  refine vcInFail0 xs e c ?_
  simp only [true_and, and_true, forall_eq, eq_self]
  refine cond_prop (fun h => ?_) fun h => ?_
  · simp [inFail] at h ⊢; omega
  · simp [inFail] at h ⊢; omega
theorem tk_fail {n : Nat} {e k : Int} (h : tkOK n e k = false) (l : List UInt8) (hl : l.length = n) : tkRest l e k = l ∧ tkErr n e k = inFail e 20 ∧ tkOut l e k = [] := by
  subst hl
  simp [tkRest, tkErr, tkOut, h]
theorem tk_ok {n : Nat} {e k : Int} (h : tkOK n e k = true) (l : List UInt8) (hl : l.length = n) : tkRest l e k = l.drop k.toNat ∧ tkErr n e k = e ∧ tkOut l e k = l.take k.toNat := by
  subst hl
  simp [tkRest, tkErr, tkOut, h]
theorem okTake0 : OkTake0 := by
  intro xs e k hq
  refine vcTake0 xs e k ?_
  simp only [true_and, and_true, forall_eq, eq_self]
  obtain ⟨hb, hk⟩ := hq
  obtain ⟨l, rfl⟩ := hb.get
  simp only [bytesL_bytesAV, length_bytesAV, cutL_bytes]
  refine cond_prop (fun h => ?_) fun h => cond_prop (fun h' => ?_) fun h' => ?_
  · have := tk_fail (n := l.length) (e := e) (k := k) (by simp [tkOK] at h ⊢; omega) l rfl
    rw [this.1, this.2.1, this.2.2]; exact ⟨rfl, rfl, rfl⟩
  · have := tk_fail (n := l.length) (e := e) (k := k) (by simp [tkOK] at h' ⊢; omega) l rfl
    rw [this.1, this.2.1, this.2.2]; exact ⟨rfl, rfl, rfl⟩
  · have := tk_ok (n := l.length) (e := e) (k := k) (by simp [tkOK] at h h' ⊢; omega) l rfl
    rw [this.1, this.2.1, this.2.2]
    simp at h'
    rw [cutL_from, cutL_to]
    exact ⟨⟨⟨hk, by omega, h'⟩, okWidth_bytes l⟩, ⟨⟨hk, h'⟩, okWidth_bytes l⟩, rfl, rfl, rfl⟩
theorem okInByte0 : OkInByte0 := by
  intro xs e hq
  refine vcInByte0 xs e ?_
  simp only [true_and, and_true, forall_eq, eq_self]
  obtain ⟨l, rfl⟩ := hq.get
  simp only [bytesL_bytesAV, length_bytesAV, rdInt_bytes]
  refine ⟨⟨isBytes_bytesAV l, by omega⟩, cond_prop (fun h => ?_) fun h => ?_⟩
  · have : tkOut l e 1 = [] := by simpa using h
    simp [inByteV, this]
  · have : 0 < (tkOut l e 1).length := by
      simp at h
      exact List.length_pos_iff.2 h
    exact ⟨⟨by omega, by omega, okElem_bytes this⟩, okRead_bytes this, rfl⟩
theorem okInTruth0 : OkInTruth0 := by
  intro xs e hq
  refine vcInTruth0 xs e ?_
  simp only [true_and, and_true, forall_eq, eq_self]
  refine ⟨hq, cond_prop (fun h => cond_prop (fun h' => ?_) fun h' => ?_) fun h => cond_prop (fun h' => ?_) fun h' => ?_⟩
  all_goals
    simp only [decide_eq_true_eq, decide_eq_false_iff_not, beq_iff_eq, beq_eq_false_iff_ne, ne_eq] at h h'
    simp [inTruthE, inTruthV, h, h']
theorem okInShort0 : OkInShort0 := by
  intro xs e m hq
  refine vcInShort0 xs e m ?_
  simp only [true_and, and_true, forall_eq, eq_self]
  obtain ⟨l, rfl⟩ := hq.get
  simp only [bytesL_bytesAV, length_bytesAV]
  refine cond_prop (fun h => ?_) fun h => ⟨hq, cond_prop (fun h' => ?_) fun h' => cond_prop (fun h'' => ?_) fun h'' => ?_⟩
  · simp at h; simp [shRest, shErr, shV, h]
  · simp at h h'; simp [shRest, shErr, shV, h, h', inFail]
  · simp at h h' h''; simp [shRest, shErr, shV, h, h', h'', inFail]
  · simp at h h' h''
    have hr := rShort_reads (l := l) (v := (rShort l).1) (n := (rShort l).2.1) (by rw [← h'])
    have hok : tkOK l.length e ((rShort l).2.1 : Int) = true := by simp [tkOK, h]; exact hr.1
    have := tk_ok hok l rfl
    rw [this.1, this.2.1]
    have hm : ¬ m < ((rShort l).1 : Int) := by omega
    refine ⟨⟨hq, by omega⟩, ?_⟩
    simp [shRest, shErr, shV, h, h', hm]
theorem okInFixed0 : OkInFixed0 := by
  intro xs e hq
  refine vcInFixed0 xs e ?_
  simp only [true_and, and_true, forall_eq, eq_self]
  simp only [bytesL_bytesAV]
  exact ⟨⟨hq, by omega⟩, isBytes_bytesAV _, trivial⟩
theorem shV_range (l : List UInt8) (e m : Int) (hm : 0 ≤ m) : 0 ≤ shV l e m ∧ shV l e m ≤ m := by
  unfold shV
  split
  · omega
  · split
    · omega
    · split <;> omega
theorem okInText0 : OkInText0 := by
  intro xs e m hq hm
  refine vcInText0 xs e m ?_
  simp only [true_and, and_true, forall_eq, eq_self]
  have e1 : IntKind.u64.wrap (if m < 0 then 0 else m) = most0 m := by
    unfold most0
    split
    · rfl
    · rw [wrap_u64 (by omega) (by omega)]
  have h0 : 0 ≤ most0 m ∧ most0 m ≤ 9223372036854775807 := by unfold most0; split <;> omega
  have hr := shV_range (bytesL xs) e (most0 m) h0.1
  have e2 : IntKind.i64.wrap (shV (bytesL xs) e (most0 m)) = shV (bytesL xs) e (most0 m) := wrap_i64 (by omega) (by omega)
  simp only [e1, e2, bytesL_bytesAV]
  exact ⟨hq, ⟨isBytes_bytesAV _, hr.1⟩, isBytes_bytesAV _, rfl, rfl, rfl⟩
theorem okInFailed0 : OkInFailed0 := by
  intro xs e hq
  refine vcInFailed0 xs e ?_
  simp only [true_and, and_true, forall_eq, eq_self]
  rw [Bool.eq_iff_iff]; simp
theorem okInLeft0 : OkInLeft0 := by
  intro xs e hq
  refine vcInLeft0 xs e ?_
  simp only [true_and, and_true, forall_eq, eq_self]
  obtain ⟨l, rfl⟩ := hq.get
  simp only [bytesL_bytesAV, length_bytesAV]
  refine cond_prop (fun h => ?_) fun h => ?_
  · simp at h; simp [inLeft, h]
  · simp at h; simp [inLeft, h]
theorem okInEnd0 : OkInEnd0 := by
  intro xs e hq
  refine vcInEnd0 xs e ?_
  simp only [true_and, and_true, forall_eq, eq_self]
  refine ⟨hq, cond_prop (fun h => ?_) fun h => ?_⟩
  · simp at h; simp [inEnd, h]
  · simp at h
    have : ¬ 0 < inLeft (bytesL xs) e := by omega
    simp [inEnd, this]
theorem okNewIn0 : OkNewIn0 := by
  intro xs hq
  refine vcNewIn0 xs ?_
  simp only [true_and, and_true, forall_eq, eq_self]
  exact hq
theorem okOutByte1 : OkOutByte1 := by
  intro xs p q b hq hb
  refine vcOutByte1 xs p q b ?_
  simp only [true_and, and_true, forall_eq, eq_self]
  obtain ⟨hq, hl⟩ := hq
  obtain ⟨l, rfl⟩ := hq.get
  rw [byte_int hb.1 hb.2]
  simp only [bytesL_bytesAV, length_bytesAV, catL_cons, catL_length] at hl ⊢
  exact ⟨⟨by omega, by omega, okWidth_bytes l, okWidth_cons rfl (okWidth_nil 1)⟩, by omega, rfl, by simp⟩
theorem okOutTruth1 : OkOutTruth1 := by
  intro xs p q b hq
  refine vcOutTruth1 xs p q b ?_
  simp only [true_and, and_true, forall_eq, eq_self]
  cases b
  · exact ⟨hq, by omega, rfl⟩
  · exact ⟨hq, by omega, rfl⟩
theorem okOutShort1 : OkOutShort1 := by
  intro xs p q v hq hv
  refine vcOutShort1 xs p q v ?_
  simp only [true_and, and_true, forall_eq, eq_self, length_bytesAV]
  obtain ⟨hq, hl⟩ := hq
  obtain ⟨l, rfl⟩ := hq.get
  have := short_le10 hv.1 hv.2
  simp only [bytesL_bytesAV, length_bytesAV, catL_bytes', catL_length] at hl ⊢
  exact ⟨⟨by omega, by omega, okWidth_bytes _, okWidth_bytes _⟩, by omega, trivial, trivial⟩
theorem bytesOf8 (v : Int) : (bytesOf v 8).length = 8 := bytesOf_len v 8
theorem okOutFixed1 : OkOutFixed1 := by
  intro xs p q v hq
  refine vcOutFixed1 xs p q v ?_
  simp only [true_and, and_true, forall_eq, eq_self, length_bytesAV]
  obtain ⟨hq, hl⟩ := hq
  obtain ⟨l, rfl⟩ := hq.get
  have e8 : cap8 8 = 8 := rfl
  simp only [bytesL_bytesAV, length_bytesAV, catL_bytes', catL_length, bytesOf8, e8] at hl ⊢
  exact ⟨⟨by omega, by omega, okWidth_bytes _, okWidth_bytes _⟩, by omega, trivial, trivial⟩
theorem okOutText1 : OkOutText1 := by
  intro xs p q s hq
  refine vcOutText1 xs p q s ?_
  obtain ⟨hq, hl⟩ := hq
  obtain ⟨l, rfl⟩ := hq.get
  have e1 : IntKind.u64.wrap (s.length : Int) = s.length := wrap_u64 (by omega) (by omega)
  have := short_le10 (v := (s.length : Int)) (by omega) (by omega)
  rw [e1]
  simp only [true_and, and_true, forall_eq, eq_self, length_bytesAV, bytesL_bytesAV, catL_bytes', catL_length, Int.toNat_natCast] at this hl ⊢
  refine ⟨⟨hq, by omega⟩, ⟨by omega, by omega, okWidth_bytes _, okWidth_bytes _⟩, by omega, ?_⟩
  rw [catL_assoc]; rfl
theorem okOutBytes1 : OkOutBytes1 := by
  intro xs p q hq
  refine vcOutBytes1 xs p q ?_
  simp only [true_and, and_true, forall_eq, eq_self]
  exact ⟨hq, by omega⟩
end Go.Proofs.YtcokifdgbfbonaaDoor
/- The contracts are met. -/
namespace Go.Proofs.YtcokifdgbfbonaaDoor
set_option linter.unusedVariables false
set_option linter.unusedSimpArgs false
open Go.RowKit
theorem sndInFail : Sound Tryd.prog (lookΓ gamInFail) := sound_of _ fun p hp => by
  simp [gamInFail] at hp
theorem meetsInFail : Meets Tryd.prog 95 inFailF := by
  refine meets_of_awp (Γ := lookΓ gamInFail) (L := fun args => match args with | [.box [.sl xs .no, .int .i64 e], .val (.int .i64 c)] => lpInFail0 xs e c | _ => fun _ => none) sndInFail mixedOrders Tryd.func95 rfl Tryd.call95 ?_
  intro args q r hF hq ho
  unfold inFailF at hF
  split at hF
  · cases hF
    exact ⟨by simp only [List.length_cons, List.length_nil]; decide, okInFail0 _ _ _ hq⟩
  · cases hF
theorem sndTake : Sound Tryd.prog (lookΓ gamTake) := sound_of _ fun p hp => by
  simp only [gamTake, List.mem_cons, List.not_mem_nil, or_false] at hp
  subst hp
  exact meetsInFail.orNil
theorem meetsTake : Meets Tryd.prog 132 takeF := by
  refine meets_of_awp (Γ := lookΓ gamTake) (L := fun args => match args with | [.box [.sl xs .no, .int .i64 e], .val (.int .i64 k)] => lpTake0 xs e k | _ => fun _ => none) sndTake mixedOrders Tryd.func132 rfl Tryd.call132 ?_
  intro args q r hF hq ho
  unfold takeF at hF
  split at hF
  · cases hF
    exact ⟨by simp only [List.length_cons, List.length_nil]; decide, okTake0 _ _ _ hq⟩
  · cases hF
theorem sndInByte : Sound Tryd.prog (lookΓ gamInByte) := sound_of _ fun p hp => by
  simp only [gamInByte, List.mem_cons, List.not_mem_nil, or_false] at hp
  subst hp
  exact meetsTake.orNil
theorem meetsInByte : Meets Tryd.prog 93 inByteF := by
  refine meets_of_awp (Γ := lookΓ gamInByte) (L := fun args => match args with | [.box [.sl xs .no, .int .i64 e]] => lpInByte0 xs e | _ => fun _ => none) sndInByte mixedOrders Tryd.func93 rfl Tryd.call93 ?_
  intro args q r hF hq ho
  unfold inByteF at hF
  split at hF
  · cases hF
    exact ⟨by simp only [List.length_cons, List.length_nil]; decide, okInByte0 _ _ hq⟩
  · cases hF
theorem sndInTruth : Sound Tryd.prog (lookΓ gamInTruth) := sound_of _ fun p hp => by
  simp only [gamInTruth, List.mem_cons, List.not_mem_nil, or_false] at hp
  rcases hp with rfl | rfl
  · exact meetsInByte.orNil
  · exact meetsInFail.orNil
theorem meetsInTruth : Meets Tryd.prog 111 inTruthF := by
  refine meets_of_awp (Γ := lookΓ gamInTruth) (L := fun args => match args with | [.box [.sl xs .no, .int .i64 e]] => lpInTruth0 xs e | _ => fun _ => none) sndInTruth mixedOrders Tryd.func111 rfl Tryd.call111 ?_
  intro args q r hF hq ho
  unfold inTruthF at hF
  split at hF
  · cases hF
    exact ⟨by simp only [List.length_cons, List.length_nil]; decide, okInTruth0 _ _ hq⟩
  · cases hF
theorem sndInShort : Sound Tryd.prog (lookΓ gamInShort) := sound_of _ fun p hp => by
  simp only [gamInShort, List.mem_cons, List.not_mem_nil, or_false] at hp
  rcases hp with rfl | rfl | rfl
  · exact meetsReadShort.orNil
  · exact meetsInFail.orNil
  · exact meetsTake.orNil
theorem meetsInShort : Meets Tryd.prog 135 inShortF := by
  refine meets_of_awp (Γ := lookΓ gamInShort) (L := fun args => match args with | [.box [.sl xs .no, .int .i64 e], .val (.int .u64 m)] => lpInShort0 xs e m | _ => fun _ => none) sndInShort mixedOrders Tryd.func135 rfl Tryd.call135 ?_
  intro args q r hF hq ho
  unfold inShortF at hF
  split at hF
  · cases hF
    exact ⟨by simp only [List.length_cons, List.length_nil]; decide, okInShort0 _ _ _ hq⟩
  · cases hF
theorem sndInFixed : Sound Tryd.prog (lookΓ gamInFixed) := sound_of _ fun p hp => by
  simp only [gamInFixed, List.mem_cons, List.not_mem_nil, or_false] at hp
  rcases hp with rfl | rfl
  · exact meetsTake.orNil
  · exact meetsNumRead.orNil
theorem meetsInFixed : Meets Tryd.prog 133 inFixedF := by
  refine meets_of_awp (Γ := lookΓ gamInFixed) (L := fun args => match args with | [.box [.sl xs .no, .int .i64 e]] => lpInFixed0 xs e | _ => fun _ => none) sndInFixed mixedOrders Tryd.func133 rfl Tryd.call133 ?_
  intro args q r hF hq ho
  unfold inFixedF at hF
  split at hF
  · cases hF
    exact ⟨by simp only [List.length_cons, List.length_nil]; decide, okInFixed0 _ _ hq⟩
  · cases hF
theorem sndInText : Sound Tryd.prog (lookΓ gamInText) := sound_of _ fun p hp => by
  simp only [gamInText, List.mem_cons, List.not_mem_nil, or_false] at hp
  rcases hp with rfl | rfl
  · exact meetsInShort.orNil
  · exact meetsTake.orNil
theorem meetsInText : Meets Tryd.prog 134 inTextF := by
  refine meets_of_awp (Γ := lookΓ gamInText) (L := fun args => match args with | [.box [.sl xs .no, .int .i64 e], .val (.int .i64 m)] => lpInText0 xs e m | _ => fun _ => none) sndInText mixedOrders Tryd.func134 rfl Tryd.call134 ?_
  intro args q r hF hq ho
  unfold inTextF at hF
  split at hF
  · cases hF
    exact ⟨by simp only [List.length_cons, List.length_nil]; decide, okInText0 _ _ _ hq (okay_i64 (argI 1 ho rfl rfl))⟩
  · cases hF
theorem sndInFailed : Sound Tryd.prog (lookΓ gamInFailed) := sound_of _ fun p hp => by
  simp [gamInFailed] at hp
theorem meetsInFailed : Meets Tryd.prog 97 inFailedF := by
  refine meets_of_awp (Γ := lookΓ gamInFailed) (L := fun args => match args with | [.box [.sl xs .no, .int .i64 e]] => lpInFailed0 xs e | _ => fun _ => none) sndInFailed mixedOrders Tryd.func97 rfl Tryd.call97 ?_
  intro args q r hF hq ho
  unfold inFailedF at hF
  split at hF
  · cases hF
    exact ⟨by simp only [List.length_cons, List.length_nil]; decide, okInFailed0 _ _ hq⟩
  · cases hF
theorem sndInLeft : Sound Tryd.prog (lookΓ gamInLeft) := sound_of _ fun p hp => by
  simp [gamInLeft] at hp
theorem meetsInLeft : Meets Tryd.prog 51 inLeftF := by
  refine meets_of_awp (Γ := lookΓ gamInLeft) (L := fun args => match args with | [.box [.sl xs .no, .int .i64 e]] => lpInLeft0 xs e | _ => fun _ => none) sndInLeft mixedOrders Tryd.func51 rfl Tryd.call51 ?_
  intro args q r hF hq ho
  unfold inLeftF at hF
  split at hF
  · cases hF
    exact ⟨by simp only [List.length_cons, List.length_nil]; decide, okInLeft0 _ _ hq⟩
  · cases hF
theorem sndInEnd : Sound Tryd.prog (lookΓ gamInEnd) := sound_of _ fun p hp => by
  simp only [gamInEnd, List.mem_cons, List.not_mem_nil, or_false] at hp
  subst hp
  exact meetsInLeft.orNil
theorem meetsInEnd : Meets Tryd.prog 91 inEndF := by
  refine meets_of_awp (Γ := lookΓ gamInEnd) (L := fun args => match args with | [.box [.sl xs .no, .int .i64 e]] => lpInEnd0 xs e | _ => fun _ => none) sndInEnd mixedOrders Tryd.func91 rfl Tryd.call91 ?_
  intro args q r hF hq ho
  unfold inEndF at hF
  split at hF
  · cases hF
    exact ⟨by simp only [List.length_cons, List.length_nil]; decide, okInEnd0 _ _ hq⟩
  · cases hF
theorem sndNewIn : Sound Tryd.prog (lookΓ gamNewIn) := sound_of _ fun p hp => by
  simp only [gamNewIn, List.mem_cons, List.not_mem_nil, or_false] at hp
  subst hp
  exact meetsClone.orNil
theorem meetsNewIn : Meets Tryd.prog 49 newInF := by
  refine meets_of_awp (Γ := lookΓ gamNewIn) (L := fun args => match args with | [.val (.sl xs .no)] => lpNewIn0 xs | _ => fun _ => none) sndNewIn mixedOrders Tryd.func49 rfl Tryd.call49 ?_
  intro args q r hF hq ho
  unfold newInF at hF
  split at hF
  · cases hF
    exact ⟨by simp only [List.length_cons, List.length_nil]; decide, okNewIn0 _ hq⟩
  · cases hF
theorem sndOutByte : Sound Tryd.prog (lookΓ gamOutByte) := sound_of _ fun p hp => by
  simp [gamOutByte] at hp
theorem meetsOutByte : Meets Tryd.prog 120 outByteF := by
  refine meets_of_awp (Γ := lookΓ gamOutByte) (L := fun args => match args with | [.box [.sl xs (.row p q te0)], .val (.int .u8 b)] => lpOutByte1 xs p q b | _ => fun _ => none) sndOutByte mixedOrders Tryd.func120 rfl Tryd.call120 ?_
  intro args q r hF hq ho
  unfold outByteF at hF
  split at hF
  · split at hF
    · rename_i hte
      subst hte
      cases hF
      exact ⟨by simp only [List.length_cons, List.length_nil]; decide, okOutByte1 _ _ _ _ hq (okay_u8 (argI 1 ho rfl rfl))⟩
    · cases hF
  · cases hF
theorem sndOutTruth : Sound Tryd.prog (lookΓ gamOutTruth) := sound_of _ fun p hp => by
  simp only [gamOutTruth, List.mem_cons, List.not_mem_nil, or_false] at hp
  subst hp
  exact meetsOutByte.orNil
theorem meetsOutTruth : Meets Tryd.prog 143 outTruthF := by
  refine meets_of_awp (Γ := lookΓ gamOutTruth) (L := fun args => match args with | [.box [.sl xs (.row p q te0)], .val (.bool b)] => lpOutTruth1 xs p q b | _ => fun _ => none) sndOutTruth mixedOrders Tryd.func143 rfl Tryd.call143 ?_
  intro args q r hF hq ho
  unfold outTruthF at hF
  split at hF
  · split at hF
    · rename_i hte
      subst hte
      cases hF
      exact ⟨by simp only [List.length_cons, List.length_nil]; decide, okOutTruth1 _ _ _ _ hq⟩
    · cases hF
  · cases hF
theorem sndOutShort : Sound Tryd.prog (lookΓ gamOutShort) := sound_of _ fun p hp => by
  simp only [gamOutShort, List.mem_cons, List.not_mem_nil, or_false] at hp
  subst hp
  exact meetsNumShort.orNil
theorem meetsOutShort : Meets Tryd.prog 123 outShortF := by
  refine meets_of_awp (Γ := lookΓ gamOutShort) (L := fun args => match args with | [.box [.sl xs (.row p q te0)], .val (.int .u64 v)] => lpOutShort1 xs p q v | _ => fun _ => none) sndOutShort mixedOrders Tryd.func123 rfl Tryd.call123 ?_
  intro args q r hF hq ho
  unfold outShortF at hF
  split at hF
  · split at hF
    · rename_i hte
      subst hte
      cases hF
      exact ⟨by simp only [List.length_cons, List.length_nil]; decide, okOutShort1 _ _ _ _ hq (okay_u64 (argI 1 ho rfl rfl))⟩
    · cases hF
  · cases hF
theorem sndOutFixed : Sound Tryd.prog (lookΓ gamOutFixed) := sound_of _ fun p hp => by
  simp only [gamOutFixed, List.mem_cons, List.not_mem_nil, or_false] at hp
  subst hp
  exact meetsNumBytes.orNil
theorem meetsOutFixed : Meets Tryd.prog 121 outFixedF := by
  refine meets_of_awp (Γ := lookΓ gamOutFixed) (L := fun args => match args with | [.box [.sl xs (.row p q te0)], .val (.int .u64 v)] => lpOutFixed1 xs p q v | _ => fun _ => none) sndOutFixed mixedOrders Tryd.func121 rfl Tryd.call121 ?_
  intro args q r hF hq ho
  unfold outFixedF at hF
  split at hF
  · split at hF
    · rename_i hte
      subst hte
      cases hF
      exact ⟨by simp only [List.length_cons, List.length_nil]; decide, okOutFixed1 _ _ _ _ hq⟩
    · cases hF
  · cases hF
theorem sndOutText : Sound Tryd.prog (lookΓ gamOutText) := sound_of _ fun p hp => by
  simp only [gamOutText, List.mem_cons, List.not_mem_nil, or_false] at hp
  subst hp
  exact meetsOutShort.orNil
theorem meetsOutText : Meets Tryd.prog 122 outTextF := by
  refine meets_of_awp (Γ := lookΓ gamOutText) (L := fun args => match args with | [.box [.sl xs (.row p q te0)], .val (.str s)] => lpOutText1 xs p q s | _ => fun _ => none) sndOutText mixedOrders Tryd.func122 rfl Tryd.call122 ?_
  intro args q r hF hq ho
  unfold outTextF at hF
  split at hF
  · split at hF
    · rename_i hte
      subst hte
      cases hF
      exact ⟨by simp only [List.length_cons, List.length_nil]; decide, okOutText1 _ _ _ _ hq⟩
    · cases hF
  · cases hF
theorem sndOutBytes : Sound Tryd.prog (lookΓ gamOutBytes) := sound_of _ fun p hp => by
  simp only [gamOutBytes, List.mem_cons, List.not_mem_nil, or_false] at hp
  subst hp
  exact meetsClone.orNil
theorem meetsOutBytes : Meets Tryd.prog 72 outBytesF := by
  refine meets_of_awp (Γ := lookΓ gamOutBytes) (L := fun args => match args with | [.box [.sl xs (.row p q te0)]] => lpOutBytes1 xs p q | _ => fun _ => none) sndOutBytes mixedOrders Tryd.func72 rfl Tryd.call72 ?_
  intro args q r hF hq ho
  unfold outBytesF at hF
  split at hF
  · split at hF
    · rename_i hte
      subst hte
      cases hF
      exact ⟨by simp only [List.length_cons, List.length_nil]; decide, okOutBytes1 _ _ _ hq⟩
    · cases hF
  · cases hF
end Go.Proofs.YtcokifdgbfbonaaDoor
