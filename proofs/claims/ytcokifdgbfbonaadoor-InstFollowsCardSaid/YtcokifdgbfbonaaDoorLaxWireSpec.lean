/- Contracts by content, and the conditions that their code must meet. -/
import Derived.Test.YtcokifdgbfbonaaDoorLaxClone
import Derived.Test.YtcokifdgbfbonaaDoorLaxNumP
import Derived.Test.YtcokifdgbfbonaaDoorLaxWrap
namespace Go.Proofs.YtcokifdgbfbonaaDoor
set_option linter.unusedVariables false
set_option linter.unusedSimpArgs false
open Go.RowKit
/-- the first error stays -/
def inFail (e c : Int) : Int := if e = 0 then c else e
def tkOK (n : Nat) (e k : Int) : Bool := decide (e = 0 ∧ k ≤ n)
def tkOut (l : List UInt8) (e k : Int) : List UInt8 := if tkOK l.length e k then l.take k.toNat else []
def tkRest (l : List UInt8) (e k : Int) : List UInt8 := if tkOK l.length e k then l.drop k.toNat else l
def tkErr (n : Nat) (e k : Int) : Int := if tkOK n e k then e else inFail e 20
def inByteV (l : List UInt8) (e : Int) : Int := ((tkOut l e 1).getD 0 0).toNat
def inTruthE (l : List UInt8) (e : Int) : Int := if 1 < inByteV l e then inFail (tkErr l.length e 1) 10 else tkErr l.length e 1
def inTruthV (l : List UInt8) (e : Int) : Bool := decide (inTruthE l e = 0) && (inByteV l e == 1)
/-- a short number: its value, what is left, the error -/
def shV (l : List UInt8) (e m : Int) : Int := if e ≠ 0 then 0 else if (rShort l).2.2 ≠ 0 then 0 else if m < (rShort l).1 then 0 else (rShort l).1
def shRest (l : List UInt8) (e m : Int) : List UInt8 := if e ≠ 0 then l else if (rShort l).2.2 ≠ 0 then l else if m < (rShort l).1 then l else l.drop (rShort l).2.1
def shErr (l : List UInt8) (e m : Int) : Int := if e ≠ 0 then e else if (rShort l).2.2 ≠ 0 then (rShort l).2.2 else if m < (rShort l).1 then 12 else 0
def most0 (m : Int) : Int := if m < 0 then 0 else m
def inTextV (l : List UInt8) (e m : Int) : List UInt8 := tkOut (shRest l e (most0 m)) (shErr l e (most0 m)) (shV l e (most0 m))
def inTextR (l : List UInt8) (e m : Int) : List UInt8 := tkRest (shRest l e (most0 m)) (shErr l e (most0 m)) (shV l e (most0 m))
def inTextE (l : List UInt8) (e m : Int) : Int := tkErr (shRest l e (most0 m)).length (shErr l e (most0 m)) (shV l e (most0 m))
def inLeft (l : List UInt8) (e : Int) : Int := if e ≠ 0 then 0 else l.length
def inEnd (l : List UInt8) (e : Int) : Int := if 0 < inLeft l e then 21 else e
def encByte (b : Int) : List UInt8 := [UInt8.ofNat b.toNat]
def encTruth (b : Bool) : List UInt8 := [if b then 1 else 0]
def encText (s : List UInt8) : List UInt8 := short s.length ++ s
def inFailF : Con
  | [.box [.sl xs .no, .int .i64 e], .val (.int .i64 c)] => some (True, ⟨.tup [], (some [.sl xs .no, .int .i64 (inFail e c)]), none⟩)
  | _ => none
def gamInFail : List (Nat × Con) := []
def lpInFail0 (xs : List AV) (e c : Int) : Nat → Option LoopPlan := fun _ => none
def inInFail0 (xs : List AV) (e c : Int) : Prop := awp [0] (lpInFail0 xs e c) (lookΓ gamInFail) Tryd.prog Tryd.f95.ntmps 0 (Tryd.f95.body.getD .skip) (entrySt [.box [.sl xs .no, .int .i64 e], .val (.int .i64 c)]) (exitQ Tryd.prog Tryd.f95.results.toList [0] ⟨.tup [], (some [.sl xs .no, .int .i64 (inFail e c)]), none⟩)
def OkInFail0 : Prop := ∀ (xs : List AV) (e c : Int), True → inInFail0 xs e c
def takeF : Con
  | [.box [.sl xs .no, .int .i64 e], .val (.int .i64 k)] => some (isBytes xs ∧ 0 ≤ k, ⟨.sl (bytesAV (tkOut (bytesL xs) e k)) .no, (some [.sl (bytesAV (tkRest (bytesL xs) e k)) .no, .int .i64 (tkErr (bytesL xs).length e k)]), none⟩)
  | _ => none
def gamTake : List (Nat × Con) := [(95, inFailF.orNil)]
def lpTake0 (xs : List AV) (e k : Int) : Nat → Option LoopPlan := fun _ => none
def inTake0 (xs : List AV) (e k : Int) : Prop := awp [0] (lpTake0 xs e k) (lookΓ gamTake) Tryd.prog Tryd.f132.ntmps 0 (Tryd.f132.body.getD .skip) (entrySt [.box [.sl xs .no, .int .i64 e], .val (.int .i64 k)]) (exitQ Tryd.prog Tryd.f132.results.toList [0] ⟨.sl (bytesAV (tkOut (bytesL xs) e k)) .no, (some [.sl (bytesAV (tkRest (bytesL xs) e k)) .no, .int .i64 (tkErr (bytesL xs).length e k)]), none⟩)
def OkTake0 : Prop := ∀ (xs : List AV) (e k : Int), isBytes xs ∧ 0 ≤ k → inTake0 xs e k
def inByteF : Con
  | [.box [.sl xs .no, .int .i64 e]] => some (isBytes xs, ⟨.int .u8 (inByteV (bytesL xs) e), (some [.sl (bytesAV (tkRest (bytesL xs) e 1)) .no, .int .i64 (tkErr (bytesL xs).length e 1)]), none⟩)
  | _ => none
def gamInByte : List (Nat × Con) := [(132, takeF.orNil)]
def lpInByte0 (xs : List AV) (e : Int) : Nat → Option LoopPlan := fun _ => none
def inInByte0 (xs : List AV) (e : Int) : Prop := awp [0] (lpInByte0 xs e) (lookΓ gamInByte) Tryd.prog Tryd.f93.ntmps 0 (Tryd.f93.body.getD .skip) (entrySt [.box [.sl xs .no, .int .i64 e]]) (exitQ Tryd.prog Tryd.f93.results.toList [0] ⟨.int .u8 (inByteV (bytesL xs) e), (some [.sl (bytesAV (tkRest (bytesL xs) e 1)) .no, .int .i64 (tkErr (bytesL xs).length e 1)]), none⟩)
def OkInByte0 : Prop := ∀ (xs : List AV) (e : Int), isBytes xs → inInByte0 xs e
def inTruthF : Con
  | [.box [.sl xs .no, .int .i64 e]] => some (isBytes xs, ⟨.bool (inTruthV (bytesL xs) e), (some [.sl (bytesAV (tkRest (bytesL xs) e 1)) .no, .int .i64 (inTruthE (bytesL xs) e)]), none⟩)
  | _ => none
def gamInTruth : List (Nat × Con) := [(93, inByteF.orNil), (95, inFailF.orNil)]
def lpInTruth0 (xs : List AV) (e : Int) : Nat → Option LoopPlan := fun _ => none
def inInTruth0 (xs : List AV) (e : Int) : Prop := awp [0] (lpInTruth0 xs e) (lookΓ gamInTruth) Tryd.prog Tryd.f111.ntmps 0 (Tryd.f111.body.getD .skip) (entrySt [.box [.sl xs .no, .int .i64 e]]) (exitQ Tryd.prog Tryd.f111.results.toList [0] ⟨.bool (inTruthV (bytesL xs) e), (some [.sl (bytesAV (tkRest (bytesL xs) e 1)) .no, .int .i64 (inTruthE (bytesL xs) e)]), none⟩)
def OkInTruth0 : Prop := ∀ (xs : List AV) (e : Int), isBytes xs → inInTruth0 xs e
def inShortF : Con
  | [.box [.sl xs .no, .int .i64 e], .val (.int .u64 m)] => some (isBytes xs, ⟨.int .u64 (shV (bytesL xs) e m), (some [.sl (bytesAV (shRest (bytesL xs) e m)) .no, .int .i64 (shErr (bytesL xs) e m)]), none⟩)
  | _ => none
def gamInShort : List (Nat × Con) := [(155, readShortF.orNil), (95, inFailF.orNil), (132, takeF.orNil)]
def lpInShort0 (xs : List AV) (e m : Int) : Nat → Option LoopPlan := fun _ => none
def inInShort0 (xs : List AV) (e m : Int) : Prop := awp [0] (lpInShort0 xs e m) (lookΓ gamInShort) Tryd.prog Tryd.f135.ntmps 0 (Tryd.f135.body.getD .skip) (entrySt [.box [.sl xs .no, .int .i64 e], .val (.int .u64 m)]) (exitQ Tryd.prog Tryd.f135.results.toList [0] ⟨.int .u64 (shV (bytesL xs) e m), (some [.sl (bytesAV (shRest (bytesL xs) e m)) .no, .int .i64 (shErr (bytesL xs) e m)]), none⟩)
def OkInShort0 : Prop := ∀ (xs : List AV) (e m : Int), isBytes xs → inInShort0 xs e m
def inFixedF : Con
  | [.box [.sl xs .no, .int .i64 e]] => some (isBytes xs, ⟨.int .u64 (val8 (tkOut (bytesL xs) e 8)), (some [.sl (bytesAV (tkRest (bytesL xs) e 8)) .no, .int .i64 (tkErr (bytesL xs).length e 8)]), none⟩)
  | _ => none
def gamInFixed : List (Nat × Con) := [(132, takeF.orNil), (154, numReadF.orNil)]
def lpInFixed0 (xs : List AV) (e : Int) : Nat → Option LoopPlan := fun _ => none
def inInFixed0 (xs : List AV) (e : Int) : Prop := awp [0] (lpInFixed0 xs e) (lookΓ gamInFixed) Tryd.prog Tryd.f133.ntmps 0 (Tryd.f133.body.getD .skip) (entrySt [.box [.sl xs .no, .int .i64 e]]) (exitQ Tryd.prog Tryd.f133.results.toList [0] ⟨.int .u64 (val8 (tkOut (bytesL xs) e 8)), (some [.sl (bytesAV (tkRest (bytesL xs) e 8)) .no, .int .i64 (tkErr (bytesL xs).length e 8)]), none⟩)
def OkInFixed0 : Prop := ∀ (xs : List AV) (e : Int), isBytes xs → inInFixed0 xs e
def inTextF : Con
  | [.box [.sl xs .no, .int .i64 e], .val (.int .i64 m)] => some (isBytes xs, ⟨.str (inTextV (bytesL xs) e m), (some [.sl (bytesAV (inTextR (bytesL xs) e m)) .no, .int .i64 (inTextE (bytesL xs) e m)]), none⟩)
  | _ => none
def gamInText : List (Nat × Con) := [(135, inShortF.orNil), (132, takeF.orNil)]
def lpInText0 (xs : List AV) (e m : Int) : Nat → Option LoopPlan := fun _ => none
def inInText0 (xs : List AV) (e m : Int) : Prop := awp [0] (lpInText0 xs e m) (lookΓ gamInText) Tryd.prog Tryd.f134.ntmps 0 (Tryd.f134.body.getD .skip) (entrySt [.box [.sl xs .no, .int .i64 e], .val (.int .i64 m)]) (exitQ Tryd.prog Tryd.f134.results.toList [0] ⟨.str (inTextV (bytesL xs) e m), (some [.sl (bytesAV (inTextR (bytesL xs) e m)) .no, .int .i64 (inTextE (bytesL xs) e m)]), none⟩)
def OkInText0 : Prop := ∀ (xs : List AV) (e m : Int), isBytes xs → (-9223372036854775808 ≤ m ∧ m ≤ 9223372036854775807) → inInText0 xs e m
def inFailedF : Con
  | [.box [.sl xs .no, .int .i64 e]] => some (True, ⟨.bool (decide (e ≠ 0)), (some [.sl xs .no, .int .i64 e]), none⟩)
  | _ => none
def gamInFailed : List (Nat × Con) := []
def lpInFailed0 (xs : List AV) (e : Int) : Nat → Option LoopPlan := fun _ => none
def inInFailed0 (xs : List AV) (e : Int) : Prop := awp [0] (lpInFailed0 xs e) (lookΓ gamInFailed) Tryd.prog Tryd.f97.ntmps 0 (Tryd.f97.body.getD .skip) (entrySt [.box [.sl xs .no, .int .i64 e]]) (exitQ Tryd.prog Tryd.f97.results.toList [0] ⟨.bool (decide (e ≠ 0)), (some [.sl xs .no, .int .i64 e]), none⟩)
def OkInFailed0 : Prop := ∀ (xs : List AV) (e : Int), True → inInFailed0 xs e
def inLeftF : Con
  | [.box [.sl xs .no, .int .i64 e]] => some (isBytes xs, ⟨.int .i64 (inLeft (bytesL xs) e), (some [.sl xs .no, .int .i64 e]), none⟩)
  | _ => none
def gamInLeft : List (Nat × Con) := []
def lpInLeft0 (xs : List AV) (e : Int) : Nat → Option LoopPlan := fun _ => none
def inInLeft0 (xs : List AV) (e : Int) : Prop := awp [0] (lpInLeft0 xs e) (lookΓ gamInLeft) Tryd.prog Tryd.f51.ntmps 0 (Tryd.f51.body.getD .skip) (entrySt [.box [.sl xs .no, .int .i64 e]]) (exitQ Tryd.prog Tryd.f51.results.toList [0] ⟨.int .i64 (inLeft (bytesL xs) e), (some [.sl xs .no, .int .i64 e]), none⟩)
def OkInLeft0 : Prop := ∀ (xs : List AV) (e : Int), isBytes xs → inInLeft0 xs e
def inEndF : Con
  | [.box [.sl xs .no, .int .i64 e]] => some (isBytes xs, ⟨.int .i64 (inEnd (bytesL xs) e), (some [.sl xs .no, .int .i64 e]), none⟩)
  | _ => none
def gamInEnd : List (Nat × Con) := [(51, inLeftF.orNil)]
def lpInEnd0 (xs : List AV) (e : Int) : Nat → Option LoopPlan := fun _ => none
def inInEnd0 (xs : List AV) (e : Int) : Prop := awp [0] (lpInEnd0 xs e) (lookΓ gamInEnd) Tryd.prog Tryd.f91.ntmps 0 (Tryd.f91.body.getD .skip) (entrySt [.box [.sl xs .no, .int .i64 e]]) (exitQ Tryd.prog Tryd.f91.results.toList [0] ⟨.int .i64 (inEnd (bytesL xs) e), (some [.sl xs .no, .int .i64 e]), none⟩)
def OkInEnd0 : Prop := ∀ (xs : List AV) (e : Int), isBytes xs → inInEnd0 xs e
def newInF : Con
  | [.val (.sl xs .no)] => some (isBytes xs ∧ xs.length ≤ 140737488355328, ⟨.ptr 2000 0, none, (some [.sl xs .no, .int .i64 0])⟩)
  | _ => none
def gamNewIn : List (Nat × Con) := [(92, cloneF.orNil)]
def lpNewIn0 (xs : List AV) : Nat → Option LoopPlan := fun _ => none
def inNewIn0 (xs : List AV) : Prop := awp [] (lpNewIn0 xs) (lookΓ gamNewIn) Tryd.prog Tryd.f49.ntmps 0 (Tryd.f49.body.getD .skip) (entrySt [.val (.sl xs .no)]) (exitQ Tryd.prog Tryd.f49.results.toList [] ⟨.ptr 2000 0, none, (some [.sl xs .no, .int .i64 0])⟩)
def OkNewIn0 : Prop := ∀ (xs : List AV), isBytes xs ∧ xs.length ≤ 140737488355328 → inNewIn0 xs
def outByteF : Con
  | [.box [.sl xs (.row p q te0)], .val (.int .u8 b)] => if te0 = 5 then some (isBytes xs ∧ xs.length + 1 ≤ 140737488355328, ⟨.ptr 0 0, (some [.sl (bytesAV (catL (bytesL xs) (encByte b))) (.row 0 0 5)]), none⟩) else none
  | _ => none
def gamOutByte : List (Nat × Con) := []
def lpOutByte1 (xs : List AV) (p q : Nat) (b : Int) : Nat → Option LoopPlan := fun _ => none
def inOutByte1 (xs : List AV) (p q : Nat) (b : Int) : Prop := awp [0] (lpOutByte1 xs p q b) (lookΓ gamOutByte) Tryd.prog Tryd.f120.ntmps 0 (Tryd.f120.body.getD .skip) (entrySt [.box [.sl xs (.row p q 5)], .val (.int .u8 b)]) (exitQ Tryd.prog Tryd.f120.results.toList [0] ⟨.ptr 0 0, (some [.sl (bytesAV (catL (bytesL xs) (encByte b))) (.row 0 0 5)]), none⟩)
def OkOutByte1 : Prop := ∀ (xs : List AV) (p q : Nat) (b : Int), isBytes xs ∧ xs.length + 1 ≤ 140737488355328 → (0 ≤ b ∧ b ≤ 255) → inOutByte1 xs p q b
def outTruthF : Con
  | [.box [.sl xs (.row p q te0)], .val (.bool b)] => if te0 = 5 then some (isBytes xs ∧ xs.length + 1 ≤ 140737488355328, ⟨.ptr 0 0, (some [.sl (bytesAV (catL (bytesL xs) (encTruth b))) (.row 0 0 5)]), none⟩) else none
  | _ => none
def gamOutTruth : List (Nat × Con) := [(120, outByteF.orNil)]
def lpOutTruth1 (xs : List AV) (p q : Nat) (b : Bool) : Nat → Option LoopPlan := fun _ => none
def inOutTruth1 (xs : List AV) (p q : Nat) (b : Bool) : Prop := awp [0] (lpOutTruth1 xs p q b) (lookΓ gamOutTruth) Tryd.prog Tryd.f143.ntmps 0 (Tryd.f143.body.getD .skip) (entrySt [.box [.sl xs (.row p q 5)], .val (.bool b)]) (exitQ Tryd.prog Tryd.f143.results.toList [0] ⟨.ptr 0 0, (some [.sl (bytesAV (catL (bytesL xs) (encTruth b))) (.row 0 0 5)]), none⟩)
def OkOutTruth1 : Prop := ∀ (xs : List AV) (p q : Nat) (b : Bool), isBytes xs ∧ xs.length + 1 ≤ 140737488355328 → inOutTruth1 xs p q b
def outShortF : Con
  | [.box [.sl xs (.row p q te0)], .val (.int .u64 v)] => if te0 = 5 then some (isBytes xs ∧ xs.length + 10 ≤ 140737488355328, ⟨.ptr 0 0, (some [.sl (bytesAV (catL (bytesL xs) (short v.toNat))) (.row 0 0 5)]), none⟩) else none
  | _ => none
def gamOutShort : List (Nat × Con) := [(153, numShortF.orNil)]
def lpOutShort1 (xs : List AV) (p q : Nat) (v : Int) : Nat → Option LoopPlan := fun _ => none
def inOutShort1 (xs : List AV) (p q : Nat) (v : Int) : Prop := awp [0] (lpOutShort1 xs p q v) (lookΓ gamOutShort) Tryd.prog Tryd.f123.ntmps 0 (Tryd.f123.body.getD .skip) (entrySt [.box [.sl xs (.row p q 5)], .val (.int .u64 v)]) (exitQ Tryd.prog Tryd.f123.results.toList [0] ⟨.ptr 0 0, (some [.sl (bytesAV (catL (bytesL xs) (short v.toNat))) (.row 0 0 5)]), none⟩)
def OkOutShort1 : Prop := ∀ (xs : List AV) (p q : Nat) (v : Int), isBytes xs ∧ xs.length + 10 ≤ 140737488355328 → (0 ≤ v ∧ v ≤ 18446744073709551615) → inOutShort1 xs p q v
def outFixedF : Con
  | [.box [.sl xs (.row p q te0)], .val (.int .u64 v)] => if te0 = 5 then some (isBytes xs ∧ xs.length + 8 ≤ 140737488355328, ⟨.ptr 0 0, (some [.sl (bytesAV (catL (bytesL xs) (bytesOf v (cap8 8)))) (.row 0 0 5)]), none⟩) else none
  | _ => none
def gamOutFixed : List (Nat × Con) := [(152, numBytesF.orNil)]
def lpOutFixed1 (xs : List AV) (p q : Nat) (v : Int) : Nat → Option LoopPlan := fun _ => none
def inOutFixed1 (xs : List AV) (p q : Nat) (v : Int) : Prop := awp [0] (lpOutFixed1 xs p q v) (lookΓ gamOutFixed) Tryd.prog Tryd.f121.ntmps 0 (Tryd.f121.body.getD .skip) (entrySt [.box [.sl xs (.row p q 5)], .val (.int .u64 v)]) (exitQ Tryd.prog Tryd.f121.results.toList [0] ⟨.ptr 0 0, (some [.sl (bytesAV (catL (bytesL xs) (bytesOf v (cap8 8)))) (.row 0 0 5)]), none⟩)
def OkOutFixed1 : Prop := ∀ (xs : List AV) (p q : Nat) (v : Int), isBytes xs ∧ xs.length + 8 ≤ 140737488355328 → inOutFixed1 xs p q v
def outTextF : Con
  | [.box [.sl xs (.row p q te0)], .val (.str s)] => if te0 = 5 then some (isBytes xs ∧ xs.length + s.length + 10 ≤ 140737488355328, ⟨.ptr 0 0, (some [.sl (bytesAV (catL (bytesL xs) (encText s))) (.row 0 0 5)]), none⟩) else none
  | _ => none
def gamOutText : List (Nat × Con) := [(123, outShortF.orNil)]
def lpOutText1 (xs : List AV) (p q : Nat) (s : List UInt8) : Nat → Option LoopPlan := fun _ => none
def inOutText1 (xs : List AV) (p q : Nat) (s : List UInt8) : Prop := awp [0] (lpOutText1 xs p q s) (lookΓ gamOutText) Tryd.prog Tryd.f122.ntmps 0 (Tryd.f122.body.getD .skip) (entrySt [.box [.sl xs (.row p q 5)], .val (.str s)]) (exitQ Tryd.prog Tryd.f122.results.toList [0] ⟨.ptr 0 0, (some [.sl (bytesAV (catL (bytesL xs) (encText s))) (.row 0 0 5)]), none⟩)
def OkOutText1 : Prop := ∀ (xs : List AV) (p q : Nat) (s : List UInt8), isBytes xs ∧ xs.length + s.length + 10 ≤ 140737488355328 → inOutText1 xs p q s
def outBytesF : Con
  | [.box [.sl xs (.row p q te0)]] => if te0 = 5 then some (isBytes xs ∧ xs.length ≤ 140737488355328, ⟨.sl xs .no, (some [.sl xs (.row 0 0 5)]), none⟩) else none
  | _ => none
def gamOutBytes : List (Nat × Con) := [(92, cloneF.orNil)]
def lpOutBytes1 (xs : List AV) (p q : Nat) : Nat → Option LoopPlan := fun _ => none
def inOutBytes1 (xs : List AV) (p q : Nat) : Prop := awp [0] (lpOutBytes1 xs p q) (lookΓ gamOutBytes) Tryd.prog Tryd.f72.ntmps 0 (Tryd.f72.body.getD .skip) (entrySt [.box [.sl xs (.row p q 5)]]) (exitQ Tryd.prog Tryd.f72.results.toList [0] ⟨.sl xs .no, (some [.sl xs (.row 0 0 5)]), none⟩)
def OkOutBytes1 : Prop := ∀ (xs : List AV) (p q : Nat), isBytes xs ∧ xs.length ≤ 140737488355328 → inOutBytes1 xs p q
end Go.Proofs.YtcokifdgbfbonaaDoor
