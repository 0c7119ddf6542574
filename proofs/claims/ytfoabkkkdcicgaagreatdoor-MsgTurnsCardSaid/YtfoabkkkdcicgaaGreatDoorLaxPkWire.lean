/- Contracts by content, their conditions, and that they are met: Wire. -/
import Derived.Test.YtfoabkkkdcicgaaGreatDoorLaxClone
import Derived.Test.YtfoabkkkdcicgaaGreatDoorLaxNumP
import Derived.Test.YtfoabkkkdcicgaaGreatDoorLaxWrap
/- Contracts by content, and the conditions that their code must meet. -/
namespace Go.Proofs.YtfoabkkkdcicgaaGreatDoor
set_option linter.unusedVariables false
set_option linter.unusedSimpArgs false
open Go.RowKit
def inFail (e c : Int) : Int := if e = 0 then c else e
def tkOK (n : Nat) (e k : Int) : Bool := decide (e = 0 ∧ k ≤ n)
def tkOut (l : List UInt8) (e k : Int) : List UInt8 := if tkOK l.length e k then l.take k.toNat else []
def tkRest (l : List UInt8) (e k : Int) : List UInt8 := if tkOK l.length e k then l.drop k.toNat else l
def tkErr (n : Nat) (e k : Int) : Int := if tkOK n e k then e else inFail e 20
def inByteV (l : List UInt8) (e : Int) : Int := ((tkOut l e 1).getD 0 0).toNat
def inTruthE (l : List UInt8) (e : Int) : Int := if 1 < inByteV l e then inFail (tkErr l.length e 1) 10 else tkErr l.length e 1
def inTruthV (l : List UInt8) (e : Int) : Bool := decide (inTruthE l e = 0) && (inByteV l e == 1)
def shV (l : List UInt8) (e m : Int) : Int := if e ≠ 0 then 0 else if (rShort l).2.2 ≠ 0 then 0 else if m < (rShort l).1 then 0 else (rShort l).1
def shRest (l : List UInt8) (e m : Int) : List UInt8 := if e ≠ 0 then l else if (rShort l).2.2 ≠ 0 then l else if m < (rShort l).1 then l else l.drop (rShort l).2.1
def shErr (l : List UInt8) (e m : Int) : Int := if e ≠ 0 then e else if (rShort l).2.2 ≠ 0 then (rShort l).2.2 else if m < (rShort l).1 then 12 else 0
def most0 (m : Int) : Int := if m < 0 then 0 else m
def inTextV (l : List UInt8) (e m : Int) : List UInt8 := tkOut (shRest l e (most0 m)) (shErr l e (most0 m)) (shV l e (most0 m))
def inTextR (l : List UInt8) (e m : Int) : List UInt8 := tkRest (shRest l e (most0 m)) (shErr l e (most0 m)) (shV l e (most0 m))
def inTextE (l : List UInt8) (e m : Int) : Int := tkErr (shRest l e (most0 m)).length (shErr l e (most0 m)) (shV l e (most0 m))
def inLeft (l : List UInt8) (e : Int) : Int := if e ≠ 0 then 0 else l.length
def inEnd (l : List UInt8) (e : Int) : Int := if 0 < inLeft l e then 21 else e
def encByte (b : Int) : List UInt8 := [UInt8.ofNat b.toNat]
def encTruth (b : Bool) : List UInt8 := [if b then 1 else 0]
def encText (s : List UInt8) : List UInt8 := short s.length ++ s
def inFailF : Con
  | [.box [.sl xs .no, .int .i64 e], .val (.int .i64 c)] => (some (True, ⟨.tup [], (some [.sl xs .no, .int .i64 (inFail e c)]), none⟩))
  | _ => none
def gamInFail : List (Nat × Con) := []
def lpInFail0 (xs : List AV) (e c : Int) : Nat → Option LoopPlan := fun _ => none
def inInFail0 (xs : List AV) (e c : Int) : Prop := awp [0] (lpInFail0 xs e c) (lookΓ gamInFail) Tryz.prog Tryz.f60.ntmps 0 (Tryz.f60.body.getD .skip) (entrySt [.box [.sl xs .no, .int .i64 e], .val (.int .i64 c)]) (exitQ Tryz.prog Tryz.f60.results.toList [0] ⟨.tup [], (some [.sl xs .no, .int .i64 (inFail e c)]), none⟩)
def OkInFail0 : Prop := ∀ (xs : List AV) (e c : Int), True → inInFail0 xs e c
def takeF : Con
  | [.box [.sl xs .no, .int .i64 e], .val (.int .i64 k)] => (some (isBytes xs ∧ 0 ≤ k, ⟨.sl (bytesAV (tkOut (bytesL xs) e k)) .no, (some [.sl (bytesAV (tkRest (bytesL xs) e k)) .no, .int .i64 (tkErr (bytesL xs).length e k)]), none⟩))
  | _ => none
def gamTake : List (Nat × Con) := [(60, inFailF.orNil)]
def lpTake0 (xs : List AV) (e k : Int) : Nat → Option LoopPlan := fun _ => none
def inTake0 (xs : List AV) (e k : Int) : Prop := awp [0] (lpTake0 xs e k) (lookΓ gamTake) Tryz.prog Tryz.f87.ntmps 0 (Tryz.f87.body.getD .skip) (entrySt [.box [.sl xs .no, .int .i64 e], .val (.int .i64 k)]) (exitQ Tryz.prog Tryz.f87.results.toList [0] ⟨.sl (bytesAV (tkOut (bytesL xs) e k)) .no, (some [.sl (bytesAV (tkRest (bytesL xs) e k)) .no, .int .i64 (tkErr (bytesL xs).length e k)]), none⟩)
def OkTake0 : Prop := ∀ (xs : List AV) (e k : Int), isBytes xs ∧ 0 ≤ k → inTake0 xs e k
def inByteF : Con
  | [.box [.sl xs .no, .int .i64 e]] => (some (isBytes xs, ⟨.int .u8 (inByteV (bytesL xs) e), (some [.sl (bytesAV (tkRest (bytesL xs) e 1)) .no, .int .i64 (tkErr (bytesL xs).length e 1)]), none⟩))
  | _ => none
def gamInByte : List (Nat × Con) := [(87, takeF.orNil)]
def lpInByte0 (xs : List AV) (e : Int) : Nat → Option LoopPlan := fun _ => none
def inInByte0 (xs : List AV) (e : Int) : Prop := awp [0] (lpInByte0 xs e) (lookΓ gamInByte) Tryz.prog Tryz.f59.ntmps 0 (Tryz.f59.body.getD .skip) (entrySt [.box [.sl xs .no, .int .i64 e]]) (exitQ Tryz.prog Tryz.f59.results.toList [0] ⟨.int .u8 (inByteV (bytesL xs) e), (some [.sl (bytesAV (tkRest (bytesL xs) e 1)) .no, .int .i64 (tkErr (bytesL xs).length e 1)]), none⟩)
def OkInByte0 : Prop := ∀ (xs : List AV) (e : Int), isBytes xs → inInByte0 xs e
def inTruthF : Con
  | [.box [.sl xs .no, .int .i64 e]] => (some (isBytes xs, ⟨.bool (inTruthV (bytesL xs) e), (some [.sl (bytesAV (tkRest (bytesL xs) e 1)) .no, .int .i64 (inTruthE (bytesL xs) e)]), none⟩))
  | _ => none
def gamInTruth : List (Nat × Con) := [(59, inByteF.orNil), (60, inFailF.orNil)]
def lpInTruth0 (xs : List AV) (e : Int) : Nat → Option LoopPlan := fun _ => none
def inInTruth0 (xs : List AV) (e : Int) : Prop := awp [0] (lpInTruth0 xs e) (lookΓ gamInTruth) Tryz.prog Tryz.f61.ntmps 0 (Tryz.f61.body.getD .skip) (entrySt [.box [.sl xs .no, .int .i64 e]]) (exitQ Tryz.prog Tryz.f61.results.toList [0] ⟨.bool (inTruthV (bytesL xs) e), (some [.sl (bytesAV (tkRest (bytesL xs) e 1)) .no, .int .i64 (inTruthE (bytesL xs) e)]), none⟩)
def OkInTruth0 : Prop := ∀ (xs : List AV) (e : Int), isBytes xs → inInTruth0 xs e
def inShortF : Con
  | [.box [.sl xs .no, .int .i64 e], .val (.int .u64 m)] => (some (isBytes xs, ⟨.int .u64 (shV (bytesL xs) e m), (some [.sl (bytesAV (shRest (bytesL xs) e m)) .no, .int .i64 (shErr (bytesL xs) e m)]), none⟩))
  | _ => none
def gamInShort : List (Nat × Con) := [(98, readShortF.orNil), (60, inFailF.orNil), (87, takeF.orNil)]
def lpInShort0 (xs : List AV) (e m : Int) : Nat → Option LoopPlan := fun _ => none
def inInShort0 (xs : List AV) (e m : Int) : Prop := awp [0] (lpInShort0 xs e m) (lookΓ gamInShort) Tryz.prog Tryz.f86.ntmps 0 (Tryz.f86.body.getD .skip) (entrySt [.box [.sl xs .no, .int .i64 e], .val (.int .u64 m)]) (exitQ Tryz.prog Tryz.f86.results.toList [0] ⟨.int .u64 (shV (bytesL xs) e m), (some [.sl (bytesAV (shRest (bytesL xs) e m)) .no, .int .i64 (shErr (bytesL xs) e m)]), none⟩)
def OkInShort0 : Prop := ∀ (xs : List AV) (e m : Int), isBytes xs → inInShort0 xs e m
def inFixedF : Con
  | [.box [.sl xs .no, .int .i64 e]] => (some (isBytes xs, ⟨.int .u64 (val8 (tkOut (bytesL xs) e 8)), (some [.sl (bytesAV (tkRest (bytesL xs) e 8)) .no, .int .i64 (tkErr (bytesL xs).length e 8)]), none⟩))
  | _ => none
def gamInFixed : List (Nat × Con) := [(87, takeF.orNil), (104, numReadF.orNil)]
def lpInFixed0 (xs : List AV) (e : Int) : Nat → Option LoopPlan := fun _ => none
def inInFixed0 (xs : List AV) (e : Int) : Prop := awp [0] (lpInFixed0 xs e) (lookΓ gamInFixed) Tryz.prog Tryz.f99.ntmps 0 (Tryz.f99.body.getD .skip) (entrySt [.box [.sl xs .no, .int .i64 e]]) (exitQ Tryz.prog Tryz.f99.results.toList [0] ⟨.int .u64 (val8 (tkOut (bytesL xs) e 8)), (some [.sl (bytesAV (tkRest (bytesL xs) e 8)) .no, .int .i64 (tkErr (bytesL xs).length e 8)]), none⟩)
def OkInFixed0 : Prop := ∀ (xs : List AV) (e : Int), isBytes xs → inInFixed0 xs e
def inTextF : Con
  | [.box [.sl xs .no, .int .i64 e], .val (.int .i64 m)] => (some (isBytes xs, ⟨.str (inTextV (bytesL xs) e m), (some [.sl (bytesAV (inTextR (bytesL xs) e m)) .no, .int .i64 (inTextE (bytesL xs) e m)]), none⟩))
  | _ => none
def gamInText : List (Nat × Con) := [(86, inShortF.orNil), (87, takeF.orNil)]
def lpInText0 (xs : List AV) (e m : Int) : Nat → Option LoopPlan := fun _ => none
def inInText0 (xs : List AV) (e m : Int) : Prop := awp [0] (lpInText0 xs e m) (lookΓ gamInText) Tryz.prog Tryz.f100.ntmps 0 (Tryz.f100.body.getD .skip) (entrySt [.box [.sl xs .no, .int .i64 e], .val (.int .i64 m)]) (exitQ Tryz.prog Tryz.f100.results.toList [0] ⟨.str (inTextV (bytesL xs) e m), (some [.sl (bytesAV (inTextR (bytesL xs) e m)) .no, .int .i64 (inTextE (bytesL xs) e m)]), none⟩)
def OkInText0 : Prop := ∀ (xs : List AV) (e m : Int), isBytes xs → (-9223372036854775808 ≤ m ∧ m ≤ 9223372036854775807) → inInText0 xs e m
def inFailedF : Con
  | [.box [.sl xs .no, .int .i64 e]] => (some (True, ⟨.bool (decide (e ≠ 0)), (some [.sl xs .no, .int .i64 e]), none⟩))
  | _ => none
def gamInFailed : List (Nat × Con) := []
def lpInFailed0 (xs : List AV) (e : Int) : Nat → Option LoopPlan := fun _ => none
def inInFailed0 (xs : List AV) (e : Int) : Prop := awp [0] (lpInFailed0 xs e) (lookΓ gamInFailed) Tryz.prog Tryz.f64.ntmps 0 (Tryz.f64.body.getD .skip) (entrySt [.box [.sl xs .no, .int .i64 e]]) (exitQ Tryz.prog Tryz.f64.results.toList [0] ⟨.bool (decide (e ≠ 0)), (some [.sl xs .no, .int .i64 e]), none⟩)
def OkInFailed0 : Prop := ∀ (xs : List AV) (e : Int), True → inInFailed0 xs e
def inLeftF : Con
  | [.box [.sl xs .no, .int .i64 e]] => (some (isBytes xs, ⟨.int .i64 (inLeft (bytesL xs) e), (some [.sl xs .no, .int .i64 e]), none⟩))
  | _ => none
def gamInLeft : List (Nat × Con) := []
def lpInLeft0 (xs : List AV) (e : Int) : Nat → Option LoopPlan := fun _ => none
def inInLeft0 (xs : List AV) (e : Int) : Prop := awp [0] (lpInLeft0 xs e) (lookΓ gamInLeft) Tryz.prog Tryz.f65.ntmps 0 (Tryz.f65.body.getD .skip) (entrySt [.box [.sl xs .no, .int .i64 e]]) (exitQ Tryz.prog Tryz.f65.results.toList [0] ⟨.int .i64 (inLeft (bytesL xs) e), (some [.sl xs .no, .int .i64 e]), none⟩)
def OkInLeft0 : Prop := ∀ (xs : List AV) (e : Int), isBytes xs → inInLeft0 xs e
def inEndF : Con
  | [.box [.sl xs .no, .int .i64 e]] => (some (isBytes xs, ⟨.int .i64 (inEnd (bytesL xs) e), (some [.sl xs .no, .int .i64 e]), none⟩))
  | _ => none
def gamInEnd : List (Nat × Con) := [(65, inLeftF.orNil)]
def lpInEnd0 (xs : List AV) (e : Int) : Nat → Option LoopPlan := fun _ => none
def inInEnd0 (xs : List AV) (e : Int) : Prop := awp [0] (lpInEnd0 xs e) (lookΓ gamInEnd) Tryz.prog Tryz.f29.ntmps 0 (Tryz.f29.body.getD .skip) (entrySt [.box [.sl xs .no, .int .i64 e]]) (exitQ Tryz.prog Tryz.f29.results.toList [0] ⟨.int .i64 (inEnd (bytesL xs) e), (some [.sl xs .no, .int .i64 e]), none⟩)
def OkInEnd0 : Prop := ∀ (xs : List AV) (e : Int), isBytes xs → inInEnd0 xs e
def newInF : Con
  | [.val (.sl xs .no)] => (some (isBytes xs ∧ xs.length ≤ 140737488355328, ⟨.ptr 2000 0, none, (some [.sl xs .no, .int .i64 0])⟩))
  | _ => none
def gamNewIn : List (Nat × Con) := [(56, cloneF.orNil)]
def lpNewIn0 (xs : List AV) : Nat → Option LoopPlan := fun _ => none
def inNewIn0 (xs : List AV) : Prop := awp [] (lpNewIn0 xs) (lookΓ gamNewIn) Tryz.prog Tryz.f27.ntmps 0 (Tryz.f27.body.getD .skip) (entrySt [.val (.sl xs .no)]) (exitQ Tryz.prog Tryz.f27.results.toList [] ⟨.ptr 2000 0, none, (some [.sl xs .no, .int .i64 0])⟩)
def OkNewIn0 : Prop := ∀ (xs : List AV), isBytes xs ∧ xs.length ≤ 140737488355328 → inNewIn0 xs
def outByteF : Con
  | [.box [.sl xs (.row p q te0)], .val (.int .u8 b)] => (if te0 = 5 then some (isBytes xs ∧ xs.length + 1 ≤ 140737488355328, ⟨.ptr 0 0, (some [.sl (bytesAV (catL (bytesL xs) (encByte b))) (.row 0 0 5)]), none⟩) else none)
  | _ => none
def gamOutByte : List (Nat × Con) := []
def lpOutByte1 (xs : List AV) (p q : Nat) (b : Int) : Nat → Option LoopPlan := fun _ => none
def inOutByte1 (xs : List AV) (p q : Nat) (b : Int) : Prop := awp [0] (lpOutByte1 xs p q b) (lookΓ gamOutByte) Tryz.prog Tryz.f41.ntmps 0 (Tryz.f41.body.getD .skip) (entrySt [.box [.sl xs (.row p q 5)], .val (.int .u8 b)]) (exitQ Tryz.prog Tryz.f41.results.toList [0] ⟨.ptr 0 0, (some [.sl (bytesAV (catL (bytesL xs) (encByte b))) (.row 0 0 5)]), none⟩)
def OkOutByte1 : Prop := ∀ (xs : List AV) (p q : Nat) (b : Int), isBytes xs ∧ xs.length + 1 ≤ 140737488355328 → (0 ≤ b ∧ b ≤ 255) → inOutByte1 xs p q b
def outTruthF : Con
  | [.box [.sl xs (.row p q te0)], .val (.bool b)] => (if te0 = 5 then some (isBytes xs ∧ xs.length + 1 ≤ 140737488355328, ⟨.ptr 0 0, (some [.sl (bytesAV (catL (bytesL xs) (encTruth b))) (.row 0 0 5)]), none⟩) else none)
  | _ => none
def gamOutTruth : List (Nat × Con) := [(41, outByteF.orNil)]
def lpOutTruth1 (xs : List AV) (p q : Nat) (b : Bool) : Nat → Option LoopPlan := fun _ => none
def inOutTruth1 (xs : List AV) (p q : Nat) (b : Bool) : Prop := awp [0] (lpOutTruth1 xs p q b) (lookΓ gamOutTruth) Tryz.prog Tryz.f44.ntmps 0 (Tryz.f44.body.getD .skip) (entrySt [.box [.sl xs (.row p q 5)], .val (.bool b)]) (exitQ Tryz.prog Tryz.f44.results.toList [0] ⟨.ptr 0 0, (some [.sl (bytesAV (catL (bytesL xs) (encTruth b))) (.row 0 0 5)]), none⟩)
def OkOutTruth1 : Prop := ∀ (xs : List AV) (p q : Nat) (b : Bool), isBytes xs ∧ xs.length + 1 ≤ 140737488355328 → inOutTruth1 xs p q b
def outShortF : Con
  | [.box [.sl xs (.row p q te0)], .val (.int .u64 v)] => (if te0 = 5 then some (isBytes xs ∧ xs.length + 10 ≤ 140737488355328, ⟨.ptr 0 0, (some [.sl (bytesAV (catL (bytesL xs) (short v.toNat))) (.row 0 0 5)]), none⟩) else none)
  | _ => none
def gamOutShort : List (Nat × Con) := [(93, numShortF.orNil)]
def lpOutShort1 (xs : List AV) (p q : Nat) (v : Int) : Nat → Option LoopPlan := fun _ => none
def inOutShort1 (xs : List AV) (p q : Nat) (v : Int) : Prop := awp [0] (lpOutShort1 xs p q v) (lookΓ gamOutShort) Tryz.prog Tryz.f75.ntmps 0 (Tryz.f75.body.getD .skip) (entrySt [.box [.sl xs (.row p q 5)], .val (.int .u64 v)]) (exitQ Tryz.prog Tryz.f75.results.toList [0] ⟨.ptr 0 0, (some [.sl (bytesAV (catL (bytesL xs) (short v.toNat))) (.row 0 0 5)]), none⟩)
def OkOutShort1 : Prop := ∀ (xs : List AV) (p q : Nat) (v : Int), isBytes xs ∧ xs.length + 10 ≤ 140737488355328 → (0 ≤ v ∧ v ≤ 18446744073709551615) → inOutShort1 xs p q v
def outFixedF : Con
  | [.box [.sl xs (.row p q te0)], .val (.int .u64 v)] => (if te0 = 5 then some (isBytes xs ∧ xs.length + 8 ≤ 140737488355328, ⟨.ptr 0 0, (some [.sl (bytesAV (catL (bytesL xs) (bytesOf v (cap8 8)))) (.row 0 0 5)]), none⟩) else none)
  | _ => none
def gamOutFixed : List (Nat × Con) := [(94, numBytesF.orNil)]
def lpOutFixed1 (xs : List AV) (p q : Nat) (v : Int) : Nat → Option LoopPlan := fun _ => none
def inOutFixed1 (xs : List AV) (p q : Nat) (v : Int) : Prop := awp [0] (lpOutFixed1 xs p q v) (lookΓ gamOutFixed) Tryz.prog Tryz.f91.ntmps 0 (Tryz.f91.body.getD .skip) (entrySt [.box [.sl xs (.row p q 5)], .val (.int .u64 v)]) (exitQ Tryz.prog Tryz.f91.results.toList [0] ⟨.ptr 0 0, (some [.sl (bytesAV (catL (bytesL xs) (bytesOf v (cap8 8)))) (.row 0 0 5)]), none⟩)
def OkOutFixed1 : Prop := ∀ (xs : List AV) (p q : Nat) (v : Int), isBytes xs ∧ xs.length + 8 ≤ 140737488355328 → inOutFixed1 xs p q v
def outTextF : Con
  | [.box [.sl xs (.row p q te0)], .val (.str s)] => (if te0 = 5 then some (isBytes xs ∧ xs.length + s.length + 10 ≤ 140737488355328, ⟨.ptr 0 0, (some [.sl (bytesAV (catL (bytesL xs) (encText s))) (.row 0 0 5)]), none⟩) else none)
  | _ => none
def gamOutText : List (Nat × Con) := [(75, outShortF.orNil)]
def lpOutText1 (xs : List AV) (p q : Nat) (s : List UInt8) : Nat → Option LoopPlan := fun _ => none
def inOutText1 (xs : List AV) (p q : Nat) (s : List UInt8) : Prop := awp [0] (lpOutText1 xs p q s) (lookΓ gamOutText) Tryz.prog Tryz.f92.ntmps 0 (Tryz.f92.body.getD .skip) (entrySt [.box [.sl xs (.row p q 5)], .val (.str s)]) (exitQ Tryz.prog Tryz.f92.results.toList [0] ⟨.ptr 0 0, (some [.sl (bytesAV (catL (bytesL xs) (encText s))) (.row 0 0 5)]), none⟩)
def OkOutText1 : Prop := ∀ (xs : List AV) (p q : Nat) (s : List UInt8), isBytes xs ∧ xs.length + s.length + 10 ≤ 140737488355328 → inOutText1 xs p q s
def outBytesF : Con
  | [.box [.sl xs (.row p q te0)]] => (if te0 = 5 then some (isBytes xs ∧ xs.length ≤ 140737488355328, ⟨.sl xs .no, (some [.sl xs (.row 0 0 5)]), none⟩) else none)
  | _ => none
def gamOutBytes : List (Nat × Con) := [(56, cloneF.orNil)]
def lpOutBytes1 (xs : List AV) (p q : Nat) : Nat → Option LoopPlan := fun _ => none
def inOutBytes1 (xs : List AV) (p q : Nat) : Prop := awp [0] (lpOutBytes1 xs p q) (lookΓ gamOutBytes) Tryz.prog Tryz.f38.ntmps 0 (Tryz.f38.body.getD .skip) (entrySt [.box [.sl xs (.row p q 5)]]) (exitQ Tryz.prog Tryz.f38.results.toList [0] ⟨.sl xs .no, (some [.sl xs (.row 0 0 5)]), none⟩)
def OkOutBytes1 : Prop := ∀ (xs : List AV) (p q : Nat), isBytes xs ∧ xs.length ≤ 140737488355328 → inOutBytes1 xs p q
end Go.Proofs.YtfoabkkkdcicgaaGreatDoor
/- What the verification conditions come to: printed by a program of ours (wip/lax/ex/Norm.lean). -/
namespace Go.Proofs.YtfoabkkkdcicgaaGreatDoor
set_option linter.unusedVariables false
open Go.RowKit
set_option maxRecDepth 100000
theorem vcInFail0 (xs : (List AV)) (e : Int) (c : Int) (h : (tt ∧ T1 ∧ T1 ∧ T1 ∧ tt ∧ T1 ∧ (bif (e == 0) then (tt ∧ T1 ∧ T1 ∧ T1 ∧ T1 ∧ tt ∧ tt ∧ tt ∧ (xs = xs ∧ (inFail e c) = c ∧ True) ∧ tt) else (tt ∧ tt ∧ (xs = xs ∧ (inFail e c) = e ∧ True) ∧ tt)))) : inInFail0 xs e c :=
  Eq.mp (show _ = _ by kernel_rfl) h
theorem vcTake0 (xs : (List AV)) (e : Int) (k : Int) (h : let q0 := (bytesL xs); (tt ∧ T1 ∧ tt ∧ T1 ∧ T1 ∧ T1 ∧ tt ∧ T1 ∧ T1 ∧ (bif (e != 0) then (tt ∧ tt ∧ T1 ∧ (T1 ∧ True) ∧ ∀ v0 : (List AV), (v0 = xs) → ∀ v2 : Int, (v2 = (inFail e 20)) → tt ∧ T1 ∧ tt ∧ tt ∧ ((bytesAV (tkRest q0 e k)) = v0 ∧ (tkErr (List.length q0) e k) = v2 ∧ (bytesAV (tkOut q0 e k)) = [] ∧ True) ∧ tt) else (T1 ∧ T1 ∧ T1 ∧ T1 ∧ tt ∧ T1 ∧ T1 ∧ T1 ∧ (bif (decide (((List.length xs) : Int) < k)) then (tt ∧ T1 ∧ (T1 ∧ True) ∧ ∀ v0 : (List AV), (v0 = xs) → ∀ v2 : Int, (v2 = (inFail e 20)) → tt ∧ T1 ∧ tt ∧ tt ∧ ((bytesAV (tkRest q0 e k)) = v0 ∧ (tkErr (List.length q0) e k) = v2 ∧ (bytesAV (tkOut q0 e k)) = [] ∧ True) ∧ tt) else (tt ∧ T1 ∧ T1 ∧ T1 ∧ tt ∧ T1 ∧ T1 ∧ (((0 : Int) ≤ k ∧ k ≤ k ∧ k ≤ ((List.length xs) : Int)) ∧ (okWidth 1 xs)) ∧ T1 ∧ tt ∧ T1 ∧ T1 ∧ T1 ∧ T1 ∧ tt ∧ T1 ∧ (((0 : Int) ≤ k ∧ k ≤ ((List.length xs) : Int)) ∧ (okWidth 1 xs)) ∧ T1 ∧ T1 ∧ tt ∧ tt ∧ T1 ∧ T1 ∧ tt ∧ tt ∧ ((bytesAV (tkRest q0 e k)) = (@cutL AV xs (Int.toNat k) (List.length xs)) ∧ (tkErr (List.length q0) e k) = e ∧ (bytesAV (tkOut q0 e k)) = (@cutL AV xs 0 (Int.toNat k)) ∧ True) ∧ tt)))))) : inTake0 xs e k :=
  Eq.mp (show _ = _ by kernel_rfl) h
theorem vcInByte0 (xs : (List AV)) (e : Int) (h : let q0 := (bytesL xs); (tt ∧ T1 ∧ tt ∧ T1 ∧ (T1 ∧ (isBytes xs) ∧ (0 : Int) ≤ (1 : Int)) ∧ ∀ v0 : (List AV), (v0 = (bytesAV (tkOut q0 e 1))) → ∀ v2 : (List AV), (v2 = (bytesAV (tkRest q0 e 1))) → ∀ v4 : Int, (v4 = (tkErr (List.length q0) e 1)) → T1 ∧ tt ∧ T1 ∧ T1 ∧ T1 ∧ (bif (((List.length v0) : Int) == 0) then (tt ∧ T1 ∧ tt ∧ tt ∧ ((bytesAV (tkRest q0 e 1)) = v2 ∧ (tkErr (List.length q0) e 1) = v4 ∧ (inByteV q0 e) = 0 ∧ True) ∧ tt) else (tt ∧ T1 ∧ ((0 : Int) ≤ (0 : Int) ∧ (0 : Int) < ((List.length v0) : Int) ∧ (okElem 1 v0 0)) ∧ (okRead [(Kd.int IntKind.u8)] (elemAt v0 0) 0) ∧ T1 ∧ tt ∧ tt ∧ ((bytesAV (tkRest q0 e 1)) = v2 ∧ (tkErr (List.length q0) e 1) = v4 ∧ (inByteV q0 e) = (rdInt (elemAt v0 0) 0) ∧ True) ∧ tt)))) : inInByte0 xs e :=
  Eq.mp (show _ = _ by kernel_rfl) h
theorem vcInTruth0 (xs : (List AV)) (e : Int) (h : let q0 := (bytesAV (tkRest (bytesL xs) e 1)); let q1 := (bytesL xs); (tt ∧ T1 ∧ tt ∧ T1 ∧ (T1 ∧ (isBytes xs)) ∧ ∀ v0 : Int, (v0 = (inByteV q1 e)) → ∀ v2 : (List AV), (v2 = q0) → ∀ v4 : Int, (v4 = (tkErr (List.length q1) e 1)) → T1 ∧ tt ∧ T1 ∧ T1 ∧ (bif (decide ((1 : Int) < v0)) then (tt ∧ T1 ∧ (T1 ∧ True) ∧ ∀ v6 : (List AV), (v6 = v2) → ∀ v8 : Int, (v8 = (inFail v4 10)) → tt ∧ T1 ∧ T1 ∧ T1 ∧ tt ∧ T1 ∧ T1 ∧ (bif (v8 == 0) then (T1 ∧ T1 ∧ T1 ∧ T1 ∧ tt ∧ tt ∧ (q0 = v6 ∧ (inTruthE q1 e) = v8 ∧ (inTruthV q1 e) = (v0 == 1) ∧ True) ∧ tt) else (false = false ∧ T1 ∧ tt ∧ tt ∧ (q0 = v6 ∧ (inTruthE q1 e) = v8 ∧ (inTruthV q1 e) = false ∧ True) ∧ tt))) else (tt ∧ T1 ∧ T1 ∧ T1 ∧ tt ∧ T1 ∧ T1 ∧ (bif (v4 == 0) then (T1 ∧ T1 ∧ T1 ∧ T1 ∧ tt ∧ tt ∧ (q0 = v2 ∧ (inTruthE q1 e) = v4 ∧ (inTruthV q1 e) = (v0 == 1) ∧ True) ∧ tt) else (false = false ∧ T1 ∧ tt ∧ tt ∧ (q0 = v2 ∧ (inTruthE q1 e) = v4 ∧ (inTruthV q1 e) = false ∧ True) ∧ tt)))))) : inInTruth0 xs e :=
  Eq.mp (show _ = _ by kernel_rfl) h
theorem vcInShort0 (xs : (List AV)) (e : Int) (m : Int) (h : let q0 := (bytesL xs); let q1 := (bytesAV (shRest q0 e m)); (tt ∧ T1 ∧ tt ∧ T1 ∧ T1 ∧ T1 ∧ tt ∧ T1 ∧ (bif (e != 0) then (tt ∧ T1 ∧ tt ∧ tt ∧ (q1 = xs ∧ (shErr q0 e m) = e ∧ (shV q0 e m) = 0 ∧ True) ∧ tt) else (tt ∧ T1 ∧ T1 ∧ T1 ∧ tt ∧ (T1 ∧ (isBytes xs)) ∧ ∀ v0 : Int, (v0 = ((rShort q0).1 : Int)) → ∀ v2 : Int, (v2 = ((rShort q0).2.1 : Int)) → ∀ v4 : Int, (v4 = ((rShort q0).2.2 : Int)) → T1 ∧ T1 ∧ T1 ∧ T1 ∧ T1 ∧ T1 ∧ T1 ∧ tt ∧ T1 ∧ T1 ∧ T1 ∧ (bif (v4 != 0) then (tt ∧ T1 ∧ T1 ∧ (T1 ∧ True) ∧ ∀ v6 : (List AV), (v6 = xs) → ∀ v8 : Int, (v8 = (inFail e v4)) → tt ∧ T1 ∧ tt ∧ tt ∧ (q1 = v6 ∧ (shErr q0 e m) = v8 ∧ (shV q0 e m) = 0 ∧ True) ∧ tt) else (tt ∧ T1 ∧ T1 ∧ T1 ∧ T1 ∧ (bif (decide (m < v0)) then (tt ∧ T1 ∧ (T1 ∧ True) ∧ ∀ v6 : (List AV), (v6 = xs) → ∀ v8 : Int, (v8 = (inFail e 12)) → tt ∧ T1 ∧ tt ∧ tt ∧ (q1 = v6 ∧ (shErr q0 e m) = v8 ∧ (shV q0 e m) = 0 ∧ True) ∧ tt) else (tt ∧ T1 ∧ T1 ∧ (T1 ∧ (isBytes xs) ∧ (0 : Int) ≤ v2) ∧ ∀ v6 : (List AV), (v6 = (bytesAV (tkOut q0 e v2))) → ∀ v8 : (List AV), (v8 = (bytesAV (tkRest q0 e v2))) → ∀ v10 : Int, (v10 = (tkErr (List.length q0) e v2)) → tt ∧ T1 ∧ T1 ∧ tt ∧ tt ∧ (q1 = v8 ∧ (shErr q0 e m) = v10 ∧ (shV q0 e m) = v0 ∧ True) ∧ tt)))))))) : inInShort0 xs e m :=
  Eq.mp (show _ = _ by kernel_rfl) h
theorem vcInFixed0 (xs : (List AV)) (e : Int) (h : (tt ∧ T1 ∧ tt ∧ T1 ∧ (T1 ∧ (isBytes xs) ∧ (0 : Int) ≤ (8 : Int)) ∧ ∀ v0 : (List AV), (v0 = (bytesAV (tkOut (bytesL xs) e 8))) → ∀ v2 : (List AV), (v2 = (bytesAV (tkRest (bytesL xs) e 8))) → ∀ v4 : Int, (v4 = (tkErr (List.length (bytesL xs)) e 8)) → (T1 ∧ (isBytes v0) ∧ (8 : Int) = 8) ∧ ∀ v6 : Int, (v6 = ((val8 (bytesL v0)) : Int)) → ∀ v8 : Int, (v8 = (@ite.{1} Int ((List.length (bytesL v0)) < 8) (Nat.decLt (List.length (bytesL v0)) 8) (0 : Int) (8 : Int))) → ∀ v10 : Int, (v10 = (@ite.{1} Int ((List.length (bytesL v0)) < 8) (Nat.decLt (List.length (bytesL v0)) 8) (20 : Int) (0 : Int))) → T1 ∧ T1 ∧ T1 ∧ T1 ∧ T1 ∧ T1 ∧ T1 ∧ tt ∧ T1 ∧ T1 ∧ tt ∧ tt ∧ ((bytesAV (tkRest (bytesL xs) e 8)) = v2 ∧ (tkErr (List.length (bytesL xs)) e 8) = v4 ∧ ((val8 (tkOut (bytesL xs) e 8)) : Int) = v6 ∧ True) ∧ tt)) : inInFixed0 xs e :=
  Eq.mp (show _ = _ by kernel_rfl) h
theorem vcInText0 (xs : (List AV)) (e : Int) (m : Int) (h : (tt ∧ T1 ∧ tt ∧ T1 ∧ T1 ∧ T1 ∧ T1 ∧ (T1 ∧ (isBytes xs)) ∧ ∀ v0 : Int, (v0 = (shV (bytesL xs) e (IntKind.wrap IntKind.u64 (@ite.{1} Int (m < 0) (Int.decLt m 0) (0 : Int) m)))) → ∀ v2 : (List AV), (v2 = (bytesAV (shRest (bytesL xs) e (IntKind.wrap IntKind.u64 (@ite.{1} Int (m < 0) (Int.decLt m 0) (0 : Int) m))))) → ∀ v4 : Int, (v4 = (shErr (bytesL xs) e (IntKind.wrap IntKind.u64 (@ite.{1} Int (m < 0) (Int.decLt m 0) (0 : Int) m)))) → T1 ∧ tt ∧ T1 ∧ T1 ∧ T1 ∧ (T1 ∧ (isBytes v2) ∧ (0 : Int) ≤ (IntKind.wrap IntKind.i64 v0)) ∧ ∀ v6 : (List AV), (v6 = (bytesAV (tkOut (bytesL v2) v4 (IntKind.wrap IntKind.i64 v0)))) → ∀ v8 : (List AV), (v8 = (bytesAV (tkRest (bytesL v2) v4 (IntKind.wrap IntKind.i64 v0)))) → ∀ v10 : Int, (v10 = (tkErr (List.length (bytesL v2)) v4 (IntKind.wrap IntKind.i64 v0))) → (isBytes v6) ∧ T1 ∧ tt ∧ tt ∧ ((bytesAV (inTextR (bytesL xs) e m)) = v8 ∧ (inTextE (bytesL xs) e m) = v10 ∧ (inTextV (bytesL xs) e m) = (bytesL v6) ∧ True) ∧ tt)) : inInText0 xs e m :=
  Eq.mp (show _ = _ by kernel_rfl) h
theorem vcInFailed0 (xs : (List AV)) (e : Int) (h : (tt ∧ T1 ∧ tt ∧ T1 ∧ T1 ∧ T1 ∧ tt ∧ T1 ∧ T1 ∧ tt ∧ tt ∧ (xs = xs ∧ e = e ∧ (@Decidable.decide (@Ne.{1} Int e (0 : Int)) (@instDecidableNot (e = 0) (@Int.instDecidableEq e (0 : Int)))) = (e != 0) ∧ True) ∧ tt)) : inInFailed0 xs e :=
  Eq.mp (show _ = _ by kernel_rfl) h
theorem vcInLeft0 (xs : (List AV)) (e : Int) (h : (tt ∧ T1 ∧ tt ∧ T1 ∧ T1 ∧ T1 ∧ tt ∧ T1 ∧ (bif (e != 0) then (tt ∧ T1 ∧ tt ∧ tt ∧ (xs = xs ∧ e = e ∧ (inLeft (bytesL xs) e) = 0 ∧ True) ∧ tt) else (tt ∧ T1 ∧ T1 ∧ T1 ∧ tt ∧ T1 ∧ T1 ∧ tt ∧ tt ∧ (xs = xs ∧ e = e ∧ (inLeft (bytesL xs) e) = ((List.length xs) : Int) ∧ True) ∧ tt)))) : inInLeft0 xs e :=
  Eq.mp (show _ = _ by kernel_rfl) h
theorem vcInEnd0 (xs : (List AV)) (e : Int) (h : (tt ∧ T1 ∧ tt ∧ T1 ∧ (T1 ∧ (isBytes xs)) ∧ ∀ v0 : Int, (v0 = (inLeft (bytesL xs) e)) → ∀ v2 : (List AV), (v2 = xs) → ∀ v4 : Int, (v4 = e) → T1 ∧ (bif (decide ((0 : Int) < v0)) then (tt ∧ T1 ∧ tt ∧ tt ∧ (xs = v2 ∧ e = v4 ∧ (inEnd (bytesL xs) e) = 21 ∧ True) ∧ tt) else (tt ∧ T1 ∧ T1 ∧ T1 ∧ tt ∧ T1 ∧ tt ∧ tt ∧ (xs = v2 ∧ e = v4 ∧ (inEnd (bytesL xs) e) = v4 ∧ True) ∧ tt)))) : inInEnd0 xs e :=
  Eq.mp (show _ = _ by kernel_rfl) h
theorem vcNewIn0 (xs : (List AV)) (h : (tt ∧ T1 ∧ tt ∧ T1 ∧ (T1 ∧ (isBytes xs) ∧ (List.length xs) ≤ 140737488355328) ∧ ∀ v0 : (List AV), (v0 = xs) → ∀ v2 : Nat, (v2 = (List.length xs)) → T1 ∧ T1 ∧ T1 ∧ tt ∧ tt ∧ (xs = v0 ∧ (0 : Int) = 0 ∧ T1 ∧ True) ∧ tt)) : inNewIn0 xs :=
  Eq.mp (show _ = _ by kernel_rfl) h
theorem vcOutByte1 (xs : (List AV)) (p : Nat) (q : Nat) (b : Int) (h : let q0 := (List.length xs); (tt ∧ T1 ∧ tt ∧ T1 ∧ T1 ∧ T1 ∧ T1 ∧ tt ∧ T1 ∧ T1 ∧ (q0 = q0 ∧ ((q0 + 1) * 1) ≤ 140737488355328 ∧ (q0 + 1) ≤ 9223372036854775807 ∧ (okWidth 1 xs) ∧ (okWidth 1 [(AV.int IntKind.u8 b)])) ∧ T1 ∧ T1 ∧ tt ∧ tt ∧ T1 ∧ T1 ∧ tt ∧ tt ∧ ((0 < 1 ∧ (bytesAV (@catL UInt8 (bytesL xs) (encByte b))) = (@catL AV xs [(AV.int IntKind.u8 b)]) ∧ (q0 + 1) = (List.length (@catL AV xs [(AV.int IntKind.u8 b)]))) ∧ T1 ∧ True) ∧ tt)) : inOutByte1 xs p q b :=
  Eq.mp (show _ = _ by kernel_rfl) h
theorem vcOutTruth1 (xs : (List AV)) (p : Nat) (q : Nat) (b : Bool) (h : let q0 := (List.length xs); (tt ∧ T1 ∧ tt ∧ T1 ∧ (bif b then (tt ∧ T1 ∧ ((q0 = q0 ∧ True) ∧ (isBytes xs) ∧ (q0 + 1) ≤ 140737488355328) ∧ ∀ v0 : (List AV), (v0 = (bytesAV (@catL UInt8 (bytesL xs) (encByte 1)))) → ∀ v2 : Nat, (v2 = (List.length (bytesAV (@catL UInt8 (bytesL xs) (encByte 1))))) → T1 ∧ tt ∧ tt ∧ ((0 < 1 ∧ (bytesAV (@catL UInt8 (bytesL xs) (encTruth b))) = v0 ∧ v2 = (List.length v0)) ∧ T1 ∧ True) ∧ tt) else (tt ∧ T1 ∧ ((q0 = q0 ∧ True) ∧ (isBytes xs) ∧ (q0 + 1) ≤ 140737488355328) ∧ ∀ v0 : (List AV), (v0 = (bytesAV (@catL UInt8 (bytesL xs) (encByte 0)))) → ∀ v2 : Nat, (v2 = (List.length (bytesAV (@catL UInt8 (bytesL xs) (encByte 0))))) → T1 ∧ tt ∧ tt ∧ ((0 < 1 ∧ (bytesAV (@catL UInt8 (bytesL xs) (encTruth b))) = v0 ∧ v2 = (List.length v0)) ∧ T1 ∧ True) ∧ tt)))) : inOutTruth1 xs p q b :=
  Eq.mp (show _ = _ by kernel_rfl) h
theorem vcOutShort1 (xs : (List AV)) (p : Nat) (q : Nat) (v : Int) (h : let q0 := (List.length xs); (tt ∧ T1 ∧ tt ∧ T1 ∧ T1 ∧ T1 ∧ T1 ∧ tt ∧ T1 ∧ (T1 ∧ True) ∧ ∀ v0 : (List AV), (v0 = (bytesAV (short (Int.toNat v)))) → ∀ v2 : Nat, (v2 = (List.length (bytesAV (short (Int.toNat v))))) → (q0 = q0 ∧ ((q0 + (List.length v0)) * 1) ≤ 140737488355328 ∧ (q0 + (List.length v0)) ≤ 9223372036854775807 ∧ (okWidth 1 xs) ∧ (okWidth 1 v0)) ∧ T1 ∧ T1 ∧ tt ∧ tt ∧ tt ∧ T1 ∧ T1 ∧ tt ∧ tt ∧ ((0 < 1 ∧ (bytesAV (@catL UInt8 (bytesL xs) (short (Int.toNat v)))) = (@catL AV xs v0) ∧ (q0 + (List.length v0)) = (List.length (@catL AV xs v0))) ∧ T1 ∧ True) ∧ tt)) : inOutShort1 xs p q v :=
  Eq.mp (show _ = _ by kernel_rfl) h
theorem vcOutFixed1 (xs : (List AV)) (p : Nat) (q : Nat) (v : Int) (h : let q0 := (List.length xs); (tt ∧ T1 ∧ tt ∧ T1 ∧ T1 ∧ T1 ∧ T1 ∧ tt ∧ T1 ∧ (T1 ∧ True) ∧ ∀ v0 : (List AV), (v0 = (bytesAV (bytesOf v (cap8 8)))) → ∀ v2 : Nat, (v2 = (List.length (bytesAV (bytesOf v (cap8 8))))) → (q0 = q0 ∧ ((q0 + (List.length v0)) * 1) ≤ 140737488355328 ∧ (q0 + (List.length v0)) ≤ 9223372036854775807 ∧ (okWidth 1 xs) ∧ (okWidth 1 v0)) ∧ T1 ∧ T1 ∧ tt ∧ tt ∧ tt ∧ T1 ∧ T1 ∧ tt ∧ tt ∧ ((0 < 1 ∧ (bytesAV (@catL UInt8 (bytesL xs) (bytesOf v (cap8 8)))) = (@catL AV xs v0) ∧ (q0 + (List.length v0)) = (List.length (@catL AV xs v0))) ∧ T1 ∧ True) ∧ tt)) : inOutFixed1 xs p q v :=
  Eq.mp (show _ = _ by kernel_rfl) h
theorem vcOutText1 (xs : (List AV)) (p : Nat) (q : Nat) (s : (List UInt8)) (h : (tt ∧ T1 ∧ tt ∧ T1 ∧ T1 ∧ T1 ∧ T1 ∧ (((List.length xs) = (List.length xs) ∧ True) ∧ (isBytes xs) ∧ ((List.length xs) + 10) ≤ 140737488355328) ∧ ∀ v0 : (List AV), (v0 = (bytesAV (@catL UInt8 (bytesL xs) (short (Int.toNat (IntKind.wrap IntKind.u64 ((List.length s) : Int))))))) → ∀ v2 : Nat, (v2 = (List.length (bytesAV (@catL UInt8 (bytesL xs) (short (Int.toNat (IntKind.wrap IntKind.u64 ((List.length s) : Int)))))))) → tt ∧ T1 ∧ T1 ∧ T1 ∧ T1 ∧ tt ∧ T1 ∧ (v2 = (List.length v0) ∧ (((List.length v0) + (List.length (bytesAV s))) * 1) ≤ 140737488355328 ∧ ((List.length v0) + (List.length (bytesAV s))) ≤ 9223372036854775807 ∧ (okWidth 1 v0) ∧ (okWidth 1 (bytesAV s))) ∧ T1 ∧ T1 ∧ tt ∧ tt ∧ T1 ∧ T1 ∧ tt ∧ tt ∧ ((0 < 1 ∧ (bytesAV (@catL UInt8 (bytesL xs) (encText s))) = (@catL AV v0 (bytesAV s)) ∧ ((List.length v0) + (List.length (bytesAV s))) = (List.length (@catL AV v0 (bytesAV s)))) ∧ T1 ∧ True) ∧ tt)) : inOutText1 xs p q s :=
  Eq.mp (show _ = _ by kernel_rfl) h
theorem vcOutBytes1 (xs : (List AV)) (p : Nat) (q : Nat) (h : (tt ∧ T1 ∧ tt ∧ T1 ∧ T1 ∧ T1 ∧ tt ∧ (T1 ∧ (isBytes xs) ∧ (List.length xs) ≤ 140737488355328) ∧ ∀ v0 : (List AV), (v0 = xs) → ∀ v2 : Nat, (v2 = (List.length xs)) → T1 ∧ tt ∧ tt ∧ ((0 < 1 ∧ xs = xs ∧ (List.length xs) = (List.length xs)) ∧ xs = v0 ∧ True) ∧ tt)) : inOutBytes1 xs p q :=
  Eq.mp (show _ = _ by kernel_rfl) h
end Go.Proofs.YtfoabkkkdcicgaaGreatDoor
/- The conditions of wire's code hold. -/
namespace Go.Proofs.YtfoabkkkdcicgaaGreatDoor
set_option linter.unusedVariables false
set_option linter.unusedSimpArgs false
open Go.RowKit

theorem cutL_to {α : Type} (l : List α) (k : Nat) : cutL l 0 k = l.take k := by simp [cutL]
theorem cutL_from {α : Type} (l : List α) (k : Nat) : cutL l k l.length = l.drop k := by simp [cutL]
theorem catL_cons (l : List UInt8) (b : UInt8) : catL (bytesAV l) [byteAV b] = bytesAV (catL l [b]) := by simp [catL, bytesAV]
theorem catL_bytes' (l m : List UInt8) : catL (bytesAV l) (bytesAV m) = bytesAV (catL l m) := by simp [catL, bytesAV]
theorem catL_assoc {α : Type} (l m k : List α) : catL (catL l m) k = catL l (catL m k) := by simp [catL]
theorem short_le10 {v : Int} (h0 : 0 ≤ v) (h1 : v ≤ 18446744073709551615) : (short v.toNat).length ≤ 10 := short_len64 _ (by omega)

theorem okInFail0 : OkInFail0 := by
  intro xs e c hq
  refine vcInFail0 xs e c ?_
  simp only [true_and, and_true, forall_eq, eq_self]
  refine cond_prop (fun h => ?_) fun h => ?_
  · simp [inFail] at h ⊢; omega
  · simp [inFail] at h ⊢; omega
theorem tk_fail {n : Nat} {e k : Int} (h : tkOK n e k = false) (l : List UInt8) (hl : l.length = n) : tkRest l e k = l ∧ tkErr n e k = inFail e 20 ∧ tkOut l e k = [] := by
  subst hl
  simp [tkRest, tkErr, tkOut, h]
theorem tk_ok {n : Nat} {e k : Int} (h : tkOK n e k = true) (l : List UInt8) (hl : l.length = n) : tkRest l e k = l.drop k.toNat ∧ tkErr n e k = e ∧ tkOut l e k = l.take k.toNat := by
  subst hl
  simp [tkRest, tkErr, tkOut, h]
theorem okTake0 : OkTake0 := by
  intro xs e k hq
  refine vcTake0 xs e k ?_
  simp only [true_and, and_true, forall_eq, eq_self]
  obtain ⟨hb, hk⟩ := hq
  obtain ⟨l, rfl⟩ := hb.get
  simp only [bytesL_bytesAV, length_bytesAV, cutL_bytes]
  refine cond_prop (fun h => ?_) fun h => cond_prop (fun h' => ?_) fun h' => ?_
  · have := tk_fail (n := l.length) (e := e) (k := k) (by simp [tkOK] at h ⊢; omega) l rfl
    rw [this.1, this.2.1, this.2.2]; exact ⟨rfl, rfl, rfl⟩
  · have := tk_fail (n := l.length) (e := e) (k := k) (by simp [tkOK] at h' ⊢; omega) l rfl
    rw [this.1, this.2.1, this.2.2]; exact ⟨rfl, rfl, rfl⟩
  · have := tk_ok (n := l.length) (e := e) (k := k) (by simp [tkOK] at h h' ⊢; omega) l rfl
    rw [this.1, this.2.1, this.2.2]
    simp at h'
    rw [cutL_from, cutL_to]
    exact ⟨⟨⟨hk, by omega, h'⟩, okWidth_bytes l⟩, ⟨⟨hk, h'⟩, okWidth_bytes l⟩, rfl, rfl, rfl⟩
theorem okInByte0 : OkInByte0 := by
  intro xs e hq
  refine vcInByte0 xs e ?_
  simp only [true_and, and_true, forall_eq, eq_self]
  obtain ⟨l, rfl⟩ := hq.get
  simp only [bytesL_bytesAV, length_bytesAV, rdInt_bytes]
  refine ⟨⟨isBytes_bytesAV l, by omega⟩, cond_prop (fun h => ?_) fun h => ?_⟩
  · have : tkOut l e 1 = [] := by simpa using h
    simp [inByteV, this]
  · have : 0 < (tkOut l e 1).length := by
      simp at h
      exact List.length_pos_iff.2 h
    exact ⟨⟨by omega, by omega, okElem_bytes this⟩, okRead_bytes this, rfl⟩
theorem okInTruth0 : OkInTruth0 := by
  intro xs e hq
  refine vcInTruth0 xs e ?_
  simp only [true_and, and_true, forall_eq, eq_self]
  refine ⟨hq, cond_prop (fun h => cond_prop (fun h' => ?_) fun h' => ?_) fun h => cond_prop (fun h' => ?_) fun h' => ?_⟩
  all_goals
    simp only [decide_eq_true_eq, decide_eq_false_iff_not, beq_iff_eq, beq_eq_false_iff_ne, ne_eq] at h h'
    simp [inTruthE, inTruthV, h, h']
theorem okInShort0 : OkInShort0 := by
  intro xs e m hq
  refine vcInShort0 xs e m ?_
  simp only [true_and, and_true, forall_eq, eq_self]
  obtain ⟨l, rfl⟩ := hq.get
  simp only [bytesL_bytesAV, length_bytesAV]
  refine cond_prop (fun h => ?_) fun h => ⟨hq, cond_prop (fun h' => ?_) fun h' => cond_prop (fun h'' => ?_) fun h'' => ?_⟩
  · simp at h; simp [shRest, shErr, shV, h]
  · simp at h h'; simp [shRest, shErr, shV, h, h', inFail]
  · simp at h h' h''; simp [shRest, shErr, shV, h, h', h'', inFail]
  · simp at h h' h''
    have hr := rShort_reads (l := l) (v := (rShort l).1) (n := (rShort l).2.1) (by rw [← h'])
    have hok : tkOK l.length e ((rShort l).2.1 : Int) = true := by simp [tkOK, h]; exact hr.1
    have := tk_ok hok l rfl
    rw [this.1, this.2.1]
    have hm : ¬ m < ((rShort l).1 : Int) := by omega
    refine ⟨⟨hq, by omega⟩, ?_⟩
    simp [shRest, shErr, shV, h, h', hm]
theorem okInFixed0 : OkInFixed0 := by
  intro xs e hq
  refine vcInFixed0 xs e ?_
  simp only [true_and, and_true, forall_eq, eq_self]
  simp only [bytesL_bytesAV]
  exact ⟨⟨hq, by omega⟩, isBytes_bytesAV _, trivial⟩
theorem shV_range (l : List UInt8) (e m : Int) (hm : 0 ≤ m) : 0 ≤ shV l e m ∧ shV l e m ≤ m := by
  unfold shV
  split
  · omega
  · split
    · omega
    · split <;> omega
theorem okInText0 : OkInText0 := by
  intro xs e m hq hm
  refine vcInText0 xs e m ?_
  simp only [true_and, and_true, forall_eq, eq_self]
  have e1 : IntKind.u64.wrap (if m < 0 then 0 else m) = most0 m := by
    unfold most0
    split
    · rfl
    · rw [wrap_u64 (by omega) (by omega)]
  have h0 : 0 ≤ most0 m ∧ most0 m ≤ 9223372036854775807 := by unfold most0; split <;> omega
  have hr := shV_range (bytesL xs) e (most0 m) h0.1
  have e2 : IntKind.i64.wrap (shV (bytesL xs) e (most0 m)) = shV (bytesL xs) e (most0 m) := wrap_i64 (by omega) (by omega)
  simp only [e1, e2, bytesL_bytesAV]
  exact ⟨hq, ⟨isBytes_bytesAV _, hr.1⟩, isBytes_bytesAV _, rfl, rfl, rfl⟩
theorem okInFailed0 : OkInFailed0 := by
  intro xs e hq
  refine vcInFailed0 xs e ?_
  simp only [true_and, and_true, forall_eq, eq_self]
  rw [Bool.eq_iff_iff]; simp
theorem okInLeft0 : OkInLeft0 := by
  intro xs e hq
  refine vcInLeft0 xs e ?_
  simp only [true_and, and_true, forall_eq, eq_self]
  obtain ⟨l, rfl⟩ := hq.get
  simp only [bytesL_bytesAV, length_bytesAV]
  refine cond_prop (fun h => ?_) fun h => ?_
  · simp at h; simp [inLeft, h]
  · simp at h; simp [inLeft, h]
theorem okInEnd0 : OkInEnd0 := by
  intro xs e hq
  refine vcInEnd0 xs e ?_
  simp only [true_and, and_true, forall_eq, eq_self]
  refine ⟨hq, cond_prop (fun h => ?_) fun h => ?_⟩
  · simp at h; simp [inEnd, h]
  · simp at h
    have : ¬ 0 < inLeft (bytesL xs) e := by omega
    simp [inEnd, this]
theorem okNewIn0 : OkNewIn0 := by
  intro xs hq
  refine vcNewIn0 xs ?_
  simp only [true_and, and_true, forall_eq, eq_self]
  exact hq
theorem okOutByte1 : OkOutByte1 := by
  intro xs p q b hq hb
  refine vcOutByte1 xs p q b ?_
  simp only [true_and, and_true, forall_eq, eq_self]
  obtain ⟨hq, hl⟩ := hq
  obtain ⟨l, rfl⟩ := hq.get
  rw [byte_int hb.1 hb.2]
  simp only [bytesL_bytesAV, length_bytesAV, catL_cons, catL_length] at hl ⊢
  exact ⟨⟨by omega, by omega, okWidth_bytes l, okWidth_cons rfl (okWidth_nil 1)⟩, by omega, rfl, by simp⟩
theorem okOutTruth1 : OkOutTruth1 := by
  intro xs p q b hq
  refine vcOutTruth1 xs p q b ?_
  simp only [true_and, and_true, forall_eq, eq_self]
  cases b
  · exact ⟨hq, by omega, rfl⟩
  · exact ⟨hq, by omega, rfl⟩
theorem okOutShort1 : OkOutShort1 := by
  intro xs p q v hq hv
  refine vcOutShort1 xs p q v ?_
  simp only [true_and, and_true, forall_eq, eq_self, length_bytesAV]
  obtain ⟨hq, hl⟩ := hq
  obtain ⟨l, rfl⟩ := hq.get
  have := short_le10 hv.1 hv.2
  simp only [bytesL_bytesAV, length_bytesAV, catL_bytes', catL_length] at hl ⊢
  exact ⟨⟨by omega, by omega, okWidth_bytes _, okWidth_bytes _⟩, by omega, trivial, trivial⟩
theorem bytesOf8 (v : Int) : (bytesOf v 8).length = 8 := bytesOf_len v 8
theorem okOutFixed1 : OkOutFixed1 := by
  intro xs p q v hq
  refine vcOutFixed1 xs p q v ?_
  simp only [true_and, and_true, forall_eq, eq_self, length_bytesAV]
  obtain ⟨hq, hl⟩ := hq
  obtain ⟨l, rfl⟩ := hq.get
  have e8 : cap8 8 = 8 := rfl
  simp only [bytesL_bytesAV, length_bytesAV, catL_bytes', catL_length, bytesOf8, e8] at hl ⊢
  exact ⟨⟨by omega, by omega, okWidth_bytes _, okWidth_bytes _⟩, by omega, trivial, trivial⟩
theorem okOutText1 : OkOutText1 := by
  intro xs p q s hq
  refine vcOutText1 xs p q s ?_
  obtain ⟨hq, hl⟩ := hq
  obtain ⟨l, rfl⟩ := hq.get
  have e1 : IntKind.u64.wrap (s.length : Int) = s.length := wrap_u64 (by omega) (by omega)
  have := short_le10 (v := (s.length : Int)) (by omega) (by omega)
  rw [e1]
  simp only [true_and, and_true, forall_eq, eq_self, length_bytesAV, bytesL_bytesAV, catL_bytes', catL_length, Int.toNat_natCast] at this hl ⊢
  refine ⟨⟨hq, by omega⟩, ⟨by omega, by omega, okWidth_bytes _, okWidth_bytes _⟩, by omega, ?_⟩
  rw [catL_assoc]; rfl
theorem okOutBytes1 : OkOutBytes1 := by
  intro xs p q hq
  refine vcOutBytes1 xs p q ?_
  simp only [true_and, and_true, forall_eq, eq_self]
  exact ⟨hq, by omega⟩
end Go.Proofs.YtfoabkkkdcicgaaGreatDoor
/- The contracts are met. -/
namespace Go.Proofs.YtfoabkkkdcicgaaGreatDoor
set_option linter.unusedVariables false
set_option linter.unusedSimpArgs false
open Go.RowKit
theorem sndInFail : Sound Tryz.prog (lookΓ gamInFail) := sound_of _ fun p hp => by
  simp [gamInFail] at hp
set_option maxHeartbeats 4000000 in
theorem meetsInFail : Meets Tryz.prog 60 inFailF := by
  refine meets_of_awp (Γ := lookΓ gamInFail) (L := fun _ _ => none) sndInFail mixedOrders Tryz.func60 rfl Tryz.call60 ?_
  intro args q r hF hq ho
  unfold inFailF at hF
  split at hF
  · cases hF
    exact ⟨by simp only [List.length_cons, List.length_nil]; decide, okInFail0 _ _ _ hq⟩
  · cases hF
theorem sndTake : Sound Tryz.prog (lookΓ gamTake) := sound_of _ fun p hp => by
  simp only [gamTake, List.mem_cons, List.not_mem_nil, or_false] at hp
  subst hp
  exact meetsInFail.orNil
set_option maxHeartbeats 4000000 in
theorem meetsTake : Meets Tryz.prog 87 takeF := by
  refine meets_of_awp (Γ := lookΓ gamTake) (L := fun _ _ => none) sndTake mixedOrders Tryz.func87 rfl Tryz.call87 ?_
  intro args q r hF hq ho
  unfold takeF at hF
  split at hF
  · cases hF
    exact ⟨by simp only [List.length_cons, List.length_nil]; decide, okTake0 _ _ _ hq⟩
  · cases hF
theorem sndInByte : Sound Tryz.prog (lookΓ gamInByte) := sound_of _ fun p hp => by
  simp only [gamInByte, List.mem_cons, List.not_mem_nil, or_false] at hp
  subst hp
  exact meetsTake.orNil
set_option maxHeartbeats 4000000 in
theorem meetsInByte : Meets Tryz.prog 59 inByteF := by
  refine meets_of_awp (Γ := lookΓ gamInByte) (L := fun _ _ => none) sndInByte mixedOrders Tryz.func59 rfl Tryz.call59 ?_
  intro args q r hF hq ho
  unfold inByteF at hF
  split at hF
  · cases hF
    exact ⟨by simp only [List.length_cons, List.length_nil]; decide, okInByte0 _ _ hq⟩
  · cases hF
theorem sndInTruth : Sound Tryz.prog (lookΓ gamInTruth) := sound_of _ fun p hp => by
  simp only [gamInTruth, List.mem_cons, List.not_mem_nil, or_false] at hp
  rcases hp with rfl | rfl
  · exact meetsInByte.orNil
  · exact meetsInFail.orNil
set_option maxHeartbeats 4000000 in
theorem meetsInTruth : Meets Tryz.prog 61 inTruthF := by
  refine meets_of_awp (Γ := lookΓ gamInTruth) (L := fun _ _ => none) sndInTruth mixedOrders Tryz.func61 rfl Tryz.call61 ?_
  intro args q r hF hq ho
  unfold inTruthF at hF
  split at hF
  · cases hF
    exact ⟨by simp only [List.length_cons, List.length_nil]; decide, okInTruth0 _ _ hq⟩
  · cases hF
theorem sndInShort : Sound Tryz.prog (lookΓ gamInShort) := sound_of _ fun p hp => by
  simp only [gamInShort, List.mem_cons, List.not_mem_nil, or_false] at hp
  rcases hp with rfl | rfl | rfl
  · exact meetsReadShort.orNil
  · exact meetsInFail.orNil
  · exact meetsTake.orNil
set_option maxHeartbeats 4000000 in
theorem meetsInShort : Meets Tryz.prog 86 inShortF := by
  refine meets_of_awp (Γ := lookΓ gamInShort) (L := fun _ _ => none) sndInShort mixedOrders Tryz.func86 rfl Tryz.call86 ?_
  intro args q r hF hq ho
  unfold inShortF at hF
  split at hF
  · cases hF
    exact ⟨by simp only [List.length_cons, List.length_nil]; decide, okInShort0 _ _ _ hq⟩
  · cases hF
theorem sndInFixed : Sound Tryz.prog (lookΓ gamInFixed) := sound_of _ fun p hp => by
  simp only [gamInFixed, List.mem_cons, List.not_mem_nil, or_false] at hp
  rcases hp with rfl | rfl
  · exact meetsTake.orNil
  · exact meetsNumRead.orNil
set_option maxHeartbeats 4000000 in
theorem meetsInFixed : Meets Tryz.prog 99 inFixedF := by
  refine meets_of_awp (Γ := lookΓ gamInFixed) (L := fun _ _ => none) sndInFixed mixedOrders Tryz.func99 rfl Tryz.call99 ?_
  intro args q r hF hq ho
  unfold inFixedF at hF
  split at hF
  · cases hF
    exact ⟨by simp only [List.length_cons, List.length_nil]; decide, okInFixed0 _ _ hq⟩
  · cases hF
theorem sndInText : Sound Tryz.prog (lookΓ gamInText) := sound_of _ fun p hp => by
  simp only [gamInText, List.mem_cons, List.not_mem_nil, or_false] at hp
  rcases hp with rfl | rfl
  · exact meetsInShort.orNil
  · exact meetsTake.orNil
set_option maxHeartbeats 4000000 in
theorem meetsInText : Meets Tryz.prog 100 inTextF := by
  refine meets_of_awp (Γ := lookΓ gamInText) (L := fun _ _ => none) sndInText mixedOrders Tryz.func100 rfl Tryz.call100 ?_
  intro args q r hF hq ho
  unfold inTextF at hF
  split at hF
  · cases hF
    exact ⟨by simp only [List.length_cons, List.length_nil]; decide, okInText0 _ _ _ hq (okay_i64 (argI 1 ho rfl rfl))⟩
  · cases hF
theorem sndInFailed : Sound Tryz.prog (lookΓ gamInFailed) := sound_of _ fun p hp => by
  simp [gamInFailed] at hp
set_option maxHeartbeats 4000000 in
theorem meetsInFailed : Meets Tryz.prog 64 inFailedF := by
  refine meets_of_awp (Γ := lookΓ gamInFailed) (L := fun _ _ => none) sndInFailed mixedOrders Tryz.func64 rfl Tryz.call64 ?_
  intro args q r hF hq ho
  unfold inFailedF at hF
  split at hF
  · cases hF
    exact ⟨by simp only [List.length_cons, List.length_nil]; decide, okInFailed0 _ _ hq⟩
  · cases hF
theorem sndInLeft : Sound Tryz.prog (lookΓ gamInLeft) := sound_of _ fun p hp => by
  simp [gamInLeft] at hp
set_option maxHeartbeats 4000000 in
theorem meetsInLeft : Meets Tryz.prog 65 inLeftF := by
  refine meets_of_awp (Γ := lookΓ gamInLeft) (L := fun _ _ => none) sndInLeft mixedOrders Tryz.func65 rfl Tryz.call65 ?_
  intro args q r hF hq ho
  unfold inLeftF at hF
  split at hF
  · cases hF
    exact ⟨by simp only [List.length_cons, List.length_nil]; decide, okInLeft0 _ _ hq⟩
  · cases hF
theorem sndInEnd : Sound Tryz.prog (lookΓ gamInEnd) := sound_of _ fun p hp => by
  simp only [gamInEnd, List.mem_cons, List.not_mem_nil, or_false] at hp
  subst hp
  exact meetsInLeft.orNil
set_option maxHeartbeats 4000000 in
theorem meetsInEnd : Meets Tryz.prog 29 inEndF := by
  refine meets_of_awp (Γ := lookΓ gamInEnd) (L := fun _ _ => none) sndInEnd mixedOrders Tryz.func29 rfl Tryz.call29 ?_
  intro args q r hF hq ho
  unfold inEndF at hF
  split at hF
  · cases hF
    exact ⟨by simp only [List.length_cons, List.length_nil]; decide, okInEnd0 _ _ hq⟩
  · cases hF
theorem sndNewIn : Sound Tryz.prog (lookΓ gamNewIn) := sound_of _ fun p hp => by
  simp only [gamNewIn, List.mem_cons, List.not_mem_nil, or_false] at hp
  subst hp
  exact meetsClone.orNil
set_option maxHeartbeats 4000000 in
theorem meetsNewIn : Meets Tryz.prog 27 newInF := by
  refine meets_of_awp (Γ := lookΓ gamNewIn) (L := fun _ _ => none) sndNewIn mixedOrders Tryz.func27 rfl Tryz.call27 ?_
  intro args q r hF hq ho
  unfold newInF at hF
  split at hF
  · cases hF
    exact ⟨by simp only [List.length_cons, List.length_nil]; decide, okNewIn0 _ hq⟩
  · cases hF
theorem sndOutByte : Sound Tryz.prog (lookΓ gamOutByte) := sound_of _ fun p hp => by
  simp [gamOutByte] at hp
set_option maxHeartbeats 4000000 in
theorem meetsOutByte : Meets Tryz.prog 41 outByteF := by
  refine meets_of_awp (Γ := lookΓ gamOutByte) (L := fun _ _ => none) sndOutByte mixedOrders Tryz.func41 rfl Tryz.call41 ?_
  intro args q r hF hq ho
  unfold outByteF at hF
  split at hF
  · split at hF
    · rename_i hte
      subst hte
      cases hF
      exact ⟨by simp only [List.length_cons, List.length_nil]; decide, okOutByte1 _ _ _ _ hq (okay_u8 (argI 1 ho rfl rfl))⟩
    · cases hF
  · cases hF
theorem sndOutTruth : Sound Tryz.prog (lookΓ gamOutTruth) := sound_of _ fun p hp => by
  simp only [gamOutTruth, List.mem_cons, List.not_mem_nil, or_false] at hp
  subst hp
  exact meetsOutByte.orNil
set_option maxHeartbeats 4000000 in
theorem meetsOutTruth : Meets Tryz.prog 44 outTruthF := by
  refine meets_of_awp (Γ := lookΓ gamOutTruth) (L := fun _ _ => none) sndOutTruth mixedOrders Tryz.func44 rfl Tryz.call44 ?_
  intro args q r hF hq ho
  unfold outTruthF at hF
  split at hF
  · split at hF
    · rename_i hte
      subst hte
      cases hF
      exact ⟨by simp only [List.length_cons, List.length_nil]; decide, okOutTruth1 _ _ _ _ hq⟩
    · cases hF
  · cases hF
theorem sndOutShort : Sound Tryz.prog (lookΓ gamOutShort) := sound_of _ fun p hp => by
  simp only [gamOutShort, List.mem_cons, List.not_mem_nil, or_false] at hp
  subst hp
  exact meetsNumShort.orNil
set_option maxHeartbeats 4000000 in
theorem meetsOutShort : Meets Tryz.prog 75 outShortF := by
  refine meets_of_awp (Γ := lookΓ gamOutShort) (L := fun _ _ => none) sndOutShort mixedOrders Tryz.func75 rfl Tryz.call75 ?_
  intro args q r hF hq ho
  unfold outShortF at hF
  split at hF
  · split at hF
    · rename_i hte
      subst hte
      cases hF
      exact ⟨by simp only [List.length_cons, List.length_nil]; decide, okOutShort1 _ _ _ _ hq (okay_u64 (argI 1 ho rfl rfl))⟩
    · cases hF
  · cases hF
theorem sndOutFixed : Sound Tryz.prog (lookΓ gamOutFixed) := sound_of _ fun p hp => by
  simp only [gamOutFixed, List.mem_cons, List.not_mem_nil, or_false] at hp
  subst hp
  exact meetsNumBytes.orNil
set_option maxHeartbeats 4000000 in
theorem meetsOutFixed : Meets Tryz.prog 91 outFixedF := by
  refine meets_of_awp (Γ := lookΓ gamOutFixed) (L := fun _ _ => none) sndOutFixed mixedOrders Tryz.func91 rfl Tryz.call91 ?_
  intro args q r hF hq ho
  unfold outFixedF at hF
  split at hF
  · split at hF
    · rename_i hte
      subst hte
      cases hF
      exact ⟨by simp only [List.length_cons, List.length_nil]; decide, okOutFixed1 _ _ _ _ hq⟩
    · cases hF
  · cases hF
theorem sndOutText : Sound Tryz.prog (lookΓ gamOutText) := sound_of _ fun p hp => by
  simp only [gamOutText, List.mem_cons, List.not_mem_nil, or_false] at hp
  subst hp
  exact meetsOutShort.orNil
set_option maxHeartbeats 4000000 in
theorem meetsOutText : Meets Tryz.prog 92 outTextF := by
  refine meets_of_awp (Γ := lookΓ gamOutText) (L := fun _ _ => none) sndOutText mixedOrders Tryz.func92 rfl Tryz.call92 ?_
  intro args q r hF hq ho
  unfold outTextF at hF
  split at hF
  · split at hF
    · rename_i hte
      subst hte
      cases hF
      exact ⟨by simp only [List.length_cons, List.length_nil]; decide, okOutText1 _ _ _ _ hq⟩
    · cases hF
  · cases hF
theorem sndOutBytes : Sound Tryz.prog (lookΓ gamOutBytes) := sound_of _ fun p hp => by
  simp only [gamOutBytes, List.mem_cons, List.not_mem_nil, or_false] at hp
  subst hp
  exact meetsClone.orNil
set_option maxHeartbeats 4000000 in
theorem meetsOutBytes : Meets Tryz.prog 38 outBytesF := by
  refine meets_of_awp (Γ := lookΓ gamOutBytes) (L := fun _ _ => none) sndOutBytes mixedOrders Tryz.func38 rfl Tryz.call38 ?_
  intro args q r hF hq ho
  unfold outBytesF at hF
  split at hF
  · split at hF
    · rename_i hte
      subst hte
      cases hF
      exact ⟨by simp only [List.length_cons, List.length_nil]; decide, okOutBytes1 _ _ _ hq⟩
    · cases hF
  · cases hF
end Go.Proofs.YtfoabkkkdcicgaaGreatDoor
