/- Contracts by content, and the conditions that their code must meet. -/
import Derived.Test.YtledoikeaidlfaaLaxClone
namespace Go.Proofs.Ytledoikeaidlfaa
set_option linter.unusedVariables false
set_option linter.unusedSimpArgs false
open Go.RowKit
/-- the first error stays -/
def inFail (e c : Int) : Int := if e = 0 then c else e
def tkOK (n : Nat) (e k : Int) : Bool := decide (e = 0 ∧ k ≤ n)
def tkOut (l : List UInt8) (e k : Int) : List UInt8 := if tkOK l.length e k then l.take k.toNat else []
def tkRest (l : List UInt8) (e k : Int) : List UInt8 := if tkOK l.length e k then l.drop k.toNat else l
def tkErr (n : Nat) (e k : Int) : Int := if tkOK n e k then e else inFail e 20
def inByteV (l : List UInt8) (e : Int) : Int := ((tkOut l e 1).getD 0 0).toNat
def inTruthE (l : List UInt8) (e : Int) : Int := if 1 < inByteV l e then inFail (tkErr l.length e 1) 10 else tkErr l.length e 1
def inTruthV (l : List UInt8) (e : Int) : Bool := decide (inTruthE l e = 0) && (inByteV l e == 1)
/-- a short number: its value, what is left, the error -/
def shV (l : List UInt8) (e m : Int) : Int := if e ≠ 0 then 0 else if (rShort l).2.2 ≠ 0 then 0 else if m < (rShort l).1 then 0 else (rShort l).1
def shRest (l : List UInt8) (e m : Int) : List UInt8 := if e ≠ 0 then l else if (rShort l).2.2 ≠ 0 then l else if m < (rShort l).1 then l else l.drop (rShort l).2.1
def shErr (l : List UInt8) (e m : Int) : Int := if e ≠ 0 then e else if (rShort l).2.2 ≠ 0 then (rShort l).2.2 else if m < (rShort l).1 then 12 else 0
def most0 (m : Int) : Int := if m < 0 then 0 else m
def inTextV (l : List UInt8) (e m : Int) : List UInt8 := tkOut (shRest l e (most0 m)) (shErr l e (most0 m)) (shV l e (most0 m))
def inTextR (l : List UInt8) (e m : Int) : List UInt8 := tkRest (shRest l e (most0 m)) (shErr l e (most0 m)) (shV l e (most0 m))
def inTextE (l : List UInt8) (e m : Int) : Int := tkErr (shRest l e (most0 m)).length (shErr l e (most0 m)) (shV l e (most0 m))
def inLeft (l : List UInt8) (e : Int) : Int := if e ≠ 0 then 0 else l.length
def inEnd (l : List UInt8) (e : Int) : Int := if 0 < inLeft l e then 21 else e
def encByte (b : Int) : List UInt8 := [UInt8.ofNat b.toNat]
def encTruth (b : Bool) : List UInt8 := [if b then 1 else 0]
def encText (s : List UInt8) : List UInt8 := short s.length ++ s
def inFailF : Con
  | [.box [.sl xs .no, .int .i64 e], .val (.int .i64 c)] => some (True, ⟨.tup [], (some [.sl xs .no, .int .i64 (inFail e c)]), none⟩)
  | _ => none
def gamInFail : List (Nat × Con) := []
def lpInFail0 (xs : List AV) (e c : Int) : Nat → Option LoopPlan := fun _ => none
def inInFail0 (xs : List AV) (e c : Int) : Prop := awp [0] (lpInFail0 xs e c) (lookΓ gamInFail) Try.prog Try.f47.ntmps 0 (Try.f47.body.getD .skip) (entrySt [.box [.sl xs .no, .int .i64 e], .val (.int .i64 c)]) (exitQ Try.prog Try.f47.results.toList [0] ⟨.tup [], (some [.sl xs .no, .int .i64 (inFail e c)]), none⟩)
def OkInFail0 : Prop := ∀ (xs : List AV) (e c : Int), True → inInFail0 xs e c
def takeF : Con
  | [.box [.sl xs .no, .int .i64 e], .val (.int .i64 k)] => some (isBytes xs ∧ 0 ≤ k, ⟨.sl (bytesAV (tkOut (bytesL xs) e k)) .no, (some [.sl (bytesAV (tkRest (bytesL xs) e k)) .no, .int .i64 (tkErr (bytesL xs).length e k)]), none⟩)
  | _ => none
def gamTake : List (Nat × Con) := [(47, inFailF)]
def lpTake0 (xs : List AV) (e k : Int) : Nat → Option LoopPlan := fun _ => none
def inTake0 (xs : List AV) (e k : Int) : Prop := awp [0] (lpTake0 xs e k) (lookΓ gamTake) Try.prog Try.f56.ntmps 0 (Try.f56.body.getD .skip) (entrySt [.box [.sl xs .no, .int .i64 e], .val (.int .i64 k)]) (exitQ Try.prog Try.f56.results.toList [0] ⟨.sl (bytesAV (tkOut (bytesL xs) e k)) .no, (some [.sl (bytesAV (tkRest (bytesL xs) e k)) .no, .int .i64 (tkErr (bytesL xs).length e k)]), none⟩)
def OkTake0 : Prop := ∀ (xs : List AV) (e k : Int), isBytes xs ∧ 0 ≤ k → inTake0 xs e k
def inByteF : Con
  | [.box [.sl xs .no, .int .i64 e]] => some (isBytes xs, ⟨.int .u8 (inByteV (bytesL xs) e), (some [.sl (bytesAV (tkRest (bytesL xs) e 1)) .no, .int .i64 (tkErr (bytesL xs).length e 1)]), none⟩)
  | _ => none
def gamInByte : List (Nat × Con) := [(56, takeF)]
def lpInByte0 (xs : List AV) (e : Int) : Nat → Option LoopPlan := fun _ => none
def inInByte0 (xs : List AV) (e : Int) : Prop := awp [0] (lpInByte0 xs e) (lookΓ gamInByte) Try.prog Try.f34.ntmps 0 (Try.f34.body.getD .skip) (entrySt [.box [.sl xs .no, .int .i64 e]]) (exitQ Try.prog Try.f34.results.toList [0] ⟨.int .u8 (inByteV (bytesL xs) e), (some [.sl (bytesAV (tkRest (bytesL xs) e 1)) .no, .int .i64 (tkErr (bytesL xs).length e 1)]), none⟩)
def OkInByte0 : Prop := ∀ (xs : List AV) (e : Int), isBytes xs → inInByte0 xs e
def inTruthF : Con
  | [.box [.sl xs .no, .int .i64 e]] => some (isBytes xs, ⟨.bool (inTruthV (bytesL xs) e), (some [.sl (bytesAV (tkRest (bytesL xs) e 1)) .no, .int .i64 (inTruthE (bytesL xs) e)]), none⟩)
  | _ => none
def gamInTruth : List (Nat × Con) := [(34, inByteF), (47, inFailF)]
def lpInTruth0 (xs : List AV) (e : Int) : Nat → Option LoopPlan := fun _ => none
def inInTruth0 (xs : List AV) (e : Int) : Prop := awp [0] (lpInTruth0 xs e) (lookΓ gamInTruth) Try.prog Try.f35.ntmps 0 (Try.f35.body.getD .skip) (entrySt [.box [.sl xs .no, .int .i64 e]]) (exitQ Try.prog Try.f35.results.toList [0] ⟨.bool (inTruthV (bytesL xs) e), (some [.sl (bytesAV (tkRest (bytesL xs) e 1)) .no, .int .i64 (inTruthE (bytesL xs) e)]), none⟩)
def OkInTruth0 : Prop := ∀ (xs : List AV) (e : Int), isBytes xs → inInTruth0 xs e
def inShortF : Con
  | [.box [.sl xs .no, .int .i64 e], .val (.int .u64 m)] => some (isBytes xs, ⟨.int .u64 (shV (bytesL xs) e m), (some [.sl (bytesAV (shRest (bytesL xs) e m)) .no, .int .i64 (shErr (bytesL xs) e m)]), none⟩)
  | _ => none
def gamInShort : List (Nat × Con) := [(57, readShortF), (47, inFailF), (56, takeF)]
def lpInShort0 (xs : List AV) (e m : Int) : Nat → Option LoopPlan := fun _ => none
def inInShort0 (xs : List AV) (e m : Int) : Prop := awp [0] (lpInShort0 xs e m) (lookΓ gamInShort) Try.prog Try.f36.ntmps 0 (Try.f36.body.getD .skip) (entrySt [.box [.sl xs .no, .int .i64 e], .val (.int .u64 m)]) (exitQ Try.prog Try.f36.results.toList [0] ⟨.int .u64 (shV (bytesL xs) e m), (some [.sl (bytesAV (shRest (bytesL xs) e m)) .no, .int .i64 (shErr (bytesL xs) e m)]), none⟩)
def OkInShort0 : Prop := ∀ (xs : List AV) (e m : Int), isBytes xs → inInShort0 xs e m
def inFixedF : Con
  | [.box [.sl xs .no, .int .i64 e]] => some (isBytes xs, ⟨.int .u64 (val8 (tkOut (bytesL xs) e 8)), (some [.sl (bytesAV (tkRest (bytesL xs) e 8)) .no, .int .i64 (tkErr (bytesL xs).length e 8)]), none⟩)
  | _ => none
def gamInFixed : List (Nat × Con) := [(56, takeF), (58, numReadF)]
def lpInFixed0 (xs : List AV) (e : Int) : Nat → Option LoopPlan := fun _ => none
def inInFixed0 (xs : List AV) (e : Int) : Prop := awp [0] (lpInFixed0 xs e) (lookΓ gamInFixed) Try.prog Try.f37.ntmps 0 (Try.f37.body.getD .skip) (entrySt [.box [.sl xs .no, .int .i64 e]]) (exitQ Try.prog Try.f37.results.toList [0] ⟨.int .u64 (val8 (tkOut (bytesL xs) e 8)), (some [.sl (bytesAV (tkRest (bytesL xs) e 8)) .no, .int .i64 (tkErr (bytesL xs).length e 8)]), none⟩)
def OkInFixed0 : Prop := ∀ (xs : List AV) (e : Int), isBytes xs → inInFixed0 xs e
def inTextF : Con
  | [.box [.sl xs .no, .int .i64 e], .val (.int .i64 m)] => some (isBytes xs, ⟨.str (inTextV (bytesL xs) e m), (some [.sl (bytesAV (inTextR (bytesL xs) e m)) .no, .int .i64 (inTextE (bytesL xs) e m)]), none⟩)
  | _ => none
def gamInText : List (Nat × Con) := [(36, inShortF), (56, takeF)]
def lpInText0 (xs : List AV) (e m : Int) : Nat → Option LoopPlan := fun _ => none
def inInText0 (xs : List AV) (e m : Int) : Prop := awp [0] (lpInText0 xs e m) (lookΓ gamInText) Try.prog Try.f38.ntmps 0 (Try.f38.body.getD .skip) (entrySt [.box [.sl xs .no, .int .i64 e], .val (.int .i64 m)]) (exitQ Try.prog Try.f38.results.toList [0] ⟨.str (inTextV (bytesL xs) e m), (some [.sl (bytesAV (inTextR (bytesL xs) e m)) .no, .int .i64 (inTextE (bytesL xs) e m)]), none⟩)
def OkInText0 : Prop := ∀ (xs : List AV) (e m : Int), isBytes xs → (-9223372036854775808 ≤ m ∧ m ≤ 9223372036854775807) → inInText0 xs e m
def inFailedF : Con
  | [.box [.sl xs .no, .int .i64 e]] => some (True, ⟨.bool (decide (e ≠ 0)), (some [.sl xs .no, .int .i64 e]), none⟩)
  | _ => none
def gamInFailed : List (Nat × Con) := []
def lpInFailed0 (xs : List AV) (e : Int) : Nat → Option LoopPlan := fun _ => none
def inInFailed0 (xs : List AV) (e : Int) : Prop := awp [0] (lpInFailed0 xs e) (lookΓ gamInFailed) Try.prog Try.f28.ntmps 0 (Try.f28.body.getD .skip) (entrySt [.box [.sl xs .no, .int .i64 e]]) (exitQ Try.prog Try.f28.results.toList [0] ⟨.bool (decide (e ≠ 0)), (some [.sl xs .no, .int .i64 e]), none⟩)
def OkInFailed0 : Prop := ∀ (xs : List AV) (e : Int), True → inInFailed0 xs e
def inLeftF : Con
  | [.box [.sl xs .no, .int .i64 e]] => some (isBytes xs, ⟨.int .i64 (inLeft (bytesL xs) e), (some [.sl xs .no, .int .i64 e]), none⟩)
  | _ => none
def gamInLeft : List (Nat × Con) := []
def lpInLeft0 (xs : List AV) (e : Int) : Nat → Option LoopPlan := fun _ => none
def inInLeft0 (xs : List AV) (e : Int) : Prop := awp [0] (lpInLeft0 xs e) (lookΓ gamInLeft) Try.prog Try.f27.ntmps 0 (Try.f27.body.getD .skip) (entrySt [.box [.sl xs .no, .int .i64 e]]) (exitQ Try.prog Try.f27.results.toList [0] ⟨.int .i64 (inLeft (bytesL xs) e), (some [.sl xs .no, .int .i64 e]), none⟩)
def OkInLeft0 : Prop := ∀ (xs : List AV) (e : Int), isBytes xs → inInLeft0 xs e
def inEndF : Con
  | [.box [.sl xs .no, .int .i64 e]] => some (isBytes xs, ⟨.int .i64 (inEnd (bytesL xs) e), (some [.sl xs .no, .int .i64 e]), none⟩)
  | _ => none
def gamInEnd : List (Nat × Con) := [(27, inLeftF)]
def lpInEnd0 (xs : List AV) (e : Int) : Nat → Option LoopPlan := fun _ => none
def inInEnd0 (xs : List AV) (e : Int) : Prop := awp [0] (lpInEnd0 xs e) (lookΓ gamInEnd) Try.prog Try.f11.ntmps 0 (Try.f11.body.getD .skip) (entrySt [.box [.sl xs .no, .int .i64 e]]) (exitQ Try.prog Try.f11.results.toList [0] ⟨.int .i64 (inEnd (bytesL xs) e), (some [.sl xs .no, .int .i64 e]), none⟩)
def OkInEnd0 : Prop := ∀ (xs : List AV) (e : Int), isBytes xs → inInEnd0 xs e
def newInF : Con
  | [.val (.sl xs .no)] => some (isBytes xs ∧ xs.length ≤ 140737488355328, ⟨.ptr 2000 0, none, (some [.sl xs .no, .int .i64 0])⟩)
  | _ => none
def gamNewIn : List (Nat × Con) := [(42, cloneF)]
def lpNewIn0 (xs : List AV) : Nat → Option LoopPlan := fun _ => none
def inNewIn0 (xs : List AV) : Prop := awp [] (lpNewIn0 xs) (lookΓ gamNewIn) Try.prog Try.f8.ntmps 0 (Try.f8.body.getD .skip) (entrySt [.val (.sl xs .no)]) (exitQ Try.prog Try.f8.results.toList [] ⟨.ptr 2000 0, none, (some [.sl xs .no, .int .i64 0])⟩)
def OkNewIn0 : Prop := ∀ (xs : List AV), isBytes xs ∧ xs.length ≤ 140737488355328 → inNewIn0 xs
def outByteF : Con
  | [.box [.sl xs (.row p q te0)], .val (.int .u8 b)] => if te0 = 5 then some (isBytes xs ∧ xs.length + 1 ≤ 140737488355328, ⟨.ptr 0 0, (some [.sl (bytesAV (catL (bytesL xs) (encByte b))) (.row 0 0 5)]), none⟩) else none
  | _ => none
def gamOutByte : List (Nat × Con) := []
def lpOutByte1 (xs : List AV) (p q : Nat) (b : Int) : Nat → Option LoopPlan := fun _ => none
def inOutByte1 (xs : List AV) (p q : Nat) (b : Int) : Prop := awp [0] (lpOutByte1 xs p q b) (lookΓ gamOutByte) Try.prog Try.f29.ntmps 0 (Try.f29.body.getD .skip) (entrySt [.box [.sl xs (.row p q 5)], .val (.int .u8 b)]) (exitQ Try.prog Try.f29.results.toList [0] ⟨.ptr 0 0, (some [.sl (bytesAV (catL (bytesL xs) (encByte b))) (.row 0 0 5)]), none⟩)
def OkOutByte1 : Prop := ∀ (xs : List AV) (p q : Nat) (b : Int), isBytes xs ∧ xs.length + 1 ≤ 140737488355328 → (0 ≤ b ∧ b ≤ 255) → inOutByte1 xs p q b
def outTruthF : Con
  | [.box [.sl xs (.row p q te0)], .val (.bool b)] => if te0 = 5 then some (isBytes xs ∧ xs.length + 1 ≤ 140737488355328, ⟨.ptr 0 0, (some [.sl (bytesAV (catL (bytesL xs) (encTruth b))) (.row 0 0 5)]), none⟩) else none
  | _ => none
def gamOutTruth : List (Nat × Con) := [(29, outByteF)]
def lpOutTruth1 (xs : List AV) (p q : Nat) (b : Bool) : Nat → Option LoopPlan := fun _ => none
def inOutTruth1 (xs : List AV) (p q : Nat) (b : Bool) : Prop := awp [0] (lpOutTruth1 xs p q b) (lookΓ gamOutTruth) Try.prog Try.f30.ntmps 0 (Try.f30.body.getD .skip) (entrySt [.box [.sl xs (.row p q 5)], .val (.bool b)]) (exitQ Try.prog Try.f30.results.toList [0] ⟨.ptr 0 0, (some [.sl (bytesAV (catL (bytesL xs) (encTruth b))) (.row 0 0 5)]), none⟩)
def OkOutTruth1 : Prop := ∀ (xs : List AV) (p q : Nat) (b : Bool), isBytes xs ∧ xs.length + 1 ≤ 140737488355328 → inOutTruth1 xs p q b
def outShortF : Con
  | [.box [.sl xs (.row p q te0)], .val (.int .u64 v)] => if te0 = 5 then some (isBytes xs ∧ xs.length + 10 ≤ 140737488355328, ⟨.ptr 0 0, (some [.sl (bytesAV (catL (bytesL xs) (short v.toNat))) (.row 0 0 5)]), none⟩) else none
  | _ => none
def gamOutShort : List (Nat × Con) := [(54, numShortF)]
def lpOutShort1 (xs : List AV) (p q : Nat) (v : Int) : Nat → Option LoopPlan := fun _ => none
def inOutShort1 (xs : List AV) (p q : Nat) (v : Int) : Prop := awp [0] (lpOutShort1 xs p q v) (lookΓ gamOutShort) Try.prog Try.f31.ntmps 0 (Try.f31.body.getD .skip) (entrySt [.box [.sl xs (.row p q 5)], .val (.int .u64 v)]) (exitQ Try.prog Try.f31.results.toList [0] ⟨.ptr 0 0, (some [.sl (bytesAV (catL (bytesL xs) (short v.toNat))) (.row 0 0 5)]), none⟩)
def OkOutShort1 : Prop := ∀ (xs : List AV) (p q : Nat) (v : Int), isBytes xs ∧ xs.length + 10 ≤ 140737488355328 → (0 ≤ v ∧ v ≤ 18446744073709551615) → inOutShort1 xs p q v
def outFixedF : Con
  | [.box [.sl xs (.row p q te0)], .val (.int .u64 v)] => if te0 = 5 then some (isBytes xs ∧ xs.length + 8 ≤ 140737488355328, ⟨.ptr 0 0, (some [.sl (bytesAV (catL (bytesL xs) (bytesOf v (cap8 8)))) (.row 0 0 5)]), none⟩) else none
  | _ => none
def gamOutFixed : List (Nat × Con) := [(55, numBytesF)]
def lpOutFixed1 (xs : List AV) (p q : Nat) (v : Int) : Nat → Option LoopPlan := fun _ => none
def inOutFixed1 (xs : List AV) (p q : Nat) (v : Int) : Prop := awp [0] (lpOutFixed1 xs p q v) (lookΓ gamOutFixed) Try.prog Try.f32.ntmps 0 (Try.f32.body.getD .skip) (entrySt [.box [.sl xs (.row p q 5)], .val (.int .u64 v)]) (exitQ Try.prog Try.f32.results.toList [0] ⟨.ptr 0 0, (some [.sl (bytesAV (catL (bytesL xs) (bytesOf v (cap8 8)))) (.row 0 0 5)]), none⟩)
def OkOutFixed1 : Prop := ∀ (xs : List AV) (p q : Nat) (v : Int), isBytes xs ∧ xs.length + 8 ≤ 140737488355328 → inOutFixed1 xs p q v
def outTextF : Con
  | [.box [.sl xs (.row p q te0)], .val (.str s)] => if te0 = 5 then some (isBytes xs ∧ xs.length + s.length + 10 ≤ 140737488355328, ⟨.ptr 0 0, (some [.sl (bytesAV (catL (bytesL xs) (encText s))) (.row 0 0 5)]), none⟩) else none
  | _ => none
def gamOutText : List (Nat × Con) := [(31, outShortF)]
def lpOutText1 (xs : List AV) (p q : Nat) (s : List UInt8) : Nat → Option LoopPlan := fun _ => none
def inOutText1 (xs : List AV) (p q : Nat) (s : List UInt8) : Prop := awp [0] (lpOutText1 xs p q s) (lookΓ gamOutText) Try.prog Try.f33.ntmps 0 (Try.f33.body.getD .skip) (entrySt [.box [.sl xs (.row p q 5)], .val (.str s)]) (exitQ Try.prog Try.f33.results.toList [0] ⟨.ptr 0 0, (some [.sl (bytesAV (catL (bytesL xs) (encText s))) (.row 0 0 5)]), none⟩)
def OkOutText1 : Prop := ∀ (xs : List AV) (p q : Nat) (s : List UInt8), isBytes xs ∧ xs.length + s.length + 10 ≤ 140737488355328 → inOutText1 xs p q s
def outBytesF : Con
  | [.box [.sl xs (.row p q te0)]] => if te0 = 5 then some (isBytes xs ∧ xs.length ≤ 140737488355328, ⟨.sl xs .no, (some [.sl xs (.row 0 0 5)]), none⟩) else none
  | _ => none
def gamOutBytes : List (Nat × Con) := [(42, cloneF)]
def lpOutBytes1 (xs : List AV) (p q : Nat) : Nat → Option LoopPlan := fun _ => none
def inOutBytes1 (xs : List AV) (p q : Nat) : Prop := awp [0] (lpOutBytes1 xs p q) (lookΓ gamOutBytes) Try.prog Try.f14.ntmps 0 (Try.f14.body.getD .skip) (entrySt [.box [.sl xs (.row p q 5)]]) (exitQ Try.prog Try.f14.results.toList [0] ⟨.sl xs .no, (some [.sl xs (.row 0 0 5)]), none⟩)
def OkOutBytes1 : Prop := ∀ (xs : List AV) (p q : Nat), isBytes xs ∧ xs.length ≤ 140737488355328 → inOutBytes1 xs p q
end Go.Proofs.Ytledoikeaidlfaa
