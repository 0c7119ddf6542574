/- Contracts by content, their conditions, and that they are met: InstU. -/
import Derived.Test.YtpomloangafbkaaGreatDoorLaxInstRC
import Derived.Test.YtpomloangafbkaaGreatDoorLaxPkCmdU
import Derived.Test.YtpomloangafbkaaGreatDoorLaxPkAttT
import Derived.Test.YtpomloangafbkaaGreatDoorStrN
import Derived.Test.YtpomloangafbkaaGreatDoorLaxPkInstR
/- Contracts by content, and the conditions that their code must meet. -/
namespace Go.Proofs.YtpomloangafbkaaGreatDoor
set_option linter.unusedVariables false
set_option linter.unusedSimpArgs false
open Go.RowKit
def wordsS : List (List UInt8) := [[110, 111, 110, 101], [112, 114, 101], [97, 99, 99, 101, 112, 116, 101, 100], [99, 111, 109, 109, 105, 116, 116, 101, 100]]
def wordN (st : Int) : List UInt8 := wordsS.getD st.toNat []
def statusN (t : List UInt8) : Int := if [110, 111, 110, 101] = t then 0 else if [112, 114, 101] = t then 1 else if [97, 99, 99, 101, 112, 116, 101, 100] = t then 2 else if [99, 111, 109, 109, 105, 116, 116, 101, 100] = t then 3 else -1
def attV (a : AttP) : List UInt8 := attShowV a.s a.d0 a.d1 a.d2 a.d3 a.d4 a.d5 a.d6
def howN (b : Bool) : List UInt8 := if b then [115, 97, 109, 101] else [111, 116, 104, 101, 114]
def restI (x : InstP) : List (List UInt8) := if x.st = 0 then [] else [balShowV x.vote, howN x.same, attV x.a, showV x.c]
def partsI (x : InstP) : List (List UInt8) := idShowV x.r x.sl :: balShowV x.bal :: wordN x.st :: restI x
def ishowV (x : InstP) : List UInt8 := if rightI x then Lib.join (partsI x) [32] else []
def ishowE (x : InstP) : Int := if rightI x then 0 else 10
def balT (b : Int) : List UInt8 := pair6 (b / 8) (b % 8)
def headI (x : InstP) : List UInt8 :=
  pair6 x.r x.sl ++ [32] ++ balT x.bal ++ [32] ++ wordN x.st ++
    if x.st = 0 then [] else [32] ++ balT x.vote ++ [32] ++ howN x.same ++ [32] ++ text9 x.a.s x.a.d0 x.a.d1 x.a.d2 x.a.d3 x.a.d4 x.a.d5 x.a.d6 ++ [32]
abbrev rangeI (x : InstP) : Prop := (0 ≤ x.bal ∧ x.bal ≤ 4294967295) ∧ (0 ≤ x.vote ∧ x.vote ≤ 4294967295) ∧ (0 ≤ x.c.num ∧ x.c.num ≤ 18446744073709551615) ∧ (0 ≤ x.c.rq ∧ x.c.rq ≤ 18446744073709551615) ∧ (0 ≤ x.c.n ∧ x.c.n ≤ 18446744073709551615)
def loopStatus (t : List UInt8) : LoopInv :=
  { V := Nat
    T := fun i => [(0, .str t), (5, .sl (strsAV wordsS) .no), (6, .int .i64 4), (7, .int .i64 (i : Int))]
    B := fun i => []
    R := fun i => []
    inv := fun i => i ≤ 4 ∧ ∀ j, j < i → wordsS.getD j [] ≠ t
    mu := fun i => 4 - i }
def short7F : Con
  | [.val (.int .u64 v)] => (some (0 ≤ v ∧ v < 128, ⟨.sl (bytesAV (encByte v)) (.row 0 0 5), none, none⟩))
  | _ => none
def gamShort7 : List (Nat × Con) := []
def lpShort70 (v : Int) : Nat → Option LoopPlan := fun b => bif Nat.beq b 0 then some (.unroll [] 2) else none
def inShort70 (v : Int) : Prop := awp [] (lpShort70 v) (lookΓ gamShort7) Tryz.prog Tryz.f142.ntmps 0 (Tryz.f142.body.getD .skip) (entrySt [.val (.int .u64 v)]) (exitQ Tryz.prog Tryz.f142.results.toList [] ⟨.sl (bytesAV (encByte v)) (.row 0 0 5), none, none⟩)
def OkShort70 : Prop := ∀ (v : Int), 0 ≤ v ∧ v < 128 → inShort70 v
def outByteF : Con
  | [.box [.sl xs (.row p q te0)], .val (.int .u8 b)] => (if te0 = 5 then some (isBytes xs ∧ xs.length + 1 ≤ 140737488355328, ⟨.ptr 0 0, (some [.sl (bytesAV (catL (bytesL xs) (encByte b))) (.row 0 0 5)]), none⟩) else none)
  | _ => none
def gamOutByte : List (Nat × Con) := []
def lpOutByte1 (xs : List AV) (p q : Nat) (b : Int) : Nat → Option LoopPlan := fun _ => none
def inOutByte1 (xs : List AV) (p q : Nat) (b : Int) : Prop := awp [0] (lpOutByte1 xs p q b) (lookΓ gamOutByte) Tryz.prog Tryz.f80.ntmps 0 (Tryz.f80.body.getD .skip) (entrySt [.box [.sl xs (.row p q 5)], .val (.int .u8 b)]) (exitQ Tryz.prog Tryz.f80.results.toList [0] ⟨.ptr 0 0, (some [.sl (bytesAV (catL (bytesL xs) (encByte b))) (.row 0 0 5)]), none⟩)
def OkOutByte1 : Prop := ∀ (xs : List AV) (p q : Nat) (b : Int), isBytes xs ∧ xs.length + 1 ≤ 140737488355328 → (0 ≤ b ∧ b ≤ 255) → inOutByte1 xs p q b
def outShort7F : Con
  | [.box [.sl xs (.row p q te0)], .val (.int .u64 v)] => (if te0 = 5 then some (isBytes xs ∧ xs.length + 1 ≤ 140737488355328 ∧ 0 ≤ v ∧ v < 128, ⟨.ptr 0 0, (some [.sl (bytesAV (catL (bytesL xs) (encByte v))) (.row 0 0 5)]), none⟩) else none)
  | _ => none
def gamOutShort7 : List (Nat × Con) := [(142, short7F.orNil)]
def lpOutShort70 (xs : List AV) (p q : Nat) (v : Int) : Nat → Option LoopPlan := fun _ => none
def inOutShort70 (xs : List AV) (p q : Nat) (v : Int) : Prop := awp [0] (lpOutShort70 xs p q v) (lookΓ gamOutShort7) Tryz.prog Tryz.f109.ntmps 0 (Tryz.f109.body.getD .skip) (entrySt [.box [.sl xs (.row p q 5)], .val (.int .u64 v)]) (exitQ Tryz.prog Tryz.f109.results.toList [0] ⟨.ptr 0 0, (some [.sl (bytesAV (catL (bytesL xs) (encByte v))) (.row 0 0 5)]), none⟩)
def OkOutShort70 : Prop := ∀ (xs : List AV) (p q : Nat) (v : Int), isBytes xs ∧ xs.length + 1 ≤ 140737488355328 ∧ 0 ≤ v ∧ v < 128 → inOutShort70 xs p q v
def outBytesF : Con
  | [.box [.sl xs (.row p q te0)]] => (if te0 = 5 then some (isBytes xs ∧ xs.length ≤ 140737488355328, ⟨.sl xs .no, (some [.sl xs (.row 0 0 5)]), none⟩) else none)
  | _ => none
def gamOutBytes : List (Nat × Con) := [(97, cloneF.orNil)]
def lpOutBytes1 (xs : List AV) (p q : Nat) : Nat → Option LoopPlan := fun _ => none
def inOutBytes1 (xs : List AV) (p q : Nat) : Prop := awp [0] (lpOutBytes1 xs p q) (lookΓ gamOutBytes) Tryz.prog Tryz.f57.ntmps 0 (Tryz.f57.body.getD .skip) (entrySt [.box [.sl xs (.row p q 5)]]) (exitQ Tryz.prog Tryz.f57.results.toList [0] ⟨.sl xs .no, (some [.sl xs (.row 0 0 5)]), none⟩)
def OkOutBytes1 : Prop := ∀ (xs : List AV) (p q : Nat), isBytes xs ∧ xs.length ≤ 140737488355328 → inOutBytes1 xs p q
def idPut7F : Con
  | [.val (.agg [.int .i64 r, .int .i64 n]), .box [.sl xs (.row p q te0)]] => (if te0 = 5 then some (isBytes xs ∧ xs.length + 2 ≤ 140737488355328 ∧ (0 ≤ r ∧ r < 128) ∧ (0 ≤ n ∧ n < 128), ⟨.tup [], (some [.sl (bytesAV (catL (catL (bytesL xs) (encByte r)) (encByte n))) (.row 0 0 5)]), none⟩) else none)
  | _ => none
def gamIdPut7 : List (Nat × Con) := [(80, outByteF.orNil), (109, outShort7F.orNil)]
def lpIdPut70 (xs : List AV) (p q : Nat) (r n : Int) : Nat → Option LoopPlan := fun _ => none
def inIdPut70 (xs : List AV) (p q : Nat) (r n : Int) : Prop := awp [1] (lpIdPut70 xs p q r n) (lookΓ gamIdPut7) Tryz.prog Tryz.f81.ntmps 0 (Tryz.f81.body.getD .skip) (entrySt [.val (.agg [.int .i64 r, .int .i64 n]), .box [.sl xs (.row p q 5)]]) (exitQ Tryz.prog Tryz.f81.results.toList [1] ⟨.tup [], (some [.sl (bytesAV (catL (catL (bytesL xs) (encByte r)) (encByte n))) (.row 0 0 5)]), none⟩)
def OkIdPut70 : Prop := ∀ (xs : List AV) (p q : Nat) (r n : Int), isBytes xs ∧ xs.length + 2 ≤ 140737488355328 ∧ (0 ≤ r ∧ r < 128) ∧ (0 ≤ n ∧ n < 128) → inIdPut70 xs p q r n
def balPut7F : Con
  | [.val (.int .u32 b), .box [.sl xs (.row p q te0)]] => (if te0 = 5 then some (isBytes xs ∧ xs.length + 1 ≤ 140737488355328 ∧ (0 ≤ b ∧ b < 128), ⟨.tup [], (some [.sl (bytesAV (catL (bytesL xs) (encByte b))) (.row 0 0 5)]), none⟩) else none)
  | _ => none
def gamBalPut7 : List (Nat × Con) := [(109, outShort7F.orNil)]
def lpBalPut70 (xs : List AV) (p q : Nat) (b : Int) : Nat → Option LoopPlan := fun _ => none
def inBalPut70 (xs : List AV) (p q : Nat) (b : Int) : Prop := awp [1] (lpBalPut70 xs p q b) (lookΓ gamBalPut7) Tryz.prog Tryz.f82.ntmps 0 (Tryz.f82.body.getD .skip) (entrySt [.val (.int .u32 b), .box [.sl xs (.row p q 5)]]) (exitQ Tryz.prog Tryz.f82.results.toList [1] ⟨.tup [], (some [.sl (bytesAV (catL (bytesL xs) (encByte b))) (.row 0 0 5)]), none⟩)
def OkBalPut70 : Prop := ∀ (xs : List AV) (p q : Nat) (b : Int), isBytes xs ∧ xs.length + 1 ≤ 140737488355328 ∧ (0 ≤ b ∧ b < 128) → inBalPut70 xs p q b
def iputZF : Con
  | [.val (.agg zcx), .box [.sl xs (.row p q te0)]] => (match instOf zcx with | some x => if te0 = 5 then some (x.st = 0 ∧ (0 ≤ x.bal ∧ x.bal < 128) ∧ (0 ≤ x.r ∧ x.r < 128) ∧ (0 ≤ x.sl ∧ x.sl < 128) ∧ isBytes xs ∧ xs.length + 10 ≤ 140737488355328, ⟨.tup [], (some [.sl (bytesAV (catL (catL (catL (catL (bytesL xs) (encByte x.r)) (encByte x.sl)) (encByte x.bal)) (encByte 0))) (.row 0 0 5)]), none⟩) else none | _ => none)
  | _ => none
def gamIputZ : List (Nat × Con) := [(81, idPut7F.orNil), (82, balPut7F.orNil), (80, outByteF.orNil)]
def lpIputZ0 (x : InstP) (xs : List AV) (p q : Nat) : Nat → Option LoopPlan := fun _ => none
def inIputZ0 (x : InstP) (xs : List AV) (p q : Nat) : Prop := awp [1] (lpIputZ0 x xs p q) (lookΓ gamIputZ) Tryz.prog Tryz.f56.ntmps 0 (Tryz.f56.body.getD .skip) (entrySt [.val (.agg (instL x)), .box [.sl xs (.row p q 5)]]) (exitQ Tryz.prog Tryz.f56.results.toList [1] ⟨.tup [], (some [.sl (bytesAV (catL (catL (catL (catL (bytesL xs) (encByte x.r)) (encByte x.sl)) (encByte x.bal)) (encByte 0))) (.row 0 0 5)]), none⟩)
def OkIputZ0 : Prop := ∀ (x : InstP) (xs : List AV) (p q : Nat), x.st = 0 ∧ (0 ≤ x.bal ∧ x.bal < 128) ∧ (0 ≤ x.r ∧ x.r < 128) ∧ (0 ≤ x.sl ∧ x.sl < 128) ∧ isBytes xs ∧ xs.length + 10 ≤ 140737488355328 → inIputZ0 x xs p q
def ibytesZF : Con
  | [.val (.agg zcx)] => (match instOf zcx with | some x => some (x.st = 0 ∧ (0 ≤ x.bal ∧ x.bal < 128) ∧ (0 ≤ x.r ∧ x.r < 128) ∧ (0 ≤ x.sl ∧ x.sl < 128), ⟨.sl (bytesAV (catL (catL (catL (encByte x.r) (encByte x.sl)) (encByte x.bal)) (encByte 0))) .no, none, none⟩) | _ => none)
  | _ => none
def gamIbytesZ : List (Nat × Con) := [(56, iputZF.orNil), (57, outBytesF.orNil)]
def lpIbytesZ0 (x : InstP) : Nat → Option LoopPlan := fun _ => none
def inIbytesZ0 (x : InstP) : Prop := awp [] (lpIbytesZ0 x) (lookΓ gamIbytesZ) Tryz.prog Tryz.f23.ntmps 0 (Tryz.f23.body.getD .skip) (entrySt [.val (.agg (instL x))]) (exitQ Tryz.prog Tryz.f23.results.toList [] ⟨.sl (bytesAV (catL (catL (catL (encByte x.r) (encByte x.sl)) (encByte x.bal)) (encByte 0))) .no, none, none⟩)
def OkIbytesZ0 : Prop := ∀ (x : InstP), x.st = 0 ∧ (0 ≤ x.bal ∧ x.bal < 128) ∧ (0 ≤ x.r ∧ x.r < 128) ∧ (0 ≤ x.sl ∧ x.sl < 128) → inIbytesZ0 x
def anchor10F : Con
  | [] => (some (True, ⟨.bool true, none, none⟩))
  | _ => none
def gamAnchor10 : List (Nat × Con) := [(22, inewF.orNil), (23, ibytesZF.orNil)]
def lpAnchor100  : Nat → Option LoopPlan := fun _ => none
def inAnchor100  : Prop := awp [] (lpAnchor100) (lookΓ gamAnchor10) Tryz.prog Tryz.f7.ntmps 0 (Tryz.f7.body.getD .skip) (entrySt []) (exitQ Tryz.prog Tryz.f7.results.toList [] ⟨.bool true, none, none⟩)
def OkAnchor100 : Prop := True → inAnchor100
def of10F : Con
  | [.val (.agg zcx)] => (match instOf zcx with | some x => some (True, ⟨.agg (instL x), none, none⟩) | _ => none)
  | _ => none
def gamOf10 : List (Nat × Con) := []
def lpOf100 (x : InstP) : Nat → Option LoopPlan := fun _ => none
def inOf100 (x : InstP) : Prop := awp [] (lpOf100 x) (lookΓ gamOf10) Tryz.prog Tryz.f10.ntmps 0 (Tryz.f10.body.getD .skip) (entrySt [.val (.agg (instL x))]) (exitQ Tryz.prog Tryz.f10.results.toList [] ⟨.agg (instL x), none, none⟩)
def OkOf100 : Prop := ∀ (x : InstP), True → inOf100 x
def small10F : Con
  | [.val (.agg zcx)] => (match instOf zcx with | some x => some (maxX x, ⟨.bool (smallB x 200), none, none⟩) | _ => none)
  | _ => none
def gamSmall10 : List (Nat × Con) := []
def lpSmall100 (x : InstP) : Nat → Option LoopPlan := fun _ => none
def inSmall100 (x : InstP) : Prop := awp [] (lpSmall100 x) (lookΓ gamSmall10) Tryz.prog Tryz.f8.ntmps 0 (Tryz.f8.body.getD .skip) (entrySt [.val (.agg (instL x))]) (exitQ Tryz.prog Tryz.f8.results.toList [] ⟨.bool (smallB x 200), none, none⟩)
def OkSmall100 : Prop := ∀ (x : InstP), maxX x → inSmall100 x
def words10F : Con
  | [] => (some (True, ⟨.sl (strsAV wordsS) .no, none, none⟩))
  | _ => none
def gamWords10 : List (Nat × Con) := []
def lpWords100  : Nat → Option LoopPlan := fun _ => none
def inWords100  : Prop := awp [] (lpWords100) (lookΓ gamWords10) Tryz.prog Tryz.f27.ntmps 0 (Tryz.f27.body.getD .skip) (entrySt []) (exitQ Tryz.prog Tryz.f27.results.toList [] ⟨.sl (strsAV wordsS) .no, none, none⟩)
def OkWords100 : Prop := True → inWords100
def istatusF : Con
  | [.val (.str t)] => (some (True, ⟨.int .i64 (statusN t), none, none⟩))
  | _ => none
def gamIstatus : List (Nat × Con) := [(27, words10F.orNil)]
def lpIstatus0 (t : List UInt8) : Nat → Option LoopPlan := fun b => bif Nat.beq b 0 then some (.inv [] (loopStatus t)) else none
def inIstatus0 (t : List UInt8) : Prop := awp [] (lpIstatus0 t) (lookΓ gamIstatus) Tryz.prog Tryz.f42.ntmps 0 (Tryz.f42.body.getD .skip) (entrySt [.val (.str t)]) (exitQ Tryz.prog Tryz.f42.results.toList [] ⟨.int .i64 (statusN t), none, none⟩)
def OkIstatus0 : Prop := ∀ (t : List UInt8), True → inIstatus0 t
def splitNF : Con
  | [.val (.str s), .val (.str sep), .val (.int .i64 n)] => (some (s.length < 4294967281 ∧ 1 ≤ sep.length ∧ 1 ≤ n ∧ n ≤ 1000000, ⟨.sl (strsAV (splitM s sep n.toNat)) (.row 0 0 9), none, none⟩))
  | _ => none
def gamSplitN : List (Nat × Con) := [(74, genSF.orNil)]
def lpSplitN0 (s sep : List UInt8) (n : Int) : Nat → Option LoopPlan := fun _ => none
def inSplitN0 (s sep : List UInt8) (n : Int) : Prop := awp [] (lpSplitN0 s sep n) (lookΓ gamSplitN) Tryz.prog Tryz.f39.ntmps 0 (Tryz.f39.body.getD .skip) (entrySt [.val (.str s), .val (.str sep), .val (.int .i64 n)]) (exitQ Tryz.prog Tryz.f39.results.toList [] ⟨.sl (strsAV (splitM s sep n.toNat)) (.row 0 0 9), none, none⟩)
def OkSplitN0 : Prop := ∀ (s sep : List UInt8) (n : Int), s.length < 4294967281 ∧ 1 ≤ sep.length ∧ 1 ≤ n ∧ n ≤ 1000000 → inSplitN0 s sep n
def digits10F : Con
  | [.val (.int .u64 v)] => (some (True, ⟨.str (digL v), none, none⟩))
  | _ => none
def gamDigits10 : List (Nat × Con) := []
def lpDigits100 (v : Int) : Nat → Option LoopPlan := fun b => bif Nat.beq b 0 then some (.inv [] (loopDig v)) else none
def inDigits100 (v : Int) : Prop := awp [] (lpDigits100 v) (lookΓ gamDigits10) Tryz.prog Tryz.f34.ntmps 0 (Tryz.f34.body.getD .skip) (entrySt [.val (.int .u64 v)]) (exitQ Tryz.prog Tryz.f34.results.toList [] ⟨.str (digL v), none, none⟩)
def OkDigits100 : Prop := ∀ (v : Int), True → (0 ≤ v ∧ v ≤ 18446744073709551615) → inDigits100 v
def ballot10F : Con
  | [.val (.int .u32 b)] => (some (True, ⟨.str (balT b), none, none⟩))
  | _ => none
def gamBallot10 : List (Nat × Con) := [(34, digits10F.orNil)]
def lpBallot100 (b : Int) : Nat → Option LoopPlan := fun _ => none
def inBallot100 (b : Int) : Prop := awp [] (lpBallot100 b) (lookΓ gamBallot10) Tryz.prog Tryz.f35.ntmps 0 (Tryz.f35.body.getD .skip) (entrySt [.val (.int .u32 b)]) (exitQ Tryz.prog Tryz.f35.results.toList [] ⟨.str (balT b), none, none⟩)
def OkBallot100 : Prop := ∀ (b : Int), True → (0 ≤ b ∧ b ≤ 4294967295) → inBallot100 b
def text10F : Con
  | [.val (.agg zcx)] => (match instOf zcx with | some x => some (rightI x = true, ⟨.tup [.str (headI x), .bool (decide (x.st ≠ 0))], none, none⟩) | _ => none)
  | _ => none
def gamText10 : List (Nat × Con) := [(34, digits10F.orNil), (35, ballot10F.orNil)]
def lpText100 (x : InstP) : Nat → Option LoopPlan := fun b => bif Nat.beq b 0 then some (.unroll [] 9) else none
def inText100 (x : InstP) : Prop := awp [] (lpText100 x) (lookΓ gamText10) Tryz.prog Tryz.f12.ntmps 0 (Tryz.f12.body.getD .skip) (entrySt [.val (.agg (instL x))]) (exitQ Tryz.prog Tryz.f12.results.toList [] ⟨.tup [.str (headI x), .bool (decide (x.st ≠ 0))], none, none⟩)
def OkText100 : Prop := ∀ (x : InstP), rightI x = true → ((0 ≤ x.bal ∧ x.bal ≤ 4294967295) ∧ (0 ≤ x.vote ∧ x.vote ≤ 4294967295)) → inText100 x
def ishowF : Con
  | [.val (.agg zcx)] => (match instOf zcx with | some x => some (smallX x, ⟨.tup [.str (ishowV x), .int .i64 (ishowE x)], none, none⟩) | _ => none)
  | _ => none
def gamIshow : List (Nat × Con) := [(24, irightF.orNil), (25, idShowF.orNil), (26, balShowF.orNil), (27, words10F.orNil), (29, attShowF.orNil), (13, cshowF.orNil), (28, joinSF.orNil)]
def lpIshow0 (x : InstP) : Nat → Option LoopPlan := fun _ => none
def inIshow0 (x : InstP) : Prop := awp [] (lpIshow0 x) (lookΓ gamIshow) Tryz.prog Tryz.f9.ntmps 0 (Tryz.f9.body.getD .skip) (entrySt [.val (.agg (instL x))]) (exitQ Tryz.prog Tryz.f9.results.toList [] ⟨.tup [.str (ishowV x), .int .i64 (ishowE x)], none, none⟩)
def OkIshow0 : Prop := ∀ (x : InstP), smallX x → (rangeI x) → inIshow0 x
def inTextI0 (x : InstP) : Prop := inText100 { x with st := 0 }
def inTextI1 (x : InstP) : Prop := inText100 { x with st := 1 }
def inTextI2 (x : InstP) : Prop := inText100 { x with st := 2 }
def inTextI3 (x : InstP) : Prop := inText100 { x with st := 3 }
end Go.Proofs.YtpomloangafbkaaGreatDoor
/- What the verification conditions come to: printed by a program of ours (wip/lax/ex/Norm.lean). -/
namespace Go.Proofs.YtpomloangafbkaaGreatDoor
set_option linter.unusedVariables false
open Go.RowKit
set_option maxRecDepth 100000
theorem vcShort70 (v : Int) (h : let q0 := (intBits Go.BinOp.or IntKind.u8 (IntKind.wrap IntKind.u8 v) 128); let q1 := (IntKind.wrap IntKind.u8 (Int.fdiv v 128)); let w0_x := [(AV.int IntKind.u8 q0)]; (tt ∧ T1 ∧ tt ∧ T1 ∧ (tt ∧ tt) ∧ tt ∧ T1 ∧ T1 ∧ (bif (decide ((128 : Int) ≤ v)) then (tt ∧ T1 ∧ T1 ∧ T1 ∧ T1 ∧ T1 ∧ (1 ≤ 140737488355328 ∧ 1 ≤ 9223372036854775807 ∧ (okWidth 1 w0_x)) ∧ T1 ∧ tt ∧ T1 ∧ (0 : Int) ≤ (7 : Int) ∧ T1 ∧ (tt ∧ tt) ∧ tt ∧ T1 ∧ T1 ∧ (bif (decide ((128 : Int) ≤ (Int.fdiv v 128))) then (tt ∧ T1 ∧ T1 ∧ T1 ∧ T1 ∧ False) else (tt ∧ T1 ∧ T1 ∧ T1 ∧ T1 ∧ (@Eq.{1} Nat 1 1 ∧ 2 ≤ 140737488355328 ∧ 2 ≤ 9223372036854775807 ∧ (okWidth 1 w0_x) ∧ (okWidth 1 [(AV.int IntKind.u8 q1)])) ∧ T1 ∧ tt ∧ tt ∧ ((0 < 1 ∧ (bytesAV (encByte v)) = (@catL AV w0_x [(AV.int IntKind.u8 q1)]) ∧ @Eq.{1} Nat 2 (List.length (@catL AV w0_x [(AV.int IntKind.u8 q1)]))) ∧ True) ∧ tt))) else (tt ∧ T1 ∧ T1 ∧ T1 ∧ T1 ∧ (1 ≤ 140737488355328 ∧ 1 ≤ 9223372036854775807 ∧ (okWidth 1 [(AV.int IntKind.u8 (IntKind.wrap IntKind.u8 v))])) ∧ T1 ∧ tt ∧ tt ∧ ((0 < 1 ∧ (bytesAV (encByte v)) = [(AV.int IntKind.u8 (IntKind.wrap IntKind.u8 v))] ∧ @Eq.{1} Nat 1 1) ∧ True) ∧ tt)))) : inShort70 v :=
  Eq.mp (show _ = _ by kernel_rfl) h
theorem vcOutByte1 (xs : (List AV)) (p : Nat) (q : Nat) (b : Int) (h : let q0 := (List.length xs); (tt ∧ T1 ∧ tt ∧ T1 ∧ T1 ∧ T1 ∧ T1 ∧ tt ∧ T1 ∧ T1 ∧ (q0 = q0 ∧ ((q0 + 1) * 1) ≤ 140737488355328 ∧ (q0 + 1) ≤ 9223372036854775807 ∧ (okWidth 1 xs) ∧ (okWidth 1 [(AV.int IntKind.u8 b)])) ∧ T1 ∧ T1 ∧ tt ∧ tt ∧ T1 ∧ T1 ∧ tt ∧ tt ∧ ((0 < 1 ∧ (bytesAV (@catL UInt8 (bytesL xs) (encByte b))) = (@catL AV xs [(AV.int IntKind.u8 b)]) ∧ (q0 + 1) = (List.length (@catL AV xs [(AV.int IntKind.u8 b)]))) ∧ T1 ∧ True) ∧ tt)) : inOutByte1 xs p q b :=
  Eq.mp (show _ = _ by kernel_rfl) h
theorem vcOutShort70 (xs : (List AV)) (p : Nat) (q : Nat) (v : Int) (h : let q0 := (List.length xs); (tt ∧ T1 ∧ tt ∧ T1 ∧ T1 ∧ T1 ∧ T1 ∧ tt ∧ T1 ∧ (T1 ∧ (0 : Int) ≤ v ∧ v < 128) ∧ ∀ v0 : (List AV), (v0 = (bytesAV (encByte v))) → ∀ v2 : Nat, (v2 = (List.length (bytesAV (encByte v)))) → (q0 = q0 ∧ ((q0 + (List.length v0)) * 1) ≤ 140737488355328 ∧ (q0 + (List.length v0)) ≤ 9223372036854775807 ∧ (okWidth 1 xs) ∧ (okWidth 1 v0)) ∧ T1 ∧ T1 ∧ tt ∧ tt ∧ tt ∧ T1 ∧ T1 ∧ tt ∧ tt ∧ ((0 < 1 ∧ (bytesAV (@catL UInt8 (bytesL xs) (encByte v))) = (@catL AV xs v0) ∧ (q0 + (List.length v0)) = (List.length (@catL AV xs v0))) ∧ T1 ∧ True) ∧ tt)) : inOutShort70 xs p q v :=
  Eq.mp (show _ = _ by kernel_rfl) h
theorem vcOutBytes1 (xs : (List AV)) (p : Nat) (q : Nat) (h : (tt ∧ T1 ∧ tt ∧ T1 ∧ T1 ∧ T1 ∧ tt ∧ (T1 ∧ (isBytes xs) ∧ (List.length xs) ≤ 140737488355328) ∧ ∀ v0 : (List AV), (v0 = xs) → ∀ v2 : Nat, (v2 = (List.length xs)) → T1 ∧ tt ∧ tt ∧ ((0 < 1 ∧ xs = xs ∧ (List.length xs) = (List.length xs)) ∧ xs = v0 ∧ True) ∧ tt)) : inOutBytes1 xs p q :=
  Eq.mp (show _ = _ by kernel_rfl) h
theorem vcIdPut70 (xs : (List AV)) (p : Nat) (q : Nat) (r : Int) (n : Int) (h : let q0 := (IntKind.wrap IntKind.u64 n); let w0_x := (bytesAV (@catL UInt8 (bytesL xs) (encByte (IntKind.wrap IntKind.u8 r)))); (tt ∧ T1 ∧ tt ∧ T1 ∧ T1 ∧ tt ∧ T1 ∧ (((List.length xs) = (List.length xs) ∧ True) ∧ (isBytes xs) ∧ ((List.length xs) + 1) ≤ 140737488355328) ∧ ∀ v0 : (List AV), (v0 = w0_x) → ∀ v2 : Nat, (v2 = (List.length w0_x)) → T1 ∧ tt ∧ T1 ∧ ((v2 = (List.length v0) ∧ True) ∧ (isBytes v0) ∧ ((List.length v0) + 1) ≤ 140737488355328 ∧ (0 : Int) ≤ q0 ∧ q0 < 128) ∧ ∀ v4 : (List AV), (v4 = (bytesAV (@catL UInt8 (bytesL v0) (encByte q0)))) → ∀ v6 : Nat, (v6 = (List.length (bytesAV (@catL UInt8 (bytesL v0) (encByte q0))))) → tt ∧ tt ∧ tt ∧ ((0 < 1 ∧ (bytesAV (@catL UInt8 (@catL UInt8 (bytesL xs) (encByte r)) (encByte n))) = v4 ∧ v6 = (List.length v4)) ∧ True) ∧ tt)) : inIdPut70 xs p q r n :=
  Eq.mp (show _ = _ by kernel_rfl) h
theorem vcBalPut70 (xs : (List AV)) (p : Nat) (q : Nat) (b : Int) (h : let q0 := (IntKind.wrap IntKind.u64 b); (tt ∧ T1 ∧ T1 ∧ T1 ∧ (((List.length xs) = (List.length xs) ∧ True) ∧ (isBytes xs) ∧ ((List.length xs) + 1) ≤ 140737488355328 ∧ (0 : Int) ≤ q0 ∧ q0 < 128) ∧ ∀ v0 : (List AV), (v0 = (bytesAV (@catL UInt8 (bytesL xs) (encByte q0)))) → ∀ v2 : Nat, (v2 = (List.length (bytesAV (@catL UInt8 (bytesL xs) (encByte q0))))) → tt ∧ tt ∧ ((0 < 1 ∧ (bytesAV (@catL UInt8 (bytesL xs) (encByte b))) = v0 ∧ v2 = (List.length v0)) ∧ True) ∧ tt)) : inBalPut70 xs p q b :=
  Eq.mp (show _ = _ by kernel_rfl) h
theorem vcIputZ0 (x : InstP) (xs : (List AV)) (p : Nat) (q : Nat) (h : let w0_x := (@catL UInt8 (@catL UInt8 (bytesL xs) (encByte x.r)) (encByte x.sl)); (tt ∧ T1 ∧ tt ∧ T1 ∧ tt ∧ T1 ∧ (((List.length xs) = (List.length xs) ∧ True) ∧ (isBytes xs) ∧ ((List.length xs) + 2) ≤ 140737488355328 ∧ ((0 : Int) ≤ x.r ∧ x.r < 128) ∧ (0 : Int) ≤ x.sl ∧ x.sl < 128) ∧ ∀ v0 : (List AV), let w3_0 := (bytesAV (@catL UInt8 (bytesL v0) (encByte x.bal))); (v0 = (bytesAV w0_x)) → ∀ v2 : Nat, (v2 = (List.length (bytesAV w0_x))) → tt ∧ T1 ∧ tt ∧ T1 ∧ ((v2 = (List.length v0) ∧ True) ∧ (isBytes v0) ∧ ((List.length v0) + 1) ≤ 140737488355328 ∧ (0 : Int) ≤ x.bal ∧ x.bal < 128) ∧ ∀ v4 : (List AV), let w1_4 := (bytesAV (@catL UInt8 (bytesL v4) (encByte (IntKind.wrap IntKind.u8 x.st)))); (v4 = w3_0) → ∀ v6 : Nat, (v6 = (List.length w3_0)) → tt ∧ T1 ∧ T1 ∧ tt ∧ T1 ∧ ((v6 = (List.length v4) ∧ True) ∧ (isBytes v4) ∧ ((List.length v4) + 1) ≤ 140737488355328) ∧ ∀ v8 : (List AV), let w2_8 := (bytesAV (@catL UInt8 (bytesL v8) (encByte x.vote))); (v8 = w1_4) → ∀ v10 : Nat, (v10 = (List.length w1_4)) → tt ∧ T1 ∧ tt ∧ T1 ∧ (bif (x.st == 0) then (tt ∧ tt ∧ ((0 < 1 ∧ (bytesAV (@catL UInt8 (@catL UInt8 w0_x (encByte x.bal)) (encByte 0))) = v8 ∧ v10 = (List.length v8)) ∧ True) ∧ tt) else (tt ∧ T1 ∧ tt ∧ T1 ∧ ((v10 = (List.length v8) ∧ True) ∧ (isBytes v8) ∧ ((List.length v8) + 1) ≤ 140737488355328 ∧ (0 : Int) ≤ x.vote ∧ x.vote < 128) ∧ ∀ v12 : (List AV), (v12 = w2_8) → ∀ v14 : Nat, (v14 = (List.length w2_8)) → tt ∧ T1 ∧ T1 ∧ tt ∧ False)))) : inIputZ0 x xs p q :=
  Eq.mp (show _ = _ by kernel_rfl) h
theorem vcIbytesZ0 (x : InstP) (h : let w0_x := (bytesAV (@catL UInt8 (@catL UInt8 (@catL UInt8 (@catL UInt8 (@List.nil.{0} UInt8) (encByte x.r)) (encByte x.sl)) (encByte x.bal)) (encByte 0))); (tt ∧ T1 ∧ T1 ∧ tt ∧ T1 ∧ T1 ∧ T1 ∧ tt ∧ tt ∧ T1 ∧ ((@Eq.{1} Nat 0 0 ∧ True) ∧ x.st = 0 ∧ ((0 : Int) ≤ x.bal ∧ x.bal < 128) ∧ ((0 : Int) ≤ x.r ∧ x.r < 128) ∧ ((0 : Int) ≤ x.sl ∧ x.sl < 128) ∧ (isBytes []) ∧ 10 ≤ 140737488355328) ∧ ∀ v0 : (List AV), (v0 = w0_x) → ∀ v2 : Nat, (v2 = (List.length w0_x)) → tt ∧ T1 ∧ ((v2 = (List.length v0) ∧ True) ∧ (isBytes v0) ∧ (List.length v0) ≤ 140737488355328) ∧ ∀ v4 : (List AV), (v4 = v0) → ∀ v6 : (List AV), (v6 = v0) → ∀ v8 : Nat, (v8 = (List.length v0)) → T1 ∧ tt ∧ tt ∧ ((bytesAV (@catL UInt8 (@catL UInt8 (@catL UInt8 (encByte x.r) (encByte x.sl)) (encByte x.bal)) (encByte 0))) = v4 ∧ True) ∧ tt)) : inIbytesZ0 x :=
  Eq.mp (show _ = _ by kernel_rfl) h
theorem vcAnchor100 (h : let w1_x := (true = false ∧ True); (tt ∧ T1 ∧ tt ∧ T1 ∧ (T1 ∧ True) ∧ (T1 ∧ (0 : Int) = 0 ∧ ((0 : Int) ≤ (0 : Int) ∧ (0 : Int) < (128 : Int)) ∧ ((0 : Int) ≤ (1 : Int) ∧ (1 : Int) < (128 : Int)) ∧ (0 : Int) ≤ (2 : Int) ∧ (2 : Int) < (128 : Int)) ∧ ∀ v0 : (List AV), let w0_0 := ((List.length v0) : Int); (v0 = (bytesAV (@catL UInt8 (@catL UInt8 (@catL UInt8 (encByte 1) (encByte 2)) (encByte 0)) (encByte 0)))) → T1 ∧ tt ∧ T1 ∧ T1 ∧ T1 ∧ T1 ∧ (bif (w0_0 == 4) then (T1 ∧ ((0 : Int) ≤ (0 : Int) ∧ (0 : Int) < w0_0 ∧ (okElem 1 v0 0)) ∧ (okRead [(Kd.int IntKind.u8)] (elemAt v0 0) 0) ∧ T1 ∧ T1 ∧ T1 ∧ (bif ((rdInt (elemAt v0 0) 0) == 1) then (T1 ∧ ((0 : Int) ≤ (1 : Int) ∧ (1 : Int) < w0_0 ∧ (okElem 1 v0 1)) ∧ (okRead [(Kd.int IntKind.u8)] (elemAt v0 1) 0) ∧ T1 ∧ T1 ∧ T1 ∧ (bif ((rdInt (elemAt v0 1) 0) == 2) then (T1 ∧ ((0 : Int) ≤ (2 : Int) ∧ (2 : Int) < w0_0 ∧ (okElem 1 v0 2)) ∧ (okRead [(Kd.int IntKind.u8)] (elemAt v0 2) 0) ∧ T1 ∧ T1 ∧ T1 ∧ (bif ((rdInt (elemAt v0 2) 0) == 0) then (T1 ∧ ((0 : Int) ≤ (3 : Int) ∧ (3 : Int) < w0_0 ∧ (okElem 1 v0 3)) ∧ (okRead [(Kd.int IntKind.u8)] (elemAt v0 3) 0) ∧ T1 ∧ T1 ∧ T1 ∧ tt ∧ tt ∧ (true = ((rdInt (elemAt v0 3) 0) == 0) ∧ True) ∧ tt) else (false = false ∧ T1 ∧ tt ∧ tt ∧ w1_x ∧ tt))) else (false = false ∧ T1 ∧ false = false ∧ T1 ∧ tt ∧ tt ∧ w1_x ∧ tt))) else (false = false ∧ T1 ∧ false = false ∧ T1 ∧ false = false ∧ T1 ∧ tt ∧ tt ∧ w1_x ∧ tt))) else (false = false ∧ T1 ∧ false = false ∧ T1 ∧ false = false ∧ T1 ∧ false = false ∧ T1 ∧ tt ∧ tt ∧ w1_x ∧ tt)))) : inAnchor100 :=
  Eq.mp (show _ = _ by kernel_rfl) h
theorem vcOf100 (x : InstP) (h : (tt ∧ T1 ∧ T1 ∧ tt ∧ T1 ∧ tt ∧ T1 ∧ tt ∧ tt ∧ T1 ∧ tt ∧ T1 ∧ tt ∧ T1 ∧ tt ∧ T1 ∧ tt ∧ T1 ∧ tt ∧ T1 ∧ tt ∧ T1 ∧ T1 ∧ tt ∧ T1 ∧ T1 ∧ tt ∧ T1 ∧ tt ∧ T1 ∧ tt ∧ T1 ∧ tt ∧ T1 ∧ tt ∧ T1 ∧ tt ∧ T1 ∧ T1 ∧ tt ∧ T1 ∧ tt ∧ tt ∧ tt ∧ (x.r = x.r ∧ x.sl = x.sl ∧ x.st = x.st ∧ x.bal = x.bal ∧ x.vote = x.vote ∧ x.same = x.same ∧ x.c.k = x.c.k ∧ x.c.num = x.c.num ∧ x.c.foot = x.c.foot ∧ x.c.rq = x.c.rq ∧ x.c.path = x.c.path ∧ x.c.mode = x.c.mode ∧ x.c.n = x.c.n ∧ x.c.time = x.c.time ∧ x.a.s = x.a.s ∧ x.a.d0 = x.a.d0 ∧ x.a.d1 = x.a.d1 ∧ x.a.d2 = x.a.d2 ∧ x.a.d3 = x.a.d3 ∧ x.a.d4 = x.a.d4 ∧ x.a.d5 = x.a.d5 ∧ x.a.d6 = x.a.d6 ∧ True) ∧ tt)) : inOf100 x :=
  Eq.mp (show _ = _ by kernel_rfl) h
theorem vcSmall100 (x : InstP) (h : (tt ∧ T1 ∧ T1 ∧ tt ∧ T1 ∧ T1 ∧ tt ∧ T1 ∧ T1 ∧ T1 ∧ (bif (decide (((List.length x.c.path) : Int) < 200)) then (T1 ∧ T1 ∧ T1 ∧ tt ∧ T1 ∧ T1 ∧ T1 ∧ T1 ∧ tt ∧ tt ∧ ((smallB x 200) = (decide (((List.length x.c.foot) : Int) < 200)) ∧ True) ∧ tt) else (false = false ∧ T1 ∧ tt ∧ tt ∧ ((smallB x 200) = false ∧ True) ∧ tt)))) : inSmall100 x :=
  Eq.mp (show _ = _ by kernel_rfl) h
theorem vcWords100 (h : (tt ∧ T1 ∧ tt ∧ T1 ∧ T1 ∧ tt ∧ tt ∧ ((strsAV wordsS) = [(AV.str [(110 : UInt8), 111, 110, 101]), (AV.str [(112 : UInt8), 114, 101]), (AV.str [(97 : UInt8), 99, 99, 101, 112, 116, 101, 100]), (AV.str [(99 : UInt8), 111, 109, 109, 105, 116, 116, 101, 100])] ∧ True) ∧ tt)) : inWords100 :=
  Eq.mp (show _ = _ by kernel_rfl) h
theorem vcIstatus0 (t : (List UInt8)) (h : let q0 := (strsAV wordsS); (tt ∧ T1 ∧ tt ∧ (T1 ∧ True) ∧ ∀ v0 : (List AV), (v0 = q0) → T1 ∧ T1 ∧ (@Exists.{1} (loopStatus t).V (fun (v2 : Nat) => ((((AV.str t) = (AV.str t) ∧ (AV.sl v0 Own.no) = (AV.sl q0 Own.no) ∧ (AV.int IntKind.i64 ((List.length v0) : Int)) = (AV.int IntKind.i64 4) ∧ (AV.int IntKind.i64 0) = (AV.int IntKind.i64 (v2 : Int)) ∧ True) ∧ T1 ∧ T1 ∧ tt ∧ tt) ∧ v2 ≤ 4 ∧ ∀ v3 : Nat, (v3 < v2) → (@Ne.{1} (List UInt8) (@List.getD.{0} (List UInt8) wordsS v3 (@List.nil.{0} UInt8)) t)))) ∧ ∀ v2 : Nat, (v2 ≤ 4 ∧ ∀ v3 : Nat, (v3 < v2) → (@Ne.{1} (List UInt8) (@List.getD.{0} (List UInt8) wordsS v3 (@List.nil.{0} UInt8)) t)) → tt ∧ T1 ∧ (bif (decide ((v2 : Int) < 4)) then (tt ∧ T1 ∧ ((0 : Int) ≤ (v2 : Int) ∧ (v2 : Int) < 4 ∧ (okElem 1 q0 (Int.toNat (v2 : Int)))) ∧ (okRead [Kd.str] (elemAt q0 (Int.toNat (v2 : Int))) 0) ∧ T1 ∧ T1 ∧ tt ∧ T1 ∧ T1 ∧ T1 ∧ (bif (@BEq.beq.{0} (List UInt8) (@List.instBEq.{0} UInt8 (@instBEqOfDecidableEq.{0} UInt8 instDecidableEqUInt8)) (rdStr (elemAt q0 (Int.toNat (v2 : Int))) 0) t) then (tt ∧ T1 ∧ T1 ∧ tt ∧ tt ∧ ((statusN t) = (v2 : Int) ∧ True) ∧ tt) else (tt ∧ T1 ∧ T1 ∧ (@Exists.{1} (loopStatus t).V (fun (v4 : Nat) => ((((AV.str t) = (AV.str t) ∧ (AV.sl q0 Own.no) = (AV.sl q0 Own.no) ∧ (AV.int IntKind.i64 4) = (AV.int IntKind.i64 4) ∧ (AV.int IntKind.i64 (IntKind.wrap IntKind.i64 ((v2 : Int) + (1 : Int)))) = (AV.int IntKind.i64 (v4 : Int)) ∧ True) ∧ T1 ∧ T1 ∧ tt ∧ tt) ∧ (v4 ≤ 4 ∧ ∀ v5 : Nat, (v5 < v4) → (@Ne.{1} (List UInt8) (@List.getD.{0} (List UInt8) wordsS v5 (@List.nil.{0} UInt8)) t)) ∧ (4 - v4) < (4 - v2))))))) else (tt ∧ T1 ∧ tt ∧ tt ∧ ((statusN t) = (@Neg.neg.{0} Int Int.instNegInt (1 : Int)) ∧ True) ∧ tt)))) : inIstatus0 t :=
  Eq.mp (show _ = _ by kernel_rfl) h
theorem vcSplitN0 (s : (List UInt8)) (sep : (List UInt8)) (n : Int) (h : let q0 := (strsAV (splitM s sep (Int.toNat n))); (tt ∧ T1 ∧ tt ∧ T1 ∧ T1 ∧ T1 ∧ (T1 ∧ (List.length s) < 4294967281 ∧ 1 ≤ (List.length sep) ∧ (0 : Int) = 0 ∧ (1 : Int) ≤ n ∧ n ≤ 1000000) ∧ ∀ v0 : (List AV), (v0 = q0) → ∀ v2 : Nat, (v2 = (List.length q0)) → T1 ∧ tt ∧ tt ∧ ((0 < 1 ∧ q0 = v0 ∧ v2 = (List.length v0)) ∧ True) ∧ tt)) : inSplitN0 s sep n :=
  Eq.mp (show _ = _ by kernel_rfl) h
theorem vcDigits100 (v : Int) (h : (tt ∧ T1 ∧ tt ∧ T1 ∧ (@Exists.{1} (loopDig v).V (fun (v0 : (@Prod.{0, 0} Int (List UInt8))) => ((((AV.int IntKind.u64 v) = (AV.int IntKind.u64 v0.1) ∧ (AV.str []) = (AV.str v0.2) ∧ True) ∧ T1 ∧ T1 ∧ tt ∧ tt) ∧ (0 : Int) ≤ v0.1 ∧ v0.1 ≤ v ∧ (digL v) = (@List.append.{0} UInt8 (digL v0.1) v0.2)))) ∧ ∀ v0 : (@Prod.{0, 0} Int (List UInt8)), ((0 : Int) ≤ v0.1 ∧ v0.1 ≤ v ∧ (digL v) = (@List.append.{0} UInt8 (digL v0.1) v0.2)) → tt ∧ T1 ∧ (@Ne.{1} Int (10 : Int) (0 : Int)) ∧ T1 ∧ T1 ∧ T1 ∧ (isBytes [(AV.int IntKind.u8 (IntKind.wrap IntKind.u8 (IntKind.wrap IntKind.u64 ((48 : Int) + (Int.tmod v0.1 10)))))]) ∧ T1 ∧ ((List.length (bytesL [(AV.int IntKind.u8 (IntKind.wrap IntKind.u8 (IntKind.wrap IntKind.u64 ((48 : Int) + (Int.tmod v0.1 10)))))])) + (List.length v0.2)) ≤ 9223372036854775807 ∧ T1 ∧ tt ∧ T1 ∧ (@Ne.{1} Int (10 : Int) (0 : Int)) ∧ T1 ∧ tt ∧ T1 ∧ T1 ∧ (bif ((IntKind.wrap IntKind.u64 (Int.tdiv v0.1 10)) == 0) then (tt ∧ T1 ∧ T1 ∧ tt ∧ tt ∧ ((digL v) = (@catL UInt8 (bytesL [(AV.int IntKind.u8 (IntKind.wrap IntKind.u8 (IntKind.wrap IntKind.u64 ((48 : Int) + (Int.tmod v0.1 10)))))]) v0.2) ∧ True) ∧ tt) else (@Exists.{1} (loopDig v).V (fun (v2 : (@Prod.{0, 0} Int (List UInt8))) => ((((AV.int IntKind.u64 (IntKind.wrap IntKind.u64 (Int.tdiv v0.1 10))) = (AV.int IntKind.u64 v2.1) ∧ (AV.str (@catL UInt8 (bytesL [(AV.int IntKind.u8 (IntKind.wrap IntKind.u8 (IntKind.wrap IntKind.u64 ((48 : Int) + (Int.tmod v0.1 10)))))]) v0.2)) = (AV.str v2.2) ∧ True) ∧ T1 ∧ T1 ∧ tt ∧ tt) ∧ ((0 : Int) ≤ v2.1 ∧ v2.1 ≤ v ∧ (digL v) = (@List.append.{0} UInt8 (digL v2.1) v2.2)) ∧ (Int.toNat v2.1) < (Int.toNat v0.1))))))) : inDigits100 v :=
  Eq.mp (show _ = _ by kernel_rfl) h
theorem vcBallot100 (b : Int) (h : (tt ∧ T1 ∧ tt ∧ T1 ∧ T1 ∧ (@Ne.{1} Int (8 : Int) (0 : Int)) ∧ (T1 ∧ True) ∧ ∀ v0 : (List UInt8), (v0 = (digL (IntKind.wrap IntKind.u64 (Int.tdiv (IntKind.wrap IntKind.u64 b) 8)))) → ((List.length v0) + 1) ≤ 9223372036854775807 ∧ T1 ∧ T1 ∧ (@Ne.{1} Int (8 : Int) (0 : Int)) ∧ (T1 ∧ True) ∧ ∀ v2 : (List UInt8), (v2 = (digL (Int.tmod (IntKind.wrap IntKind.u64 b) 8))) → ((List.length (@catL UInt8 v0 [(46 : UInt8)])) + (List.length v2)) ≤ 9223372036854775807 ∧ T1 ∧ tt ∧ tt ∧ ((balT b) = (@catL UInt8 (@catL UInt8 v0 [(46 : UInt8)]) v2) ∧ True) ∧ tt)) : inBallot100 b :=
  Eq.mp (show _ = _ by kernel_rfl) h
theorem vcIshow0 (x : InstP) (h : let q0 := (Int.toNat x.st); let q1 := (attShowV x.a.s x.a.d0 x.a.d1 x.a.d2 x.a.d3 x.a.d4 x.a.d5 x.a.d6); let q2 := (attShowE x.a.s x.a.d0 x.a.d1 x.a.d2 x.a.d3 x.a.d4 x.a.d5 x.a.d6); let w3_x := (T1 ∧ (List.length x.c.foot) ≤ 900000 ∧ (List.length x.c.path) ≤ 900000); (tt ∧ T1 ∧ T1 ∧ T1 ∧ tt ∧ tt ∧ (T1 ∧ (smallX x)) ∧ T1 ∧ (bif (Bool.not (rightI x)) then (tt ∧ T1 ∧ T1 ∧ tt ∧ tt ∧ ((ishowV x) = [] ∧ (ishowE x) = 10 ∧ True) ∧ tt) else (tt ∧ T1 ∧ tt ∧ (T1 ∧ True) ∧ ∀ v0 : (List UInt8), (v0 = (idShowV x.r x.sl)) → ∀ v2 : Int, (v2 = (idShowE x.r x.sl)) → T1 ∧ T1 ∧ T1 ∧ T1 ∧ T1 ∧ tt ∧ T1 ∧ tt ∧ (T1 ∧ True) ∧ ∀ v4 : (List UInt8), (v4 = (balShowV x.bal)) → ∀ v6 : Int, (v6 = (balShowE x.bal)) → T1 ∧ T1 ∧ T1 ∧ T1 ∧ T1 ∧ tt ∧ T1 ∧ T1 ∧ (T1 ∧ True) ∧ ∀ v8 : (List AV), let w0_8 := [(AV.str v0), (AV.str v4), (AV.str (rdStr (elemAt v8 q0) 0))]; (v8 = (strsAV wordsS)) → T1 ∧ tt ∧ ((0 : Int) ≤ x.st ∧ x.st < ((List.length v8) : Int) ∧ (okElem 1 v8 q0)) ∧ (okRead [Kd.str] (elemAt v8 q0) 0) ∧ T1 ∧ T1 ∧ tt ∧ tt ∧ T1 ∧ tt ∧ T1 ∧ (bif (x.st == 0) then (tt ∧ T1 ∧ (T1 ∧ (isStrs w0_8) ∧ (List.length (Go.Lib.join (strsL w0_8) [(32 : UInt8)])) ≤ 140737488355328 ∧ 3 ≤ 140737488355328) ∧ ∀ v10 : (List UInt8), (v10 = (Go.Lib.join (strsL w0_8) [(32 : UInt8)])) → T1 ∧ T1 ∧ tt ∧ tt ∧ ((ishowV x) = v10 ∧ (ishowE x) = 0 ∧ True) ∧ tt) else (tt ∧ T1 ∧ tt ∧ (T1 ∧ True) ∧ ∀ v10 : (List UInt8), (v10 = (balShowV x.vote)) → ∀ v12 : Int, (v12 = (balShowE x.vote)) → T1 ∧ T1 ∧ T1 ∧ T1 ∧ T1 ∧ tt ∧ T1 ∧ tt ∧ T1 ∧ tt ∧ (bif x.same then (tt ∧ T1 ∧ tt ∧ T1 ∧ tt ∧ (T1 ∧ True) ∧ ∀ v14 : (List UInt8), (v14 = q1) → ∀ v16 : Int, (v16 = q2) → T1 ∧ T1 ∧ T1 ∧ T1 ∧ T1 ∧ tt ∧ T1 ∧ tt ∧ w3_x ∧ ∀ v18 : (List UInt8), let w2_18 := [(AV.str v10), (AV.str [(115 : UInt8), 97, 109, 101]), (AV.str v14), (AV.str v18)]; let w4_18 := (Go.Lib.join (strsL (@catL AV w0_8 w2_18)) [(32 : UInt8)]); (v18 = (showV x.c)) → ∀ v20 : Int, (v20 = (showE x.c)) → T1 ∧ T1 ∧ T1 ∧ T1 ∧ T1 ∧ tt ∧ T1 ∧ T1 ∧ T1 ∧ T1 ∧ T1 ∧ T1 ∧ (@Eq.{1} Nat 3 3 ∧ 112 ≤ 140737488355328 ∧ 7 ≤ 9223372036854775807 ∧ (okWidth 1 w0_8) ∧ (okWidth 1 w2_18)) ∧ (T1 ∧ (isStrs (@catL AV w0_8 w2_18)) ∧ (List.length w4_18) ≤ 140737488355328 ∧ (List.length (@catL AV w0_8 w2_18)) ≤ 140737488355328) ∧ ∀ v22 : (List UInt8), (v22 = w4_18) → T1 ∧ T1 ∧ tt ∧ tt ∧ ((ishowV x) = v22 ∧ (ishowE x) = 0 ∧ True) ∧ tt) else (tt ∧ T1 ∧ tt ∧ (T1 ∧ True) ∧ ∀ v14 : (List UInt8), (v14 = q1) → ∀ v16 : Int, (v16 = q2) → T1 ∧ T1 ∧ T1 ∧ T1 ∧ T1 ∧ tt ∧ T1 ∧ tt ∧ w3_x ∧ ∀ v18 : (List UInt8), let w1_18 := [(AV.str v10), (AV.str [(111 : UInt8), 116, 104, 101, 114]), (AV.str v14), (AV.str v18)]; let w5_18 := (Go.Lib.join (strsL (@catL AV w0_8 w1_18)) [(32 : UInt8)]); (v18 = (showV x.c)) → ∀ v20 : Int, (v20 = (showE x.c)) → T1 ∧ T1 ∧ T1 ∧ T1 ∧ T1 ∧ tt ∧ T1 ∧ T1 ∧ T1 ∧ T1 ∧ T1 ∧ T1 ∧ (@Eq.{1} Nat 3 3 ∧ 112 ≤ 140737488355328 ∧ 7 ≤ 9223372036854775807 ∧ (okWidth 1 w0_8) ∧ (okWidth 1 w1_18)) ∧ (T1 ∧ (isStrs (@catL AV w0_8 w1_18)) ∧ (List.length w5_18) ≤ 140737488355328 ∧ (List.length (@catL AV w0_8 w1_18)) ≤ 140737488355328) ∧ ∀ v22 : (List UInt8), (v22 = w5_18) → T1 ∧ T1 ∧ tt ∧ tt ∧ ((ishowV x) = v22 ∧ (ishowE x) = 0 ∧ True) ∧ tt)))))))) : inIshow0 x :=
  Eq.mp (show _ = _ by kernel_rfl) h
theorem vcTextI0 (x : InstP) (h : (tt ∧ T1 ∧ T1 ∧ T1 ∧ tt ∧ T1 ∧ T1 ∧ tt ∧ T1 ∧ (T1 ∧ True) ∧ ∀ v0 : (List UInt8), let w1_0 := (@catL UInt8 v0 [(46 : UInt8)]); (v0 = (digL (IntKind.wrap IntKind.u64 x.r))) → ((List.length v0) + 1) ≤ 9223372036854775807 ∧ T1 ∧ T1 ∧ tt ∧ T1 ∧ (T1 ∧ True) ∧ ∀ v2 : (List UInt8), let w0_2 := (@catL UInt8 (@catL UInt8 w1_0 v2) [(32 : UInt8)]); (v2 = (digL (IntKind.wrap IntKind.u64 x.sl))) → ((List.length w1_0) + (List.length v2)) ≤ 9223372036854775807 ∧ ((List.length (@catL UInt8 w1_0 v2)) + 1) ≤ 9223372036854775807 ∧ T1 ∧ tt ∧ (T1 ∧ True) ∧ ∀ v4 : (List UInt8), (v4 = (balT x.bal)) → ((List.length w0_2) + (List.length v4)) ≤ 9223372036854775807 ∧ T1 ∧ tt ∧ tt ∧ T1 ∧ tt ∧ T1 ∧ tt ∧ T1 ∧ ((List.length (@catL UInt8 w0_2 v4)) + 5) ≤ 9223372036854775807 ∧ T1 ∧ T1 ∧ tt ∧ tt ∧ ((headI (InstP.mk x.r x.sl 0 x.bal x.vote x.same x.c x.a)) = (@catL UInt8 (@catL UInt8 w0_2 v4) [(32 : UInt8), 110, 111, 110, 101]) ∧ false = false ∧ True) ∧ tt)) : inTextI0 x :=
  Eq.mp (show _ = _ by kernel_rfl) h
theorem vcTextI1 (x : InstP) (h : let q0 := (headI (InstP.mk x.r x.sl 1 x.bal x.vote x.same x.c x.a)); let w7_x := (tt ∧ tt); let w18_x := ((0 : Int) ≤ (0 : Int) ∧ (0 : Int) < (7 : Int) ∧ 1 ≤ 7); let w19_x := ((0 : Int) ≤ (1 : Int) ∧ (1 : Int) < (7 : Int) ∧ 2 ≤ 7); let w20_x := ((0 : Int) ≤ (2 : Int) ∧ (2 : Int) < (7 : Int) ∧ 3 ≤ 7); let w21_x := ((0 : Int) ≤ (3 : Int) ∧ (3 : Int) < (7 : Int) ∧ 4 ≤ 7); let w22_x := ((0 : Int) ≤ (4 : Int) ∧ (4 : Int) < (7 : Int) ∧ 5 ≤ 7); let w23_x := ((0 : Int) ≤ (5 : Int) ∧ (5 : Int) < (7 : Int) ∧ 6 ≤ 7); let w24_x := ((0 : Int) ≤ (6 : Int) ∧ (6 : Int) < (7 : Int) ∧ 7 ≤ 7); (tt ∧ T1 ∧ T1 ∧ T1 ∧ tt ∧ T1 ∧ T1 ∧ tt ∧ T1 ∧ (T1 ∧ True) ∧ ∀ v0 : (List UInt8), let w27_0 := (@catL UInt8 v0 [(46 : UInt8)]); (v0 = (digL (IntKind.wrap IntKind.u64 x.r))) → ((List.length v0) + 1) ≤ 9223372036854775807 ∧ T1 ∧ T1 ∧ tt ∧ T1 ∧ (T1 ∧ True) ∧ ∀ v2 : (List UInt8), let w10_2 := (@catL UInt8 (@catL UInt8 w27_0 v2) [(32 : UInt8)]); (v2 = (digL (IntKind.wrap IntKind.u64 x.sl))) → ((List.length w27_0) + (List.length v2)) ≤ 9223372036854775807 ∧ ((List.length (@catL UInt8 w27_0 v2)) + 1) ≤ 9223372036854775807 ∧ T1 ∧ tt ∧ (T1 ∧ True) ∧ ∀ v4 : (List UInt8), (v4 = (balT x.bal)) → ((List.length w10_2) + (List.length v4)) ≤ 9223372036854775807 ∧ T1 ∧ tt ∧ tt ∧ T1 ∧ tt ∧ T1 ∧ tt ∧ T1 ∧ T1 ∧ T1 ∧ tt ∧ ((0 : Int) ≤ (1 : Int) ∧ (1 : Int) < (4 : Int) ∧ 2 ≤ 4) ∧ T1 ∧ tt ∧ (T1 ∧ True) ∧ ∀ v6 : (List UInt8), let w17_6 := (@catL UInt8 [(32 : UInt8), 112, 114, 101, 32] v6); let w0_6 := (@catL UInt8 (@catL UInt8 w10_2 v4) w17_6); let w11_6 := (@catL UInt8 w0_6 [(32 : UInt8), 111, 116, 104, 101, 114, 32]); let w12_6 := (@catL UInt8 w0_6 [(32 : UInt8), 115, 97, 109, 101, 32]); (v6 = (balT x.vote)) → (5 + (List.length v6)) ≤ 9223372036854775807 ∧ ((List.length (@catL UInt8 w10_2 v4)) + (List.length w17_6)) ≤ 9223372036854775807 ∧ T1 ∧ tt ∧ tt ∧ T1 ∧ tt ∧ (bif x.same then (tt ∧ T1 ∧ ((List.length w0_6) + 6) ≤ 9223372036854775807 ∧ T1 ∧ tt ∧ T1 ∧ T1 ∧ T1 ∧ tt ∧ T1 ∧ (T1 ∧ True) ∧ ∀ v8 : (List UInt8), let w4_8 := (@catL UInt8 w12_6 (@catL UInt8 v8 [(124 : UInt8)])); (v8 = (digL (IntKind.wrap IntKind.u64 x.a.s))) → ((List.length v8) + 1) ≤ 9223372036854775807 ∧ ((List.length w12_6) + (List.length (@catL UInt8 v8 [(124 : UInt8)]))) ≤ 9223372036854775807 ∧ T1 ∧ tt ∧ T1 ∧ T1 ∧ tt ∧ T1 ∧ w7_x ∧ tt ∧ T1 ∧ tt ∧ T1 ∧ w18_x ∧ T1 ∧ T1 ∧ tt ∧ T1 ∧ T1 ∧ tt ∧ T1 ∧ T1 ∧ T1 ∧ (T1 ∧ True) ∧ ∀ v10 : (List UInt8), let w15_10 := (@catL UInt8 (@catL UInt8 w4_8 v10) [(44 : UInt8)]); (v10 = (digL (IntKind.wrap IntKind.u64 x.a.d0))) → ((List.length w4_8) + (List.length v10)) ≤ 9223372036854775807 ∧ T1 ∧ tt ∧ T1 ∧ T1 ∧ w7_x ∧ tt ∧ T1 ∧ tt ∧ T1 ∧ w19_x ∧ T1 ∧ T1 ∧ tt ∧ T1 ∧ T1 ∧ tt ∧ T1 ∧ ((List.length (@catL UInt8 w4_8 v10)) + 1) ≤ 9223372036854775807 ∧ T1 ∧ tt ∧ T1 ∧ T1 ∧ T1 ∧ (T1 ∧ True) ∧ ∀ v12 : (List UInt8), let w2_12 := (@catL UInt8 (@catL UInt8 w15_10 v12) [(44 : UInt8)]); (v12 = (digL (IntKind.wrap IntKind.u64 x.a.d1))) → ((List.length w15_10) + (List.length v12)) ≤ 9223372036854775807 ∧ T1 ∧ tt ∧ T1 ∧ T1 ∧ w7_x ∧ tt ∧ T1 ∧ tt ∧ T1 ∧ w20_x ∧ T1 ∧ T1 ∧ tt ∧ T1 ∧ T1 ∧ tt ∧ T1 ∧ ((List.length (@catL UInt8 w15_10 v12)) + 1) ≤ 9223372036854775807 ∧ T1 ∧ tt ∧ T1 ∧ T1 ∧ T1 ∧ (T1 ∧ True) ∧ ∀ v14 : (List UInt8), let w13_14 := (@catL UInt8 (@catL UInt8 w2_12 v14) [(44 : UInt8)]); (v14 = (digL (IntKind.wrap IntKind.u64 x.a.d2))) → ((List.length w2_12) + (List.length v14)) ≤ 9223372036854775807 ∧ T1 ∧ tt ∧ T1 ∧ T1 ∧ w7_x ∧ tt ∧ T1 ∧ tt ∧ T1 ∧ w21_x ∧ T1 ∧ T1 ∧ tt ∧ T1 ∧ T1 ∧ tt ∧ T1 ∧ ((List.length (@catL UInt8 w2_12 v14)) + 1) ≤ 9223372036854775807 ∧ T1 ∧ tt ∧ T1 ∧ T1 ∧ T1 ∧ (T1 ∧ True) ∧ ∀ v16 : (List UInt8), let w5_16 := (@catL UInt8 (@catL UInt8 w13_14 v16) [(44 : UInt8)]); (v16 = (digL (IntKind.wrap IntKind.u64 x.a.d3))) → ((List.length w13_14) + (List.length v16)) ≤ 9223372036854775807 ∧ T1 ∧ tt ∧ T1 ∧ T1 ∧ w7_x ∧ tt ∧ T1 ∧ tt ∧ T1 ∧ w22_x ∧ T1 ∧ T1 ∧ tt ∧ T1 ∧ T1 ∧ tt ∧ T1 ∧ ((List.length (@catL UInt8 w13_14 v16)) + 1) ≤ 9223372036854775807 ∧ T1 ∧ tt ∧ T1 ∧ T1 ∧ T1 ∧ (T1 ∧ True) ∧ ∀ v18 : (List UInt8), (v18 = (digL (IntKind.wrap IntKind.u64 x.a.d4))) → ((List.length w5_16) + (List.length v18)) ≤ 9223372036854775807 ∧ T1 ∧ tt ∧ T1 ∧ T1 ∧ w7_x ∧ tt ∧ T1 ∧ tt ∧ T1 ∧ w23_x ∧ T1 ∧ T1 ∧ tt ∧ T1 ∧ T1 ∧ tt ∧ T1 ∧ ((List.length (@catL UInt8 w5_16 v18)) + 1) ≤ 9223372036854775807 ∧ T1 ∧ tt ∧ T1 ∧ T1 ∧ T1 ∧ (T1 ∧ True) ∧ ∀ v20 : (List UInt8), let w8_20 := (@catL UInt8 (@catL UInt8 (@catL UInt8 w5_16 v18) [(44 : UInt8)]) v20); let w25_20 := (@catL UInt8 w8_20 [(44 : UInt8)]); (v20 = (digL (IntKind.wrap IntKind.u64 x.a.d5))) → ((List.length (@catL UInt8 (@catL UInt8 w5_16 v18) [(44 : UInt8)])) + (List.length v20)) ≤ 9223372036854775807 ∧ T1 ∧ tt ∧ T1 ∧ T1 ∧ w7_x ∧ tt ∧ T1 ∧ tt ∧ T1 ∧ w24_x ∧ T1 ∧ T1 ∧ tt ∧ T1 ∧ T1 ∧ tt ∧ T1 ∧ ((List.length w8_20) + 1) ≤ 9223372036854775807 ∧ T1 ∧ tt ∧ T1 ∧ T1 ∧ T1 ∧ (T1 ∧ True) ∧ ∀ v22 : (List UInt8), (v22 = (digL (IntKind.wrap IntKind.u64 x.a.d6))) → ((List.length w25_20) + (List.length v22)) ≤ 9223372036854775807 ∧ T1 ∧ tt ∧ T1 ∧ T1 ∧ w7_x ∧ tt ∧ T1 ∧ tt ∧ T1 ∧ ((List.length (@catL UInt8 w25_20 v22)) + 1) ≤ 9223372036854775807 ∧ T1 ∧ T1 ∧ tt ∧ tt ∧ (q0 = (@catL UInt8 (@catL UInt8 w25_20 v22) [(32 : UInt8)]) ∧ tt ∧ True) ∧ tt) else (tt ∧ T1 ∧ ((List.length w0_6) + 7) ≤ 9223372036854775807 ∧ T1 ∧ tt ∧ T1 ∧ T1 ∧ T1 ∧ tt ∧ T1 ∧ (T1 ∧ True) ∧ ∀ v8 : (List UInt8), let w3_8 := (@catL UInt8 w11_6 (@catL UInt8 v8 [(124 : UInt8)])); (v8 = (digL (IntKind.wrap IntKind.u64 x.a.s))) → ((List.length v8) + 1) ≤ 9223372036854775807 ∧ ((List.length w11_6) + (List.length (@catL UInt8 v8 [(124 : UInt8)]))) ≤ 9223372036854775807 ∧ T1 ∧ tt ∧ T1 ∧ T1 ∧ tt ∧ T1 ∧ w7_x ∧ tt ∧ T1 ∧ tt ∧ T1 ∧ w18_x ∧ T1 ∧ T1 ∧ tt ∧ T1 ∧ T1 ∧ tt ∧ T1 ∧ T1 ∧ T1 ∧ (T1 ∧ True) ∧ ∀ v10 : (List UInt8), let w16_10 := (@catL UInt8 (@catL UInt8 w3_8 v10) [(44 : UInt8)]); (v10 = (digL (IntKind.wrap IntKind.u64 x.a.d0))) → ((List.length w3_8) + (List.length v10)) ≤ 9223372036854775807 ∧ T1 ∧ tt ∧ T1 ∧ T1 ∧ w7_x ∧ tt ∧ T1 ∧ tt ∧ T1 ∧ w19_x ∧ T1 ∧ T1 ∧ tt ∧ T1 ∧ T1 ∧ tt ∧ T1 ∧ ((List.length (@catL UInt8 w3_8 v10)) + 1) ≤ 9223372036854775807 ∧ T1 ∧ tt ∧ T1 ∧ T1 ∧ T1 ∧ (T1 ∧ True) ∧ ∀ v12 : (List UInt8), let w1_12 := (@catL UInt8 (@catL UInt8 w16_10 v12) [(44 : UInt8)]); (v12 = (digL (IntKind.wrap IntKind.u64 x.a.d1))) → ((List.length w16_10) + (List.length v12)) ≤ 9223372036854775807 ∧ T1 ∧ tt ∧ T1 ∧ T1 ∧ w7_x ∧ tt ∧ T1 ∧ tt ∧ T1 ∧ w20_x ∧ T1 ∧ T1 ∧ tt ∧ T1 ∧ T1 ∧ tt ∧ T1 ∧ ((List.length (@catL UInt8 w16_10 v12)) + 1) ≤ 9223372036854775807 ∧ T1 ∧ tt ∧ T1 ∧ T1 ∧ T1 ∧ (T1 ∧ True) ∧ ∀ v14 : (List UInt8), let w14_14 := (@catL UInt8 (@catL UInt8 w1_12 v14) [(44 : UInt8)]); (v14 = (digL (IntKind.wrap IntKind.u64 x.a.d2))) → ((List.length w1_12) + (List.length v14)) ≤ 9223372036854775807 ∧ T1 ∧ tt ∧ T1 ∧ T1 ∧ w7_x ∧ tt ∧ T1 ∧ tt ∧ T1 ∧ w21_x ∧ T1 ∧ T1 ∧ tt ∧ T1 ∧ T1 ∧ tt ∧ T1 ∧ ((List.length (@catL UInt8 w1_12 v14)) + 1) ≤ 9223372036854775807 ∧ T1 ∧ tt ∧ T1 ∧ T1 ∧ T1 ∧ (T1 ∧ True) ∧ ∀ v16 : (List UInt8), let w6_16 := (@catL UInt8 (@catL UInt8 w14_14 v16) [(44 : UInt8)]); (v16 = (digL (IntKind.wrap IntKind.u64 x.a.d3))) → ((List.length w14_14) + (List.length v16)) ≤ 9223372036854775807 ∧ T1 ∧ tt ∧ T1 ∧ T1 ∧ w7_x ∧ tt ∧ T1 ∧ tt ∧ T1 ∧ w22_x ∧ T1 ∧ T1 ∧ tt ∧ T1 ∧ T1 ∧ tt ∧ T1 ∧ ((List.length (@catL UInt8 w14_14 v16)) + 1) ≤ 9223372036854775807 ∧ T1 ∧ tt ∧ T1 ∧ T1 ∧ T1 ∧ (T1 ∧ True) ∧ ∀ v18 : (List UInt8), (v18 = (digL (IntKind.wrap IntKind.u64 x.a.d4))) → ((List.length w6_16) + (List.length v18)) ≤ 9223372036854775807 ∧ T1 ∧ tt ∧ T1 ∧ T1 ∧ w7_x ∧ tt ∧ T1 ∧ tt ∧ T1 ∧ w23_x ∧ T1 ∧ T1 ∧ tt ∧ T1 ∧ T1 ∧ tt ∧ T1 ∧ ((List.length (@catL UInt8 w6_16 v18)) + 1) ≤ 9223372036854775807 ∧ T1 ∧ tt ∧ T1 ∧ T1 ∧ T1 ∧ (T1 ∧ True) ∧ ∀ v20 : (List UInt8), let w9_20 := (@catL UInt8 (@catL UInt8 (@catL UInt8 w6_16 v18) [(44 : UInt8)]) v20); let w26_20 := (@catL UInt8 w9_20 [(44 : UInt8)]); (v20 = (digL (IntKind.wrap IntKind.u64 x.a.d5))) → ((List.length (@catL UInt8 (@catL UInt8 w6_16 v18) [(44 : UInt8)])) + (List.length v20)) ≤ 9223372036854775807 ∧ T1 ∧ tt ∧ T1 ∧ T1 ∧ w7_x ∧ tt ∧ T1 ∧ tt ∧ T1 ∧ w24_x ∧ T1 ∧ T1 ∧ tt ∧ T1 ∧ T1 ∧ tt ∧ T1 ∧ ((List.length w9_20) + 1) ≤ 9223372036854775807 ∧ T1 ∧ tt ∧ T1 ∧ T1 ∧ T1 ∧ (T1 ∧ True) ∧ ∀ v22 : (List UInt8), (v22 = (digL (IntKind.wrap IntKind.u64 x.a.d6))) → ((List.length w26_20) + (List.length v22)) ≤ 9223372036854775807 ∧ T1 ∧ tt ∧ T1 ∧ T1 ∧ w7_x ∧ tt ∧ T1 ∧ tt ∧ T1 ∧ ((List.length (@catL UInt8 w26_20 v22)) + 1) ≤ 9223372036854775807 ∧ T1 ∧ T1 ∧ tt ∧ tt ∧ (q0 = (@catL UInt8 (@catL UInt8 w26_20 v22) [(32 : UInt8)]) ∧ tt ∧ True) ∧ tt)))) : inTextI1 x :=
  Eq.mp (show _ = _ by kernel_rfl) h
theorem vcTextI2 (x : InstP) (h : let q0 := (headI (InstP.mk x.r x.sl 2 x.bal x.vote x.same x.c x.a)); let w7_x := (tt ∧ tt); let w18_x := ((0 : Int) ≤ (0 : Int) ∧ (0 : Int) < (7 : Int) ∧ 1 ≤ 7); let w19_x := ((0 : Int) ≤ (1 : Int) ∧ (1 : Int) < (7 : Int) ∧ 2 ≤ 7); let w20_x := ((0 : Int) ≤ (2 : Int) ∧ (2 : Int) < (7 : Int) ∧ 3 ≤ 7); let w21_x := ((0 : Int) ≤ (3 : Int) ∧ (3 : Int) < (7 : Int) ∧ 4 ≤ 7); let w22_x := ((0 : Int) ≤ (4 : Int) ∧ (4 : Int) < (7 : Int) ∧ 5 ≤ 7); let w23_x := ((0 : Int) ≤ (5 : Int) ∧ (5 : Int) < (7 : Int) ∧ 6 ≤ 7); let w24_x := ((0 : Int) ≤ (6 : Int) ∧ (6 : Int) < (7 : Int) ∧ 7 ≤ 7); (tt ∧ T1 ∧ T1 ∧ T1 ∧ tt ∧ T1 ∧ T1 ∧ tt ∧ T1 ∧ (T1 ∧ True) ∧ ∀ v0 : (List UInt8), let w27_0 := (@catL UInt8 v0 [(46 : UInt8)]); (v0 = (digL (IntKind.wrap IntKind.u64 x.r))) → ((List.length v0) + 1) ≤ 9223372036854775807 ∧ T1 ∧ T1 ∧ tt ∧ T1 ∧ (T1 ∧ True) ∧ ∀ v2 : (List UInt8), let w11_2 := (@catL UInt8 (@catL UInt8 w27_0 v2) [(32 : UInt8)]); (v2 = (digL (IntKind.wrap IntKind.u64 x.sl))) → ((List.length w27_0) + (List.length v2)) ≤ 9223372036854775807 ∧ ((List.length (@catL UInt8 w27_0 v2)) + 1) ≤ 9223372036854775807 ∧ T1 ∧ tt ∧ (T1 ∧ True) ∧ ∀ v4 : (List UInt8), (v4 = (balT x.bal)) → ((List.length w11_2) + (List.length v4)) ≤ 9223372036854775807 ∧ T1 ∧ tt ∧ tt ∧ T1 ∧ tt ∧ T1 ∧ tt ∧ T1 ∧ T1 ∧ T1 ∧ tt ∧ ((0 : Int) ≤ (2 : Int) ∧ (2 : Int) < (4 : Int) ∧ 3 ≤ 4) ∧ T1 ∧ tt ∧ (T1 ∧ True) ∧ ∀ v6 : (List UInt8), let w10_6 := (@catL UInt8 [(32 : UInt8), 97, 99, 99, 101, 112, 116, 101, 100, 32] v6); let w0_6 := (@catL UInt8 (@catL UInt8 w11_2 v4) w10_6); let w12_6 := (@catL UInt8 w0_6 [(32 : UInt8), 111, 116, 104, 101, 114, 32]); let w13_6 := (@catL UInt8 w0_6 [(32 : UInt8), 115, 97, 109, 101, 32]); (v6 = (balT x.vote)) → (10 + (List.length v6)) ≤ 9223372036854775807 ∧ ((List.length (@catL UInt8 w11_2 v4)) + (List.length w10_6)) ≤ 9223372036854775807 ∧ T1 ∧ tt ∧ tt ∧ T1 ∧ tt ∧ (bif x.same then (tt ∧ T1 ∧ ((List.length w0_6) + 6) ≤ 9223372036854775807 ∧ T1 ∧ tt ∧ T1 ∧ T1 ∧ T1 ∧ tt ∧ T1 ∧ (T1 ∧ True) ∧ ∀ v8 : (List UInt8), let w4_8 := (@catL UInt8 w13_6 (@catL UInt8 v8 [(124 : UInt8)])); (v8 = (digL (IntKind.wrap IntKind.u64 x.a.s))) → ((List.length v8) + 1) ≤ 9223372036854775807 ∧ ((List.length w13_6) + (List.length (@catL UInt8 v8 [(124 : UInt8)]))) ≤ 9223372036854775807 ∧ T1 ∧ tt ∧ T1 ∧ T1 ∧ tt ∧ T1 ∧ w7_x ∧ tt ∧ T1 ∧ tt ∧ T1 ∧ w18_x ∧ T1 ∧ T1 ∧ tt ∧ T1 ∧ T1 ∧ tt ∧ T1 ∧ T1 ∧ T1 ∧ (T1 ∧ True) ∧ ∀ v10 : (List UInt8), let w16_10 := (@catL UInt8 (@catL UInt8 w4_8 v10) [(44 : UInt8)]); (v10 = (digL (IntKind.wrap IntKind.u64 x.a.d0))) → ((List.length w4_8) + (List.length v10)) ≤ 9223372036854775807 ∧ T1 ∧ tt ∧ T1 ∧ T1 ∧ w7_x ∧ tt ∧ T1 ∧ tt ∧ T1 ∧ w19_x ∧ T1 ∧ T1 ∧ tt ∧ T1 ∧ T1 ∧ tt ∧ T1 ∧ ((List.length (@catL UInt8 w4_8 v10)) + 1) ≤ 9223372036854775807 ∧ T1 ∧ tt ∧ T1 ∧ T1 ∧ T1 ∧ (T1 ∧ True) ∧ ∀ v12 : (List UInt8), let w2_12 := (@catL UInt8 (@catL UInt8 w16_10 v12) [(44 : UInt8)]); (v12 = (digL (IntKind.wrap IntKind.u64 x.a.d1))) → ((List.length w16_10) + (List.length v12)) ≤ 9223372036854775807 ∧ T1 ∧ tt ∧ T1 ∧ T1 ∧ w7_x ∧ tt ∧ T1 ∧ tt ∧ T1 ∧ w20_x ∧ T1 ∧ T1 ∧ tt ∧ T1 ∧ T1 ∧ tt ∧ T1 ∧ ((List.length (@catL UInt8 w16_10 v12)) + 1) ≤ 9223372036854775807 ∧ T1 ∧ tt ∧ T1 ∧ T1 ∧ T1 ∧ (T1 ∧ True) ∧ ∀ v14 : (List UInt8), let w14_14 := (@catL UInt8 (@catL UInt8 w2_12 v14) [(44 : UInt8)]); (v14 = (digL (IntKind.wrap IntKind.u64 x.a.d2))) → ((List.length w2_12) + (List.length v14)) ≤ 9223372036854775807 ∧ T1 ∧ tt ∧ T1 ∧ T1 ∧ w7_x ∧ tt ∧ T1 ∧ tt ∧ T1 ∧ w21_x ∧ T1 ∧ T1 ∧ tt ∧ T1 ∧ T1 ∧ tt ∧ T1 ∧ ((List.length (@catL UInt8 w2_12 v14)) + 1) ≤ 9223372036854775807 ∧ T1 ∧ tt ∧ T1 ∧ T1 ∧ T1 ∧ (T1 ∧ True) ∧ ∀ v16 : (List UInt8), let w5_16 := (@catL UInt8 (@catL UInt8 w14_14 v16) [(44 : UInt8)]); (v16 = (digL (IntKind.wrap IntKind.u64 x.a.d3))) → ((List.length w14_14) + (List.length v16)) ≤ 9223372036854775807 ∧ T1 ∧ tt ∧ T1 ∧ T1 ∧ w7_x ∧ tt ∧ T1 ∧ tt ∧ T1 ∧ w22_x ∧ T1 ∧ T1 ∧ tt ∧ T1 ∧ T1 ∧ tt ∧ T1 ∧ ((List.length (@catL UInt8 w14_14 v16)) + 1) ≤ 9223372036854775807 ∧ T1 ∧ tt ∧ T1 ∧ T1 ∧ T1 ∧ (T1 ∧ True) ∧ ∀ v18 : (List UInt8), (v18 = (digL (IntKind.wrap IntKind.u64 x.a.d4))) → ((List.length w5_16) + (List.length v18)) ≤ 9223372036854775807 ∧ T1 ∧ tt ∧ T1 ∧ T1 ∧ w7_x ∧ tt ∧ T1 ∧ tt ∧ T1 ∧ w23_x ∧ T1 ∧ T1 ∧ tt ∧ T1 ∧ T1 ∧ tt ∧ T1 ∧ ((List.length (@catL UInt8 w5_16 v18)) + 1) ≤ 9223372036854775807 ∧ T1 ∧ tt ∧ T1 ∧ T1 ∧ T1 ∧ (T1 ∧ True) ∧ ∀ v20 : (List UInt8), let w8_20 := (@catL UInt8 (@catL UInt8 (@catL UInt8 w5_16 v18) [(44 : UInt8)]) v20); let w25_20 := (@catL UInt8 w8_20 [(44 : UInt8)]); (v20 = (digL (IntKind.wrap IntKind.u64 x.a.d5))) → ((List.length (@catL UInt8 (@catL UInt8 w5_16 v18) [(44 : UInt8)])) + (List.length v20)) ≤ 9223372036854775807 ∧ T1 ∧ tt ∧ T1 ∧ T1 ∧ w7_x ∧ tt ∧ T1 ∧ tt ∧ T1 ∧ w24_x ∧ T1 ∧ T1 ∧ tt ∧ T1 ∧ T1 ∧ tt ∧ T1 ∧ ((List.length w8_20) + 1) ≤ 9223372036854775807 ∧ T1 ∧ tt ∧ T1 ∧ T1 ∧ T1 ∧ (T1 ∧ True) ∧ ∀ v22 : (List UInt8), (v22 = (digL (IntKind.wrap IntKind.u64 x.a.d6))) → ((List.length w25_20) + (List.length v22)) ≤ 9223372036854775807 ∧ T1 ∧ tt ∧ T1 ∧ T1 ∧ w7_x ∧ tt ∧ T1 ∧ tt ∧ T1 ∧ ((List.length (@catL UInt8 w25_20 v22)) + 1) ≤ 9223372036854775807 ∧ T1 ∧ T1 ∧ tt ∧ tt ∧ (q0 = (@catL UInt8 (@catL UInt8 w25_20 v22) [(32 : UInt8)]) ∧ tt ∧ True) ∧ tt) else (tt ∧ T1 ∧ ((List.length w0_6) + 7) ≤ 9223372036854775807 ∧ T1 ∧ tt ∧ T1 ∧ T1 ∧ T1 ∧ tt ∧ T1 ∧ (T1 ∧ True) ∧ ∀ v8 : (List UInt8), let w3_8 := (@catL UInt8 w12_6 (@catL UInt8 v8 [(124 : UInt8)])); (v8 = (digL (IntKind.wrap IntKind.u64 x.a.s))) → ((List.length v8) + 1) ≤ 9223372036854775807 ∧ ((List.length w12_6) + (List.length (@catL UInt8 v8 [(124 : UInt8)]))) ≤ 9223372036854775807 ∧ T1 ∧ tt ∧ T1 ∧ T1 ∧ tt ∧ T1 ∧ w7_x ∧ tt ∧ T1 ∧ tt ∧ T1 ∧ w18_x ∧ T1 ∧ T1 ∧ tt ∧ T1 ∧ T1 ∧ tt ∧ T1 ∧ T1 ∧ T1 ∧ (T1 ∧ True) ∧ ∀ v10 : (List UInt8), let w17_10 := (@catL UInt8 (@catL UInt8 w3_8 v10) [(44 : UInt8)]); (v10 = (digL (IntKind.wrap IntKind.u64 x.a.d0))) → ((List.length w3_8) + (List.length v10)) ≤ 9223372036854775807 ∧ T1 ∧ tt ∧ T1 ∧ T1 ∧ w7_x ∧ tt ∧ T1 ∧ tt ∧ T1 ∧ w19_x ∧ T1 ∧ T1 ∧ tt ∧ T1 ∧ T1 ∧ tt ∧ T1 ∧ ((List.length (@catL UInt8 w3_8 v10)) + 1) ≤ 9223372036854775807 ∧ T1 ∧ tt ∧ T1 ∧ T1 ∧ T1 ∧ (T1 ∧ True) ∧ ∀ v12 : (List UInt8), let w1_12 := (@catL UInt8 (@catL UInt8 w17_10 v12) [(44 : UInt8)]); (v12 = (digL (IntKind.wrap IntKind.u64 x.a.d1))) → ((List.length w17_10) + (List.length v12)) ≤ 9223372036854775807 ∧ T1 ∧ tt ∧ T1 ∧ T1 ∧ w7_x ∧ tt ∧ T1 ∧ tt ∧ T1 ∧ w20_x ∧ T1 ∧ T1 ∧ tt ∧ T1 ∧ T1 ∧ tt ∧ T1 ∧ ((List.length (@catL UInt8 w17_10 v12)) + 1) ≤ 9223372036854775807 ∧ T1 ∧ tt ∧ T1 ∧ T1 ∧ T1 ∧ (T1 ∧ True) ∧ ∀ v14 : (List UInt8), let w15_14 := (@catL UInt8 (@catL UInt8 w1_12 v14) [(44 : UInt8)]); (v14 = (digL (IntKind.wrap IntKind.u64 x.a.d2))) → ((List.length w1_12) + (List.length v14)) ≤ 9223372036854775807 ∧ T1 ∧ tt ∧ T1 ∧ T1 ∧ w7_x ∧ tt ∧ T1 ∧ tt ∧ T1 ∧ w21_x ∧ T1 ∧ T1 ∧ tt ∧ T1 ∧ T1 ∧ tt ∧ T1 ∧ ((List.length (@catL UInt8 w1_12 v14)) + 1) ≤ 9223372036854775807 ∧ T1 ∧ tt ∧ T1 ∧ T1 ∧ T1 ∧ (T1 ∧ True) ∧ ∀ v16 : (List UInt8), let w6_16 := (@catL UInt8 (@catL UInt8 w15_14 v16) [(44 : UInt8)]); (v16 = (digL (IntKind.wrap IntKind.u64 x.a.d3))) → ((List.length w15_14) + (List.length v16)) ≤ 9223372036854775807 ∧ T1 ∧ tt ∧ T1 ∧ T1 ∧ w7_x ∧ tt ∧ T1 ∧ tt ∧ T1 ∧ w22_x ∧ T1 ∧ T1 ∧ tt ∧ T1 ∧ T1 ∧ tt ∧ T1 ∧ ((List.length (@catL UInt8 w15_14 v16)) + 1) ≤ 9223372036854775807 ∧ T1 ∧ tt ∧ T1 ∧ T1 ∧ T1 ∧ (T1 ∧ True) ∧ ∀ v18 : (List UInt8), (v18 = (digL (IntKind.wrap IntKind.u64 x.a.d4))) → ((List.length w6_16) + (List.length v18)) ≤ 9223372036854775807 ∧ T1 ∧ tt ∧ T1 ∧ T1 ∧ w7_x ∧ tt ∧ T1 ∧ tt ∧ T1 ∧ w23_x ∧ T1 ∧ T1 ∧ tt ∧ T1 ∧ T1 ∧ tt ∧ T1 ∧ ((List.length (@catL UInt8 w6_16 v18)) + 1) ≤ 9223372036854775807 ∧ T1 ∧ tt ∧ T1 ∧ T1 ∧ T1 ∧ (T1 ∧ True) ∧ ∀ v20 : (List UInt8), let w9_20 := (@catL UInt8 (@catL UInt8 (@catL UInt8 w6_16 v18) [(44 : UInt8)]) v20); let w26_20 := (@catL UInt8 w9_20 [(44 : UInt8)]); (v20 = (digL (IntKind.wrap IntKind.u64 x.a.d5))) → ((List.length (@catL UInt8 (@catL UInt8 w6_16 v18) [(44 : UInt8)])) + (List.length v20)) ≤ 9223372036854775807 ∧ T1 ∧ tt ∧ T1 ∧ T1 ∧ w7_x ∧ tt ∧ T1 ∧ tt ∧ T1 ∧ w24_x ∧ T1 ∧ T1 ∧ tt ∧ T1 ∧ T1 ∧ tt ∧ T1 ∧ ((List.length w9_20) + 1) ≤ 9223372036854775807 ∧ T1 ∧ tt ∧ T1 ∧ T1 ∧ T1 ∧ (T1 ∧ True) ∧ ∀ v22 : (List UInt8), (v22 = (digL (IntKind.wrap IntKind.u64 x.a.d6))) → ((List.length w26_20) + (List.length v22)) ≤ 9223372036854775807 ∧ T1 ∧ tt ∧ T1 ∧ T1 ∧ w7_x ∧ tt ∧ T1 ∧ tt ∧ T1 ∧ ((List.length (@catL UInt8 w26_20 v22)) + 1) ≤ 9223372036854775807 ∧ T1 ∧ T1 ∧ tt ∧ tt ∧ (q0 = (@catL UInt8 (@catL UInt8 w26_20 v22) [(32 : UInt8)]) ∧ tt ∧ True) ∧ tt)))) : inTextI2 x :=
  Eq.mp (show _ = _ by kernel_rfl) h
theorem vcTextI3 (x : InstP) (h : let q0 := (headI (InstP.mk x.r x.sl 3 x.bal x.vote x.same x.c x.a)); let w7_x := (tt ∧ tt); let w18_x := ((0 : Int) ≤ (0 : Int) ∧ (0 : Int) < (7 : Int) ∧ 1 ≤ 7); let w19_x := ((0 : Int) ≤ (1 : Int) ∧ (1 : Int) < (7 : Int) ∧ 2 ≤ 7); let w20_x := ((0 : Int) ≤ (2 : Int) ∧ (2 : Int) < (7 : Int) ∧ 3 ≤ 7); let w21_x := ((0 : Int) ≤ (3 : Int) ∧ (3 : Int) < (7 : Int) ∧ 4 ≤ 7); let w22_x := ((0 : Int) ≤ (4 : Int) ∧ (4 : Int) < (7 : Int) ∧ 5 ≤ 7); let w23_x := ((0 : Int) ≤ (5 : Int) ∧ (5 : Int) < (7 : Int) ∧ 6 ≤ 7); let w24_x := ((0 : Int) ≤ (6 : Int) ∧ (6 : Int) < (7 : Int) ∧ 7 ≤ 7); (tt ∧ T1 ∧ T1 ∧ T1 ∧ tt ∧ T1 ∧ T1 ∧ tt ∧ T1 ∧ (T1 ∧ True) ∧ ∀ v0 : (List UInt8), let w27_0 := (@catL UInt8 v0 [(46 : UInt8)]); (v0 = (digL (IntKind.wrap IntKind.u64 x.r))) → ((List.length v0) + 1) ≤ 9223372036854775807 ∧ T1 ∧ T1 ∧ tt ∧ T1 ∧ (T1 ∧ True) ∧ ∀ v2 : (List UInt8), let w11_2 := (@catL UInt8 (@catL UInt8 w27_0 v2) [(32 : UInt8)]); (v2 = (digL (IntKind.wrap IntKind.u64 x.sl))) → ((List.length w27_0) + (List.length v2)) ≤ 9223372036854775807 ∧ ((List.length (@catL UInt8 w27_0 v2)) + 1) ≤ 9223372036854775807 ∧ T1 ∧ tt ∧ (T1 ∧ True) ∧ ∀ v4 : (List UInt8), (v4 = (balT x.bal)) → ((List.length w11_2) + (List.length v4)) ≤ 9223372036854775807 ∧ T1 ∧ tt ∧ tt ∧ T1 ∧ tt ∧ T1 ∧ tt ∧ T1 ∧ T1 ∧ T1 ∧ tt ∧ ((0 : Int) ≤ (3 : Int) ∧ (3 : Int) < (4 : Int) ∧ 4 ≤ 4) ∧ T1 ∧ tt ∧ (T1 ∧ True) ∧ ∀ v6 : (List UInt8), let w10_6 := (@catL UInt8 [(32 : UInt8), 99, 111, 109, 109, 105, 116, 116, 101, 100, 32] v6); let w0_6 := (@catL UInt8 (@catL UInt8 w11_2 v4) w10_6); let w12_6 := (@catL UInt8 w0_6 [(32 : UInt8), 111, 116, 104, 101, 114, 32]); let w13_6 := (@catL UInt8 w0_6 [(32 : UInt8), 115, 97, 109, 101, 32]); (v6 = (balT x.vote)) → (11 + (List.length v6)) ≤ 9223372036854775807 ∧ ((List.length (@catL UInt8 w11_2 v4)) + (List.length w10_6)) ≤ 9223372036854775807 ∧ T1 ∧ tt ∧ tt ∧ T1 ∧ tt ∧ (bif x.same then (tt ∧ T1 ∧ ((List.length w0_6) + 6) ≤ 9223372036854775807 ∧ T1 ∧ tt ∧ T1 ∧ T1 ∧ T1 ∧ tt ∧ T1 ∧ (T1 ∧ True) ∧ ∀ v8 : (List UInt8), let w4_8 := (@catL UInt8 w13_6 (@catL UInt8 v8 [(124 : UInt8)])); (v8 = (digL (IntKind.wrap IntKind.u64 x.a.s))) → ((List.length v8) + 1) ≤ 9223372036854775807 ∧ ((List.length w13_6) + (List.length (@catL UInt8 v8 [(124 : UInt8)]))) ≤ 9223372036854775807 ∧ T1 ∧ tt ∧ T1 ∧ T1 ∧ tt ∧ T1 ∧ w7_x ∧ tt ∧ T1 ∧ tt ∧ T1 ∧ w18_x ∧ T1 ∧ T1 ∧ tt ∧ T1 ∧ T1 ∧ tt ∧ T1 ∧ T1 ∧ T1 ∧ (T1 ∧ True) ∧ ∀ v10 : (List UInt8), let w16_10 := (@catL UInt8 (@catL UInt8 w4_8 v10) [(44 : UInt8)]); (v10 = (digL (IntKind.wrap IntKind.u64 x.a.d0))) → ((List.length w4_8) + (List.length v10)) ≤ 9223372036854775807 ∧ T1 ∧ tt ∧ T1 ∧ T1 ∧ w7_x ∧ tt ∧ T1 ∧ tt ∧ T1 ∧ w19_x ∧ T1 ∧ T1 ∧ tt ∧ T1 ∧ T1 ∧ tt ∧ T1 ∧ ((List.length (@catL UInt8 w4_8 v10)) + 1) ≤ 9223372036854775807 ∧ T1 ∧ tt ∧ T1 ∧ T1 ∧ T1 ∧ (T1 ∧ True) ∧ ∀ v12 : (List UInt8), let w2_12 := (@catL UInt8 (@catL UInt8 w16_10 v12) [(44 : UInt8)]); (v12 = (digL (IntKind.wrap IntKind.u64 x.a.d1))) → ((List.length w16_10) + (List.length v12)) ≤ 9223372036854775807 ∧ T1 ∧ tt ∧ T1 ∧ T1 ∧ w7_x ∧ tt ∧ T1 ∧ tt ∧ T1 ∧ w20_x ∧ T1 ∧ T1 ∧ tt ∧ T1 ∧ T1 ∧ tt ∧ T1 ∧ ((List.length (@catL UInt8 w16_10 v12)) + 1) ≤ 9223372036854775807 ∧ T1 ∧ tt ∧ T1 ∧ T1 ∧ T1 ∧ (T1 ∧ True) ∧ ∀ v14 : (List UInt8), let w14_14 := (@catL UInt8 (@catL UInt8 w2_12 v14) [(44 : UInt8)]); (v14 = (digL (IntKind.wrap IntKind.u64 x.a.d2))) → ((List.length w2_12) + (List.length v14)) ≤ 9223372036854775807 ∧ T1 ∧ tt ∧ T1 ∧ T1 ∧ w7_x ∧ tt ∧ T1 ∧ tt ∧ T1 ∧ w21_x ∧ T1 ∧ T1 ∧ tt ∧ T1 ∧ T1 ∧ tt ∧ T1 ∧ ((List.length (@catL UInt8 w2_12 v14)) + 1) ≤ 9223372036854775807 ∧ T1 ∧ tt ∧ T1 ∧ T1 ∧ T1 ∧ (T1 ∧ True) ∧ ∀ v16 : (List UInt8), let w5_16 := (@catL UInt8 (@catL UInt8 w14_14 v16) [(44 : UInt8)]); (v16 = (digL (IntKind.wrap IntKind.u64 x.a.d3))) → ((List.length w14_14) + (List.length v16)) ≤ 9223372036854775807 ∧ T1 ∧ tt ∧ T1 ∧ T1 ∧ w7_x ∧ tt ∧ T1 ∧ tt ∧ T1 ∧ w22_x ∧ T1 ∧ T1 ∧ tt ∧ T1 ∧ T1 ∧ tt ∧ T1 ∧ ((List.length (@catL UInt8 w14_14 v16)) + 1) ≤ 9223372036854775807 ∧ T1 ∧ tt ∧ T1 ∧ T1 ∧ T1 ∧ (T1 ∧ True) ∧ ∀ v18 : (List UInt8), (v18 = (digL (IntKind.wrap IntKind.u64 x.a.d4))) → ((List.length w5_16) + (List.length v18)) ≤ 9223372036854775807 ∧ T1 ∧ tt ∧ T1 ∧ T1 ∧ w7_x ∧ tt ∧ T1 ∧ tt ∧ T1 ∧ w23_x ∧ T1 ∧ T1 ∧ tt ∧ T1 ∧ T1 ∧ tt ∧ T1 ∧ ((List.length (@catL UInt8 w5_16 v18)) + 1) ≤ 9223372036854775807 ∧ T1 ∧ tt ∧ T1 ∧ T1 ∧ T1 ∧ (T1 ∧ True) ∧ ∀ v20 : (List UInt8), let w8_20 := (@catL UInt8 (@catL UInt8 (@catL UInt8 w5_16 v18) [(44 : UInt8)]) v20); let w25_20 := (@catL UInt8 w8_20 [(44 : UInt8)]); (v20 = (digL (IntKind.wrap IntKind.u64 x.a.d5))) → ((List.length (@catL UInt8 (@catL UInt8 w5_16 v18) [(44 : UInt8)])) + (List.length v20)) ≤ 9223372036854775807 ∧ T1 ∧ tt ∧ T1 ∧ T1 ∧ w7_x ∧ tt ∧ T1 ∧ tt ∧ T1 ∧ w24_x ∧ T1 ∧ T1 ∧ tt ∧ T1 ∧ T1 ∧ tt ∧ T1 ∧ ((List.length w8_20) + 1) ≤ 9223372036854775807 ∧ T1 ∧ tt ∧ T1 ∧ T1 ∧ T1 ∧ (T1 ∧ True) ∧ ∀ v22 : (List UInt8), (v22 = (digL (IntKind.wrap IntKind.u64 x.a.d6))) → ((List.length w25_20) + (List.length v22)) ≤ 9223372036854775807 ∧ T1 ∧ tt ∧ T1 ∧ T1 ∧ w7_x ∧ tt ∧ T1 ∧ tt ∧ T1 ∧ ((List.length (@catL UInt8 w25_20 v22)) + 1) ≤ 9223372036854775807 ∧ T1 ∧ T1 ∧ tt ∧ tt ∧ (q0 = (@catL UInt8 (@catL UInt8 w25_20 v22) [(32 : UInt8)]) ∧ tt ∧ True) ∧ tt) else (tt ∧ T1 ∧ ((List.length w0_6) + 7) ≤ 9223372036854775807 ∧ T1 ∧ tt ∧ T1 ∧ T1 ∧ T1 ∧ tt ∧ T1 ∧ (T1 ∧ True) ∧ ∀ v8 : (List UInt8), let w3_8 := (@catL UInt8 w12_6 (@catL UInt8 v8 [(124 : UInt8)])); (v8 = (digL (IntKind.wrap IntKind.u64 x.a.s))) → ((List.length v8) + 1) ≤ 9223372036854775807 ∧ ((List.length w12_6) + (List.length (@catL UInt8 v8 [(124 : UInt8)]))) ≤ 9223372036854775807 ∧ T1 ∧ tt ∧ T1 ∧ T1 ∧ tt ∧ T1 ∧ w7_x ∧ tt ∧ T1 ∧ tt ∧ T1 ∧ w18_x ∧ T1 ∧ T1 ∧ tt ∧ T1 ∧ T1 ∧ tt ∧ T1 ∧ T1 ∧ T1 ∧ (T1 ∧ True) ∧ ∀ v10 : (List UInt8), let w17_10 := (@catL UInt8 (@catL UInt8 w3_8 v10) [(44 : UInt8)]); (v10 = (digL (IntKind.wrap IntKind.u64 x.a.d0))) → ((List.length w3_8) + (List.length v10)) ≤ 9223372036854775807 ∧ T1 ∧ tt ∧ T1 ∧ T1 ∧ w7_x ∧ tt ∧ T1 ∧ tt ∧ T1 ∧ w19_x ∧ T1 ∧ T1 ∧ tt ∧ T1 ∧ T1 ∧ tt ∧ T1 ∧ ((List.length (@catL UInt8 w3_8 v10)) + 1) ≤ 9223372036854775807 ∧ T1 ∧ tt ∧ T1 ∧ T1 ∧ T1 ∧ (T1 ∧ True) ∧ ∀ v12 : (List UInt8), let w1_12 := (@catL UInt8 (@catL UInt8 w17_10 v12) [(44 : UInt8)]); (v12 = (digL (IntKind.wrap IntKind.u64 x.a.d1))) → ((List.length w17_10) + (List.length v12)) ≤ 9223372036854775807 ∧ T1 ∧ tt ∧ T1 ∧ T1 ∧ w7_x ∧ tt ∧ T1 ∧ tt ∧ T1 ∧ w20_x ∧ T1 ∧ T1 ∧ tt ∧ T1 ∧ T1 ∧ tt ∧ T1 ∧ ((List.length (@catL UInt8 w17_10 v12)) + 1) ≤ 9223372036854775807 ∧ T1 ∧ tt ∧ T1 ∧ T1 ∧ T1 ∧ (T1 ∧ True) ∧ ∀ v14 : (List UInt8), let w15_14 := (@catL UInt8 (@catL UInt8 w1_12 v14) [(44 : UInt8)]); (v14 = (digL (IntKind.wrap IntKind.u64 x.a.d2))) → ((List.length w1_12) + (List.length v14)) ≤ 9223372036854775807 ∧ T1 ∧ tt ∧ T1 ∧ T1 ∧ w7_x ∧ tt ∧ T1 ∧ tt ∧ T1 ∧ w21_x ∧ T1 ∧ T1 ∧ tt ∧ T1 ∧ T1 ∧ tt ∧ T1 ∧ ((List.length (@catL UInt8 w1_12 v14)) + 1) ≤ 9223372036854775807 ∧ T1 ∧ tt ∧ T1 ∧ T1 ∧ T1 ∧ (T1 ∧ True) ∧ ∀ v16 : (List UInt8), let w6_16 := (@catL UInt8 (@catL UInt8 w15_14 v16) [(44 : UInt8)]); (v16 = (digL (IntKind.wrap IntKind.u64 x.a.d3))) → ((List.length w15_14) + (List.length v16)) ≤ 9223372036854775807 ∧ T1 ∧ tt ∧ T1 ∧ T1 ∧ w7_x ∧ tt ∧ T1 ∧ tt ∧ T1 ∧ w22_x ∧ T1 ∧ T1 ∧ tt ∧ T1 ∧ T1 ∧ tt ∧ T1 ∧ ((List.length (@catL UInt8 w15_14 v16)) + 1) ≤ 9223372036854775807 ∧ T1 ∧ tt ∧ T1 ∧ T1 ∧ T1 ∧ (T1 ∧ True) ∧ ∀ v18 : (List UInt8), (v18 = (digL (IntKind.wrap IntKind.u64 x.a.d4))) → ((List.length w6_16) + (List.length v18)) ≤ 9223372036854775807 ∧ T1 ∧ tt ∧ T1 ∧ T1 ∧ w7_x ∧ tt ∧ T1 ∧ tt ∧ T1 ∧ w23_x ∧ T1 ∧ T1 ∧ tt ∧ T1 ∧ T1 ∧ tt ∧ T1 ∧ ((List.length (@catL UInt8 w6_16 v18)) + 1) ≤ 9223372036854775807 ∧ T1 ∧ tt ∧ T1 ∧ T1 ∧ T1 ∧ (T1 ∧ True) ∧ ∀ v20 : (List UInt8), let w9_20 := (@catL UInt8 (@catL UInt8 (@catL UInt8 w6_16 v18) [(44 : UInt8)]) v20); let w26_20 := (@catL UInt8 w9_20 [(44 : UInt8)]); (v20 = (digL (IntKind.wrap IntKind.u64 x.a.d5))) → ((List.length (@catL UInt8 (@catL UInt8 w6_16 v18) [(44 : UInt8)])) + (List.length v20)) ≤ 9223372036854775807 ∧ T1 ∧ tt ∧ T1 ∧ T1 ∧ w7_x ∧ tt ∧ T1 ∧ tt ∧ T1 ∧ w24_x ∧ T1 ∧ T1 ∧ tt ∧ T1 ∧ T1 ∧ tt ∧ T1 ∧ ((List.length w9_20) + 1) ≤ 9223372036854775807 ∧ T1 ∧ tt ∧ T1 ∧ T1 ∧ T1 ∧ (T1 ∧ True) ∧ ∀ v22 : (List UInt8), (v22 = (digL (IntKind.wrap IntKind.u64 x.a.d6))) → ((List.length w26_20) + (List.length v22)) ≤ 9223372036854775807 ∧ T1 ∧ tt ∧ T1 ∧ T1 ∧ w7_x ∧ tt ∧ T1 ∧ tt ∧ T1 ∧ ((List.length (@catL UInt8 w26_20 v22)) + 1) ≤ 9223372036854775807 ∧ T1 ∧ T1 ∧ tt ∧ tt ∧ (q0 = (@catL UInt8 (@catL UInt8 w26_20 v22) [(32 : UInt8)]) ∧ tt ∧ True) ∧ tt)))) : inTextI3 x :=
  Eq.mp (show _ = _ by kernel_rfl) h
end Go.Proofs.YtpomloangafbkaaGreatDoor
/- States' texts: the conditions hold. -/
namespace Go.Proofs.YtpomloangafbkaaGreatDoor
set_option linter.unusedVariables false
set_option linter.unusedSimpArgs false
open Go.RowKit
set_option maxRecDepth 100000
theorem okShort70 : OkShort70 := by
  intro v hq
  refine vcShort70 v ?_
  simp only [true_and, and_true, forall_eq, eq_self]
  obtain ⟨h0, h1⟩ := hq
  refine cond_prop (fun h => by have := of_decide_eq_true h; omega) fun h => ?_
  have w : IntKind.u8.wrap v = v := by rw [IntKind.wrap_u8]; omega
  rw [w]
  have eb : ([AV.int .u8 v] : List AV) = bytesAV (encByte v) := bytes_one h0 (by omega)
  rw [eb]
  exact ⟨⟨by omega, by omega, okWidth_bytes _⟩, by omega, rfl⟩
theorem okOutByte1 : OkOutByte1 := by
  intro xs p q b hq hb
  refine vcOutByte1 xs p q b ?_
  simp only [true_and, and_true, forall_eq, eq_self]
  obtain ⟨hq, hl⟩ := hq
  obtain ⟨l, rfl⟩ := hq.get
  rw [byte_int hb.1 hb.2]
  simp only [bytesL_bytesAV, length_bytesAV, catL_cons, catL_length] at hl ⊢
  exact ⟨⟨by omega, by omega, okWidth_bytes l, okWidth_cons rfl (okWidth_nil 1)⟩, by omega, rfl, by simp⟩
theorem okOutShort70 : OkOutShort70 := by
  intro xs p q v hq
  refine vcOutShort70 xs p q v ?_
  simp only [true_and, and_true, forall_eq, eq_self]
  obtain ⟨hq, hl, h0, h1⟩ := hq
  obtain ⟨l, rfl⟩ := hq.get
  have e : catL (bytesAV l) (bytesAV (encByte v)) = bytesAV (catL l (encByte v)) := by simp [catL, bytesAV]
  have e1 : (encByte v).length = 1 := rfl
  simp only [bytesL_bytesAV, length_bytesAV, e, catL_length, e1] at hl ⊢
  exact ⟨⟨h0, h1⟩, ⟨by omega, by omega, okWidth_bytes l, okWidth_bytes _⟩, by omega, trivial, trivial⟩
theorem okOutBytes1 : OkOutBytes1 := by
  intro xs p q hq
  refine vcOutBytes1 xs p q ?_
  simp only [true_and, and_true, forall_eq, eq_self]
  exact ⟨hq, by omega⟩
theorem encByte_wrap {r : Int} (h0 : 0 ≤ r) (h1 : r < 128) : IntKind.u8.wrap r = r := by rw [IntKind.wrap_u8]; omega
theorem okIdPut70 : OkIdPut70 := by
  intro xs p q r n hq
  refine vcIdPut70 xs p q r n ?_
  obtain ⟨hq, hl, hr, hn⟩ := hq
  obtain ⟨l, rfl⟩ := hq.get
  rw [length_bytesAV] at hl
  rw [encByte_wrap hr.1 hr.2, wrap_u64 hn.1 (by omega)]
  have e1 : ∀ v, (encByte v).length = 1 := fun v => rfl
  simp only [true_and, and_true, forall_eq, eq_self, bytesL_bytesAV, isBytes_bytesAV, length_bytesAV, catL_length, e1]
  and_intros <;> first | omega | trivial
theorem okBalPut70 : OkBalPut70 := by
  intro xs p q b hq
  refine vcBalPut70 xs p q b ?_
  obtain ⟨hq, hl, hr⟩ := hq
  rw [wrap_u64 hr.1 (by omega)]
  simp only [true_and, and_true, forall_eq, eq_self]
  exact ⟨⟨hq, by omega, hr.1, hr.2⟩, by omega⟩
theorem okIputZ0 : OkIputZ0 := by
  intro x xs p q hq
  refine vcIputZ0 x xs p q ?_
  obtain ⟨h0, hb, hr, hs, hq, hl⟩ := hq
  obtain ⟨l, rfl⟩ := hq.get
  rw [length_bytesAV] at hl
  have e1 : ∀ v, (encByte v).length = 1 := fun v => rfl
  have w0 : IntKind.u8.wrap 0 = 0 := by decide
  have eb : ((0 : Int) == 0) = true := rfl
  simp only [true_and, and_true, forall_eq, eq_self, bytesL_bytesAV, isBytes_bytesAV, length_bytesAV, catL_length, e1, h0, w0, eb, cond_true]
  and_intros <;> first | omega | trivial
theorem okIbytesZ0 : OkIbytesZ0 := by
  intro x hq
  refine vcIbytesZ0 x ?_
  obtain ⟨h0, hb, hr, hs⟩ := hq
  have e1 : ∀ v, (encByte v).length = 1 := fun v => rfl
  simp only [true_and, and_true, forall_eq, eq_self, bytesL_bytesAV, isBytes_bytesAV, length_bytesAV, catL_length, e1]
  refine ⟨⟨h0, hb, hr, hs, isBytes_nil, by omega⟩, by simp, ?_⟩
  simp [catL]
theorem okAnchor100 : OkAnchor100 := by
  intro hq
  refine vcAnchor100 ?_
  have e : catL (catL (catL (encByte 1) (encByte 2)) (encByte 0)) (encByte 0) = [1, 2, 0, 0] := rfl
  simp only [true_and, and_true, forall_eq, eq_self, e, length_bytesAV]
  have o : ∀ i, i < 4 → okElem 1 (bytesAV [1, 2, 0, 0]) i := fun i h => okElem_bytes h
  have r : ∀ i, i < 4 → okRead [Kd.int .u8] (elemAt (bytesAV [1, 2, 0, 0]) i) 0 := fun i h => okRead_bytes h
  have i0 : rdInt (elemAt (bytesAV [1, 2, 0, 0]) 0) 0 = 1 := rfl
  have i1 : rdInt (elemAt (bytesAV [1, 2, 0, 0]) 1) 0 = 2 := rfl
  have i2 : rdInt (elemAt (bytesAV [1, 2, 0, 0]) 2) 0 = 0 := rfl
  have i3 : rdInt (elemAt (bytesAV [1, 2, 0, 0]) 3) 0 = 0 := rfl
  simp [i0, i1, i2, i3, o, r]
theorem okOf100 : OkOf100 := by
  intro x hq
  refine vcOf100 x ?_
  simp only [true_and, and_true, forall_eq, eq_self]
theorem okSmall100 : OkSmall100 := by
  intro x hq
  refine vcSmall100 x ?_
  simp only [true_and, and_true, forall_eq, eq_self]
  refine cond_prop (fun h => ?_) fun h => ?_
  all_goals (unfold smallB; rw [Bool.eq_iff_iff]; simp at h ⊢; omega)
theorem okWords100 : OkWords100 := by
  intro hq
  refine vcWords100 ?_
  simp only [true_and, and_true, eq_self]
  rfl
theorem okSplitN0 : OkSplitN0 := by
  intro s sep n hq
  refine vcSplitN0 s sep n ?_
  obtain ⟨h1, h2, h3, h4⟩ := hq
  simp only [true_and, and_true, forall_eq, eq_self]
  exact ⟨⟨h1, h2, h3, h4⟩, by omega⟩
theorem status_at (t : List UInt8) (i : Nat) (h : i < 4) (g : ∀ j, j < i → wordsS.getD j [] ≠ t) (e : wordsS.getD i [] = t) : statusN t = (i : Int) := by
  unfold statusN
  obtain rfl | rfl | rfl | rfl : i = 0 ∨ i = 1 ∨ i = 2 ∨ i = 3 := by omega
  · exact if_pos e
  · exact (if_neg (g 0 (by omega))).trans (if_pos e)
  · exact (if_neg (g 0 (by omega))).trans ((if_neg (g 1 (by omega))).trans (if_pos e))
  · exact (if_neg (g 0 (by omega))).trans ((if_neg (g 1 (by omega))).trans ((if_neg (g 2 (by omega))).trans (if_pos e)))
theorem status_no (t : List UInt8) (g : ∀ j, j < 4 → wordsS.getD j [] ≠ t) : statusN t = -1 := by
  unfold statusN
  exact (if_neg (g 0 (by omega))).trans ((if_neg (g 1 (by omega))).trans ((if_neg (g 2 (by omega))).trans (if_neg (g 3 (by omega)))))
theorem okIstatus0 : OkIstatus0 := by
  intro t hq
  refine vcIstatus0 t ?_
  simp only [true_and, and_true, forall_eq, eq_self]
  refine ⟨⟨(0 : Nat), ⟨rfl, rfl⟩, by omega, fun j h => by omega⟩, ?_⟩
  rintro i ⟨hi, hg⟩
  refine cond_prop (fun g => ?_) fun g => ?_
  · have hi' : i < wordsS.length := by show i < 4; have := of_decide_eq_true g; omega
    have hi4 : i < 4 := hi'
    have eI : (Int.toNat (i : Int)) = i := by omega
    rw [eI, rdStr_strs hi', wrap_i64 (n := (i : Int) + 1) (by omega) (by omega)]
    refine ⟨⟨by omega, by omega, okElem_strs hi'⟩, okRead_strs hi', cond_prop (fun g2 => ?_) fun g2 => ?_⟩
    · exact status_at t i hi4 hg (beq_iff_eq.1 g2)
    · refine ⟨(i + 1 : Nat), rfl, ⟨by omega, fun j hj => ?_⟩, by omega⟩
      by_cases h : j = i
      · subst h
        intro e
        rw [e] at g2; simp at g2
      · exact hg j (by omega)
  · have hi' : i = 4 := by have := of_decide_eq_false g; omega
    subst hi'
    exact status_no t hg
theorem okDigits100 : OkDigits100 := by
  intro v hq hv
  refine vcDigits100 v ?_
  simp only [true_and, and_true, forall_eq, eq_self]
  refine ⟨⟨((v, []) : Int × List UInt8), ⟨rfl, rfl⟩, hv.1, Int.le_refl _, by simp⟩, ?_⟩
  rintro ⟨x, l⟩ ⟨p1, p2, p3⟩
  simp only at p1 p2 p3 ⊢
  obtain ⟨s1, s2, s3⟩ := digL_step p1 (by omega)
  have hl := digL_len v hv.2
  rw [p3] at hl
  simp only [List.append_eq, List.length_append] at hl
  rw [s1, s3]
  refine ⟨by decide, s2, by simp; omega, by decide, cond_prop (fun h => ?_) fun h => ?_⟩
  · have h' : x / 10 = 0 := by simpa using h
    have hx : x.toNat < 10 := by omega
    rw [p3]
    have : digL x = [UInt8.ofNat (48 + x.toNat % 10)] := by
      unfold digL
      rw [Lib.decDigits, dif_pos hx, Nat.mod_eq_of_lt hx]
    rw [this]; rfl
  · have h' : x / 10 ≠ 0 := by simpa using h
    have hx : ¬ x.toNat < 10 := by omega
    refine ⟨((x / 10, UInt8.ofNat (48 + x.toNat % 10) :: l) : Int × List UInt8), ⟨rfl, rfl⟩, ⟨by show 0 ≤ x / 10; omega, by show x / 10 ≤ v; omega, ?_⟩, by show (x / 10).toNat < x.toNat; omega⟩
    have : digL x = digL (x / 10) ++ [UInt8.ofNat (48 + x.toNat % 10)] := by
      unfold digL
      rw [Lib.decDigits, dif_neg hx, show (x / 10).toNat = x.toNat / 10 by omega]
    show digL v = digL (x / 10) ++ (UInt8.ofNat (48 + x.toNat % 10) :: l)
    rw [p3, this]
    simp
theorem okBallot100 : OkBallot100 := by
  intro b hq hb
  refine vcBallot100 b ?_
  have wb : IntKind.u64.wrap b = b := wrap_u64 hb.1 (by omega)
  have e1 : b.tdiv 8 = b / 8 := Int.tdiv_eq_ediv_of_nonneg hb.1
  have e2 : b.tmod 8 = b % 8 := Int.tmod_eq_emod_of_nonneg hb.1
  have w8 : IntKind.u64.wrap (b / 8) = b / 8 := wrap_u64 (by omega) (by omega)
  rw [wb, e1, e2, w8]
  have h1 := digL_len (b / 8) (by omega)
  have h2 := digL_len (b % 8) (by omega)
  simp only [true_and, and_true, forall_eq, eq_self]
  refine ⟨by decide, by omega, by decide, by simp [catL]; omega, rfl⟩
theorem balT_len {b : Int} (h0 : 0 ≤ b) (h1 : b ≤ 4294967295) : (balT b).length ≤ 50 := by
  have h1 := digL_len (b / 8) (by omega)
  have h2 := digL_len (b % 8) (by omega)
  unfold balT pair6
  simp [catL]; omega
theorem eqC_iff {c d : CmdP} : eqC c d = true ↔ c = d := by
  obtain ⟨a1, a2, a3, a4, a5, a6, a7, a8⟩ := c
  obtain ⟨b1, b2, b3, b4, b5, b6, b7, b8⟩ := d
  simp [eqC, cmdL, sameCells, AV.same]
theorem rightI_parts {x : InstP} (h : rightI x = true) : rightId x.r x.sl = true ∧ balOK x.bal = true ∧ balOK x.vote = true ∧ (x.st = 0 → x = ⟨x.r, x.sl, 0, x.bal, 0, false, zC, zA0⟩) ∧ (x.st ≠ 0 → 1 ≤ x.st ∧ x.st ≤ 3 ∧ rightC x.c = true ∧ rightA x.a.s x.a.d0 x.a.d1 x.a.d2 x.a.d3 x.a.d4 x.a.d5 x.a.d6 = true) := by
  rw [rightI_steps] at h
  simp only [Bool.and_eq_true, Bool.not_eq_true', decide_eq_false_iff_not] at h
  obtain ⟨a1, a2, a3, a4, a5, a6, a7⟩ := h
  refine ⟨a1, a2, a3, fun h0 => ?_, fun h0 => ?_⟩
  · rw [if_pos h0] at a7
    simp only [Bool.and_eq_true, beq_iff_eq, Bool.not_eq_true'] at a7
    obtain ⟨b1, b2, b3, b4⟩ := a7
    have c1 := eqC_iff.1 b3
    have c2 : x.a = zA0 := by
      obtain ⟨_, _, _, _, _, _, _, ⟨e1, e2, e3, e4, e5, e6, e7, e8⟩⟩ := x
      simp [eqA, attL, zA0, sameCells, AV.same] at b4 ⊢
      exact b4
    obtain ⟨r, sl, st, bal, vote, same, c, a⟩ := x
    simp only at *
    subst h0 b1 b2 c1 c2
    rfl
  · rw [if_neg h0] at a7
    simp only [Bool.and_eq_true] at a7
    exact ⟨by omega, by omega, a7.2.1, a7.2.2.1⟩
theorem rightI_st {x : InstP} (h : rightI x = true) : 0 ≤ x.st ∧ x.st ≤ 3 := by
  obtain ⟨_, _, _, f4, f5⟩ := rightI_parts h
  by_cases h0 : x.st = 0
  · omega
  · have := f5 h0; omega
set_option maxHeartbeats 4000000 in
theorem textI0 (x : InstP) (hq : rightI { x with st := 0 } = true) (hb : (0 ≤ x.bal ∧ x.bal ≤ 4294967295) ∧ (0 ≤ x.vote ∧ x.vote ≤ 4294967295)) : inTextI0 x := by
  refine vcTextI0 x ?_
  obtain ⟨f1, f2, f3, f4, f5⟩ := rightI_parts hq
  obtain ⟨r0, r1, r2, r3⟩ := rightId_facts f1
  have r0 : 0 ≤ x.r := r0
  have r1 : x.r ≤ 6 := r1
  have r2 : 0 ≤ x.sl := r2
  have r3 : x.sl < 1024 := r3
  rw [wrap_u64 (n := x.r) (by omega) (by omega), wrap_u64 (n := x.sl) (by omega) (by omega)]
  have i1 := digL_len x.r (by omega)
  have i2 := digL_len x.sl (by omega)
  have i3 := balT_len hb.1.1 hb.1.2
  simp only [true_and, and_true, forall_eq, eq_self, catL_length, List.length_cons, List.length_nil]
  refine ⟨by omega, by omega, by omega, by omega, by omega, ?_⟩
  simp [headI, wordN, wordsS, pair6, catL, List.append_assoc]
set_option maxHeartbeats 4000000 in
theorem textI1 (x : InstP) (hq : rightI { x with st := 1 } = true) (hb : (0 ≤ x.bal ∧ x.bal ≤ 4294967295) ∧ (0 ≤ x.vote ∧ x.vote ≤ 4294967295)) : inTextI1 x := by
  refine vcTextI1 x ?_
  obtain ⟨f1, f2, f3, f4, f5⟩ := rightI_parts hq
  obtain ⟨r0, r1, r2, r3⟩ := rightId_facts f1
  have r0 : 0 ≤ x.r := r0
  have r1 : x.r ≤ 6 := r1
  have r2 : 0 ≤ x.sl := r2
  have r3 : x.sl < 1024 := r3
  rw [wrap_u64 (n := x.r) (by omega) (by omega), wrap_u64 (n := x.sl) (by omega) (by omega)]
  have i1 := digL_len x.r (by omega)
  have i2 := digL_len x.sl (by omega)
  have i3 := balT_len hb.1.1 hb.1.2
  have hA : rightA x.a.s x.a.d0 x.a.d1 x.a.d2 x.a.d3 x.a.d4 x.a.d5 x.a.d6 = true := (f5 (by show (1 : Int) ≠ 0; decide)).2.2.2
  obtain ⟨g0, g1, g2, g3, g4, g5, g6, gs0, gs1⟩ := rightA_facts hA
  rw [wrap_u64 (n := x.a.s) (by omega) (by omega), wrap_u64 (n := x.a.d0) (by omega) (by omega), wrap_u64 (n := x.a.d1) (by omega) (by omega), wrap_u64 (n := x.a.d2) (by omega) (by omega), wrap_u64 (n := x.a.d3) (by omega) (by omega), wrap_u64 (n := x.a.d4) (by omega) (by omega), wrap_u64 (n := x.a.d5) (by omega) (by omega), wrap_u64 (n := x.a.d6) (by omega) (by omega)]
  have i4 := balT_len hb.2.1 hb.2.2
  have j := digL_len x.a.s (by omega)
  have j0 := digL_len x.a.d0 (by omega)
  have j1 := digL_len x.a.d1 (by omega)
  have j2 := digL_len x.a.d2 (by omega)
  have j3 := digL_len x.a.d3 (by omega)
  have j4 := digL_len x.a.d4 (by omega)
  have j5 := digL_len x.a.d5 (by omega)
  have j6 := digL_len x.a.d6 (by omega)
  simp only [true_and, and_true, forall_eq, eq_self, catL_length, List.length_cons, List.length_nil]
  refine ⟨by omega, by omega, by omega, by omega, by decide, by omega, by omega, cond_prop (fun hs => ?_) fun hs => ?_⟩
  all_goals
    and_intros
    all_goals first | omega | decide | skip
  all_goals simp [headI, wordN, wordsS, howN, hs, text9, pair6, catL, List.append_assoc]
set_option maxHeartbeats 4000000 in
theorem textI2 (x : InstP) (hq : rightI { x with st := 2 } = true) (hb : (0 ≤ x.bal ∧ x.bal ≤ 4294967295) ∧ (0 ≤ x.vote ∧ x.vote ≤ 4294967295)) : inTextI2 x := by
  refine vcTextI2 x ?_
  obtain ⟨f1, f2, f3, f4, f5⟩ := rightI_parts hq
  obtain ⟨r0, r1, r2, r3⟩ := rightId_facts f1
  have r0 : 0 ≤ x.r := r0
  have r1 : x.r ≤ 6 := r1
  have r2 : 0 ≤ x.sl := r2
  have r3 : x.sl < 1024 := r3
  rw [wrap_u64 (n := x.r) (by omega) (by omega), wrap_u64 (n := x.sl) (by omega) (by omega)]
  have i1 := digL_len x.r (by omega)
  have i2 := digL_len x.sl (by omega)
  have i3 := balT_len hb.1.1 hb.1.2
  have hA : rightA x.a.s x.a.d0 x.a.d1 x.a.d2 x.a.d3 x.a.d4 x.a.d5 x.a.d6 = true := (f5 (by show (2 : Int) ≠ 0; decide)).2.2.2
  obtain ⟨g0, g1, g2, g3, g4, g5, g6, gs0, gs1⟩ := rightA_facts hA
  rw [wrap_u64 (n := x.a.s) (by omega) (by omega), wrap_u64 (n := x.a.d0) (by omega) (by omega), wrap_u64 (n := x.a.d1) (by omega) (by omega), wrap_u64 (n := x.a.d2) (by omega) (by omega), wrap_u64 (n := x.a.d3) (by omega) (by omega), wrap_u64 (n := x.a.d4) (by omega) (by omega), wrap_u64 (n := x.a.d5) (by omega) (by omega), wrap_u64 (n := x.a.d6) (by omega) (by omega)]
  have i4 := balT_len hb.2.1 hb.2.2
  have j := digL_len x.a.s (by omega)
  have j0 := digL_len x.a.d0 (by omega)
  have j1 := digL_len x.a.d1 (by omega)
  have j2 := digL_len x.a.d2 (by omega)
  have j3 := digL_len x.a.d3 (by omega)
  have j4 := digL_len x.a.d4 (by omega)
  have j5 := digL_len x.a.d5 (by omega)
  have j6 := digL_len x.a.d6 (by omega)
  simp only [true_and, and_true, forall_eq, eq_self, catL_length, List.length_cons, List.length_nil]
  refine ⟨by omega, by omega, by omega, by omega, by decide, by omega, by omega, cond_prop (fun hs => ?_) fun hs => ?_⟩
  all_goals
    and_intros
    all_goals first | omega | decide | skip
  all_goals simp [headI, wordN, wordsS, howN, hs, text9, pair6, catL, List.append_assoc]
set_option maxHeartbeats 4000000 in
theorem textI3 (x : InstP) (hq : rightI { x with st := 3 } = true) (hb : (0 ≤ x.bal ∧ x.bal ≤ 4294967295) ∧ (0 ≤ x.vote ∧ x.vote ≤ 4294967295)) : inTextI3 x := by
  refine vcTextI3 x ?_
  obtain ⟨f1, f2, f3, f4, f5⟩ := rightI_parts hq
  obtain ⟨r0, r1, r2, r3⟩ := rightId_facts f1
  have r0 : 0 ≤ x.r := r0
  have r1 : x.r ≤ 6 := r1
  have r2 : 0 ≤ x.sl := r2
  have r3 : x.sl < 1024 := r3
  rw [wrap_u64 (n := x.r) (by omega) (by omega), wrap_u64 (n := x.sl) (by omega) (by omega)]
  have i1 := digL_len x.r (by omega)
  have i2 := digL_len x.sl (by omega)
  have i3 := balT_len hb.1.1 hb.1.2
  have hA : rightA x.a.s x.a.d0 x.a.d1 x.a.d2 x.a.d3 x.a.d4 x.a.d5 x.a.d6 = true := (f5 (by show (3 : Int) ≠ 0; decide)).2.2.2
  obtain ⟨g0, g1, g2, g3, g4, g5, g6, gs0, gs1⟩ := rightA_facts hA
  rw [wrap_u64 (n := x.a.s) (by omega) (by omega), wrap_u64 (n := x.a.d0) (by omega) (by omega), wrap_u64 (n := x.a.d1) (by omega) (by omega), wrap_u64 (n := x.a.d2) (by omega) (by omega), wrap_u64 (n := x.a.d3) (by omega) (by omega), wrap_u64 (n := x.a.d4) (by omega) (by omega), wrap_u64 (n := x.a.d5) (by omega) (by omega), wrap_u64 (n := x.a.d6) (by omega) (by omega)]
  have i4 := balT_len hb.2.1 hb.2.2
  have j := digL_len x.a.s (by omega)
  have j0 := digL_len x.a.d0 (by omega)
  have j1 := digL_len x.a.d1 (by omega)
  have j2 := digL_len x.a.d2 (by omega)
  have j3 := digL_len x.a.d3 (by omega)
  have j4 := digL_len x.a.d4 (by omega)
  have j5 := digL_len x.a.d5 (by omega)
  have j6 := digL_len x.a.d6 (by omega)
  simp only [true_and, and_true, forall_eq, eq_self, catL_length, List.length_cons, List.length_nil]
  refine ⟨by omega, by omega, by omega, by omega, by decide, by omega, by omega, cond_prop (fun hs => ?_) fun hs => ?_⟩
  all_goals
    and_intros
    all_goals first | omega | decide | skip
  all_goals simp [headI, wordN, wordsS, howN, hs, text9, pair6, catL, List.append_assoc]
theorem okText100 : OkText100 := by
  intro x hq hb
  obtain ⟨h0, h1⟩ := rightI_st hq
  have hc : x.st = 0 ∨ x.st = 1 ∨ x.st = 2 ∨ x.st = 3 := by omega
  obtain ⟨r, sl, st, bal, vote, same, c, a⟩ := x
  simp only at hc
  rcases hc with rfl | rfl | rfl | rfl
  · exact textI0 ⟨r, sl, 0, bal, vote, same, c, a⟩ hq hb
  · exact textI1 ⟨r, sl, 1, bal, vote, same, c, a⟩ hq hb
  · exact textI2 ⟨r, sl, 2, bal, vote, same, c, a⟩ hq hb
  · exact textI3 ⟨r, sl, 3, bal, vote, same, c, a⟩ hq hb
theorem parts_no {x : InstP} (h : x.st = 0) : partsI x = [idShowV x.r x.sl, balShowV x.bal, wordN x.st] := by unfold partsI restI; rw [if_pos h]
theorem parts_yes {x : InstP} (h : x.st ≠ 0) : partsI x = [idShowV x.r x.sl, balShowV x.bal, wordN x.st, balShowV x.vote, howN x.same, attV x.a, showV x.c] := by unfold partsI restI; rw [if_neg h]
theorem numOK_of {x : InstP} (h : rangeI x) : NumOK x.c := ⟨h.2.2.1, h.2.2.2.1, h.2.2.2.2⟩
theorem wordN_len (k : Int) : (wordN k).length ≤ 9 := by
  unfold wordN
  generalize k.toNat = n
  match n with
  | 0 => decide
  | 1 => decide
  | 2 => decide
  | 3 => decide
  | n + 4 => simp [wordsS]
theorem show_id {x : InstP} (h : rightI x = true) : idShowV x.r x.sl = pair6 x.r x.sl ∧ idShowE x.r x.sl = 0 ∧ (idShowV x.r x.sl).length ≤ 100 := by
  obtain ⟨f1, _⟩ := rightI_parts h
  obtain ⟨r0, r1, r2, r3⟩ := rightId_facts f1
  have e : idShowV x.r x.sl = pairL x.r x.sl := by unfold idShowV; rw [if_pos f1]
  rw [e]
  exact ⟨pair_dig r0 r2, by simp [idShowE, f1], pair_len r0 r2 (by omega) (by omega)⟩
theorem show_bal {b : Int} (h0 : 0 ≤ b) (h1 : b ≤ 4294967295) (h : balOK b = true) : balShowV b = balT b ∧ (balShowV b).length ≤ 100 := by
  obtain ⟨f1, f2, f3, f4⟩ := balOK_facts h h0
  have e : balShowV b = pairL (b / 8) (b % 8) := by unfold balShowV; rw [if_pos h]
  rw [e]
  exact ⟨pair_dig f1 f3, pair_len f1 f3 (by omega) (by omega)⟩
theorem parts_len {x : InstP} (h : rightI x = true) (hb : rangeI x) : ∀ y ∈ partsI x, y.length ≤ 1000 := by
  obtain ⟨f1, f2, f3, f4, f5⟩ := rightI_parts h
  have i1 := (show_id h).2.2
  have i2 := (show_bal hb.1.1 hb.1.2 f2).2
  have i3 := (show_bal hb.2.1.1 hb.2.1.2 f3).2
  have i4 := wordN_len x.st
  by_cases h0 : x.st = 0
  · rw [parts_no h0]
    intro y hy
    simp only [List.mem_cons, List.not_mem_nil, or_false] at hy
    rcases hy with rfl | rfl | rfl <;> omega
  · rw [parts_yes h0]
    have i5 : (howN x.same).length ≤ 5 := by cases x.same <;> decide
    have i6 : (attV x.a).length ≤ 1000 := (read_show (f5 h0).2.2.2).2.2.2.2.2.2.2.2.2
    have i7 := show_short (numOK_of hb) (f5 h0).2.2.1
    intro y hy
    simp only [List.mem_cons, List.not_mem_nil, or_false] at hy
    rcases hy with rfl | rfl | rfl | rfl | rfl | rfl | rfl <;> omega
theorem parts_join {x : InstP} (h : rightI x = true) (hb : rangeI x) : (Lib.join (partsI x) [32]).length ≤ 7100 := by
  have h1 := join_lens 32 1000 (idShowV x.r x.sl) (balShowV x.bal :: wordN x.st :: restI x) (parts_len h hb)
  have h2 : (restI x).length ≤ 4 := by unfold restI; split <;> simp
  have h3 : (1000 + 1) * ((balShowV x.bal :: wordN x.st :: restI x).length + 1) ≤ 1001 * 7 := Nat.mul_le_mul_left _ (by simp; omega)
  show (Lib.join (idShowV x.r x.sl :: balShowV x.bal :: wordN x.st :: restI x) [32]).length ≤ 7100
  omega
theorem okIshow0 : OkIshow0 := by
  intro x hq hb
  refine vcIshow0 x ?_
  simp only [true_and, and_true, forall_eq, eq_self]
  refine ⟨hq, cond_prop (fun h => ?_) fun h => ?_⟩
  · have h' : rightI x = false := by simpa using h
    simp [ishowV, ishowE, h']
  · have h' : rightI x = true := by simpa using h
    have hst := rightI_st h'
    have hi : x.st.toNat < wordsS.length := by show _ < 4; omega
    have hj := parts_join h' hb
    have e1 : ishowV x = Lib.join (partsI x) [32] := by unfold ishowV; rw [if_pos h']
    have e2 : ishowE x = 0 := by unfold ishowE; rw [if_pos h']
    have ew : wordsS.getD x.st.toNat [] = wordN x.st := rfl
    have e4 : wordsS.length = 4 := rfl
    rw [rdStr_strs hi, ew, length_strsAV, e1, e2, e4]
    refine ⟨⟨by omega, by omega, okElem_strs hi⟩, okRead_strs hi, cond_prop (fun g => ?_) fun g => ?_⟩
    · have g' : x.st = 0 := by simpa using g
      rw [parts_no g'] at hj ⊢
      have e3 : ([AV.str (idShowV x.r x.sl), AV.str (balShowV x.bal), AV.str (wordN x.st)] : List AV) = strsAV [idShowV x.r x.sl, balShowV x.bal, wordN x.st] := rfl
      rw [e3, strsL_strsAV]
      exact ⟨⟨isStrs_strsAV _, by omega, by omega⟩, rfl, rfl⟩
    · have g' : x.st ≠ 0 := by simpa using g
      rw [parts_yes g'] at hj ⊢
      have at' : attShowV x.a.s x.a.d0 x.a.d1 x.a.d2 x.a.d3 x.a.d4 x.a.d5 x.a.d6 = attV x.a := rfl
      rw [at']
      refine cond_prop (fun hs => ?_) fun hs => ?_
      · have e3 : catL ([AV.str (idShowV x.r x.sl), AV.str (balShowV x.bal), AV.str (wordN x.st)] : List AV) [AV.str (balShowV x.vote), AV.str [115, 97, 109, 101], AV.str (attV x.a), AV.str (showV x.c)] = strsAV [idShowV x.r x.sl, balShowV x.bal, wordN x.st, balShowV x.vote, howN x.same, attV x.a, showV x.c] := by rw [hs]; rfl
        rw [e3, strsL_strsAV]
        exact ⟨hq, ⟨by omega, by omega, okWidth_strs [_, _, _], okWidth_strs [_, _, _, _]⟩, ⟨isStrs_strsAV _, by omega, by rw [length_strsAV]; simp⟩, rfl, rfl⟩
      · have e3 : catL ([AV.str (idShowV x.r x.sl), AV.str (balShowV x.bal), AV.str (wordN x.st)] : List AV) [AV.str (balShowV x.vote), AV.str [111, 116, 104, 101, 114], AV.str (attV x.a), AV.str (showV x.c)] = strsAV [idShowV x.r x.sl, balShowV x.bal, wordN x.st, balShowV x.vote, howN x.same, attV x.a, showV x.c] := by rw [hs]; rfl
        rw [e3, strsL_strsAV]
        exact ⟨hq, ⟨by omega, by omega, okWidth_strs [_, _, _], okWidth_strs [_, _, _, _]⟩, ⟨isStrs_strsAV _, by omega, by rw [length_strsAV]; simp⟩, rfl, rfl⟩
end Go.Proofs.YtpomloangafbkaaGreatDoor
/- The contracts are met. -/
namespace Go.Proofs.YtpomloangafbkaaGreatDoor
set_option linter.unusedVariables false
set_option linter.unusedSimpArgs false
open Go.RowKit
theorem sndShort7 : Sound Tryz.prog (lookΓ gamShort7) := sound_of _ fun p hp => by
  simp [gamShort7] at hp
set_option maxHeartbeats 4000000 in
theorem meetsShort7 : Meets Tryz.prog 142 short7F := by
  refine meets_of_awp (Γ := lookΓ gamShort7) (L := fun args => match args with | [.val (.int .u64 v)] => lpShort70 v | _ => fun _ => none) sndShort7 mixedOrders Tryz.func142 rfl Tryz.call142 ?_
  intro args q r hF hq ho
  unfold short7F at hF
  split at hF
  · cases hF
    exact ⟨by simp only [List.length_cons, List.length_nil]; decide, okShort70 _ hq⟩
  · cases hF
theorem sndOutByte : Sound Tryz.prog (lookΓ gamOutByte) := sound_of _ fun p hp => by
  simp [gamOutByte] at hp
set_option maxHeartbeats 4000000 in
theorem meetsOutByte : Meets Tryz.prog 80 outByteF := by
  refine meets_of_awp (Γ := lookΓ gamOutByte) (L := fun _ _ => none) sndOutByte mixedOrders Tryz.func80 rfl Tryz.call80 ?_
  intro args q r hF hq ho
  unfold outByteF at hF
  split at hF
  · split at hF
    · rename_i hte
      subst hte
      cases hF
      exact ⟨by simp only [List.length_cons, List.length_nil]; decide, okOutByte1 _ _ _ _ hq (okay_u8 (argI 1 ho rfl rfl))⟩
    · cases hF
  · cases hF
theorem sndOutShort7 : Sound Tryz.prog (lookΓ gamOutShort7) := sound_of _ fun p hp => by
  simp only [gamOutShort7, List.mem_cons, List.not_mem_nil, or_false] at hp
  subst hp
  exact meetsShort7.orNil
set_option maxHeartbeats 4000000 in
theorem meetsOutShort7 : Meets Tryz.prog 109 outShort7F := by
  refine meets_of_awp (Γ := lookΓ gamOutShort7) (L := fun _ _ => none) sndOutShort7 mixedOrders Tryz.func109 rfl Tryz.call109 ?_
  intro args q r hF hq ho
  unfold outShort7F at hF
  split at hF
  · split at hF
    · rename_i hte
      subst hte
      cases hF
      exact ⟨by simp only [List.length_cons, List.length_nil]; decide, okOutShort70 _ _ _ _ hq⟩
    · cases hF
  · cases hF
theorem sndOutBytes : Sound Tryz.prog (lookΓ gamOutBytes) := sound_of _ fun p hp => by
  simp only [gamOutBytes, List.mem_cons, List.not_mem_nil, or_false] at hp
  subst hp
  exact meetsClone.orNil
set_option maxHeartbeats 4000000 in
theorem meetsOutBytes : Meets Tryz.prog 57 outBytesF := by
  refine meets_of_awp (Γ := lookΓ gamOutBytes) (L := fun _ _ => none) sndOutBytes mixedOrders Tryz.func57 rfl Tryz.call57 ?_
  intro args q r hF hq ho
  unfold outBytesF at hF
  split at hF
  · split at hF
    · rename_i hte
      subst hte
      cases hF
      exact ⟨by simp only [List.length_cons, List.length_nil]; decide, okOutBytes1 _ _ _ hq⟩
    · cases hF
  · cases hF
theorem sndIdPut7 : Sound Tryz.prog (lookΓ gamIdPut7) := sound_of _ fun p hp => by
  simp only [gamIdPut7, List.mem_cons, List.not_mem_nil, or_false] at hp
  rcases hp with rfl | rfl
  · exact meetsOutByte.orNil
  · exact meetsOutShort7.orNil
set_option maxHeartbeats 4000000 in
theorem meetsIdPut7 : Meets Tryz.prog 81 idPut7F := by
  refine meets_of_awp (Γ := lookΓ gamIdPut7) (L := fun _ _ => none) sndIdPut7 mixedOrders Tryz.func81 rfl Tryz.call81 ?_
  intro args q r hF hq ho
  unfold idPut7F at hF
  split at hF
  · split at hF
    · rename_i hte
      subst hte
      cases hF
      exact ⟨by simp only [List.length_cons, List.length_nil]; decide, okIdPut70 _ _ _ _ _ hq⟩
    · cases hF
  · cases hF
theorem sndBalPut7 : Sound Tryz.prog (lookΓ gamBalPut7) := sound_of _ fun p hp => by
  simp only [gamBalPut7, List.mem_cons, List.not_mem_nil, or_false] at hp
  subst hp
  exact meetsOutShort7.orNil
set_option maxHeartbeats 4000000 in
theorem meetsBalPut7 : Meets Tryz.prog 82 balPut7F := by
  refine meets_of_awp (Γ := lookΓ gamBalPut7) (L := fun _ _ => none) sndBalPut7 mixedOrders Tryz.func82 rfl Tryz.call82 ?_
  intro args q r hF hq ho
  unfold balPut7F at hF
  split at hF
  · split at hF
    · rename_i hte
      subst hte
      cases hF
      exact ⟨by simp only [List.length_cons, List.length_nil]; decide, okBalPut70 _ _ _ _ hq⟩
    · cases hF
  · cases hF
theorem sndIputZ : Sound Tryz.prog (lookΓ gamIputZ) := sound_of _ fun p hp => by
  simp only [gamIputZ, List.mem_cons, List.not_mem_nil, or_false] at hp
  rcases hp with rfl | rfl | rfl
  · exact meetsIdPut7.orNil
  · exact meetsBalPut7.orNil
  · exact meetsOutByte.orNil
set_option maxHeartbeats 4000000 in
theorem meetsIputZ : Meets Tryz.prog 56 iputZF := by
  refine meets_of_awp (Γ := lookΓ gamIputZ) (L := fun _ _ => none) sndIputZ mixedOrders Tryz.func56 rfl Tryz.call56 ?_
  intro args q r hF hq ho
  unfold iputZF at hF
  split at hF
  · split at hF
    · rename_i x hzx
      obtain rfl := instOf_some hzx
      split at hF
      · rename_i hte
        subst hte
        cases hF
        exact ⟨by simp only [List.length_cons, List.length_nil]; decide, okIputZ0 _ _ _ _ hq⟩
      · cases hF
    · cases hF
  · cases hF
theorem sndIbytesZ : Sound Tryz.prog (lookΓ gamIbytesZ) := sound_of _ fun p hp => by
  simp only [gamIbytesZ, List.mem_cons, List.not_mem_nil, or_false] at hp
  rcases hp with rfl | rfl
  · exact meetsIputZ.orNil
  · exact meetsOutBytes.orNil
set_option maxHeartbeats 4000000 in
theorem meetsIbytesZ : Meets Tryz.prog 23 ibytesZF := by
  refine meets_of_awp (Γ := lookΓ gamIbytesZ) (L := fun _ _ => none) sndIbytesZ mixedOrders Tryz.func23 rfl Tryz.call23 ?_
  intro args q r hF hq ho
  unfold ibytesZF at hF
  split at hF
  · split at hF
    · rename_i x hzx
      obtain rfl := instOf_some hzx
      cases hF
      exact ⟨by simp only [List.length_cons, List.length_nil]; decide, okIbytesZ0 _ hq⟩
    · cases hF
  · cases hF
theorem sndAnchor10 : Sound Tryz.prog (lookΓ gamAnchor10) := sound_of _ fun p hp => by
  simp only [gamAnchor10, List.mem_cons, List.not_mem_nil, or_false] at hp
  rcases hp with rfl | rfl
  · exact meetsInew.orNil
  · exact meetsIbytesZ.orNil
set_option maxHeartbeats 4000000 in
theorem meetsAnchor10 : Meets Tryz.prog 7 anchor10F := by
  refine meets_of_awp (Γ := lookΓ gamAnchor10) (L := fun _ _ => none) sndAnchor10 mixedOrders Tryz.func7 rfl Tryz.call7 ?_
  intro args q r hF hq ho
  unfold anchor10F at hF
  split at hF
  · cases hF
    exact ⟨by simp only [List.length_cons, List.length_nil]; decide, okAnchor100 hq⟩
  · cases hF
theorem sndOf10 : Sound Tryz.prog (lookΓ gamOf10) := sound_of _ fun p hp => by
  simp [gamOf10] at hp
set_option maxHeartbeats 4000000 in
theorem meetsOf10 : Meets Tryz.prog 10 of10F := by
  refine meets_of_awp (Γ := lookΓ gamOf10) (L := fun _ _ => none) sndOf10 mixedOrders Tryz.func10 rfl Tryz.call10 ?_
  intro args q r hF hq ho
  unfold of10F at hF
  split at hF
  · split at hF
    · rename_i x hzx
      obtain rfl := instOf_some hzx
      cases hF
      exact ⟨by simp only [List.length_cons, List.length_nil]; decide, okOf100 _ hq⟩
    · cases hF
  · cases hF
theorem sndSmall10 : Sound Tryz.prog (lookΓ gamSmall10) := sound_of _ fun p hp => by
  simp [gamSmall10] at hp
set_option maxHeartbeats 4000000 in
theorem meetsSmall10 : Meets Tryz.prog 8 small10F := by
  refine meets_of_awp (Γ := lookΓ gamSmall10) (L := fun _ _ => none) sndSmall10 mixedOrders Tryz.func8 rfl Tryz.call8 ?_
  intro args q r hF hq ho
  unfold small10F at hF
  split at hF
  · split at hF
    · rename_i x hzx
      obtain rfl := instOf_some hzx
      cases hF
      exact ⟨by simp only [List.length_cons, List.length_nil]; decide, okSmall100 _ hq⟩
    · cases hF
  · cases hF
theorem sndWords10 : Sound Tryz.prog (lookΓ gamWords10) := sound_of _ fun p hp => by
  simp [gamWords10] at hp
set_option maxHeartbeats 4000000 in
theorem meetsWords10 : Meets Tryz.prog 27 words10F := by
  refine meets_of_awp (Γ := lookΓ gamWords10) (L := fun _ _ => none) sndWords10 mixedOrders Tryz.func27 rfl Tryz.call27 ?_
  intro args q r hF hq ho
  unfold words10F at hF
  split at hF
  · cases hF
    exact ⟨by simp only [List.length_cons, List.length_nil]; decide, okWords100 hq⟩
  · cases hF
theorem sndIstatus : Sound Tryz.prog (lookΓ gamIstatus) := sound_of _ fun p hp => by
  simp only [gamIstatus, List.mem_cons, List.not_mem_nil, or_false] at hp
  subst hp
  exact meetsWords10.orNil
set_option maxHeartbeats 4000000 in
theorem meetsIstatus : Meets Tryz.prog 42 istatusF := by
  refine meets_of_awp (Γ := lookΓ gamIstatus) (L := fun args => match args with | [.val (.str t)] => lpIstatus0 t | _ => fun _ => none) sndIstatus mixedOrders Tryz.func42 rfl Tryz.call42 ?_
  intro args q r hF hq ho
  unfold istatusF at hF
  split at hF
  · cases hF
    exact ⟨by simp only [List.length_cons, List.length_nil]; decide, okIstatus0 _ hq⟩
  · cases hF
theorem sndSplitN : Sound Tryz.prog (lookΓ gamSplitN) := sound_of _ fun p hp => by
  simp only [gamSplitN, List.mem_cons, List.not_mem_nil, or_false] at hp
  subst hp
  exact meetsGenS.orNil
set_option maxHeartbeats 4000000 in
theorem meetsSplitN : Meets Tryz.prog 39 splitNF := by
  refine meets_of_awp (Γ := lookΓ gamSplitN) (L := fun _ _ => none) sndSplitN mixedOrders Tryz.func39 rfl Tryz.call39 ?_
  intro args q r hF hq ho
  unfold splitNF at hF
  split at hF
  · cases hF
    exact ⟨by simp only [List.length_cons, List.length_nil]; decide, okSplitN0 _ _ _ hq⟩
  · cases hF
theorem sndDigits10 : Sound Tryz.prog (lookΓ gamDigits10) := sound_of _ fun p hp => by
  simp [gamDigits10] at hp
set_option maxHeartbeats 4000000 in
theorem meetsDigits10 : Meets Tryz.prog 34 digits10F := by
  refine meets_of_awp (Γ := lookΓ gamDigits10) (L := fun args => match args with | [.val (.int .u64 v)] => lpDigits100 v | _ => fun _ => none) sndDigits10 mixedOrders Tryz.func34 rfl Tryz.call34 ?_
  intro args q r hF hq ho
  unfold digits10F at hF
  split at hF
  · cases hF
    exact ⟨by simp only [List.length_cons, List.length_nil]; decide, okDigits100 _ hq (okay_u64 (argI 0 ho rfl rfl))⟩
  · cases hF
theorem sndBallot10 : Sound Tryz.prog (lookΓ gamBallot10) := sound_of _ fun p hp => by
  simp only [gamBallot10, List.mem_cons, List.not_mem_nil, or_false] at hp
  subst hp
  exact meetsDigits10.orNil
set_option maxHeartbeats 4000000 in
theorem meetsBallot10 : Meets Tryz.prog 35 ballot10F := by
  refine meets_of_awp (Γ := lookΓ gamBallot10) (L := fun _ _ => none) sndBallot10 mixedOrders Tryz.func35 rfl Tryz.call35 ?_
  intro args q r hF hq ho
  unfold ballot10F at hF
  split at hF
  · cases hF
    exact ⟨by simp only [List.length_cons, List.length_nil]; decide, okBallot100 _ hq (okay_u32 (argI 0 ho rfl rfl))⟩
  · cases hF
theorem sndText10 : Sound Tryz.prog (lookΓ gamText10) := sound_of _ fun p hp => by
  simp only [gamText10, List.mem_cons, List.not_mem_nil, or_false] at hp
  rcases hp with rfl | rfl
  · exact meetsDigits10.orNil
  · exact meetsBallot10.orNil
set_option maxHeartbeats 4000000 in
theorem meetsText10 : Meets Tryz.prog 12 text10F := by
  refine meets_of_awp (Γ := lookΓ gamText10) (L := fun args => match args with | [.val (.agg zcx)] => (match instOf zcx with | some x => lpText100 x | _ => fun _ => none) | _ => fun _ => none) sndText10 mixedOrders Tryz.func12 rfl Tryz.call12 ?_
  intro args q r hF hq ho
  unfold text10F at hF
  split at hF
  · split at hF
    · rename_i x hzx
      obtain rfl := instOf_some hzx
      cases hF
      exact ⟨by simp only [List.length_cons, List.length_nil]; decide, okText100 _ hq (⟨okay_u32 (argA 0 3 ho rfl rfl), okay_u32 (argA 0 4 ho rfl rfl)⟩)⟩
    · cases hF
  · cases hF
theorem sndIshow : Sound Tryz.prog (lookΓ gamIshow) := sound_of _ fun p hp => by
  simp only [gamIshow, List.mem_cons, List.not_mem_nil, or_false] at hp
  rcases hp with rfl | rfl | rfl | rfl | rfl | rfl | rfl
  · exact meetsIright.orNil
  · exact meetsIdShow.orNil
  · exact meetsBalShow.orNil
  · exact meetsWords10.orNil
  · exact meetsAttShow.orNil
  · exact meetsCshow.orNil
  · exact meetsJoinS.orNil
set_option maxHeartbeats 4000000 in
theorem meetsIshow : Meets Tryz.prog 9 ishowF := by
  refine meets_of_awp (Γ := lookΓ gamIshow) (L := fun _ _ => none) sndIshow mixedOrders Tryz.func9 rfl Tryz.call9 ?_
  intro args q r hF hq ho
  unfold ishowF at hF
  split at hF
  · split at hF
    · rename_i x hzx
      obtain rfl := instOf_some hzx
      cases hF
      exact ⟨by simp only [List.length_cons, List.length_nil]; decide, okIshow0 _ hq (⟨okay_u32 (argA 0 3 ho rfl rfl), okay_u32 (argA 0 4 ho rfl rfl), okay_u64 (argA 0 7 ho rfl rfl), okay_u64 (argA 0 9 ho rfl rfl), okay_u64 (argA 0 12 ho rfl rfl)⟩)⟩
    · cases hF
  · cases hF
end Go.Proofs.YtpomloangafbkaaGreatDoor
