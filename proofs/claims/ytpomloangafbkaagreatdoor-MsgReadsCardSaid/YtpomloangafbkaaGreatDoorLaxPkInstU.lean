/- Contracts by content, their conditions, and that they are met: InstU. -/
import Derived.Test.YtpomloangafbkaaGreatDoorLaxInstRC
import Derived.Test.YtpomloangafbkaaGreatDoorLaxPkCmdU
import Derived.Test.YtpomloangafbkaaGreatDoorLaxPkAttT
import Derived.Test.YtpomloangafbkaaGreatDoorStrN
import Derived.Test.YtpomloangafbkaaGreatDoorLaxPkInstR
/- Contracts by content, and the conditions that their code must meet. -/
namespace Go.Proofs.YtpomloangafbkaaGreatDoor
set_option linter.unusedVariables false
set_option linter.unusedSimpArgs false
open Go.RowKit
def wordsS : List (List UInt8) := [[110, 111, 110, 101], [112, 114, 101], [97, 99, 99, 101, 112, 116, 101, 100], [99, 111, 109, 109, 105, 116, 116, 101, 100]]
def wordN (st : Int) : List UInt8 := wordsS.getD st.toNat []
def statusN (t : List UInt8) : Int := if [110, 111, 110, 101] = t then 0 else if [112, 114, 101] = t then 1 else if [97, 99, 99, 101, 112, 116, 101, 100] = t then 2 else if [99, 111, 109, 109, 105, 116, 116, 101, 100] = t then 3 else -1
def attV (a : AttP) : List UInt8 := attShowV a.s a.d0 a.d1 a.d2 a.d3 a.d4 a.d5 a.d6
def howN (b : Bool) : List UInt8 := if b then [115, 97, 109, 101] else [111, 116, 104, 101, 114]
def restI (x : InstP) : List (List UInt8) := if x.st = 0 then [] else [balShowV x.vote, howN x.same, attV x.a, showV x.c]
def partsI (x : InstP) : List (List UInt8) := idShowV x.r x.sl :: balShowV x.bal :: wordN x.st :: restI x
def ishowV (x : InstP) : List UInt8 := if rightI x then Lib.join (partsI x) [32] else []
def ishowE (x : InstP) : Int := if rightI x then 0 else 10
def balT (b : Int) : List UInt8 := pair6 (b / 8) (b % 8)
abbrev rangeI (x : InstP) : Prop := (0 ≤ x.bal ∧ x.bal ≤ 4294967295) ∧ (0 ≤ x.vote ∧ x.vote ≤ 4294967295) ∧ (0 ≤ x.c.num ∧ x.c.num ≤ 18446744073709551615) ∧ (0 ≤ x.c.rq ∧ x.c.rq ≤ 18446744073709551615) ∧ (0 ≤ x.c.n ∧ x.c.n ≤ 18446744073709551615)
def loopStatus (t : List UInt8) : LoopInv :=
  { V := Nat
    T := fun i => [(0, .str t), (5, .sl (strsAV wordsS) .no), (6, .int .i64 4), (7, .int .i64 (i : Int))]
    B := fun i => []
    R := fun i => []
    inv := fun i => i ≤ 4 ∧ ∀ j, j < i → wordsS.getD j [] ≠ t
    mu := fun i => 4 - i }
def short7F : Con
  | [.val (.int .u64 v)] => (some (0 ≤ v ∧ v < 128, ⟨.sl (bytesAV (encByte v)) (.row 0 0 5), none, none⟩))
  | _ => none
def gamShort7 : List (Nat × Con) := []
def lpShort70 (v : Int) : Nat → Option LoopPlan := fun b => bif Nat.beq b 0 then some (.unroll [] 2) else none
def inShort70 (v : Int) : Prop := awp [] (lpShort70 v) (lookΓ gamShort7) Tryz.prog Tryz.f142.ntmps 0 (Tryz.f142.body.getD .skip) (entrySt [.val (.int .u64 v)]) (exitQ Tryz.prog Tryz.f142.results.toList [] ⟨.sl (bytesAV (encByte v)) (.row 0 0 5), none, none⟩)
def OkShort70 : Prop := ∀ (v : Int), 0 ≤ v ∧ v < 128 → inShort70 v
def outByteF : Con
  | [.box [.sl xs (.row p q te0)], .val (.int .u8 b)] => (if te0 = 5 then some (isBytes xs ∧ xs.length + 1 ≤ 140737488355328, ⟨.ptr 0 0, (some [.sl (bytesAV (catL (bytesL xs) (encByte b))) (.row 0 0 5)]), none⟩) else none)
  | _ => none
def gamOutByte : List (Nat × Con) := []
def lpOutByte1 (xs : List AV) (p q : Nat) (b : Int) : Nat → Option LoopPlan := fun _ => none
def inOutByte1 (xs : List AV) (p q : Nat) (b : Int) : Prop := awp [0] (lpOutByte1 xs p q b) (lookΓ gamOutByte) Tryz.prog Tryz.f80.ntmps 0 (Tryz.f80.body.getD .skip) (entrySt [.box [.sl xs (.row p q 5)], .val (.int .u8 b)]) (exitQ Tryz.prog Tryz.f80.results.toList [0] ⟨.ptr 0 0, (some [.sl (bytesAV (catL (bytesL xs) (encByte b))) (.row 0 0 5)]), none⟩)
def OkOutByte1 : Prop := ∀ (xs : List AV) (p q : Nat) (b : Int), isBytes xs ∧ xs.length + 1 ≤ 140737488355328 → (0 ≤ b ∧ b ≤ 255) → inOutByte1 xs p q b
def outShort7F : Con
  | [.box [.sl xs (.row p q te0)], .val (.int .u64 v)] => (if te0 = 5 then some (isBytes xs ∧ xs.length + 1 ≤ 140737488355328 ∧ 0 ≤ v ∧ v < 128, ⟨.ptr 0 0, (some [.sl (bytesAV (catL (bytesL xs) (encByte v))) (.row 0 0 5)]), none⟩) else none)
  | _ => none
def gamOutShort7 : List (Nat × Con) := [(142, short7F.orNil)]
def lpOutShort70 (xs : List AV) (p q : Nat) (v : Int) : Nat → Option LoopPlan := fun _ => none
def inOutShort70 (xs : List AV) (p q : Nat) (v : Int) : Prop := awp [0] (lpOutShort70 xs p q v) (lookΓ gamOutShort7) Tryz.prog Tryz.f109.ntmps 0 (Tryz.f109.body.getD .skip) (entrySt [.box [.sl xs (.row p q 5)], .val (.int .u64 v)]) (exitQ Tryz.prog Tryz.f109.results.toList [0] ⟨.ptr 0 0, (some [.sl (bytesAV (catL (bytesL xs) (encByte v))) (.row 0 0 5)]), none⟩)
def OkOutShort70 : Prop := ∀ (xs : List AV) (p q : Nat) (v : Int), isBytes xs ∧ xs.length + 1 ≤ 140737488355328 ∧ 0 ≤ v ∧ v < 128 → inOutShort70 xs p q v
def outBytesF : Con
  | [.box [.sl xs (.row p q te0)]] => (if te0 = 5 then some (isBytes xs ∧ xs.length ≤ 140737488355328, ⟨.sl xs .no, (some [.sl xs (.row 0 0 5)]), none⟩) else none)
  | _ => none
def gamOutBytes : List (Nat × Con) := [(97, cloneF.orNil)]
def lpOutBytes1 (xs : List AV) (p q : Nat) : Nat → Option LoopPlan := fun _ => none
def inOutBytes1 (xs : List AV) (p q : Nat) : Prop := awp [0] (lpOutBytes1 xs p q) (lookΓ gamOutBytes) Tryz.prog Tryz.f57.ntmps 0 (Tryz.f57.body.getD .skip) (entrySt [.box [.sl xs (.row p q 5)]]) (exitQ Tryz.prog Tryz.f57.results.toList [0] ⟨.sl xs .no, (some [.sl xs (.row 0 0 5)]), none⟩)
def OkOutBytes1 : Prop := ∀ (xs : List AV) (p q : Nat), isBytes xs ∧ xs.length ≤ 140737488355328 → inOutBytes1 xs p q
def idPut7F : Con
  | [.val (.agg [.int .i64 r, .int .i64 n]), .box [.sl xs (.row p q te0)]] => (if te0 = 5 then some (isBytes xs ∧ xs.length + 2 ≤ 140737488355328 ∧ (0 ≤ r ∧ r < 128) ∧ (0 ≤ n ∧ n < 128), ⟨.tup [], (some [.sl (bytesAV (catL (catL (bytesL xs) (encByte r)) (encByte n))) (.row 0 0 5)]), none⟩) else none)
  | _ => none
def gamIdPut7 : List (Nat × Con) := [(80, outByteF.orNil), (109, outShort7F.orNil)]
def lpIdPut70 (xs : List AV) (p q : Nat) (r n : Int) : Nat → Option LoopPlan := fun _ => none
def inIdPut70 (xs : List AV) (p q : Nat) (r n : Int) : Prop := awp [1] (lpIdPut70 xs p q r n) (lookΓ gamIdPut7) Tryz.prog Tryz.f81.ntmps 0 (Tryz.f81.body.getD .skip) (entrySt [.val (.agg [.int .i64 r, .int .i64 n]), .box [.sl xs (.row p q 5)]]) (exitQ Tryz.prog Tryz.f81.results.toList [1] ⟨.tup [], (some [.sl (bytesAV (catL (catL (bytesL xs) (encByte r)) (encByte n))) (.row 0 0 5)]), none⟩)
def OkIdPut70 : Prop := ∀ (xs : List AV) (p q : Nat) (r n : Int), isBytes xs ∧ xs.length + 2 ≤ 140737488355328 ∧ (0 ≤ r ∧ r < 128) ∧ (0 ≤ n ∧ n < 128) → inIdPut70 xs p q r n
def balPut7F : Con
  | [.val (.int .u32 b), .box [.sl xs (.row p q te0)]] => (if te0 = 5 then some (isBytes xs ∧ xs.length + 1 ≤ 140737488355328 ∧ (0 ≤ b ∧ b < 128), ⟨.tup [], (some [.sl (bytesAV (catL (bytesL xs) (encByte b))) (.row 0 0 5)]), none⟩) else none)
  | _ => none
def gamBalPut7 : List (Nat × Con) := [(109, outShort7F.orNil)]
def lpBalPut70 (xs : List AV) (p q : Nat) (b : Int) : Nat → Option LoopPlan := fun _ => none
def inBalPut70 (xs : List AV) (p q : Nat) (b : Int) : Prop := awp [1] (lpBalPut70 xs p q b) (lookΓ gamBalPut7) Tryz.prog Tryz.f82.ntmps 0 (Tryz.f82.body.getD .skip) (entrySt [.val (.int .u32 b), .box [.sl xs (.row p q 5)]]) (exitQ Tryz.prog Tryz.f82.results.toList [1] ⟨.tup [], (some [.sl (bytesAV (catL (bytesL xs) (encByte b))) (.row 0 0 5)]), none⟩)
def OkBalPut70 : Prop := ∀ (xs : List AV) (p q : Nat) (b : Int), isBytes xs ∧ xs.length + 1 ≤ 140737488355328 ∧ (0 ≤ b ∧ b < 128) → inBalPut70 xs p q b
def words10F : Con
  | [] => (some (True, ⟨.sl (strsAV wordsS) .no, none, none⟩))
  | _ => none
def gamWords10 : List (Nat × Con) := []
def lpWords100  : Nat → Option LoopPlan := fun _ => none
def inWords100  : Prop := awp [] (lpWords100) (lookΓ gamWords10) Tryz.prog Tryz.f27.ntmps 0 (Tryz.f27.body.getD .skip) (entrySt []) (exitQ Tryz.prog Tryz.f27.results.toList [] ⟨.sl (strsAV wordsS) .no, none, none⟩)
def OkWords100 : Prop := True → inWords100
def istatusF : Con
  | [.val (.str t)] => (some (True, ⟨.int .i64 (statusN t), none, none⟩))
  | _ => none
def gamIstatus : List (Nat × Con) := [(27, words10F.orNil)]
def lpIstatus0 (t : List UInt8) : Nat → Option LoopPlan := fun b => bif Nat.beq b 0 then some (.inv [] (loopStatus t)) else none
def inIstatus0 (t : List UInt8) : Prop := awp [] (lpIstatus0 t) (lookΓ gamIstatus) Tryz.prog Tryz.f42.ntmps 0 (Tryz.f42.body.getD .skip) (entrySt [.val (.str t)]) (exitQ Tryz.prog Tryz.f42.results.toList [] ⟨.int .i64 (statusN t), none, none⟩)
def OkIstatus0 : Prop := ∀ (t : List UInt8), True → inIstatus0 t
def splitNF : Con
  | [.val (.str s), .val (.str sep), .val (.int .i64 n)] => (some (s.length < 4294967281 ∧ 1 ≤ sep.length ∧ 1 ≤ n ∧ n ≤ 1000000, ⟨.sl (strsAV (splitM s sep n.toNat)) (.row 0 0 9), none, none⟩))
  | _ => none
def gamSplitN : List (Nat × Con) := [(74, genSF.orNil)]
def lpSplitN0 (s sep : List UInt8) (n : Int) : Nat → Option LoopPlan := fun _ => none
def inSplitN0 (s sep : List UInt8) (n : Int) : Prop := awp [] (lpSplitN0 s sep n) (lookΓ gamSplitN) Tryz.prog Tryz.f39.ntmps 0 (Tryz.f39.body.getD .skip) (entrySt [.val (.str s), .val (.str sep), .val (.int .i64 n)]) (exitQ Tryz.prog Tryz.f39.results.toList [] ⟨.sl (strsAV (splitM s sep n.toNat)) (.row 0 0 9), none, none⟩)
def OkSplitN0 : Prop := ∀ (s sep : List UInt8) (n : Int), s.length < 4294967281 ∧ 1 ≤ sep.length ∧ 1 ≤ n ∧ n ≤ 1000000 → inSplitN0 s sep n
def ishowF : Con
  | [.val (.agg zcx)] => (match instOf zcx with | some x => some (smallX x, ⟨.tup [.str (ishowV x), .int .i64 (ishowE x)], none, none⟩) | _ => none)
  | _ => none
def gamIshow : List (Nat × Con) := [(24, irightF.orNil), (25, idShowF.orNil), (26, balShowF.orNil), (27, words10F.orNil), (29, attShowF.orNil), (13, cshowF.orNil), (28, joinSF.orNil)]
def lpIshow0 (x : InstP) : Nat → Option LoopPlan := fun _ => none
def inIshow0 (x : InstP) : Prop := awp [] (lpIshow0 x) (lookΓ gamIshow) Tryz.prog Tryz.f9.ntmps 0 (Tryz.f9.body.getD .skip) (entrySt [.val (.agg (instL x))]) (exitQ Tryz.prog Tryz.f9.results.toList [] ⟨.tup [.str (ishowV x), .int .i64 (ishowE x)], none, none⟩)
def OkIshow0 : Prop := ∀ (x : InstP), smallX x → (rangeI x) → inIshow0 x
end Go.Proofs.YtpomloangafbkaaGreatDoor
/- What the verification conditions come to: printed by a program of ours (wip/lax/ex/Norm.lean). -/
namespace Go.Proofs.YtpomloangafbkaaGreatDoor
set_option linter.unusedVariables false
open Go.RowKit
set_option maxRecDepth 100000
theorem vcShort70 (v : Int) (h : let q0 := (intBits Go.BinOp.or IntKind.u8 (IntKind.wrap IntKind.u8 v) 128); let q1 := (IntKind.wrap IntKind.u8 (Int.fdiv v 128)); let w0_x := [(AV.int IntKind.u8 q0)]; (tt ∧ T1 ∧ tt ∧ T1 ∧ (tt ∧ tt) ∧ tt ∧ T1 ∧ T1 ∧ (bif (decide ((128 : Int) ≤ v)) then (tt ∧ T1 ∧ T1 ∧ T1 ∧ T1 ∧ T1 ∧ (1 ≤ 140737488355328 ∧ 1 ≤ 9223372036854775807 ∧ (okWidth 1 w0_x)) ∧ T1 ∧ tt ∧ T1 ∧ (0 : Int) ≤ (7 : Int) ∧ T1 ∧ (tt ∧ tt) ∧ tt ∧ T1 ∧ T1 ∧ (bif (decide ((128 : Int) ≤ (Int.fdiv v 128))) then (tt ∧ T1 ∧ T1 ∧ T1 ∧ T1 ∧ False) else (tt ∧ T1 ∧ T1 ∧ T1 ∧ T1 ∧ (@Eq.{1} Nat 1 1 ∧ 2 ≤ 140737488355328 ∧ 2 ≤ 9223372036854775807 ∧ (okWidth 1 w0_x) ∧ (okWidth 1 [(AV.int IntKind.u8 q1)])) ∧ T1 ∧ tt ∧ tt ∧ ((0 < 1 ∧ (bytesAV (encByte v)) = (@catL AV w0_x [(AV.int IntKind.u8 q1)]) ∧ @Eq.{1} Nat 2 (List.length (@catL AV w0_x [(AV.int IntKind.u8 q1)]))) ∧ True) ∧ tt))) else (tt ∧ T1 ∧ T1 ∧ T1 ∧ T1 ∧ (1 ≤ 140737488355328 ∧ 1 ≤ 9223372036854775807 ∧ (okWidth 1 [(AV.int IntKind.u8 (IntKind.wrap IntKind.u8 v))])) ∧ T1 ∧ tt ∧ tt ∧ ((0 < 1 ∧ (bytesAV (encByte v)) = [(AV.int IntKind.u8 (IntKind.wrap IntKind.u8 v))] ∧ @Eq.{1} Nat 1 1) ∧ True) ∧ tt)))) : inShort70 v :=
  Eq.mp (show _ = _ by kernel_rfl) h
theorem vcOutByte1 (xs : (List AV)) (p : Nat) (q : Nat) (b : Int) (h : let q0 := (List.length xs); (tt ∧ T1 ∧ tt ∧ T1 ∧ T1 ∧ T1 ∧ T1 ∧ tt ∧ T1 ∧ T1 ∧ (q0 = q0 ∧ ((q0 + 1) * 1) ≤ 140737488355328 ∧ (q0 + 1) ≤ 9223372036854775807 ∧ (okWidth 1 xs) ∧ (okWidth 1 [(AV.int IntKind.u8 b)])) ∧ T1 ∧ T1 ∧ tt ∧ tt ∧ T1 ∧ T1 ∧ tt ∧ tt ∧ ((0 < 1 ∧ (bytesAV (@catL UInt8 (bytesL xs) (encByte b))) = (@catL AV xs [(AV.int IntKind.u8 b)]) ∧ (q0 + 1) = (List.length (@catL AV xs [(AV.int IntKind.u8 b)]))) ∧ T1 ∧ True) ∧ tt)) : inOutByte1 xs p q b :=
  Eq.mp (show _ = _ by kernel_rfl) h
theorem vcOutShort70 (xs : (List AV)) (p : Nat) (q : Nat) (v : Int) (h : let q0 := (List.length xs); (tt ∧ T1 ∧ tt ∧ T1 ∧ T1 ∧ T1 ∧ T1 ∧ tt ∧ T1 ∧ (T1 ∧ (0 : Int) ≤ v ∧ v < 128) ∧ ∀ v0 : (List AV), (v0 = (bytesAV (encByte v))) → ∀ v2 : Nat, (v2 = (List.length (bytesAV (encByte v)))) → (q0 = q0 ∧ ((q0 + (List.length v0)) * 1) ≤ 140737488355328 ∧ (q0 + (List.length v0)) ≤ 9223372036854775807 ∧ (okWidth 1 xs) ∧ (okWidth 1 v0)) ∧ T1 ∧ T1 ∧ tt ∧ tt ∧ tt ∧ T1 ∧ T1 ∧ tt ∧ tt ∧ ((0 < 1 ∧ (bytesAV (@catL UInt8 (bytesL xs) (encByte v))) = (@catL AV xs v0) ∧ (q0 + (List.length v0)) = (List.length (@catL AV xs v0))) ∧ T1 ∧ True) ∧ tt)) : inOutShort70 xs p q v :=
  Eq.mp (show _ = _ by kernel_rfl) h
theorem vcOutBytes1 (xs : (List AV)) (p : Nat) (q : Nat) (h : (tt ∧ T1 ∧ tt ∧ T1 ∧ T1 ∧ T1 ∧ tt ∧ (T1 ∧ (isBytes xs) ∧ (List.length xs) ≤ 140737488355328) ∧ ∀ v0 : (List AV), (v0 = xs) → ∀ v2 : Nat, (v2 = (List.length xs)) → T1 ∧ tt ∧ tt ∧ ((0 < 1 ∧ xs = xs ∧ (List.length xs) = (List.length xs)) ∧ xs = v0 ∧ True) ∧ tt)) : inOutBytes1 xs p q :=
  Eq.mp (show _ = _ by kernel_rfl) h
theorem vcIdPut70 (xs : (List AV)) (p : Nat) (q : Nat) (r : Int) (n : Int) (h : let q0 := (IntKind.wrap IntKind.u64 n); let w0_x := (bytesAV (@catL UInt8 (bytesL xs) (encByte (IntKind.wrap IntKind.u8 r)))); (tt ∧ T1 ∧ tt ∧ T1 ∧ T1 ∧ tt ∧ T1 ∧ (((List.length xs) = (List.length xs) ∧ True) ∧ (isBytes xs) ∧ ((List.length xs) + 1) ≤ 140737488355328) ∧ ∀ v0 : (List AV), (v0 = w0_x) → ∀ v2 : Nat, (v2 = (List.length w0_x)) → T1 ∧ tt ∧ T1 ∧ ((v2 = (List.length v0) ∧ True) ∧ (isBytes v0) ∧ ((List.length v0) + 1) ≤ 140737488355328 ∧ (0 : Int) ≤ q0 ∧ q0 < 128) ∧ ∀ v4 : (List AV), (v4 = (bytesAV (@catL UInt8 (bytesL v0) (encByte q0)))) → ∀ v6 : Nat, (v6 = (List.length (bytesAV (@catL UInt8 (bytesL v0) (encByte q0))))) → tt ∧ tt ∧ tt ∧ ((0 < 1 ∧ (bytesAV (@catL UInt8 (@catL UInt8 (bytesL xs) (encByte r)) (encByte n))) = v4 ∧ v6 = (List.length v4)) ∧ True) ∧ tt)) : inIdPut70 xs p q r n :=
  Eq.mp (show _ = _ by kernel_rfl) h
theorem vcBalPut70 (xs : (List AV)) (p : Nat) (q : Nat) (b : Int) (h : let q0 := (IntKind.wrap IntKind.u64 b); (tt ∧ T1 ∧ T1 ∧ T1 ∧ (((List.length xs) = (List.length xs) ∧ True) ∧ (isBytes xs) ∧ ((List.length xs) + 1) ≤ 140737488355328 ∧ (0 : Int) ≤ q0 ∧ q0 < 128) ∧ ∀ v0 : (List AV), (v0 = (bytesAV (@catL UInt8 (bytesL xs) (encByte q0)))) → ∀ v2 : Nat, (v2 = (List.length (bytesAV (@catL UInt8 (bytesL xs) (encByte q0))))) → tt ∧ tt ∧ ((0 < 1 ∧ (bytesAV (@catL UInt8 (bytesL xs) (encByte b))) = v0 ∧ v2 = (List.length v0)) ∧ True) ∧ tt)) : inBalPut70 xs p q b :=
  Eq.mp (show _ = _ by kernel_rfl) h
theorem vcWords100 (h : (tt ∧ T1 ∧ tt ∧ T1 ∧ T1 ∧ tt ∧ tt ∧ ((strsAV wordsS) = [(AV.str [(110 : UInt8), 111, 110, 101]), (AV.str [(112 : UInt8), 114, 101]), (AV.str [(97 : UInt8), 99, 99, 101, 112, 116, 101, 100]), (AV.str [(99 : UInt8), 111, 109, 109, 105, 116, 116, 101, 100])] ∧ True) ∧ tt)) : inWords100 :=
  Eq.mp (show _ = _ by kernel_rfl) h
theorem vcIstatus0 (t : (List UInt8)) (h : let q0 := (strsAV wordsS); (tt ∧ T1 ∧ tt ∧ (T1 ∧ True) ∧ ∀ v0 : (List AV), (v0 = q0) → T1 ∧ T1 ∧ (@Exists.{1} (loopStatus t).V (fun (v2 : Nat) => ((((AV.str t) = (AV.str t) ∧ (AV.sl v0 Own.no) = (AV.sl q0 Own.no) ∧ (AV.int IntKind.i64 ((List.length v0) : Int)) = (AV.int IntKind.i64 4) ∧ (AV.int IntKind.i64 0) = (AV.int IntKind.i64 (v2 : Int)) ∧ True) ∧ T1 ∧ T1 ∧ tt ∧ tt) ∧ v2 ≤ 4 ∧ ∀ v3 : Nat, (v3 < v2) → (@Ne.{1} (List UInt8) (@List.getD.{0} (List UInt8) wordsS v3 (@List.nil.{0} UInt8)) t)))) ∧ ∀ v2 : Nat, (v2 ≤ 4 ∧ ∀ v3 : Nat, (v3 < v2) → (@Ne.{1} (List UInt8) (@List.getD.{0} (List UInt8) wordsS v3 (@List.nil.{0} UInt8)) t)) → tt ∧ T1 ∧ (bif (decide ((v2 : Int) < 4)) then (tt ∧ T1 ∧ ((0 : Int) ≤ (v2 : Int) ∧ (v2 : Int) < 4 ∧ (okElem 1 q0 (Int.toNat (v2 : Int)))) ∧ (okRead [Kd.str] (elemAt q0 (Int.toNat (v2 : Int))) 0) ∧ T1 ∧ T1 ∧ tt ∧ T1 ∧ T1 ∧ T1 ∧ (bif (@BEq.beq.{0} (List UInt8) (@List.instBEq.{0} UInt8 (@instBEqOfDecidableEq.{0} UInt8 instDecidableEqUInt8)) (rdStr (elemAt q0 (Int.toNat (v2 : Int))) 0) t) then (tt ∧ T1 ∧ T1 ∧ tt ∧ tt ∧ ((statusN t) = (v2 : Int) ∧ True) ∧ tt) else (tt ∧ T1 ∧ T1 ∧ (@Exists.{1} (loopStatus t).V (fun (v4 : Nat) => ((((AV.str t) = (AV.str t) ∧ (AV.sl q0 Own.no) = (AV.sl q0 Own.no) ∧ (AV.int IntKind.i64 4) = (AV.int IntKind.i64 4) ∧ (AV.int IntKind.i64 (IntKind.wrap IntKind.i64 ((v2 : Int) + (1 : Int)))) = (AV.int IntKind.i64 (v4 : Int)) ∧ True) ∧ T1 ∧ T1 ∧ tt ∧ tt) ∧ (v4 ≤ 4 ∧ ∀ v5 : Nat, (v5 < v4) → (@Ne.{1} (List UInt8) (@List.getD.{0} (List UInt8) wordsS v5 (@List.nil.{0} UInt8)) t)) ∧ (4 - v4) < (4 - v2))))))) else (tt ∧ T1 ∧ tt ∧ tt ∧ ((statusN t) = (@Neg.neg.{0} Int Int.instNegInt (1 : Int)) ∧ True) ∧ tt)))) : inIstatus0 t :=
  Eq.mp (show _ = _ by kernel_rfl) h
theorem vcSplitN0 (s : (List UInt8)) (sep : (List UInt8)) (n : Int) (h : let q0 := (strsAV (splitM s sep (Int.toNat n))); (tt ∧ T1 ∧ tt ∧ T1 ∧ T1 ∧ T1 ∧ (T1 ∧ (List.length s) < 4294967281 ∧ 1 ≤ (List.length sep) ∧ (0 : Int) = 0 ∧ (1 : Int) ≤ n ∧ n ≤ 1000000) ∧ ∀ v0 : (List AV), (v0 = q0) → ∀ v2 : Nat, (v2 = (List.length q0)) → T1 ∧ tt ∧ tt ∧ ((0 < 1 ∧ q0 = v0 ∧ v2 = (List.length v0)) ∧ True) ∧ tt)) : inSplitN0 s sep n :=
  Eq.mp (show _ = _ by kernel_rfl) h
theorem vcIshow0 (x : InstP) (h : let q0 := (Int.toNat x.st); let q1 := (attShowV x.a.s x.a.d0 x.a.d1 x.a.d2 x.a.d3 x.a.d4 x.a.d5 x.a.d6); let q2 := (attShowE x.a.s x.a.d0 x.a.d1 x.a.d2 x.a.d3 x.a.d4 x.a.d5 x.a.d6); let w3_x := (T1 ∧ (List.length x.c.foot) ≤ 900000 ∧ (List.length x.c.path) ≤ 900000); (tt ∧ T1 ∧ T1 ∧ T1 ∧ tt ∧ tt ∧ (T1 ∧ (smallX x)) ∧ T1 ∧ (bif (Bool.not (rightI x)) then (tt ∧ T1 ∧ T1 ∧ tt ∧ tt ∧ ((ishowV x) = [] ∧ (ishowE x) = 10 ∧ True) ∧ tt) else (tt ∧ T1 ∧ tt ∧ (T1 ∧ True) ∧ ∀ v0 : (List UInt8), (v0 = (idShowV x.r x.sl)) → ∀ v2 : Int, (v2 = (idShowE x.r x.sl)) → T1 ∧ T1 ∧ T1 ∧ T1 ∧ T1 ∧ tt ∧ T1 ∧ tt ∧ (T1 ∧ True) ∧ ∀ v4 : (List UInt8), (v4 = (balShowV x.bal)) → ∀ v6 : Int, (v6 = (balShowE x.bal)) → T1 ∧ T1 ∧ T1 ∧ T1 ∧ T1 ∧ tt ∧ T1 ∧ T1 ∧ (T1 ∧ True) ∧ ∀ v8 : (List AV), let w0_8 := [(AV.str v0), (AV.str v4), (AV.str (rdStr (elemAt v8 q0) 0))]; (v8 = (strsAV wordsS)) → T1 ∧ tt ∧ ((0 : Int) ≤ x.st ∧ x.st < ((List.length v8) : Int) ∧ (okElem 1 v8 q0)) ∧ (okRead [Kd.str] (elemAt v8 q0) 0) ∧ T1 ∧ T1 ∧ tt ∧ tt ∧ T1 ∧ tt ∧ T1 ∧ (bif (x.st == 0) then (tt ∧ T1 ∧ (T1 ∧ (isStrs w0_8) ∧ (List.length (Go.Lib.join (strsL w0_8) [(32 : UInt8)])) ≤ 140737488355328 ∧ 3 ≤ 140737488355328) ∧ ∀ v10 : (List UInt8), (v10 = (Go.Lib.join (strsL w0_8) [(32 : UInt8)])) → T1 ∧ T1 ∧ tt ∧ tt ∧ ((ishowV x) = v10 ∧ (ishowE x) = 0 ∧ True) ∧ tt) else (tt ∧ T1 ∧ tt ∧ (T1 ∧ True) ∧ ∀ v10 : (List UInt8), (v10 = (balShowV x.vote)) → ∀ v12 : Int, (v12 = (balShowE x.vote)) → T1 ∧ T1 ∧ T1 ∧ T1 ∧ T1 ∧ tt ∧ T1 ∧ tt ∧ T1 ∧ tt ∧ (bif x.same then (tt ∧ T1 ∧ tt ∧ T1 ∧ tt ∧ (T1 ∧ True) ∧ ∀ v14 : (List UInt8), (v14 = q1) → ∀ v16 : Int, (v16 = q2) → T1 ∧ T1 ∧ T1 ∧ T1 ∧ T1 ∧ tt ∧ T1 ∧ tt ∧ w3_x ∧ ∀ v18 : (List UInt8), let w2_18 := [(AV.str v10), (AV.str [(115 : UInt8), 97, 109, 101]), (AV.str v14), (AV.str v18)]; let w4_18 := (Go.Lib.join (strsL (@catL AV w0_8 w2_18)) [(32 : UInt8)]); (v18 = (showV x.c)) → ∀ v20 : Int, (v20 = (showE x.c)) → T1 ∧ T1 ∧ T1 ∧ T1 ∧ T1 ∧ tt ∧ T1 ∧ T1 ∧ T1 ∧ T1 ∧ T1 ∧ T1 ∧ (@Eq.{1} Nat 3 3 ∧ 112 ≤ 140737488355328 ∧ 7 ≤ 9223372036854775807 ∧ (okWidth 1 w0_8) ∧ (okWidth 1 w2_18)) ∧ (T1 ∧ (isStrs (@catL AV w0_8 w2_18)) ∧ (List.length w4_18) ≤ 140737488355328 ∧ (List.length (@catL AV w0_8 w2_18)) ≤ 140737488355328) ∧ ∀ v22 : (List UInt8), (v22 = w4_18) → T1 ∧ T1 ∧ tt ∧ tt ∧ ((ishowV x) = v22 ∧ (ishowE x) = 0 ∧ True) ∧ tt) else (tt ∧ T1 ∧ tt ∧ (T1 ∧ True) ∧ ∀ v14 : (List UInt8), (v14 = q1) → ∀ v16 : Int, (v16 = q2) → T1 ∧ T1 ∧ T1 ∧ T1 ∧ T1 ∧ tt ∧ T1 ∧ tt ∧ w3_x ∧ ∀ v18 : (List UInt8), let w1_18 := [(AV.str v10), (AV.str [(111 : UInt8), 116, 104, 101, 114]), (AV.str v14), (AV.str v18)]; let w5_18 := (Go.Lib.join (strsL (@catL AV w0_8 w1_18)) [(32 : UInt8)]); (v18 = (showV x.c)) → ∀ v20 : Int, (v20 = (showE x.c)) → T1 ∧ T1 ∧ T1 ∧ T1 ∧ T1 ∧ tt ∧ T1 ∧ T1 ∧ T1 ∧ T1 ∧ T1 ∧ T1 ∧ (@Eq.{1} Nat 3 3 ∧ 112 ≤ 140737488355328 ∧ 7 ≤ 9223372036854775807 ∧ (okWidth 1 w0_8) ∧ (okWidth 1 w1_18)) ∧ (T1 ∧ (isStrs (@catL AV w0_8 w1_18)) ∧ (List.length w5_18) ≤ 140737488355328 ∧ (List.length (@catL AV w0_8 w1_18)) ≤ 140737488355328) ∧ ∀ v22 : (List UInt8), (v22 = w5_18) → T1 ∧ T1 ∧ tt ∧ tt ∧ ((ishowV x) = v22 ∧ (ishowE x) = 0 ∧ True) ∧ tt)))))))) : inIshow0 x :=
  Eq.mp (show _ = _ by kernel_rfl) h
end Go.Proofs.YtpomloangafbkaaGreatDoor
/- States' texts: the conditions hold. -/
namespace Go.Proofs.YtpomloangafbkaaGreatDoor
set_option linter.unusedVariables false
set_option linter.unusedSimpArgs false
open Go.RowKit
set_option maxRecDepth 100000
theorem okShort70 : OkShort70 := by
  intro v hq
  refine vcShort70 v ?_
  simp only [true_and, and_true, forall_eq, eq_self]
  obtain ⟨h0, h1⟩ := hq
  refine cond_prop (fun h => by have := of_decide_eq_true h; omega) fun h => ?_
  have w : IntKind.u8.wrap v = v := by rw [IntKind.wrap_u8]; omega
  rw [w]
  have eb : ([AV.int .u8 v] : List AV) = bytesAV (encByte v) := bytes_one h0 (by omega)
  rw [eb]
  exact ⟨⟨by omega, by omega, okWidth_bytes _⟩, by omega, rfl⟩
theorem okOutByte1 : OkOutByte1 := by
  intro xs p q b hq hb
  refine vcOutByte1 xs p q b ?_
  simp only [true_and, and_true, forall_eq, eq_self]
  obtain ⟨hq, hl⟩ := hq
  obtain ⟨l, rfl⟩ := hq.get
  rw [byte_int hb.1 hb.2]
  simp only [bytesL_bytesAV, length_bytesAV, catL_cons, catL_length] at hl ⊢
  exact ⟨⟨by omega, by omega, okWidth_bytes l, okWidth_cons rfl (okWidth_nil 1)⟩, by omega, rfl, by simp⟩
theorem okOutShort70 : OkOutShort70 := by
  intro xs p q v hq
  refine vcOutShort70 xs p q v ?_
  simp only [true_and, and_true, forall_eq, eq_self]
  obtain ⟨hq, hl, h0, h1⟩ := hq
  obtain ⟨l, rfl⟩ := hq.get
  have e : catL (bytesAV l) (bytesAV (encByte v)) = bytesAV (catL l (encByte v)) := by simp [catL, bytesAV]
  have e1 : (encByte v).length = 1 := rfl
  simp only [bytesL_bytesAV, length_bytesAV, e, catL_length, e1] at hl ⊢
  exact ⟨⟨h0, h1⟩, ⟨by omega, by omega, okWidth_bytes l, okWidth_bytes _⟩, by omega, trivial, trivial⟩
theorem okOutBytes1 : OkOutBytes1 := by
  intro xs p q hq
  refine vcOutBytes1 xs p q ?_
  simp only [true_and, and_true, forall_eq, eq_self]
  exact ⟨hq, by omega⟩
theorem encByte_wrap {r : Int} (h0 : 0 ≤ r) (h1 : r < 128) : IntKind.u8.wrap r = r := by rw [IntKind.wrap_u8]; omega
theorem okIdPut70 : OkIdPut70 := by
  intro xs p q r n hq
  refine vcIdPut70 xs p q r n ?_
  obtain ⟨hq, hl, hr, hn⟩ := hq
  obtain ⟨l, rfl⟩ := hq.get
  rw [length_bytesAV] at hl
  rw [encByte_wrap hr.1 hr.2, wrap_u64 hn.1 (by omega)]
  have e1 : ∀ v, (encByte v).length = 1 := fun v => rfl
  simp only [true_and, and_true, forall_eq, eq_self, bytesL_bytesAV, isBytes_bytesAV, length_bytesAV, catL_length, e1]
  and_intros <;> first | omega | trivial
theorem okBalPut70 : OkBalPut70 := by
  intro xs p q b hq
  refine vcBalPut70 xs p q b ?_
  obtain ⟨hq, hl, hr⟩ := hq
  rw [wrap_u64 hr.1 (by omega)]
  simp only [true_and, and_true, forall_eq, eq_self]
  exact ⟨⟨hq, by omega, hr.1, hr.2⟩, by omega⟩
theorem okWords100 : OkWords100 := by
  intro hq
  refine vcWords100 ?_
  simp only [true_and, and_true, eq_self]
  rfl
theorem okSplitN0 : OkSplitN0 := by
  intro s sep n hq
  refine vcSplitN0 s sep n ?_
  obtain ⟨h1, h2, h3, h4⟩ := hq
  simp only [true_and, and_true, forall_eq, eq_self]
  exact ⟨⟨h1, h2, h3, h4⟩, by omega⟩
theorem status_at (t : List UInt8) (i : Nat) (h : i < 4) (g : ∀ j, j < i → wordsS.getD j [] ≠ t) (e : wordsS.getD i [] = t) : statusN t = (i : Int) := by
  unfold statusN
  obtain rfl | rfl | rfl | rfl : i = 0 ∨ i = 1 ∨ i = 2 ∨ i = 3 := by omega
  · exact if_pos e
  · exact (if_neg (g 0 (by omega))).trans (if_pos e)
  · exact (if_neg (g 0 (by omega))).trans ((if_neg (g 1 (by omega))).trans (if_pos e))
  · exact (if_neg (g 0 (by omega))).trans ((if_neg (g 1 (by omega))).trans ((if_neg (g 2 (by omega))).trans (if_pos e)))
theorem status_no (t : List UInt8) (g : ∀ j, j < 4 → wordsS.getD j [] ≠ t) : statusN t = -1 := by
  unfold statusN
  exact (if_neg (g 0 (by omega))).trans ((if_neg (g 1 (by omega))).trans ((if_neg (g 2 (by omega))).trans (if_neg (g 3 (by omega)))))
theorem okIstatus0 : OkIstatus0 := by
  intro t hq
  refine vcIstatus0 t ?_
  simp only [true_and, and_true, forall_eq, eq_self]
  refine ⟨⟨(0 : Nat), ⟨rfl, rfl⟩, by omega, fun j h => by omega⟩, ?_⟩
  rintro i ⟨hi, hg⟩
  refine cond_prop (fun g => ?_) fun g => ?_
  · have hi' : i < wordsS.length := by show i < 4; have := of_decide_eq_true g; omega
    have hi4 : i < 4 := hi'
    have eI : (Int.toNat (i : Int)) = i := by omega
    rw [eI, rdStr_strs hi', wrap_i64 (n := (i : Int) + 1) (by omega) (by omega)]
    refine ⟨⟨by omega, by omega, okElem_strs hi'⟩, okRead_strs hi', cond_prop (fun g2 => ?_) fun g2 => ?_⟩
    · exact status_at t i hi4 hg (beq_iff_eq.1 g2)
    · refine ⟨(i + 1 : Nat), rfl, ⟨by omega, fun j hj => ?_⟩, by omega⟩
      by_cases h : j = i
      · subst h
        intro e
        rw [e] at g2; simp at g2
      · exact hg j (by omega)
  · have hi' : i = 4 := by have := of_decide_eq_false g; omega
    subst hi'
    exact status_no t hg
theorem eqC_iff {c d : CmdP} : eqC c d = true ↔ c = d := by
  obtain ⟨a1, a2, a3, a4, a5, a6, a7, a8⟩ := c
  obtain ⟨b1, b2, b3, b4, b5, b6, b7, b8⟩ := d
  simp [eqC, cmdL, sameCells, AV.same]
theorem rightI_parts {x : InstP} (h : rightI x = true) : rightId x.r x.sl = true ∧ balOK x.bal = true ∧ balOK x.vote = true ∧ (x.st = 0 → x = ⟨x.r, x.sl, 0, x.bal, 0, false, zC, zA0⟩) ∧ (x.st ≠ 0 → 1 ≤ x.st ∧ x.st ≤ 3 ∧ rightC x.c = true ∧ rightA x.a.s x.a.d0 x.a.d1 x.a.d2 x.a.d3 x.a.d4 x.a.d5 x.a.d6 = true) := by
  rw [rightI_steps] at h
  simp only [Bool.and_eq_true, Bool.not_eq_true', decide_eq_false_iff_not] at h
  obtain ⟨a1, a2, a3, a4, a5, a6, a7⟩ := h
  refine ⟨a1, a2, a3, fun h0 => ?_, fun h0 => ?_⟩
  · rw [if_pos h0] at a7
    simp only [Bool.and_eq_true, beq_iff_eq, Bool.not_eq_true'] at a7
    obtain ⟨b1, b2, b3, b4⟩ := a7
    have c1 := eqC_iff.1 b3
    have c2 : x.a = zA0 := by
      obtain ⟨_, _, _, _, _, _, _, ⟨e1, e2, e3, e4, e5, e6, e7, e8⟩⟩ := x
      simp [eqA, attL, zA0, sameCells, AV.same] at b4 ⊢
      exact b4
    obtain ⟨r, sl, st, bal, vote, same, c, a⟩ := x
    simp only at *
    subst h0 b1 b2 c1 c2
    rfl
  · rw [if_neg h0] at a7
    simp only [Bool.and_eq_true] at a7
    exact ⟨by omega, by omega, a7.2.1, a7.2.2.1⟩
theorem rightI_st {x : InstP} (h : rightI x = true) : 0 ≤ x.st ∧ x.st ≤ 3 := by
  obtain ⟨_, _, _, f4, f5⟩ := rightI_parts h
  by_cases h0 : x.st = 0
  · omega
  · have := f5 h0; omega
theorem parts_no {x : InstP} (h : x.st = 0) : partsI x = [idShowV x.r x.sl, balShowV x.bal, wordN x.st] := by unfold partsI restI; rw [if_pos h]
theorem parts_yes {x : InstP} (h : x.st ≠ 0) : partsI x = [idShowV x.r x.sl, balShowV x.bal, wordN x.st, balShowV x.vote, howN x.same, attV x.a, showV x.c] := by unfold partsI restI; rw [if_neg h]
theorem numOK_of {x : InstP} (h : rangeI x) : NumOK x.c := ⟨h.2.2.1, h.2.2.2.1, h.2.2.2.2⟩
theorem wordN_len (k : Int) : (wordN k).length ≤ 9 := by
  unfold wordN
  generalize k.toNat = n
  match n with
  | 0 => decide
  | 1 => decide
  | 2 => decide
  | 3 => decide
  | n + 4 => simp [wordsS]
theorem show_id {x : InstP} (h : rightI x = true) : idShowV x.r x.sl = pair6 x.r x.sl ∧ idShowE x.r x.sl = 0 ∧ (idShowV x.r x.sl).length ≤ 100 := by
  obtain ⟨f1, _⟩ := rightI_parts h
  obtain ⟨r0, r1, r2, r3⟩ := rightId_facts f1
  have e : idShowV x.r x.sl = pairL x.r x.sl := by unfold idShowV; rw [if_pos f1]
  rw [e]
  exact ⟨pair_dig r0 r2, by simp [idShowE, f1], pair_len r0 r2 (by omega) (by omega)⟩
theorem show_bal {b : Int} (h0 : 0 ≤ b) (h1 : b ≤ 4294967295) (h : balOK b = true) : balShowV b = balT b ∧ (balShowV b).length ≤ 100 := by
  obtain ⟨f1, f2, f3, f4⟩ := balOK_facts h h0
  have e : balShowV b = pairL (b / 8) (b % 8) := by unfold balShowV; rw [if_pos h]
  rw [e]
  exact ⟨pair_dig f1 f3, pair_len f1 f3 (by omega) (by omega)⟩
theorem parts_len {x : InstP} (h : rightI x = true) (hb : rangeI x) : ∀ y ∈ partsI x, y.length ≤ 1000 := by
  obtain ⟨f1, f2, f3, f4, f5⟩ := rightI_parts h
  have i1 := (show_id h).2.2
  have i2 := (show_bal hb.1.1 hb.1.2 f2).2
  have i3 := (show_bal hb.2.1.1 hb.2.1.2 f3).2
  have i4 := wordN_len x.st
  by_cases h0 : x.st = 0
  · rw [parts_no h0]
    intro y hy
    simp only [List.mem_cons, List.not_mem_nil, or_false] at hy
    rcases hy with rfl | rfl | rfl <;> omega
  · rw [parts_yes h0]
    have i5 : (howN x.same).length ≤ 5 := by cases x.same <;> decide
    have i6 : (attV x.a).length ≤ 1000 := (read_show (f5 h0).2.2.2).2.2.2.2.2.2.2.2.2
    have i7 := show_short (numOK_of hb) (f5 h0).2.2.1
    intro y hy
    simp only [List.mem_cons, List.not_mem_nil, or_false] at hy
    rcases hy with rfl | rfl | rfl | rfl | rfl | rfl | rfl <;> omega
theorem parts_join {x : InstP} (h : rightI x = true) (hb : rangeI x) : (Lib.join (partsI x) [32]).length ≤ 7100 := by
  have h1 := join_lens 32 1000 (idShowV x.r x.sl) (balShowV x.bal :: wordN x.st :: restI x) (parts_len h hb)
  have h2 : (restI x).length ≤ 4 := by unfold restI; split <;> simp
  have h3 : (1000 + 1) * ((balShowV x.bal :: wordN x.st :: restI x).length + 1) ≤ 1001 * 7 := Nat.mul_le_mul_left _ (by simp; omega)
  show (Lib.join (idShowV x.r x.sl :: balShowV x.bal :: wordN x.st :: restI x) [32]).length ≤ 7100
  omega
theorem okIshow0 : OkIshow0 := by
  intro x hq hb
  refine vcIshow0 x ?_
  simp only [true_and, and_true, forall_eq, eq_self]
  refine ⟨hq, cond_prop (fun h => ?_) fun h => ?_⟩
  · have h' : rightI x = false := by simpa using h
    simp [ishowV, ishowE, h']
  · have h' : rightI x = true := by simpa using h
    have hst := rightI_st h'
    have hi : x.st.toNat < wordsS.length := by show _ < 4; omega
    have hj := parts_join h' hb
    have e1 : ishowV x = Lib.join (partsI x) [32] := by unfold ishowV; rw [if_pos h']
    have e2 : ishowE x = 0 := by unfold ishowE; rw [if_pos h']
    have ew : wordsS.getD x.st.toNat [] = wordN x.st := rfl
    have e4 : wordsS.length = 4 := rfl
    rw [rdStr_strs hi, ew, length_strsAV, e1, e2, e4]
    refine ⟨⟨by omega, by omega, okElem_strs hi⟩, okRead_strs hi, cond_prop (fun g => ?_) fun g => ?_⟩
    · have g' : x.st = 0 := by simpa using g
      rw [parts_no g'] at hj ⊢
      have e3 : ([AV.str (idShowV x.r x.sl), AV.str (balShowV x.bal), AV.str (wordN x.st)] : List AV) = strsAV [idShowV x.r x.sl, balShowV x.bal, wordN x.st] := rfl
      rw [e3, strsL_strsAV]
      exact ⟨⟨isStrs_strsAV _, by omega, by omega⟩, rfl, rfl⟩
    · have g' : x.st ≠ 0 := by simpa using g
      rw [parts_yes g'] at hj ⊢
      have at' : attShowV x.a.s x.a.d0 x.a.d1 x.a.d2 x.a.d3 x.a.d4 x.a.d5 x.a.d6 = attV x.a := rfl
      rw [at']
      refine cond_prop (fun hs => ?_) fun hs => ?_
      · have e3 : catL ([AV.str (idShowV x.r x.sl), AV.str (balShowV x.bal), AV.str (wordN x.st)] : List AV) [AV.str (balShowV x.vote), AV.str [115, 97, 109, 101], AV.str (attV x.a), AV.str (showV x.c)] = strsAV [idShowV x.r x.sl, balShowV x.bal, wordN x.st, balShowV x.vote, howN x.same, attV x.a, showV x.c] := by rw [hs]; rfl
        rw [e3, strsL_strsAV]
        exact ⟨hq, ⟨by omega, by omega, okWidth_strs [_, _, _], okWidth_strs [_, _, _, _]⟩, ⟨isStrs_strsAV _, by omega, by rw [length_strsAV]; simp⟩, rfl, rfl⟩
      · have e3 : catL ([AV.str (idShowV x.r x.sl), AV.str (balShowV x.bal), AV.str (wordN x.st)] : List AV) [AV.str (balShowV x.vote), AV.str [111, 116, 104, 101, 114], AV.str (attV x.a), AV.str (showV x.c)] = strsAV [idShowV x.r x.sl, balShowV x.bal, wordN x.st, balShowV x.vote, howN x.same, attV x.a, showV x.c] := by rw [hs]; rfl
        rw [e3, strsL_strsAV]
        exact ⟨hq, ⟨by omega, by omega, okWidth_strs [_, _, _], okWidth_strs [_, _, _, _]⟩, ⟨isStrs_strsAV _, by omega, by rw [length_strsAV]; simp⟩, rfl, rfl⟩
end Go.Proofs.YtpomloangafbkaaGreatDoor
/- The contracts are met. -/
namespace Go.Proofs.YtpomloangafbkaaGreatDoor
set_option linter.unusedVariables false
set_option linter.unusedSimpArgs false
open Go.RowKit
theorem sndShort7 : Sound Tryz.prog (lookΓ gamShort7) := sound_of _ fun p hp => by
  simp [gamShort7] at hp
set_option maxHeartbeats 4000000 in
theorem meetsShort7 : Meets Tryz.prog 142 short7F := by
  refine meets_of_awp (Γ := lookΓ gamShort7) (L := fun args => match args with | [.val (.int .u64 v)] => lpShort70 v | _ => fun _ => none) sndShort7 mixedOrders Tryz.func142 rfl Tryz.call142 ?_
  intro args q r hF hq ho
  unfold short7F at hF
  split at hF
  · cases hF
    exact ⟨by simp only [List.length_cons, List.length_nil]; decide, okShort70 _ hq⟩
  · cases hF
theorem sndOutByte : Sound Tryz.prog (lookΓ gamOutByte) := sound_of _ fun p hp => by
  simp [gamOutByte] at hp
set_option maxHeartbeats 4000000 in
theorem meetsOutByte : Meets Tryz.prog 80 outByteF := by
  refine meets_of_awp (Γ := lookΓ gamOutByte) (L := fun _ _ => none) sndOutByte mixedOrders Tryz.func80 rfl Tryz.call80 ?_
  intro args q r hF hq ho
  unfold outByteF at hF
  split at hF
  · split at hF
    · rename_i hte
      subst hte
      cases hF
      exact ⟨by simp only [List.length_cons, List.length_nil]; decide, okOutByte1 _ _ _ _ hq (okay_u8 (argI 1 ho rfl rfl))⟩
    · cases hF
  · cases hF
theorem sndOutShort7 : Sound Tryz.prog (lookΓ gamOutShort7) := sound_of _ fun p hp => by
  simp only [gamOutShort7, List.mem_cons, List.not_mem_nil, or_false] at hp
  subst hp
  exact meetsShort7.orNil
set_option maxHeartbeats 4000000 in
theorem meetsOutShort7 : Meets Tryz.prog 109 outShort7F := by
  refine meets_of_awp (Γ := lookΓ gamOutShort7) (L := fun _ _ => none) sndOutShort7 mixedOrders Tryz.func109 rfl Tryz.call109 ?_
  intro args q r hF hq ho
  unfold outShort7F at hF
  split at hF
  · split at hF
    · rename_i hte
      subst hte
      cases hF
      exact ⟨by simp only [List.length_cons, List.length_nil]; decide, okOutShort70 _ _ _ _ hq⟩
    · cases hF
  · cases hF
theorem sndOutBytes : Sound Tryz.prog (lookΓ gamOutBytes) := sound_of _ fun p hp => by
  simp only [gamOutBytes, List.mem_cons, List.not_mem_nil, or_false] at hp
  subst hp
  exact meetsClone.orNil
set_option maxHeartbeats 4000000 in
theorem meetsOutBytes : Meets Tryz.prog 57 outBytesF := by
  refine meets_of_awp (Γ := lookΓ gamOutBytes) (L := fun _ _ => none) sndOutBytes mixedOrders Tryz.func57 rfl Tryz.call57 ?_
  intro args q r hF hq ho
  unfold outBytesF at hF
  split at hF
  · split at hF
    · rename_i hte
      subst hte
      cases hF
      exact ⟨by simp only [List.length_cons, List.length_nil]; decide, okOutBytes1 _ _ _ hq⟩
    · cases hF
  · cases hF
theorem sndIdPut7 : Sound Tryz.prog (lookΓ gamIdPut7) := sound_of _ fun p hp => by
  simp only [gamIdPut7, List.mem_cons, List.not_mem_nil, or_false] at hp
  rcases hp with rfl | rfl
  · exact meetsOutByte.orNil
  · exact meetsOutShort7.orNil
set_option maxHeartbeats 4000000 in
theorem meetsIdPut7 : Meets Tryz.prog 81 idPut7F := by
  refine meets_of_awp (Γ := lookΓ gamIdPut7) (L := fun _ _ => none) sndIdPut7 mixedOrders Tryz.func81 rfl Tryz.call81 ?_
  intro args q r hF hq ho
  unfold idPut7F at hF
  split at hF
  · split at hF
    · rename_i hte
      subst hte
      cases hF
      exact ⟨by simp only [List.length_cons, List.length_nil]; decide, okIdPut70 _ _ _ _ _ hq⟩
    · cases hF
  · cases hF
theorem sndBalPut7 : Sound Tryz.prog (lookΓ gamBalPut7) := sound_of _ fun p hp => by
  simp only [gamBalPut7, List.mem_cons, List.not_mem_nil, or_false] at hp
  subst hp
  exact meetsOutShort7.orNil
set_option maxHeartbeats 4000000 in
theorem meetsBalPut7 : Meets Tryz.prog 82 balPut7F := by
  refine meets_of_awp (Γ := lookΓ gamBalPut7) (L := fun _ _ => none) sndBalPut7 mixedOrders Tryz.func82 rfl Tryz.call82 ?_
  intro args q r hF hq ho
  unfold balPut7F at hF
  split at hF
  · split at hF
    · rename_i hte
      subst hte
      cases hF
      exact ⟨by simp only [List.length_cons, List.length_nil]; decide, okBalPut70 _ _ _ _ hq⟩
    · cases hF
  · cases hF
theorem sndWords10 : Sound Tryz.prog (lookΓ gamWords10) := sound_of _ fun p hp => by
  simp [gamWords10] at hp
set_option maxHeartbeats 4000000 in
theorem meetsWords10 : Meets Tryz.prog 27 words10F := by
  refine meets_of_awp (Γ := lookΓ gamWords10) (L := fun _ _ => none) sndWords10 mixedOrders Tryz.func27 rfl Tryz.call27 ?_
  intro args q r hF hq ho
  unfold words10F at hF
  split at hF
  · cases hF
    exact ⟨by simp only [List.length_cons, List.length_nil]; decide, okWords100 hq⟩
  · cases hF
theorem sndIstatus : Sound Tryz.prog (lookΓ gamIstatus) := sound_of _ fun p hp => by
  simp only [gamIstatus, List.mem_cons, List.not_mem_nil, or_false] at hp
  subst hp
  exact meetsWords10.orNil
set_option maxHeartbeats 4000000 in
theorem meetsIstatus : Meets Tryz.prog 42 istatusF := by
  refine meets_of_awp (Γ := lookΓ gamIstatus) (L := fun args => match args with | [.val (.str t)] => lpIstatus0 t | _ => fun _ => none) sndIstatus mixedOrders Tryz.func42 rfl Tryz.call42 ?_
  intro args q r hF hq ho
  unfold istatusF at hF
  split at hF
  · cases hF
    exact ⟨by simp only [List.length_cons, List.length_nil]; decide, okIstatus0 _ hq⟩
  · cases hF
theorem sndSplitN : Sound Tryz.prog (lookΓ gamSplitN) := sound_of _ fun p hp => by
  simp only [gamSplitN, List.mem_cons, List.not_mem_nil, or_false] at hp
  subst hp
  exact meetsGenS.orNil
set_option maxHeartbeats 4000000 in
theorem meetsSplitN : Meets Tryz.prog 39 splitNF := by
  refine meets_of_awp (Γ := lookΓ gamSplitN) (L := fun _ _ => none) sndSplitN mixedOrders Tryz.func39 rfl Tryz.call39 ?_
  intro args q r hF hq ho
  unfold splitNF at hF
  split at hF
  · cases hF
    exact ⟨by simp only [List.length_cons, List.length_nil]; decide, okSplitN0 _ _ _ hq⟩
  · cases hF
theorem sndIshow : Sound Tryz.prog (lookΓ gamIshow) := sound_of _ fun p hp => by
  simp only [gamIshow, List.mem_cons, List.not_mem_nil, or_false] at hp
  rcases hp with rfl | rfl | rfl | rfl | rfl | rfl | rfl
  · exact meetsIright.orNil
  · exact meetsIdShow.orNil
  · exact meetsBalShow.orNil
  · exact meetsWords10.orNil
  · exact meetsAttShow.orNil
  · exact meetsCshow.orNil
  · exact meetsJoinS.orNil
set_option maxHeartbeats 4000000 in
theorem meetsIshow : Meets Tryz.prog 9 ishowF := by
  refine meets_of_awp (Γ := lookΓ gamIshow) (L := fun _ _ => none) sndIshow mixedOrders Tryz.func9 rfl Tryz.call9 ?_
  intro args q r hF hq ho
  unfold ishowF at hF
  split at hF
  · split at hF
    · rename_i x hzx
      obtain rfl := instOf_some hzx
      cases hF
      exact ⟨by simp only [List.length_cons, List.length_nil]; decide, okIshow0 _ hq (⟨okay_u32 (argA 0 3 ho rfl rfl), okay_u32 (argA 0 4 ho rfl rfl), okay_u64 (argA 0 7 ho rfl rfl), okay_u64 (argA 0 9 ho rfl rfl), okay_u64 (argA 0 12 ho rfl rfl)⟩)⟩
    · cases hF
  · cases hF
end Go.Proofs.YtpomloangafbkaaGreatDoor
