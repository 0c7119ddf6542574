/- Contracts by content, their conditions, and that they are met: CmdS. -/
import Derived.Test.YtabeffcdklcdeaaDoorLaxCmdC
import Derived.Test.YtabeffcdklcdeaaDoorLaxCloneS
/- Contracts by content, and the conditions that their code must meet. -/
namespace Go.Proofs.YtabeffcdklcdeaaDoor
set_option linter.unusedVariables false
set_option linter.unusedSimpArgs false
open Go.RowKit
theorem Meets.weak {P : Program} {f : Nat} {F F' : Con} (m : Meets P f F) (h : ∀ args q r, F' args = some (q, r) → q → ∃ q0, F args = some (q0, r) ∧ q0) : Meets P f F' := by
  refine ⟨m.enters, fun args us w GE own d site q r hF hq hc hsite hs => ?_⟩
  obtain ⟨q0, e, h0⟩ := h args q r hF hq
  exact m.calls args us w GE own d site q0 r e h0 hc hsite hs
def crightTF : Con
  | [.val (.agg [.int .i64 k, .int .u64 num, .str foot, .int .u64 rq, .str path, .int .i64 mode, .int .u64 n, .int .i64 time])] => some ((foot.length ≤ 900000 ∧ path.length ≤ 900000) ∧ rightC ⟨k, num, foot, rq, path, mode, n, time⟩ = true, ⟨.bool true, none, none⟩)
  | _ => none
theorem meetsCrightT : Meets Tryd.prog 50 crightTF := meetsCright.weak fun args q r hF hq => by
  unfold crightTF at hF
  split at hF
  · rename_i k num foot rq path mode n time
    cases hF
    exact ⟨_, congrArg (fun b => some ((foot.length ≤ 900000 ∧ path.length ≤ 900000), (⟨.bool b, none, none⟩ : Res))) hq.2, hq.1⟩
  · cases hF
def encByte (b : Int) : List UInt8 := [UInt8.ofNat b.toNat]
def smallC (c : CmdP) : Prop := c.foot.length ≤ 900000 ∧ c.path.length ≤ 900000
abbrev maxC (c : CmdP) : Prop := c.foot.length ≤ 9223372036854775807 ∧ c.path.length ≤ 9223372036854775807
def smallCB (c : CmdP) : Bool := decide (c.path.length < 200) && decide (c.foot.length < 200)
def outByteF : Con
  | [.box [.sl xs (.row p q te0)], .val (.int .u8 b)] => (if te0 = 5 then some (isBytes xs ∧ xs.length + 1 ≤ 140737488355328, ⟨.ptr 0 0, (some [.sl (bytesAV (catL (bytesL xs) (encByte b))) (.row 0 0 5)]), none⟩) else none)
  | _ => none
def gamOutByte : List (Nat × Con) := []
def lpOutByte1 (xs : List AV) (p q : Nat) (b : Int) : Nat → Option LoopPlan := fun _ => none
def inOutByte1 (xs : List AV) (p q : Nat) (b : Int) : Prop := awp [0] (lpOutByte1 xs p q b) (lookΓ gamOutByte) Tryd.prog Tryd.f115.ntmps 0 (Tryd.f115.body.getD .skip) (entrySt [.box [.sl xs (.row p q 5)], .val (.int .u8 b)]) (exitQ Tryd.prog Tryd.f115.results.toList [0] ⟨.ptr 0 0, (some [.sl (bytesAV (catL (bytesL xs) (encByte b))) (.row 0 0 5)]), none⟩)
def OkOutByte1 : Prop := ∀ (xs : List AV) (p q : Nat) (b : Int), isBytes xs ∧ xs.length + 1 ≤ 140737488355328 → (0 ≤ b ∧ b ≤ 255) → inOutByte1 xs p q b
def outBytesF : Con
  | [.box [.sl xs (.row p q te0)]] => (if te0 = 5 then some (isBytes xs ∧ xs.length ≤ 140737488355328, ⟨.sl xs .no, (some [.sl xs (.row 0 0 5)]), none⟩) else none)
  | _ => none
def gamOutBytes : List (Nat × Con) := [(119, cloneF.orNil)]
def lpOutBytes1 (xs : List AV) (p q : Nat) : Nat → Option LoopPlan := fun _ => none
def inOutBytes1 (xs : List AV) (p q : Nat) : Prop := awp [0] (lpOutBytes1 xs p q) (lookΓ gamOutBytes) Tryd.prog Tryd.f91.ntmps 0 (Tryd.f91.body.getD .skip) (entrySt [.box [.sl xs (.row p q 5)]]) (exitQ Tryd.prog Tryd.f91.results.toList [0] ⟨.sl xs .no, (some [.sl xs (.row 0 0 5)]), none⟩)
def OkOutBytes1 : Prop := ∀ (xs : List AV) (p q : Nat), isBytes xs ∧ xs.length ≤ 140737488355328 → inOutBytes1 xs p q
def cputZF : Con
  | [.val (.agg [.int .i64 k, .int .u64 num, .str foot, .int .u64 rq, .str path, .int .i64 mode, .int .u64 n, .int .i64 time]), .box [.sl xs (.row p q te0)]] => (if te0 = 5 then some (k = 0 ∧ rightC ⟨k, num, foot, rq, path, mode, n, time⟩ = true ∧ (foot.length ≤ 900000 ∧ path.length ≤ 900000) ∧ isBytes xs ∧ xs.length + 2000000 ≤ 140737488355328, ⟨.tup [], (some [.sl (bytesAV (catL (bytesL xs) (encByte 0))) (.row 0 0 5)]), none⟩) else none)
  | _ => none
def gamCputZ : List (Nat × Con) := [(50, crightTF.orNil), (70, hadF.orNil), (115, outByteF.orNil)]
def lpCputZ0 (k num : Int) (foot : List UInt8) (rq : Int) (path : List UInt8) (mode n time : Int) (xs : List AV) (p q : Nat) : Nat → Option LoopPlan := fun _ => none
def inCputZ0 (k num : Int) (foot : List UInt8) (rq : Int) (path : List UInt8) (mode n time : Int) (xs : List AV) (p q : Nat) : Prop := awp [1] (lpCputZ0 k num foot rq path mode n time xs p q) (lookΓ gamCputZ) Tryd.prog Tryd.f90.ntmps 0 (Tryd.f90.body.getD .skip) (entrySt [.val (.agg [.int .i64 k, .int .u64 num, .str foot, .int .u64 rq, .str path, .int .i64 mode, .int .u64 n, .int .i64 time]), .box [.sl xs (.row p q 5)]]) (exitQ Tryd.prog Tryd.f90.results.toList [1] ⟨.tup [], (some [.sl (bytesAV (catL (bytesL xs) (encByte 0))) (.row 0 0 5)]), none⟩)
def OkCputZ0 : Prop := ∀ (k num : Int) (foot : List UInt8) (rq : Int) (path : List UInt8) (mode n time : Int) (xs : List AV) (p q : Nat), k = 0 ∧ rightC ⟨k, num, foot, rq, path, mode, n, time⟩ = true ∧ (foot.length ≤ 900000 ∧ path.length ≤ 900000) ∧ isBytes xs ∧ xs.length + 2000000 ≤ 140737488355328 → inCputZ0 k num foot rq path mode n time xs p q
def cbytesZF : Con
  | [.val (.agg [.int .i64 k, .int .u64 num, .str foot, .int .u64 rq, .str path, .int .i64 mode, .int .u64 n, .int .i64 time])] => (some (k = 0 ∧ rightC ⟨k, num, foot, rq, path, mode, n, time⟩ = true ∧ (foot.length ≤ 900000 ∧ path.length ≤ 900000), ⟨.sl (bytesAV (encByte 0)) .no, none, none⟩))
  | _ => none
def gamCbytesZ : List (Nat × Con) := [(90, cputZF.orNil), (91, outBytesF.orNil)]
def lpCbytesZ0 (k num : Int) (foot : List UInt8) (rq : Int) (path : List UInt8) (mode n time : Int) : Nat → Option LoopPlan := fun _ => none
def inCbytesZ0 (k num : Int) (foot : List UInt8) (rq : Int) (path : List UInt8) (mode n time : Int) : Prop := awp [] (lpCbytesZ0 k num foot rq path mode n time) (lookΓ gamCbytesZ) Tryd.prog Tryd.f69.ntmps 0 (Tryd.f69.body.getD .skip) (entrySt [.val (.agg [.int .i64 k, .int .u64 num, .str foot, .int .u64 rq, .str path, .int .i64 mode, .int .u64 n, .int .i64 time])]) (exitQ Tryd.prog Tryd.f69.results.toList [] ⟨.sl (bytesAV (encByte 0)) .no, none, none⟩)
def OkCbytesZ0 : Prop := ∀ (k num : Int) (foot : List UInt8) (rq : Int) (path : List UInt8) (mode n time : Int), k = 0 ∧ rightC ⟨k, num, foot, rq, path, mode, n, time⟩ = true ∧ (foot.length ≤ 900000 ∧ path.length ≤ 900000) → inCbytesZ0 k num foot rq path mode n time
def cfootF : Con
  | [.val (.agg zcc)] => (match cmdOf zcc with | some c => some (smallC c, ⟨.tup [.str (footV c), .bool (footOK c)], none, none⟩) | _ => none)
  | _ => none
def gamCfoot : List (Nat × Con) := [(70, hadF.orNil), (50, crightF.orNil)]
def lpCfoot0 (c : CmdP) : Nat → Option LoopPlan := fun _ => none
def inCfoot0 (c : CmdP) : Prop := awp [] (lpCfoot0 c) (lookΓ gamCfoot) Tryd.prog Tryd.f49.ntmps 0 (Tryd.f49.body.getD .skip) (entrySt [.val (.agg (cmdL c))]) (exitQ Tryd.prog Tryd.f49.results.toList [] ⟨.tup [.str (footV c), .bool (footOK c)], none, none⟩)
def OkCfoot0 : Prop := ∀ (c : CmdP), smallC c → inCfoot0 c
def cclientF : Con
  | [.val (.agg zcc)] => (match cmdOf zcc with | some c => some (smallC c, ⟨.bool (rightC c && decide (0 < c.rq)), none, none⟩) | _ => none)
  | _ => none
def gamCclient : List (Nat × Con) := [(50, crightF.orNil)]
def lpCclient0 (c : CmdP) : Nat → Option LoopPlan := fun _ => none
def inCclient0 (c : CmdP) : Prop := awp [] (lpCclient0 c) (lookΓ gamCclient) Tryd.prog Tryd.f51.ntmps 0 (Tryd.f51.body.getD .skip) (entrySt [.val (.agg (cmdL c))]) (exitQ Tryd.prog Tryd.f51.results.toList [] ⟨.bool (rightC c && decide (0 < c.rq)), none, none⟩)
def OkCclient0 : Prop := ∀ (c : CmdP), smallC c → inCclient0 c
def rfootF : Con
  | [.val (.agg zcc)] => (match cmdOf zcc with | some c => some (smallC c, ⟨.tup [.str (footV c), .bool (footOK c)], none, none⟩) | _ => none)
  | _ => none
def gamRfoot : List (Nat × Con) := [(67, has07F.orNil), (40, rrightF.orNil)]
def lpRfoot0 (c : CmdP) : Nat → Option LoopPlan := fun _ => none
def inRfoot0 (c : CmdP) : Prop := awp [] (lpRfoot0 c) (lookΓ gamRfoot) Tryd.prog Tryd.f41.ntmps 0 (Tryd.f41.body.getD .skip) (entrySt [.val (.agg (cmdL c))]) (exitQ Tryd.prog Tryd.f41.results.toList [] ⟨.tup [.str (footV c), .bool (footOK c)], none, none⟩)
def OkRfoot0 : Prop := ∀ (c : CmdP), smallC c → inRfoot0 c
def anchor07F : Con
  | [] => (some (True, ⟨.bool true, none, none⟩))
  | _ => none
def gamAnchor07 : List (Nat × Con) := [(69, cbytesZF.orNil), (50, crightF.orNil)]
def lpAnchor070  : Nat → Option LoopPlan := fun _ => none
def inAnchor070  : Prop := awp [] (lpAnchor070) (lookΓ gamAnchor07) Tryd.prog Tryd.f46.ntmps 0 (Tryd.f46.body.getD .skip) (entrySt []) (exitQ Tryd.prog Tryd.f46.results.toList [] ⟨.bool true, none, none⟩)
def OkAnchor070 : Prop := True → inAnchor070
def of07F : Con
  | [.val (.agg zcc)] => (match cmdOf zcc with | some c => some (True, ⟨.agg (cmdL c), none, none⟩) | _ => none)
  | _ => none
def gamOf07 : List (Nat × Con) := []
def lpOf070 (c : CmdP) : Nat → Option LoopPlan := fun _ => none
def inOf070 (c : CmdP) : Prop := awp [] (lpOf070 c) (lookΓ gamOf07) Tryd.prog Tryd.f48.ntmps 0 (Tryd.f48.body.getD .skip) (entrySt [.val (.agg (cmdL c))]) (exitQ Tryd.prog Tryd.f48.results.toList [] ⟨.agg (cmdL c), none, none⟩)
def OkOf070 : Prop := ∀ (c : CmdP), True → inOf070 c
def small07F : Con
  | [.val (.agg zcc)] => (match cmdOf zcc with | some c => some (maxC c, ⟨.bool (smallCB c), none, none⟩) | _ => none)
  | _ => none
def gamSmall07 : List (Nat × Con) := []
def lpSmall070 (c : CmdP) : Nat → Option LoopPlan := fun _ => none
def inSmall070 (c : CmdP) : Prop := awp [] (lpSmall070 c) (lookΓ gamSmall07) Tryd.prog Tryd.f47.ntmps 0 (Tryd.f47.body.getD .skip) (entrySt [.val (.agg (cmdL c))]) (exitQ Tryd.prog Tryd.f47.results.toList [] ⟨.bool (smallCB c), none, none⟩)
def OkSmall070 : Prop := ∀ (c : CmdP), maxC c → inSmall070 c
def lawRightF : Con
  | [.val (.agg zcc)] => (match cmdOf zcc with | some c => some (maxC c, ⟨.bool true, none, none⟩) | _ => none)
  | _ => none
def gamLawRight : List (Nat × Con) := [(46, anchor07F.orNil), (47, small07F.orNil), (48, of07F.orNil), (49, cfootF.orNil), (41, rfootF.orNil), (50, crightF.orNil), (40, rrightF.orNil), (51, cclientF.orNil)]
def lpLawRight0 (c : CmdP) : Nat → Option LoopPlan := fun _ => none
def inLawRight0 (c : CmdP) : Prop := awp [] (lpLawRight0 c) (lookΓ gamLawRight) Tryd.prog Tryd.f14.ntmps 0 (Tryd.f14.body.getD .skip) (entrySt [.val (.agg (cmdL c))]) (exitQ Tryd.prog Tryd.f14.results.toList [] ⟨.bool true, none, none⟩)
def OkLawRight0 : Prop := ∀ (c : CmdP), maxC c → inLawRight0 c
def inCputK (k num : Int) (foot : List UInt8) (rq : Int) (path : List UInt8) (mode n time : Int) (xs : List AV) (p q : Nat) : Prop := inCputZ0 0 num foot rq path mode n time xs p q
end Go.Proofs.YtabeffcdklcdeaaDoor
/- What the verification conditions come to: printed by a program of ours (wip/lax/ex/Norm.lean). -/
namespace Go.Proofs.YtabeffcdklcdeaaDoor
set_option linter.unusedVariables false
open Go.RowKit
set_option maxRecDepth 100000
theorem vcOutByte1 (xs : (@List.{0} AV)) (p : Nat) (q : Nat) (b : Int) (h : (tt ∧ T1 ∧ tt ∧ T1 ∧ T1 ∧ T1 ∧ T1 ∧ tt ∧ T1 ∧ T1 ∧ (((List.length xs) = (List.length xs)) ∧ ((((List.length xs) + 1) * 1) ≤ 140737488355328) ∧ (((List.length xs) + 1) ≤ 9223372036854775807) ∧ (okWidth 1 xs) ∧ (okWidth 1 [(AV.int Go.IntKind.u8 b)])) ∧ T1 ∧ T1 ∧ tt ∧ tt ∧ T1 ∧ T1 ∧ tt ∧ tt ∧ (((0 < 1) ∧ ((bytesAV (@catL UInt8 (bytesL xs) (encByte b))) = (@catL AV xs [(AV.int Go.IntKind.u8 b)])) ∧ (((List.length xs) + 1) = (List.length (@catL AV xs [(AV.int Go.IntKind.u8 b)])))) ∧ T1 ∧ True) ∧ tt)) : inOutByte1 xs p q b :=
  Eq.mp (show _ = _ by kernel_rfl) h
theorem vcOutBytes1 (xs : (@List.{0} AV)) (p : Nat) (q : Nat) (h : (tt ∧ T1 ∧ tt ∧ T1 ∧ T1 ∧ T1 ∧ tt ∧ (T1 ∧ (isBytes xs) ∧ ((List.length xs) ≤ 140737488355328)) ∧ (∀ (v0 : (@List.{0} AV)), (∀ (v1 : (v0 = xs)), (∀ (v2 : Nat), (∀ (v3 : (v2 = (List.length xs))), (T1 ∧ tt ∧ tt ∧ (((0 < 1) ∧ (xs = xs) ∧ ((List.length xs) = (List.length xs))) ∧ (xs = v0) ∧ True) ∧ tt))))))) : inOutBytes1 xs p q :=
  Eq.mp (show _ = _ by kernel_rfl) h
theorem vcCbytesZ0 (k : Int) (num : Int) (foot : (List UInt8)) (rq : Int) (path : (List UInt8)) (mode : Int) (n : Int) (time : Int) (h : (tt ∧ T1 ∧ T1 ∧ tt ∧ T1 ∧ T1 ∧ T1 ∧ tt ∧ tt ∧ T1 ∧ (((@Eq.{1} Nat 0 0) ∧ True) ∧ (k = (0 : Int)) ∧ ((rightC (CmdP.mk k num foot rq path mode n time)) = true) ∧ (((List.length foot) ≤ 900000) ∧ ((List.length path) ≤ 900000)) ∧ (isBytes (@List.nil.{0} AV)) ∧ (2000000 ≤ 140737488355328)) ∧ (∀ (v0 : (@List.{0} AV)), (∀ (v1 : (v0 = (bytesAV (@catL UInt8 (@List.nil.{0} UInt8) (encByte (0 : Int)))))), (∀ (v2 : Nat), (∀ (v3 : (v2 = 1)), (tt ∧ T1 ∧ (((v2 = (List.length v0)) ∧ True) ∧ (isBytes v0) ∧ ((List.length v0) ≤ 140737488355328)) ∧ (∀ (v4 : (@List.{0} AV)), (∀ (v5 : (v4 = v0)), (∀ (v6 : (@List.{0} AV)), (∀ (v7 : (v6 = v0)), (∀ (v8 : Nat), (∀ (v9 : (v8 = (List.length v0))), (T1 ∧ tt ∧ tt ∧ (((bytesAV (encByte (0 : Int))) = v4) ∧ True) ∧ tt)))))))))))))) : inCbytesZ0 k num foot rq path mode n time :=
  Eq.mp (show _ = _ by kernel_rfl) h
theorem vcCfoot0 (c : CmdP) (h : (tt ∧ T1 ∧ T1 ∧ T1 ∧ tt ∧ T1 ∧ tt ∧ (T1 ∧ True) ∧ T1 ∧ T1 ∧ T1 ∧ T1 ∧ tt ∧ T1 ∧ tt ∧ tt ∧ (T1 ∧ ((List.length (CmdP.foot c)) ≤ 900000) ∧ ((List.length (CmdP.path c)) ≤ 900000)) ∧ T1 ∧ T1 ∧ (bif (Bool.not (rightC c)) then (tt ∧ T1 ∧ T1 ∧ tt ∧ tt ∧ (((footV c) = (@List.nil.{0} UInt8)) ∧ ((footOK c) = false) ∧ True) ∧ tt) else (tt ∧ T1 ∧ tt ∧ T1 ∧ (bif (hP (CmdP.k c)) then (tt ∧ T1 ∧ tt ∧ T1 ∧ T1 ∧ tt ∧ tt ∧ (((footV c) = (CmdP.path c)) ∧ ((footOK c) = true) ∧ True) ∧ tt) else (tt ∧ T1 ∧ T1 ∧ tt ∧ T1 ∧ tt ∧ T1 ∧ T1 ∧ tt ∧ tt ∧ tt ∧ (((footV c) = (CmdP.foot c)) ∧ ((footOK c) = (hS (CmdP.k c))) ∧ True) ∧ tt)))))) : inCfoot0 c :=
  Eq.mp (show _ = _ by kernel_rfl) h
theorem vcCclient0 (c : CmdP) (h : (tt ∧ T1 ∧ T1 ∧ tt ∧ tt ∧ (T1 ∧ ((List.length (CmdP.foot c)) ≤ 900000) ∧ ((List.length (CmdP.path c)) ≤ 900000)) ∧ T1 ∧ (bif (rightC c) then (T1 ∧ tt ∧ T1 ∧ T1 ∧ T1 ∧ tt ∧ tt ∧ (((Bool.and (rightC c) (decide ((0 : Int) < (CmdP.rq c)))) = (decide ((0 : Int) < (CmdP.rq c)))) ∧ True) ∧ tt) else ((false = false) ∧ T1 ∧ tt ∧ tt ∧ (((Bool.and (rightC c) (decide ((0 : Int) < (CmdP.rq c)))) = false) ∧ True) ∧ tt)))) : inCclient0 c :=
  Eq.mp (show _ = _ by kernel_rfl) h
theorem vcRfoot0 (c : CmdP) (h : (tt ∧ T1 ∧ T1 ∧ T1 ∧ tt ∧ tt ∧ (T1 ∧ ((List.length (CmdP.foot c)) ≤ 900000) ∧ ((List.length (CmdP.path c)) ≤ 900000)) ∧ T1 ∧ T1 ∧ (bif (Bool.not (rightC c)) then (tt ∧ tt ∧ T1 ∧ T1 ∧ tt ∧ tt ∧ (((footV c) = (@List.nil.{0} UInt8)) ∧ ((footOK c) = false) ∧ True) ∧ tt) else (T1 ∧ tt ∧ T1 ∧ T1 ∧ (bif ((CmdP.k c) == (0 : Int)) then (tt ∧ T1 ∧ T1 ∧ tt ∧ tt ∧ (((footV c) = (@List.nil.{0} UInt8)) ∧ ((footOK c) = false) ∧ True) ∧ tt) else (tt ∧ (T1 ∧ True) ∧ T1 ∧ tt ∧ (((0 : Int) ≤ (CmdP.k c)) ∧ ((CmdP.k c) < (9 : Int)) ∧ ((((Int.toNat (CmdP.k c)) * 6) + 6) ≤ 54) ∧ (okRead [Kd.bool, Kd.bool, Kd.bool, Kd.bool, Kd.bool, Kd.bool] (AV.agg [(AV.bool false), (AV.bool false), (AV.bool false), (AV.bool false), (AV.bool false), (AV.bool false), (AV.bool true), (AV.bool true), (AV.bool false), (AV.bool false), (AV.bool true), (AV.bool true), (AV.bool true), (AV.bool true), (AV.bool false), (AV.bool false), (AV.bool false), (AV.bool false), (AV.bool true), (AV.bool true), (AV.bool false), (AV.bool false), (AV.bool false), (AV.bool true), (AV.bool true), (AV.bool true), (AV.bool true), (AV.bool true), (AV.bool false), (AV.bool false), (AV.bool true), (AV.bool true), (AV.bool true), (AV.bool true), (AV.bool false), (AV.bool false), (AV.bool true), (AV.bool true), (AV.bool true), (AV.bool false), (AV.bool false), (AV.bool false), (AV.bool true), (AV.bool true), (AV.bool true), (AV.bool false), (AV.bool true), (AV.bool false), (AV.bool true), (AV.bool false), (AV.bool false), (AV.bool false), (AV.bool false), (AV.bool true)]) ((Int.toNat (CmdP.k c)) * 6))) ∧ (((0 : Int) ≤ (2 : Int)) ∧ ((2 : Int) < (6 : Int)) ∧ (3 ≤ 6)) ∧ tt ∧ (bif (rdBool (AV.agg [(AV.bool false), (AV.bool false), (AV.bool false), (AV.bool false), (AV.bool false), (AV.bool false), (AV.bool true), (AV.bool true), (AV.bool false), (AV.bool false), (AV.bool true), (AV.bool true), (AV.bool true), (AV.bool true), (AV.bool false), (AV.bool false), (AV.bool false), (AV.bool false), (AV.bool true), (AV.bool true), (AV.bool false), (AV.bool false), (AV.bool false), (AV.bool true), (AV.bool true), (AV.bool true), (AV.bool true), (AV.bool true), (AV.bool false), (AV.bool false), (AV.bool true), (AV.bool true), (AV.bool true), (AV.bool true), (AV.bool false), (AV.bool false), (AV.bool true), (AV.bool true), (AV.bool true), (AV.bool false), (AV.bool false), (AV.bool false), (AV.bool true), (AV.bool true), (AV.bool true), (AV.bool false), (AV.bool true), (AV.bool false), (AV.bool true), (AV.bool false), (AV.bool false), (AV.bool false), (AV.bool false), (AV.bool true)]) ((((Int.toNat (CmdP.k c)) * 6) + 1) + 1)) then (tt ∧ T1 ∧ tt ∧ T1 ∧ T1 ∧ tt ∧ tt ∧ (((footV c) = (CmdP.path c)) ∧ ((footOK c) = true) ∧ True) ∧ tt) else (tt ∧ T1 ∧ tt ∧ T1 ∧ T1 ∧ tt ∧ tt ∧ (((footV c) = (CmdP.foot c)) ∧ ((footOK c) = true) ∧ True) ∧ tt)))))))) : inRfoot0 c :=
  Eq.mp (show _ = _ by kernel_rfl) h
theorem vcAnchor070 (h : (tt ∧ T1 ∧ tt ∧ T1 ∧ (T1 ∧ ((0 : Int) = (0 : Int)) ∧ tt ∧ (0 ≤ 900000) ∧ (0 ≤ 900000)) ∧ (∀ (v0 : (@List.{0} AV)), (∀ (v1 : (v0 = (bytesAV (encByte (0 : Int))))), (T1 ∧ tt ∧ T1 ∧ T1 ∧ T1 ∧ T1 ∧ (bif ((@Nat.cast Int _ (List.length v0)) == (1 : Int)) then (T1 ∧ (((0 : Int) ≤ (0 : Int)) ∧ ((0 : Int) < (@Nat.cast Int _ (List.length v0))) ∧ (okElem 1 v0 0)) ∧ (okRead [(Kd.int Go.IntKind.u8)] (elemAt v0 0) 0) ∧ T1 ∧ T1 ∧ T1 ∧ (bif ((rdInt (elemAt v0 0) 0) == (0 : Int)) then (T1 ∧ (T1 ∧ (0 ≤ 900000) ∧ (0 ≤ 900000)) ∧ T1 ∧ T1 ∧ T1 ∧ (T1 ∧ (0 ≤ 900000) ∧ (0 ≤ 900000)) ∧ T1 ∧ T1 ∧ T1 ∧ tt ∧ tt ∧ (tt ∧ True) ∧ tt) else ((false = false) ∧ T1 ∧ (false = false) ∧ T1 ∧ tt ∧ tt ∧ ((true = false) ∧ True) ∧ tt))) else ((false = false) ∧ T1 ∧ (false = false) ∧ T1 ∧ (false = false) ∧ T1 ∧ tt ∧ tt ∧ ((true = false) ∧ True) ∧ tt))))))) : inAnchor070 :=
  Eq.mp (show _ = _ by kernel_rfl) h
theorem vcOf070 (c : CmdP) (h : (tt ∧ T1 ∧ T1 ∧ tt ∧ T1 ∧ tt ∧ T1 ∧ T1 ∧ tt ∧ T1 ∧ T1 ∧ tt ∧ T1 ∧ tt ∧ T1 ∧ tt ∧ T1 ∧ tt ∧ T1 ∧ tt ∧ T1 ∧ tt ∧ T1 ∧ tt ∧ tt ∧ tt ∧ (((CmdP.k c) = (CmdP.k c)) ∧ ((CmdP.num c) = (CmdP.num c)) ∧ ((CmdP.foot c) = (CmdP.foot c)) ∧ ((CmdP.rq c) = (CmdP.rq c)) ∧ ((CmdP.path c) = (CmdP.path c)) ∧ ((CmdP.mode c) = (CmdP.mode c)) ∧ ((CmdP.n c) = (CmdP.n c)) ∧ ((CmdP.time c) = (CmdP.time c)) ∧ True) ∧ tt)) : inOf070 c :=
  Eq.mp (show _ = _ by kernel_rfl) h
theorem vcSmall070 (c : CmdP) (h : (tt ∧ T1 ∧ T1 ∧ tt ∧ T1 ∧ tt ∧ T1 ∧ T1 ∧ T1 ∧ (bif (decide ((@Nat.cast Int _ (List.length (CmdP.path c))) < (200 : Int))) then (T1 ∧ T1 ∧ tt ∧ T1 ∧ T1 ∧ T1 ∧ T1 ∧ tt ∧ tt ∧ (((smallCB c) = (decide ((@Nat.cast Int _ (List.length (CmdP.foot c))) < (200 : Int)))) ∧ True) ∧ tt) else ((false = false) ∧ T1 ∧ tt ∧ tt ∧ (((smallCB c) = false) ∧ True) ∧ tt)))) : inSmall070 c :=
  Eq.mp (show _ = _ by kernel_rfl) h
theorem vcLawRight0 (c : CmdP) (h : (tt ∧ T1 ∧ T1 ∧ tt ∧ (T1 ∧ True) ∧ T1 ∧ tt ∧ tt ∧ (T1 ∧ (maxC c)) ∧ T1 ∧ (bif (Bool.not (smallCB c)) then (tt ∧ T1 ∧ tt ∧ tt ∧ (tt ∧ True) ∧ tt) else (tt ∧ tt ∧ (T1 ∧ True) ∧ T1 ∧ tt ∧ tt ∧ tt ∧ (T1 ∧ (smallC c)) ∧ (∀ (v0 : (List UInt8)), (∀ (v1 : (v0 = (footV c))), (T1 ∧ T1 ∧ T1 ∧ T1 ∧ T1 ∧ tt ∧ tt ∧ (T1 ∧ (smallC c)) ∧ (∀ (v2 : (List UInt8)), (∀ (v3 : (v2 = (footV c))), (T1 ∧ T1 ∧ T1 ∧ T1 ∧ T1 ∧ tt ∧ tt ∧ (T1 ∧ ((List.length (CmdP.foot c)) ≤ 900000) ∧ ((List.length (CmdP.path c)) ≤ 900000)) ∧ tt ∧ (T1 ∧ ((List.length (CmdP.foot c)) ≤ 900000) ∧ ((List.length (CmdP.path c)) ≤ 900000)) ∧ T1 ∧ T1 ∧ (bif (@BEq.beq.{0} Bool (@instBEqOfDecidableEq.{0} Bool instDecidableEqBool) (rightC c) (rightC c)) then (T1 ∧ T1 ∧ T1 ∧ T1 ∧ T1 ∧ (bif (@BEq.beq.{0} (List UInt8) (@List.instBEq.{0} UInt8 (@instBEqOfDecidableEq.{0} UInt8 instDecidableEqUInt8)) v0 v2) then (T1 ∧ T1 ∧ T1 ∧ T1 ∧ T1 ∧ (bif (@BEq.beq.{0} Bool (@instBEqOfDecidableEq.{0} Bool instDecidableEqBool) (footOK c) (footOK c)) then (tt ∧ (T1 ∧ (smallC c)) ∧ tt ∧ (T1 ∧ ((List.length (CmdP.foot c)) ≤ 900000) ∧ ((List.length (CmdP.path c)) ≤ 900000)) ∧ T1 ∧ (bif (rightC c) then (T1 ∧ tt ∧ T1 ∧ T1 ∧ T1 ∧ T1 ∧ T1 ∧ tt ∧ tt ∧ tt ∧ ((true = (@BEq.beq.{0} Bool (@instBEqOfDecidableEq.{0} Bool instDecidableEqBool) (Bool.and (rightC c) (decide ((0 : Int) < (CmdP.rq c)))) (decide ((0 : Int) < (CmdP.rq c))))) ∧ True) ∧ tt) else ((false = false) ∧ T1 ∧ T1 ∧ T1 ∧ tt ∧ tt ∧ tt ∧ ((true = (@BEq.beq.{0} Bool (@instBEqOfDecidableEq.{0} Bool instDecidableEqBool) (Bool.and (rightC c) (decide ((0 : Int) < (CmdP.rq c)))) false)) ∧ True) ∧ tt))) else ((false = false) ∧ T1 ∧ tt ∧ tt ∧ tt ∧ ((true = false) ∧ True) ∧ tt))) else ((false = false) ∧ T1 ∧ (false = false) ∧ T1 ∧ tt ∧ tt ∧ tt ∧ ((true = false) ∧ True) ∧ tt))) else ((false = false) ∧ T1 ∧ (false = false) ∧ T1 ∧ (false = false) ∧ T1 ∧ tt ∧ tt ∧ tt ∧ ((true = false) ∧ True) ∧ tt)))))))))))) : inLawRight0 c :=
  Eq.mp (show _ = _ by kernel_rfl) h
theorem vcCputK (k : Int) (num : Int) (foot : (List UInt8)) (rq : Int) (path : (List UInt8)) (mode : Int) (n : Int) (time : Int) (xs : (@List.{0} AV)) (p : Nat) (q : Nat) (h : (tt ∧ T1 ∧ tt ∧ tt ∧ (T1 ∧ (((List.length foot) ≤ 900000) ∧ ((List.length path) ≤ 900000)) ∧ ((rightC (CmdP.mk (0 : Int) num foot rq path mode n time)) = true)) ∧ T1 ∧ tt ∧ T1 ∧ tt ∧ (T1 ∧ True) ∧ T1 ∧ T1 ∧ T1 ∧ T1 ∧ tt ∧ T1 ∧ tt ∧ T1 ∧ T1 ∧ tt ∧ T1 ∧ ((((List.length xs) = (List.length xs)) ∧ True) ∧ (isBytes xs) ∧ (((List.length xs) + 1) ≤ 140737488355328)) ∧ (∀ (v0 : (@List.{0} AV)), (∀ (v1 : (v0 = (bytesAV (@catL UInt8 (bytesL xs) (encByte (0 : Int)))))), (∀ (v2 : Nat), (∀ (v3 : (v2 = (List.length (bytesAV (@catL UInt8 (bytesL xs) (encByte (0 : Int))))))), (tt ∧ T1 ∧ tt ∧ tt ∧ T1 ∧ tt ∧ tt ∧ T1 ∧ tt ∧ tt ∧ T1 ∧ tt ∧ tt ∧ T1 ∧ tt ∧ tt ∧ T1 ∧ tt ∧ tt ∧ tt ∧ (((0 < 1) ∧ ((bytesAV (@catL UInt8 (bytesL xs) (encByte (0 : Int)))) = v0) ∧ (v2 = (List.length v0))) ∧ True) ∧ tt))))))) : inCputK k num foot rq path mode n time xs p q :=
  Eq.mp (show _ = _ by kernel_rfl) h
end Go.Proofs.YtabeffcdklcdeaaDoor
/- The conditions hold: whether a command may be, and its footprint. -/
namespace Go.Proofs.YtabeffcdklcdeaaDoor
set_option linter.unusedVariables false
set_option linter.unusedSimpArgs false
open Go.RowKit
set_option maxRecDepth 100000

theorem catL_cons (l : List UInt8) (b : UInt8) : catL (bytesAV l) [byteAV b] = bytesAV (catL l [b]) := by simp [catL, bytesAV]
theorem okOutByte1 : OkOutByte1 := by
  intro xs p q b hq hb
  refine vcOutByte1 xs p q b ?_
  simp only [true_and, and_true, forall_eq, eq_self]
  obtain ⟨hq, hl⟩ := hq
  obtain ⟨l, rfl⟩ := hq.get
  rw [byte_int hb.1 hb.2]
  simp only [bytesL_bytesAV, length_bytesAV, catL_cons, catL_length] at hl ⊢
  exact ⟨⟨by omega, by omega, okWidth_bytes l, okWidth_cons rfl (okWidth_nil 1)⟩, by omega, rfl, by simp⟩
theorem okOutBytes1 : OkOutBytes1 := by
  intro xs p q hq
  refine vcOutBytes1 xs p q ?_
  simp only [true_and, and_true, forall_eq, eq_self]
  exact ⟨hq, by omega⟩
theorem right_facts {c : CmdP} (h : rightC c = true) : okK c.k = true ∧ (hP c.k = true ∨ c.path = []) ∧ (hP c.k = true → rightP c.path = true) ∧ (hS c.k = true → rightP c.foot = true) := by
  unfold rightC at h
  simp only [Bool.and_eq_true, Bool.or_eq_true, Bool.not_eq_true', decide_eq_true_eq] at h
  obtain ⟨⟨⟨⟨⟨⟨⟨⟨⟨⟨⟨⟨⟨a1, a2⟩, a3⟩, a4⟩, a5⟩, a6⟩, a7⟩, a8⟩, a9⟩, b1⟩, b2⟩, b3⟩, b4⟩, b5⟩ := h
  refine ⟨a1, a4, fun h => ?_, fun h => ?_⟩
  · rcases b1 with h' | h'
    · rw [h] at h'; cases h'
    · exact h'
  · rcases a8 with h' | h'
    · rw [h] at h'; cases h'
    · exact h'
theorem footOK_right {c : CmdP} (h : rightC c = true) : footOK c = (c.k != 0) := by
  have h1 := (right_facts h).1
  unfold footOK
  rw [h, Bool.true_and, Bool.eq_iff_iff]
  unfold hS
  unfold okK at h1
  simp only [Bool.and_eq_true, decide_eq_true_eq] at h1
  simp only [Bool.and_eq_true, decide_eq_true_eq, bne_iff_ne, ne_eq]
  omega
theorem footOK_wrong {c : CmdP} (h : rightC c = false) : footOK c = false := by unfold footOK; rw [h]; rfl
theorem tab_path (k : Int) (h : 0 ≤ k ∧ k ≤ 8) : rdBool (.agg hasAV) (k.toNat * 6 + 1 + 1) = hP k := by
  have hk : k = 0 ∨ k = 1 ∨ k = 2 ∨ k = 3 ∨ k = 4 ∨ k = 5 ∨ k = 6 ∨ k = 7 ∨ k = 8 := by omega
  rcases hk with rfl | rfl | rfl | rfl | rfl | rfl | rfl | rfl | rfl <;> rfl
theorem okCfoot0 : OkCfoot0 := by
  intro c hq
  refine vcCfoot0 c ?_
  simp only [true_and, and_true, forall_eq, eq_self]
  have e1 : footV c = if rightC c then (if hP c.k then c.path else c.foot) else [] := rfl
  have e2 : footOK c = (rightC c && hS c.k) := rfl
  have e3 : hP c.k = true → hS c.k = true := by unfold hP hS; simp only [Bool.and_eq_true, decide_eq_true_eq]; omega
  refine ⟨hq, ?_⟩
  rw [e1, e2]
  cases rightC c <;> cases hp : hP c.k <;> simp
  exact e3 hp
theorem okCclient0 : OkCclient0 := by
  intro c hq
  refine vcCclient0 c ?_
  simp only [true_and, and_true, forall_eq, eq_self]
  refine ⟨hq, ?_⟩
  cases rightC c <;> simp
theorem okRfoot0 : OkRfoot0 := by
  intro c hq
  refine vcRfoot0 c ?_
  simp only [true_and, and_true, forall_eq, eq_self]
  have e1 : footV c = if rightC c then (if hP c.k then c.path else c.foot) else [] := rfl
  refine ⟨hq, cond_prop (fun h => ?_) fun h => ?_⟩
  · have h' : rightC c = false := by simpa using h
    rw [e1, h', footOK_wrong h']; exact ⟨rfl, rfl⟩
  have h' : rightC c = true := by simpa using h
  have f := right_facts h'
  have e2 := footOK_right h'
  have hk : 0 ≤ c.k ∧ c.k ≤ 8 := by
    have := f.1
    unfold okK at this
    simpa using this
  rw [e1, h', e2]
  refine cond_prop (fun h0 => ?_) fun h0 => ?_
  · have hk0 : c.k = 0 := by simpa using h0
    have hf : c.foot = [] := by
      unfold rightC at h'
      simp only [Bool.and_eq_true] at h'
      have := h'.1.1.1.1.1.1.1.1.1.1.1.1.2
      simp [hS, hk0] at this
      exact this.2
    rw [hk0, hf]; exact ⟨rfl, rfl⟩
  · have hk0 : ¬ c.k = 0 := by simpa using h0
    refine ⟨⟨by omega, by omega, by omega, tab_read _ (by omega)⟩, ⟨by omega, by omega, by omega⟩, ?_⟩
    have tp := tab_path c.k hk
    refine cond_prop (fun h3 => ?_) fun h3 => ?_
    · have h4 : hP c.k = true := tp.symm.trans h3
      simp [h4, hk0]
    · have h4 : hP c.k = false := tp.symm.trans h3
      simp [h4, hk0]
theorem okCputZ0 : OkCputZ0 := by
  intro k num foot rq path mode n time xs p q hq
  obtain ⟨rfl, hr, hf, hb, hl⟩ := hq
  refine vcCputK 0 num foot rq path mode n time xs p q ?_
  simp only [true_and, and_true, forall_eq, eq_self, bytesL_bytesAV, isBytes_bytesAV, length_bytesAV]
  exact ⟨⟨hf, hr⟩, ⟨hb, by omega⟩, by omega⟩
theorem okCbytesZ0 : OkCbytesZ0 := by
  intro k num foot rq path mode n time hq
  refine vcCbytesZ0 k num foot rq path mode n time ?_
  simp only [true_and, and_true, forall_eq, eq_self, isBytes_bytesAV, length_bytesAV]
  refine ⟨⟨hq.1, hq.2.1, hq.2.2, isBytes_nil, by omega⟩, ⟨rfl, by decide⟩, rfl⟩
theorem okAnchor070 : OkAnchor070 := by
  intro hq
  refine vcAnchor070 ?_
  have e : encByte 0 = [0] := rfl
  simp only [true_and, and_true, forall_eq, eq_self, e, length_bytesAV]
  have o : okElem 1 (bytesAV [0]) 0 := okElem_bytes (by decide)
  have r : okRead [Kd.int .u8] (elemAt (bytesAV [0]) 0) 0 := okRead_bytes (by decide)
  have i0 : rdInt (elemAt (bytesAV [0]) 0) 0 = 0 := rfl
  simp [i0, o, r, smallC]
theorem okOf070 : OkOf070 := by
  intro c hq
  refine vcOf070 c ?_
  simp only [true_and, and_true, forall_eq, eq_self]
theorem okSmall070 : OkSmall070 := by
  intro c hq
  refine vcSmall070 c ?_
  simp only [true_and, and_true, forall_eq, eq_self]
  refine cond_prop (fun h => ?_) fun h => ?_
  all_goals (unfold smallCB; rw [Bool.eq_iff_iff]; simp at h ⊢; omega)
theorem smallCB_small {c : CmdP} (h : (!smallCB c) = false) : smallC c := by
  simp [smallCB] at h; unfold smallC; omega
theorem okLawRight0 : OkLawRight0 := by
  intro c hq
  refine vcLawRight0 c ?_
  simp only [true_and, and_true, forall_eq, eq_self]
  refine ⟨hq, cond_prop (fun _ => trivial) fun h1 => ?_⟩
  have s := smallCB_small h1
  refine ⟨s, s, ⟨s.1, s.2⟩, ⟨s.1, s.2⟩, ?_⟩
  simp only [beq_self_eq_true, cond_true]
  refine ⟨s, ⟨s.1, s.2⟩, ?_⟩
  cases rightC c <;> simp
end Go.Proofs.YtabeffcdklcdeaaDoor
/- The contracts are met. -/
namespace Go.Proofs.YtabeffcdklcdeaaDoor
set_option linter.unusedVariables false
set_option linter.unusedSimpArgs false
open Go.RowKit
theorem sndOutByte : Sound Tryd.prog (lookΓ gamOutByte) := sound_of _ fun p hp => by
  simp [gamOutByte] at hp
set_option maxHeartbeats 4000000 in
theorem meetsOutByte : Meets Tryd.prog 115 outByteF := by
  refine meets_of_awp (Γ := lookΓ gamOutByte) (L := fun _ _ => none) sndOutByte mixedOrders Tryd.func115 rfl Tryd.call115 ?_
  intro args q r hF hq ho
  unfold outByteF at hF
  split at hF
  · split at hF
    · rename_i hte
      subst hte
      cases hF
      exact ⟨by simp only [List.length_cons, List.length_nil]; decide, okOutByte1 _ _ _ _ hq (okay_u8 (argI 1 ho rfl rfl))⟩
    · cases hF
  · cases hF
theorem sndOutBytes : Sound Tryd.prog (lookΓ gamOutBytes) := sound_of _ fun p hp => by
  simp only [gamOutBytes, List.mem_cons, List.not_mem_nil, or_false] at hp
  subst hp
  exact meetsClone.orNil
set_option maxHeartbeats 4000000 in
theorem meetsOutBytes : Meets Tryd.prog 91 outBytesF := by
  refine meets_of_awp (Γ := lookΓ gamOutBytes) (L := fun _ _ => none) sndOutBytes mixedOrders Tryd.func91 rfl Tryd.call91 ?_
  intro args q r hF hq ho
  unfold outBytesF at hF
  split at hF
  · split at hF
    · rename_i hte
      subst hte
      cases hF
      exact ⟨by simp only [List.length_cons, List.length_nil]; decide, okOutBytes1 _ _ _ hq⟩
    · cases hF
  · cases hF
theorem sndCputZ : Sound Tryd.prog (lookΓ gamCputZ) := sound_of _ fun p hp => by
  simp only [gamCputZ, List.mem_cons, List.not_mem_nil, or_false] at hp
  rcases hp with rfl | rfl | rfl
  · exact meetsCrightT.orNil
  · exact meetsHad.orNil
  · exact meetsOutByte.orNil
set_option maxHeartbeats 4000000 in
theorem meetsCputZ : Meets Tryd.prog 90 cputZF := by
  refine meets_of_awp (Γ := lookΓ gamCputZ) (L := fun _ _ => none) sndCputZ mixedOrders Tryd.func90 rfl Tryd.call90 ?_
  intro args q r hF hq ho
  unfold cputZF at hF
  split at hF
  · split at hF
    · rename_i hte
      subst hte
      cases hF
      exact ⟨by simp only [List.length_cons, List.length_nil]; decide, okCputZ0 _ _ _ _ _ _ _ _ _ _ _ hq⟩
    · cases hF
  · cases hF
theorem sndCbytesZ : Sound Tryd.prog (lookΓ gamCbytesZ) := sound_of _ fun p hp => by
  simp only [gamCbytesZ, List.mem_cons, List.not_mem_nil, or_false] at hp
  rcases hp with rfl | rfl
  · exact meetsCputZ.orNil
  · exact meetsOutBytes.orNil
set_option maxHeartbeats 4000000 in
theorem meetsCbytesZ : Meets Tryd.prog 69 cbytesZF := by
  refine meets_of_awp (Γ := lookΓ gamCbytesZ) (L := fun _ _ => none) sndCbytesZ mixedOrders Tryd.func69 rfl Tryd.call69 ?_
  intro args q r hF hq ho
  unfold cbytesZF at hF
  split at hF
  · cases hF
    exact ⟨by simp only [List.length_cons, List.length_nil]; decide, okCbytesZ0 _ _ _ _ _ _ _ _ hq⟩
  · cases hF
theorem sndCfoot : Sound Tryd.prog (lookΓ gamCfoot) := sound_of _ fun p hp => by
  simp only [gamCfoot, List.mem_cons, List.not_mem_nil, or_false] at hp
  rcases hp with rfl | rfl
  · exact meetsHad.orNil
  · exact meetsCright.orNil
set_option maxHeartbeats 4000000 in
theorem meetsCfoot : Meets Tryd.prog 49 cfootF := by
  refine meets_of_awp (Γ := lookΓ gamCfoot) (L := fun _ _ => none) sndCfoot mixedOrders Tryd.func49 rfl Tryd.call49 ?_
  intro args q r hF hq ho
  unfold cfootF at hF
  split at hF
  · split at hF
    · rename_i c hzc
      obtain rfl := cmdOf_some hzc
      cases hF
      exact ⟨by simp only [List.length_cons, List.length_nil]; decide, okCfoot0 _ hq⟩
    · cases hF
  · cases hF
theorem sndCclient : Sound Tryd.prog (lookΓ gamCclient) := sound_of _ fun p hp => by
  simp only [gamCclient, List.mem_cons, List.not_mem_nil, or_false] at hp
  subst hp
  exact meetsCright.orNil
set_option maxHeartbeats 4000000 in
theorem meetsCclient : Meets Tryd.prog 51 cclientF := by
  refine meets_of_awp (Γ := lookΓ gamCclient) (L := fun _ _ => none) sndCclient mixedOrders Tryd.func51 rfl Tryd.call51 ?_
  intro args q r hF hq ho
  unfold cclientF at hF
  split at hF
  · split at hF
    · rename_i c hzc
      obtain rfl := cmdOf_some hzc
      cases hF
      exact ⟨by simp only [List.length_cons, List.length_nil]; decide, okCclient0 _ hq⟩
    · cases hF
  · cases hF
theorem sndRfoot : Sound Tryd.prog (lookΓ gamRfoot) := sound_of _ fun p hp => by
  simp only [gamRfoot, List.mem_cons, List.not_mem_nil, or_false] at hp
  rcases hp with rfl | rfl
  · exact meetsHas07.orNil
  · exact meetsRright.orNil
set_option maxHeartbeats 4000000 in
theorem meetsRfoot : Meets Tryd.prog 41 rfootF := by
  refine meets_of_awp (Γ := lookΓ gamRfoot) (L := fun _ _ => none) sndRfoot mixedOrders Tryd.func41 rfl Tryd.call41 ?_
  intro args q r hF hq ho
  unfold rfootF at hF
  split at hF
  · split at hF
    · rename_i c hzc
      obtain rfl := cmdOf_some hzc
      cases hF
      exact ⟨by simp only [List.length_cons, List.length_nil]; decide, okRfoot0 _ hq⟩
    · cases hF
  · cases hF
theorem sndAnchor07 : Sound Tryd.prog (lookΓ gamAnchor07) := sound_of _ fun p hp => by
  simp only [gamAnchor07, List.mem_cons, List.not_mem_nil, or_false] at hp
  rcases hp with rfl | rfl
  · exact meetsCbytesZ.orNil
  · exact meetsCright.orNil
set_option maxHeartbeats 4000000 in
theorem meetsAnchor07 : Meets Tryd.prog 46 anchor07F := by
  refine meets_of_awp (Γ := lookΓ gamAnchor07) (L := fun _ _ => none) sndAnchor07 mixedOrders Tryd.func46 rfl Tryd.call46 ?_
  intro args q r hF hq ho
  unfold anchor07F at hF
  split at hF
  · cases hF
    exact ⟨by simp only [List.length_cons, List.length_nil]; decide, okAnchor070 hq⟩
  · cases hF
theorem sndOf07 : Sound Tryd.prog (lookΓ gamOf07) := sound_of _ fun p hp => by
  simp [gamOf07] at hp
set_option maxHeartbeats 4000000 in
theorem meetsOf07 : Meets Tryd.prog 48 of07F := by
  refine meets_of_awp (Γ := lookΓ gamOf07) (L := fun _ _ => none) sndOf07 mixedOrders Tryd.func48 rfl Tryd.call48 ?_
  intro args q r hF hq ho
  unfold of07F at hF
  split at hF
  · split at hF
    · rename_i c hzc
      obtain rfl := cmdOf_some hzc
      cases hF
      exact ⟨by simp only [List.length_cons, List.length_nil]; decide, okOf070 _ hq⟩
    · cases hF
  · cases hF
theorem sndSmall07 : Sound Tryd.prog (lookΓ gamSmall07) := sound_of _ fun p hp => by
  simp [gamSmall07] at hp
set_option maxHeartbeats 4000000 in
theorem meetsSmall07 : Meets Tryd.prog 47 small07F := by
  refine meets_of_awp (Γ := lookΓ gamSmall07) (L := fun _ _ => none) sndSmall07 mixedOrders Tryd.func47 rfl Tryd.call47 ?_
  intro args q r hF hq ho
  unfold small07F at hF
  split at hF
  · split at hF
    · rename_i c hzc
      obtain rfl := cmdOf_some hzc
      cases hF
      exact ⟨by simp only [List.length_cons, List.length_nil]; decide, okSmall070 _ hq⟩
    · cases hF
  · cases hF
theorem sndLawRight : Sound Tryd.prog (lookΓ gamLawRight) := sound_of _ fun p hp => by
  simp only [gamLawRight, List.mem_cons, List.not_mem_nil, or_false] at hp
  rcases hp with rfl | rfl | rfl | rfl | rfl | rfl | rfl | rfl
  · exact meetsAnchor07.orNil
  · exact meetsSmall07.orNil
  · exact meetsOf07.orNil
  · exact meetsCfoot.orNil
  · exact meetsRfoot.orNil
  · exact meetsCright.orNil
  · exact meetsRright.orNil
  · exact meetsCclient.orNil
set_option maxHeartbeats 4000000 in
theorem meetsLawRight : Meets Tryd.prog 14 lawRightF := by
  refine meets_of_awp (Γ := lookΓ gamLawRight) (L := fun _ _ => none) sndLawRight mixedOrders Tryd.func14 rfl Tryd.call14 ?_
  intro args q r hF hq ho
  unfold lawRightF at hF
  split at hF
  · split at hF
    · rename_i c hzc
      obtain rfl := cmdOf_some hzc
      cases hF
      exact ⟨by simp only [List.length_cons, List.length_nil]; decide, okLawRight0 _ hq⟩
    · cases hF
  · cases hF
end Go.Proofs.YtabeffcdklcdeaaDoor
