/- Contracts by content, their conditions, and that they are met: CmdW. -/
import Derived.Test.YtfoabkkkdcicgaaGreatDoorLaxPkCmdA
import Derived.Test.YtfoabkkkdcicgaaGreatDoorLaxPkIoB
/- Contracts by content, and the conditions that their code must meet. -/
namespace Go.Proofs.YtfoabkkkdcicgaaGreatDoor
set_option linter.unusedVariables false
set_option linter.unusedSimpArgs false
open Go.RowKit
theorem Meets.weak {P : Program} {f : Nat} {F F' : Con} (m : Meets P f F) (h : ∀ args q r, F' args = some (q, r) → q → ∃ q0, F args = some (q0, r) ∧ q0) : Meets P f F' := by
  refine ⟨m.enters, fun args us w GE own d site q r hF hq hc hsite hs => ?_⟩
  obtain ⟨q0, e, h0⟩ := h args q r hF hq
  exact m.calls args us w GE own d site q0 r e h0 hc hsite hs
def crightTF : Con
  | [.val (.agg [.int .i64 k, .int .u64 num, .str foot, .int .u64 rq, .str path, .int .i64 mode, .int .u64 n, .int .i64 time])] => some ((foot.length ≤ 900000 ∧ path.length ≤ 900000) ∧ rightC ⟨k, num, foot, rq, path, mode, n, time⟩ = true, ⟨.bool true, none, none⟩)
  | _ => none
def crightNF : Con
  | [.val (.agg [.int .i64 k, .int .u64 num, .str foot, .int .u64 rq, .str path, .int .i64 mode, .int .u64 n, .int .i64 time])] => some ((foot.length ≤ 900000 ∧ path.length ≤ 900000) ∧ rightC ⟨k, num, foot, rq, path, mode, n, time⟩ = false, ⟨.bool false, none, none⟩)
  | _ => none
theorem meetsCrightT : Meets Tryz.prog 52 crightTF := meetsCright.weak fun args q r hF hq => by
  unfold crightTF at hF
  split at hF
  · rename_i k num foot rq path mode n time
    cases hF
    exact ⟨_, congrArg (fun b => some ((foot.length ≤ 900000 ∧ path.length ≤ 900000), (⟨.bool b, none, none⟩ : Res))) hq.2, hq.1⟩
  · cases hF
theorem meetsCrightN : Meets Tryz.prog 52 crightNF := meetsCright.weak fun args q r hF hq => by
  unfold crightNF at hF
  split at hF
  · rename_i k num foot rq path mode n time
    cases hF
    exact ⟨_, congrArg (fun b => some ((foot.length ≤ 900000 ∧ path.length ≤ 900000), (⟨.bool b, none, none⟩ : Res))) hq.2, hq.1⟩
  · cases hF
def encC (c : CmdP) : List UInt8 :=
  catL (encByte (IntKind.u8.wrap c.k)) (catL (if hS c.k then catL (bytesOf c.num (cap8 8)) (encText c.foot) else []) (catL (if hR c.k then short c.rq.toNat else []) (catL (if hP c.k then encText c.path else []) (catL (if hM c.k then encByte (IntKind.u8.wrap c.mode) else []) (catL (if hN c.k then short c.n.toNat else []) (if hT c.k then short (IntKind.u64.wrap c.time).toNat else []))))))
def encP (c : CmdP) : List UInt8 := if rightC c then encC c else encByte 0
def f1 (l : List UInt8) (e k : Int) : List UInt8 × Int := if hS k then (tkRest l e 8, tkErr l.length e 8) else (l, e)
def f2 (l : List UInt8) (e k : Int) : List UInt8 × Int := if hS k then (inTextR (f1 l e k).1 (f1 l e k).2 64, inTextE (f1 l e k).1 (f1 l e k).2 64) else f1 l e k
def f3 (l : List UInt8) (e k : Int) : List UInt8 × Int := if hR k then (shRest (f2 l e k).1 (f2 l e k).2 18446744073709551615, shErr (f2 l e k).1 (f2 l e k).2 18446744073709551615) else f2 l e k
def f4 (l : List UInt8) (e k : Int) : List UInt8 × Int := if hP k then (inTextR (f3 l e k).1 (f3 l e k).2 64, inTextE (f3 l e k).1 (f3 l e k).2 64) else f3 l e k
def f5 (l : List UInt8) (e k : Int) : List UInt8 × Int := if hM k then (tkRest (f4 l e k).1 (f4 l e k).2 1, tkErr (f4 l e k).1.length (f4 l e k).2 1) else f4 l e k
def f6 (l : List UInt8) (e k : Int) : List UInt8 × Int := if hN k then (shRest (f5 l e k).1 (f5 l e k).2 18446744073709551615, shErr (f5 l e k).1 (f5 l e k).2 18446744073709551615) else f5 l e k
def f7 (l : List UInt8) (e k : Int) : List UInt8 × Int := if hT k then (shRest (f6 l e k).1 (f6 l e k).2 1099511627776, shErr (f6 l e k).1 (f6 l e k).2 1099511627776) else f6 l e k
def vNum (l : List UInt8) (e k : Int) : Int := if hS k then ((val8 (tkOut l e 8) : Nat) : Int) else 0
def vFoot (l : List UInt8) (e k : Int) : List UInt8 := if hS k then inTextV (f1 l e k).1 (f1 l e k).2 64 else []
def vRq (l : List UInt8) (e k : Int) : Int := if hR k then shV (f2 l e k).1 (f2 l e k).2 18446744073709551615 else 0
def vPath (l : List UInt8) (e k : Int) : List UInt8 := if hP k then inTextV (f3 l e k).1 (f3 l e k).2 64 else []
def vMode (l : List UInt8) (e k : Int) : Int := if hM k then inByteV (f4 l e k).1 (f4 l e k).2 else 0
def vN (l : List UInt8) (e k : Int) : Int := if hN k then shV (f5 l e k).1 (f5 l e k).2 18446744073709551615 else 0
def vTime (l : List UInt8) (e k : Int) : Int := if hT k then shV (f6 l e k).1 (f6 l e k).2 1099511627776 else 0
def fR (l : List UInt8) (e k : Int) : List UInt8 := (f7 l e k).1
def fE (l : List UInt8) (e k : Int) : Int := (f7 l e k).2
def fC (l : List UInt8) (e k : Int) : CmdP := ⟨k, vNum l e k, vFoot l e k, vRq l e k, vPath l e k, vMode l e k, vN l e k, vTime l e k⟩
def ctK (l : List UInt8) (e : Int) : Int := if okK (inByteV l e) then tkErr l.length e 1 else inFail (tkErr l.length e 1) 22
def ctR (l : List UInt8) (e : Int) : List UInt8 := fR (tkRest l e 1) (ctK l e) (inByteV l e)
def ctE (l : List UInt8) (e : Int) : Int := if rightC (fC (tkRest l e 1) (ctK l e) (inByteV l e)) then fE (tkRest l e 1) (ctK l e) (inByteV l e) else inFail (fE (tkRest l e 1) (ctK l e) (inByteV l e)) 10
def ctC (l : List UInt8) (e : Int) : CmdP := if ctE l e = 0 then fC (tkRest l e 1) (ctK l e) (inByteV l e) else zC
def cputIF : Con
  | [.val (.agg [.int .i64 k, .int .u64 num, .str foot, .int .u64 rq, .str path, .int .i64 mode, .int .u64 n, .int .i64 time]), .box [.sl xs (.row p q te0)]] => (if te0 = 5 then some ((0 ≤ k ∧ k ≤ 8) ∧ rightC ⟨k, num, foot, rq, path, mode, n, time⟩ = true ∧ (foot.length ≤ 900000 ∧ path.length ≤ 900000) ∧ isBytes xs ∧ xs.length + 2000000 ≤ 140737488355328, ⟨.tup [], (some [.sl (bytesAV (catL (bytesL xs) (encC ⟨k, num, foot, rq, path, mode, n, time⟩))) (.row 0 0 5)]), none⟩) else none)
  | _ => none
def gamCputI : List (Nat × Con) := [(52, crightTF.orNil), (80, hadF.orNil), (41, outByteF.orNil), (91, outFixedF.orNil), (92, outTextF.orNil), (75, outShortF.orNil)]
def lpCputI0 (k num : Int) (foot : List UInt8) (rq : Int) (path : List UInt8) (mode n time : Int) (xs : List AV) (p q : Nat) : Nat → Option LoopPlan := fun _ => none
def inCputI0 (k num : Int) (foot : List UInt8) (rq : Int) (path : List UInt8) (mode n time : Int) (xs : List AV) (p q : Nat) : Prop := awp [1] (lpCputI0 k num foot rq path mode n time xs p q) (lookΓ gamCputI) Tryz.prog Tryz.f73.ntmps 0 (Tryz.f73.body.getD .skip) (entrySt [.val (.agg [.int .i64 k, .int .u64 num, .str foot, .int .u64 rq, .str path, .int .i64 mode, .int .u64 n, .int .i64 time]), .box [.sl xs (.row p q 5)]]) (exitQ Tryz.prog Tryz.f73.results.toList [1] ⟨.tup [], (some [.sl (bytesAV (catL (bytesL xs) (encC ⟨k, num, foot, rq, path, mode, n, time⟩))) (.row 0 0 5)]), none⟩)
def OkCputI0 : Prop := ∀ (k num : Int) (foot : List UInt8) (rq : Int) (path : List UInt8) (mode n time : Int) (xs : List AV) (p q : Nat), (0 ≤ k ∧ k ≤ 8) ∧ rightC ⟨k, num, foot, rq, path, mode, n, time⟩ = true ∧ (foot.length ≤ 900000 ∧ path.length ≤ 900000) ∧ isBytes xs ∧ xs.length + 2000000 ≤ 140737488355328 → ((0 ≤ num ∧ num ≤ 18446744073709551615) ∧ (0 ≤ rq ∧ rq ≤ 18446744073709551615) ∧ (0 ≤ n ∧ n ≤ 18446744073709551615)) → inCputI0 k num foot rq path mode n time xs p q
def cputNF : Con
  | [.val (.agg [.int .i64 k, .int .u64 num, .str foot, .int .u64 rq, .str path, .int .i64 mode, .int .u64 n, .int .i64 time]), .box [.sl xs (.row p q te0)]] => (if te0 = 5 then some (rightC ⟨k, num, foot, rq, path, mode, n, time⟩ = false ∧ (foot.length ≤ 900000 ∧ path.length ≤ 900000) ∧ isBytes xs ∧ xs.length + 2000000 ≤ 140737488355328, ⟨.tup [], (some [.sl (bytesAV (catL (bytesL xs) (encByte 0))) (.row 0 0 5)]), none⟩) else none)
  | _ => none
def gamCputN : List (Nat × Con) := [(52, crightNF.orNil), (80, hadF.orNil), (41, outByteF.orNil)]
def lpCputN0 (k num : Int) (foot : List UInt8) (rq : Int) (path : List UInt8) (mode n time : Int) (xs : List AV) (p q : Nat) : Nat → Option LoopPlan := fun _ => none
def inCputN0 (k num : Int) (foot : List UInt8) (rq : Int) (path : List UInt8) (mode n time : Int) (xs : List AV) (p q : Nat) : Prop := awp [1] (lpCputN0 k num foot rq path mode n time xs p q) (lookΓ gamCputN) Tryz.prog Tryz.f73.ntmps 0 (Tryz.f73.body.getD .skip) (entrySt [.val (.agg [.int .i64 k, .int .u64 num, .str foot, .int .u64 rq, .str path, .int .i64 mode, .int .u64 n, .int .i64 time]), .box [.sl xs (.row p q 5)]]) (exitQ Tryz.prog Tryz.f73.results.toList [1] ⟨.tup [], (some [.sl (bytesAV (catL (bytesL xs) (encByte 0))) (.row 0 0 5)]), none⟩)
def OkCputN0 : Prop := ∀ (k num : Int) (foot : List UInt8) (rq : Int) (path : List UInt8) (mode n time : Int) (xs : List AV) (p q : Nat), rightC ⟨k, num, foot, rq, path, mode, n, time⟩ = false ∧ (foot.length ≤ 900000 ∧ path.length ≤ 900000) ∧ isBytes xs ∧ xs.length + 2000000 ≤ 140737488355328 → inCputN0 k num foot rq path mode n time xs p q
def fieldsIF : Con
  | [.box [.sl xs .no, .int .i64 e], .val (.int .i64 k), .val (.agg [.bool a, .bool b, .bool c, .bool d, .bool f, .bool g])] => (some (isBytes xs ∧ (a = hS k ∧ b = hR k ∧ c = hP k ∧ d = hM k ∧ f = hN k ∧ g = hT k), ⟨.agg [.int .i64 k, .int .u64 (vNum (bytesL xs) e k), .str (vFoot (bytesL xs) e k), .int .u64 (vRq (bytesL xs) e k), .str (vPath (bytesL xs) e k), .int .i64 (vMode (bytesL xs) e k), .int .u64 (vN (bytesL xs) e k), .int .i64 (vTime (bytesL xs) e k)], (some [.sl (bytesAV (fR (bytesL xs) e k)) .no, .int .i64 (fE (bytesL xs) e k)]), none⟩))
  | _ => none
def gamFieldsI : List (Nat × Con) := [(99, inFixedF.orNil), (100, inTextF.orNil), (86, inShortF.orNil), (59, inByteF.orNil)]
def lpFieldsI0 (xs : List AV) (e k : Int) (a b c d f g : Bool) : Nat → Option LoopPlan := fun _ => none
def inFieldsI0 (xs : List AV) (e k : Int) (a b c d f g : Bool) : Prop := awp [0] (lpFieldsI0 xs e k a b c d f g) (lookΓ gamFieldsI) Tryz.prog Tryz.f88.ntmps 0 (Tryz.f88.body.getD .skip) (entrySt [.box [.sl xs .no, .int .i64 e], .val (.int .i64 k), .val (.agg [.bool a, .bool b, .bool c, .bool d, .bool f, .bool g])]) (exitQ Tryz.prog Tryz.f88.results.toList [0] ⟨.agg [.int .i64 k, .int .u64 (vNum (bytesL xs) e k), .str (vFoot (bytesL xs) e k), .int .u64 (vRq (bytesL xs) e k), .str (vPath (bytesL xs) e k), .int .i64 (vMode (bytesL xs) e k), .int .u64 (vN (bytesL xs) e k), .int .i64 (vTime (bytesL xs) e k)], (some [.sl (bytesAV (fR (bytesL xs) e k)) .no, .int .i64 (fE (bytesL xs) e k)]), none⟩)
def OkFieldsI0 : Prop := ∀ (xs : List AV) (e k : Int) (a b c d f g : Bool), isBytes xs ∧ (a = hS k ∧ b = hR k ∧ c = hP k ∧ d = hM k ∧ f = hN k ∧ g = hT k) → inFieldsI0 xs e k a b c d f g
def inCputK0 (k num : Int) (foot : List UInt8) (rq : Int) (path : List UInt8) (mode n time : Int) (xs : List AV) (p q : Nat) : Prop := inCputI0 0 num foot rq path mode n time xs p q
def inCputK1 (k num : Int) (foot : List UInt8) (rq : Int) (path : List UInt8) (mode n time : Int) (xs : List AV) (p q : Nat) : Prop := inCputI0 1 num foot rq path mode n time xs p q
def inCputK2 (k num : Int) (foot : List UInt8) (rq : Int) (path : List UInt8) (mode n time : Int) (xs : List AV) (p q : Nat) : Prop := inCputI0 2 num foot rq path mode n time xs p q
def inCputK3 (k num : Int) (foot : List UInt8) (rq : Int) (path : List UInt8) (mode n time : Int) (xs : List AV) (p q : Nat) : Prop := inCputI0 3 num foot rq path mode n time xs p q
def inCputK4 (k num : Int) (foot : List UInt8) (rq : Int) (path : List UInt8) (mode n time : Int) (xs : List AV) (p q : Nat) : Prop := inCputI0 4 num foot rq path mode n time xs p q
def inCputK5 (k num : Int) (foot : List UInt8) (rq : Int) (path : List UInt8) (mode n time : Int) (xs : List AV) (p q : Nat) : Prop := inCputI0 5 num foot rq path mode n time xs p q
def inCputK6 (k num : Int) (foot : List UInt8) (rq : Int) (path : List UInt8) (mode n time : Int) (xs : List AV) (p q : Nat) : Prop := inCputI0 6 num foot rq path mode n time xs p q
def inCputK7 (k num : Int) (foot : List UInt8) (rq : Int) (path : List UInt8) (mode n time : Int) (xs : List AV) (p q : Nat) : Prop := inCputI0 7 num foot rq path mode n time xs p q
def inCputK8 (k num : Int) (foot : List UInt8) (rq : Int) (path : List UInt8) (mode n time : Int) (xs : List AV) (p q : Nat) : Prop := inCputI0 8 num foot rq path mode n time xs p q
def inFieldsK0 (xs : List AV) (e k : Int) : Prop := inFieldsI0 xs e k false false false false false false
def inFieldsK1 (xs : List AV) (e : Int) : Prop := inFieldsI0 xs e 1 true true false false true true
def inFieldsK2 (xs : List AV) (e : Int) : Prop := inFieldsI0 xs e 2 true true false false false false
def inFieldsK3 (xs : List AV) (e : Int) : Prop := inFieldsI0 xs e 3 true true false false false true
def inFieldsK4 (xs : List AV) (e k : Int) : Prop := inFieldsI0 xs e k true true true true false false
def inFieldsK6 (xs : List AV) (e : Int) : Prop := inFieldsI0 xs e 6 true true true false false false
def inFieldsK7 (xs : List AV) (e : Int) : Prop := inFieldsI0 xs e 7 true true true false true false
def inFieldsK8 (xs : List AV) (e : Int) : Prop := inFieldsI0 xs e 8 true false false false false true
end Go.Proofs.YtfoabkkkdcicgaaGreatDoor
/- What the verification conditions come to: printed by a program of ours (wip/lax/ex/Norm.lean). -/
namespace Go.Proofs.YtfoabkkkdcicgaaGreatDoor
set_option linter.unusedVariables false
open Go.RowKit
set_option maxRecDepth 100000
theorem vcCputN0 (k : Int) (num : Int) (foot : (List UInt8)) (rq : Int) (path : (List UInt8)) (mode : Int) (n : Int) (time : Int) (xs : (List AV)) (p : Nat) (q : Nat) (h : (tt ∧ T1 ∧ tt ∧ tt ∧ (T1 ∧ ((List.length foot) ≤ 900000 ∧ (List.length path) ≤ 900000) ∧ (rightC (CmdP.mk k num foot rq path mode n time)) = false) ∧ T1 ∧ tt ∧ T1 ∧ tt ∧ tt ∧ T1 ∧ tt ∧ (T1 ∧ True) ∧ T1 ∧ T1 ∧ T1 ∧ T1 ∧ tt ∧ T1 ∧ tt ∧ T1 ∧ T1 ∧ tt ∧ T1 ∧ (((List.length xs) = (List.length xs) ∧ True) ∧ (isBytes xs) ∧ ((List.length xs) + 1) ≤ 140737488355328) ∧ ∀ v0 : (List AV), (v0 = (bytesAV (@catL UInt8 (bytesL xs) (encByte 0)))) → ∀ v2 : Nat, (v2 = (List.length (bytesAV (@catL UInt8 (bytesL xs) (encByte 0))))) → tt ∧ T1 ∧ tt ∧ tt ∧ T1 ∧ tt ∧ tt ∧ T1 ∧ tt ∧ tt ∧ T1 ∧ tt ∧ tt ∧ T1 ∧ tt ∧ tt ∧ T1 ∧ tt ∧ tt ∧ tt ∧ ((0 < 1 ∧ (bytesAV (@catL UInt8 (bytesL xs) (encByte 0))) = v0 ∧ v2 = (List.length v0)) ∧ True) ∧ tt)) : inCputN0 k num foot rq path mode n time xs p q :=
  Eq.mp (show _ = _ by kernel_rfl) h
theorem vcCputK0 (k : Int) (num : Int) (foot : (List UInt8)) (rq : Int) (path : (List UInt8)) (mode : Int) (n : Int) (time : Int) (xs : (List AV)) (p : Nat) (q : Nat) (h : (tt ∧ T1 ∧ tt ∧ tt ∧ (T1 ∧ ((List.length foot) ≤ 900000 ∧ (List.length path) ≤ 900000) ∧ (rightC (CmdP.mk 0 num foot rq path mode n time)) = true) ∧ T1 ∧ tt ∧ T1 ∧ tt ∧ (T1 ∧ True) ∧ T1 ∧ T1 ∧ T1 ∧ T1 ∧ tt ∧ T1 ∧ tt ∧ T1 ∧ T1 ∧ tt ∧ T1 ∧ (((List.length xs) = (List.length xs) ∧ True) ∧ (isBytes xs) ∧ ((List.length xs) + 1) ≤ 140737488355328) ∧ ∀ v0 : (List AV), (v0 = (bytesAV (@catL UInt8 (bytesL xs) (encByte 0)))) → ∀ v2 : Nat, (v2 = (List.length (bytesAV (@catL UInt8 (bytesL xs) (encByte 0))))) → tt ∧ T1 ∧ tt ∧ tt ∧ T1 ∧ tt ∧ tt ∧ T1 ∧ tt ∧ tt ∧ T1 ∧ tt ∧ tt ∧ T1 ∧ tt ∧ tt ∧ T1 ∧ tt ∧ tt ∧ tt ∧ ((0 < 1 ∧ (bytesAV (@catL UInt8 (bytesL xs) (encC (CmdP.mk 0 num foot rq path mode n time)))) = v0 ∧ v2 = (List.length v0)) ∧ True) ∧ tt)) : inCputK0 k num foot rq path mode n time xs p q :=
  Eq.mp (show _ = _ by kernel_rfl) h
theorem vcCputK1 (k : Int) (num : Int) (foot : (List UInt8)) (rq : Int) (path : (List UInt8)) (mode : Int) (n : Int) (time : Int) (xs : (List AV)) (p : Nat) (q : Nat) (h : (tt ∧ T1 ∧ tt ∧ tt ∧ (T1 ∧ ((List.length foot) ≤ 900000 ∧ (List.length path) ≤ 900000) ∧ (rightC (CmdP.mk 1 num foot rq path mode n time)) = true) ∧ T1 ∧ tt ∧ T1 ∧ tt ∧ (T1 ∧ True) ∧ T1 ∧ T1 ∧ T1 ∧ T1 ∧ tt ∧ T1 ∧ tt ∧ T1 ∧ T1 ∧ tt ∧ T1 ∧ (((List.length xs) = (List.length xs) ∧ True) ∧ (isBytes xs) ∧ ((List.length xs) + 1) ≤ 140737488355328) ∧ ∀ v0 : (List AV), (v0 = (bytesAV (@catL UInt8 (bytesL xs) (encByte 1)))) → ∀ v2 : Nat, (v2 = (List.length (bytesAV (@catL UInt8 (bytesL xs) (encByte 1))))) → tt ∧ T1 ∧ tt ∧ tt ∧ T1 ∧ T1 ∧ T1 ∧ tt ∧ ((v2 = (List.length v0) ∧ True) ∧ (isBytes v0) ∧ ((List.length v0) + 8) ≤ 140737488355328) ∧ ∀ v4 : (List AV), (v4 = (bytesAV (@catL UInt8 (bytesL v0) (bytesOf num (cap8 8))))) → ∀ v6 : Nat, (v6 = (List.length (bytesAV (@catL UInt8 (bytesL v0) (bytesOf num (cap8 8)))))) → T1 ∧ T1 ∧ tt ∧ ((v6 = (List.length v4) ∧ True) ∧ (isBytes v4) ∧ (((List.length v4) + (List.length foot)) + 10) ≤ 140737488355328) ∧ ∀ v8 : (List AV), (v8 = (bytesAV (@catL UInt8 (bytesL v4) (encText foot)))) → ∀ v10 : Nat, (v10 = (List.length (bytesAV (@catL UInt8 (bytesL v4) (encText foot))))) → tt ∧ tt ∧ T1 ∧ tt ∧ tt ∧ T1 ∧ T1 ∧ tt ∧ ((v10 = (List.length v8) ∧ True) ∧ (isBytes v8) ∧ ((List.length v8) + 10) ≤ 140737488355328) ∧ ∀ v12 : (List AV), (v12 = (bytesAV (@catL UInt8 (bytesL v8) (short (Int.toNat rq))))) → ∀ v14 : Nat, (v14 = (List.length (bytesAV (@catL UInt8 (bytesL v8) (short (Int.toNat rq)))))) → tt ∧ T1 ∧ tt ∧ tt ∧ T1 ∧ tt ∧ tt ∧ T1 ∧ tt ∧ tt ∧ T1 ∧ T1 ∧ tt ∧ ((v14 = (List.length v12) ∧ True) ∧ (isBytes v12) ∧ ((List.length v12) + 10) ≤ 140737488355328) ∧ ∀ v16 : (List AV), (v16 = (bytesAV (@catL UInt8 (bytesL v12) (short (Int.toNat n))))) → ∀ v18 : Nat, (v18 = (List.length (bytesAV (@catL UInt8 (bytesL v12) (short (Int.toNat n)))))) → tt ∧ T1 ∧ tt ∧ tt ∧ T1 ∧ T1 ∧ tt ∧ T1 ∧ ((v18 = (List.length v16) ∧ True) ∧ (isBytes v16) ∧ ((List.length v16) + 10) ≤ 140737488355328) ∧ ∀ v20 : (List AV), (v20 = (bytesAV (@catL UInt8 (bytesL v16) (short (Int.toNat (IntKind.wrap IntKind.u64 time)))))) → ∀ v22 : Nat, (v22 = (List.length (bytesAV (@catL UInt8 (bytesL v16) (short (Int.toNat (IntKind.wrap IntKind.u64 time))))))) → tt ∧ tt ∧ ((0 < 1 ∧ (bytesAV (@catL UInt8 (bytesL xs) (encC (CmdP.mk 1 num foot rq path mode n time)))) = v20 ∧ v22 = (List.length v20)) ∧ True) ∧ tt)) : inCputK1 k num foot rq path mode n time xs p q :=
  Eq.mp (show _ = _ by kernel_rfl) h
theorem vcCputK2 (k : Int) (num : Int) (foot : (List UInt8)) (rq : Int) (path : (List UInt8)) (mode : Int) (n : Int) (time : Int) (xs : (List AV)) (p : Nat) (q : Nat) (h : (tt ∧ T1 ∧ tt ∧ tt ∧ (T1 ∧ ((List.length foot) ≤ 900000 ∧ (List.length path) ≤ 900000) ∧ (rightC (CmdP.mk 2 num foot rq path mode n time)) = true) ∧ T1 ∧ tt ∧ T1 ∧ tt ∧ (T1 ∧ True) ∧ T1 ∧ T1 ∧ T1 ∧ T1 ∧ tt ∧ T1 ∧ tt ∧ T1 ∧ T1 ∧ tt ∧ T1 ∧ (((List.length xs) = (List.length xs) ∧ True) ∧ (isBytes xs) ∧ ((List.length xs) + 1) ≤ 140737488355328) ∧ ∀ v0 : (List AV), (v0 = (bytesAV (@catL UInt8 (bytesL xs) (encByte 2)))) → ∀ v2 : Nat, (v2 = (List.length (bytesAV (@catL UInt8 (bytesL xs) (encByte 2))))) → tt ∧ T1 ∧ tt ∧ tt ∧ T1 ∧ T1 ∧ T1 ∧ tt ∧ ((v2 = (List.length v0) ∧ True) ∧ (isBytes v0) ∧ ((List.length v0) + 8) ≤ 140737488355328) ∧ ∀ v4 : (List AV), (v4 = (bytesAV (@catL UInt8 (bytesL v0) (bytesOf num (cap8 8))))) → ∀ v6 : Nat, (v6 = (List.length (bytesAV (@catL UInt8 (bytesL v0) (bytesOf num (cap8 8)))))) → T1 ∧ T1 ∧ tt ∧ ((v6 = (List.length v4) ∧ True) ∧ (isBytes v4) ∧ (((List.length v4) + (List.length foot)) + 10) ≤ 140737488355328) ∧ ∀ v8 : (List AV), (v8 = (bytesAV (@catL UInt8 (bytesL v4) (encText foot)))) → ∀ v10 : Nat, (v10 = (List.length (bytesAV (@catL UInt8 (bytesL v4) (encText foot))))) → tt ∧ tt ∧ T1 ∧ tt ∧ tt ∧ T1 ∧ T1 ∧ tt ∧ ((v10 = (List.length v8) ∧ True) ∧ (isBytes v8) ∧ ((List.length v8) + 10) ≤ 140737488355328) ∧ ∀ v12 : (List AV), (v12 = (bytesAV (@catL UInt8 (bytesL v8) (short (Int.toNat rq))))) → ∀ v14 : Nat, (v14 = (List.length (bytesAV (@catL UInt8 (bytesL v8) (short (Int.toNat rq)))))) → tt ∧ T1 ∧ tt ∧ tt ∧ T1 ∧ tt ∧ tt ∧ T1 ∧ tt ∧ tt ∧ T1 ∧ tt ∧ tt ∧ tt ∧ ((0 < 1 ∧ (bytesAV (@catL UInt8 (bytesL xs) (encC (CmdP.mk 2 num foot rq path mode n time)))) = v12 ∧ v14 = (List.length v12)) ∧ True) ∧ tt)) : inCputK2 k num foot rq path mode n time xs p q :=
  Eq.mp (show _ = _ by kernel_rfl) h
theorem vcCputK3 (k : Int) (num : Int) (foot : (List UInt8)) (rq : Int) (path : (List UInt8)) (mode : Int) (n : Int) (time : Int) (xs : (List AV)) (p : Nat) (q : Nat) (h : (tt ∧ T1 ∧ tt ∧ tt ∧ (T1 ∧ ((List.length foot) ≤ 900000 ∧ (List.length path) ≤ 900000) ∧ (rightC (CmdP.mk 3 num foot rq path mode n time)) = true) ∧ T1 ∧ tt ∧ T1 ∧ tt ∧ (T1 ∧ True) ∧ T1 ∧ T1 ∧ T1 ∧ T1 ∧ tt ∧ T1 ∧ tt ∧ T1 ∧ T1 ∧ tt ∧ T1 ∧ (((List.length xs) = (List.length xs) ∧ True) ∧ (isBytes xs) ∧ ((List.length xs) + 1) ≤ 140737488355328) ∧ ∀ v0 : (List AV), (v0 = (bytesAV (@catL UInt8 (bytesL xs) (encByte 3)))) → ∀ v2 : Nat, (v2 = (List.length (bytesAV (@catL UInt8 (bytesL xs) (encByte 3))))) → tt ∧ T1 ∧ tt ∧ tt ∧ T1 ∧ T1 ∧ T1 ∧ tt ∧ ((v2 = (List.length v0) ∧ True) ∧ (isBytes v0) ∧ ((List.length v0) + 8) ≤ 140737488355328) ∧ ∀ v4 : (List AV), (v4 = (bytesAV (@catL UInt8 (bytesL v0) (bytesOf num (cap8 8))))) → ∀ v6 : Nat, (v6 = (List.length (bytesAV (@catL UInt8 (bytesL v0) (bytesOf num (cap8 8)))))) → T1 ∧ T1 ∧ tt ∧ ((v6 = (List.length v4) ∧ True) ∧ (isBytes v4) ∧ (((List.length v4) + (List.length foot)) + 10) ≤ 140737488355328) ∧ ∀ v8 : (List AV), (v8 = (bytesAV (@catL UInt8 (bytesL v4) (encText foot)))) → ∀ v10 : Nat, (v10 = (List.length (bytesAV (@catL UInt8 (bytesL v4) (encText foot))))) → tt ∧ tt ∧ T1 ∧ tt ∧ tt ∧ T1 ∧ T1 ∧ tt ∧ ((v10 = (List.length v8) ∧ True) ∧ (isBytes v8) ∧ ((List.length v8) + 10) ≤ 140737488355328) ∧ ∀ v12 : (List AV), (v12 = (bytesAV (@catL UInt8 (bytesL v8) (short (Int.toNat rq))))) → ∀ v14 : Nat, (v14 = (List.length (bytesAV (@catL UInt8 (bytesL v8) (short (Int.toNat rq)))))) → tt ∧ T1 ∧ tt ∧ tt ∧ T1 ∧ tt ∧ tt ∧ T1 ∧ tt ∧ tt ∧ T1 ∧ tt ∧ tt ∧ T1 ∧ T1 ∧ tt ∧ T1 ∧ ((v14 = (List.length v12) ∧ True) ∧ (isBytes v12) ∧ ((List.length v12) + 10) ≤ 140737488355328) ∧ ∀ v16 : (List AV), (v16 = (bytesAV (@catL UInt8 (bytesL v12) (short (Int.toNat (IntKind.wrap IntKind.u64 time)))))) → ∀ v18 : Nat, (v18 = (List.length (bytesAV (@catL UInt8 (bytesL v12) (short (Int.toNat (IntKind.wrap IntKind.u64 time))))))) → tt ∧ tt ∧ ((0 < 1 ∧ (bytesAV (@catL UInt8 (bytesL xs) (encC (CmdP.mk 3 num foot rq path mode n time)))) = v16 ∧ v18 = (List.length v16)) ∧ True) ∧ tt)) : inCputK3 k num foot rq path mode n time xs p q :=
  Eq.mp (show _ = _ by kernel_rfl) h
theorem vcCputK4 (k : Int) (num : Int) (foot : (List UInt8)) (rq : Int) (path : (List UInt8)) (mode : Int) (n : Int) (time : Int) (xs : (List AV)) (p : Nat) (q : Nat) (h : (tt ∧ T1 ∧ tt ∧ tt ∧ (T1 ∧ ((List.length foot) ≤ 900000 ∧ (List.length path) ≤ 900000) ∧ (rightC (CmdP.mk 4 num foot rq path mode n time)) = true) ∧ T1 ∧ tt ∧ T1 ∧ tt ∧ (T1 ∧ True) ∧ T1 ∧ T1 ∧ T1 ∧ T1 ∧ tt ∧ T1 ∧ tt ∧ T1 ∧ T1 ∧ tt ∧ T1 ∧ (((List.length xs) = (List.length xs) ∧ True) ∧ (isBytes xs) ∧ ((List.length xs) + 1) ≤ 140737488355328) ∧ ∀ v0 : (List AV), (v0 = (bytesAV (@catL UInt8 (bytesL xs) (encByte 4)))) → ∀ v2 : Nat, (v2 = (List.length (bytesAV (@catL UInt8 (bytesL xs) (encByte 4))))) → tt ∧ T1 ∧ tt ∧ tt ∧ T1 ∧ T1 ∧ T1 ∧ tt ∧ ((v2 = (List.length v0) ∧ True) ∧ (isBytes v0) ∧ ((List.length v0) + 8) ≤ 140737488355328) ∧ ∀ v4 : (List AV), (v4 = (bytesAV (@catL UInt8 (bytesL v0) (bytesOf num (cap8 8))))) → ∀ v6 : Nat, (v6 = (List.length (bytesAV (@catL UInt8 (bytesL v0) (bytesOf num (cap8 8)))))) → T1 ∧ T1 ∧ tt ∧ ((v6 = (List.length v4) ∧ True) ∧ (isBytes v4) ∧ (((List.length v4) + (List.length foot)) + 10) ≤ 140737488355328) ∧ ∀ v8 : (List AV), (v8 = (bytesAV (@catL UInt8 (bytesL v4) (encText foot)))) → ∀ v10 : Nat, (v10 = (List.length (bytesAV (@catL UInt8 (bytesL v4) (encText foot))))) → tt ∧ tt ∧ T1 ∧ tt ∧ tt ∧ T1 ∧ T1 ∧ tt ∧ ((v10 = (List.length v8) ∧ True) ∧ (isBytes v8) ∧ ((List.length v8) + 10) ≤ 140737488355328) ∧ ∀ v12 : (List AV), (v12 = (bytesAV (@catL UInt8 (bytesL v8) (short (Int.toNat rq))))) → ∀ v14 : Nat, (v14 = (List.length (bytesAV (@catL UInt8 (bytesL v8) (short (Int.toNat rq)))))) → tt ∧ T1 ∧ tt ∧ tt ∧ T1 ∧ T1 ∧ tt ∧ ((v14 = (List.length v12) ∧ True) ∧ (isBytes v12) ∧ (((List.length v12) + (List.length path)) + 10) ≤ 140737488355328) ∧ ∀ v16 : (List AV), (v16 = (bytesAV (@catL UInt8 (bytesL v12) (encText path)))) → ∀ v18 : Nat, (v18 = (List.length (bytesAV (@catL UInt8 (bytesL v12) (encText path))))) → tt ∧ T1 ∧ tt ∧ tt ∧ T1 ∧ T1 ∧ tt ∧ T1 ∧ ((v18 = (List.length v16) ∧ True) ∧ (isBytes v16) ∧ ((List.length v16) + 1) ≤ 140737488355328) ∧ ∀ v20 : (List AV), (v20 = (bytesAV (@catL UInt8 (bytesL v16) (encByte (IntKind.wrap IntKind.u8 mode))))) → ∀ v22 : Nat, (v22 = (List.length (bytesAV (@catL UInt8 (bytesL v16) (encByte (IntKind.wrap IntKind.u8 mode)))))) → tt ∧ T1 ∧ tt ∧ tt ∧ T1 ∧ tt ∧ tt ∧ tt ∧ ((0 < 1 ∧ (bytesAV (@catL UInt8 (bytesL xs) (encC (CmdP.mk 4 num foot rq path mode n time)))) = v20 ∧ v22 = (List.length v20)) ∧ True) ∧ tt)) : inCputK4 k num foot rq path mode n time xs p q :=
  Eq.mp (show _ = _ by kernel_rfl) h
theorem vcCputK5 (k : Int) (num : Int) (foot : (List UInt8)) (rq : Int) (path : (List UInt8)) (mode : Int) (n : Int) (time : Int) (xs : (List AV)) (p : Nat) (q : Nat) (h : (tt ∧ T1 ∧ tt ∧ tt ∧ (T1 ∧ ((List.length foot) ≤ 900000 ∧ (List.length path) ≤ 900000) ∧ (rightC (CmdP.mk 5 num foot rq path mode n time)) = true) ∧ T1 ∧ tt ∧ T1 ∧ tt ∧ (T1 ∧ True) ∧ T1 ∧ T1 ∧ T1 ∧ T1 ∧ tt ∧ T1 ∧ tt ∧ T1 ∧ T1 ∧ tt ∧ T1 ∧ (((List.length xs) = (List.length xs) ∧ True) ∧ (isBytes xs) ∧ ((List.length xs) + 1) ≤ 140737488355328) ∧ ∀ v0 : (List AV), (v0 = (bytesAV (@catL UInt8 (bytesL xs) (encByte 5)))) → ∀ v2 : Nat, (v2 = (List.length (bytesAV (@catL UInt8 (bytesL xs) (encByte 5))))) → tt ∧ T1 ∧ tt ∧ tt ∧ T1 ∧ T1 ∧ T1 ∧ tt ∧ ((v2 = (List.length v0) ∧ True) ∧ (isBytes v0) ∧ ((List.length v0) + 8) ≤ 140737488355328) ∧ ∀ v4 : (List AV), (v4 = (bytesAV (@catL UInt8 (bytesL v0) (bytesOf num (cap8 8))))) → ∀ v6 : Nat, (v6 = (List.length (bytesAV (@catL UInt8 (bytesL v0) (bytesOf num (cap8 8)))))) → T1 ∧ T1 ∧ tt ∧ ((v6 = (List.length v4) ∧ True) ∧ (isBytes v4) ∧ (((List.length v4) + (List.length foot)) + 10) ≤ 140737488355328) ∧ ∀ v8 : (List AV), (v8 = (bytesAV (@catL UInt8 (bytesL v4) (encText foot)))) → ∀ v10 : Nat, (v10 = (List.length (bytesAV (@catL UInt8 (bytesL v4) (encText foot))))) → tt ∧ tt ∧ T1 ∧ tt ∧ tt ∧ T1 ∧ T1 ∧ tt ∧ ((v10 = (List.length v8) ∧ True) ∧ (isBytes v8) ∧ ((List.length v8) + 10) ≤ 140737488355328) ∧ ∀ v12 : (List AV), (v12 = (bytesAV (@catL UInt8 (bytesL v8) (short (Int.toNat rq))))) → ∀ v14 : Nat, (v14 = (List.length (bytesAV (@catL UInt8 (bytesL v8) (short (Int.toNat rq)))))) → tt ∧ T1 ∧ tt ∧ tt ∧ T1 ∧ T1 ∧ tt ∧ ((v14 = (List.length v12) ∧ True) ∧ (isBytes v12) ∧ (((List.length v12) + (List.length path)) + 10) ≤ 140737488355328) ∧ ∀ v16 : (List AV), (v16 = (bytesAV (@catL UInt8 (bytesL v12) (encText path)))) → ∀ v18 : Nat, (v18 = (List.length (bytesAV (@catL UInt8 (bytesL v12) (encText path))))) → tt ∧ T1 ∧ tt ∧ tt ∧ T1 ∧ T1 ∧ tt ∧ T1 ∧ ((v18 = (List.length v16) ∧ True) ∧ (isBytes v16) ∧ ((List.length v16) + 1) ≤ 140737488355328) ∧ ∀ v20 : (List AV), (v20 = (bytesAV (@catL UInt8 (bytesL v16) (encByte (IntKind.wrap IntKind.u8 mode))))) → ∀ v22 : Nat, (v22 = (List.length (bytesAV (@catL UInt8 (bytesL v16) (encByte (IntKind.wrap IntKind.u8 mode)))))) → tt ∧ T1 ∧ tt ∧ tt ∧ T1 ∧ tt ∧ tt ∧ tt ∧ ((0 < 1 ∧ (bytesAV (@catL UInt8 (bytesL xs) (encC (CmdP.mk 5 num foot rq path mode n time)))) = v20 ∧ v22 = (List.length v20)) ∧ True) ∧ tt)) : inCputK5 k num foot rq path mode n time xs p q :=
  Eq.mp (show _ = _ by kernel_rfl) h
theorem vcCputK6 (k : Int) (num : Int) (foot : (List UInt8)) (rq : Int) (path : (List UInt8)) (mode : Int) (n : Int) (time : Int) (xs : (List AV)) (p : Nat) (q : Nat) (h : (tt ∧ T1 ∧ tt ∧ tt ∧ (T1 ∧ ((List.length foot) ≤ 900000 ∧ (List.length path) ≤ 900000) ∧ (rightC (CmdP.mk 6 num foot rq path mode n time)) = true) ∧ T1 ∧ tt ∧ T1 ∧ tt ∧ (T1 ∧ True) ∧ T1 ∧ T1 ∧ T1 ∧ T1 ∧ tt ∧ T1 ∧ tt ∧ T1 ∧ T1 ∧ tt ∧ T1 ∧ (((List.length xs) = (List.length xs) ∧ True) ∧ (isBytes xs) ∧ ((List.length xs) + 1) ≤ 140737488355328) ∧ ∀ v0 : (List AV), (v0 = (bytesAV (@catL UInt8 (bytesL xs) (encByte 6)))) → ∀ v2 : Nat, (v2 = (List.length (bytesAV (@catL UInt8 (bytesL xs) (encByte 6))))) → tt ∧ T1 ∧ tt ∧ tt ∧ T1 ∧ T1 ∧ T1 ∧ tt ∧ ((v2 = (List.length v0) ∧ True) ∧ (isBytes v0) ∧ ((List.length v0) + 8) ≤ 140737488355328) ∧ ∀ v4 : (List AV), (v4 = (bytesAV (@catL UInt8 (bytesL v0) (bytesOf num (cap8 8))))) → ∀ v6 : Nat, (v6 = (List.length (bytesAV (@catL UInt8 (bytesL v0) (bytesOf num (cap8 8)))))) → T1 ∧ T1 ∧ tt ∧ ((v6 = (List.length v4) ∧ True) ∧ (isBytes v4) ∧ (((List.length v4) + (List.length foot)) + 10) ≤ 140737488355328) ∧ ∀ v8 : (List AV), (v8 = (bytesAV (@catL UInt8 (bytesL v4) (encText foot)))) → ∀ v10 : Nat, (v10 = (List.length (bytesAV (@catL UInt8 (bytesL v4) (encText foot))))) → tt ∧ tt ∧ T1 ∧ tt ∧ tt ∧ T1 ∧ T1 ∧ tt ∧ ((v10 = (List.length v8) ∧ True) ∧ (isBytes v8) ∧ ((List.length v8) + 10) ≤ 140737488355328) ∧ ∀ v12 : (List AV), (v12 = (bytesAV (@catL UInt8 (bytesL v8) (short (Int.toNat rq))))) → ∀ v14 : Nat, (v14 = (List.length (bytesAV (@catL UInt8 (bytesL v8) (short (Int.toNat rq)))))) → tt ∧ T1 ∧ tt ∧ tt ∧ T1 ∧ T1 ∧ tt ∧ ((v14 = (List.length v12) ∧ True) ∧ (isBytes v12) ∧ (((List.length v12) + (List.length path)) + 10) ≤ 140737488355328) ∧ ∀ v16 : (List AV), (v16 = (bytesAV (@catL UInt8 (bytesL v12) (encText path)))) → ∀ v18 : Nat, (v18 = (List.length (bytesAV (@catL UInt8 (bytesL v12) (encText path))))) → tt ∧ T1 ∧ tt ∧ tt ∧ T1 ∧ tt ∧ tt ∧ T1 ∧ tt ∧ tt ∧ tt ∧ ((0 < 1 ∧ (bytesAV (@catL UInt8 (bytesL xs) (encC (CmdP.mk 6 num foot rq path mode n time)))) = v16 ∧ v18 = (List.length v16)) ∧ True) ∧ tt)) : inCputK6 k num foot rq path mode n time xs p q :=
  Eq.mp (show _ = _ by kernel_rfl) h
theorem vcCputK7 (k : Int) (num : Int) (foot : (List UInt8)) (rq : Int) (path : (List UInt8)) (mode : Int) (n : Int) (time : Int) (xs : (List AV)) (p : Nat) (q : Nat) (h : (tt ∧ T1 ∧ tt ∧ tt ∧ (T1 ∧ ((List.length foot) ≤ 900000 ∧ (List.length path) ≤ 900000) ∧ (rightC (CmdP.mk 7 num foot rq path mode n time)) = true) ∧ T1 ∧ tt ∧ T1 ∧ tt ∧ (T1 ∧ True) ∧ T1 ∧ T1 ∧ T1 ∧ T1 ∧ tt ∧ T1 ∧ tt ∧ T1 ∧ T1 ∧ tt ∧ T1 ∧ (((List.length xs) = (List.length xs) ∧ True) ∧ (isBytes xs) ∧ ((List.length xs) + 1) ≤ 140737488355328) ∧ ∀ v0 : (List AV), (v0 = (bytesAV (@catL UInt8 (bytesL xs) (encByte 7)))) → ∀ v2 : Nat, (v2 = (List.length (bytesAV (@catL UInt8 (bytesL xs) (encByte 7))))) → tt ∧ T1 ∧ tt ∧ tt ∧ T1 ∧ T1 ∧ T1 ∧ tt ∧ ((v2 = (List.length v0) ∧ True) ∧ (isBytes v0) ∧ ((List.length v0) + 8) ≤ 140737488355328) ∧ ∀ v4 : (List AV), (v4 = (bytesAV (@catL UInt8 (bytesL v0) (bytesOf num (cap8 8))))) → ∀ v6 : Nat, (v6 = (List.length (bytesAV (@catL UInt8 (bytesL v0) (bytesOf num (cap8 8)))))) → T1 ∧ T1 ∧ tt ∧ ((v6 = (List.length v4) ∧ True) ∧ (isBytes v4) ∧ (((List.length v4) + (List.length foot)) + 10) ≤ 140737488355328) ∧ ∀ v8 : (List AV), (v8 = (bytesAV (@catL UInt8 (bytesL v4) (encText foot)))) → ∀ v10 : Nat, (v10 = (List.length (bytesAV (@catL UInt8 (bytesL v4) (encText foot))))) → tt ∧ tt ∧ T1 ∧ tt ∧ tt ∧ T1 ∧ T1 ∧ tt ∧ ((v10 = (List.length v8) ∧ True) ∧ (isBytes v8) ∧ ((List.length v8) + 10) ≤ 140737488355328) ∧ ∀ v12 : (List AV), (v12 = (bytesAV (@catL UInt8 (bytesL v8) (short (Int.toNat rq))))) → ∀ v14 : Nat, (v14 = (List.length (bytesAV (@catL UInt8 (bytesL v8) (short (Int.toNat rq)))))) → tt ∧ T1 ∧ tt ∧ tt ∧ T1 ∧ T1 ∧ tt ∧ ((v14 = (List.length v12) ∧ True) ∧ (isBytes v12) ∧ (((List.length v12) + (List.length path)) + 10) ≤ 140737488355328) ∧ ∀ v16 : (List AV), (v16 = (bytesAV (@catL UInt8 (bytesL v12) (encText path)))) → ∀ v18 : Nat, (v18 = (List.length (bytesAV (@catL UInt8 (bytesL v12) (encText path))))) → tt ∧ T1 ∧ tt ∧ tt ∧ T1 ∧ tt ∧ tt ∧ T1 ∧ T1 ∧ tt ∧ ((v18 = (List.length v16) ∧ True) ∧ (isBytes v16) ∧ ((List.length v16) + 10) ≤ 140737488355328) ∧ ∀ v20 : (List AV), (v20 = (bytesAV (@catL UInt8 (bytesL v16) (short (Int.toNat n))))) → ∀ v22 : Nat, (v22 = (List.length (bytesAV (@catL UInt8 (bytesL v16) (short (Int.toNat n)))))) → tt ∧ T1 ∧ tt ∧ tt ∧ tt ∧ ((0 < 1 ∧ (bytesAV (@catL UInt8 (bytesL xs) (encC (CmdP.mk 7 num foot rq path mode n time)))) = v20 ∧ v22 = (List.length v20)) ∧ True) ∧ tt)) : inCputK7 k num foot rq path mode n time xs p q :=
  Eq.mp (show _ = _ by kernel_rfl) h
theorem vcCputK8 (k : Int) (num : Int) (foot : (List UInt8)) (rq : Int) (path : (List UInt8)) (mode : Int) (n : Int) (time : Int) (xs : (List AV)) (p : Nat) (q : Nat) (h : (tt ∧ T1 ∧ tt ∧ tt ∧ (T1 ∧ ((List.length foot) ≤ 900000 ∧ (List.length path) ≤ 900000) ∧ (rightC (CmdP.mk 8 num foot rq path mode n time)) = true) ∧ T1 ∧ tt ∧ T1 ∧ tt ∧ (T1 ∧ True) ∧ T1 ∧ T1 ∧ T1 ∧ T1 ∧ tt ∧ T1 ∧ tt ∧ T1 ∧ T1 ∧ tt ∧ T1 ∧ (((List.length xs) = (List.length xs) ∧ True) ∧ (isBytes xs) ∧ ((List.length xs) + 1) ≤ 140737488355328) ∧ ∀ v0 : (List AV), (v0 = (bytesAV (@catL UInt8 (bytesL xs) (encByte 8)))) → ∀ v2 : Nat, (v2 = (List.length (bytesAV (@catL UInt8 (bytesL xs) (encByte 8))))) → tt ∧ T1 ∧ tt ∧ tt ∧ T1 ∧ T1 ∧ T1 ∧ tt ∧ ((v2 = (List.length v0) ∧ True) ∧ (isBytes v0) ∧ ((List.length v0) + 8) ≤ 140737488355328) ∧ ∀ v4 : (List AV), (v4 = (bytesAV (@catL UInt8 (bytesL v0) (bytesOf num (cap8 8))))) → ∀ v6 : Nat, (v6 = (List.length (bytesAV (@catL UInt8 (bytesL v0) (bytesOf num (cap8 8)))))) → T1 ∧ T1 ∧ tt ∧ ((v6 = (List.length v4) ∧ True) ∧ (isBytes v4) ∧ (((List.length v4) + (List.length foot)) + 10) ≤ 140737488355328) ∧ ∀ v8 : (List AV), (v8 = (bytesAV (@catL UInt8 (bytesL v4) (encText foot)))) → ∀ v10 : Nat, (v10 = (List.length (bytesAV (@catL UInt8 (bytesL v4) (encText foot))))) → tt ∧ tt ∧ T1 ∧ tt ∧ tt ∧ T1 ∧ tt ∧ tt ∧ T1 ∧ tt ∧ tt ∧ T1 ∧ tt ∧ tt ∧ T1 ∧ tt ∧ tt ∧ T1 ∧ T1 ∧ tt ∧ T1 ∧ ((v10 = (List.length v8) ∧ True) ∧ (isBytes v8) ∧ ((List.length v8) + 10) ≤ 140737488355328) ∧ ∀ v12 : (List AV), (v12 = (bytesAV (@catL UInt8 (bytesL v8) (short (Int.toNat (IntKind.wrap IntKind.u64 time)))))) → ∀ v14 : Nat, (v14 = (List.length (bytesAV (@catL UInt8 (bytesL v8) (short (Int.toNat (IntKind.wrap IntKind.u64 time))))))) → tt ∧ tt ∧ ((0 < 1 ∧ (bytesAV (@catL UInt8 (bytesL xs) (encC (CmdP.mk 8 num foot rq path mode n time)))) = v12 ∧ v14 = (List.length v12)) ∧ True) ∧ tt)) : inCputK8 k num foot rq path mode n time xs p q :=
  Eq.mp (show _ = _ by kernel_rfl) h
theorem vcFieldsK0 (xs : (List AV)) (e : Int) (k : Int) (h : let q0 := (bytesL xs); (tt ∧ T1 ∧ T1 ∧ tt ∧ T1 ∧ T1 ∧ T1 ∧ tt ∧ tt ∧ T1 ∧ tt ∧ tt ∧ T1 ∧ tt ∧ tt ∧ T1 ∧ tt ∧ tt ∧ T1 ∧ tt ∧ tt ∧ T1 ∧ tt ∧ tt ∧ T1 ∧ tt ∧ tt ∧ tt ∧ tt ∧ tt ∧ tt ∧ ((bytesAV (fR q0 e k)) = xs ∧ (fE q0 e k) = e ∧ k = k ∧ (vNum q0 e k) = 0 ∧ (vFoot q0 e k) = [] ∧ (vRq q0 e k) = 0 ∧ (vPath q0 e k) = [] ∧ (vMode q0 e k) = 0 ∧ (vN q0 e k) = 0 ∧ (vTime q0 e k) = 0 ∧ True) ∧ tt)) : inFieldsK0 xs e k :=
  Eq.mp (show _ = _ by kernel_rfl) h
theorem vcFieldsK1 (xs : (List AV)) (e : Int) (h : let q0 := (bytesL xs); (tt ∧ T1 ∧ T1 ∧ tt ∧ T1 ∧ T1 ∧ T1 ∧ tt ∧ tt ∧ T1 ∧ tt ∧ tt ∧ T1 ∧ (T1 ∧ (isBytes xs)) ∧ ∀ v0 : Int, (v0 = ((val8 (tkOut q0 e 8)) : Int)) → ∀ v2 : (List AV), (v2 = (bytesAV (tkRest q0 e 8))) → ∀ v4 : Int, (v4 = (tkErr (List.length q0) e 8)) → T1 ∧ T1 ∧ tt ∧ tt ∧ T1 ∧ (T1 ∧ (isBytes v2)) ∧ ∀ v6 : (List UInt8), (v6 = (inTextV (bytesL v2) v4 64)) → ∀ v8 : (List AV), (v8 = (bytesAV (inTextR (bytesL v2) v4 64))) → ∀ v10 : Int, (v10 = (inTextE (bytesL v2) v4 64)) → T1 ∧ T1 ∧ tt ∧ tt ∧ T1 ∧ tt ∧ tt ∧ T1 ∧ (T1 ∧ (isBytes v8)) ∧ ∀ v12 : Int, (v12 = (shV (bytesL v8) v10 18446744073709551615)) → ∀ v14 : (List AV), (v14 = (bytesAV (shRest (bytesL v8) v10 18446744073709551615))) → ∀ v16 : Int, (v16 = (shErr (bytesL v8) v10 18446744073709551615)) → T1 ∧ tt ∧ tt ∧ T1 ∧ tt ∧ tt ∧ T1 ∧ tt ∧ tt ∧ T1 ∧ tt ∧ tt ∧ T1 ∧ (T1 ∧ (isBytes v14)) ∧ ∀ v18 : Int, (v18 = (shV (bytesL v14) v16 18446744073709551615)) → ∀ v20 : (List AV), (v20 = (bytesAV (shRest (bytesL v14) v16 18446744073709551615))) → ∀ v22 : Int, (v22 = (shErr (bytesL v14) v16 18446744073709551615)) → T1 ∧ tt ∧ tt ∧ T1 ∧ tt ∧ tt ∧ T1 ∧ (T1 ∧ (isBytes v20)) ∧ ∀ v24 : Int, (v24 = (shV (bytesL v20) v22 1099511627776)) → ∀ v26 : (List AV), (v26 = (bytesAV (shRest (bytesL v20) v22 1099511627776))) → ∀ v28 : Int, (v28 = (shErr (bytesL v20) v22 1099511627776)) → T1 ∧ T1 ∧ tt ∧ tt ∧ tt ∧ tt ∧ tt ∧ tt ∧ ((bytesAV (fR q0 e 1)) = v26 ∧ (fE q0 e 1) = v28 ∧ (1 : Int) = 1 ∧ (vNum q0 e 1) = v0 ∧ (vFoot q0 e 1) = v6 ∧ (vRq q0 e 1) = v12 ∧ (vPath q0 e 1) = [] ∧ (vMode q0 e 1) = 0 ∧ (vN q0 e 1) = v18 ∧ (vTime q0 e 1) = (IntKind.wrap IntKind.i64 v24) ∧ True) ∧ tt)) : inFieldsK1 xs e :=
  Eq.mp (show _ = _ by kernel_rfl) h
theorem vcFieldsK2 (xs : (List AV)) (e : Int) (h : let q0 := (bytesL xs); (tt ∧ T1 ∧ T1 ∧ tt ∧ T1 ∧ T1 ∧ T1 ∧ tt ∧ tt ∧ T1 ∧ tt ∧ tt ∧ T1 ∧ (T1 ∧ (isBytes xs)) ∧ ∀ v0 : Int, (v0 = ((val8 (tkOut q0 e 8)) : Int)) → ∀ v2 : (List AV), (v2 = (bytesAV (tkRest q0 e 8))) → ∀ v4 : Int, (v4 = (tkErr (List.length q0) e 8)) → T1 ∧ T1 ∧ tt ∧ tt ∧ T1 ∧ (T1 ∧ (isBytes v2)) ∧ ∀ v6 : (List UInt8), (v6 = (inTextV (bytesL v2) v4 64)) → ∀ v8 : (List AV), (v8 = (bytesAV (inTextR (bytesL v2) v4 64))) → ∀ v10 : Int, (v10 = (inTextE (bytesL v2) v4 64)) → T1 ∧ T1 ∧ tt ∧ tt ∧ T1 ∧ tt ∧ tt ∧ T1 ∧ (T1 ∧ (isBytes v8)) ∧ ∀ v12 : Int, (v12 = (shV (bytesL v8) v10 18446744073709551615)) → ∀ v14 : (List AV), (v14 = (bytesAV (shRest (bytesL v8) v10 18446744073709551615))) → ∀ v16 : Int, (v16 = (shErr (bytesL v8) v10 18446744073709551615)) → T1 ∧ tt ∧ tt ∧ T1 ∧ tt ∧ tt ∧ T1 ∧ tt ∧ tt ∧ T1 ∧ tt ∧ tt ∧ T1 ∧ tt ∧ tt ∧ tt ∧ tt ∧ tt ∧ tt ∧ ((bytesAV (fR q0 e 2)) = v14 ∧ (fE q0 e 2) = v16 ∧ (2 : Int) = 2 ∧ (vNum q0 e 2) = v0 ∧ (vFoot q0 e 2) = v6 ∧ (vRq q0 e 2) = v12 ∧ (vPath q0 e 2) = [] ∧ (vMode q0 e 2) = 0 ∧ (vN q0 e 2) = 0 ∧ (vTime q0 e 2) = 0 ∧ True) ∧ tt)) : inFieldsK2 xs e :=
  Eq.mp (show _ = _ by kernel_rfl) h
theorem vcFieldsK3 (xs : (List AV)) (e : Int) (h : let q0 := (bytesL xs); (tt ∧ T1 ∧ T1 ∧ tt ∧ T1 ∧ T1 ∧ T1 ∧ tt ∧ tt ∧ T1 ∧ tt ∧ tt ∧ T1 ∧ (T1 ∧ (isBytes xs)) ∧ ∀ v0 : Int, (v0 = ((val8 (tkOut q0 e 8)) : Int)) → ∀ v2 : (List AV), (v2 = (bytesAV (tkRest q0 e 8))) → ∀ v4 : Int, (v4 = (tkErr (List.length q0) e 8)) → T1 ∧ T1 ∧ tt ∧ tt ∧ T1 ∧ (T1 ∧ (isBytes v2)) ∧ ∀ v6 : (List UInt8), (v6 = (inTextV (bytesL v2) v4 64)) → ∀ v8 : (List AV), (v8 = (bytesAV (inTextR (bytesL v2) v4 64))) → ∀ v10 : Int, (v10 = (inTextE (bytesL v2) v4 64)) → T1 ∧ T1 ∧ tt ∧ tt ∧ T1 ∧ tt ∧ tt ∧ T1 ∧ (T1 ∧ (isBytes v8)) ∧ ∀ v12 : Int, (v12 = (shV (bytesL v8) v10 18446744073709551615)) → ∀ v14 : (List AV), (v14 = (bytesAV (shRest (bytesL v8) v10 18446744073709551615))) → ∀ v16 : Int, (v16 = (shErr (bytesL v8) v10 18446744073709551615)) → T1 ∧ tt ∧ tt ∧ T1 ∧ tt ∧ tt ∧ T1 ∧ tt ∧ tt ∧ T1 ∧ tt ∧ tt ∧ T1 ∧ tt ∧ tt ∧ T1 ∧ (T1 ∧ (isBytes v14)) ∧ ∀ v18 : Int, (v18 = (shV (bytesL v14) v16 1099511627776)) → ∀ v20 : (List AV), (v20 = (bytesAV (shRest (bytesL v14) v16 1099511627776))) → ∀ v22 : Int, (v22 = (shErr (bytesL v14) v16 1099511627776)) → T1 ∧ T1 ∧ tt ∧ tt ∧ tt ∧ tt ∧ tt ∧ tt ∧ ((bytesAV (fR q0 e 3)) = v20 ∧ (fE q0 e 3) = v22 ∧ (3 : Int) = 3 ∧ (vNum q0 e 3) = v0 ∧ (vFoot q0 e 3) = v6 ∧ (vRq q0 e 3) = v12 ∧ (vPath q0 e 3) = [] ∧ (vMode q0 e 3) = 0 ∧ (vN q0 e 3) = 0 ∧ (vTime q0 e 3) = (IntKind.wrap IntKind.i64 v18) ∧ True) ∧ tt)) : inFieldsK3 xs e :=
  Eq.mp (show _ = _ by kernel_rfl) h
theorem vcFieldsK4 (xs : (List AV)) (e : Int) (k : Int) (h : let q0 := (bytesL xs); (tt ∧ T1 ∧ T1 ∧ tt ∧ T1 ∧ T1 ∧ T1 ∧ tt ∧ tt ∧ T1 ∧ tt ∧ tt ∧ T1 ∧ (T1 ∧ (isBytes xs)) ∧ ∀ v0 : Int, (v0 = ((val8 (tkOut q0 e 8)) : Int)) → ∀ v2 : (List AV), (v2 = (bytesAV (tkRest q0 e 8))) → ∀ v4 : Int, (v4 = (tkErr (List.length q0) e 8)) → T1 ∧ T1 ∧ tt ∧ tt ∧ T1 ∧ (T1 ∧ (isBytes v2)) ∧ ∀ v6 : (List UInt8), (v6 = (inTextV (bytesL v2) v4 64)) → ∀ v8 : (List AV), (v8 = (bytesAV (inTextR (bytesL v2) v4 64))) → ∀ v10 : Int, (v10 = (inTextE (bytesL v2) v4 64)) → T1 ∧ T1 ∧ tt ∧ tt ∧ T1 ∧ tt ∧ tt ∧ T1 ∧ (T1 ∧ (isBytes v8)) ∧ ∀ v12 : Int, (v12 = (shV (bytesL v8) v10 18446744073709551615)) → ∀ v14 : (List AV), (v14 = (bytesAV (shRest (bytesL v8) v10 18446744073709551615))) → ∀ v16 : Int, (v16 = (shErr (bytesL v8) v10 18446744073709551615)) → T1 ∧ tt ∧ tt ∧ T1 ∧ tt ∧ tt ∧ T1 ∧ (T1 ∧ (isBytes v14)) ∧ ∀ v18 : (List UInt8), (v18 = (inTextV (bytesL v14) v16 64)) → ∀ v20 : (List AV), (v20 = (bytesAV (inTextR (bytesL v14) v16 64))) → ∀ v22 : Int, (v22 = (inTextE (bytesL v14) v16 64)) → T1 ∧ tt ∧ tt ∧ T1 ∧ tt ∧ tt ∧ T1 ∧ (T1 ∧ (isBytes v20)) ∧ ∀ v24 : Int, (v24 = (inByteV (bytesL v20) v22)) → ∀ v26 : (List AV), (v26 = (bytesAV (tkRest (bytesL v20) v22 1))) → ∀ v28 : Int, (v28 = (tkErr (List.length (bytesL v20)) v22 1)) → T1 ∧ T1 ∧ tt ∧ tt ∧ T1 ∧ tt ∧ tt ∧ T1 ∧ tt ∧ tt ∧ tt ∧ tt ∧ tt ∧ tt ∧ ((bytesAV (fR q0 e k)) = v26 ∧ (fE q0 e k) = v28 ∧ k = k ∧ (vNum q0 e k) = v0 ∧ (vFoot q0 e k) = v6 ∧ (vRq q0 e k) = v12 ∧ (vPath q0 e k) = v18 ∧ (vMode q0 e k) = (IntKind.wrap IntKind.i64 v24) ∧ (vN q0 e k) = 0 ∧ (vTime q0 e k) = 0 ∧ True) ∧ tt)) : inFieldsK4 xs e k :=
  Eq.mp (show _ = _ by kernel_rfl) h
theorem vcFieldsK6 (xs : (List AV)) (e : Int) (h : let q0 := (bytesL xs); (tt ∧ T1 ∧ T1 ∧ tt ∧ T1 ∧ T1 ∧ T1 ∧ tt ∧ tt ∧ T1 ∧ tt ∧ tt ∧ T1 ∧ (T1 ∧ (isBytes xs)) ∧ ∀ v0 : Int, (v0 = ((val8 (tkOut q0 e 8)) : Int)) → ∀ v2 : (List AV), (v2 = (bytesAV (tkRest q0 e 8))) → ∀ v4 : Int, (v4 = (tkErr (List.length q0) e 8)) → T1 ∧ T1 ∧ tt ∧ tt ∧ T1 ∧ (T1 ∧ (isBytes v2)) ∧ ∀ v6 : (List UInt8), (v6 = (inTextV (bytesL v2) v4 64)) → ∀ v8 : (List AV), (v8 = (bytesAV (inTextR (bytesL v2) v4 64))) → ∀ v10 : Int, (v10 = (inTextE (bytesL v2) v4 64)) → T1 ∧ T1 ∧ tt ∧ tt ∧ T1 ∧ tt ∧ tt ∧ T1 ∧ (T1 ∧ (isBytes v8)) ∧ ∀ v12 : Int, (v12 = (shV (bytesL v8) v10 18446744073709551615)) → ∀ v14 : (List AV), (v14 = (bytesAV (shRest (bytesL v8) v10 18446744073709551615))) → ∀ v16 : Int, (v16 = (shErr (bytesL v8) v10 18446744073709551615)) → T1 ∧ tt ∧ tt ∧ T1 ∧ tt ∧ tt ∧ T1 ∧ (T1 ∧ (isBytes v14)) ∧ ∀ v18 : (List UInt8), (v18 = (inTextV (bytesL v14) v16 64)) → ∀ v20 : (List AV), (v20 = (bytesAV (inTextR (bytesL v14) v16 64))) → ∀ v22 : Int, (v22 = (inTextE (bytesL v14) v16 64)) → T1 ∧ tt ∧ tt ∧ T1 ∧ tt ∧ tt ∧ T1 ∧ tt ∧ tt ∧ T1 ∧ tt ∧ tt ∧ tt ∧ tt ∧ tt ∧ tt ∧ ((bytesAV (fR q0 e 6)) = v20 ∧ (fE q0 e 6) = v22 ∧ (6 : Int) = 6 ∧ (vNum q0 e 6) = v0 ∧ (vFoot q0 e 6) = v6 ∧ (vRq q0 e 6) = v12 ∧ (vPath q0 e 6) = v18 ∧ (vMode q0 e 6) = 0 ∧ (vN q0 e 6) = 0 ∧ (vTime q0 e 6) = 0 ∧ True) ∧ tt)) : inFieldsK6 xs e :=
  Eq.mp (show _ = _ by kernel_rfl) h
theorem vcFieldsK7 (xs : (List AV)) (e : Int) (h : let q0 := (bytesL xs); (tt ∧ T1 ∧ T1 ∧ tt ∧ T1 ∧ T1 ∧ T1 ∧ tt ∧ tt ∧ T1 ∧ tt ∧ tt ∧ T1 ∧ (T1 ∧ (isBytes xs)) ∧ ∀ v0 : Int, (v0 = ((val8 (tkOut q0 e 8)) : Int)) → ∀ v2 : (List AV), (v2 = (bytesAV (tkRest q0 e 8))) → ∀ v4 : Int, (v4 = (tkErr (List.length q0) e 8)) → T1 ∧ T1 ∧ tt ∧ tt ∧ T1 ∧ (T1 ∧ (isBytes v2)) ∧ ∀ v6 : (List UInt8), (v6 = (inTextV (bytesL v2) v4 64)) → ∀ v8 : (List AV), (v8 = (bytesAV (inTextR (bytesL v2) v4 64))) → ∀ v10 : Int, (v10 = (inTextE (bytesL v2) v4 64)) → T1 ∧ T1 ∧ tt ∧ tt ∧ T1 ∧ tt ∧ tt ∧ T1 ∧ (T1 ∧ (isBytes v8)) ∧ ∀ v12 : Int, (v12 = (shV (bytesL v8) v10 18446744073709551615)) → ∀ v14 : (List AV), (v14 = (bytesAV (shRest (bytesL v8) v10 18446744073709551615))) → ∀ v16 : Int, (v16 = (shErr (bytesL v8) v10 18446744073709551615)) → T1 ∧ tt ∧ tt ∧ T1 ∧ tt ∧ tt ∧ T1 ∧ (T1 ∧ (isBytes v14)) ∧ ∀ v18 : (List UInt8), (v18 = (inTextV (bytesL v14) v16 64)) → ∀ v20 : (List AV), (v20 = (bytesAV (inTextR (bytesL v14) v16 64))) → ∀ v22 : Int, (v22 = (inTextE (bytesL v14) v16 64)) → T1 ∧ tt ∧ tt ∧ T1 ∧ tt ∧ tt ∧ T1 ∧ tt ∧ tt ∧ T1 ∧ (T1 ∧ (isBytes v20)) ∧ ∀ v24 : Int, (v24 = (shV (bytesL v20) v22 18446744073709551615)) → ∀ v26 : (List AV), (v26 = (bytesAV (shRest (bytesL v20) v22 18446744073709551615))) → ∀ v28 : Int, (v28 = (shErr (bytesL v20) v22 18446744073709551615)) → T1 ∧ tt ∧ tt ∧ T1 ∧ tt ∧ tt ∧ tt ∧ tt ∧ tt ∧ tt ∧ ((bytesAV (fR q0 e 7)) = v26 ∧ (fE q0 e 7) = v28 ∧ (7 : Int) = 7 ∧ (vNum q0 e 7) = v0 ∧ (vFoot q0 e 7) = v6 ∧ (vRq q0 e 7) = v12 ∧ (vPath q0 e 7) = v18 ∧ (vMode q0 e 7) = 0 ∧ (vN q0 e 7) = v24 ∧ (vTime q0 e 7) = 0 ∧ True) ∧ tt)) : inFieldsK7 xs e :=
  Eq.mp (show _ = _ by kernel_rfl) h
theorem vcFieldsK8 (xs : (List AV)) (e : Int) (h : let q0 := (bytesL xs); (tt ∧ T1 ∧ T1 ∧ tt ∧ T1 ∧ T1 ∧ T1 ∧ tt ∧ tt ∧ T1 ∧ tt ∧ tt ∧ T1 ∧ (T1 ∧ (isBytes xs)) ∧ ∀ v0 : Int, (v0 = ((val8 (tkOut q0 e 8)) : Int)) → ∀ v2 : (List AV), (v2 = (bytesAV (tkRest q0 e 8))) → ∀ v4 : Int, (v4 = (tkErr (List.length q0) e 8)) → T1 ∧ T1 ∧ tt ∧ tt ∧ T1 ∧ (T1 ∧ (isBytes v2)) ∧ ∀ v6 : (List UInt8), (v6 = (inTextV (bytesL v2) v4 64)) → ∀ v8 : (List AV), (v8 = (bytesAV (inTextR (bytesL v2) v4 64))) → ∀ v10 : Int, (v10 = (inTextE (bytesL v2) v4 64)) → T1 ∧ T1 ∧ tt ∧ tt ∧ T1 ∧ tt ∧ tt ∧ T1 ∧ tt ∧ tt ∧ T1 ∧ tt ∧ tt ∧ T1 ∧ tt ∧ tt ∧ T1 ∧ tt ∧ tt ∧ T1 ∧ (T1 ∧ (isBytes v8)) ∧ ∀ v12 : Int, (v12 = (shV (bytesL v8) v10 1099511627776)) → ∀ v14 : (List AV), (v14 = (bytesAV (shRest (bytesL v8) v10 1099511627776))) → ∀ v16 : Int, (v16 = (shErr (bytesL v8) v10 1099511627776)) → T1 ∧ T1 ∧ tt ∧ tt ∧ tt ∧ tt ∧ tt ∧ tt ∧ ((bytesAV (fR q0 e 8)) = v14 ∧ (fE q0 e 8) = v16 ∧ (8 : Int) = 8 ∧ (vNum q0 e 8) = v0 ∧ (vFoot q0 e 8) = v6 ∧ (vRq q0 e 8) = 0 ∧ (vPath q0 e 8) = [] ∧ (vMode q0 e 8) = 0 ∧ (vN q0 e 8) = 0 ∧ (vTime q0 e 8) = (IntKind.wrap IntKind.i64 v12) ∧ True) ∧ tt)) : inFieldsK8 xs e :=
  Eq.mp (show _ = _ by kernel_rfl) h
end Go.Proofs.YtfoabkkkdcicgaaGreatDoor
/- The conditions hold: commands into bytes, and a kind's fields out of them. -/
namespace Go.Proofs.YtfoabkkkdcicgaaGreatDoor
set_option linter.unusedVariables false
set_option linter.unusedSimpArgs false
open Go.RowKit
set_option maxRecDepth 100000

theorem encByte_len (b : Int) : (encByte b).length = 1 := rfl
theorem fix_len (v : Int) : (bytesOf v (cap8 8)).length = 8 := bytesOf8 v
theorem encText_len {s : List UInt8} (h : s.length ≤ 900000) : (encText s).length ≤ s.length + 10 := by
  have := short_le10 (v := (s.length : Int)) (by omega) (by omega)
  simp [encText] at this ⊢; omega
theorem u64_range (v : Int) : 0 ≤ IntKind.u64.wrap v ∧ IntKind.u64.wrap v ≤ 18446744073709551615 := by rw [IntKind.wrap_u64]; omega
theorem cputK0 (k num : Int) (foot : List UInt8) (rq : Int) (path : List UInt8) (mode n time : Int) (xs : List AV) (p q : Nat) (hr : rightC ⟨0, num, foot, rq, path, mode, n, time⟩ = true) (hf : foot.length ≤ 900000 ∧ path.length ≤ 900000) (hb : isBytes xs) (hl : xs.length + 2000000 ≤ 140737488355328)
    (hnum : 0 ≤ num ∧ num ≤ 18446744073709551615) (hrq : 0 ≤ rq ∧ rq ≤ 18446744073709551615) (hn : 0 ≤ n ∧ n ≤ 18446744073709551615) : inCputK0 k num foot rq path mode n time xs p q := by
  refine vcCputK0 k num foot rq path mode n time xs p q ?_
  have hlen : (bytesL xs).length = xs.length := by simp [bytesL]
  have s1 := short_le10 hrq.1 hrq.2
  have s2 := short_le10 hn.1 hn.2
  have s3 := short_le10 (u64_range time).1 (u64_range time).2
  have s4 := encText_len hf.1
  have s5 := encText_len hf.2
  have w0 : IntKind.u8.wrap 0 = 0 := by decide
  simp only [true_and, and_true, forall_eq, eq_self, bytesL_bytesAV, isBytes_bytesAV, length_bytesAV, catL_length, encByte_len, fix_len, hlen]
  repeat' (refine And.intro ?_ ?_)
  all_goals first | exact hf.1 | exact hf.2 | exact hr | exact hb | omega | (refine congrArg bytesAV ?_; simp [encC, hS, hR, hP, hM, hN, hT, w0, catL_eq])
theorem cputK1 (k num : Int) (foot : List UInt8) (rq : Int) (path : List UInt8) (mode n time : Int) (xs : List AV) (p q : Nat) (hr : rightC ⟨1, num, foot, rq, path, mode, n, time⟩ = true) (hf : foot.length ≤ 900000 ∧ path.length ≤ 900000) (hb : isBytes xs) (hl : xs.length + 2000000 ≤ 140737488355328)
    (hnum : 0 ≤ num ∧ num ≤ 18446744073709551615) (hrq : 0 ≤ rq ∧ rq ≤ 18446744073709551615) (hn : 0 ≤ n ∧ n ≤ 18446744073709551615) : inCputK1 k num foot rq path mode n time xs p q := by
  refine vcCputK1 k num foot rq path mode n time xs p q ?_
  have hlen : (bytesL xs).length = xs.length := by simp [bytesL]
  have s1 := short_le10 hrq.1 hrq.2
  have s2 := short_le10 hn.1 hn.2
  have s3 := short_le10 (u64_range time).1 (u64_range time).2
  have s4 := encText_len hf.1
  have s5 := encText_len hf.2
  have w0 : IntKind.u8.wrap 1 = 1 := by decide
  simp only [true_and, and_true, forall_eq, eq_self, bytesL_bytesAV, isBytes_bytesAV, length_bytesAV, catL_length, encByte_len, fix_len, hlen]
  repeat' (refine And.intro ?_ ?_)
  all_goals first | exact hf.1 | exact hf.2 | exact hr | exact hb | omega | (refine congrArg bytesAV ?_; simp [encC, hS, hR, hP, hM, hN, hT, w0, catL_eq])
theorem cputK2 (k num : Int) (foot : List UInt8) (rq : Int) (path : List UInt8) (mode n time : Int) (xs : List AV) (p q : Nat) (hr : rightC ⟨2, num, foot, rq, path, mode, n, time⟩ = true) (hf : foot.length ≤ 900000 ∧ path.length ≤ 900000) (hb : isBytes xs) (hl : xs.length + 2000000 ≤ 140737488355328)
    (hnum : 0 ≤ num ∧ num ≤ 18446744073709551615) (hrq : 0 ≤ rq ∧ rq ≤ 18446744073709551615) (hn : 0 ≤ n ∧ n ≤ 18446744073709551615) : inCputK2 k num foot rq path mode n time xs p q := by
  refine vcCputK2 k num foot rq path mode n time xs p q ?_
  have hlen : (bytesL xs).length = xs.length := by simp [bytesL]
  have s1 := short_le10 hrq.1 hrq.2
  have s2 := short_le10 hn.1 hn.2
  have s3 := short_le10 (u64_range time).1 (u64_range time).2
  have s4 := encText_len hf.1
  have s5 := encText_len hf.2
  have w0 : IntKind.u8.wrap 2 = 2 := by decide
  simp only [true_and, and_true, forall_eq, eq_self, bytesL_bytesAV, isBytes_bytesAV, length_bytesAV, catL_length, encByte_len, fix_len, hlen]
  repeat' (refine And.intro ?_ ?_)
  all_goals first | exact hf.1 | exact hf.2 | exact hr | exact hb | omega | (refine congrArg bytesAV ?_; simp [encC, hS, hR, hP, hM, hN, hT, w0, catL_eq])
theorem cputK3 (k num : Int) (foot : List UInt8) (rq : Int) (path : List UInt8) (mode n time : Int) (xs : List AV) (p q : Nat) (hr : rightC ⟨3, num, foot, rq, path, mode, n, time⟩ = true) (hf : foot.length ≤ 900000 ∧ path.length ≤ 900000) (hb : isBytes xs) (hl : xs.length + 2000000 ≤ 140737488355328)
    (hnum : 0 ≤ num ∧ num ≤ 18446744073709551615) (hrq : 0 ≤ rq ∧ rq ≤ 18446744073709551615) (hn : 0 ≤ n ∧ n ≤ 18446744073709551615) : inCputK3 k num foot rq path mode n time xs p q := by
  refine vcCputK3 k num foot rq path mode n time xs p q ?_
  have hlen : (bytesL xs).length = xs.length := by simp [bytesL]
  have s1 := short_le10 hrq.1 hrq.2
  have s2 := short_le10 hn.1 hn.2
  have s3 := short_le10 (u64_range time).1 (u64_range time).2
  have s4 := encText_len hf.1
  have s5 := encText_len hf.2
  have w0 : IntKind.u8.wrap 3 = 3 := by decide
  simp only [true_and, and_true, forall_eq, eq_self, bytesL_bytesAV, isBytes_bytesAV, length_bytesAV, catL_length, encByte_len, fix_len, hlen]
  repeat' (refine And.intro ?_ ?_)
  all_goals first | exact hf.1 | exact hf.2 | exact hr | exact hb | omega | (refine congrArg bytesAV ?_; simp [encC, hS, hR, hP, hM, hN, hT, w0, catL_eq])
theorem cputK4 (k num : Int) (foot : List UInt8) (rq : Int) (path : List UInt8) (mode n time : Int) (xs : List AV) (p q : Nat) (hr : rightC ⟨4, num, foot, rq, path, mode, n, time⟩ = true) (hf : foot.length ≤ 900000 ∧ path.length ≤ 900000) (hb : isBytes xs) (hl : xs.length + 2000000 ≤ 140737488355328)
    (hnum : 0 ≤ num ∧ num ≤ 18446744073709551615) (hrq : 0 ≤ rq ∧ rq ≤ 18446744073709551615) (hn : 0 ≤ n ∧ n ≤ 18446744073709551615) : inCputK4 k num foot rq path mode n time xs p q := by
  refine vcCputK4 k num foot rq path mode n time xs p q ?_
  have hlen : (bytesL xs).length = xs.length := by simp [bytesL]
  have s1 := short_le10 hrq.1 hrq.2
  have s2 := short_le10 hn.1 hn.2
  have s3 := short_le10 (u64_range time).1 (u64_range time).2
  have s4 := encText_len hf.1
  have s5 := encText_len hf.2
  have w0 : IntKind.u8.wrap 4 = 4 := by decide
  simp only [true_and, and_true, forall_eq, eq_self, bytesL_bytesAV, isBytes_bytesAV, length_bytesAV, catL_length, encByte_len, fix_len, hlen]
  repeat' (refine And.intro ?_ ?_)
  all_goals first | exact hf.1 | exact hf.2 | exact hr | exact hb | omega | (refine congrArg bytesAV ?_; simp [encC, hS, hR, hP, hM, hN, hT, w0, catL_eq])
theorem cputK5 (k num : Int) (foot : List UInt8) (rq : Int) (path : List UInt8) (mode n time : Int) (xs : List AV) (p q : Nat) (hr : rightC ⟨5, num, foot, rq, path, mode, n, time⟩ = true) (hf : foot.length ≤ 900000 ∧ path.length ≤ 900000) (hb : isBytes xs) (hl : xs.length + 2000000 ≤ 140737488355328)
    (hnum : 0 ≤ num ∧ num ≤ 18446744073709551615) (hrq : 0 ≤ rq ∧ rq ≤ 18446744073709551615) (hn : 0 ≤ n ∧ n ≤ 18446744073709551615) : inCputK5 k num foot rq path mode n time xs p q := by
  refine vcCputK5 k num foot rq path mode n time xs p q ?_
  have hlen : (bytesL xs).length = xs.length := by simp [bytesL]
  have s1 := short_le10 hrq.1 hrq.2
  have s2 := short_le10 hn.1 hn.2
  have s3 := short_le10 (u64_range time).1 (u64_range time).2
  have s4 := encText_len hf.1
  have s5 := encText_len hf.2
  have w0 : IntKind.u8.wrap 5 = 5 := by decide
  simp only [true_and, and_true, forall_eq, eq_self, bytesL_bytesAV, isBytes_bytesAV, length_bytesAV, catL_length, encByte_len, fix_len, hlen]
  repeat' (refine And.intro ?_ ?_)
  all_goals first | exact hf.1 | exact hf.2 | exact hr | exact hb | omega | (refine congrArg bytesAV ?_; simp [encC, hS, hR, hP, hM, hN, hT, w0, catL_eq])
theorem cputK6 (k num : Int) (foot : List UInt8) (rq : Int) (path : List UInt8) (mode n time : Int) (xs : List AV) (p q : Nat) (hr : rightC ⟨6, num, foot, rq, path, mode, n, time⟩ = true) (hf : foot.length ≤ 900000 ∧ path.length ≤ 900000) (hb : isBytes xs) (hl : xs.length + 2000000 ≤ 140737488355328)
    (hnum : 0 ≤ num ∧ num ≤ 18446744073709551615) (hrq : 0 ≤ rq ∧ rq ≤ 18446744073709551615) (hn : 0 ≤ n ∧ n ≤ 18446744073709551615) : inCputK6 k num foot rq path mode n time xs p q := by
  refine vcCputK6 k num foot rq path mode n time xs p q ?_
  have hlen : (bytesL xs).length = xs.length := by simp [bytesL]
  have s1 := short_le10 hrq.1 hrq.2
  have s2 := short_le10 hn.1 hn.2
  have s3 := short_le10 (u64_range time).1 (u64_range time).2
  have s4 := encText_len hf.1
  have s5 := encText_len hf.2
  have w0 : IntKind.u8.wrap 6 = 6 := by decide
  simp only [true_and, and_true, forall_eq, eq_self, bytesL_bytesAV, isBytes_bytesAV, length_bytesAV, catL_length, encByte_len, fix_len, hlen]
  repeat' (refine And.intro ?_ ?_)
  all_goals first | exact hf.1 | exact hf.2 | exact hr | exact hb | omega | (refine congrArg bytesAV ?_; simp [encC, hS, hR, hP, hM, hN, hT, w0, catL_eq])
theorem cputK7 (k num : Int) (foot : List UInt8) (rq : Int) (path : List UInt8) (mode n time : Int) (xs : List AV) (p q : Nat) (hr : rightC ⟨7, num, foot, rq, path, mode, n, time⟩ = true) (hf : foot.length ≤ 900000 ∧ path.length ≤ 900000) (hb : isBytes xs) (hl : xs.length + 2000000 ≤ 140737488355328)
    (hnum : 0 ≤ num ∧ num ≤ 18446744073709551615) (hrq : 0 ≤ rq ∧ rq ≤ 18446744073709551615) (hn : 0 ≤ n ∧ n ≤ 18446744073709551615) : inCputK7 k num foot rq path mode n time xs p q := by
  refine vcCputK7 k num foot rq path mode n time xs p q ?_
  have hlen : (bytesL xs).length = xs.length := by simp [bytesL]
  have s1 := short_le10 hrq.1 hrq.2
  have s2 := short_le10 hn.1 hn.2
  have s3 := short_le10 (u64_range time).1 (u64_range time).2
  have s4 := encText_len hf.1
  have s5 := encText_len hf.2
  have w0 : IntKind.u8.wrap 7 = 7 := by decide
  simp only [true_and, and_true, forall_eq, eq_self, bytesL_bytesAV, isBytes_bytesAV, length_bytesAV, catL_length, encByte_len, fix_len, hlen]
  repeat' (refine And.intro ?_ ?_)
  all_goals first | exact hf.1 | exact hf.2 | exact hr | exact hb | omega | (refine congrArg bytesAV ?_; simp [encC, hS, hR, hP, hM, hN, hT, w0, catL_eq])
theorem cputK8 (k num : Int) (foot : List UInt8) (rq : Int) (path : List UInt8) (mode n time : Int) (xs : List AV) (p q : Nat) (hr : rightC ⟨8, num, foot, rq, path, mode, n, time⟩ = true) (hf : foot.length ≤ 900000 ∧ path.length ≤ 900000) (hb : isBytes xs) (hl : xs.length + 2000000 ≤ 140737488355328)
    (hnum : 0 ≤ num ∧ num ≤ 18446744073709551615) (hrq : 0 ≤ rq ∧ rq ≤ 18446744073709551615) (hn : 0 ≤ n ∧ n ≤ 18446744073709551615) : inCputK8 k num foot rq path mode n time xs p q := by
  refine vcCputK8 k num foot rq path mode n time xs p q ?_
  have hlen : (bytesL xs).length = xs.length := by simp [bytesL]
  have s1 := short_le10 hrq.1 hrq.2
  have s2 := short_le10 hn.1 hn.2
  have s3 := short_le10 (u64_range time).1 (u64_range time).2
  have s4 := encText_len hf.1
  have s5 := encText_len hf.2
  have w0 : IntKind.u8.wrap 8 = 8 := by decide
  simp only [true_and, and_true, forall_eq, eq_self, bytesL_bytesAV, isBytes_bytesAV, length_bytesAV, catL_length, encByte_len, fix_len, hlen]
  repeat' (refine And.intro ?_ ?_)
  all_goals first | exact hf.1 | exact hf.2 | exact hr | exact hb | omega | (refine congrArg bytesAV ?_; simp [encC, hS, hR, hP, hM, hN, hT, w0, catL_eq])
theorem okCputI0 : OkCputI0 := by
  intro k num foot rq path mode n time xs p q hq hh
  obtain ⟨hk, hr, hf, hb, hl⟩ := hq
  obtain ⟨h1, h2, h3⟩ := hh
  have hk' : k = 0 ∨ k = 1 ∨ k = 2 ∨ k = 3 ∨ k = 4 ∨ k = 5 ∨ k = 6 ∨ k = 7 ∨ k = 8 := by omega
  rcases hk' with rfl | rfl | rfl | rfl | rfl | rfl | rfl | rfl | rfl
  · exact cputK0 0 num foot rq path mode n time xs p q hr hf hb hl h1 h2 h3
  · exact cputK1 0 num foot rq path mode n time xs p q hr hf hb hl h1 h2 h3
  · exact cputK2 0 num foot rq path mode n time xs p q hr hf hb hl h1 h2 h3
  · exact cputK3 0 num foot rq path mode n time xs p q hr hf hb hl h1 h2 h3
  · exact cputK4 0 num foot rq path mode n time xs p q hr hf hb hl h1 h2 h3
  · exact cputK5 0 num foot rq path mode n time xs p q hr hf hb hl h1 h2 h3
  · exact cputK6 0 num foot rq path mode n time xs p q hr hf hb hl h1 h2 h3
  · exact cputK7 0 num foot rq path mode n time xs p q hr hf hb hl h1 h2 h3
  · exact cputK8 0 num foot rq path mode n time xs p q hr hf hb hl h1 h2 h3
theorem okCputN0 : OkCputN0 := by
  intro k num foot rq path mode n time xs p q hq
  obtain ⟨hr, hf, hb, hl⟩ := hq
  refine vcCputN0 k num foot rq path mode n time xs p q ?_
  simp only [true_and, and_true, forall_eq, eq_self, bytesL_bytesAV, isBytes_bytesAV, length_bytesAV]
  exact ⟨⟨hf, hr⟩, ⟨hb, by omega⟩, by omega⟩
theorem isB_len {l : List UInt8} : bytesL (bytesAV l) = l := bytesL_bytesAV l
theorem shW (l : List UInt8) (e : Int) : IntKind.i64.wrap (shV l e 1099511627776) = shV l e 1099511627776 := by
  have := shV_range l e 1099511627776 (by omega)
  exact wrap_i64 (by omega) (by omega)
theorem byW (l : List UInt8) (e : Int) : IntKind.i64.wrap (inByteV l e) = inByteV l e := by
  have := inByteV_range l e
  exact wrap_i64 (by omega) (by omega)
theorem fieldsK0 (xs : List AV) (e : Int) (k : Int) (hk : k ≤ 0 ∨ 9 ≤ k) (hb : isBytes xs) : inFieldsK0 xs e k := by
  refine vcFieldsK0 xs e k ?_
  obtain ⟨l, rfl⟩ := hb.get
  have qhS : hS k = false := by unfold hS; simp; omega
  have qhR : hR k = false := by unfold hR; simp; omega
  have qhP : hP k = false := by unfold hP; simp; omega
  have qhM : hM k = false := by unfold hM; simp; omega
  have qhN : hN k = false := by unfold hN; simp; omega
  have qhT : hT k = false := by unfold hT; simp; omega
  simp only [true_and, and_true, forall_eq, eq_self, bytesL_bytesAV, isBytes_bytesAV, length_bytesAV]
  simp [fR, fE, f7, f6, f5, f4, f3, f2, f1, vNum, vFoot, vRq, vPath, vMode, vN, vTime, qhS, qhR, qhP, qhM, qhN, qhT, shW, byW]
theorem fieldsK1 (xs : List AV) (e : Int)  (hb : isBytes xs) : inFieldsK1 xs e := by
  refine vcFieldsK1 xs e ?_
  obtain ⟨l, rfl⟩ := hb.get
  have qhS : hS 1 = true := by unfold hS; decide
  have qhR : hR 1 = true := by unfold hR; decide
  have qhP : hP 1 = false := by unfold hP; decide
  have qhM : hM 1 = false := by unfold hM; decide
  have qhN : hN 1 = true := by unfold hN; decide
  have qhT : hT 1 = true := by unfold hT; decide
  simp only [true_and, and_true, forall_eq, eq_self, bytesL_bytesAV, isBytes_bytesAV, length_bytesAV]
  simp [fR, fE, f7, f6, f5, f4, f3, f2, f1, vNum, vFoot, vRq, vPath, vMode, vN, vTime, qhS, qhR, qhP, qhM, qhN, qhT, shW, byW]
theorem fieldsK2 (xs : List AV) (e : Int)  (hb : isBytes xs) : inFieldsK2 xs e := by
  refine vcFieldsK2 xs e ?_
  obtain ⟨l, rfl⟩ := hb.get
  have qhS : hS 2 = true := by unfold hS; decide
  have qhR : hR 2 = true := by unfold hR; decide
  have qhP : hP 2 = false := by unfold hP; decide
  have qhM : hM 2 = false := by unfold hM; decide
  have qhN : hN 2 = false := by unfold hN; decide
  have qhT : hT 2 = false := by unfold hT; decide
  simp only [true_and, and_true, forall_eq, eq_self, bytesL_bytesAV, isBytes_bytesAV, length_bytesAV]
  simp [fR, fE, f7, f6, f5, f4, f3, f2, f1, vNum, vFoot, vRq, vPath, vMode, vN, vTime, qhS, qhR, qhP, qhM, qhN, qhT, shW, byW]
theorem fieldsK3 (xs : List AV) (e : Int)  (hb : isBytes xs) : inFieldsK3 xs e := by
  refine vcFieldsK3 xs e ?_
  obtain ⟨l, rfl⟩ := hb.get
  have qhS : hS 3 = true := by unfold hS; decide
  have qhR : hR 3 = true := by unfold hR; decide
  have qhP : hP 3 = false := by unfold hP; decide
  have qhM : hM 3 = false := by unfold hM; decide
  have qhN : hN 3 = false := by unfold hN; decide
  have qhT : hT 3 = true := by unfold hT; decide
  simp only [true_and, and_true, forall_eq, eq_self, bytesL_bytesAV, isBytes_bytesAV, length_bytesAV]
  simp [fR, fE, f7, f6, f5, f4, f3, f2, f1, vNum, vFoot, vRq, vPath, vMode, vN, vTime, qhS, qhR, qhP, qhM, qhN, qhT, shW, byW]
theorem fieldsK4 (xs : List AV) (e : Int) (k : Int) (hk : k = 4 ∨ k = 5) (hb : isBytes xs) : inFieldsK4 xs e k := by
  refine vcFieldsK4 xs e k ?_
  obtain ⟨l, rfl⟩ := hb.get
  have qhS : hS k = true := by unfold hS; simp; omega
  have qhR : hR k = true := by unfold hR; simp; omega
  have qhP : hP k = true := by unfold hP; simp; omega
  have qhM : hM k = true := by unfold hM; simp; omega
  have qhN : hN k = false := by unfold hN; simp; omega
  have qhT : hT k = false := by unfold hT; simp; omega
  simp only [true_and, and_true, forall_eq, eq_self, bytesL_bytesAV, isBytes_bytesAV, length_bytesAV]
  simp [fR, fE, f7, f6, f5, f4, f3, f2, f1, vNum, vFoot, vRq, vPath, vMode, vN, vTime, qhS, qhR, qhP, qhM, qhN, qhT, shW, byW]
theorem fieldsK6 (xs : List AV) (e : Int)  (hb : isBytes xs) : inFieldsK6 xs e := by
  refine vcFieldsK6 xs e ?_
  obtain ⟨l, rfl⟩ := hb.get
  have qhS : hS 6 = true := by unfold hS; decide
  have qhR : hR 6 = true := by unfold hR; decide
  have qhP : hP 6 = true := by unfold hP; decide
  have qhM : hM 6 = false := by unfold hM; decide
  have qhN : hN 6 = false := by unfold hN; decide
  have qhT : hT 6 = false := by unfold hT; decide
  simp only [true_and, and_true, forall_eq, eq_self, bytesL_bytesAV, isBytes_bytesAV, length_bytesAV]
  simp [fR, fE, f7, f6, f5, f4, f3, f2, f1, vNum, vFoot, vRq, vPath, vMode, vN, vTime, qhS, qhR, qhP, qhM, qhN, qhT, shW, byW]
theorem fieldsK7 (xs : List AV) (e : Int)  (hb : isBytes xs) : inFieldsK7 xs e := by
  refine vcFieldsK7 xs e ?_
  obtain ⟨l, rfl⟩ := hb.get
  have qhS : hS 7 = true := by unfold hS; decide
  have qhR : hR 7 = true := by unfold hR; decide
  have qhP : hP 7 = true := by unfold hP; decide
  have qhM : hM 7 = false := by unfold hM; decide
  have qhN : hN 7 = true := by unfold hN; decide
  have qhT : hT 7 = false := by unfold hT; decide
  simp only [true_and, and_true, forall_eq, eq_self, bytesL_bytesAV, isBytes_bytesAV, length_bytesAV]
  simp [fR, fE, f7, f6, f5, f4, f3, f2, f1, vNum, vFoot, vRq, vPath, vMode, vN, vTime, qhS, qhR, qhP, qhM, qhN, qhT, shW, byW]
theorem fieldsK8 (xs : List AV) (e : Int)  (hb : isBytes xs) : inFieldsK8 xs e := by
  refine vcFieldsK8 xs e ?_
  obtain ⟨l, rfl⟩ := hb.get
  have qhS : hS 8 = true := by unfold hS; decide
  have qhR : hR 8 = false := by unfold hR; decide
  have qhP : hP 8 = false := by unfold hP; decide
  have qhM : hM 8 = false := by unfold hM; decide
  have qhN : hN 8 = false := by unfold hN; decide
  have qhT : hT 8 = true := by unfold hT; decide
  simp only [true_and, and_true, forall_eq, eq_self, bytesL_bytesAV, isBytes_bytesAV, length_bytesAV]
  simp [fR, fE, f7, f6, f5, f4, f3, f2, f1, vNum, vFoot, vRq, vPath, vMode, vN, vTime, qhS, qhR, qhP, qhM, qhN, qhT, shW, byW]
theorem okFieldsI0 : OkFieldsI0 := by
  intro xs e k a b c d f g hq
  obtain ⟨hb, rfl, rfl, rfl, rfl, rfl, rfl⟩ := hq
  have key : ∀ (k : Int) (a b c d f g : Bool), hS k = a → hR k = b → hP k = c → hM k = d → hN k = f → hT k = g → inFieldsI0 xs e k a b c d f g → inFieldsI0 xs e k (hS k) (hR k) (hP k) (hM k) (hN k) (hT k) := by
    intro k a b c d f g h1 h2 h3 h4 h5 h6 h
    rw [h1, h2, h3, h4, h5, h6]; exact h
  by_cases h0 : k ≤ 0 ∨ 9 ≤ k
  · exact key k false false false false false false (by unfold hS; simp; omega) (by unfold hR; simp; omega) (by unfold hP; simp; omega) (by unfold hM; simp; omega) (by unfold hN; simp; omega) (by unfold hT; simp; omega) (fieldsK0 xs e k h0 hb)
  have hk : k = 1 ∨ k = 2 ∨ k = 3 ∨ k = 4 ∨ k = 5 ∨ k = 6 ∨ k = 7 ∨ k = 8 := by omega
  rcases hk with rfl | rfl | rfl | rfl | rfl | rfl | rfl | rfl
  · exact fieldsK1 xs e hb
  · exact fieldsK2 xs e hb
  · exact fieldsK3 xs e hb
  · exact fieldsK4 xs e 4 (.inl rfl) hb
  · exact fieldsK4 xs e 5 (.inr rfl) hb
  · exact fieldsK6 xs e hb
  · exact fieldsK7 xs e hb
  · exact fieldsK8 xs e hb
end Go.Proofs.YtfoabkkkdcicgaaGreatDoor
/- The contracts are met. -/
namespace Go.Proofs.YtfoabkkkdcicgaaGreatDoor
set_option linter.unusedVariables false
set_option linter.unusedSimpArgs false
open Go.RowKit
theorem sndCputI : Sound Tryz.prog (lookΓ gamCputI) := sound_of _ fun p hp => by
  simp only [gamCputI, List.mem_cons, List.not_mem_nil, or_false] at hp
  rcases hp with rfl | rfl | rfl | rfl | rfl | rfl
  · exact meetsCrightT.orNil
  · exact meetsHad.orNil
  · exact meetsOutByte.orNil
  · exact meetsOutFixed.orNil
  · exact meetsOutText.orNil
  · exact meetsOutShort.orNil
set_option maxHeartbeats 4000000 in
theorem meetsCputI : Meets Tryz.prog 73 cputIF := by
  refine meets_of_awp (Γ := lookΓ gamCputI) (L := fun _ _ => none) sndCputI mixedOrders Tryz.func73 rfl Tryz.call73 ?_
  intro args q r hF hq ho
  unfold cputIF at hF
  split at hF
  · split at hF
    · rename_i hte
      subst hte
      cases hF
      exact ⟨by simp only [List.length_cons, List.length_nil]; decide, okCputI0 _ _ _ _ _ _ _ _ _ _ _ hq (⟨okay_u64 (argA 0 1 ho rfl rfl), okay_u64 (argA 0 3 ho rfl rfl), okay_u64 (argA 0 6 ho rfl rfl)⟩)⟩
    · cases hF
  · cases hF
theorem sndCputN : Sound Tryz.prog (lookΓ gamCputN) := sound_of _ fun p hp => by
  simp only [gamCputN, List.mem_cons, List.not_mem_nil, or_false] at hp
  rcases hp with rfl | rfl | rfl
  · exact meetsCrightN.orNil
  · exact meetsHad.orNil
  · exact meetsOutByte.orNil
set_option maxHeartbeats 4000000 in
theorem meetsCputN : Meets Tryz.prog 73 cputNF := by
  refine meets_of_awp (Γ := lookΓ gamCputN) (L := fun _ _ => none) sndCputN mixedOrders Tryz.func73 rfl Tryz.call73 ?_
  intro args q r hF hq ho
  unfold cputNF at hF
  split at hF
  · split at hF
    · rename_i hte
      subst hte
      cases hF
      exact ⟨by simp only [List.length_cons, List.length_nil]; decide, okCputN0 _ _ _ _ _ _ _ _ _ _ _ hq⟩
    · cases hF
  · cases hF
theorem sndFieldsI : Sound Tryz.prog (lookΓ gamFieldsI) := sound_of _ fun p hp => by
  simp only [gamFieldsI, List.mem_cons, List.not_mem_nil, or_false] at hp
  rcases hp with rfl | rfl | rfl | rfl
  · exact meetsInFixed.orNil
  · exact meetsInText.orNil
  · exact meetsInShort.orNil
  · exact meetsInByte.orNil
set_option maxHeartbeats 4000000 in
theorem meetsFieldsI : Meets Tryz.prog 88 fieldsIF := by
  refine meets_of_awp (Γ := lookΓ gamFieldsI) (L := fun _ _ => none) sndFieldsI mixedOrders Tryz.func88 rfl Tryz.call88 ?_
  intro args q r hF hq ho
  unfold fieldsIF at hF
  split at hF
  · cases hF
    exact ⟨by simp only [List.length_cons, List.length_nil]; decide, okFieldsI0 _ _ _ _ _ _ _ _ _ hq⟩
  · cases hF
end Go.Proofs.YtfoabkkkdcicgaaGreatDoor
