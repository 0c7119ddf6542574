/- Contracts by content, their conditions, and that they are met: CmdU. -/
import Derived.Test.YtpomloangafbkaaDoorLaxPkCmdT
import Derived.Test.YtpomloangafbkaaDoorCmdTP
/- Contracts by content, and the conditions that their code must meet. -/
namespace Go.Proofs.YtpomloangafbkaaDoor
set_option linter.unusedVariables false
set_option linter.unusedSimpArgs false
open Go.RowKit
def cshowF : Con
  | [.val (.agg [.int .i64 k, .int .u64 num, .str foot, .int .u64 rq, .str path, .int .i64 mode, .int .u64 n, .int .i64 time])] => some (foot.length ≤ 900000 ∧ path.length ≤ 900000, ⟨.tup [.str (showV ⟨k, num, foot, rq, path, mode, n, time⟩), .int .i64 (showE ⟨k, num, foot, rq, path, mode, n, time⟩)], none, none⟩)
  | _ => none
theorem meetsCshow : Meets Tryd.prog 23 cshowF := by
  refine ⟨meetsCshowI.enters, fun args us w GE own d site q r hF hq hc hsite hs => ?_⟩
  unfold cshowF at hF
  split at hF
  · rename_i k num foot rq path mode n time
    cases hF
    by_cases hk : 0 ≤ k ∧ k ≤ 8
    · exact meetsCshowI.calls _ us w GE own d site _ _ rfl ⟨hk, hq⟩ hc hsite hs
    · obtain ⟨e1, e2⟩ := show_not (rightC_out' (c := ⟨k, num, foot, rq, path, mode, n, time⟩) hk)
      rw [e1, e2]
      exact meetsCshowO.calls _ us w GE own d site _ _ rfl ⟨by omega, hq⟩ hc hsite hs
  · cases hF
def loopRead (t : List UInt8) : LoopInv :=
  { V := Nat
    T := fun i => [(0, .str t), (2, .ptr 2 0), (5, .ptr 5 0), (18, .sl (strsAV (restW t)) .no), (19, .int .i64 ((restW t).length : Int)), (20, .int .i64 (i : Int))]
    B := fun i => [(2, cmdL zC), (5, cmdL (rdN t i))]
    R := fun i => []
    inv := fun i => i ≤ (restW t).length ∧ allN t i = true
    mu := fun i => (restW t).length - i }
def creadF : Con
  | [.val (.str t)] => (some (t.length ≤ 800000, ⟨.tup [.agg (cmdL (readC t)), .int .i64 (readE t)], none, none⟩))
  | _ => none
def gamCread : List (Nat × Con) := [(43, splitSF.orNil), (51, kindF.orNil), (52, setFF.orNil), (23, cshowF.orNil)]
def lpCread0 (t : List UInt8) : Nat → Option LoopPlan := fun b => bif Nat.beq b 0 then some (.inv [] (loopRead t)) else none
def inCread0 (t : List UInt8) : Prop := awp [] (lpCread0 t) (lookΓ gamCread) Tryd.prog Tryd.f26.ntmps 0 (Tryd.f26.body.getD .skip) (entrySt [.val (.str t)]) (exitQ Tryd.prog Tryd.f26.results.toList [] ⟨.tup [.agg (cmdL (readC t)), .int .i64 (readE t)], none, none⟩)
def OkCread0 : Prop := ∀ (t : List UInt8), t.length ≤ 800000 → inCread0 t
def lawShowsF : Con
  | [.val (.agg zcc)] => (match cmdOf zcc with | some c => some (maxC c, ⟨.bool true, none, none⟩) | _ => none)
  | _ => none
def gamLawShows : List (Nat × Con) := [(21, anchor07F.orNil), (22, small07F.orNil), (24, of07F.orNil), (25, rrightF.orNil), (23, cshowF.orNil), (26, creadF.orNil), (27, text7F.orNil)]
def lpLawShows0 (c : CmdP) : Nat → Option LoopPlan := fun _ => none
def inLawShows0 (c : CmdP) : Prop := awp [] (lpLawShows0 c) (lookΓ gamLawShows) Tryd.prog Tryd.f6.ntmps 0 (Tryd.f6.body.getD .skip) (entrySt [.val (.agg (cmdL c))]) (exitQ Tryd.prog Tryd.f6.results.toList [] ⟨.bool true, none, none⟩)
def OkLawShows0 : Prop := ∀ (c : CmdP), maxC c → ((0 ≤ c.num ∧ c.num ≤ 18446744073709551615) ∧ (0 ≤ c.rq ∧ c.rq ≤ 18446744073709551615) ∧ (0 ≤ c.n ∧ c.n ≤ 18446744073709551615)) → inLawShows0 c
def lawReadsF : Con
  | [.val (.str t)] => (some (t.length ≤ 9223372036854775807, ⟨.bool true, none, none⟩))
  | _ => none
def gamLawReads : List (Nat × Con) := [(21, anchor07F.orNil), (24, of07F.orNil), (25, rrightF.orNil), (26, creadF.orNil), (27, text7F.orNil)]
def lpLawReads0 (t : List UInt8) : Nat → Option LoopPlan := fun _ => none
def inLawReads0 (t : List UInt8) : Prop := awp [] (lpLawReads0 t) (lookΓ gamLawReads) Tryd.prog Tryd.f7.ntmps 0 (Tryd.f7.body.getD .skip) (entrySt [.val (.str t)]) (exitQ Tryd.prog Tryd.f7.results.toList [] ⟨.bool true, none, none⟩)
def OkLawReads0 : Prop := ∀ (t : List UInt8), t.length ≤ 9223372036854775807 → inLawReads0 t
end Go.Proofs.YtpomloangafbkaaDoor
/- What the verification conditions come to: printed by a program of ours (wip/lax/ex/Norm.lean). -/
namespace Go.Proofs.YtpomloangafbkaaDoor
set_option linter.unusedVariables false
open Go.RowKit
set_option maxRecDepth 100000
theorem vcCread0 (t : (List UInt8)) (h : let q0 := (strsAV (restW t)); let q1 := (readC t); let q2 := (List.length (restW t)); (tt ∧ T1 ∧ T1 ∧ tt ∧ T1 ∧ (T1 ∧ (List.length t) < 4294967281 ∧ 1 ≤ 1) ∧ ∀ v0 : (List AV), (v0 = (strsAV (Go.Lib.split t [(32 : UInt8)]))) → T1 ∧ tt ∧ T1 ∧ ((0 : Int) ≤ (0 : Int) ∧ (0 : Int) < ((List.length v0) : Int) ∧ (okElem 1 v0 0)) ∧ (okRead [Kd.str] (elemAt v0 0) 0) ∧ (T1 ∧ True) ∧ ∀ v2 : Int, (v2 = (kindN (rdStr (elemAt v0 0) 0))) → T1 ∧ T1 ∧ tt ∧ tt ∧ T1 ∧ (((0 : Int) ≤ (1 : Int) ∧ (1 : Int) ≤ ((List.length v0) : Int)) ∧ (okWidth 1 v0)) ∧ T1 ∧ T1 ∧ (@Exists.{1} (loopRead t).V (fun (v4 : Nat) => ((((AV.str t) = (AV.str t) ∧ (AV.ptr 2 0) = (AV.ptr 2 0) ∧ (AV.ptr 5 0) = (AV.ptr 5 0) ∧ (AV.sl (@cutL AV v0 1 (List.length v0)) Own.no) = (AV.sl q0 Own.no) ∧ (AV.int IntKind.i64 ((List.length (@cutL AV v0 1 (List.length v0))) : Int)) = (AV.int IntKind.i64 (q2 : Int)) ∧ (AV.int IntKind.i64 0) = (AV.int IntKind.i64 (v4 : Int)) ∧ True) ∧ ((@Option.some.{0} (List AV) [(AV.int IntKind.i64 0), (AV.int IntKind.u64 0), (AV.str []), (AV.int IntKind.u64 0), (AV.str []), (AV.int IntKind.i64 0), (AV.int IntKind.u64 0), (AV.int IntKind.i64 0)]) = (@Option.some.{0} (List AV) [(AV.int IntKind.i64 0), (AV.int IntKind.u64 0), (AV.str []), (AV.int IntKind.u64 0), (AV.str []), (AV.int IntKind.i64 0), (AV.int IntKind.u64 0), (AV.int IntKind.i64 0)]) ∧ (@Option.some.{0} (List AV) [(AV.int IntKind.i64 v2), (AV.int IntKind.u64 0), (AV.str []), (AV.int IntKind.u64 0), (AV.str []), (AV.int IntKind.i64 0), (AV.int IntKind.u64 0), (AV.int IntKind.i64 0)]) = (@Option.some.{0} (List AV) [(AV.int IntKind.i64 (rdN t v4).k), (AV.int IntKind.u64 (rdN t v4).num), (AV.str (rdN t v4).foot), (AV.int IntKind.u64 (rdN t v4).rq), (AV.str (rdN t v4).path), (AV.int IntKind.i64 (rdN t v4).mode), (AV.int IntKind.u64 (rdN t v4).n), (AV.int IntKind.i64 (rdN t v4).time)]) ∧ True) ∧ T1 ∧ tt ∧ tt) ∧ v4 ≤ q2 ∧ (allN t v4) = true))) ∧ ∀ v4 : Nat, (v4 ≤ q2 ∧ (allN t v4) = true) → tt ∧ T1 ∧ (bif (decide ((v4 : Int) < (q2 : Int))) then (tt ∧ ((0 : Int) ≤ (v4 : Int) ∧ (v4 : Int) < ((List.length q0) : Int) ∧ (okElem 1 q0 (Int.toNat (v4 : Int)))) ∧ (okRead [Kd.str] (elemAt q0 (Int.toNat (v4 : Int))) 0) ∧ T1 ∧ tt ∧ T1 ∧ (T1 ∧ (List.length (rdStr (elemAt q0 (Int.toNat (v4 : Int))) 0)) ≤ 900000) ∧ ∀ v6 : Int, (v6 = (rdN t v4).k) → ∀ v8 : Int, (v8 = (setNum (rdN t v4).num (rdStr (elemAt q0 (Int.toNat (v4 : Int))) 0))) → ∀ v10 : (List UInt8), (v10 = (setFoot (rdN t v4).foot (rdStr (elemAt q0 (Int.toNat (v4 : Int))) 0))) → ∀ v12 : Int, (v12 = (setRq (rdN t v4).rq (rdStr (elemAt q0 (Int.toNat (v4 : Int))) 0))) → ∀ v14 : (List UInt8), (v14 = (setPath (rdN t v4).path (rdStr (elemAt q0 (Int.toNat (v4 : Int))) 0))) → ∀ v16 : Int, (v16 = (setMode (rdN t v4).mode (rdStr (elemAt q0 (Int.toNat (v4 : Int))) 0))) → ∀ v18 : Int, (v18 = (setN (rdN t v4).n (rdStr (elemAt q0 (Int.toNat (v4 : Int))) 0))) → ∀ v20 : Int, (v20 = (setTime (rdN t v4).time (rdStr (elemAt q0 (Int.toNat (v4 : Int))) 0))) → T1 ∧ (bif (Bool.not (setK (rdStr (elemAt q0 (Int.toNat (v4 : Int))) 0))) then (tt ∧ T1 ∧ tt ∧ T1 ∧ tt ∧ tt ∧ (q1.k = 0 ∧ q1.num = 0 ∧ q1.foot = [] ∧ q1.rq = 0 ∧ q1.path = [] ∧ q1.mode = 0 ∧ q1.n = 0 ∧ q1.time = 0 ∧ (readE t) = 10 ∧ True) ∧ tt) else (tt ∧ T1 ∧ T1 ∧ (@Exists.{1} (loopRead t).V (fun (v22 : Nat) => ((((AV.str t) = (AV.str t) ∧ (AV.ptr 2 0) = (AV.ptr 2 0) ∧ (AV.ptr 5 0) = (AV.ptr 5 0) ∧ (AV.sl q0 Own.no) = (AV.sl q0 Own.no) ∧ (AV.int IntKind.i64 (q2 : Int)) = (AV.int IntKind.i64 (q2 : Int)) ∧ (AV.int IntKind.i64 (IntKind.wrap IntKind.i64 ((v4 : Int) + (1 : Int)))) = (AV.int IntKind.i64 (v22 : Int)) ∧ True) ∧ ((@Option.some.{0} (List AV) [(AV.int IntKind.i64 0), (AV.int IntKind.u64 0), (AV.str []), (AV.int IntKind.u64 0), (AV.str []), (AV.int IntKind.i64 0), (AV.int IntKind.u64 0), (AV.int IntKind.i64 0)]) = (@Option.some.{0} (List AV) [(AV.int IntKind.i64 0), (AV.int IntKind.u64 0), (AV.str []), (AV.int IntKind.u64 0), (AV.str []), (AV.int IntKind.i64 0), (AV.int IntKind.u64 0), (AV.int IntKind.i64 0)]) ∧ (@Option.some.{0} (List AV) [(AV.int IntKind.i64 v6), (AV.int IntKind.u64 v8), (AV.str v10), (AV.int IntKind.u64 v12), (AV.str v14), (AV.int IntKind.i64 v16), (AV.int IntKind.u64 v18), (AV.int IntKind.i64 v20)]) = (@Option.some.{0} (List AV) [(AV.int IntKind.i64 (rdN t v22).k), (AV.int IntKind.u64 (rdN t v22).num), (AV.str (rdN t v22).foot), (AV.int IntKind.u64 (rdN t v22).rq), (AV.str (rdN t v22).path), (AV.int IntKind.i64 (rdN t v22).mode), (AV.int IntKind.u64 (rdN t v22).n), (AV.int IntKind.i64 (rdN t v22).time)]) ∧ True) ∧ T1 ∧ tt ∧ tt) ∧ (v22 ≤ q2 ∧ (allN t v22) = true) ∧ (q2 - v22) < (q2 - v4))))))) else (tt ∧ tt ∧ (T1 ∧ (List.length (rdN t v4).foot) ≤ 900000 ∧ (List.length (rdN t v4).path) ≤ 900000) ∧ ∀ v6 : (List UInt8), (v6 = (showV (rdN t v4))) → ∀ v8 : Int, (v8 = (showE (rdN t v4))) → T1 ∧ T1 ∧ T1 ∧ T1 ∧ T1 ∧ tt ∧ T1 ∧ T1 ∧ T1 ∧ (bif (v8 != 0) then (tt ∧ tt ∧ T1 ∧ tt ∧ T1 ∧ tt ∧ tt ∧ (q1.k = 0 ∧ q1.num = 0 ∧ q1.foot = [] ∧ q1.rq = 0 ∧ q1.path = [] ∧ q1.mode = 0 ∧ q1.n = 0 ∧ q1.time = 0 ∧ (readE t) = 10 ∧ True) ∧ tt) else (T1 ∧ T1 ∧ T1 ∧ T1 ∧ (bif (Bool.not (@BEq.beq.{0} (List UInt8) (@List.instBEq.{0} UInt8 (@instBEqOfDecidableEq.{0} UInt8 instDecidableEqUInt8)) v6 t)) then (tt ∧ T1 ∧ tt ∧ T1 ∧ tt ∧ tt ∧ (q1.k = 0 ∧ q1.num = 0 ∧ q1.foot = [] ∧ q1.rq = 0 ∧ q1.path = [] ∧ q1.mode = 0 ∧ q1.n = 0 ∧ q1.time = 0 ∧ (readE t) = 10 ∧ True) ∧ tt) else (tt ∧ tt ∧ tt ∧ T1 ∧ tt ∧ tt ∧ (q1.k = (rdN t v4).k ∧ q1.num = (rdN t v4).num ∧ q1.foot = (rdN t v4).foot ∧ q1.rq = (rdN t v4).rq ∧ q1.path = (rdN t v4).path ∧ q1.mode = (rdN t v4).mode ∧ q1.n = (rdN t v4).n ∧ q1.time = (rdN t v4).time ∧ (readE t) = 0 ∧ True) ∧ tt)))))))) : inCread0 t :=
  Eq.mp (show _ = _ by kernel_rfl) h
theorem vcLawShows0 (c : CmdP) (h : (tt ∧ T1 ∧ T1 ∧ tt ∧ (T1 ∧ True) ∧ T1 ∧ tt ∧ tt ∧ (T1 ∧ (maxC c)) ∧ T1 ∧ (bif (Bool.not (smallCB c)) then (tt ∧ T1 ∧ tt ∧ tt ∧ (tt ∧ True) ∧ tt) else (tt ∧ tt ∧ (T1 ∧ (List.length c.foot) ≤ 900000 ∧ (List.length c.path) ≤ 900000) ∧ ∀ v0 : (List UInt8), (v0 = (showV c)) → ∀ v2 : Int, (v2 = (showE c)) → T1 ∧ T1 ∧ T1 ∧ T1 ∧ T1 ∧ tt ∧ tt ∧ (T1 ∧ True) ∧ (T1 ∧ (List.length c.foot) ≤ 900000 ∧ (List.length c.path) ≤ 900000) ∧ T1 ∧ (bif (Bool.not (rightC c)) then (tt ∧ T1 ∧ T1 ∧ T1 ∧ (bif (v2 == 10) then (T1 ∧ T1 ∧ T1 ∧ T1 ∧ tt ∧ tt ∧ (true = (@BEq.beq.{0} (List UInt8) (@List.instBEq.{0} UInt8 (@instBEqOfDecidableEq.{0} UInt8 instDecidableEqUInt8)) v0 (@List.nil.{0} UInt8)) ∧ True) ∧ tt) else (false = false ∧ T1 ∧ tt ∧ tt ∧ (true = false ∧ True) ∧ tt))) else (tt ∧ T1 ∧ (T1 ∧ (List.length v0) ≤ 800000) ∧ ∀ v4 : Int, (v4 = (readC v0).k) → ∀ v6 : Int, (v6 = (readC v0).num) → ∀ v8 : (List UInt8), (v8 = (readC v0).foot) → ∀ v10 : Int, (v10 = (readC v0).rq) → ∀ v12 : (List UInt8), (v12 = (readC v0).path) → ∀ v14 : Int, (v14 = (readC v0).mode) → ∀ v16 : Int, (v16 = (readC v0).n) → ∀ v18 : Int, (v18 = (readC v0).time) → ∀ v20 : Int, (v20 = (readE v0)) → T1 ∧ T1 ∧ T1 ∧ T1 ∧ tt ∧ T1 ∧ tt ∧ T1 ∧ T1 ∧ T1 ∧ (bif (v2 == 0) then (T1 ∧ tt ∧ (T1 ∧ True) ∧ (T1 ∧ ((0 : Int) ≤ c.k ∧ c.k ≤ 8) ∧ (List.length c.foot) ≤ 900000 ∧ (List.length c.path) ≤ 900000 ∧ (rightC c) = true) ∧ ∀ v22 : (List UInt8), (v22 = (textC c)) → T1 ∧ T1 ∧ T1 ∧ (bif (@BEq.beq.{0} (List UInt8) (@List.instBEq.{0} UInt8 (@instBEqOfDecidableEq.{0} UInt8 instDecidableEqUInt8)) v0 v22) then (T1 ∧ T1 ∧ T1 ∧ T1 ∧ (bif (v20 == 0) then (tt ∧ tt ∧ T1 ∧ T1 ∧ T1 ∧ tt ∧ tt ∧ (true = (Bool.and (v4 == c.k) (Bool.and (v6 == c.num) (Bool.and (@BEq.beq.{0} (List UInt8) (@List.instBEq.{0} UInt8 (@instBEqOfDecidableEq.{0} UInt8 instDecidableEqUInt8)) v8 c.foot) (Bool.and (v10 == c.rq) (Bool.and (@BEq.beq.{0} (List UInt8) (@List.instBEq.{0} UInt8 (@instBEqOfDecidableEq.{0} UInt8 instDecidableEqUInt8)) v12 c.path) (Bool.and (v14 == c.mode) (Bool.and (v16 == c.n) (Bool.and (v18 == c.time) true)))))))) ∧ True) ∧ tt) else (false = false ∧ T1 ∧ tt ∧ tt ∧ (true = false ∧ True) ∧ tt))) else (false = false ∧ T1 ∧ false = false ∧ T1 ∧ tt ∧ tt ∧ (true = false ∧ True) ∧ tt))) else (false = false ∧ T1 ∧ false = false ∧ T1 ∧ false = false ∧ T1 ∧ tt ∧ tt ∧ (true = false ∧ True) ∧ tt)))))))) : inLawShows0 c :=
  Eq.mp (show _ = _ by kernel_rfl) h
theorem vcLawReads0 (t : (List UInt8)) (h : (tt ∧ T1 ∧ tt ∧ (T1 ∧ True) ∧ T1 ∧ tt ∧ T1 ∧ T1 ∧ T1 ∧ (bif (decide ((300 : Int) < ((List.length t) : Int))) then (tt ∧ T1 ∧ tt ∧ tt ∧ (tt ∧ True) ∧ tt) else (tt ∧ T1 ∧ (T1 ∧ (List.length t) ≤ 800000) ∧ ∀ v0 : Int, (v0 = (readC t).k) → ∀ v2 : Int, (v2 = (readC t).num) → ∀ v4 : (List UInt8), (v4 = (readC t).foot) → ∀ v6 : Int, (v6 = (readC t).rq) → ∀ v8 : (List UInt8), (v8 = (readC t).path) → ∀ v10 : Int, (v10 = (readC t).mode) → ∀ v12 : Int, (v12 = (readC t).n) → ∀ v14 : Int, (v14 = (readC t).time) → ∀ v16 : Int, (v16 = (readE t)) → T1 ∧ T1 ∧ T1 ∧ T1 ∧ tt ∧ T1 ∧ tt ∧ T1 ∧ T1 ∧ (bif (v16 != 0) then (tt ∧ T1 ∧ T1 ∧ T1 ∧ (bif (v16 == 10) then (tt ∧ T1 ∧ T1 ∧ T1 ∧ T1 ∧ tt ∧ tt ∧ (true = (Bool.and (v0 == 0) (Bool.and (v2 == 0) (Bool.and (@BEq.beq.{0} (List UInt8) (@List.instBEq.{0} UInt8 (@instBEqOfDecidableEq.{0} UInt8 instDecidableEqUInt8)) v4 (@List.nil.{0} UInt8)) (Bool.and (v6 == 0) (Bool.and (@BEq.beq.{0} (List UInt8) (@List.instBEq.{0} UInt8 (@instBEqOfDecidableEq.{0} UInt8 instDecidableEqUInt8)) v8 (@List.nil.{0} UInt8)) (Bool.and (v10 == 0) (Bool.and (v12 == 0) (Bool.and (v14 == 0) true)))))))) ∧ True) ∧ tt) else (false = false ∧ T1 ∧ tt ∧ tt ∧ (true = false ∧ True) ∧ tt))) else (tt ∧ tt ∧ (T1 ∧ True) ∧ (T1 ∧ (List.length v4) ≤ 900000 ∧ (List.length v8) ≤ 900000) ∧ T1 ∧ (bif (rightC (CmdP.mk v0 v2 v4 v6 v8 v10 v12 v14)) then (tt ∧ (T1 ∧ True) ∧ (T1 ∧ ((0 : Int) ≤ v0 ∧ v0 ≤ 8) ∧ (List.length v4) ≤ 900000 ∧ (List.length v8) ≤ 900000 ∧ (rightC (CmdP.mk v0 v2 v4 v6 v8 v10 v12 v14)) = true) ∧ ∀ v18 : (List UInt8), (v18 = (textC (CmdP.mk v0 v2 v4 v6 v8 v10 v12 v14))) → T1 ∧ T1 ∧ T1 ∧ T1 ∧ tt ∧ tt ∧ (true = (@BEq.beq.{0} (List UInt8) (@List.instBEq.{0} UInt8 (@instBEqOfDecidableEq.{0} UInt8 instDecidableEqUInt8)) v18 t) ∧ True) ∧ tt) else (false = false ∧ T1 ∧ tt ∧ tt ∧ (true = false ∧ True) ∧ tt)))))))) : inLawReads0 t :=
  Eq.mp (show _ = _ by kernel_rfl) h
end Go.Proofs.YtpomloangafbkaaDoor
/- Commands' texts: the conditions hold. -/
namespace Go.Proofs.YtpomloangafbkaaDoor
set_option linter.unusedVariables false
set_option linter.unusedSimpArgs false
open Go.RowKit
set_option maxRecDepth 100000
theorem split_ne (t : List UInt8) : 1 ≤ (wordsC t).length ∧ (wordsC t).length ≤ t.length + 1 :=
  ⟨by have := split_size t [32] (by simp); unfold wordsC; omega, split_count_le t [32] (by simp)⟩
theorem read_not {t : List UInt8} (h : okR t = false) : readC t = zC ∧ readE t = 10 := by
  unfold readC readE
  rw [h]; exact ⟨rfl, rfl⟩
theorem read_yes {t : List UInt8} (h : okR t = true) : readC t = cR t ∧ readE t = 0 := by
  unfold readC readE
  rw [h]; exact ⟨rfl, rfl⟩
theorem all_stop {t : List UInt8} {i : Nat} (hi : i < (restW t).length) (h : setK ((restW t).getD i []) = false) : okR t = false := by
  have : allN t (restW t).length = false := by
    unfold allN
    rw [List.take_of_length_le (Nat.le_refl _), List.all_eq_false]
    refine ⟨(restW t).getD i [], ?_, by rw [h]; simp⟩
    rw [List.getD_eq_getElem?_getD, List.getElem?_eq_getElem hi]
    exact List.getElem_mem hi
  unfold okR
  rw [this]; rfl
theorem okCread0 : OkCread0 := by
  intro t hq
  have hq' : t.length ≤ 800000 := hq
  refine vcCread0 t ?_
  have e : Lib.split t [32] = wordsC t := rfl
  obtain ⟨w1, w2⟩ := split_ne t
  simp only [true_and, and_true, forall_eq, eq_self, e, length_strsAV]
  have hw : elemAt (strsAV (wordsC t)) 0 = .str ((wordsC t).getD 0 []) := elemAt_strs (by omega)
  have hk : rdStr (elemAt (strsAV (wordsC t)) 0) 0 = (wordsC t).getD 0 [] := rdStr_strs (by omega)
  have hcut : cutL (strsAV (wordsC t)) 1 (wordsC t).length = strsAV (restW t) := by
    rw [cutL_strs]
    unfold cutL restW
    rw [List.take_of_length_le (Nat.le_refl _)]
  have e0 : rdN t 0 = zK (kindN ((wordsC t).getD 0 [])) := rfl
  rw [hk, hcut, length_strsAV]
  refine ⟨⟨by omega, by omega⟩, ⟨by omega, by omega, okElem_strs (by omega)⟩, okRead_strs (by omega), ⟨⟨by omega, by omega⟩, okWidth_strs _⟩, ⟨(0 : Nat), ⟨⟨rfl, rfl, rfl⟩, by rw [e0]; rfl⟩, Nat.zero_le _, by simp [allN]⟩, ?_⟩
  rintro i ⟨hi, ha⟩
  refine cond_prop (fun g => ?_) fun g => ?_
  · have hi' : i < (restW t).length := by have := of_decide_eq_true g; omega
    have eI : (Int.toNat (i : Int)) = i := by omega
    obtain ⟨n1, n2⟩ := rdN_succ hi'
    have hx : ((restW t).getD i []).length ≤ t.length := by
      refine rest_len t _ ?_
      rw [List.getD_eq_getElem?_getD, List.getElem?_eq_getElem hi']
      exact List.getElem_mem hi'
    have hlr : (restW t).length ≤ t.length + 1 := by unfold restW; rw [List.length_drop]; omega
    rw [eI, rdStr_strs hi', wrap_i64 (n := (i : Int) + 1) (by omega) (by omega)]
    refine ⟨⟨by omega, by omega, okElem_strs hi'⟩, okRead_strs hi', by omega, cond_prop (fun g2 => ?_) fun g2 => ?_⟩
    · have h2 : setK ((restW t).getD i []) = false := by simpa using g2
      obtain ⟨r1, r2⟩ := read_not (all_stop hi' h2)
      rw [r1, r2]
      exact ⟨rfl, rfl, rfl, rfl, rfl, rfl, rfl, rfl, rfl⟩
    · have h2 : setK ((restW t).getD i []) = true := by simpa using g2
      refine ⟨(i + 1 : Nat), ⟨by congr 1, ?_⟩, ⟨by omega, by rw [n2, ha, h2]; rfl⟩, by omega⟩
      rw [n1]; rfl
  · have hi' : i = (restW t).length := by have := of_decide_eq_false g; omega
    subst hi'
    have hc : rdN t (restW t).length = cR t := rfl
    have hl := rdN_lens t (restW t).length
    rw [hc] at hl ⊢
    have no : (rightC (cR t) = false ∨ ¬ showV (cR t) = t) → okR t = false := by
      intro h
      unfold okR
      rcases h with h | h
      · rw [h]; simp
      · simp [h]
    refine ⟨⟨by omega, by omega⟩, cond_prop (fun g1 => ?_) fun g1 => cond_prop (fun g2 => ?_) fun g2 => ?_⟩
    · have h' : rightC (cR t) = false := by
        cases hr : rightC (cR t) with
        | false => rfl
        | true => simp [showE, hr] at g1
      obtain ⟨r1, r2⟩ := read_not (no (.inl h'))
      rw [r1, r2]
      exact ⟨rfl, rfl, rfl, rfl, rfl, rfl, rfl, rfl, rfl⟩
    · have h' : ¬ showV (cR t) = t := by simpa using g2
      obtain ⟨r1, r2⟩ := read_not (no (.inr h'))
      rw [r1, r2]
      exact ⟨rfl, rfl, rfl, rfl, rfl, rfl, rfl, rfl, rfl⟩
    · have h1 : rightC (cR t) = true := by
        cases hr : rightC (cR t) with
        | true => rfl
        | false => simp [showE, hr] at g1
      have h2 : showV (cR t) = t := by simpa using g2
      have ho : okR t = true := by
        unfold okR
        rw [ha, h1, h2]; simp
      obtain ⟨r1, r2⟩ := read_yes ho
      rw [r1, r2]
      exact ⟨rfl, rfl, rfl, rfl, rfl, rfl, rfl, rfl, rfl⟩
theorem smallCB_len {c : CmdP} (h : (!smallCB c) = false) : c.foot.length ≤ 900000 ∧ c.path.length ≤ 900000 := by
  simp [smallCB] at h; omega
theorem show_short {c : CmdP} (hn : NumOK c) (h : rightC c = true) : (showV c).length ≤ 800000 := by
  obtain ⟨r, h1, h2⟩ := fields_head c
  have hl := right_lens h
  have h3 : ∀ y ∈ fieldsC c, y.length ≤ 100 := by
    intro y hy
    have ht := time_facts h
    unfold fieldsC at hy
    simp only [List.mem_append, List.mem_cons, List.not_mem_nil, or_false] at hy
    rcases hy with (((((rfl | hy) | hy) | hy) | hy) | hy) | hy
    · have := nameC_len c.k; omega
    · split at hy
      · simp only [List.mem_cons, List.not_mem_nil, or_false] at hy
        rcases hy with rfl | rfl
        · have := pairN_len (nm := [110, 117, 109]) (by decide) hn.num.2; omega
        · simp [catL]; omega
      · simp at hy
    · split at hy
      · simp at hy; subst hy
        have := pairN_len (nm := [114, 101, 113, 117, 101, 115, 116]) (by decide) hn.rq.2; omega
      · simp at hy
    · split at hy
      · simp at hy; subst hy
        simp [catL]; omega
      · simp at hy
    · split at hy
      · rename_i g
        simp at hy; subst hy
        have hm := ht.2.2 g
        have := pairN_len (nm := [109, 111, 100, 101]) (v := c.mode) (by decide) (by omega); omega
      · simp at hy
    · split at hy
      · simp at hy; subst hy
        have := pairN_len (nm := [110]) (by decide) hn.n.2; omega
      · simp at hy
    · split at hy
      · simp at hy; subst hy
        have := pairN_len (nm := [116, 105, 109, 101]) (v := c.time) (by decide) (by omega); omega
      · simp at hy
  unfold showV
  rw [if_pos h]
  rw [h1] at h3 ⊢
  have := join_lens 32 100 (nameC c.k) r h3
  have h4 : (100 + 1) * (r.length + 1) ≤ (100 + 1) * 8 := Nat.mul_le_mul_left _ (by omega)
  omega
theorem okLawShows0 : OkLawShows0 := by
  intro c hq hh
  refine vcLawShows0 c ?_
  simp only [true_and, and_true, forall_eq, eq_self]
  refine ⟨hq, cond_prop (fun _ => trivial) fun h1 => ?_⟩
  have hl := smallCB_len h1
  have hn : NumOK c := ⟨hh.1, hh.2.1, hh.2.2⟩
  refine ⟨hl, hl, ?_⟩
  cases hr : rightC c with
  | false =>
    obtain ⟨s1, s2⟩ := show_not hr
    rw [s1, s2]
    simp
  | true =>
    obtain ⟨r1, r2⟩ := read_shown hr hn
    obtain ⟨d1, d2, d3⟩ := show_done hn hr hl.1 hl.2
    have hk := right_kind hr
    have et : showV c = textC c := d2
    simp only [Bool.not_true, cond_false, d3, r1, r2]
    refine ⟨show_short hn hr, ?_⟩
    simp [hk, hl, et]
theorem okLawReads0 : OkLawReads0 := by
  intro t hq
  refine vcLawReads0 t ?_
  simp only [true_and, and_true, forall_eq, eq_self]
  refine cond_prop (fun _ => trivial) fun h1 => ?_
  have hl : t.length ≤ 300 := by have := of_decide_eq_false h1; omega
  refine ⟨by omega, ?_⟩
  cases ho : okR t with
  | false =>
    obtain ⟨r1, r2⟩ := read_not ho
    rw [r1, r2]
    simp [zC]
  | true =>
    obtain ⟨r1, r2⟩ := read_yes ho
    obtain ⟨h2, h3⟩ := read_tells ho
    have hk := right_kind h2
    have hle := right_lens h2
    rw [r1, r2]
    have e : (⟨(cR t).k, (cR t).num, (cR t).foot, (cR t).rq, (cR t).path, (cR t).mode, (cR t).n, (cR t).time⟩ : CmdP) = cR t := rfl
    rw [e, h2, h3]
    simp [hk]
    omega
end Go.Proofs.YtpomloangafbkaaDoor
/- The contracts are met. -/
namespace Go.Proofs.YtpomloangafbkaaDoor
set_option linter.unusedVariables false
set_option linter.unusedSimpArgs false
open Go.RowKit
theorem sndCread : Sound Tryd.prog (lookΓ gamCread) := sound_of _ fun p hp => by
  simp only [gamCread, List.mem_cons, List.not_mem_nil, or_false] at hp
  rcases hp with rfl | rfl | rfl | rfl
  · exact meetsSplitS.orNil
  · exact meetsKind.orNil
  · exact meetsSetF.orNil
  · exact meetsCshow.orNil
set_option maxHeartbeats 4000000 in
theorem meetsCread : Meets Tryd.prog 26 creadF := by
  refine meets_of_awp (Γ := lookΓ gamCread) (L := fun args => match args with | [.val (.str t)] => lpCread0 t | _ => fun _ => none) sndCread mixedOrders Tryd.func26 rfl Tryd.call26 ?_
  intro args q r hF hq ho
  unfold creadF at hF
  split at hF
  · cases hF
    exact ⟨by simp only [List.length_cons, List.length_nil]; decide, okCread0 _ hq⟩
  · cases hF
theorem sndLawShows : Sound Tryd.prog (lookΓ gamLawShows) := sound_of _ fun p hp => by
  simp only [gamLawShows, List.mem_cons, List.not_mem_nil, or_false] at hp
  rcases hp with rfl | rfl | rfl | rfl | rfl | rfl | rfl
  · exact meetsAnchor07.orNil
  · exact meetsSmall07.orNil
  · exact meetsOf07.orNil
  · exact meetsRright.orNil
  · exact meetsCshow.orNil
  · exact meetsCread.orNil
  · exact meetsText7.orNil
set_option maxHeartbeats 4000000 in
theorem meetsLawShows : Meets Tryd.prog 6 lawShowsF := by
  refine meets_of_awp (Γ := lookΓ gamLawShows) (L := fun _ _ => none) sndLawShows mixedOrders Tryd.func6 rfl Tryd.call6 ?_
  intro args q r hF hq ho
  unfold lawShowsF at hF
  split at hF
  · split at hF
    · rename_i c hzc
      obtain rfl := cmdOf_some hzc
      cases hF
      exact ⟨by simp only [List.length_cons, List.length_nil]; decide, okLawShows0 _ hq (⟨okay_u64 (argA 0 1 ho rfl rfl), okay_u64 (argA 0 3 ho rfl rfl), okay_u64 (argA 0 6 ho rfl rfl)⟩)⟩
    · cases hF
  · cases hF
theorem sndLawReads : Sound Tryd.prog (lookΓ gamLawReads) := sound_of _ fun p hp => by
  simp only [gamLawReads, List.mem_cons, List.not_mem_nil, or_false] at hp
  rcases hp with rfl | rfl | rfl | rfl | rfl
  · exact meetsAnchor07.orNil
  · exact meetsOf07.orNil
  · exact meetsRright.orNil
  · exact meetsCread.orNil
  · exact meetsText7.orNil
set_option maxHeartbeats 4000000 in
theorem meetsLawReads : Meets Tryd.prog 7 lawReadsF := by
  refine meets_of_awp (Γ := lookΓ gamLawReads) (L := fun _ _ => none) sndLawReads mixedOrders Tryd.func7 rfl Tryd.call7 ?_
  intro args q r hF hq ho
  unfold lawReadsF at hF
  split at hF
  · cases hF
    exact ⟨by simp only [List.length_cons, List.length_nil]; decide, okLawReads0 _ hq⟩
  · cases hF
end Go.Proofs.YtpomloangafbkaaDoor
