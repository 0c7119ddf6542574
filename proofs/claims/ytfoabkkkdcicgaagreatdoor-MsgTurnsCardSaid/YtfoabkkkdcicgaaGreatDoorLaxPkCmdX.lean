/- Contracts by content, their conditions, and that they are met: CmdX. -/
import Derived.Test.YtfoabkkkdcicgaaGreatDoorLaxCmdRound
import Derived.Test.YtfoabkkkdcicgaaGreatDoorLaxCmdV
import Derived.Test.YtfoabkkkdcicgaaGreatDoorLaxCmdC
/- Contracts by content, and the conditions that their code must meet. -/
namespace Go.Proofs.YtfoabkkkdcicgaaGreatDoor
set_option linter.unusedVariables false
set_option linter.unusedSimpArgs false
open Go.RowKit
def smallC (c : CmdP) : Prop := c.foot.length ≤ 900000 ∧ c.path.length ≤ 900000
abbrev maxC (c : CmdP) : Prop := c.foot.length ≤ 9223372036854775807 ∧ c.path.length ≤ 9223372036854775807
def smallCB (c : CmdP) : Bool := decide (c.path.length < 200) && decide (c.foot.length < 200)
abbrev rangeC (c : CmdP) : Prop := (0 ≤ c.num ∧ c.num ≤ 18446744073709551615) ∧ (0 ≤ c.rq ∧ c.rq ≤ 18446744073709551615) ∧ (0 ≤ c.n ∧ c.n ≤ 18446744073709551615)
def parseE (l : List UInt8) : Int := inEnd (ctR l 0) (ctE l 0)
def parseC (l : List UInt8) : CmdP := if parseE l = 0 then ctC l 0 else zC
def loopUnlike (c d : CmdP) : LoopInv :=
  { V := Nat
    T := fun i => [(2, .ptr 2 0), (3, .ptr 3 0), (5, .sl (bytesAV (encP c)) .no), (6, .sl (bytesAV (encP d)) .no), (7, .int .i64 (i : Int))]
    B := fun i => [(2, cmdL c), (3, cmdL d)]
    R := fun i => []
    inv := fun i => i ≤ (encP c).length ∧ i ≤ (encP d).length ∧ (encP c).take i = (encP d).take i
    mu := fun i => (encP c).length - i }
def ctakeF : Con
  | [.box [.sl xs .no, .int .i64 e]] => (some (isBytes xs, ⟨.agg (cmdL (ctC (bytesL xs) e)), (some [.sl (bytesAV (ctR (bytesL xs) e)) .no, .int .i64 (ctE (bytesL xs) e)]), none⟩))
  | _ => none
def gamCtake : List (Nat × Con) := [(59, inByteF.orNil), (80, hadF.orNil), (60, inFailF.orNil), (88, fieldsIF.orNil), (52, crightF.orNil), (64, inFailedF.orNil)]
def lpCtake0 (xs : List AV) (e : Int) : Nat → Option LoopPlan := fun _ => none
def inCtake0 (xs : List AV) (e : Int) : Prop := awp [0] (lpCtake0 xs e) (lookΓ gamCtake) Tryz.prog Tryz.f62.ntmps 0 (Tryz.f62.body.getD .skip) (entrySt [.box [.sl xs .no, .int .i64 e]]) (exitQ Tryz.prog Tryz.f62.results.toList [0] ⟨.agg (cmdL (ctC (bytesL xs) e)), (some [.sl (bytesAV (ctR (bytesL xs) e)) .no, .int .i64 (ctE (bytesL xs) e)]), none⟩)
def OkCtake0 : Prop := ∀ (xs : List AV) (e : Int), isBytes xs → inCtake0 xs e
end Go.Proofs.YtfoabkkkdcicgaaGreatDoor
/- What the verification conditions come to: printed by a program of ours (wip/lax/ex/Norm.lean). -/
namespace Go.Proofs.YtfoabkkkdcicgaaGreatDoor
set_option linter.unusedVariables false
open Go.RowKit
set_option maxRecDepth 100000
theorem vcCtake0 (xs : (List AV)) (e : Int) (h : let q0 := (ctC (bytesL xs) e); let q1 := (bytesAV (ctR (bytesL xs) e)); let q2 := (ctE (bytesL xs) e); (tt ∧ T1 ∧ tt ∧ T1 ∧ (T1 ∧ (isBytes xs)) ∧ ∀ v0 : Int, (v0 = (inByteV (bytesL xs) e)) → ∀ v2 : (List AV), (v2 = (bytesAV (tkRest (bytesL xs) e 1))) → ∀ v4 : Int, (v4 = (tkErr (List.length (bytesL xs)) e 1)) → T1 ∧ T1 ∧ tt ∧ T1 ∧ (T1 ∧ True) ∧ T1 ∧ T1 ∧ T1 ∧ T1 ∧ tt ∧ T1 ∧ tt ∧ T1 ∧ T1 ∧ (bif (Bool.not (okK (IntKind.wrap IntKind.i64 v0))) then (tt ∧ T1 ∧ (T1 ∧ True) ∧ ∀ v6 : (List AV), (v6 = v2) → ∀ v8 : Int, (v8 = (inFail v4 22)) → tt ∧ T1 ∧ T1 ∧ tt ∧ (T1 ∧ (isBytes v6) ∧ (hS (IntKind.wrap IntKind.i64 v0)) = (hS (IntKind.wrap IntKind.i64 v0)) ∧ (hR (IntKind.wrap IntKind.i64 v0)) = (hR (IntKind.wrap IntKind.i64 v0)) ∧ (hP (IntKind.wrap IntKind.i64 v0)) = (hP (IntKind.wrap IntKind.i64 v0)) ∧ (hM (IntKind.wrap IntKind.i64 v0)) = (hM (IntKind.wrap IntKind.i64 v0)) ∧ (hN (IntKind.wrap IntKind.i64 v0)) = (hN (IntKind.wrap IntKind.i64 v0)) ∧ (hT (IntKind.wrap IntKind.i64 v0)) = (hT (IntKind.wrap IntKind.i64 v0))) ∧ T1 ∧ tt ∧ tt ∧ tt ∧ (T1 ∧ (List.length (vFoot (bytesL v6) v8 (IntKind.wrap IntKind.i64 v0))) ≤ 900000 ∧ (List.length (vPath (bytesL v6) v8 (IntKind.wrap IntKind.i64 v0))) ≤ 900000) ∧ T1 ∧ (bif (Bool.not (rightC (CmdP.mk (IntKind.wrap IntKind.i64 v0) (vNum (bytesL v6) v8 (IntKind.wrap IntKind.i64 v0)) (vFoot (bytesL v6) v8 (IntKind.wrap IntKind.i64 v0)) (vRq (bytesL v6) v8 (IntKind.wrap IntKind.i64 v0)) (vPath (bytesL v6) v8 (IntKind.wrap IntKind.i64 v0)) (vMode (bytesL v6) v8 (IntKind.wrap IntKind.i64 v0)) (vN (bytesL v6) v8 (IntKind.wrap IntKind.i64 v0)) (vTime (bytesL v6) v8 (IntKind.wrap IntKind.i64 v0))))) then (tt ∧ T1 ∧ (T1 ∧ True) ∧ ∀ v10 : (List AV), (v10 = (bytesAV (fR (bytesL v6) v8 (IntKind.wrap IntKind.i64 v0)))) → ∀ v12 : Int, (v12 = (inFail (fE (bytesL v6) v8 (IntKind.wrap IntKind.i64 v0)) 10)) → tt ∧ T1 ∧ (T1 ∧ True) ∧ ∀ v14 : (List AV), (v14 = v10) → ∀ v16 : Int, (v16 = v12) → (bif (@Decidable.decide (@Ne.{1} Int v12 (0 : Int)) (@instDecidableNot (v12 = 0) (@Int.instDecidableEq v12 (0 : Int)))) then (tt ∧ T1 ∧ tt ∧ tt ∧ tt ∧ (q1 = v14 ∧ q2 = v16 ∧ q0.k = 0 ∧ q0.num = 0 ∧ q0.foot = [] ∧ q0.rq = 0 ∧ q0.path = [] ∧ q0.mode = 0 ∧ q0.n = 0 ∧ q0.time = 0 ∧ True) ∧ tt) else (tt ∧ tt ∧ tt ∧ tt ∧ tt ∧ (q1 = v14 ∧ q2 = v16 ∧ q0.k = (IntKind.wrap IntKind.i64 v0) ∧ q0.num = (vNum (bytesL v6) v8 (IntKind.wrap IntKind.i64 v0)) ∧ q0.foot = (vFoot (bytesL v6) v8 (IntKind.wrap IntKind.i64 v0)) ∧ q0.rq = (vRq (bytesL v6) v8 (IntKind.wrap IntKind.i64 v0)) ∧ q0.path = (vPath (bytesL v6) v8 (IntKind.wrap IntKind.i64 v0)) ∧ q0.mode = (vMode (bytesL v6) v8 (IntKind.wrap IntKind.i64 v0)) ∧ q0.n = (vN (bytesL v6) v8 (IntKind.wrap IntKind.i64 v0)) ∧ q0.time = (vTime (bytesL v6) v8 (IntKind.wrap IntKind.i64 v0)) ∧ True) ∧ tt))) else (tt ∧ T1 ∧ (T1 ∧ True) ∧ ∀ v10 : (List AV), (v10 = (bytesAV (fR (bytesL v6) v8 (IntKind.wrap IntKind.i64 v0)))) → ∀ v12 : Int, (v12 = (fE (bytesL v6) v8 (IntKind.wrap IntKind.i64 v0))) → (bif (@Decidable.decide (@Ne.{1} Int (fE (bytesL v6) v8 (IntKind.wrap IntKind.i64 v0)) (0 : Int)) (@instDecidableNot ((fE (bytesL v6) v8 (IntKind.wrap IntKind.i64 v0)) = 0) (@Int.instDecidableEq (fE (bytesL v6) v8 (IntKind.wrap IntKind.i64 v0)) (0 : Int)))) then (tt ∧ T1 ∧ tt ∧ tt ∧ tt ∧ (q1 = v10 ∧ q2 = v12 ∧ q0.k = 0 ∧ q0.num = 0 ∧ q0.foot = [] ∧ q0.rq = 0 ∧ q0.path = [] ∧ q0.mode = 0 ∧ q0.n = 0 ∧ q0.time = 0 ∧ True) ∧ tt) else (tt ∧ tt ∧ tt ∧ tt ∧ tt ∧ (q1 = v10 ∧ q2 = v12 ∧ q0.k = (IntKind.wrap IntKind.i64 v0) ∧ q0.num = (vNum (bytesL v6) v8 (IntKind.wrap IntKind.i64 v0)) ∧ q0.foot = (vFoot (bytesL v6) v8 (IntKind.wrap IntKind.i64 v0)) ∧ q0.rq = (vRq (bytesL v6) v8 (IntKind.wrap IntKind.i64 v0)) ∧ q0.path = (vPath (bytesL v6) v8 (IntKind.wrap IntKind.i64 v0)) ∧ q0.mode = (vMode (bytesL v6) v8 (IntKind.wrap IntKind.i64 v0)) ∧ q0.n = (vN (bytesL v6) v8 (IntKind.wrap IntKind.i64 v0)) ∧ q0.time = (vTime (bytesL v6) v8 (IntKind.wrap IntKind.i64 v0)) ∧ True) ∧ tt))))) else (tt ∧ T1 ∧ T1 ∧ tt ∧ (T1 ∧ (isBytes v2) ∧ (hS (IntKind.wrap IntKind.i64 v0)) = (hS (IntKind.wrap IntKind.i64 v0)) ∧ (hR (IntKind.wrap IntKind.i64 v0)) = (hR (IntKind.wrap IntKind.i64 v0)) ∧ (hP (IntKind.wrap IntKind.i64 v0)) = (hP (IntKind.wrap IntKind.i64 v0)) ∧ (hM (IntKind.wrap IntKind.i64 v0)) = (hM (IntKind.wrap IntKind.i64 v0)) ∧ (hN (IntKind.wrap IntKind.i64 v0)) = (hN (IntKind.wrap IntKind.i64 v0)) ∧ (hT (IntKind.wrap IntKind.i64 v0)) = (hT (IntKind.wrap IntKind.i64 v0))) ∧ T1 ∧ tt ∧ tt ∧ tt ∧ (T1 ∧ (List.length (vFoot (bytesL v2) v4 (IntKind.wrap IntKind.i64 v0))) ≤ 900000 ∧ (List.length (vPath (bytesL v2) v4 (IntKind.wrap IntKind.i64 v0))) ≤ 900000) ∧ T1 ∧ (bif (Bool.not (rightC (CmdP.mk (IntKind.wrap IntKind.i64 v0) (vNum (bytesL v2) v4 (IntKind.wrap IntKind.i64 v0)) (vFoot (bytesL v2) v4 (IntKind.wrap IntKind.i64 v0)) (vRq (bytesL v2) v4 (IntKind.wrap IntKind.i64 v0)) (vPath (bytesL v2) v4 (IntKind.wrap IntKind.i64 v0)) (vMode (bytesL v2) v4 (IntKind.wrap IntKind.i64 v0)) (vN (bytesL v2) v4 (IntKind.wrap IntKind.i64 v0)) (vTime (bytesL v2) v4 (IntKind.wrap IntKind.i64 v0))))) then (tt ∧ T1 ∧ (T1 ∧ True) ∧ ∀ v6 : (List AV), (v6 = (bytesAV (fR (bytesL v2) v4 (IntKind.wrap IntKind.i64 v0)))) → ∀ v8 : Int, (v8 = (inFail (fE (bytesL v2) v4 (IntKind.wrap IntKind.i64 v0)) 10)) → tt ∧ T1 ∧ (T1 ∧ True) ∧ ∀ v10 : (List AV), (v10 = v6) → ∀ v12 : Int, (v12 = v8) → (bif (@Decidable.decide (@Ne.{1} Int v8 (0 : Int)) (@instDecidableNot (v8 = 0) (@Int.instDecidableEq v8 (0 : Int)))) then (tt ∧ T1 ∧ tt ∧ tt ∧ tt ∧ (q1 = v10 ∧ q2 = v12 ∧ q0.k = 0 ∧ q0.num = 0 ∧ q0.foot = [] ∧ q0.rq = 0 ∧ q0.path = [] ∧ q0.mode = 0 ∧ q0.n = 0 ∧ q0.time = 0 ∧ True) ∧ tt) else (tt ∧ tt ∧ tt ∧ tt ∧ tt ∧ (q1 = v10 ∧ q2 = v12 ∧ q0.k = (IntKind.wrap IntKind.i64 v0) ∧ q0.num = (vNum (bytesL v2) v4 (IntKind.wrap IntKind.i64 v0)) ∧ q0.foot = (vFoot (bytesL v2) v4 (IntKind.wrap IntKind.i64 v0)) ∧ q0.rq = (vRq (bytesL v2) v4 (IntKind.wrap IntKind.i64 v0)) ∧ q0.path = (vPath (bytesL v2) v4 (IntKind.wrap IntKind.i64 v0)) ∧ q0.mode = (vMode (bytesL v2) v4 (IntKind.wrap IntKind.i64 v0)) ∧ q0.n = (vN (bytesL v2) v4 (IntKind.wrap IntKind.i64 v0)) ∧ q0.time = (vTime (bytesL v2) v4 (IntKind.wrap IntKind.i64 v0)) ∧ True) ∧ tt))) else (tt ∧ T1 ∧ (T1 ∧ True) ∧ ∀ v6 : (List AV), (v6 = (bytesAV (fR (bytesL v2) v4 (IntKind.wrap IntKind.i64 v0)))) → ∀ v8 : Int, (v8 = (fE (bytesL v2) v4 (IntKind.wrap IntKind.i64 v0))) → (bif (@Decidable.decide (@Ne.{1} Int (fE (bytesL v2) v4 (IntKind.wrap IntKind.i64 v0)) (0 : Int)) (@instDecidableNot ((fE (bytesL v2) v4 (IntKind.wrap IntKind.i64 v0)) = 0) (@Int.instDecidableEq (fE (bytesL v2) v4 (IntKind.wrap IntKind.i64 v0)) (0 : Int)))) then (tt ∧ T1 ∧ tt ∧ tt ∧ tt ∧ (q1 = v6 ∧ q2 = v8 ∧ q0.k = 0 ∧ q0.num = 0 ∧ q0.foot = [] ∧ q0.rq = 0 ∧ q0.path = [] ∧ q0.mode = 0 ∧ q0.n = 0 ∧ q0.time = 0 ∧ True) ∧ tt) else (tt ∧ tt ∧ tt ∧ tt ∧ tt ∧ (q1 = v6 ∧ q2 = v8 ∧ q0.k = (IntKind.wrap IntKind.i64 v0) ∧ q0.num = (vNum (bytesL v2) v4 (IntKind.wrap IntKind.i64 v0)) ∧ q0.foot = (vFoot (bytesL v2) v4 (IntKind.wrap IntKind.i64 v0)) ∧ q0.rq = (vRq (bytesL v2) v4 (IntKind.wrap IntKind.i64 v0)) ∧ q0.path = (vPath (bytesL v2) v4 (IntKind.wrap IntKind.i64 v0)) ∧ q0.mode = (vMode (bytesL v2) v4 (IntKind.wrap IntKind.i64 v0)) ∧ q0.n = (vN (bytesL v2) v4 (IntKind.wrap IntKind.i64 v0)) ∧ q0.time = (vTime (bytesL v2) v4 (IntKind.wrap IntKind.i64 v0)) ∧ True) ∧ tt)))))))) : inCtake0 xs e :=
  Eq.mp (show _ = _ by kernel_rfl) h
end Go.Proofs.YtfoabkkkdcicgaaGreatDoor
/- The conditions hold: commands in bytes. -/
namespace Go.Proofs.YtfoabkkkdcicgaaGreatDoor
set_option linter.unusedVariables false
set_option linter.unusedSimpArgs false
open Go.RowKit
set_option maxRecDepth 100000

theorem tkOut_len (l : List UInt8) (e k : Int) : (tkOut l e k).length ≤ k.toNat := by
  unfold tkOut
  split
  · rw [List.length_take]; omega
  · simp
theorem inTextV_len (l : List UInt8) (e : Int) : (inTextV l e 64).length ≤ 64 := by
  unfold inTextV
  have h := tkOut_len (shRest l e (most0 64)) (shErr l e (most0 64)) (shV l e (most0 64))
  have h2 : most0 64 = 64 := by decide
  have := shV_range l e (most0 64) (by omega)
  omega
theorem vFoot_len (l : List UInt8) (e k : Int) : (vFoot l e k).length ≤ 900000 := by
  unfold vFoot
  split
  · have := inTextV_len (f1 l e k).1 (f1 l e k).2; omega
  · simp
theorem vPath_len (l : List UInt8) (e k : Int) : (vPath l e k).length ≤ 900000 := by
  unfold vPath
  split
  · have := inTextV_len (f3 l e k).1 (f3 l e k).2; omega
  · simp
theorem ct_right {l : List UInt8} {e : Int} (h : rightC (fC (tkRest l e 1) (ctK l e) (inByteV l e)) = true) : ctE l e = fE (tkRest l e 1) (ctK l e) (inByteV l e) := by unfold ctE; rw [if_pos h]
theorem ct_wrong {l : List UInt8} {e : Int} (h : rightC (fC (tkRest l e 1) (ctK l e) (inByteV l e)) = false) : ctE l e = inFail (fE (tkRest l e 1) (ctK l e) (inByteV l e)) 10 := by unfold ctE; rw [if_neg (by simp [h])]
theorem ctC_ok {l : List UInt8} {e : Int} (h : ctE l e = 0) : ctC l e = fC (tkRest l e 1) (ctK l e) (inByteV l e) := by unfold ctC; rw [if_pos h]
theorem ctC_no {l : List UInt8} {e : Int} (h : ¬ ctE l e = 0) : ctC l e = zC := by unfold ctC; rw [if_neg h]
theorem okCtake0 : OkCtake0 := by
  intro xs e hq
  refine vcCtake0 xs e ?_
  obtain ⟨l, rfl⟩ := hq.get
  simp only [true_and, and_true, forall_eq, eq_self, bytesL_bytesAV, isBytes_bytesAV, length_bytesAV, byW, vFoot_len, vPath_len]
  refine cond_prop (fun h => ?_) fun h => ?_
  · have e1 : ctK l e = inFail (tkErr l.length e 1) 22 := by unfold ctK; rw [if_neg (by simpa using h)]
    rw [← e1]
    refine cond_prop (fun g => ?_) fun g => ?_
    · have E := ct_wrong (l := l) (e := e) (by rw [Bool.not_eq_true'] at g; exact g)
      rw [← E]
      refine cond_prop (fun g2 => ?_) fun g2 => ?_
      · rw [ctC_no (by simpa using g2)]; and_intros <;> rfl
      · rw [ctC_ok (by simpa using g2)]; and_intros <;> rfl
    · have E := ct_right (l := l) (e := e) (by rw [Bool.not_eq_false'] at g; exact g)
      rw [← E]
      refine cond_prop (fun g2 => ?_) fun g2 => ?_
      · rw [ctC_no (by simpa using g2)]; and_intros <;> rfl
      · rw [ctC_ok (by simpa using g2)]; and_intros <;> rfl
  · have e1 : ctK l e = tkErr l.length e 1 := by unfold ctK; rw [if_pos (by simpa using h)]
    rw [← e1]
    refine cond_prop (fun g => ?_) fun g => ?_
    · have E := ct_wrong (l := l) (e := e) (by rw [Bool.not_eq_true'] at g; exact g)
      rw [← E]
      refine cond_prop (fun g2 => ?_) fun g2 => ?_
      · rw [ctC_no (by simpa using g2)]; and_intros <;> rfl
      · rw [ctC_ok (by simpa using g2)]; and_intros <;> rfl
    · have E := ct_right (l := l) (e := e) (by rw [Bool.not_eq_false'] at g; exact g)
      rw [← E]
      refine cond_prop (fun g2 => ?_) fun g2 => ?_
      · rw [ctC_no (by simpa using g2)]; and_intros <;> rfl
      · rw [ctC_ok (by simpa using g2)]; and_intros <;> rfl
theorem short10 {v : Int} (h : 0 ≤ v ∧ v ≤ 18446744073709551615) : (short v.toNat).length ≤ 10 := short_le10 h.1 h.2
theorem encC_len {c : CmdP} (hs : smallC c) (hr : rangeC c) : (encC c).length ≤ c.foot.length + c.path.length + 100 := by
  have s1 := short10 hr.2.1
  have s2 := short10 hr.2.2
  have s3 := short10 (u64_range c.time)
  have s4 := encText_len hs.1
  have s5 := encText_len hs.2
  unfold encC
  simp only [catL_length, encByte_len]
  have b : ∀ (p : Bool) (l : List UInt8), (if p = true then l else []).length ≤ l.length := by intro p l; cases p <;> simp
  have c1 := b (hS c.k) (catL (bytesOf c.num (cap8 8)) (encText c.foot))
  have c2 := b (hR c.k) (short c.rq.toNat)
  have c3 := b (hP c.k) (encText c.path)
  have c4 := b (hM c.k) (encByte (IntKind.u8.wrap c.mode))
  have c5 := b (hN c.k) (short c.n.toNat)
  have c6 := b (hT c.k) (short (IntKind.u64.wrap c.time).toNat)
  rw [catL_length, fix_len] at c1
  rw [encByte_len] at c4
  omega
theorem encP_len {c : CmdP} (hs : smallC c) (hr : rangeC c) : (encP c).length ≤ c.foot.length + c.path.length + 100 := by
  unfold encP
  split
  · exact encC_len hs hr
  · rw [encByte_len]; omega
theorem smallCB_small {c : CmdP} (h : (!smallCB c) = false) : smallC c := by
  simp [smallCB] at h; unfold smallC; omega
theorem eqC_iff {c d : CmdP} : eqC c d = true ↔ c = d := by
  obtain ⟨a1, a2, a3, a4, a5, a6, a7, a8⟩ := c
  obtain ⟨b1, b2, b3, b4, b5, b6, b7, b8⟩ := d
  simp [eqC, cmdL, sameCells, AV.same]
theorem enc_unlike {c d : CmdP} (hc : rightC c = true) (hd : rightC d = true) (rc : rangeC c) (rd : rangeC d) {n : Nat} (h1 : n ≤ (encC c).length) (h2 : n ≤ (encC d).length) (h : (encC c).take n = (encC d).take n) (he : n = (encC c).length ∨ n = (encC d).length) : c = d := by
  have key : ∀ {c d : CmdP}, rightC c = true → rightC d = true → rangeC c → rangeC d → (encC c) <+: (encC d) → c = d := by
    intro c d hc hd rc rd hp
    obtain ⟨t, ht⟩ := hp
    have t1 := (take_enc hc rc t).1
    have t2 := (take_enc hd rd []).1
    rw [List.append_nil, ← ht, t1] at t2
    exact t2
  rcases he with he | he
  · refine key hc hd rc rd ?_
    rw [he, List.take_length] at h
    rw [h]; exact List.take_prefix _ _
  · refine (key hd hc rd rc ?_).symm
    rw [he, List.take_length] at h
    rw [← h]; exact List.take_prefix _ _
theorem take_next {a b : List UInt8} {i : Nat} (h : a.take i = b.take i) (h1 : i < a.length) (h2 : i < b.length) (g : ((a.getD i 0).toNat : Int) = ((b.getD i 0).toNat : Int)) : a.take (i + 1) = b.take (i + 1) := by
  have g' : a.getD i 0 = b.getD i 0 := UInt8.toNat_inj.1 (by omega)
  rw [List.getD_eq_getElem?_getD, List.getD_eq_getElem?_getD, List.getElem?_eq_getElem h1, List.getElem?_eq_getElem h2] at g'
  rw [List.take_add_one, List.take_add_one, h, List.getElem?_eq_getElem h1, List.getElem?_eq_getElem h2]
  simp only [Option.getD_some] at g'
  rw [g']
theorem parse_encP {c : CmdP} (rc : rangeC c) : parseE (encP c) = 0 ∧ parseC (encP c) = if rightC c then c else zC := by
  have h := take_encP rc []
  rw [List.append_nil] at h
  have e : parseE (encP c) = 0 := by
    unfold parseE inEnd inLeft
    rw [h.2.1, h.2.2]; simp
  refine ⟨e, ?_⟩
  unfold parseC
  rw [if_pos e]; exact h.1
end Go.Proofs.YtfoabkkkdcicgaaGreatDoor
/- The contracts are met. -/
namespace Go.Proofs.YtfoabkkkdcicgaaGreatDoor
set_option linter.unusedVariables false
set_option linter.unusedSimpArgs false
open Go.RowKit
theorem sndCtake : Sound Tryz.prog (lookΓ gamCtake) := sound_of _ fun p hp => by
  simp only [gamCtake, List.mem_cons, List.not_mem_nil, or_false] at hp
  rcases hp with rfl | rfl | rfl | rfl | rfl | rfl
  · exact meetsInByte.orNil
  · exact meetsHad.orNil
  · exact meetsInFail.orNil
  · exact meetsFieldsI.orNil
  · exact meetsCright.orNil
  · exact meetsInFailed.orNil
set_option maxHeartbeats 4000000 in
theorem meetsCtake : Meets Tryz.prog 62 ctakeF := by
  refine meets_of_awp (Γ := lookΓ gamCtake) (L := fun _ _ => none) sndCtake mixedOrders Tryz.func62 rfl Tryz.call62 ?_
  intro args q r hF hq ho
  unfold ctakeF at hF
  split at hF
  · cases hF
    exact ⟨by simp only [List.length_cons, List.length_nil]; decide, okCtake0 _ _ hq⟩
  · cases hF
end Go.Proofs.YtfoabkkkdcicgaaGreatDoor
