/- Contracts by content, their conditions, and that they are met: CmdU. -/
import Derived.Test.YtpomloangafbkaaGreatDoorLaxPkCmdT
import Derived.Test.YtpomloangafbkaaGreatDoorCmdTP
/- Contracts by content, and the conditions that their code must meet. -/
namespace Go.Proofs.YtpomloangafbkaaGreatDoor
set_option linter.unusedVariables false
set_option linter.unusedSimpArgs false
open Go.RowKit
def cshowF : Con
  | [.val (.agg [.int .i64 k, .int .u64 num, .str foot, .int .u64 rq, .str path, .int .i64 mode, .int .u64 n, .int .i64 time])] => some (foot.length ≤ 900000 ∧ path.length ≤ 900000, ⟨.tup [.str (showV ⟨k, num, foot, rq, path, mode, n, time⟩), .int .i64 (showE ⟨k, num, foot, rq, path, mode, n, time⟩)], none, none⟩)
  | _ => none
theorem meetsCshow : Meets Tryz.prog 13 cshowF := by
  refine ⟨meetsCshowI.enters, fun args us w GE own d site q r hF hq hc hsite hs => ?_⟩
  unfold cshowF at hF
  split at hF
  · rename_i k num foot rq path mode n time
    cases hF
    by_cases hk : 0 ≤ k ∧ k ≤ 8
    · exact meetsCshowI.calls _ us w GE own d site _ _ rfl ⟨hk, hq⟩ hc hsite hs
    · obtain ⟨e1, e2⟩ := show_not (rightC_out' (c := ⟨k, num, foot, rq, path, mode, n, time⟩) hk)
      rw [e1, e2]
      exact meetsCshowO.calls _ us w GE own d site _ _ rfl ⟨by omega, hq⟩ hc hsite hs
  · cases hF
def loopRead (t : List UInt8) : LoopInv :=
  { V := Nat
    T := fun i => [(0, .str t), (2, .ptr 2 0), (5, .ptr 5 0), (18, .sl (strsAV (restW t)) .no), (19, .int .i64 ((restW t).length : Int)), (20, .int .i64 (i : Int))]
    B := fun i => [(2, cmdL zC), (5, cmdL (rdN t i))]
    R := fun i => []
    inv := fun i => i ≤ (restW t).length ∧ allN t i = true
    mu := fun i => (restW t).length - i }
def creadF : Con
  | [.val (.str t)] => (some (t.length ≤ 800000, ⟨.tup [.agg (cmdL (readC t)), .int .i64 (readE t)], none, none⟩))
  | _ => none
def gamCread : List (Nat × Con) := [(76, splitSF.orNil), (77, kindF.orNil), (78, setFF.orNil), (13, cshowF.orNil)]
def lpCread0 (t : List UInt8) : Nat → Option LoopPlan := fun b => bif Nat.beq b 0 then some (.inv [] (loopRead t)) else none
def inCread0 (t : List UInt8) : Prop := awp [] (lpCread0 t) (lookΓ gamCread) Tryz.prog Tryz.f44.ntmps 0 (Tryz.f44.body.getD .skip) (entrySt [.val (.str t)]) (exitQ Tryz.prog Tryz.f44.results.toList [] ⟨.tup [.agg (cmdL (readC t)), .int .i64 (readE t)], none, none⟩)
def OkCread0 : Prop := ∀ (t : List UInt8), t.length ≤ 800000 → inCread0 t
end Go.Proofs.YtpomloangafbkaaGreatDoor
/- What the verification conditions come to: printed by a program of ours (wip/lax/ex/Norm.lean). -/
namespace Go.Proofs.YtpomloangafbkaaGreatDoor
set_option linter.unusedVariables false
open Go.RowKit
set_option maxRecDepth 100000
theorem vcCread0 (t : (List UInt8)) (h : let q0 := (strsAV (restW t)); let q1 := (readC t); let q2 := (List.length (restW t)); let w0_x := [(AV.int IntKind.i64 0), (AV.int IntKind.u64 0), (AV.str []), (AV.int IntKind.u64 0), (AV.str []), (AV.int IntKind.i64 0), (AV.int IntKind.u64 0), (AV.int IntKind.i64 0)]; let w1_x := (q1.k = 0 ∧ q1.num = 0 ∧ q1.foot = [] ∧ q1.rq = 0 ∧ q1.path = [] ∧ q1.mode = 0 ∧ q1.n = 0 ∧ q1.time = 0 ∧ (readE t) = 10 ∧ True); let w2_x := (tt ∧ T1 ∧ tt ∧ T1 ∧ tt ∧ tt ∧ w1_x ∧ tt); (tt ∧ T1 ∧ T1 ∧ tt ∧ T1 ∧ (T1 ∧ (List.length t) < 4294967281 ∧ 1 ≤ 1) ∧ ∀ v0 : (List AV), (v0 = (strsAV (Go.Lib.split t [(32 : UInt8)]))) → T1 ∧ tt ∧ T1 ∧ ((0 : Int) ≤ (0 : Int) ∧ (0 : Int) < ((List.length v0) : Int) ∧ (okElem 1 v0 0)) ∧ (okRead [Kd.str] (elemAt v0 0) 0) ∧ (T1 ∧ True) ∧ ∀ v2 : Int, (v2 = (kindN (rdStr (elemAt v0 0) 0))) → T1 ∧ T1 ∧ tt ∧ tt ∧ T1 ∧ (((0 : Int) ≤ (1 : Int) ∧ (1 : Int) ≤ ((List.length v0) : Int)) ∧ (okWidth 1 v0)) ∧ T1 ∧ T1 ∧ (@Exists.{1} (loopRead t).V (fun (v4 : Nat) => ((((AV.str t) = (AV.str t) ∧ (AV.ptr 2 0) = (AV.ptr 2 0) ∧ (AV.ptr 5 0) = (AV.ptr 5 0) ∧ (AV.sl (@cutL AV v0 1 (List.length v0)) Own.no) = (AV.sl q0 Own.no) ∧ (AV.int IntKind.i64 ((List.length (@cutL AV v0 1 (List.length v0))) : Int)) = (AV.int IntKind.i64 (q2 : Int)) ∧ (AV.int IntKind.i64 0) = (AV.int IntKind.i64 (v4 : Int)) ∧ True) ∧ ((@Option.some.{0} (List AV) w0_x) = (@Option.some.{0} (List AV) w0_x) ∧ (@Option.some.{0} (List AV) [(AV.int IntKind.i64 v2), (AV.int IntKind.u64 0), (AV.str []), (AV.int IntKind.u64 0), (AV.str []), (AV.int IntKind.i64 0), (AV.int IntKind.u64 0), (AV.int IntKind.i64 0)]) = (@Option.some.{0} (List AV) [(AV.int IntKind.i64 (rdN t v4).k), (AV.int IntKind.u64 (rdN t v4).num), (AV.str (rdN t v4).foot), (AV.int IntKind.u64 (rdN t v4).rq), (AV.str (rdN t v4).path), (AV.int IntKind.i64 (rdN t v4).mode), (AV.int IntKind.u64 (rdN t v4).n), (AV.int IntKind.i64 (rdN t v4).time)]) ∧ True) ∧ T1 ∧ tt ∧ tt) ∧ v4 ≤ q2 ∧ (allN t v4) = true))) ∧ ∀ v4 : Nat, (v4 ≤ q2 ∧ (allN t v4) = true) → tt ∧ T1 ∧ (bif (decide ((v4 : Int) < (q2 : Int))) then (tt ∧ ((0 : Int) ≤ (v4 : Int) ∧ (v4 : Int) < ((List.length q0) : Int) ∧ (okElem 1 q0 (Int.toNat (v4 : Int)))) ∧ (okRead [Kd.str] (elemAt q0 (Int.toNat (v4 : Int))) 0) ∧ T1 ∧ tt ∧ T1 ∧ (T1 ∧ (List.length (rdStr (elemAt q0 (Int.toNat (v4 : Int))) 0)) ≤ 900000) ∧ ∀ v6 : Int, (v6 = (rdN t v4).k) → ∀ v8 : Int, (v8 = (setNum (rdN t v4).num (rdStr (elemAt q0 (Int.toNat (v4 : Int))) 0))) → ∀ v10 : (List UInt8), (v10 = (setFoot (rdN t v4).foot (rdStr (elemAt q0 (Int.toNat (v4 : Int))) 0))) → ∀ v12 : Int, (v12 = (setRq (rdN t v4).rq (rdStr (elemAt q0 (Int.toNat (v4 : Int))) 0))) → ∀ v14 : (List UInt8), (v14 = (setPath (rdN t v4).path (rdStr (elemAt q0 (Int.toNat (v4 : Int))) 0))) → ∀ v16 : Int, (v16 = (setMode (rdN t v4).mode (rdStr (elemAt q0 (Int.toNat (v4 : Int))) 0))) → ∀ v18 : Int, (v18 = (setN (rdN t v4).n (rdStr (elemAt q0 (Int.toNat (v4 : Int))) 0))) → ∀ v20 : Int, (v20 = (setTime (rdN t v4).time (rdStr (elemAt q0 (Int.toNat (v4 : Int))) 0))) → T1 ∧ (bif (Bool.not (setK (rdStr (elemAt q0 (Int.toNat (v4 : Int))) 0))) then w2_x else (tt ∧ T1 ∧ T1 ∧ (@Exists.{1} (loopRead t).V (fun (v22 : Nat) => ((((AV.str t) = (AV.str t) ∧ (AV.ptr 2 0) = (AV.ptr 2 0) ∧ (AV.ptr 5 0) = (AV.ptr 5 0) ∧ (AV.sl q0 Own.no) = (AV.sl q0 Own.no) ∧ (AV.int IntKind.i64 (q2 : Int)) = (AV.int IntKind.i64 (q2 : Int)) ∧ (AV.int IntKind.i64 (IntKind.wrap IntKind.i64 ((v4 : Int) + (1 : Int)))) = (AV.int IntKind.i64 (v22 : Int)) ∧ True) ∧ ((@Option.some.{0} (List AV) w0_x) = (@Option.some.{0} (List AV) w0_x) ∧ (@Option.some.{0} (List AV) [(AV.int IntKind.i64 v6), (AV.int IntKind.u64 v8), (AV.str v10), (AV.int IntKind.u64 v12), (AV.str v14), (AV.int IntKind.i64 v16), (AV.int IntKind.u64 v18), (AV.int IntKind.i64 v20)]) = (@Option.some.{0} (List AV) [(AV.int IntKind.i64 (rdN t v22).k), (AV.int IntKind.u64 (rdN t v22).num), (AV.str (rdN t v22).foot), (AV.int IntKind.u64 (rdN t v22).rq), (AV.str (rdN t v22).path), (AV.int IntKind.i64 (rdN t v22).mode), (AV.int IntKind.u64 (rdN t v22).n), (AV.int IntKind.i64 (rdN t v22).time)]) ∧ True) ∧ T1 ∧ tt ∧ tt) ∧ (v22 ≤ q2 ∧ (allN t v22) = true) ∧ (q2 - v22) < (q2 - v4))))))) else (tt ∧ tt ∧ (T1 ∧ (List.length (rdN t v4).foot) ≤ 900000 ∧ (List.length (rdN t v4).path) ≤ 900000) ∧ ∀ v6 : (List UInt8), (v6 = (showV (rdN t v4))) → ∀ v8 : Int, (v8 = (showE (rdN t v4))) → T1 ∧ T1 ∧ T1 ∧ T1 ∧ T1 ∧ tt ∧ T1 ∧ T1 ∧ T1 ∧ (bif (v8 != 0) then (tt ∧ tt ∧ T1 ∧ tt ∧ T1 ∧ tt ∧ tt ∧ w1_x ∧ tt) else (T1 ∧ T1 ∧ T1 ∧ T1 ∧ (bif (Bool.not (@BEq.beq.{0} (List UInt8) (@List.instBEq.{0} UInt8 (@instBEqOfDecidableEq.{0} UInt8 instDecidableEqUInt8)) v6 t)) then w2_x else (tt ∧ tt ∧ tt ∧ T1 ∧ tt ∧ tt ∧ (q1.k = (rdN t v4).k ∧ q1.num = (rdN t v4).num ∧ q1.foot = (rdN t v4).foot ∧ q1.rq = (rdN t v4).rq ∧ q1.path = (rdN t v4).path ∧ q1.mode = (rdN t v4).mode ∧ q1.n = (rdN t v4).n ∧ q1.time = (rdN t v4).time ∧ (readE t) = 0 ∧ True) ∧ tt)))))))) : inCread0 t :=
  Eq.mp (show _ = _ by kernel_rfl) h
end Go.Proofs.YtpomloangafbkaaGreatDoor
/- Commands' texts: the conditions hold. -/
namespace Go.Proofs.YtpomloangafbkaaGreatDoor
set_option linter.unusedVariables false
set_option linter.unusedSimpArgs false
open Go.RowKit
set_option maxRecDepth 100000
theorem split_ne (t : List UInt8) : 1 ≤ (wordsC t).length ∧ (wordsC t).length ≤ t.length + 1 :=
  ⟨by have := split_size t [32] (by simp); unfold wordsC; omega, split_count_le t [32] (by simp)⟩
theorem read_not {t : List UInt8} (h : okR t = false) : readC t = zC ∧ readE t = 10 := by
  unfold readC readE
  rw [h]; exact ⟨rfl, rfl⟩
theorem read_yes {t : List UInt8} (h : okR t = true) : readC t = cR t ∧ readE t = 0 := by
  unfold readC readE
  rw [h]; exact ⟨rfl, rfl⟩
theorem all_stop {t : List UInt8} {i : Nat} (hi : i < (restW t).length) (h : setK ((restW t).getD i []) = false) : okR t = false := by
  have : allN t (restW t).length = false := by
    unfold allN
    rw [List.take_of_length_le (Nat.le_refl _), List.all_eq_false]
    refine ⟨(restW t).getD i [], ?_, by rw [h]; simp⟩
    rw [List.getD_eq_getElem?_getD, List.getElem?_eq_getElem hi]
    exact List.getElem_mem hi
  unfold okR
  rw [this]; rfl
theorem okCread0 : OkCread0 := by
  intro t hq
  have hq' : t.length ≤ 800000 := hq
  refine vcCread0 t ?_
  have e : Lib.split t [32] = wordsC t := rfl
  obtain ⟨w1, w2⟩ := split_ne t
  simp only [true_and, and_true, forall_eq, eq_self, e, length_strsAV]
  have hw : elemAt (strsAV (wordsC t)) 0 = .str ((wordsC t).getD 0 []) := elemAt_strs (by omega)
  have hk : rdStr (elemAt (strsAV (wordsC t)) 0) 0 = (wordsC t).getD 0 [] := rdStr_strs (by omega)
  have hcut : cutL (strsAV (wordsC t)) 1 (wordsC t).length = strsAV (restW t) := by
    rw [cutL_strs]
    unfold cutL restW
    rw [List.take_of_length_le (Nat.le_refl _)]
  have e0 : rdN t 0 = zK (kindN ((wordsC t).getD 0 [])) := rfl
  rw [hk, hcut, length_strsAV]
  refine ⟨⟨by omega, by omega⟩, ⟨by omega, by omega, okElem_strs (by omega)⟩, okRead_strs (by omega), ⟨⟨by omega, by omega⟩, okWidth_strs _⟩, ⟨(0 : Nat), ⟨⟨rfl, rfl, rfl⟩, by rw [e0]; rfl⟩, Nat.zero_le _, by simp [allN]⟩, ?_⟩
  rintro i ⟨hi, ha⟩
  refine cond_prop (fun g => ?_) fun g => ?_
  · have hi' : i < (restW t).length := by have := of_decide_eq_true g; omega
    have eI : (Int.toNat (i : Int)) = i := by omega
    obtain ⟨n1, n2⟩ := rdN_succ hi'
    have hx : ((restW t).getD i []).length ≤ t.length := by
      refine rest_len t _ ?_
      rw [List.getD_eq_getElem?_getD, List.getElem?_eq_getElem hi']
      exact List.getElem_mem hi'
    have hlr : (restW t).length ≤ t.length + 1 := by unfold restW; rw [List.length_drop]; omega
    rw [eI, rdStr_strs hi', wrap_i64 (n := (i : Int) + 1) (by omega) (by omega)]
    refine ⟨⟨by omega, by omega, okElem_strs hi'⟩, okRead_strs hi', by omega, cond_prop (fun g2 => ?_) fun g2 => ?_⟩
    · have h2 : setK ((restW t).getD i []) = false := by simpa using g2
      obtain ⟨r1, r2⟩ := read_not (all_stop hi' h2)
      rw [r1, r2]
      exact ⟨rfl, rfl, rfl, rfl, rfl, rfl, rfl, rfl, rfl⟩
    · have h2 : setK ((restW t).getD i []) = true := by simpa using g2
      refine ⟨(i + 1 : Nat), ⟨by congr 1, ?_⟩, ⟨by omega, by rw [n2, ha, h2]; rfl⟩, by omega⟩
      rw [n1]; rfl
  · have hi' : i = (restW t).length := by have := of_decide_eq_false g; omega
    subst hi'
    have hc : rdN t (restW t).length = cR t := rfl
    have hl := rdN_lens t (restW t).length
    rw [hc] at hl ⊢
    have no : (rightC (cR t) = false ∨ ¬ showV (cR t) = t) → okR t = false := by
      intro h
      unfold okR
      rcases h with h | h
      · rw [h]; simp
      · simp [h]
    refine ⟨⟨by omega, by omega⟩, cond_prop (fun g1 => ?_) fun g1 => cond_prop (fun g2 => ?_) fun g2 => ?_⟩
    · have h' : rightC (cR t) = false := by
        cases hr : rightC (cR t) with
        | false => rfl
        | true => simp [showE, hr] at g1
      obtain ⟨r1, r2⟩ := read_not (no (.inl h'))
      rw [r1, r2]
      exact ⟨rfl, rfl, rfl, rfl, rfl, rfl, rfl, rfl, rfl⟩
    · have h' : ¬ showV (cR t) = t := by simpa using g2
      obtain ⟨r1, r2⟩ := read_not (no (.inr h'))
      rw [r1, r2]
      exact ⟨rfl, rfl, rfl, rfl, rfl, rfl, rfl, rfl, rfl⟩
    · have h1 : rightC (cR t) = true := by
        cases hr : rightC (cR t) with
        | true => rfl
        | false => simp [showE, hr] at g1
      have h2 : showV (cR t) = t := by simpa using g2
      have ho : okR t = true := by
        unfold okR
        rw [ha, h1, h2]; simp
      obtain ⟨r1, r2⟩ := read_yes ho
      rw [r1, r2]
      exact ⟨rfl, rfl, rfl, rfl, rfl, rfl, rfl, rfl, rfl⟩
theorem show_short {c : CmdP} (hn : NumOK c) (h : rightC c = true) : (showV c).length ≤ 1000 := by
  obtain ⟨r, h1, h2⟩ := fields_head c
  have hl := right_lens h
  have h3 : ∀ y ∈ fieldsC c, y.length ≤ 100 := by
    intro y hy
    have ht := time_facts h
    unfold fieldsC at hy
    simp only [List.mem_append, List.mem_cons, List.not_mem_nil, or_false] at hy
    rcases hy with (((((rfl | hy) | hy) | hy) | hy) | hy) | hy
    · have := nameC_len c.k; omega
    · split at hy
      · simp only [List.mem_cons, List.not_mem_nil, or_false] at hy
        rcases hy with rfl | rfl
        · have := pairN_len (nm := [110, 117, 109]) (by decide) hn.num.2; omega
        · simp [catL]; omega
      · simp at hy
    · split at hy
      · simp at hy; subst hy
        have := pairN_len (nm := [114, 101, 113, 117, 101, 115, 116]) (by decide) hn.rq.2; omega
      · simp at hy
    · split at hy
      · simp at hy; subst hy
        simp [catL]; omega
      · simp at hy
    · split at hy
      · rename_i g
        simp at hy; subst hy
        have hm := ht.2.2 g
        have := pairN_len (nm := [109, 111, 100, 101]) (v := c.mode) (by decide) (by omega); omega
      · simp at hy
    · split at hy
      · simp at hy; subst hy
        have := pairN_len (nm := [110]) (by decide) hn.n.2; omega
      · simp at hy
    · split at hy
      · simp at hy; subst hy
        have := pairN_len (nm := [116, 105, 109, 101]) (v := c.time) (by decide) (by omega); omega
      · simp at hy
  unfold showV
  rw [if_pos h]
  rw [h1] at h3 ⊢
  have := join_lens 32 100 (nameC c.k) r h3
  have h4 : (100 + 1) * (r.length + 1) ≤ (100 + 1) * 8 := Nat.mul_le_mul_left _ (by omega)
  omega
end Go.Proofs.YtpomloangafbkaaGreatDoor
/- The contracts are met. -/
namespace Go.Proofs.YtpomloangafbkaaGreatDoor
set_option linter.unusedVariables false
set_option linter.unusedSimpArgs false
open Go.RowKit
theorem sndCread : Sound Tryz.prog (lookΓ gamCread) := sound_of _ fun p hp => by
  simp only [gamCread, List.mem_cons, List.not_mem_nil, or_false] at hp
  rcases hp with rfl | rfl | rfl | rfl
  · exact meetsSplitS.orNil
  · exact meetsKind.orNil
  · exact meetsSetF.orNil
  · exact meetsCshow.orNil
set_option maxHeartbeats 4000000 in
theorem meetsCread : Meets Tryz.prog 44 creadF := by
  refine meets_of_awp (Γ := lookΓ gamCread) (L := fun args => match args with | [.val (.str t)] => lpCread0 t | _ => fun _ => none) sndCread mixedOrders Tryz.func44 rfl Tryz.call44 ?_
  intro args q r hF hq ho
  unfold creadF at hF
  split at hF
  · cases hF
    exact ⟨by simp only [List.length_cons, List.length_nil]; decide, okCread0 _ hq⟩
  · cases hF
end Go.Proofs.YtpomloangafbkaaGreatDoor
