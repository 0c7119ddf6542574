/- Contracts by content, their conditions, and that they are met: LogV. -/
import Derived.Test.YtddilmocngedjaaLaxPkLogS
import Derived.Test.YtddilmocngedjaaLaxLogP
import Derived.Test.YtddilmocngedjaaTurnQ
import Derived.Test.YtddilmocngedjaaLaxVec
/- Contracts by content, and the conditions that their code must meet. -/
namespace Go.Proofs.Ytddilmocngedjaa
set_option linter.unusedVariables false
set_option linter.unusedSimpArgs false
open Go.RowKit
def concatRF : Con
  | [.val (.sl [.sl xs .no, .sl ys .no] .no)] => (some (isBytes xs ∧ isBytes ys ∧ xs.length + ys.length ≤ 140737488355328, ⟨.sl (catL xs ys) (.row 0 0 5), none, none⟩))
  | _ => none
def gamConcatR : List (Nat × Con) := [(59, growF.orNil)]
def lpConcatR0 (xs ys : List AV) : Nat → Option LoopPlan := fun b => bif Nat.beq b 0 then some (.unroll [] 4) else bif Nat.beq b 2 then some (.unroll [] 4) else none
def inConcatR0 (xs ys : List AV) : Prop := awp [] (lpConcatR0 xs ys) (lookΓ gamConcatR) Try.prog Try.f49.ntmps 0 (Try.f49.body.getD .skip) (entrySt [.val (.sl [.sl xs .no, .sl ys .no] .no)]) (exitQ Try.prog Try.f49.results.toList [] ⟨.sl (catL xs ys) (.row 0 0 5), none, none⟩)
def OkConcatR0 : Prop := ∀ (xs ys : List AV), isBytes xs ∧ isBytes ys ∧ xs.length + ys.length ≤ 140737488355328 → inConcatR0 xs ys
def frameRF : Con
  | [.val (.sl xs .no)] => (some (isBytes xs ∧ xs.length ≤ 16384, ⟨.tup [.sl (bytesAV (frameL (bytesL xs))) (.row 0 0 5), .int .i64 0], none, none⟩))
  | _ => none
def gamFrameR : List (Nat × Con) := [(50, numShortF.orNil), (10, sealF.orNil), (49, concatRF.orNil)]
def lpFrameR0 (xs : List AV) : Nat → Option LoopPlan := fun _ => none
def inFrameR0 (xs : List AV) : Prop := awp [] (lpFrameR0 xs) (lookΓ gamFrameR) Try.prog Try.f32.ntmps 0 (Try.f32.body.getD .skip) (entrySt [.val (.sl xs .no)]) (exitQ Try.prog Try.f32.results.toList [] ⟨.tup [.sl (bytesAV (frameL (bytesL xs))) (.row 0 0 5), .int .i64 0], none, none⟩)
def OkFrameR0 : Prop := ∀ (xs : List AV), isBytes xs ∧ xs.length ≤ 16384 → inFrameR0 xs
end Go.Proofs.Ytddilmocngedjaa
/- What the verification conditions come to: printed by a program of ours (wip/lax/ex/Norm.lean). -/
namespace Go.Proofs.Ytddilmocngedjaa
set_option linter.unusedVariables false
open Go.RowKit
set_option maxRecDepth 100000
theorem vcConcatR0 (xs : (List AV)) (ys : (List AV)) (h : let q0 := (rdList (elemAt [(AV.sl xs Own.no), (AV.sl ys Own.no)] 0) 0); let q1 := (elemAt [(AV.sl xs Own.no), (AV.sl ys Own.no)] 1); let q2 := (List.length (rdList q1 0)); let q3 := (List.length q0); let q4 := (okRead [Kd.sl] (elemAt [(AV.sl xs Own.no), (AV.sl ys Own.no)] 0) 0); (tt ∧ T1 ∧ tt ∧ T1 ∧ tt ∧ T1 ∧ T1 ∧ T1 ∧ (tt ∧ tt) ∧ tt ∧ T1 ∧ tt ∧ ((0 : Int) ≤ (0 : Int) ∧ (0 : Int) < (2 : Int) ∧ (okElem 1 [(AV.sl xs Own.no), (AV.sl ys Own.no)] 0)) ∧ q4 ∧ T1 ∧ tt ∧ T1 ∧ T1 ∧ T1 ∧ T1 ∧ T1 ∧ tt ∧ T1 ∧ T1 ∧ (bif (decide ((IntKind.wrap IntKind.i64 ((0 : Int) + (q3 : Int))) < 0)) then (tt ∧ False) else (tt ∧ T1 ∧ T1 ∧ (tt ∧ tt) ∧ tt ∧ T1 ∧ tt ∧ ((0 : Int) ≤ (1 : Int) ∧ (1 : Int) < (2 : Int) ∧ (okElem 1 [(AV.sl xs Own.no), (AV.sl ys Own.no)] 1)) ∧ (okRead [Kd.sl] q1 0) ∧ T1 ∧ tt ∧ T1 ∧ T1 ∧ T1 ∧ T1 ∧ T1 ∧ tt ∧ T1 ∧ T1 ∧ (bif (decide ((IntKind.wrap IntKind.i64 ((IntKind.wrap IntKind.i64 ((0 : Int) + (q3 : Int))) + (q2 : Int))) < 0)) then (tt ∧ False) else (tt ∧ T1 ∧ T1 ∧ (tt ∧ tt) ∧ tt ∧ T1 ∧ tt ∧ T1 ∧ (T1 ∧ (@List.nil.{0} AV) = [] ∧ (0 : Int) ≤ (IntKind.wrap IntKind.i64 ((IntKind.wrap IntKind.i64 ((0 : Int) + (q3 : Int))) + (q2 : Int))) ∧ (IntKind.wrap IntKind.i64 ((IntKind.wrap IntKind.i64 ((0 : Int) + (q3 : Int))) + (q2 : Int))) ≤ 140737488355328) ∧ ∀ v0 : (List AV), (v0 = []) → ∀ v2 : Nat, (v2 = 0) → T1 ∧ tt ∧ T1 ∧ T1 ∧ T1 ∧ (tt ∧ tt) ∧ tt ∧ T1 ∧ tt ∧ ((0 : Int) ≤ (0 : Int) ∧ (0 : Int) < (2 : Int) ∧ (okElem 1 [(AV.sl xs Own.no), (AV.sl ys Own.no)] 0)) ∧ q4 ∧ T1 ∧ tt ∧ T1 ∧ T1 ∧ (v2 = (List.length v0) ∧ (((List.length v0) + q3) * 1) ≤ 140737488355328 ∧ ((List.length v0) + q3) ≤ 9223372036854775807 ∧ (okWidth 1 v0) ∧ (okWidth 1 q0)) ∧ T1 ∧ tt ∧ T1 ∧ T1 ∧ (tt ∧ tt) ∧ tt ∧ T1 ∧ tt ∧ ((0 : Int) ≤ (1 : Int) ∧ (1 : Int) < (2 : Int) ∧ (okElem 1 [(AV.sl xs Own.no), (AV.sl ys Own.no)] 1)) ∧ (okRead [Kd.sl] q1 0) ∧ T1 ∧ tt ∧ T1 ∧ T1 ∧ (((List.length v0) + q3) = (List.length (@catL AV v0 q0)) ∧ (((List.length (@catL AV v0 q0)) + q2) * 1) ≤ 140737488355328 ∧ ((List.length (@catL AV v0 q0)) + q2) ≤ 9223372036854775807 ∧ (okWidth 1 (@catL AV v0 q0)) ∧ (okWidth 1 (rdList q1 0))) ∧ T1 ∧ tt ∧ T1 ∧ T1 ∧ (tt ∧ tt) ∧ tt ∧ T1 ∧ tt ∧ T1 ∧ T1 ∧ tt ∧ tt ∧ ((0 < 1 ∧ (@catL AV xs ys) = (@catL AV (@catL AV v0 q0) (rdList q1 0)) ∧ ((List.length (@catL AV v0 q0)) + q2) = (List.length (@catL AV (@catL AV v0 q0) (rdList q1 0)))) ∧ True) ∧ tt)))))) : inConcatR0 xs ys :=
  Eq.mp (show _ = _ by kernel_rfl) h
theorem vcFrameR0 (xs : (List AV)) (h : (tt ∧ T1 ∧ T1 ∧ tt ∧ T1 ∧ T1 ∧ T1 ∧ (bif (decide ((16384 : Int) < ((List.length xs) : Int))) then (tt ∧ T1 ∧ T1 ∧ tt ∧ tt ∧ ((0 < 1 ∧ (bytesAV (frameL (bytesL xs))) = []) ∧ (0 : Int) = 11 ∧ True) ∧ tt) else (tt ∧ T1 ∧ T1 ∧ T1 ∧ T1 ∧ (T1 ∧ True) ∧ ∀ v0 : (List AV), (v0 = (bytesAV (short (Int.toNat (IntKind.wrap IntKind.u64 (IntKind.wrap IntKind.i64 (((List.length xs) : Int) + (4 : Int)))))))) → ∀ v2 : Nat, (v2 = (List.length (bytesAV (short (Int.toNat (IntKind.wrap IntKind.u64 (IntKind.wrap IntKind.i64 (((List.length xs) : Int) + (4 : Int))))))))) → T1 ∧ (T1 ∧ (isBytes xs) ∧ (List.length xs) ≤ 140737488355000) ∧ ∀ v4 : (List AV), (v4 = (bytesAV (sealL (bytesL xs)))) → T1 ∧ (T1 ∧ (isBytes v0) ∧ (isBytes v4) ∧ ((List.length v0) + (List.length v4)) ≤ 140737488355328) ∧ ∀ v6 : (List AV), (v6 = (@catL AV v0 v4)) → ∀ v8 : Nat, (v8 = (List.length (@catL AV v0 v4))) → T1 ∧ T1 ∧ tt ∧ tt ∧ ((0 < 1 ∧ (bytesAV (frameL (bytesL xs))) = v6 ∧ v8 = (List.length v6)) ∧ (0 : Int) = 0 ∧ True) ∧ tt)))) : inFrameR0 xs :=
  Eq.mp (show _ = _ by kernel_rfl) h
end Go.Proofs.Ytddilmocngedjaa
/- Frames that are given back as rows of one's own: the conditions hold. -/
namespace Go.Proofs.Ytddilmocngedjaa
set_option linter.unusedVariables false
set_option linter.unusedSimpArgs false
open Go.RowKit
set_option maxRecDepth 100000
theorem okConcatR0 : OkConcatR0 := by
  intro xs ys hq
  refine vcConcatR0 xs ys ?_
  obtain ⟨hb, hb', hl⟩ := hq
  obtain ⟨l, rfl⟩ := hb.get
  obtain ⟨m, rfl⟩ := hb'.get
  have e0 : rdList (elemAt [AV.sl (bytesAV l) Own.no, AV.sl (bytesAV m) Own.no] 0) 0 = bytesAV l := rfl
  have e1 : rdList (elemAt [AV.sl (bytesAV l) Own.no, AV.sl (bytesAV m) Own.no] 1) 0 = bytesAV m := rfl
  have r0 : okRead [Kd.sl] (elemAt [AV.sl (bytesAV l) Own.no, AV.sl (bytesAV m) Own.no] 0) 0 := by
    intro i kd h
    match i, h with
    | 0, h => simp at h; subst h; rfl
    | i + 1, h => simp at h
  have r1 : okRead [Kd.sl] (elemAt [AV.sl (bytesAV l) Own.no, AV.sl (bytesAV m) Own.no] 1) 0 := by
    intro i kd h
    match i, h with
    | 0, h => simp at h; subst h; rfl
    | i + 1, h => simp at h
  simp only [length_bytesAV] at hl
  simp only [true_and, and_true, forall_eq, eq_self, bytesL_bytesAV, length_bytesAV, isBytes_bytesAV, e0, e1, r0, r1, catL_nil, Int.zero_add, catL_length, List.length_nil, Nat.zero_add]
  have w1 : IntKind.i64.wrap (l.length : Int) = l.length := wrap_i64 (by omega) (by omega)
  have w2 : IntKind.i64.wrap ((l.length : Int) + m.length) = (l.length : Int) + m.length := wrap_i64 (by omega) (by omega)
  simp only [w1, w2]
  refine ⟨⟨by omega, by omega, rfl⟩, cond_prop (fun h => by simp at h; omega) fun _ => ⟨⟨by omega, by omega, rfl⟩, cond_prop (fun h => by simp at h; omega) fun _ => ⟨⟨by omega, by omega⟩, ⟨by omega, by omega, rfl⟩, ⟨by omega, by omega, okWidth_nil _, okWidth_bytes _⟩, ⟨by omega, by omega, rfl⟩, ⟨by omega, by omega, okWidth_bytes _, okWidth_bytes _⟩, by omega⟩⟩⟩
theorem okFrameR0 : OkFrameR0 := by
  intro xs hq
  refine vcFrameR0 xs ?_
  obtain ⟨hb, hl⟩ := hq
  obtain ⟨l, rfl⟩ := hb.get
  simp only [true_and, and_true, forall_eq, eq_self, bytesL_bytesAV, length_bytesAV, isBytes_bytesAV, seal_len] at hl ⊢
  refine cond_prop (fun h => ?_) fun h => ?_
  · simp at h; omega
  · have h10 := short_le10' (l.length + 4) (by omega)
    rw [wrap4 (by omega)]
    refine ⟨by omega, by omega, by omega, ?_⟩
    rw [catL_bytes]
    simp [frameL]
end Go.Proofs.Ytddilmocngedjaa
/- The contracts are met. -/
namespace Go.Proofs.Ytddilmocngedjaa
set_option linter.unusedVariables false
set_option linter.unusedSimpArgs false
open Go.RowKit
theorem sndConcatR : Sound Try.prog (lookΓ gamConcatR) := sound_of _ fun p hp => by
  simp only [gamConcatR, List.mem_cons, List.not_mem_nil, or_false] at hp
  subst hp
  exact meetsGrow.orNil
set_option maxHeartbeats 4000000 in
theorem meetsConcatR : Meets Try.prog 49 concatRF := by
  refine meets_of_awp (Γ := lookΓ gamConcatR) (L := fun args => match args with | [.val (.sl [.sl xs .no, .sl ys .no] .no)] => lpConcatR0 xs ys | _ => fun _ => none) sndConcatR mixedOrders Try.func49 rfl Try.call49 ?_
  intro args q r hF hq ho
  unfold concatRF at hF
  split at hF
  · cases hF
    exact ⟨by simp only [List.length_cons, List.length_nil]; decide, okConcatR0 _ _ hq⟩
  · cases hF
theorem sndFrameR : Sound Try.prog (lookΓ gamFrameR) := sound_of _ fun p hp => by
  simp only [gamFrameR, List.mem_cons, List.not_mem_nil, or_false] at hp
  rcases hp with rfl | rfl | rfl
  · exact meetsNumShort.orNil
  · exact meetsSeal.orNil
  · exact meetsConcatR.orNil
set_option maxHeartbeats 4000000 in
theorem meetsFrameR : Meets Try.prog 32 frameRF := by
  refine meets_of_awp (Γ := lookΓ gamFrameR) (L := fun _ _ => none) sndFrameR mixedOrders Try.func32 rfl Try.call32 ?_
  intro args q r hF hq ho
  unfold frameRF at hF
  split at hF
  · cases hF
    exact ⟨by simp only [List.length_cons, List.length_nil]; decide, okFrameR0 _ hq⟩
  · cases hF
end Go.Proofs.Ytddilmocngedjaa
