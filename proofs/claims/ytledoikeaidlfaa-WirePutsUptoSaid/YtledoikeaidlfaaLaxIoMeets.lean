/- The contracts are met. -/
import Derived.Test.YtledoikeaidlfaaLaxIoOk
namespace Go.Proofs.Ytledoikeaidlfaa
set_option linter.unusedVariables false
set_option linter.unusedSimpArgs false
open Go.RowKit
theorem sndIdRight : Sound Try.prog (lookΓ gamIdRight) := sound_of _ fun p hp => by
  simp [gamIdRight] at hp
theorem meetsIdRight : Meets Try.prog 21 idRightF := by
  refine meets_of_awp (Γ := lookΓ gamIdRight) (L := fun args => match args with | [.val (.agg [.int .i64 r, .int .i64 n])] => lpIdRight0 r n | _ => fun _ => none) sndIdRight mixedOrders Try.func21 rfl Try.call21 ?_
  intro args q r hF hq ho
  unfold idRightF at hF
  split at hF
  · cases hF
    exact ⟨by simp only [List.length_cons, List.length_nil]; decide, okIdRight0 _ _ hq⟩
  · cases hF
theorem sndBalRound : Sound Try.prog (lookΓ gamBalRound) := sound_of _ fun p hp => by
  simp [gamBalRound] at hp
theorem meetsBalRound : Meets Try.prog 49 balRoundF := by
  refine meets_of_awp (Γ := lookΓ gamBalRound) (L := fun args => match args with | [.val (.int .u32 b)] => lpBalRound0 b | _ => fun _ => none) sndBalRound mixedOrders Try.func49 rfl Try.call49 ?_
  intro args q r hF hq ho
  unfold balRoundF at hF
  split at hF
  · cases hF
    exact ⟨by simp only [List.length_cons, List.length_nil]; decide, okBalRound0 _ hq (okay_u32 (argI 0 ho rfl rfl))⟩
  · cases hF
theorem sndBalRep : Sound Try.prog (lookΓ gamBalRep) := sound_of _ fun p hp => by
  simp [gamBalRep] at hp
theorem meetsBalRep : Meets Try.prog 50 balRepF := by
  refine meets_of_awp (Γ := lookΓ gamBalRep) (L := fun args => match args with | [.val (.int .u32 b)] => lpBalRep0 b | _ => fun _ => none) sndBalRep mixedOrders Try.func50 rfl Try.call50 ?_
  intro args q r hF hq ho
  unfold balRepF at hF
  split at hF
  · cases hF
    exact ⟨by simp only [List.length_cons, List.length_nil]; decide, okBalRep0 _ hq (okay_u32 (argI 0 ho rfl rfl))⟩
  · cases hF
theorem sndBalRight : Sound Try.prog (lookΓ gamBalRight) := sound_of _ fun p hp => by
  simp only [gamBalRight, List.mem_cons, List.not_mem_nil, or_false] at hp
  rcases hp with rfl | rfl
  · exact meetsBalRound
  · exact meetsBalRep
theorem meetsBalRight : Meets Try.prog 22 balRightF := by
  refine meets_of_awp (Γ := lookΓ gamBalRight) (L := fun args => match args with | [.val (.int .u32 b)] => lpBalRight0 b | _ => fun _ => none) sndBalRight mixedOrders Try.func22 rfl Try.call22 ?_
  intro args q r hF hq ho
  unfold balRightF at hF
  split at hF
  · cases hF
    exact ⟨by simp only [List.length_cons, List.length_nil]; decide, okBalRight0 _ hq (okay_u32 (argI 0 ho rfl rfl))⟩
  · cases hF
theorem sndTakeID : Sound Try.prog (lookΓ gamTakeID) := sound_of _ fun p hp => by
  simp only [gamTakeID, List.mem_cons, List.not_mem_nil, or_false] at hp
  rcases hp with rfl | rfl | rfl | rfl
  · exact meetsInByte
  · exact meetsInFail
  · exact meetsInShort
  · exact meetsInFailed
theorem meetsTakeID : Meets Try.prog 18 takeIDF := by
  refine meets_of_awp (Γ := lookΓ gamTakeID) (L := fun args => match args with | [.box [.sl xs .no, .int .i64 e]] => lpTakeID0 xs e | _ => fun _ => none) sndTakeID mixedOrders Try.func18 rfl Try.call18 ?_
  intro args q r hF hq ho
  unfold takeIDF at hF
  split at hF
  · cases hF
    exact ⟨by simp only [List.length_cons, List.length_nil]; decide, okTakeID0 _ _ hq⟩
  · cases hF
theorem sndTakeBal : Sound Try.prog (lookΓ gamTakeBal) := sound_of _ fun p hp => by
  simp only [gamTakeBal, List.mem_cons, List.not_mem_nil, or_false] at hp
  rcases hp with rfl | rfl | rfl
  · exact meetsInShort
  · exact meetsBalRight
  · exact meetsInFail
theorem meetsTakeBal : Meets Try.prog 20 takeBalF := by
  refine meets_of_awp (Γ := lookΓ gamTakeBal) (L := fun args => match args with | [.box [.sl xs .no, .int .i64 e]] => lpTakeBal0 xs e | _ => fun _ => none) sndTakeBal mixedOrders Try.func20 rfl Try.call20 ?_
  intro args q r hF hq ho
  unfold takeBalF at hF
  split at hF
  · cases hF
    exact ⟨by simp only [List.length_cons, List.length_nil]; decide, okTakeBal0 _ _ hq⟩
  · cases hF
theorem sndIdPut : Sound Try.prog (lookΓ gamIdPut) := sound_of _ fun p hp => by
  simp only [gamIdPut, List.mem_cons, List.not_mem_nil, or_false] at hp
  rcases hp with rfl | rfl
  · exact meetsOutByte
  · exact meetsOutShort
theorem meetsIdPut : Meets Try.prog 23 idPutF := by
  refine meets_of_awp (Γ := lookΓ gamIdPut) (L := fun args => match args with | [.val (.agg [.int .i64 r, .int .i64 n]), .box [.sl xs (.row p q te0)]] => lpIdPut0 xs p q r n | _ => fun _ => none) sndIdPut mixedOrders Try.func23 rfl Try.call23 ?_
  intro args q r hF hq ho
  unfold idPutF at hF
  split at hF
  · split at hF
    · rename_i hte
      subst hte
      cases hF
      exact ⟨by simp only [List.length_cons, List.length_nil]; decide, okIdPut0 _ _ _ _ _ hq⟩
    · cases hF
  · cases hF
theorem sndBalPut : Sound Try.prog (lookΓ gamBalPut) := sound_of _ fun p hp => by
  simp only [gamBalPut, List.mem_cons, List.not_mem_nil, or_false] at hp
  subst hp
  exact meetsOutShort
theorem meetsBalPut : Meets Try.prog 24 balPutF := by
  refine meets_of_awp (Γ := lookΓ gamBalPut) (L := fun args => match args with | [.val (.int .u32 b), .box [.sl xs (.row p q te0)]] => lpBalPut0 xs p q b | _ => fun _ => none) sndBalPut mixedOrders Try.func24 rfl Try.call24 ?_
  intro args q r hF hq ho
  unfold balPutF at hF
  split at hF
  · split at hF
    · rename_i hte
      subst hte
      cases hF
      exact ⟨by simp only [List.length_cons, List.length_nil]; decide, okBalPut0 _ _ _ _ hq (okay_u32 (argI 0 ho rfl rfl))⟩
    · cases hF
  · cases hF
theorem sndAttRight : Sound Try.prog (lookΓ gamAttRight) := sound_of _ fun p hp => by
  simp [gamAttRight] at hp
theorem meetsAttRight : Meets Try.prog 44 attRightF := by
  refine meets_of_awp (Γ := lookΓ gamAttRight) (L := fun args => match args with | [.val (.agg [.int .i64 s, .int .i64 d0, .int .i64 d1, .int .i64 d2, .int .i64 d3, .int .i64 d4, .int .i64 d5, .int .i64 d6])] => lpAttRight0 s d0 d1 d2 d3 d4 d5 d6 | _ => fun _ => none) sndAttRight mixedOrders Try.func44 rfl Try.call44 ?_
  intro args q r hF hq ho
  unfold attRightF at hF
  split at hF
  · cases hF
    exact ⟨by simp only [List.length_cons, List.length_nil]; decide, okAttRight0 _ _ _ _ _ _ _ _ hq⟩
  · cases hF
theorem sndAttPut : Sound Try.prog (lookΓ gamAttPut) := sound_of _ fun p hp => by
  simp only [gamAttPut, List.mem_cons, List.not_mem_nil, or_false] at hp
  rcases hp with rfl | rfl
  · exact meetsAttRight
  · exact meetsOutShort
theorem meetsAttPut : Meets Try.prog 13 attPutF := by
  refine meets_of_awp (Γ := lookΓ gamAttPut) (L := fun args => match args with | [.val (.agg [.int .i64 s, .int .i64 d0, .int .i64 d1, .int .i64 d2, .int .i64 d3, .int .i64 d4, .int .i64 d5, .int .i64 d6]), .box [.sl xs (.row p q te0)]] => lpAttPut0 s d0 d1 d2 d3 d4 d5 d6 xs p q | _ => fun _ => none) sndAttPut mixedOrders Try.func13 rfl Try.call13 ?_
  intro args q r hF hq ho
  unfold attPutF at hF
  split at hF
  · split at hF
    · rename_i hte
      subst hte
      cases hF
      exact ⟨by simp only [List.length_cons, List.length_nil]; decide, okAttPut0 _ _ _ _ _ _ _ _ _ _ _ hq⟩
    · cases hF
  · cases hF
theorem sndAttTake : Sound Try.prog (lookΓ gamAttTake) := sound_of _ fun p hp => by
  simp only [gamAttTake, List.mem_cons, List.not_mem_nil, or_false] at hp
  rcases hp with rfl | rfl
  · exact meetsInShort
  · exact meetsInFailed
theorem meetsAttTake : Meets Try.prog 10 attTakeF := by
  refine meets_of_awp (Γ := lookΓ gamAttTake) (L := fun args => match args with | [.box [.sl xs .no, .int .i64 e]] => lpAttTake0 xs e | _ => fun _ => none) sndAttTake mixedOrders Try.func10 rfl Try.call10 ?_
  intro args q r hF hq ho
  unfold attTakeF at hF
  split at hF
  · cases hF
    exact ⟨by simp only [List.length_cons, List.length_nil]; decide, okAttTake0 _ _ hq⟩
  · cases hF
theorem sndRefBad : Sound Try.prog (lookΓ gamRefBad) := sound_of _ fun p hp => by
  simp [gamRefBad] at hp
theorem meetsRefBad : Meets Try.prog 61 refBadF := by
  refine meets_of_awp (Γ := lookΓ gamRefBad) (L := fun args => match args with | [.val (.agg [.sl xs .no, .int .i64 at', .int .i64 e]), .val (.int .i64 c)] => lpRefBad0 xs at' e c | _ => fun _ => none) sndRefBad mixedOrders Try.func61 rfl Try.call61 ?_
  intro args q r hF hq ho
  unfold refBadF at hF
  split at hF
  · cases hF
    exact ⟨by simp only [List.length_cons, List.length_nil]; decide, okRefBad0 _ _ _ _ hq⟩
  · cases hF
theorem sndRefByte : Sound Try.prog (lookΓ gamRefByte) := sound_of _ fun p hp => by
  simp only [gamRefByte, List.mem_cons, List.not_mem_nil, or_false] at hp
  subst hp
  exact meetsRefBad
theorem meetsRefByte : Meets Try.prog 46 refByteF := by
  refine meets_of_awp (Γ := lookΓ gamRefByte) (L := fun args => match args with | [.val (.agg [.sl xs .no, .int .i64 at', .int .i64 e])] => lpRefByte0 xs at' e | _ => fun _ => none) sndRefByte mixedOrders Try.func46 rfl Try.call46 ?_
  intro args q r hF hq ho
  unfold refByteF at hF
  split at hF
  · cases hF
    exact ⟨by simp only [List.length_cons, List.length_nil]; decide, okRefByte0 _ _ _ hq (okay_bytes (argA 0 0 ho rfl rfl))⟩
  · cases hF
theorem sndRefShort : Sound Try.prog (lookΓ gamRefShort) := sound_of _ fun p hp => by
  simp only [gamRefShort, List.mem_cons, List.not_mem_nil, or_false] at hp
  rcases hp with rfl | rfl
  · exact meetsRefReadShort
  · exact meetsRefBad
theorem meetsRefShort : Meets Try.prog 43 refShortF := by
  refine meets_of_awp (Γ := lookΓ gamRefShort) (L := fun args => match args with | [.val (.agg [.sl xs .no, .int .i64 at', .int .i64 e]), .val (.int .u64 m)] => lpRefShort0 xs at' e m | _ => fun _ => none) sndRefShort mixedOrders Try.func43 rfl Try.call43 ?_
  intro args q r hF hq ho
  unfold refShortF at hF
  split at hF
  · cases hF
    exact ⟨by simp only [List.length_cons, List.length_nil]; decide, okRefShort0 _ _ _ _ hq (okay_bytes (argA 0 0 ho rfl rfl))⟩
  · cases hF
theorem sndRefEnd : Sound Try.prog (lookΓ gamRefEnd) := sound_of _ fun p hp => by
  simp [gamRefEnd] at hp
theorem meetsRefEnd : Meets Try.prog 12 refEndF := by
  refine meets_of_awp (Γ := lookΓ gamRefEnd) (L := fun args => match args with | [.val (.agg [.sl xs .no, .int .i64 at', .int .i64 e])] => lpRefEnd0 xs at' e | _ => fun _ => none) sndRefEnd mixedOrders Try.func12 rfl Try.call12 ?_
  intro args q r hF hq ho
  unfold refEndF at hF
  split at hF
  · cases hF
    exact ⟨by simp only [List.length_cons, List.length_nil]; decide, okRefEnd0 _ _ _ hq⟩
  · cases hF
theorem sndRefBal : Sound Try.prog (lookΓ gamRefBal) := sound_of _ fun p hp => by
  simp [gamRefBal] at hp
theorem meetsRefBal : Meets Try.prog 48 refBalF := by
  refine meets_of_awp (Γ := lookΓ gamRefBal) (L := fun args => match args with | [.val (.int .u32 b)] => lpRefBal0 b | _ => fun _ => none) sndRefBal mixedOrders Try.func48 rfl Try.call48 ?_
  intro args q r hF hq ho
  unfold refBalF at hF
  split at hF
  · cases hF
    exact ⟨by simp only [List.length_cons, List.length_nil]; decide, okRefBal0 _ hq (okay_u32 (argI 0 ho rfl rfl))⟩
  · cases hF
theorem sndRefTakeID : Sound Try.prog (lookΓ gamRefTakeID) := sound_of _ fun p hp => by
  simp only [gamRefTakeID, List.mem_cons, List.not_mem_nil, or_false] at hp
  rcases hp with rfl | rfl
  · exact meetsRefByte
  · exact meetsRefShort
theorem meetsRefTakeID : Meets Try.prog 17 refTakeIDF := by
  refine meets_of_awp (Γ := lookΓ gamRefTakeID) (L := fun args => match args with | [.val (.agg [.sl xs .no, .int .i64 at', .int .i64 e])] => lpRefTakeID0 xs at' e | _ => fun _ => none) sndRefTakeID mixedOrders Try.func17 rfl Try.call17 ?_
  intro args q r hF hq ho
  unfold refTakeIDF at hF
  split at hF
  · cases hF
    exact ⟨by simp only [List.length_cons, List.length_nil]; decide, okRefTakeID0 _ _ _ hq⟩
  · cases hF
theorem sndRefTakeBal : Sound Try.prog (lookΓ gamRefTakeBal) := sound_of _ fun p hp => by
  simp only [gamRefTakeBal, List.mem_cons, List.not_mem_nil, or_false] at hp
  rcases hp with rfl | rfl
  · exact meetsRefShort
  · exact meetsRefBal
theorem meetsRefTakeBal : Meets Try.prog 19 refTakeBalF := by
  refine meets_of_awp (Γ := lookΓ gamRefTakeBal) (L := fun args => match args with | [.val (.agg [.sl xs .no, .int .i64 at', .int .i64 e])] => lpRefTakeBal0 xs at' e | _ => fun _ => none) sndRefTakeBal mixedOrders Try.func19 rfl Try.call19 ?_
  intro args q r hF hq ho
  unfold refTakeBalF at hF
  split at hF
  · cases hF
    exact ⟨by simp only [List.length_cons, List.length_nil]; decide, okRefTakeBal0 _ _ _ hq⟩
  · cases hF
theorem sndRefARight : Sound Try.prog (lookΓ gamRefARight) := sound_of _ fun p hp => by
  simp [gamRefARight] at hp
theorem meetsRefARight : Meets Try.prog 15 refARightF := by
  refine meets_of_awp (Γ := lookΓ gamRefARight) (L := fun args => match args with | [.val (.agg [.int .i64 s, .int .i64 d0, .int .i64 d1, .int .i64 d2, .int .i64 d3, .int .i64 d4, .int .i64 d5, .int .i64 d6])] => lpRefARight0 s d0 d1 d2 d3 d4 d5 d6 | _ => fun _ => none) sndRefARight mixedOrders Try.func15 rfl Try.call15 ?_
  intro args q r hF hq ho
  unfold refARightF at hF
  split at hF
  · cases hF
    exact ⟨by simp only [List.length_cons, List.length_nil]; decide, okRefARight0 _ _ _ _ _ _ _ _ hq⟩
  · cases hF
theorem sndRefATake : Sound Try.prog (lookΓ gamRefATake) := sound_of _ fun p hp => by
  simp only [gamRefATake, List.mem_cons, List.not_mem_nil, or_false] at hp
  subst hp
  exact meetsRefShort
theorem meetsRefATake : Meets Try.prog 9 refATakeF := by
  refine meets_of_awp (Γ := lookΓ gamRefATake) (L := fun args => match args with | [.val (.agg [.sl xs .no, .int .i64 at', .int .i64 e])] => lpRefATake0 xs at' e | _ => fun _ => none) sndRefATake mixedOrders Try.func9 rfl Try.call9 ?_
  intro args q r hF hq ho
  unfold refATakeF at hF
  split at hF
  · cases hF
    exact ⟨by simp only [List.length_cons, List.length_nil]; decide, okRefATake0 _ _ _ hq⟩
  · cases hF
end Go.Proofs.Ytledoikeaidlfaa
