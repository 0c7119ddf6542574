/- The contracts are met. -/
import Derived.Test.YtcokifdgbfbonaaDoorLaxIoAOk
namespace Go.Proofs.YtcokifdgbfbonaaDoor
set_option linter.unusedVariables false
set_option linter.unusedSimpArgs false
open Go.RowKit
theorem sndIdRight : Sound Tryd.prog (lookΓ gamIdRight) := sound_of _ fun p hp => by
  simp [gamIdRight] at hp
set_option maxHeartbeats 4000000 in
theorem meetsIdRight : Meets Tryd.prog 74 idRightF := by
  refine meets_of_awp (Γ := lookΓ gamIdRight) (L := fun _ _ => none) sndIdRight mixedOrders Tryd.func74 rfl Tryd.call74 ?_
  intro args q r hF hq ho
  unfold idRightF at hF
  split at hF
  · cases hF
    exact ⟨by simp only [List.length_cons, List.length_nil]; decide, okIdRight0 _ _ hq⟩
  · cases hF
theorem sndBalRound : Sound Tryd.prog (lookΓ gamBalRound) := sound_of _ fun p hp => by
  simp [gamBalRound] at hp
set_option maxHeartbeats 4000000 in
theorem meetsBalRound : Meets Tryd.prog 124 balRoundF := by
  refine meets_of_awp (Γ := lookΓ gamBalRound) (L := fun _ _ => none) sndBalRound mixedOrders Tryd.func124 rfl Tryd.call124 ?_
  intro args q r hF hq ho
  unfold balRoundF at hF
  split at hF
  · cases hF
    exact ⟨by simp only [List.length_cons, List.length_nil]; decide, okBalRound0 _ hq (okay_u32 (argI 0 ho rfl rfl))⟩
  · cases hF
theorem sndBalRep : Sound Tryd.prog (lookΓ gamBalRep) := sound_of _ fun p hp => by
  simp [gamBalRep] at hp
set_option maxHeartbeats 4000000 in
theorem meetsBalRep : Meets Tryd.prog 125 balRepF := by
  refine meets_of_awp (Γ := lookΓ gamBalRep) (L := fun _ _ => none) sndBalRep mixedOrders Tryd.func125 rfl Tryd.call125 ?_
  intro args q r hF hq ho
  unfold balRepF at hF
  split at hF
  · cases hF
    exact ⟨by simp only [List.length_cons, List.length_nil]; decide, okBalRep0 _ hq (okay_u32 (argI 0 ho rfl rfl))⟩
  · cases hF
theorem sndBalRight : Sound Tryd.prog (lookΓ gamBalRight) := sound_of _ fun p hp => by
  simp only [gamBalRight, List.mem_cons, List.not_mem_nil, or_false] at hp
  rcases hp with rfl | rfl
  · exact meetsBalRound.orNil
  · exact meetsBalRep.orNil
set_option maxHeartbeats 4000000 in
theorem meetsBalRight : Meets Tryd.prog 75 balRightF := by
  refine meets_of_awp (Γ := lookΓ gamBalRight) (L := fun _ _ => none) sndBalRight mixedOrders Tryd.func75 rfl Tryd.call75 ?_
  intro args q r hF hq ho
  unfold balRightF at hF
  split at hF
  · cases hF
    exact ⟨by simp only [List.length_cons, List.length_nil]; decide, okBalRight0 _ hq (okay_u32 (argI 0 ho rfl rfl))⟩
  · cases hF
theorem sndAttRight : Sound Tryd.prog (lookΓ gamAttRight) := sound_of _ fun p hp => by
  simp [gamAttRight] at hp
set_option maxHeartbeats 4000000 in
theorem meetsAttRight : Meets Tryd.prog 126 attRightF := by
  refine meets_of_awp (Γ := lookΓ gamAttRight) (L := fun args => match args with | [.val (.agg [.int .i64 s, .int .i64 d0, .int .i64 d1, .int .i64 d2, .int .i64 d3, .int .i64 d4, .int .i64 d5, .int .i64 d6])] => lpAttRight0 s d0 d1 d2 d3 d4 d5 d6 | _ => fun _ => none) sndAttRight mixedOrders Tryd.func126 rfl Tryd.call126 ?_
  intro args q r hF hq ho
  unfold attRightF at hF
  split at hF
  · cases hF
    exact ⟨by simp only [List.length_cons, List.length_nil]; decide, okAttRight0 _ _ _ _ _ _ _ _ hq⟩
  · cases hF
theorem sndAttOwn : Sound Tryd.prog (lookΓ gamAttOwn) := sound_of _ fun p hp => by
  simp only [gamAttOwn, List.mem_cons, List.not_mem_nil, or_false] at hp
  subst hp
  exact meetsIdRight.orNil
set_option maxHeartbeats 4000000 in
theorem meetsAttOwn : Meets Tryd.prog 30 attOwnF := by
  refine meets_of_awp (Γ := lookΓ gamAttOwn) (L := fun _ _ => none) sndAttOwn mixedOrders Tryd.func30 rfl Tryd.call30 ?_
  intro args q r hF hq ho
  unfold attOwnF at hF
  split at hF
  · cases hF
    exact ⟨by simp only [List.length_cons, List.length_nil]; decide, okAttOwn0 _ _ _ _ _ _ _ _ _ _ hq⟩
  · cases hF
theorem sndAttOwns : Sound Tryd.prog (lookΓ gamAttOwns) := sound_of _ fun p hp => by
  simp only [gamAttOwns, List.mem_cons, List.not_mem_nil, or_false] at hp
  rcases hp with rfl | rfl | rfl
  · exact meetsIdRight.orNil
  · exact meetsAttRight.orNil
  · exact meetsAttOwn.orNil
set_option maxHeartbeats 4000000 in
theorem meetsAttOwns : Meets Tryd.prog 76 attOwnsF := by
  refine meets_of_awp (Γ := lookΓ gamAttOwns) (L := fun _ _ => none) sndAttOwns mixedOrders Tryd.func76 rfl Tryd.call76 ?_
  intro args q r hF hq ho
  unfold attOwnsF at hF
  split at hF
  · cases hF
    exact ⟨by simp only [List.length_cons, List.length_nil]; decide, okAttOwns0 _ _ _ _ _ _ _ _ _ _ hq⟩
  · cases hF
theorem sndAttMerge : Sound Tryd.prog (lookΓ gamAttMerge) := sound_of _ fun p hp => by
  simp [gamAttMerge] at hp
set_option maxHeartbeats 4000000 in
theorem meetsAttMerge : Meets Tryd.prog 83 attMergeF := by
  refine meets_of_awp (Γ := lookΓ gamAttMerge) (L := fun args => match args with | [.val (.agg [.int .i64 s, .int .i64 d0, .int .i64 d1, .int .i64 d2, .int .i64 d3, .int .i64 d4, .int .i64 d5, .int .i64 d6]), .val (.agg [.int .i64 s', .int .i64 e0, .int .i64 e1, .int .i64 e2, .int .i64 e3, .int .i64 e4, .int .i64 e5, .int .i64 e6])] => lpAttMerge0 s d0 d1 d2 d3 d4 d5 d6 s' e0 e1 e2 e3 e4 e5 e6 | _ => fun _ => none) sndAttMerge mixedOrders Tryd.func83 rfl Tryd.call83 ?_
  intro args q r hF hq ho
  unfold attMergeF at hF
  split at hF
  · cases hF
    exact ⟨by simp only [List.length_cons, List.length_nil]; decide, okAttMerge0 _ _ _ _ _ _ _ _ _ _ _ _ _ _ _ _ hq⟩
  · cases hF
theorem sndAttWithin : Sound Tryd.prog (lookΓ gamAttWithin) := sound_of _ fun p hp => by
  simp only [gamAttWithin, List.mem_cons, List.not_mem_nil, or_false] at hp
  subst hp
  exact meetsAttMerge.orNil
set_option maxHeartbeats 4000000 in
theorem meetsAttWithin : Meets Tryd.prog 29 attWithinF := by
  refine meets_of_awp (Γ := lookΓ gamAttWithin) (L := fun _ _ => none) sndAttWithin mixedOrders Tryd.func29 rfl Tryd.call29 ?_
  intro args q r hF hq ho
  unfold attWithinF at hF
  split at hF
  · cases hF
    exact ⟨by simp only [List.length_cons, List.length_nil]; decide, okAttWithin0 _ _ _ _ _ _ _ _ _ _ _ _ _ _ _ _ hq⟩
  · cases hF
theorem sndRefIdRight : Sound Tryd.prog (lookΓ gamRefIdRight) := sound_of _ fun p hp => by
  simp [gamRefIdRight] at hp
set_option maxHeartbeats 4000000 in
theorem meetsRefIdRight : Meets Tryd.prog 106 refIdRightF := by
  refine meets_of_awp (Γ := lookΓ gamRefIdRight) (L := fun _ _ => none) sndRefIdRight mixedOrders Tryd.func106 rfl Tryd.call106 ?_
  intro args q r hF hq ho
  unfold refIdRightF at hF
  split at hF
  · cases hF
    exact ⟨by simp only [List.length_cons, List.length_nil]; decide, okRefIdRight0 _ _ hq⟩
  · cases hF
theorem sndRefBal : Sound Tryd.prog (lookΓ gamRefBal) := sound_of _ fun p hp => by
  simp [gamRefBal] at hp
set_option maxHeartbeats 4000000 in
theorem meetsRefBal : Meets Tryd.prog 107 refBalF := by
  refine meets_of_awp (Γ := lookΓ gamRefBal) (L := fun _ _ => none) sndRefBal mixedOrders Tryd.func107 rfl Tryd.call107 ?_
  intro args q r hF hq ho
  unfold refBalF at hF
  split at hF
  · cases hF
    exact ⟨by simp only [List.length_cons, List.length_nil]; decide, okRefBal0 _ hq (okay_u32 (argI 0 ho rfl rfl))⟩
  · cases hF
theorem sndRefARight : Sound Tryd.prog (lookΓ gamRefARight) := sound_of _ fun p hp => by
  simp [gamRefARight] at hp
set_option maxHeartbeats 4000000 in
theorem meetsRefARight : Meets Tryd.prog 27 refARightF := by
  refine meets_of_awp (Γ := lookΓ gamRefARight) (L := fun args => match args with | [.val (.agg [.int .i64 s, .int .i64 d0, .int .i64 d1, .int .i64 d2, .int .i64 d3, .int .i64 d4, .int .i64 d5, .int .i64 d6])] => lpRefARight0 s d0 d1 d2 d3 d4 d5 d6 | _ => fun _ => none) sndRefARight mixedOrders Tryd.func27 rfl Tryd.call27 ?_
  intro args q r hF hq ho
  unfold refARightF at hF
  split at hF
  · cases hF
    exact ⟨by simp only [List.length_cons, List.length_nil]; decide, okRefARight0 _ _ _ _ _ _ _ _ hq⟩
  · cases hF
end Go.Proofs.YtcokifdgbfbonaaDoor
