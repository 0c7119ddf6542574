/- The contracts are met. -/
import Derived.Test.YtcokifdgbfbonaaDoorLaxIoBOk
namespace Go.Proofs.YtcokifdgbfbonaaDoor
set_option linter.unusedVariables false
set_option linter.unusedSimpArgs false
open Go.RowKit
theorem sndTakeID : Sound Tryd.prog (lookΓ gamTakeID) := sound_of _ fun p hp => by
  simp only [gamTakeID, List.mem_cons, List.not_mem_nil, or_false] at hp
  rcases hp with rfl | rfl | rfl | rfl
  · exact meetsInByte.orNil
  · exact meetsInFail.orNil
  · exact meetsInShort.orNil
  · exact meetsInFailed.orNil
theorem meetsTakeID : Meets Tryd.prog 109 takeIDF := by
  refine meets_of_awp (Γ := lookΓ gamTakeID) (L := fun args => match args with | [.box [.sl xs .no, .int .i64 e]] => lpTakeID0 xs e | _ => fun _ => none) sndTakeID mixedOrders Tryd.func109 rfl Tryd.call109 ?_
  intro args q r hF hq ho
  unfold takeIDF at hF
  split at hF
  · cases hF
    exact ⟨by simp only [List.length_cons, List.length_nil]; decide, okTakeID0 _ _ hq⟩
  · cases hF
theorem sndTakeBal : Sound Tryd.prog (lookΓ gamTakeBal) := sound_of _ fun p hp => by
  simp only [gamTakeBal, List.mem_cons, List.not_mem_nil, or_false] at hp
  rcases hp with rfl | rfl | rfl
  · exact meetsInShort.orNil
  · exact meetsBalRight.orNil
  · exact meetsInFail.orNil
theorem meetsTakeBal : Meets Tryd.prog 110 takeBalF := by
  refine meets_of_awp (Γ := lookΓ gamTakeBal) (L := fun args => match args with | [.box [.sl xs .no, .int .i64 e]] => lpTakeBal0 xs e | _ => fun _ => none) sndTakeBal mixedOrders Tryd.func110 rfl Tryd.call110 ?_
  intro args q r hF hq ho
  unfold takeBalF at hF
  split at hF
  · cases hF
    exact ⟨by simp only [List.length_cons, List.length_nil]; decide, okTakeBal0 _ _ hq⟩
  · cases hF
theorem sndIdPut : Sound Tryd.prog (lookΓ gamIdPut) := sound_of _ fun p hp => by
  simp only [gamIdPut, List.mem_cons, List.not_mem_nil, or_false] at hp
  rcases hp with rfl | rfl
  · exact meetsOutByte.orNil
  · exact meetsOutShort.orNil
theorem meetsIdPut : Meets Tryd.prog 141 idPutF := by
  refine meets_of_awp (Γ := lookΓ gamIdPut) (L := fun args => match args with | [.val (.agg [.int .i64 r, .int .i64 n]), .box [.sl xs (.row p q te0)]] => lpIdPut0 xs p q r n | _ => fun _ => none) sndIdPut mixedOrders Tryd.func141 rfl Tryd.call141 ?_
  intro args q r hF hq ho
  unfold idPutF at hF
  split at hF
  · split at hF
    · rename_i hte
      subst hte
      cases hF
      exact ⟨by simp only [List.length_cons, List.length_nil]; decide, okIdPut0 _ _ _ _ _ hq⟩
    · cases hF
  · cases hF
theorem sndBalPut : Sound Tryd.prog (lookΓ gamBalPut) := sound_of _ fun p hp => by
  simp only [gamBalPut, List.mem_cons, List.not_mem_nil, or_false] at hp
  subst hp
  exact meetsOutShort.orNil
theorem meetsBalPut : Meets Tryd.prog 142 balPutF := by
  refine meets_of_awp (Γ := lookΓ gamBalPut) (L := fun args => match args with | [.val (.int .u32 b), .box [.sl xs (.row p q te0)]] => lpBalPut0 xs p q b | _ => fun _ => none) sndBalPut mixedOrders Tryd.func142 rfl Tryd.call142 ?_
  intro args q r hF hq ho
  unfold balPutF at hF
  split at hF
  · split at hF
    · rename_i hte
      subst hte
      cases hF
      exact ⟨by simp only [List.length_cons, List.length_nil]; decide, okBalPut0 _ _ _ _ hq (okay_u32 (argI 0 ho rfl rfl))⟩
    · cases hF
  · cases hF
theorem sndAttPut : Sound Tryd.prog (lookΓ gamAttPut) := sound_of _ fun p hp => by
  simp only [gamAttPut, List.mem_cons, List.not_mem_nil, or_false] at hp
  rcases hp with rfl | rfl
  · exact meetsAttRight.orNil
  · exact meetsOutShort.orNil
theorem meetsAttPut : Meets Tryd.prog 144 attPutF := by
  refine meets_of_awp (Γ := lookΓ gamAttPut) (L := fun args => match args with | [.val (.agg [.int .i64 s, .int .i64 d0, .int .i64 d1, .int .i64 d2, .int .i64 d3, .int .i64 d4, .int .i64 d5, .int .i64 d6]), .box [.sl xs (.row p q te0)]] => lpAttPut0 s d0 d1 d2 d3 d4 d5 d6 xs p q | _ => fun _ => none) sndAttPut mixedOrders Tryd.func144 rfl Tryd.call144 ?_
  intro args q r hF hq ho
  unfold attPutF at hF
  split at hF
  · split at hF
    · rename_i hte
      subst hte
      cases hF
      exact ⟨by simp only [List.length_cons, List.length_nil]; decide, okAttPut0 _ _ _ _ _ _ _ _ _ _ _ hq⟩
    · cases hF
  · cases hF
theorem sndAttTake : Sound Tryd.prog (lookΓ gamAttTake) := sound_of _ fun p hp => by
  simp only [gamAttTake, List.mem_cons, List.not_mem_nil, or_false] at hp
  rcases hp with rfl | rfl
  · exact meetsInShort.orNil
  · exact meetsInFailed.orNil
theorem meetsAttTake : Meets Tryd.prog 112 attTakeF := by
  refine meets_of_awp (Γ := lookΓ gamAttTake) (L := fun args => match args with | [.box [.sl xs .no, .int .i64 e]] => lpAttTake0 xs e | _ => fun _ => none) sndAttTake mixedOrders Tryd.func112 rfl Tryd.call112 ?_
  intro args q r hF hq ho
  unfold attTakeF at hF
  split at hF
  · cases hF
    exact ⟨by simp only [List.length_cons, List.length_nil]; decide, okAttTake0 _ _ hq⟩
  · cases hF
end Go.Proofs.YtcokifdgbfbonaaDoor
