/- The contracts are met. -/
import Derived.Test.YtcokifdgbfbonaaDoorLaxPthOk
namespace Go.Proofs.YtcokifdgbfbonaaDoor
set_option linter.unusedVariables false
set_option linter.unusedSimpArgs false
open Go.RowKit
theorem sndNormal : Sound Tryd.prog (lookΓ gamNormal) := sound_of _ fun p hp => by
  simp only [gamNormal, List.mem_cons, List.not_mem_nil, or_false] at hp
  rcases hp with rfl | rfl
  · exact meetsWalk.orNil
  · exact meetsJoin.orNil
theorem meetsNormal : Meets Tryd.prog 64 normalF := by
  refine meets_of_awp (Γ := lookΓ gamNormal) (L := fun args => match args with | [.val (.str s)] => lpNormal0 s | _ => fun _ => none) sndNormal mixedOrders Tryd.func64 rfl Tryd.call64 ?_
  intro args q r hF hq ho
  unfold normalF at hF
  split at hF
  · cases hF
    exact ⟨by simp only [List.length_cons, List.length_nil]; decide, okNormal0 _ hq⟩
  · cases hF
theorem sndRight : Sound Tryd.prog (lookΓ gamRight) := sound_of _ fun p hp => by
  simp only [gamRight, List.mem_cons, List.not_mem_nil, or_false] at hp
  subst hp
  exact meetsNormal.orNil
theorem meetsRight : Meets Tryd.prog 67 rightF := by
  refine meets_of_awp (Γ := lookΓ gamRight) (L := fun args => match args with | [.val (.str s)] => lpRight0 s | _ => fun _ => none) sndRight mixedOrders Tryd.func67 rfl Tryd.call67 ?_
  intro args q r hF hq ho
  unfold rightF at hF
  split at hF
  · cases hF
    exact ⟨by simp only [List.length_cons, List.length_nil]; decide, okRight0 _ hq⟩
  · cases hF
theorem sndRefLetter : Sound Tryd.prog (lookΓ gamRefLetter) := sound_of _ fun p hp => by
  simp [gamRefLetter] at hp
theorem meetsRefLetter : Meets Tryd.prog 151 refLetterF := by
  refine meets_of_awp (Γ := lookΓ gamRefLetter) (L := fun args => match args with | [.val (.int .u8 b)] => lpRefLetter0 b | _ => fun _ => none) sndRefLetter mixedOrders Tryd.func151 rfl Tryd.call151 ?_
  intro args q r hF hq ho
  unfold refLetterF at hF
  split at hF
  · cases hF
    exact ⟨by simp only [List.length_cons, List.length_nil]; decide, okRefLetter0 _ hq⟩
  · cases hF
theorem sndRefTake : Sound Tryd.prog (lookΓ gamRefTake) := sound_of _ fun p hp => by
  simp only [gamRefTake, List.mem_cons, List.not_mem_nil, or_false] at hp
  subst hp
  exact meetsRefLetter.orNil
theorem meetsRefTake : Meets Tryd.prog 116 refTakeF := by
  refine meets_of_awp (Γ := lookΓ gamRefTake) (L := fun args => match args with | [.val (.sl xs .no), .val (.str p)] => lpRefTake0 xs p | _ => fun _ => none) sndRefTake mixedOrders Tryd.func116 rfl Tryd.call116 ?_
  intro args q r hF hq ho
  unfold refTakeF at hF
  split at hF
  · cases hF
    exact ⟨by simp only [List.length_cons, List.length_nil]; decide, okRefTake0 _ _ hq⟩
  · cases hF
theorem sndRefParts : Sound Tryd.prog (lookΓ gamRefParts) := sound_of _ fun p hp => by
  simp only [gamRefParts, List.mem_cons, List.not_mem_nil, or_false] at hp
  subst hp
  exact meetsRefTake.orNil
theorem meetsRefParts : Meets Tryd.prog 66 refPartsF := by
  refine meets_of_awp (Γ := lookΓ gamRefParts) (L := fun args => match args with | [.val (.str s)] => lpRefParts0 s | _ => fun _ => none) sndRefParts mixedOrders Tryd.func66 rfl Tryd.call66 ?_
  intro args q r hF hq ho
  unfold refPartsF at hF
  split at hF
  · cases hF
    exact ⟨by simp only [List.length_cons, List.length_nil]; decide, okRefParts0 _ hq⟩
  · cases hF
theorem sndRefJoin : Sound Tryd.prog (lookΓ gamRefJoin) := sound_of _ fun p hp => by
  simp [gamRefJoin] at hp
theorem meetsRefJoin : Meets Tryd.prog 150 refJoinF := by
  refine meets_of_awp (Γ := lookΓ gamRefJoin) (L := fun args => match args with | [.val (.sl xs .no)] => lpRefJoin0 xs | _ => fun _ => none) sndRefJoin mixedOrders Tryd.func150 rfl Tryd.call150 ?_
  intro args q r hF hq ho
  unfold refJoinF at hF
  split at hF
  · cases hF
    exact ⟨by simp only [List.length_cons, List.length_nil]; decide, okRefJoin0 _ hq⟩
  · cases hF
theorem sndRefNormal : Sound Tryd.prog (lookΓ gamRefNormal) := sound_of _ fun p hp => by
  simp only [gamRefNormal, List.mem_cons, List.not_mem_nil, or_false] at hp
  rcases hp with rfl | rfl
  · exact meetsRefParts.orNil
  · exact meetsRefJoin.orNil
theorem meetsRefNormal : Meets Tryd.prog 115 refNormalF := by
  refine meets_of_awp (Γ := lookΓ gamRefNormal) (L := fun args => match args with | [.val (.str s)] => lpRefNormal0 s | _ => fun _ => none) sndRefNormal mixedOrders Tryd.func115 rfl Tryd.call115 ?_
  intro args q r hF hq ho
  unfold refNormalF at hF
  split at hF
  · cases hF
    exact ⟨by simp only [List.length_cons, List.length_nil]; decide, okRefNormal0 _ hq⟩
  · cases hF
theorem sndRefRight : Sound Tryd.prog (lookΓ gamRefRight) := sound_of _ fun p hp => by
  simp only [gamRefRight, List.mem_cons, List.not_mem_nil, or_false] at hp
  subst hp
  exact meetsRefNormal.orNil
theorem meetsRefRight : Meets Tryd.prog 65 refRightF := by
  refine meets_of_awp (Γ := lookΓ gamRefRight) (L := fun args => match args with | [.val (.str s)] => lpRefRight0 s | _ => fun _ => none) sndRefRight mixedOrders Tryd.func65 rfl Tryd.call65 ?_
  intro args q r hF hq ho
  unfold refRightF at hF
  split at hF
  · cases hF
    exact ⟨by simp only [List.length_cons, List.length_nil]; decide, okRefRight0 _ hq⟩
  · cases hF
end Go.Proofs.YtcokifdgbfbonaaDoor
