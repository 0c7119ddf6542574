/- The contracts are met. -/
import Derived.Test.YtabeffcdklcdeaaDoorLaxPathOk
namespace Go.Proofs.YtabeffcdklcdeaaDoor
set_option linter.unusedVariables false
set_option linter.unusedSimpArgs false
open Go.RowKit
theorem sndNormal : Sound Tryd.prog (lookΓ gamNormal) := sound_of _ fun p hp => by
  simp only [gamNormal, List.mem_cons, List.not_mem_nil, or_false] at hp
  rcases hp with rfl | rfl
  · exact meetsWalk.orNil
  · exact meetsJoin.orNil
theorem meetsNormal : Meets Tryd.prog 19 normalF := by
  refine meets_of_awp (Γ := lookΓ gamNormal) (L := fun args => match args with | [.val (.str s)] => lpNormal0 s | _ => fun _ => none) sndNormal mixedOrders Tryd.func19 rfl Tryd.call19 ?_
  intro args q r hF hq ho
  unfold normalF at hF
  split at hF
  · cases hF
    exact ⟨by simp only [List.length_cons, List.length_nil]; decide, okNormal0 _ hq⟩
  · cases hF
theorem sndRight : Sound Tryd.prog (lookΓ gamRight) := sound_of _ fun p hp => by
  simp only [gamRight, List.mem_cons, List.not_mem_nil, or_false] at hp
  subst hp
  exact meetsNormal.orNil
theorem meetsRight : Meets Tryd.prog 21 rightF := by
  refine meets_of_awp (Γ := lookΓ gamRight) (L := fun args => match args with | [.val (.str s)] => lpRight0 s | _ => fun _ => none) sndRight mixedOrders Tryd.func21 rfl Tryd.call21 ?_
  intro args q r hF hq ho
  unfold rightF at hF
  split at hF
  · cases hF
    exact ⟨by simp only [List.length_cons, List.length_nil]; decide, okRight0 _ hq⟩
  · cases hF
theorem sndParts : Sound Tryd.prog (lookΓ gamParts) := sound_of _ fun p hp => by
  simp only [gamParts, List.mem_cons, List.not_mem_nil, or_false] at hp
  rcases hp with rfl | rfl
  · exact meetsRight.orNil
  · exact meetsSplit.orNil
theorem meetsParts : Meets Tryd.prog 23 partsF := by
  refine meets_of_awp (Γ := lookΓ gamParts) (L := fun args => match args with | [.val (.str s)] => lpParts0 s | _ => fun _ => none) sndParts mixedOrders Tryd.func23 rfl Tryd.call23 ?_
  intro args q r hF hq ho
  unfold partsF at hF
  split at hF
  · cases hF
    exact ⟨by simp only [List.length_cons, List.length_nil]; decide, okParts0 _ hq⟩
  · cases hF
theorem sndAbove : Sound Tryd.prog (lookΓ gamAbove) := sound_of _ fun p hp => by
  simp only [gamAbove, List.mem_cons, List.not_mem_nil, or_false] at hp
  rcases hp with rfl | rfl
  · exact meetsRight.orNil
  · exact meetsHasPrefix.orNil
theorem meetsAbove : Meets Tryd.prog 17 aboveF := by
  refine meets_of_awp (Γ := lookΓ gamAbove) (L := fun args => match args with | [.val (.str p), .val (.str q)] => lpAbove0 p q | _ => fun _ => none) sndAbove mixedOrders Tryd.func17 rfl Tryd.call17 ?_
  intro args q r hF hq ho
  unfold aboveF at hF
  split at hF
  · cases hF
    exact ⟨by simp only [List.length_cons, List.length_nil]; decide, okAbove0 _ _ hq⟩
  · cases hF
theorem sndOverlap : Sound Tryd.prog (lookΓ gamOverlap) := sound_of _ fun p hp => by
  simp only [gamOverlap, List.mem_cons, List.not_mem_nil, or_false] at hp
  subst hp
  exact meetsAbove.orNil
theorem meetsOverlap : Meets Tryd.prog 18 overlapF := by
  refine meets_of_awp (Γ := lookΓ gamOverlap) (L := fun args => match args with | [.val (.str p), .val (.str q)] => lpOverlap0 p q | _ => fun _ => none) sndOverlap mixedOrders Tryd.func18 rfl Tryd.call18 ?_
  intro args q r hF hq ho
  unfold overlapF at hF
  split at hF
  · cases hF
    exact ⟨by simp only [List.length_cons, List.length_nil]; decide, okOverlap0 _ _ hq⟩
  · cases hF
theorem sndRefLetter : Sound Tryd.prog (lookΓ gamRefLetter) := sound_of _ fun p hp => by
  simp [gamRefLetter] at hp
theorem meetsRefLetter : Meets Tryd.prog 92 refLetterF := by
  refine meets_of_awp (Γ := lookΓ gamRefLetter) (L := fun args => match args with | [.val (.int .u8 b)] => lpRefLetter0 b | _ => fun _ => none) sndRefLetter mixedOrders Tryd.func92 rfl Tryd.call92 ?_
  intro args q r hF hq ho
  unfold refLetterF at hF
  split at hF
  · cases hF
    exact ⟨by simp only [List.length_cons, List.length_nil]; decide, okRefLetter0 _ hq⟩
  · cases hF
theorem sndRefTake : Sound Tryd.prog (lookΓ gamRefTake) := sound_of _ fun p hp => by
  simp only [gamRefTake, List.mem_cons, List.not_mem_nil, or_false] at hp
  subst hp
  exact meetsRefLetter.orNil
theorem meetsRefTake : Meets Tryd.prog 73 refTakeF := by
  refine meets_of_awp (Γ := lookΓ gamRefTake) (L := fun args => match args with | [.val (.sl xs .no), .val (.str p)] => lpRefTake0 xs p | _ => fun _ => none) sndRefTake mixedOrders Tryd.func73 rfl Tryd.call73 ?_
  intro args q r hF hq ho
  unfold refTakeF at hF
  split at hF
  · cases hF
    exact ⟨by simp only [List.length_cons, List.length_nil]; decide, okRefTake0 _ _ hq⟩
  · cases hF
theorem sndRefParts : Sound Tryd.prog (lookΓ gamRefParts) := sound_of _ fun p hp => by
  simp only [gamRefParts, List.mem_cons, List.not_mem_nil, or_false] at hp
  subst hp
  exact meetsRefTake.orNil
theorem meetsRefParts : Meets Tryd.prog 52 refPartsF := by
  refine meets_of_awp (Γ := lookΓ gamRefParts) (L := fun args => match args with | [.val (.str s)] => lpRefParts0 s | _ => fun _ => none) sndRefParts mixedOrders Tryd.func52 rfl Tryd.call52 ?_
  intro args q r hF hq ho
  unfold refPartsF at hF
  split at hF
  · cases hF
    exact ⟨by simp only [List.length_cons, List.length_nil]; decide, okRefParts0 _ hq⟩
  · cases hF
theorem sndRefJoin : Sound Tryd.prog (lookΓ gamRefJoin) := sound_of _ fun p hp => by
  simp [gamRefJoin] at hp
theorem meetsRefJoin : Meets Tryd.prog 27 refJoinF := by
  refine meets_of_awp (Γ := lookΓ gamRefJoin) (L := fun args => match args with | [.val (.sl xs .no)] => lpRefJoin0 xs | _ => fun _ => none) sndRefJoin mixedOrders Tryd.func27 rfl Tryd.call27 ?_
  intro args q r hF hq ho
  unfold refJoinF at hF
  split at hF
  · cases hF
    exact ⟨by simp only [List.length_cons, List.length_nil]; decide, okRefJoin0 _ hq⟩
  · cases hF
theorem sndRefNormal : Sound Tryd.prog (lookΓ gamRefNormal) := sound_of _ fun p hp => by
  simp only [gamRefNormal, List.mem_cons, List.not_mem_nil, or_false] at hp
  rcases hp with rfl | rfl
  · exact meetsRefParts.orNil
  · exact meetsRefJoin.orNil
theorem meetsRefNormal : Meets Tryd.prog 20 refNormalF := by
  refine meets_of_awp (Γ := lookΓ gamRefNormal) (L := fun args => match args with | [.val (.str s)] => lpRefNormal0 s | _ => fun _ => none) sndRefNormal mixedOrders Tryd.func20 rfl Tryd.call20 ?_
  intro args q r hF hq ho
  unfold refNormalF at hF
  split at hF
  · cases hF
    exact ⟨by simp only [List.length_cons, List.length_nil]; decide, okRefNormal0 _ hq⟩
  · cases hF
theorem sndRefRight : Sound Tryd.prog (lookΓ gamRefRight) := sound_of _ fun p hp => by
  simp only [gamRefRight, List.mem_cons, List.not_mem_nil, or_false] at hp
  subst hp
  exact meetsRefNormal.orNil
theorem meetsRefRight : Meets Tryd.prog 22 refRightF := by
  refine meets_of_awp (Γ := lookΓ gamRefRight) (L := fun args => match args with | [.val (.str s)] => lpRefRight0 s | _ => fun _ => none) sndRefRight mixedOrders Tryd.func22 rfl Tryd.call22 ?_
  intro args q r hF hq ho
  unfold refRightF at hF
  split at hF
  · cases hF
    exact ⟨by simp only [List.length_cons, List.length_nil]; decide, okRefRight0 _ hq⟩
  · cases hF
theorem sndRefAbove : Sound Tryd.prog (lookΓ gamRefAbove) := sound_of _ fun p hp => by
  simp only [gamRefAbove, List.mem_cons, List.not_mem_nil, or_false] at hp
  rcases hp with rfl | rfl
  · exact meetsRefRight.orNil
  · exact meetsRefParts.orNil
theorem meetsRefAbove : Meets Tryd.prog 16 refAboveF := by
  refine meets_of_awp (Γ := lookΓ gamRefAbove) (L := fun args => match args with | [.val (.str p), .val (.str q)] => lpRefAbove0 p q | _ => fun _ => none) sndRefAbove mixedOrders Tryd.func16 rfl Tryd.call16 ?_
  intro args q r hF hq ho
  unfold refAboveF at hF
  split at hF
  · cases hF
    exact ⟨by simp only [List.length_cons, List.length_nil]; decide, okRefAbove0 _ _ hq⟩
  · cases hF
theorem sndRefOverlap : Sound Tryd.prog (lookΓ gamRefOverlap) := sound_of _ fun p hp => by
  simp only [gamRefOverlap, List.mem_cons, List.not_mem_nil, or_false] at hp
  subst hp
  exact meetsRefAbove.orNil
theorem meetsRefOverlap : Meets Tryd.prog 43 refOverlapF := by
  refine meets_of_awp (Γ := lookΓ gamRefOverlap) (L := fun args => match args with | [.val (.str p), .val (.str q)] => lpRefOverlap0 p q | _ => fun _ => none) sndRefOverlap mixedOrders Tryd.func43 rfl Tryd.call43 ?_
  intro args q r hF hq ho
  unfold refOverlapF at hF
  split at hF
  · cases hF
    exact ⟨by simp only [List.length_cons, List.length_nil]; decide, okRefOverlap0 _ _ hq⟩
  · cases hF
theorem sndAnchor04 : Sound Tryd.prog (lookΓ gamAnchor04) := sound_of _ fun p hp => by
  simp only [gamAnchor04, List.mem_cons, List.not_mem_nil, or_false] at hp
  rcases hp with rfl | rfl
  · exact meetsNormal.orNil
  · exact meetsOverlap.orNil
theorem meetsAnchor04 : Meets Tryd.prog 15 anchor04F := by
  refine meets_of_awp (Γ := lookΓ gamAnchor04) (L := fun args => match args with | [] => lpAnchor040 | _ => fun _ => none) sndAnchor04 mixedOrders Tryd.func15 rfl Tryd.call15 ?_
  intro args q r hF hq ho
  unfold anchor04F at hF
  split at hF
  · cases hF
    exact ⟨by simp only [List.length_cons, List.length_nil]; decide, okAnchor040 hq⟩
  · cases hF
theorem sndLawNormal : Sound Tryd.prog (lookΓ gamLawNormal) := sound_of _ fun p hp => by
  simp only [gamLawNormal, List.mem_cons, List.not_mem_nil, or_false] at hp
  rcases hp with rfl | rfl | rfl | rfl | rfl | rfl
  · exact meetsAnchor04.orNil
  · exact meetsNormal.orNil
  · exact meetsRefNormal.orNil
  · exact meetsRight.orNil
  · exact meetsRefRight.orNil
  · exact meetsParts.orNil
theorem meetsLawNormal : Meets Tryd.prog 5 lawNormalF := by
  refine meets_of_awp (Γ := lookΓ gamLawNormal) (L := fun args => match args with | [.val (.str s)] => lpLawNormal0 s | _ => fun _ => none) sndLawNormal mixedOrders Tryd.func5 rfl Tryd.call5 ?_
  intro args q r hF hq ho
  unfold lawNormalF at hF
  split at hF
  · cases hF
    exact ⟨by simp only [List.length_cons, List.length_nil]; decide, okLawNormal0 _ hq⟩
  · cases hF
theorem sndLawOverlaps : Sound Tryd.prog (lookΓ gamLawOverlaps) := sound_of _ fun p hp => by
  simp only [gamLawOverlaps, List.mem_cons, List.not_mem_nil, or_false] at hp
  rcases hp with rfl | rfl | rfl | rfl
  · exact meetsAnchor04.orNil
  · exact meetsRefAbove.orNil
  · exact meetsAbove.orNil
  · exact meetsOverlap.orNil
theorem meetsLawOverlaps : Meets Tryd.prog 3 lawOverlapsF := by
  refine meets_of_awp (Γ := lookΓ gamLawOverlaps) (L := fun args => match args with | [.val (.str p), .val (.str q)] => lpLawOverlaps0 p q | _ => fun _ => none) sndLawOverlaps mixedOrders Tryd.func3 rfl Tryd.call3 ?_
  intro args q r hF hq ho
  unfold lawOverlapsF at hF
  split at hF
  · cases hF
    exact ⟨by simp only [List.length_cons, List.length_nil]; decide, okLawOverlaps0 _ _ hq⟩
  · cases hF
theorem sndLawAbove : Sound Tryd.prog (lookΓ gamLawAbove) := sound_of _ fun p hp => by
  simp only [gamLawAbove, List.mem_cons, List.not_mem_nil, or_false] at hp
  rcases hp with rfl | rfl | rfl
  · exact meetsAnchor04.orNil
  · exact meetsAbove.orNil
  · exact meetsOverlap.orNil
theorem meetsLawAbove : Meets Tryd.prog 4 lawAboveF := by
  refine meets_of_awp (Γ := lookΓ gamLawAbove) (L := fun args => match args with | [.val (.str p), .val (.str q), .val (.str r)] => lpLawAbove0 p q r | _ => fun _ => none) sndLawAbove mixedOrders Tryd.func4 rfl Tryd.call4 ?_
  intro args q r hF hq ho
  unfold lawAboveF at hF
  split at hF
  · cases hF
    exact ⟨by simp only [List.length_cons, List.length_nil]; decide, okLawAbove0 _ _ _ hq⟩
  · cases hF
end Go.Proofs.YtabeffcdklcdeaaDoor
