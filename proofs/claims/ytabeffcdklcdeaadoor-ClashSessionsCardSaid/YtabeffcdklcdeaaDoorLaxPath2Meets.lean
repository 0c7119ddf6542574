/- The contracts are met. -/
import Derived.Test.YtabeffcdklcdeaaDoorLaxPath2Ok
namespace Go.Proofs.YtabeffcdklcdeaaDoor
set_option linter.unusedVariables false
set_option linter.unusedSimpArgs false
open Go.RowKit
theorem sndIsNaN : Sound Tryd.prog (lookΓ gamIsNaN) := sound_of _ fun p hp => by
  simp [gamIsNaN] at hp
theorem meetsIsNaN : Meets Tryd.prog 101 isNaNF := by
  refine meets_of_awp (Γ := lookΓ gamIsNaN) (L := fun args => match args with | [.val (.str x)] => lpIsNaN0 x | _ => fun _ => none) sndIsNaN mixedOrders Tryd.func101 rfl Tryd.call101 ?_
  intro args q r hF hq ho
  unfold isNaNF at hF
  split at hF
  · cases hF
    exact ⟨by simp only [List.length_cons, List.length_nil]; decide, okIsNaN0 _ hq⟩
  · cases hF
theorem sndCmpStr : Sound Tryd.prog (lookΓ gamCmpStr) := sound_of _ fun p hp => by
  simp only [gamCmpStr, List.mem_cons, List.not_mem_nil, or_false] at hp
  subst hp
  exact meetsIsNaN.orNil
theorem meetsCmpStr : Meets Tryd.prog 82 cmpStrF := by
  refine meets_of_awp (Γ := lookΓ gamCmpStr) (L := fun args => match args with | [.val (.str x), .val (.str y)] => lpCmpStr0 x y | _ => fun _ => none) sndCmpStr mixedOrders Tryd.func82 rfl Tryd.call82 ?_
  intro args q r hF hq ho
  unfold cmpStrF at hF
  split at hF
  · cases hF
    exact ⟨by simp only [List.length_cons, List.length_nil]; decide, okCmpStr0 _ _ hq⟩
  · cases hF
theorem sndCmpSl : Sound Tryd.prog (lookΓ gamCmpSl) := sound_of _ fun p hp => by
  simp only [gamCmpSl, List.mem_cons, List.not_mem_nil, or_false] at hp
  subst hp
  exact meetsCmpStr.orNil
theorem meetsCmpSl : Meets Tryd.prog 58 cmpSlF := by
  refine meets_of_awp (Γ := lookΓ gamCmpSl) (L := fun args => match args with | [.val (.sl xs .no), .val (.sl ys .no)] => lpCmpSl0 xs ys | _ => fun _ => none) sndCmpSl mixedOrders Tryd.func58 rfl Tryd.call58 ?_
  intro args q r hF hq ho
  unfold cmpSlF at hF
  split at hF
  · cases hF
    exact ⟨by simp only [List.length_cons, List.length_nil]; decide, okCmpSl0 _ _ hq⟩
  · cases hF
theorem sndComparep : Sound Tryd.prog (lookΓ gamComparep) := sound_of _ fun p hp => by
  simp only [gamComparep, List.mem_cons, List.not_mem_nil, or_false] at hp
  rcases hp with rfl | rfl | rfl
  · exact meetsParts.orNil
  · exact meetsCompare.orNil
  · exact meetsCmpSl.orNil
theorem meetsComparep : Meets Tryd.prog 24 comparepF := by
  refine meets_of_awp (Γ := lookΓ gamComparep) (L := fun args => match args with | [.val (.str p), .val (.str q)] => lpComparep0 p q | _ => fun _ => none) sndComparep mixedOrders Tryd.func24 rfl Tryd.call24 ?_
  intro args q r hF hq ho
  unfold comparepF at hF
  split at hF
  · cases hF
    exact ⟨by simp only [List.length_cons, List.length_nil]; decide, okComparep0 _ _ hq⟩
  · cases hF
theorem sndParent : Sound Tryd.prog (lookΓ gamParent) := sound_of _ fun p hp => by
  simp only [gamParent, List.mem_cons, List.not_mem_nil, or_false] at hp
  rcases hp with rfl | rfl
  · exact meetsLastIndex.orNil
  · exact meetsRight.orNil
theorem meetsParent : Meets Tryd.prog 25 parentF := by
  refine meets_of_awp (Γ := lookΓ gamParent) (L := fun args => match args with | [.val (.str p)] => lpParent0 p | _ => fun _ => none) sndParent mixedOrders Tryd.func25 rfl Tryd.call25 ?_
  intro args q r hF hq ho
  unfold parentF at hF
  split at hF
  · cases hF
    exact ⟨by simp only [List.length_cons, List.length_nil]; decide, okParent0 _ hq⟩
  · cases hF
theorem sndCommon : Sound Tryd.prog (lookΓ gamCommon) := sound_of _ fun p hp => by
  simp only [gamCommon, List.mem_cons, List.not_mem_nil, or_false] at hp
  rcases hp with rfl | rfl
  · exact meetsParts.orNil
  · exact meetsJoin.orNil
theorem meetsCommon : Meets Tryd.prog 28 commonF := by
  refine meets_of_awp (Γ := lookΓ gamCommon) (L := fun args => match args with | [.val (.str p), .val (.str q)] => lpCommon0 p q | _ => fun _ => none) sndCommon mixedOrders Tryd.func28 rfl Tryd.call28 ?_
  intro args q r hF hq ho
  unfold commonF at hF
  split at hF
  · cases hF
    exact ⟨by simp only [List.length_cons, List.length_nil]; decide, okCommon0 _ _ hq⟩
  · cases hF
theorem sndDepth : Sound Tryd.prog (lookΓ gamDepth) := sound_of _ fun p hp => by
  simp only [gamDepth, List.mem_cons, List.not_mem_nil, or_false] at hp
  subst hp
  exact meetsParts.orNil
theorem meetsDepth : Meets Tryd.prog 26 depthF := by
  refine meets_of_awp (Γ := lookΓ gamDepth) (L := fun args => match args with | [.val (.str p)] => lpDepth0 p | _ => fun _ => none) sndDepth mixedOrders Tryd.func26 rfl Tryd.call26 ?_
  intro args q r hF hq ho
  unfold depthF at hF
  split at hF
  · cases hF
    exact ⟨by simp only [List.length_cons, List.length_nil]; decide, okDepth0 _ hq⟩
  · cases hF
theorem sndLawParents : Sound Tryd.prog (lookΓ gamLawParents) := sound_of _ fun p hp => by
  simp only [gamLawParents, List.mem_cons, List.not_mem_nil, or_false] at hp
  rcases hp with rfl | rfl | rfl | rfl | rfl | rfl
  · exact meetsAnchor04.orNil
  · exact meetsParent.orNil
  · exact meetsParts.orNil
  · exact meetsRefJoin.orNil
  · exact meetsAbove.orNil
  · exact meetsCommon.orNil
theorem meetsLawParents : Meets Tryd.prog 8 lawParentsF := by
  refine meets_of_awp (Γ := lookΓ gamLawParents) (L := fun args => match args with | [.val (.str p), .val (.str q)] => lpLawParents0 p q | _ => fun _ => none) sndLawParents mixedOrders Tryd.func8 rfl Tryd.call8 ?_
  intro args q r hF hq ho
  unfold lawParentsF at hF
  split at hF
  · cases hF
    exact ⟨by simp only [List.length_cons, List.length_nil]; decide, okLawParents0 _ _ hq⟩
  · cases hF
theorem sndLawOrder : Sound Tryd.prog (lookΓ gamLawOrder) := sound_of _ fun p hp => by
  simp only [gamLawOrder, List.mem_cons, List.not_mem_nil, or_false] at hp
  rcases hp with rfl | rfl | rfl | rfl
  · exact meetsAnchor04.orNil
  · exact meetsComparep.orNil
  · exact meetsAbove.orNil
  · exact meetsRight.orNil
theorem meetsLawOrder : Meets Tryd.prog 6 lawOrderF := by
  refine meets_of_awp (Γ := lookΓ gamLawOrder) (L := fun args => match args with | [.val (.str p), .val (.str q), .val (.str r)] => lpLawOrder0 p q r | _ => fun _ => none) sndLawOrder mixedOrders Tryd.func6 rfl Tryd.call6 ?_
  intro args q r hF hq ho
  unfold lawOrderF at hF
  split at hF
  · cases hF
    exact ⟨by simp only [List.length_cons, List.length_nil]; decide, okLawOrder0 _ _ _ hq⟩
  · cases hF
theorem sndLawJoins : Sound Tryd.prog (lookΓ gamLawJoins) := sound_of _ fun p hp => by
  simp only [gamLawJoins, List.mem_cons, List.not_mem_nil, or_false] at hp
  rcases hp with rfl | rfl | rfl | rfl | rfl | rfl
  · exact meetsAnchor04.orNil
  · exact meetsRefRight.orNil
  · exact meetsNormal.orNil
  · exact meetsParent.orNil
  · exact meetsAbove.orNil
  · exact meetsDepth.orNil
theorem meetsLawJoins : Meets Tryd.prog 7 lawJoinsF := by
  refine meets_of_awp (Γ := lookΓ gamLawJoins) (L := fun args => match args with | [.val (.str p), .val (.str q)] => lpLawJoins0 p q | _ => fun _ => none) sndLawJoins mixedOrders Tryd.func7 rfl Tryd.call7 ?_
  intro args q r hF hq ho
  unfold lawJoinsF at hF
  split at hF
  · cases hF
    exact ⟨by simp only [List.length_cons, List.length_nil]; decide, okLawJoins0 _ _ hq⟩
  · cases hF
end Go.Proofs.YtabeffcdklcdeaaDoor
