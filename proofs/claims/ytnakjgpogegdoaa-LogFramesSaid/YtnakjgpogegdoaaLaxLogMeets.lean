/- The contracts are met. -/
import Derived.Test.YtnakjgpogegdoaaLaxLogOk
namespace Go.Proofs.Ytnakjgpogegdoaa
set_option linter.unusedVariables false
set_option linter.unusedSimpArgs false
open Go.RowKit
theorem sndEqual : Sound Try.prog (lookΓ gamEqual) := sound_of _ fun p hp => by
  simp [gamEqual] at hp
theorem meetsEqual : Meets Try.prog 59 equalF := by
  refine meets_of_awp (Γ := lookΓ gamEqual) (L := fun args => match args with | [.val (.sl xs .no), .val (.sl ys .no)] => lpEqual0 xs ys | _ => fun _ => none) sndEqual mixedOrders Try.func59 rfl Try.call59 ?_
  intro args q r hF hq ho
  unfold equalF at hF
  split at hF
  · cases hF
    exact ⟨by simp only [List.length_cons, List.length_nil]; decide, okEqual0 _ _ hq⟩
  · cases hF
theorem sndSeal : Sound Try.prog (lookΓ gamSeal) := sound_of _ fun p hp => by
  simp only [gamSeal, List.mem_cons, List.not_mem_nil, or_false] at hp
  rcases hp with rfl | rfl | rfl
  · exact meetsClone.orNil
  · exact meetsSumOf.orNil
  · exact meetsTail.orNil
theorem meetsSeal : Meets Try.prog 43 sealF := by
  refine meets_of_awp (Γ := lookΓ gamSeal) (L := fun args => match args with | [.val (.sl xs .no)] => lpSeal0 xs | _ => fun _ => none) sndSeal mixedOrders Try.func43 rfl Try.call43 ?_
  intro args q r hF hq ho
  unfold sealF at hF
  split at hF
  · cases hF
    exact ⟨by simp only [List.length_cons, List.length_nil]; decide, okSeal0 _ hq⟩
  · cases hF
theorem sndOpen : Sound Try.prog (lookΓ gamOpen) := sound_of _ fun p hp => by
  simp only [gamOpen, List.mem_cons, List.not_mem_nil, or_false] at hp
  rcases hp with rfl | rfl | rfl | rfl
  · exact meetsClone.orNil
  · exact meetsSumOf.orNil
  · exact meetsTail.orNil
  · exact meetsEqual.orNil
theorem meetsOpen : Meets Try.prog 55 openF := by
  refine meets_of_awp (Γ := lookΓ gamOpen) (L := fun args => match args with | [.val (.sl xs .no)] => lpOpen0 xs | _ => fun _ => none) sndOpen mixedOrders Try.func55 rfl Try.call55 ?_
  intro args q r hF hq ho
  unfold openF at hF
  split at hF
  · cases hF
    exact ⟨by simp only [List.length_cons, List.length_nil]; decide, okOpen0 _ hq⟩
  · cases hF
theorem sndSize : Sound Try.prog (lookΓ gamSize) := sound_of _ fun p hp => by
  simp only [gamSize, List.mem_cons, List.not_mem_nil, or_false] at hp
  subst hp
  exact meetsNumShort.orNil
theorem meetsSize : Meets Try.prog 26 sizeF := by
  refine meets_of_awp (Γ := lookΓ gamSize) (L := fun args => match args with | [.val (.sl xs .no)] => lpSize0 xs | _ => fun _ => none) sndSize mixedOrders Try.func26 rfl Try.call26 ?_
  intro args q r hF hq ho
  unfold sizeF at hF
  split at hF
  · cases hF
    exact ⟨by simp only [List.length_cons, List.length_nil]; decide, okSize0 _ hq⟩
  · cases hF
theorem sndConcat2 : Sound Try.prog (lookΓ gamConcat2) := sound_of _ fun p hp => by
  simp only [gamConcat2, List.mem_cons, List.not_mem_nil, or_false] at hp
  subst hp
  exact meetsGrow.orNil
theorem meetsConcat2 : Meets Try.prog 41 concat2F := by
  refine meets_of_awp (Γ := lookΓ gamConcat2) (L := fun args => match args with | [.val (.sl [.sl xs .no, .sl ys .no] .no)] => lpConcat20 xs ys | _ => fun _ => none) sndConcat2 mixedOrders Try.func41 rfl Try.call41 ?_
  intro args q r hF hq ho
  unfold concat2F at hF
  split at hF
  · cases hF
    exact ⟨by simp only [List.length_cons, List.length_nil]; decide, okConcat20 _ _ hq⟩
  · cases hF
theorem sndFrame : Sound Try.prog (lookΓ gamFrame) := sound_of _ fun p hp => by
  simp only [gamFrame, List.mem_cons, List.not_mem_nil, or_false] at hp
  rcases hp with rfl | rfl | rfl
  · exact meetsNumShort.orNil
  · exact meetsSeal.orNil
  · exact meetsConcat2.orNil
theorem meetsFrame : Meets Try.prog 25 frameF := by
  refine meets_of_awp (Γ := lookΓ gamFrame) (L := fun args => match args with | [.val (.sl xs .no)] => lpFrame0 xs | _ => fun _ => none) sndFrame mixedOrders Try.func25 rfl Try.call25 ?_
  intro args q r hF hq ho
  unfold frameF at hF
  split at hF
  · cases hF
    exact ⟨by simp only [List.length_cons, List.length_nil]; decide, okFrame0 _ hq⟩
  · cases hF
theorem sndRefFrame : Sound Try.prog (lookΓ gamRefFrame) := sound_of _ fun p hp => by
  simp only [gamRefFrame, List.mem_cons, List.not_mem_nil, or_false] at hp
  rcases hp with rfl | rfl
  · exact meetsRefShort.orNil
  · exact meetsRefOf.orNil
theorem meetsRefFrame : Meets Try.prog 27 refFrameF := by
  refine meets_of_awp (Γ := lookΓ gamRefFrame) (L := fun args => match args with | [.val (.sl xs .no)] => lpRefFrame0 xs | _ => fun _ => none) sndRefFrame mixedOrders Try.func27 rfl Try.call27 ?_
  intro args q r hF hq ho
  unfold refFrameF at hF
  split at hF
  · cases hF
    exact ⟨by simp only [List.length_cons, List.length_nil]; decide, okRefFrame0 _ hq⟩
  · cases hF
theorem sndAnchor14 : Sound Try.prog (lookΓ gamAnchor14) := sound_of _ fun p hp => by
  simp only [gamAnchor14, List.mem_cons, List.not_mem_nil, or_false] at hp
  subst hp
  exact meetsFrame.orNil
theorem meetsAnchor14 : Meets Try.prog 24 anchor14F := by
  refine meets_of_awp (Γ := lookΓ gamAnchor14) (L := fun args => match args with | [] => lpAnchor140 | _ => fun _ => none) sndAnchor14 mixedOrders Try.func24 rfl Try.call24 ?_
  intro args q r hF hq ho
  unfold anchor14F at hF
  split at hF
  · cases hF
    exact ⟨by simp only [List.length_cons, List.length_nil]; decide, okAnchor140 hq⟩
  · cases hF
theorem sndLawFrames : Sound Try.prog (lookΓ gamLawFrames) := sound_of _ fun p hp => by
  simp only [gamLawFrames, List.mem_cons, List.not_mem_nil, or_false] at hp
  rcases hp with rfl | rfl | rfl | rfl | rfl
  · exact meetsAnchor14.orNil
  · exact meetsFrame.orNil
  · exact meetsSize.orNil
  · exact meetsRefFrame.orNil
  · exact meetsSameB.orNil
theorem meetsLawFrames : Meets Try.prog 5 lawFramesF := by
  refine meets_of_awp (Γ := lookΓ gamLawFrames) (L := fun args => match args with | [.val (.sl xs .no)] => lpLawFrames0 xs | _ => fun _ => none) sndLawFrames mixedOrders Try.func5 rfl Try.call5 ?_
  intro args q r hF hq ho
  unfold lawFramesF at hF
  split at hF
  · cases hF
    exact ⟨by simp only [List.length_cons, List.length_nil]; decide, okLawFrames0 _ hq⟩
  · cases hF
end Go.Proofs.Ytnakjgpogegdoaa
