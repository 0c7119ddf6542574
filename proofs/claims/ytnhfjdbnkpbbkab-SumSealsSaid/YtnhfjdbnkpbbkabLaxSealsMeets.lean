/- The contracts are met. -/
import Derived.Test.YtnhfjdbnkpbbkabLaxSealsOk
namespace Go.Proofs.Ytnhfjdbnkpbbkab
set_option linter.unusedVariables false
set_option linter.unusedSimpArgs false
open Go.RowKit
theorem sndSame : Sound Try.prog (lookΓ gamSame) := sound_of _ fun p hp => by
  simp [gamSame] at hp
theorem meetsSame : Meets Try.prog 19 sameF := by
  refine meets_of_awp (Γ := lookΓ gamSame) (L := fun args => match args with | [.val (.sl xs .no), .val (.sl ys .no)] => lpSame0 xs ys | _ => fun _ => none) sndSame mixedOrders Try.func19 rfl Try.call19 ?_
  intro args q r hF hq ho
  unfold sameF at hF
  split at hF
  · cases hF
    exact ⟨by simp only [List.length_cons, List.length_nil]; decide, okSame0 _ _ hq⟩
  · cases hF
theorem sndEqual : Sound Try.prog (lookΓ gamEqual) := sound_of _ fun p hp => by
  simp [gamEqual] at hp
theorem meetsEqual : Meets Try.prog 38 equalF := by
  refine meets_of_awp (Γ := lookΓ gamEqual) (L := fun args => match args with | [.val (.sl xs .no), .val (.sl ys .no)] => lpEqual0 xs ys | _ => fun _ => none) sndEqual mixedOrders Try.func38 rfl Try.call38 ?_
  intro args q r hF hq ho
  unfold equalF at hF
  split at hF
  · cases hF
    exact ⟨by simp only [List.length_cons, List.length_nil]; decide, okEqual0 _ _ hq⟩
  · cases hF
theorem sndSeal : Sound Try.prog (lookΓ gamSeal) := sound_of _ fun p hp => by
  simp only [gamSeal, List.mem_cons, List.not_mem_nil, or_false] at hp
  rcases hp with rfl | rfl | rfl
  · exact meetsClone
  · exact meetsSumOf
  · exact meetsTail
theorem meetsSeal : Meets Try.prog 24 sealF := by
  refine meets_of_awp (Γ := lookΓ gamSeal) (L := fun args => match args with | [.val (.sl xs .no)] => lpSeal0 xs | _ => fun _ => none) sndSeal mixedOrders Try.func24 rfl Try.call24 ?_
  intro args q r hF hq ho
  unfold sealF at hF
  split at hF
  · cases hF
    exact ⟨by simp only [List.length_cons, List.length_nil]; decide, okSeal0 _ hq⟩
  · cases hF
theorem sndOpen : Sound Try.prog (lookΓ gamOpen) := sound_of _ fun p hp => by
  simp only [gamOpen, List.mem_cons, List.not_mem_nil, or_false] at hp
  rcases hp with rfl | rfl | rfl | rfl
  · exact meetsClone
  · exact meetsSumOf
  · exact meetsTail
  · exact meetsEqual
theorem meetsOpen : Meets Try.prog 25 openF := by
  refine meets_of_awp (Γ := lookΓ gamOpen) (L := fun args => match args with | [.val (.sl xs .no)] => lpOpen0 xs | _ => fun _ => none) sndOpen mixedOrders Try.func25 rfl Try.call25 ?_
  intro args q r hF hq ho
  unfold openF at hF
  split at hF
  · cases hF
    exact ⟨by simp only [List.length_cons, List.length_nil]; decide, okOpen0 _ hq⟩
  · cases hF
theorem sndLawSeals : Sound Try.prog (lookΓ gamLawSeals) := sound_of _ fun p hp => by
  simp only [gamLawSeals, List.mem_cons, List.not_mem_nil, or_false] at hp
  rcases hp with rfl | rfl | rfl | rfl
  · exact meetsAnchor2
  · exact meetsSeal
  · exact meetsOpen
  · exact meetsSame
theorem meetsLawSeals : Meets Try.prog 6 lawSealsF := by
  refine meets_of_awp (Γ := lookΓ gamLawSeals) (L := fun args => match args with | [.val (.sl xs .no)] => lpLawSeals0 xs | _ => fun _ => none) sndLawSeals mixedOrders Try.func6 rfl Try.call6 ?_
  intro args q r hF hq ho
  unfold lawSealsF at hF
  split at hF
  · cases hF
    exact ⟨by simp only [List.length_cons, List.length_nil]; decide, okLawSeals0 _ hq⟩
  · cases hF
end Go.Proofs.Ytnhfjdbnkpbbkab
