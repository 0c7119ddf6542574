/- The contracts are met. -/
import Derived.Test.YtnhfjdbnkpbbkaaLaxSumsOk
namespace Go.Proofs.Ytnhfjdbnkpbbkaa
set_option linter.unusedVariables false
set_option linter.unusedSimpArgs false
open Go.RowKit
theorem sndLawSumOf : Sound Try.prog (lookΓ gamLawSumOf) := sound_of _ fun p hp => by
  simp only [gamLawSumOf, List.mem_cons, List.not_mem_nil, or_false] at hp
  rcases hp with rfl | rfl | rfl
  · exact meetsAnchor2
  · exact meetsRefOf
  · exact meetsSumOf
theorem meetsLawSumOf : Meets Try.prog 8 lawSumOfF := by
  refine meets_of_awp (Γ := lookΓ gamLawSumOf) (L := fun args => match args with | [.val (.sl xs .no), .val (.int .i64 k)] => lpLawSumOf0 xs k | _ => fun _ => none) sndLawSumOf mixedOrders Try.func8 rfl Try.call8 ?_
  intro args q r hF hq ho
  unfold lawSumOfF at hF
  split at hF
  · cases hF
    exact ⟨by simp only [List.length_cons, List.length_nil]; decide, okLawSumOf0 _ _ hq (okay_bytes (argI 0 ho rfl rfl))⟩
  · cases hF
theorem sndLawSumParts : Sound Try.prog (lookΓ gamLawSumParts) := sound_of _ fun p hp => by
  simp only [gamLawSumParts, List.mem_cons, List.not_mem_nil, or_false] at hp
  rcases hp with rfl | rfl | rfl
  · exact meetsAnchor2
  · exact meetsRefOf
  · exact meetsSumOf
theorem meetsLawSumParts : Meets Try.prog 10 lawSumPartsF := by
  refine meets_of_awp (Γ := lookΓ gamLawSumParts) (L := fun args => match args with | [.val (.sl ps .no)] => lpLawSumParts0 ps | _ => fun _ => none) sndLawSumParts mixedOrders Try.func10 rfl Try.call10 ?_
  intro args q r hF hq ho
  unfold lawSumPartsF at hF
  split at hF
  · cases hF
    exact ⟨by simp only [List.length_cons, List.length_nil]; decide, okLawSumParts0 _ hq⟩
  · cases hF
end Go.Proofs.Ytnhfjdbnkpbbkaa
