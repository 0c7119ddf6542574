/- The contracts are met. -/
import Derived.Test.YtledoikeaidlfaaLaxPutsOk
namespace Go.Proofs.Ytledoikeaidlfaa
set_option linter.unusedVariables false
set_option linter.unusedSimpArgs false
open Go.RowKit
theorem sndSame : Sound Try.prog (lookΓ gamSame) := sound_of _ fun p hp => by
  simp [gamSame] at hp
theorem meetsSame : Meets Try.prog 39 sameF := by
  refine meets_of_awp (Γ := lookΓ gamSame) (L := fun args => match args with | [.val (.sl xs .no), .val (.sl ys .no)] => lpSame0 xs ys | _ => fun _ => none) sndSame mixedOrders Try.func39 rfl Try.call39 ?_
  intro args q r hF hq ho
  unfold sameF at hF
  split at hF
  · cases hF
    exact ⟨by simp only [List.length_cons, List.length_nil]; decide, okSame0 _ _ hq⟩
  · cases hF
theorem sndLawPuts : Sound Try.prog (lookΓ gamLawPuts) := sound_of _ fun p hp => by
  simp only [gamLawPuts, List.mem_cons, List.not_mem_nil, or_false] at hp
  rcases hp with rfl | rfl | rfl | rfl | rfl | rfl | rfl | rfl | rfl | rfl | rfl | rfl | rfl | rfl | rfl
  · exact meetsAnchor3
  · exact meetsOutByte
  · exact meetsOutTruth
  · exact meetsOutShort
  · exact meetsOutFixed
  · exact meetsOutText
  · exact meetsOutBytes
  · exact meetsNewIn
  · exact meetsInByte
  · exact meetsInTruth
  · exact meetsInShort
  · exact meetsInFixed
  · exact meetsInText
  · exact meetsInEnd
  · exact meetsSame
theorem meetsLawPuts : Meets Try.prog 6 lawPutsF := by
  refine meets_of_awp (Γ := lookΓ gamLawPuts) (L := fun args => match args with | [.val (.sl ops .no)] => lpLawPuts0 ops | _ => fun _ => none) sndLawPuts mixedOrders Try.func6 rfl Try.call6 ?_
  intro args q r hF hq ho
  unfold lawPutsF at hF
  split at hF
  · cases hF
    exact ⟨by simp only [List.length_cons, List.length_nil]; decide, okLawPuts0 _ hq⟩
  · cases hF
end Go.Proofs.Ytledoikeaidlfaa
