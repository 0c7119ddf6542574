/- Attributes: every function's contract. -/
import Derived.Test.YtnhfjdbnkpbbkabLaxAttrB
namespace Go.Proofs.Ytnhfjdbnkpbbkab
set_option linter.unusedVariables false
set_option linter.unusedSimpArgs false
open Go.RowKit

theorem mixed : Try.prog.follows .mixedOrders = true := by kernel_rfl

theorem meetsRightId : Meets Try.prog 28 rightIdF := by
  refine meets_of_awp (Γ := lookΓ []) (L := fun _ _ => none) (sound_of [] (by simp)) mixed Try.func28 rfl Try.call28 ?_
  intro args q r hF hq ho
  unfold rightIdF at hF
  split at hF
  · cases hF
    exact ⟨by simp only [List.length_cons, List.length_nil]; decide, okRightId _ _⟩
  · cases hF
theorem meetsRightA : Meets Try.prog 14 rightAF := by
  refine meets_of_awp (Γ := lookΓ []) (L := fun args b => bif Nat.beq b 0 then (match args with | [.val (.agg [.int .i64 s, .int .i64 d0, .int .i64 d1, .int .i64 d2, .int .i64 d3, .int .i64 d4, .int .i64 d5, .int .i64 d6])] => some (loopRightA s d0 d1 d2 d3 d4 d5 d6) | _ => none) else none) (sound_of [] (by simp)) mixed Try.func14 rfl Try.call14 ?_
  intro args q r hF hq ho
  unfold rightAF at hF
  split at hF
  · cases hF
    exact ⟨by simp only [List.length_cons, List.length_nil]; decide, okRightA _ _ _ _ _ _ _ _⟩
  · cases hF
theorem attr_s1 : Sound Try.prog (lookΓ attrL1) := sound_of _ fun p hp => by
  simp only [attrL1, List.mem_cons, List.not_mem_nil, or_false] at hp
  rcases hp with rfl | rfl
  · exact meetsRightId
  · exact meetsRightA
theorem meetsCovers : Meets Try.prog 16 coversF := by
  refine meets_of_awp (Γ := lookΓ attrL1) (L := fun _ _ => none) attr_s1 mixed Try.func16 rfl Try.call16 ?_
  intro args q r hF hq ho
  unfold coversF at hF
  split at hF
  · cases hF
    exact ⟨by simp only [List.length_cons, List.length_nil]; decide, okCovers _ _ _ _ _ _ _ _ _ _⟩
  · cases hF
theorem meetsOwn : Meets Try.prog 42 ownF := by
  refine meets_of_awp (Γ := lookΓ attrL1) (L := fun _ _ => none) attr_s1 mixed Try.func42 rfl Try.call42 ?_
  intro args q r hF hq ho
  unfold ownF at hF
  split at hF
  · cases hF
    exact ⟨by simp only [List.length_cons, List.length_nil]; decide, okOwn _ _ _ _ _ _ _ _ _ _⟩
  · cases hF
theorem attr_s2 : Sound Try.prog (lookΓ attrL2) := sound_of _ fun p hp => by
  simp only [attrL2, attrL1, List.mem_cons, List.not_mem_nil, or_false] at hp
  rcases hp with rfl | rfl | rfl | rfl
  · exact meetsCovers
  · exact meetsOwn
  · exact meetsRightId
  · exact meetsRightA
theorem meetsOwns : Meets Try.prog 32 ownsF := by
  refine meets_of_awp (Γ := lookΓ attrL2) (L := fun _ _ => none) attr_s2 mixed Try.func32 rfl Try.call32 ?_
  intro args q r hF hq ho
  unfold ownsF at hF
  split at hF
  · cases hF
    exact ⟨by simp only [List.length_cons, List.length_nil]; decide, okOwns _ _ _ _ _ _ _ _ _ _⟩
  · cases hF
theorem attr_s3 : Sound Try.prog (lookΓ attrL3) := sound_of _ fun p hp => by
  simp only [attrL3, attrL2, attrL1, List.mem_cons, List.not_mem_nil, or_false] at hp
  rcases hp with rfl | rfl | rfl | rfl | rfl
  · exact meetsOwns
  · exact meetsCovers
  · exact meetsOwn
  · exact meetsRightId
  · exact meetsRightA
theorem meetsAnchor : Meets Try.prog 9 trueF0 := by
  refine meets_of_awp (Γ := lookΓ attrL3) (L := fun _ _ => none) attr_s3 mixed Try.func9 rfl Try.call9 ?_
  intro args q r hF hq ho
  unfold trueF0 at hF
  split at hF
  · cases hF
    exact ⟨by simp, okAnchor⟩
  · cases hF
theorem attr_s4 : Sound Try.prog (lookΓ attrL4) := sound_of _ fun p hp => by
  simp only [attrL4, attrL3, attrL2, attrL1, List.mem_cons, List.not_mem_nil, or_false] at hp
  rcases hp with rfl | rfl | rfl | rfl | rfl | rfl
  · exact meetsAnchor
  · exact meetsOwns
  · exact meetsCovers
  · exact meetsOwn
  · exact meetsRightId
  · exact meetsRightA
end Go.Proofs.Ytnhfjdbnkpbbkab
