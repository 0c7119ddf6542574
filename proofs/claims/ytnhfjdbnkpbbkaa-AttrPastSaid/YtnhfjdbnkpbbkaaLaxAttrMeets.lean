/- Attributes: every function's contract. -/
import Derived.Test.YtnhfjdbnkpbbkaaLaxAttr
namespace Go.Proofs.Ytnhfjdbnkpbbkaa
set_option linter.unusedVariables false
set_option linter.unusedSimpArgs false
open Go.RowKit

theorem mixed : Try.prog.follows .mixedOrders = true := by kernel_rfl

theorem meetsRightId : Meets Try.prog 30 rightIdF := by
  refine meets_of_awp (Γ := lookΓ []) (L := fun _ _ => none) (sound_of [] (by simp)) mixed Try.func30 rfl Try.call30 ?_
  intro args q r hF hq ho
  unfold rightIdF at hF
  split at hF
  · cases hF
    exact ⟨by simp only [List.length_cons, List.length_nil]; decide, okRightId _ _⟩
  · cases hF
theorem meetsRightA : Meets Try.prog 34 rightAF := by
  refine meets_of_awp (Γ := lookΓ []) (L := fun args b => bif Nat.beq b 0 then (match args with | [.val (.agg [.int .i64 s, .int .i64 d0, .int .i64 d1, .int .i64 d2, .int .i64 d3, .int .i64 d4, .int .i64 d5, .int .i64 d6])] => some (loopRightA s d0 d1 d2 d3 d4 d5 d6) | _ => none) else none) (sound_of [] (by simp)) mixed Try.func34 rfl Try.call34 ?_
  intro args q r hF hq ho
  unfold rightAF at hF
  split at hF
  · cases hF
    exact ⟨by simp only [List.length_cons, List.length_nil]; decide, okRightA _ _ _ _ _ _ _ _⟩
  · cases hF
theorem attr_s1 : Sound Try.prog (lookΓ attrL1) := sound_of _ fun p hp => by
  simp only [attrL1, List.mem_cons, List.not_mem_nil, or_false] at hp
  rcases hp with rfl | rfl
  · exact meetsRightId
  · exact meetsRightA
theorem meetsCovers : Meets Try.prog 31 coversF := by
  refine meets_of_awp (Γ := lookΓ attrL1) (L := fun _ _ => none) attr_s1 mixed Try.func31 rfl Try.call31 ?_
  intro args q r hF hq ho
  unfold coversF at hF
  split at hF
  · cases hF
    exact ⟨by simp only [List.length_cons, List.length_nil]; decide, okCovers _ _ _ _ _ _ _ _ _ _⟩
  · cases hF
theorem meetsOwn : Meets Try.prog 33 ownF := by
  refine meets_of_awp (Γ := lookΓ attrL1) (L := fun _ _ => none) attr_s1 mixed Try.func33 rfl Try.call33 ?_
  intro args q r hF hq ho
  unfold ownF at hF
  split at hF
  · cases hF
    exact ⟨by simp only [List.length_cons, List.length_nil]; decide, okOwn _ _ _ _ _ _ _ _ _ _⟩
  · cases hF
theorem attr_s2 : Sound Try.prog (lookΓ attrL2) := sound_of _ fun p hp => by
  simp only [attrL2, attrL1, List.mem_cons, List.not_mem_nil, or_false] at hp
  rcases hp with rfl | rfl | rfl | rfl
  · exact meetsCovers
  · exact meetsOwn
  · exact meetsRightId
  · exact meetsRightA
theorem meetsOwns : Meets Try.prog 32 ownsF := by
  refine meets_of_awp (Γ := lookΓ attrL2) (L := fun _ _ => none) attr_s2 mixed Try.func32 rfl Try.call32 ?_
  intro args q r hF hq ho
  unfold ownsF at hF
  split at hF
  · cases hF
    exact ⟨by simp only [List.length_cons, List.length_nil]; decide, okOwns _ _ _ _ _ _ _ _ _ _⟩
  · cases hF
theorem attr_s3 : Sound Try.prog (lookΓ attrL3) := sound_of _ fun p hp => by
  simp only [attrL3, attrL2, attrL1, List.mem_cons, List.not_mem_nil, or_false] at hp
  rcases hp with rfl | rfl | rfl | rfl | rfl
  · exact meetsOwns
  · exact meetsCovers
  · exact meetsOwn
  · exact meetsRightId
  · exact meetsRightA
theorem meetsAnchor : Meets Try.prog 29 trueF0 := by
  refine meets_of_awp (Γ := lookΓ attrL3) (L := fun _ _ => none) attr_s3 mixed Try.func29 rfl Try.call29 ?_
  intro args q r hF hq ho
  unfold trueF0 at hF
  split at hF
  · cases hF
    exact ⟨by simp, okAnchor⟩
  · cases hF
theorem attr_s4 : Sound Try.prog (lookΓ attrL4) := sound_of _ fun p hp => by
  simp only [attrL4, attrL3, attrL2, attrL1, List.mem_cons, List.not_mem_nil, or_false] at hp
  rcases hp with rfl | rfl | rfl | rfl | rfl | rfl
  · exact meetsAnchor
  · exact meetsOwns
  · exact meetsCovers
  · exact meetsOwn
  · exact meetsRightId
  · exact meetsRightA
theorem meetsLawCovers : Meets Try.prog 7 lawCoversF := by
  refine meets_of_awp (Γ := lookΓ attrL4) (L := fun _ _ => none) attr_s4 mixed Try.func7 rfl Try.call7 ?_
  intro args q r hF hq ho
  unfold lawCoversF at hF
  split at hF
  · cases hF
    exact ⟨by simp only [List.length_cons, List.length_nil]; decide, okLawCovers _ _ _ _ _ _ _ _ _ _⟩
  · cases hF

/-- the law's walk -/
theorem attrCovers_walk {W : World} {base : Nat} {v0 v1 : Value} (h0 : Value.okWide Try.prog W .any base 45 v0) (h1 : Value.okWide Try.prog W .any base 47 v1) :
    Calls Try.prog 7 #[v0, v1] W fun e W' => e = .returned (.bool true) ∧ Below W.heap.size W W' := by
  obtain ⟨l0, rfl, n0, r0⟩ := flat_ints (k := .i64) (by kernel_rfl) (ts := List.replicate 8 3) (by kernel_rfl) (by kernel_rfl) (by decide) (by kernel_rfl) h0
  obtain ⟨l1, rfl, n1, r1⟩ := flat_ints (k := .i64) (by kernel_rfl) (ts := List.replicate 2 3) (by kernel_rfl) (by kernel_rfl) (by decide) (by kernel_rfl) h1
  simp only [List.length_replicate] at n0 n1
  match l0, n0, l1, n1, r0, r1 with
  | [s, d0, d1, d2, d3, d4, d5, d6], _, [r, n], _, r0, r1 =>
    refine law_of_meets meetsLawCovers (l := [att s d0 d1 d2 d3 d4 d5 d6, idAV r n]) rfl trivial rfl ?_
    intro i v hv
    match i, hv with
    | 0, hv =>
      obtain rfl : att s d0 d1 d2 d3 d4 d5 d6 = v := by simpa using hv
      exact ⟨_, rfl, rep_flat r0⟩
    | 1, hv =>
      obtain rfl : idAV r n = v := by simpa using hv
      exact ⟨_, rfl, rep_flat r1⟩
    | i + 2, hv => simp at hv
end Go.Proofs.Ytnhfjdbnkpbbkaa
