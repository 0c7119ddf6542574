/- AttrMerge: the law's walk. -/
import Derived.Test.YtnhfjdbnkpbbkabLaxMerge
namespace Go.Proofs.Ytnhfjdbnkpbbkab
set_option linter.unusedVariables false
set_option linter.unusedSimpArgs false
open Go.RowKit

theorem meetsRefMerge : Meets Try.prog 11 mergeF := by
  refine meets_of_awp (Γ := lookΓ []) (L := fun args b => bif Nat.beq b 0 then (match args with | [.val (.agg [.int .i64 s, .int .i64 d0, .int .i64 d1, .int .i64 d2, .int .i64 d3, .int .i64 d4, .int .i64 d5, .int .i64 d6]), .val (.agg [.int .i64 s', .int .i64 e0, .int .i64 e1, .int .i64 e2, .int .i64 e3, .int .i64 e4, .int .i64 e5, .int .i64 e6])] => some (loopRefMerge s d0 d1 d2 d3 d4 d5 d6 s' e0 e1 e2 e3 e4 e5 e6) | _ => none) else none) (sound_of [] (by simp)) mixed Try.func11 rfl Try.call11 ?_
  intro args q r hF hq ho
  unfold mergeF at hF
  split at hF
  · cases hF
    exact ⟨by simp only [List.length_cons, List.length_nil]; decide, okRefMerge _ _ _ _ _ _ _ _ _ _ _ _ _ _ _ _⟩
  · cases hF
theorem meetsRefWithin : Meets Try.prog 13 withinF := by
  refine meets_of_awp (Γ := lookΓ []) (L := fun args b => bif Nat.beq b 0 then (match args with | [.val (.agg [.int .i64 s, .int .i64 d0, .int .i64 d1, .int .i64 d2, .int .i64 d3, .int .i64 d4, .int .i64 d5, .int .i64 d6]), .val (.agg [.int .i64 s', .int .i64 e0, .int .i64 e1, .int .i64 e2, .int .i64 e3, .int .i64 e4, .int .i64 e5, .int .i64 e6])] => some (loopRefWithin s d0 d1 d2 d3 d4 d5 d6 s' e0 e1 e2 e3 e4 e5 e6) | _ => none) else none) (sound_of [] (by simp)) mixed Try.func13 rfl Try.call13 ?_
  intro args q r hF hq ho
  unfold withinF at hF
  split at hF
  · cases hF
    exact ⟨by simp only [List.length_cons, List.length_nil]; decide, okRefWithin _ _ _ _ _ _ _ _ _ _ _ _ _ _ _ _⟩
  · cases hF
theorem meetsRefRight : Meets Try.prog 15 rightAF := by
  refine meets_of_awp (Γ := lookΓ []) (L := fun args b => bif Nat.beq b 0 then (match args with | [.val (.agg [.int .i64 s, .int .i64 d0, .int .i64 d1, .int .i64 d2, .int .i64 d3, .int .i64 d4, .int .i64 d5, .int .i64 d6])] => some (loopRefRight s d0 d1 d2 d3 d4 d5 d6) | _ => none) else none) (sound_of [] (by simp)) mixed Try.func15 rfl Try.call15 ?_
  intro args q r hF hq ho
  unfold rightAF at hF
  split at hF
  · cases hF
    exact ⟨by simp only [List.length_cons, List.length_nil]; decide, okRefRight _ _ _ _ _ _ _ _⟩
  · cases hF
theorem ref_sound : Sound Try.prog (lookΓ refL) := sound_of _ fun p hp => by
  simp only [refL, withinL, mergeL, attrL4, attrL3, attrL2, attrL1, List.mem_cons, List.not_mem_nil, or_false] at hp
  rcases hp with rfl | rfl | rfl | rfl | rfl | rfl | rfl | rfl | rfl | rfl | rfl
  · exact meetsRefMerge
  · exact meetsRefWithin
  · exact meetsRefRight
  · exact meetsWithin
  · exact meetsMerge
  · exact meetsAnchor
  · exact meetsOwns
  · exact meetsCovers
  · exact meetsOwn
  · exact meetsRightId
  · exact meetsRightA
theorem meetsLawMerge : Meets Try.prog 3 lawMergeF := by
  refine meets_of_awp (Γ := lookΓ refL) (L := fun _ _ => none) ref_sound mixed Try.func3 rfl Try.call3 ?_
  intro args q r hF hq ho
  unfold lawMergeF at hF
  split at hF
  · cases hF
    exact ⟨by simp only [List.length_cons, List.length_nil]; decide, okLawMerge _ _ _ _ _ _ _ _ _ _ _ _ _ _ _ _ _ _ _ _ _ _ _ _⟩
  · cases hF
theorem attrMerge_walk {W : World} {base : Nat} {v0 v1 v2 : Value} (h0 : Value.okWide Try.prog W .any base 24 v0) (h1 : Value.okWide Try.prog W .any base 24 v1) (h2 : Value.okWide Try.prog W .any base 24 v2) :
    Calls Try.prog 3 #[v0, v1, v2] W fun e W' => e = .returned (.bool true) ∧ Below W.heap.size W W' := by
  obtain ⟨s, d0, d1, d2, d3, d4, d5, d6, r0⟩ := flat8 h0
  obtain ⟨s', e0, e1, e2, e3, e4, e5, e6, r1⟩ := flat8 h1
  obtain ⟨s'', g0, g1, g2, g3, g4, g5, g6, r2⟩ := flat8 h2
  refine law_of_meets meetsLawMerge (l := [att s d0 d1 d2 d3 d4 d5 d6, att s' e0 e1 e2 e3 e4 e5 e6, att s'' g0 g1 g2 g3 g4 g5 g6]) rfl trivial rfl ?_
  intro i v hv
  match i, hv with
  | 0, hv =>
    obtain rfl : att s d0 d1 d2 d3 d4 d5 d6 = v := by simpa using hv
    exact ⟨_, rfl, r0 _ _ _⟩
  | 1, hv =>
    obtain rfl : att s' e0 e1 e2 e3 e4 e5 e6 = v := by simpa using hv
    exact ⟨_, rfl, r1 _ _ _⟩
  | 2, hv =>
    obtain rfl : att s'' g0 g1 g2 g3 g4 g5 g6 = v := by simpa using hv
    exact ⟨_, rfl, r2 _ _ _⟩
  | i + 3, hv => simp at hv
end Go.Proofs.Ytnhfjdbnkpbbkab
