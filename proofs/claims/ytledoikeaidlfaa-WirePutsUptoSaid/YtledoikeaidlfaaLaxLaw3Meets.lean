/- The contracts are met. -/
import Derived.Test.YtledoikeaidlfaaLaxLaw3Ok
namespace Go.Proofs.Ytledoikeaidlfaa
set_option linter.unusedVariables false
set_option linter.unusedSimpArgs false
open Go.RowKit
theorem sndRefTruth : Sound Try.prog (lookΓ gamRefTruth) := sound_of _ fun p hp => by
  simp only [gamRefTruth, List.mem_cons, List.not_mem_nil, or_false] at hp
  rcases hp with rfl | rfl
  · exact meetsRefByte
  · exact meetsRefBad
theorem meetsRefTruth : Meets Try.prog 51 refTruthF := by
  refine meets_of_awp (Γ := lookΓ gamRefTruth) (L := fun args => match args with | [.val (.agg [.sl xs .no, .int .i64 at', .int .i64 e])] => lpRefTruth0 xs at' e | _ => fun _ => none) sndRefTruth mixedOrders Try.func51 rfl Try.call51 ?_
  intro args q r hF hq ho
  unfold refTruthF at hF
  split at hF
  · cases hF
    exact ⟨by simp only [List.length_cons, List.length_nil]; decide, okRefTruth0 _ _ _ hq⟩
  · cases hF
theorem sndRefFixed : Sound Try.prog (lookΓ gamRefFixed) := sound_of _ fun p hp => by
  simp only [gamRefFixed, List.mem_cons, List.not_mem_nil, or_false] at hp
  subst hp
  exact meetsRefBad
theorem meetsRefFixed : Meets Try.prog 52 refFixedF := by
  refine meets_of_awp (Γ := lookΓ gamRefFixed) (L := fun args => match args with | [.val (.agg [.sl xs .no, .int .i64 at', .int .i64 e])] => lpRefFixed0 xs at' e | _ => fun _ => none) sndRefFixed mixedOrders Try.func52 rfl Try.call52 ?_
  intro args q r hF hq ho
  unfold refFixedF at hF
  split at hF
  · cases hF
    exact ⟨by simp only [List.length_cons, List.length_nil]; decide, okRefFixed0 _ _ _ hq (okay_bytes (argA 0 0 ho rfl rfl))⟩
  · cases hF
theorem sndRefText : Sound Try.prog (lookΓ gamRefText) := sound_of _ fun p hp => by
  simp only [gamRefText, List.mem_cons, List.not_mem_nil, or_false] at hp
  rcases hp with rfl | rfl
  · exact meetsRefShort
  · exact meetsRefBad
theorem meetsRefText : Meets Try.prog 53 refTextF := by
  refine meets_of_awp (Γ := lookΓ gamRefText) (L := fun args => match args with | [.val (.agg [.sl xs .no, .int .i64 at', .int .i64 e]), .val (.int .i64 m)] => lpRefText0 xs at' e m | _ => fun _ => none) sndRefText mixedOrders Try.func53 rfl Try.call53 ?_
  intro args q r hF hq ho
  unfold refTextF at hF
  split at hF
  · cases hF
    exact ⟨by simp only [List.length_cons, List.length_nil]; decide, okRefText0 _ _ _ _ hq (okay_bytes (argA 0 0 ho rfl rfl)) (okay_i64 (argI 1 ho rfl rfl))⟩
  · cases hF
theorem sndAnchor3 : Sound Try.prog (lookΓ gamAnchor3) := sound_of _ fun p hp => by
  simp only [gamAnchor3, List.mem_cons, List.not_mem_nil, or_false] at hp
  rcases hp with rfl | rfl | rfl
  · exact meetsOutTruth
  · exact meetsOutText
  · exact meetsOutBytes
theorem meetsAnchor3 : Meets Try.prog 25 anchor3F := by
  refine meets_of_awp (Γ := lookΓ gamAnchor3) (L := fun args => match args with | [] => lpAnchor30 | _ => fun _ => none) sndAnchor3 mixedOrders Try.func25 rfl Try.call25 ?_
  intro args q r hF hq ho
  unfold anchor3F at hF
  split at hF
  · cases hF
    exact ⟨by simp only [List.length_cons, List.length_nil]; decide, okAnchor30 hq⟩
  · cases hF
theorem sndOpTake : Sound Try.prog (lookΓ gamOpTake) := sound_of _ fun p hp => by
  simp only [gamOpTake, List.mem_cons, List.not_mem_nil, or_false] at hp
  rcases hp with rfl | rfl | rfl | rfl | rfl | rfl | rfl | rfl | rfl | rfl | rfl
  · exact meetsRefByte
  · exact meetsInByte
  · exact meetsRefTruth
  · exact meetsInTruth
  · exact meetsRefShort
  · exact meetsInShort
  · exact meetsRefFixed
  · exact meetsInFixed
  · exact meetsRefText
  · exact meetsInText
  · exact meetsInFail
theorem meetsOpTake : Meets Try.prog 26 opTakeF := by
  refine meets_of_awp (Γ := lookΓ gamOpTake) (L := fun args => match args with | [.box [.sl xs .no, .int .i64 e], .val (.agg [.sl ys .no, .int .i64 at', .int .i64 e']), .val (.agg [.int .i64 kind, .int .u64 n, .str tx])] => lpOpTake0 xs e ys at' e' kind n tx | _ => fun _ => none) sndOpTake mixedOrders Try.func26 rfl Try.call26 ?_
  intro args q r hF hq ho
  unfold opTakeF at hF
  split at hF
  · cases hF
    exact ⟨by simp only [List.length_cons, List.length_nil]; decide, okOpTake0 _ _ _ _ _ _ _ _ hq (okay_u64 (argA 2 1 ho rfl rfl))⟩
  · cases hF
theorem sndLawTakes : Sound Try.prog (lookΓ gamLawTakes) := sound_of _ fun p hp => by
  simp only [gamLawTakes, List.mem_cons, List.not_mem_nil, or_false] at hp
  rcases hp with rfl | rfl | rfl | rfl | rfl | rfl | rfl
  · exact meetsAnchor3
  · exact meetsNewIn
  · exact meetsOpTake
  · exact meetsInLeft
  · exact meetsInEnd
  · exact meetsRefEnd
  · exact meetsInFailed
theorem meetsLawTakes : Meets Try.prog 5 lawTakesF := by
  refine meets_of_awp (Γ := lookΓ gamLawTakes) (L := fun args => match args with | [.val (.sl xs .no), .val (.sl ops .no)] => lpLawTakes0 xs ops | _ => fun _ => none) sndLawTakes mixedOrders Try.func5 rfl Try.call5 ?_
  intro args q r hF hq ho
  unfold lawTakesF at hF
  split at hF
  · cases hF
    exact ⟨by simp only [List.length_cons, List.length_nil]; decide, okLawTakes0 _ _ hq⟩
  · cases hF
end Go.Proofs.Ytledoikeaidlfaa
