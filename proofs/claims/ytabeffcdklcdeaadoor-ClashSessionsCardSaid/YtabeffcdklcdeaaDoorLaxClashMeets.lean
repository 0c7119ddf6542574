/- The contracts are met. -/
import Derived.Test.YtabeffcdklcdeaaDoorLaxClashOk
namespace Go.Proofs.YtabeffcdklcdeaaDoor
set_option linter.unusedVariables false
set_option linter.unusedSimpArgs false
open Go.RowKit
theorem sndRfoot : Sound Tryd.prog (lookΓ gamRfoot) := sound_of _ fun p hp => by
  simp only [gamRfoot, List.mem_cons, List.not_mem_nil, or_false] at hp
  rcases hp with rfl | rfl
  · exact meetsHas07.orNil
  · exact meetsRright.orNil
theorem meetsRfoot : Meets Tryd.prog 41 rfootF := by
  refine meets_of_awp (Γ := lookΓ gamRfoot) (L := fun args => match args with | [.val (.agg [.int .i64 k, .int .u64 num, .str foot, .int .u64 rq, .str path, .int .i64 mode, .int .u64 n, .int .i64 time])] => lpRfoot0 k num foot rq path mode n time | _ => fun _ => none) sndRfoot mixedOrders Tryd.func41 rfl Tryd.call41 ?_
  intro args q r hF hq ho
  unfold rfootF at hF
  split at hF
  · cases hF
    exact ⟨by simp only [List.length_cons, List.length_nil]; decide, okRfoot0 _ _ _ _ _ _ _ _ hq⟩
  · cases hF
theorem sndRclash : Sound Tryd.prog (lookΓ gamRclash) := sound_of _ fun p hp => by
  simp only [gamRclash, List.mem_cons, List.not_mem_nil, or_false] at hp
  rcases hp with rfl | rfl
  · exact meetsRfoot.orNil
  · exact meetsRefOverlap.orNil
theorem meetsRclash : Meets Tryd.prog 36 rclashF := by
  refine meets_of_awp (Γ := lookΓ gamRclash) (L := fun args => match args with | [.val (.agg [.int .i64 k, .int .u64 num, .str foot, .int .u64 rq, .str path, .int .i64 mode, .int .u64 n, .int .i64 time]), .val (.agg [.int .i64 k2, .int .u64 num2, .str foot2, .int .u64 rq2, .str path2, .int .i64 mode2, .int .u64 n2, .int .i64 time2])] => lpRclash0 k num foot rq path mode n time k2 num2 foot2 rq2 path2 mode2 n2 time2 | _ => fun _ => none) sndRclash mixedOrders Tryd.func36 rfl Tryd.call36 ?_
  intro args q r hF hq ho
  unfold rclashF at hF
  split at hF
  · cases hF
    exact ⟨by simp only [List.length_cons, List.length_nil]; decide, okRclash0 _ _ _ _ _ _ _ _ _ _ _ _ _ _ _ _ hq⟩
  · cases hF
theorem sndOf08 : Sound Tryd.prog (lookΓ gamOf08) := sound_of _ fun p hp => by
  simp [gamOf08] at hp
theorem meetsOf08 : Meets Tryd.prog 37 of08F := by
  refine meets_of_awp (Γ := lookΓ gamOf08) (L := fun args => match args with | [.val (.agg [.int .i64 k, .int .u64 num, .str foot, .int .u64 rq, .str path, .int .i64 mode, .int .u64 n, .int .i64 time])] => lpOf080 k num foot rq path mode n time | _ => fun _ => none) sndOf08 mixedOrders Tryd.func37 rfl Tryd.call37 ?_
  intro args q r hF hq ho
  unfold of08F at hF
  split at hF
  · cases hF
    exact ⟨by simp only [List.length_cons, List.length_nil]; decide, okOf080 _ _ _ _ _ _ _ _ hq⟩
  · cases hF
theorem sndSmall08 : Sound Tryd.prog (lookΓ gamSmall08) := sound_of _ fun p hp => by
  simp [gamSmall08] at hp
theorem meetsSmall08 : Meets Tryd.prog 35 small08F := by
  refine meets_of_awp (Γ := lookΓ gamSmall08) (L := fun args => match args with | [.val (.agg [.int .i64 k, .int .u64 num, .str foot, .int .u64 rq, .str path, .int .i64 mode, .int .u64 n, .int .i64 time])] => lpSmall080 k num foot rq path mode n time | _ => fun _ => none) sndSmall08 mixedOrders Tryd.func35 rfl Tryd.call35 ?_
  intro args q r hF hq ho
  unfold small08F at hF
  split at hF
  · cases hF
    exact ⟨by simp only [List.length_cons, List.length_nil]; decide, okSmall080 _ _ _ _ _ _ _ _ hq⟩
  · cases hF
theorem sndKeyOf : Sound Tryd.prog (lookΓ gamKeyOf) := sound_of _ fun p hp => by
  simp only [gamKeyOf, List.mem_cons, List.not_mem_nil, or_false] at hp
  subst hp
  exact meetsCfoot.orNil
theorem meetsKeyOf : Meets Tryd.prog 38 keyOfF := by
  refine meets_of_awp (Γ := lookΓ gamKeyOf) (L := fun args => match args with | [.val (.agg [.int .i64 k, .int .u64 num, .str foot, .int .u64 rq, .str path, .int .i64 mode, .int .u64 n, .int .i64 time])] => lpKeyOf0 k num foot rq path mode n time | _ => fun _ => none) sndKeyOf mixedOrders Tryd.func38 rfl Tryd.call38 ?_
  intro args q r hF hq ho
  unfold keyOfF at hF
  split at hF
  · cases hF
    exact ⟨by simp only [List.length_cons, List.length_nil]; decide, okKeyOf0 _ _ _ _ _ _ _ _ hq⟩
  · cases hF
theorem sndKeyClash : Sound Tryd.prog (lookΓ gamKeyClash) := sound_of _ fun p hp => by
  simp only [gamKeyClash, List.mem_cons, List.not_mem_nil, or_false] at hp
  subst hp
  exact meetsOverlap.orNil
theorem meetsKeyClash : Meets Tryd.prog 42 keyClashF := by
  refine meets_of_awp (Γ := lookΓ gamKeyClash) (L := fun args => match args with | [.val (.agg [.str p, .int .u64 a]), .val (.agg [.str q, .int .u64 b])] => lpKeyClash0 p a q b | _ => fun _ => none) sndKeyClash mixedOrders Tryd.func42 rfl Tryd.call42 ?_
  intro args q r hF hq ho
  unfold keyClashF at hF
  split at hF
  · cases hF
    exact ⟨by simp only [List.length_cons, List.length_nil]; decide, okKeyClash0 _ _ _ _ hq⟩
  · cases hF
theorem sndClash : Sound Tryd.prog (lookΓ gamClash) := sound_of _ fun p hp => by
  simp only [gamClash, List.mem_cons, List.not_mem_nil, or_false] at hp
  rcases hp with rfl | rfl
  · exact meetsKeyOf.orNil
  · exact meetsKeyClash.orNil
theorem meetsClash : Meets Tryd.prog 39 clashF := by
  refine meets_of_awp (Γ := lookΓ gamClash) (L := fun args => match args with | [.val (.agg [.int .i64 k, .int .u64 num, .str foot, .int .u64 rq, .str path, .int .i64 mode, .int .u64 n, .int .i64 time]), .val (.agg [.int .i64 k2, .int .u64 num2, .str foot2, .int .u64 rq2, .str path2, .int .i64 mode2, .int .u64 n2, .int .i64 time2])] => lpClash0 k num foot rq path mode n time k2 num2 foot2 rq2 path2 mode2 n2 time2 | _ => fun _ => none) sndClash mixedOrders Tryd.func39 rfl Tryd.call39 ?_
  intro args q r hF hq ho
  unfold clashF at hF
  split at hF
  · cases hF
    exact ⟨by simp only [List.length_cons, List.length_nil]; decide, okClash0 _ _ _ _ _ _ _ _ _ _ _ _ _ _ _ _ hq⟩
  · cases hF
theorem sndAnchor08 : Sound Tryd.prog (lookΓ gamAnchor08) := sound_of _ fun p hp => by
  simp only [gamAnchor08, List.mem_cons, List.not_mem_nil, or_false] at hp
  subst hp
  exact meetsClash.orNil
theorem meetsAnchor08 : Meets Tryd.prog 34 anchor08F := by
  refine meets_of_awp (Γ := lookΓ gamAnchor08) (L := fun args => match args with | [] => lpAnchor080 | _ => fun _ => none) sndAnchor08 mixedOrders Tryd.func34 rfl Tryd.call34 ?_
  intro args q r hF hq ho
  unfold anchor08F at hF
  split at hF
  · cases hF
    exact ⟨by simp only [List.length_cons, List.length_nil]; decide, okAnchor080 hq⟩
  · cases hF
theorem sndLawPairs : Sound Tryd.prog (lookΓ gamLawPairs) := sound_of _ fun p hp => by
  simp only [gamLawPairs, List.mem_cons, List.not_mem_nil, or_false] at hp
  rcases hp with rfl | rfl | rfl | rfl | rfl | rfl | rfl
  · exact meetsAnchor08.orNil
  · exact meetsSmall08.orNil
  · exact meetsOf08.orNil
  · exact meetsRclash.orNil
  · exact meetsKeyOf.orNil
  · exact meetsClash.orNil
  · exact meetsRright.orNil
theorem meetsLawPairs : Meets Tryd.prog 10 lawPairsF := by
  refine meets_of_awp (Γ := lookΓ gamLawPairs) (L := fun args => match args with | [.val (.agg [.int .i64 k, .int .u64 num, .str foot, .int .u64 rq, .str path, .int .i64 mode, .int .u64 n, .int .i64 time]), .val (.agg [.int .i64 k2, .int .u64 num2, .str foot2, .int .u64 rq2, .str path2, .int .i64 mode2, .int .u64 n2, .int .i64 time2])] => lpLawPairs0 k num foot rq path mode n time k2 num2 foot2 rq2 path2 mode2 n2 time2 | _ => fun _ => none) sndLawPairs mixedOrders Tryd.func10 rfl Tryd.call10 ?_
  intro args q r hF hq ho
  unfold lawPairsF at hF
  split at hF
  · cases hF
    exact ⟨by simp only [List.length_cons, List.length_nil]; decide, okLawPairs0 _ _ _ _ _ _ _ _ _ _ _ _ _ _ _ _ hq⟩
  · cases hF
theorem sndLawKeys : Sound Tryd.prog (lookΓ gamLawKeys) := sound_of _ fun p hp => by
  simp only [gamLawKeys, List.mem_cons, List.not_mem_nil, or_false] at hp
  rcases hp with rfl | rfl | rfl | rfl | rfl | rfl | rfl
  · exact meetsAnchor08.orNil
  · exact meetsSmall08.orNil
  · exact meetsOf08.orNil
  · exact meetsRfoot.orNil
  · exact meetsKeyOf.orNil
  · exact meetsKeyClash.orNil
  · exact meetsRefOverlap.orNil
theorem meetsLawKeys : Meets Tryd.prog 11 lawKeysF := by
  refine meets_of_awp (Γ := lookΓ gamLawKeys) (L := fun args => match args with | [.val (.agg [.int .i64 k, .int .u64 num, .str foot, .int .u64 rq, .str path, .int .i64 mode, .int .u64 n, .int .i64 time]), .val (.agg [.str p, .int .u64 a]), .val (.agg [.str q, .int .u64 b])] => lpLawKeys0 k num foot rq path mode n time p a q b | _ => fun _ => none) sndLawKeys mixedOrders Tryd.func11 rfl Tryd.call11 ?_
  intro args q r hF hq ho
  unfold lawKeysF at hF
  split at hF
  · cases hF
    exact ⟨by simp only [List.length_cons, List.length_nil]; decide, okLawKeys0 _ _ _ _ _ _ _ _ _ _ _ _ hq⟩
  · cases hF
theorem sndLawSessions : Sound Tryd.prog (lookΓ gamLawSessions) := sound_of _ fun p hp => by
  simp only [gamLawSessions, List.mem_cons, List.not_mem_nil, or_false] at hp
  rcases hp with rfl | rfl | rfl | rfl | rfl | rfl | rfl | rfl
  · exact meetsAnchor08.orNil
  · exact meetsSmall08.orNil
  · exact meetsOf08.orNil
  · exact meetsRright.orNil
  · exact meetsRefAbove.orNil
  · exact meetsRefRight.orNil
  · exact meetsRefOverlap.orNil
  · exact meetsClash.orNil
theorem meetsLawSessions : Meets Tryd.prog 12 lawSessionsF := by
  refine meets_of_awp (Γ := lookΓ gamLawSessions) (L := fun args => match args with | [.val (.agg [.int .i64 k, .int .u64 num, .str foot, .int .u64 rq, .str path, .int .i64 mode, .int .u64 n, .int .i64 time]), .val (.agg [.int .i64 k2, .int .u64 num2, .str foot2, .int .u64 rq2, .str path2, .int .i64 mode2, .int .u64 n2, .int .i64 time2])] => lpLawSessions0 k num foot rq path mode n time k2 num2 foot2 rq2 path2 mode2 n2 time2 | _ => fun _ => none) sndLawSessions mixedOrders Tryd.func12 rfl Tryd.call12 ?_
  intro args q r hF hq ho
  unfold lawSessionsF at hF
  split at hF
  · cases hF
    exact ⟨by simp only [List.length_cons, List.length_nil]; decide, okLawSessions0 _ _ _ _ _ _ _ _ _ _ _ _ _ _ _ _ hq⟩
  · cases hF
end Go.Proofs.YtabeffcdklcdeaaDoor
