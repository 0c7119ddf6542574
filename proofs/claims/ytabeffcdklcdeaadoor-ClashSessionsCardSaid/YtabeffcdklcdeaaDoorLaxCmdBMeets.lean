/- The contracts are met. -/
import Derived.Test.YtabeffcdklcdeaaDoorLaxCmdBOk
namespace Go.Proofs.YtabeffcdklcdeaaDoor
set_option linter.unusedVariables false
set_option linter.unusedSimpArgs false
open Go.RowKit
theorem sndHas07 : Sound Tryd.prog (lookΓ gamHas07) := sound_of _ fun p hp => by
  simp [gamHas07] at hp
theorem meetsHas07 : Meets Tryd.prog 67 has07F := by
  refine meets_of_awp (Γ := lookΓ gamHas07) (L := fun args => match args with | [] => lpHas070 | _ => fun _ => none) sndHas07 mixedOrders Tryd.func67 rfl Tryd.call67 ?_
  intro args q r hF hq ho
  unfold has07F at hF
  split at hF
  · cases hF
    exact ⟨by simp only [List.length_cons, List.length_nil]; decide, okHas070 hq⟩
  · cases hF
theorem sndRrightO : Sound Tryd.prog (lookΓ gamRrightO) := sound_of _ fun p hp => by
  simp [gamRrightO] at hp
theorem meetsRrightO : Meets Tryd.prog 40 rrightOF := by
  refine meets_of_awp (Γ := lookΓ gamRrightO) (L := fun args => match args with | [.val (.agg [.int .i64 k, .int .u64 num, .str foot, .int .u64 rq, .str path, .int .i64 mode, .int .u64 n, .int .i64 time])] => lpRrightO0 k num foot rq path mode n time | _ => fun _ => none) sndRrightO mixedOrders Tryd.func40 rfl Tryd.call40 ?_
  intro args q r hF hq ho
  unfold rrightOF at hF
  split at hF
  · cases hF
    exact ⟨by simp only [List.length_cons, List.length_nil]; decide, okRrightO0 _ _ _ _ _ _ _ _ hq⟩
  · cases hF
theorem sndRrightI : Sound Tryd.prog (lookΓ gamRrightI) := sound_of _ fun p hp => by
  simp only [gamRrightI, List.mem_cons, List.not_mem_nil, or_false] at hp
  rcases hp with rfl | rfl
  · exact meetsHas07.orNil
  · exact meetsRefRight.orNil
theorem meetsRrightI : Meets Tryd.prog 40 rrightIF := by
  refine meets_of_awp (Γ := lookΓ gamRrightI) (L := fun args => match args with | [.val (.agg [.int .i64 k, .int .u64 num, .str foot, .int .u64 rq, .str path, .int .i64 mode, .int .u64 n, .int .i64 time])] => lpRrightI0 k num foot rq path mode n time | _ => fun _ => none) sndRrightI mixedOrders Tryd.func40 rfl Tryd.call40 ?_
  intro args q r hF hq ho
  unfold rrightIF at hF
  split at hF
  · cases hF
    exact ⟨by simp only [List.length_cons, List.length_nil]; decide, okRrightI0 _ _ _ _ _ _ _ _ hq⟩
  · cases hF
end Go.Proofs.YtabeffcdklcdeaaDoor
