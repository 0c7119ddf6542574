/- The contracts are met. -/
import Derived.Test.YtabeffcdklcdeaaDoorLaxCmdAOk
namespace Go.Proofs.YtabeffcdklcdeaaDoor
set_option linter.unusedVariables false
set_option linter.unusedSimpArgs false
open Go.RowKit
theorem sndHad : Sound Tryd.prog (lookΓ gamHad) := sound_of _ fun p hp => by
  simp [gamHad] at hp
theorem meetsHad : Meets Tryd.prog 70 hadF := by
  refine meets_of_awp (Γ := lookΓ gamHad) (L := fun args => match args with | [.val (.int .i64 k)] => lpHad0 k | _ => fun _ => none) sndHad mixedOrders Tryd.func70 rfl Tryd.call70 ?_
  intro args q r hF hq ho
  unfold hadF at hF
  split at hF
  · cases hF
    exact ⟨by simp only [List.length_cons, List.length_nil]; decide, okHad0 _ hq⟩
  · cases hF
theorem sndMost : Sound Tryd.prog (lookΓ gamMost) := sound_of _ fun p hp => by
  simp [gamMost] at hp
theorem meetsMost : Meets Tryd.prog 72 mostF := by
  refine meets_of_awp (Γ := lookΓ gamMost) (L := fun args => match args with | [.val (.int .i64 k)] => lpMost0 k | _ => fun _ => none) sndMost mixedOrders Tryd.func72 rfl Tryd.call72 ?_
  intro args q r hF hq ho
  unfold mostF at hF
  split at hF
  · cases hF
    exact ⟨by simp only [List.length_cons, List.length_nil]; decide, okMost0 _ hq⟩
  · cases hF
theorem sndBare : Sound Tryd.prog (lookΓ gamBare) := sound_of _ fun p hp => by
  simp [gamBare] at hp
theorem meetsBare : Meets Tryd.prog 71 bareF := by
  refine meets_of_awp (Γ := lookΓ gamBare) (L := fun args => match args with | [.val (.agg [.int .i64 k, .int .u64 num, .str foot, .int .u64 rq, .str path, .int .i64 mode, .int .u64 n, .int .i64 time]), .val (.agg [.bool a, .bool b, .bool c, .bool d, .bool e, .bool f])] => lpBare0 k num foot rq path mode n time a b c d e f | _ => fun _ => none) sndBare mixedOrders Tryd.func71 rfl Tryd.call71 ?_
  intro args q r hF hq ho
  unfold bareF at hF
  split at hF
  · cases hF
    exact ⟨by simp only [List.length_cons, List.length_nil]; decide, okBare0 _ _ _ _ _ _ _ _ _ _ _ _ _ _ hq⟩
  · cases hF
theorem sndCright : Sound Tryd.prog (lookΓ gamCright) := sound_of _ fun p hp => by
  simp only [gamCright, List.mem_cons, List.not_mem_nil, or_false] at hp
  rcases hp with rfl | rfl | rfl | rfl
  · exact meetsHad.orNil
  · exact meetsMost.orNil
  · exact meetsBare.orNil
  · exact meetsRight.orNil
theorem meetsCright : Meets Tryd.prog 50 crightF := by
  refine meets_of_awp (Γ := lookΓ gamCright) (L := fun args => match args with | [.val (.agg [.int .i64 k, .int .u64 num, .str foot, .int .u64 rq, .str path, .int .i64 mode, .int .u64 n, .int .i64 time])] => lpCright0 k num foot rq path mode n time | _ => fun _ => none) sndCright mixedOrders Tryd.func50 rfl Tryd.call50 ?_
  intro args q r hF hq ho
  unfold crightF at hF
  split at hF
  · cases hF
    exact ⟨by simp only [List.length_cons, List.length_nil]; decide, okCright0 _ _ _ _ _ _ _ _ hq⟩
  · cases hF
theorem sndCfoot : Sound Tryd.prog (lookΓ gamCfoot) := sound_of _ fun p hp => by
  simp only [gamCfoot, List.mem_cons, List.not_mem_nil, or_false] at hp
  rcases hp with rfl | rfl
  · exact meetsHad.orNil
  · exact meetsCright.orNil
theorem meetsCfoot : Meets Tryd.prog 49 cfootF := by
  refine meets_of_awp (Γ := lookΓ gamCfoot) (L := fun args => match args with | [.val (.agg [.int .i64 k, .int .u64 num, .str foot, .int .u64 rq, .str path, .int .i64 mode, .int .u64 n, .int .i64 time])] => lpCfoot0 k num foot rq path mode n time | _ => fun _ => none) sndCfoot mixedOrders Tryd.func49 rfl Tryd.call49 ?_
  intro args q r hF hq ho
  unfold cfootF at hF
  split at hF
  · cases hF
    exact ⟨by simp only [List.length_cons, List.length_nil]; decide, okCfoot0 _ _ _ _ _ _ _ _ hq⟩
  · cases hF
theorem sndCclient : Sound Tryd.prog (lookΓ gamCclient) := sound_of _ fun p hp => by
  simp only [gamCclient, List.mem_cons, List.not_mem_nil, or_false] at hp
  subst hp
  exact meetsCright.orNil
theorem meetsCclient : Meets Tryd.prog 51 cclientF := by
  refine meets_of_awp (Γ := lookΓ gamCclient) (L := fun args => match args with | [.val (.agg [.int .i64 k, .int .u64 num, .str foot, .int .u64 rq, .str path, .int .i64 mode, .int .u64 n, .int .i64 time])] => lpCclient0 k num foot rq path mode n time | _ => fun _ => none) sndCclient mixedOrders Tryd.func51 rfl Tryd.call51 ?_
  intro args q r hF hq ho
  unfold cclientF at hF
  split at hF
  · cases hF
    exact ⟨by simp only [List.length_cons, List.length_nil]; decide, okCclient0 _ _ _ _ _ _ _ _ hq⟩
  · cases hF
end Go.Proofs.YtabeffcdklcdeaaDoor
