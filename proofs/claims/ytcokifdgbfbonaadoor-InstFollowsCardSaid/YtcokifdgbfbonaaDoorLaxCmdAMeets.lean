/- The contracts are met. -/
import Derived.Test.YtcokifdgbfbonaaDoorLaxCmdAOk
namespace Go.Proofs.YtcokifdgbfbonaaDoor
set_option linter.unusedVariables false
set_option linter.unusedSimpArgs false
open Go.RowKit
theorem sndHad : Sound Tryd.prog (lookΓ gamHad) := sound_of _ fun p hp => by
  simp [gamHad] at hp
theorem meetsHad : Meets Tryd.prog 94 hadF := by
  refine meets_of_awp (Γ := lookΓ gamHad) (L := fun args => match args with | [.val (.int .i64 k)] => lpHad0 k | _ => fun _ => none) sndHad mixedOrders Tryd.func94 rfl Tryd.call94 ?_
  intro args q r hF hq ho
  unfold hadF at hF
  split at hF
  · cases hF
    exact ⟨by simp only [List.length_cons, List.length_nil]; decide, okHad0 _ hq⟩
  · cases hF
theorem sndMost : Sound Tryd.prog (lookΓ gamMost) := sound_of _ fun p hp => by
  simp [gamMost] at hp
theorem meetsMost : Meets Tryd.prog 119 mostF := by
  refine meets_of_awp (Γ := lookΓ gamMost) (L := fun args => match args with | [.val (.int .i64 k)] => lpMost0 k | _ => fun _ => none) sndMost mixedOrders Tryd.func119 rfl Tryd.call119 ?_
  intro args q r hF hq ho
  unfold mostF at hF
  split at hF
  · cases hF
    exact ⟨by simp only [List.length_cons, List.length_nil]; decide, okMost0 _ hq⟩
  · cases hF
theorem sndBare : Sound Tryd.prog (lookΓ gamBare) := sound_of _ fun p hp => by
  simp [gamBare] at hp
theorem meetsBare : Meets Tryd.prog 118 bareF := by
  refine meets_of_awp (Γ := lookΓ gamBare) (L := fun args => match args with | [.val (.agg [.int .i64 k, .int .u64 num, .str foot, .int .u64 rq, .str path, .int .i64 mode, .int .u64 n, .int .i64 time]), .val (.agg [.bool a, .bool b, .bool c, .bool d, .bool e, .bool f])] => lpBare0 k num foot rq path mode n time a b c d e f | _ => fun _ => none) sndBare mixedOrders Tryd.func118 rfl Tryd.call118 ?_
  intro args q r hF hq ho
  unfold bareF at hF
  split at hF
  · cases hF
    exact ⟨by simp only [List.length_cons, List.length_nil]; decide, okBare0 _ _ _ _ _ _ _ _ _ _ _ _ _ _ hq⟩
  · cases hF
theorem sndCright : Sound Tryd.prog (lookΓ gamCright) := sound_of _ fun p hp => by
  simp only [gamCright, List.mem_cons, List.not_mem_nil, or_false] at hp
  rcases hp with rfl | rfl | rfl | rfl
  · exact meetsHad.orNil
  · exact meetsMost.orNil
  · exact meetsBare.orNil
  · exact meetsRight.orNil
theorem meetsCright : Meets Tryd.prog 69 crightF := by
  refine meets_of_awp (Γ := lookΓ gamCright) (L := fun args => match args with | [.val (.agg [.int .i64 k, .int .u64 num, .str foot, .int .u64 rq, .str path, .int .i64 mode, .int .u64 n, .int .i64 time])] => lpCright0 k num foot rq path mode n time | _ => fun _ => none) sndCright mixedOrders Tryd.func69 rfl Tryd.call69 ?_
  intro args q r hF hq ho
  unfold crightF at hF
  split at hF
  · cases hF
    exact ⟨by simp only [List.length_cons, List.length_nil]; decide, okCright0 _ _ _ _ _ _ _ _ hq⟩
  · cases hF
end Go.Proofs.YtcokifdgbfbonaaDoor
