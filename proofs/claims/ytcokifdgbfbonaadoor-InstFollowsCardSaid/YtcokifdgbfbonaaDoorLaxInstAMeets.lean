/- The contracts are met. -/
import Derived.Test.YtcokifdgbfbonaaDoorLaxInstAOk
namespace Go.Proofs.YtcokifdgbfbonaaDoor
set_option linter.unusedVariables false
set_option linter.unusedSimpArgs false
open Go.RowKit
theorem sndIright : Sound Tryd.prog (lookΓ gamIright) := sound_of _ fun p hp => by
  simp only [gamIright, List.mem_cons, List.not_mem_nil, or_false] at hp
  rcases hp with rfl | rfl | rfl | rfl
  · exact meetsIdRight.orNil
  · exact meetsBalRight.orNil
  · exact meetsCright.orNil
  · exact meetsAttOwns.orNil
set_option maxHeartbeats 4000000 in
theorem meetsIright : Meets Tryd.prog 26 irightF := by
  refine meets_of_awp (Γ := lookΓ gamIright) (L := fun _ _ => none) sndIright mixedOrders Tryd.func26 rfl Tryd.call26 ?_
  intro args q r hF hq ho
  unfold irightF at hF
  split at hF
  · split at hF
    · rename_i x hzx
      obtain rfl := instOf_some hzx
      cases hF
      exact ⟨by simp only [List.length_cons, List.length_nil]; decide, okIright0 _ hq⟩
    · cases hF
  · cases hF
theorem sndAlike : Sound Tryd.prog (lookΓ gamAlike) := sound_of _ fun p hp => by
  simp [gamAlike] at hp
set_option maxHeartbeats 4000000 in
theorem meetsAlike : Meets Tryd.prog 34 alikeF := by
  refine meets_of_awp (Γ := lookΓ gamAlike) (L := fun _ _ => none) sndAlike mixedOrders Tryd.func34 rfl Tryd.call34 ?_
  intro args q r hF hq ho
  unfold alikeF at hF
  split at hF
  · split at hF
    · rename_i x y hzx hzy
      obtain rfl := instOf_some hzx
      obtain rfl := instOf_some hzy
      cases hF
      exact ⟨by simp only [List.length_cons, List.length_nil]; decide, okAlike0 _ _ hq⟩
    · cases hF
  · cases hF
theorem sndFollows : Sound Tryd.prog (lookΓ gamFollows) := sound_of _ fun p hp => by
  simp only [gamFollows, List.mem_cons, List.not_mem_nil, or_false] at hp
  rcases hp with rfl | rfl
  · exact meetsIright.orNil
  · exact meetsAlike.orNil
set_option maxHeartbeats 4000000 in
theorem meetsFollows : Meets Tryd.prog 33 followsF := by
  refine meets_of_awp (Γ := lookΓ gamFollows) (L := fun _ _ => none) sndFollows mixedOrders Tryd.func33 rfl Tryd.call33 ?_
  intro args q r hF hq ho
  unfold followsF at hF
  split at hF
  · split at hF
    · rename_i x y hzx hzy
      obtain rfl := instOf_some hzx
      obtain rfl := instOf_some hzy
      cases hF
      exact ⟨by simp only [List.length_cons, List.length_nil]; decide, okFollows0 _ _ hq⟩
    · cases hF
  · cases hF
theorem sndInew : Sound Tryd.prog (lookΓ gamInew) := sound_of _ fun p hp => by
  simp [gamInew] at hp
set_option maxHeartbeats 4000000 in
theorem meetsInew : Meets Tryd.prog 43 inewF := by
  refine meets_of_awp (Γ := lookΓ gamInew) (L := fun _ _ => none) sndInew mixedOrders Tryd.func43 rfl Tryd.call43 ?_
  intro args q r hF hq ho
  unfold inewF at hF
  split at hF
  · cases hF
    exact ⟨by simp only [List.length_cons, List.length_nil]; decide, okInew0 _ _ hq⟩
  · cases hF
end Go.Proofs.YtcokifdgbfbonaaDoor
