/- The contracts are met. -/
import Derived.Test.YtcokifdgbfbonaaDoorLaxInstFOk
namespace Go.Proofs.YtcokifdgbfbonaaDoor
set_option linter.unusedVariables false
set_option linter.unusedSimpArgs false
open Go.RowKit
theorem sndIput0 : Sound Tryd.prog (lookΓ gamIput0) := sound_of _ fun p hp => by
  simp only [gamIput0, List.mem_cons, List.not_mem_nil, or_false] at hp
  rcases hp with rfl | rfl | rfl
  · exact meetsIdPut.orNil
  · exact meetsBalPut.orNil
  · exact meetsOutByte.orNil
set_option maxHeartbeats 4000000 in
theorem meetsIput0 : Meets Tryd.prog 108 iput0F := by
  refine meets_of_awp (Γ := lookΓ gamIput0) (L := fun _ _ => none) sndIput0 mixedOrders Tryd.func108 rfl Tryd.call108 ?_
  intro args q r hF hq ho
  unfold iput0F at hF
  split at hF
  · split at hF
    · rename_i x hzx
      obtain rfl := instOf_some hzx
      split at hF
      · rename_i hte
        subst hte
        cases hF
        exact ⟨by simp only [List.length_cons, List.length_nil]; decide, okIput00 _ _ _ _ hq (okay_u32 (argA 0 3 ho rfl rfl))⟩
      · cases hF
    · cases hF
  · cases hF
theorem sndIbytes0 : Sound Tryd.prog (lookΓ gamIbytes0) := sound_of _ fun p hp => by
  simp only [gamIbytes0, List.mem_cons, List.not_mem_nil, or_false] at hp
  rcases hp with rfl | rfl
  · exact meetsIput0.orNil
  · exact meetsOutBytes.orNil
set_option maxHeartbeats 4000000 in
theorem meetsIbytes0 : Meets Tryd.prog 61 ibytes0F := by
  refine meets_of_awp (Γ := lookΓ gamIbytes0) (L := fun _ _ => none) sndIbytes0 mixedOrders Tryd.func61 rfl Tryd.call61 ?_
  intro args q r hF hq ho
  unfold ibytes0F at hF
  split at hF
  · split at hF
    · rename_i x hzx
      obtain rfl := instOf_some hzx
      cases hF
      exact ⟨by simp only [List.length_cons, List.length_nil]; decide, okIbytes00 _ hq (okay_u32 (argA 0 3 ho rfl rfl))⟩
    · cases hF
  · cases hF
theorem sndAnchor10 : Sound Tryd.prog (lookΓ gamAnchor10) := sound_of _ fun p hp => by
  simp only [gamAnchor10, List.mem_cons, List.not_mem_nil, or_false] at hp
  rcases hp with rfl | rfl
  · exact meetsInew.orNil
  · exact meetsIbytes0.orNil
set_option maxHeartbeats 4000000 in
theorem meetsAnchor10 : Meets Tryd.prog 31 anchor10F := by
  refine meets_of_awp (Γ := lookΓ gamAnchor10) (L := fun _ _ => none) sndAnchor10 mixedOrders Tryd.func31 rfl Tryd.call31 ?_
  intro args q r hF hq ho
  unfold anchor10F at hF
  split at hF
  · cases hF
    exact ⟨by simp only [List.length_cons, List.length_nil]; decide, okAnchor100 hq⟩
  · cases hF
theorem sndSmall10 : Sound Tryd.prog (lookΓ gamSmall10) := sound_of _ fun p hp => by
  simp [gamSmall10] at hp
set_option maxHeartbeats 4000000 in
theorem meetsSmall10 : Meets Tryd.prog 32 small10F := by
  refine meets_of_awp (Γ := lookΓ gamSmall10) (L := fun _ _ => none) sndSmall10 mixedOrders Tryd.func32 rfl Tryd.call32 ?_
  intro args q r hF hq ho
  unfold small10F at hF
  split at hF
  · split at hF
    · rename_i x hzx
      obtain rfl := instOf_some hzx
      cases hF
      exact ⟨by simp only [List.length_cons, List.length_nil]; decide, okSmall100 _ hq⟩
    · cases hF
  · cases hF
theorem sndLawFollows : Sound Tryd.prog (lookΓ gamLawFollows) := sound_of _ fun p hp => by
  simp only [gamLawFollows, List.mem_cons, List.not_mem_nil, or_false] at hp
  rcases hp with rfl | rfl | rfl | rfl
  · exact meetsAnchor10.orNil
  · exact meetsSmall10.orNil
  · exact meetsFollows.orNil
  · exact meetsAlike.orNil
set_option maxHeartbeats 4000000 in
theorem meetsLawFollows : Meets Tryd.prog 7 lawFollowsF := by
  refine meets_of_awp (Γ := lookΓ gamLawFollows) (L := fun _ _ => none) sndLawFollows mixedOrders Tryd.func7 rfl Tryd.call7 ?_
  intro args q r hF hq ho
  unfold lawFollowsF at hF
  split at hF
  · split at hF
    · rename_i x y z hzx hzy hzz
      obtain rfl := instOf_some hzx
      obtain rfl := instOf_some hzy
      obtain rfl := instOf_some hzz
      cases hF
      exact ⟨by simp only [List.length_cons, List.length_nil]; decide, okLawFollows0 _ _ _ hq⟩
    · cases hF
  · cases hF
end Go.Proofs.YtcokifdgbfbonaaDoor
