/- The contracts are met. -/
import Derived.Test.YtledoikeaidlfaaLaxLaw9Ok
namespace Go.Proofs.Ytledoikeaidlfaa
set_option linter.unusedVariables false
set_option linter.unusedSimpArgs false
open Go.RowKit
theorem sndAttCovers : Sound Try.prog (lookΓ gamAttCovers) := sound_of _ fun p hp => by
  simp only [gamAttCovers, List.mem_cons, List.not_mem_nil, or_false] at hp
  subst hp
  exact meetsIdRight
theorem meetsAttCovers : Meets Try.prog 40 attCoversF := by
  refine meets_of_awp (Γ := lookΓ gamAttCovers) (L := fun args => match args with | [.val (.agg [.int .i64 s, .int .i64 d0, .int .i64 d1, .int .i64 d2, .int .i64 d3, .int .i64 d4, .int .i64 d5, .int .i64 d6]), .val (.agg [.int .i64 r, .int .i64 n])] => lpAttCovers0 s d0 d1 d2 d3 d4 d5 d6 r n | _ => fun _ => none) sndAttCovers mixedOrders Try.func40 rfl Try.call40 ?_
  intro args q r hF hq ho
  unfold attCoversF at hF
  split at hF
  · cases hF
    exact ⟨by simp only [List.length_cons, List.length_nil]; decide, okAttCovers0 _ _ _ _ _ _ _ _ _ _ hq⟩
  · cases hF
theorem sndAttOwn : Sound Try.prog (lookΓ gamAttOwn) := sound_of _ fun p hp => by
  simp only [gamAttOwn, List.mem_cons, List.not_mem_nil, or_false] at hp
  subst hp
  exact meetsIdRight
theorem meetsAttOwn : Meets Try.prog 59 attOwnF := by
  refine meets_of_awp (Γ := lookΓ gamAttOwn) (L := fun args => match args with | [.val (.agg [.int .i64 s, .int .i64 d0, .int .i64 d1, .int .i64 d2, .int .i64 d3, .int .i64 d4, .int .i64 d5, .int .i64 d6]), .val (.agg [.int .i64 r, .int .i64 n])] => lpAttOwn0 s d0 d1 d2 d3 d4 d5 d6 r n | _ => fun _ => none) sndAttOwn mixedOrders Try.func59 rfl Try.call59 ?_
  intro args q r hF hq ho
  unfold attOwnF at hF
  split at hF
  · cases hF
    exact ⟨by simp only [List.length_cons, List.length_nil]; decide, okAttOwn0 _ _ _ _ _ _ _ _ _ _ hq⟩
  · cases hF
theorem sndAttOwns : Sound Try.prog (lookΓ gamAttOwns) := sound_of _ fun p hp => by
  simp only [gamAttOwns, List.mem_cons, List.not_mem_nil, or_false] at hp
  rcases hp with rfl | rfl | rfl
  · exact meetsIdRight
  · exact meetsAttRight
  · exact meetsAttOwn
theorem meetsAttOwns : Meets Try.prog 41 attOwnsF := by
  refine meets_of_awp (Γ := lookΓ gamAttOwns) (L := fun args => match args with | [.val (.agg [.int .i64 s, .int .i64 d0, .int .i64 d1, .int .i64 d2, .int .i64 d3, .int .i64 d4, .int .i64 d5, .int .i64 d6]), .val (.agg [.int .i64 r, .int .i64 n])] => lpAttOwns0 s d0 d1 d2 d3 d4 d5 d6 r n | _ => fun _ => none) sndAttOwns mixedOrders Try.func41 rfl Try.call41 ?_
  intro args q r hF hq ho
  unfold attOwnsF at hF
  split at hF
  · cases hF
    exact ⟨by simp only [List.length_cons, List.length_nil]; decide, okAttOwns0 _ _ _ _ _ _ _ _ _ _ hq⟩
  · cases hF
theorem sndAnchor9 : Sound Try.prog (lookΓ gamAnchor9) := sound_of _ fun p hp => by
  simp only [gamAnchor9, List.mem_cons, List.not_mem_nil, or_false] at hp
  rcases hp with rfl | rfl
  · exact meetsAttCovers
  · exact meetsAttOwns
theorem meetsAnchor9 : Meets Try.prog 7 anchor9F := by
  refine meets_of_awp (Γ := lookΓ gamAnchor9) (L := fun args => match args with | [] => lpAnchor90 | _ => fun _ => none) sndAnchor9 mixedOrders Try.func7 rfl Try.call7 ?_
  intro args q r hF hq ho
  unfold anchor9F at hF
  split at hF
  · cases hF
    exact ⟨by simp only [List.length_cons, List.length_nil]; decide, okAnchor90 hq⟩
  · cases hF
theorem sndLawAttr : Sound Try.prog (lookΓ gamLawAttr) := sound_of _ fun p hp => by
  simp only [gamLawAttr, List.mem_cons, List.not_mem_nil, or_false] at hp
  rcases hp with rfl | rfl | rfl | rfl | rfl | rfl | rfl | rfl | rfl
  · exact meetsAnchor9
  · exact meetsNewIn
  · exact meetsRefATake
  · exact meetsAttTake
  · exact meetsInEnd
  · exact meetsRefEnd
  · exact meetsAttPut
  · exact meetsOutBytes
  · exact meetsRefARight
theorem meetsLawAttr : Meets Try.prog 3 lawAttrF := by
  refine meets_of_awp (Γ := lookΓ gamLawAttr) (L := fun args => match args with | [.val (.sl xs .no), .val (.agg [.int .i64 s, .int .i64 d0, .int .i64 d1, .int .i64 d2, .int .i64 d3, .int .i64 d4, .int .i64 d5, .int .i64 d6])] => lpLawAttr0 xs s d0 d1 d2 d3 d4 d5 d6 | _ => fun _ => none) sndLawAttr mixedOrders Try.func3 rfl Try.call3 ?_
  intro args q r hF hq ho
  unfold lawAttrF at hF
  split at hF
  · cases hF
    exact ⟨by simp only [List.length_cons, List.length_nil]; decide, okLawAttr0 _ _ _ _ _ _ _ _ _ hq⟩
  · cases hF
theorem sndBalNext : Sound Try.prog (lookΓ gamBalNext) := sound_of _ fun p hp => by
  simp only [gamBalNext, List.mem_cons, List.not_mem_nil, or_false] at hp
  subst hp
  exact meetsBalRound
theorem meetsBalNext : Meets Try.prog 45 balNextF := by
  refine meets_of_awp (Γ := lookΓ gamBalNext) (L := fun args => match args with | [.val (.int .u32 b), .val (.int .i64 r)] => lpBalNext0 b r | _ => fun _ => none) sndBalNext mixedOrders Try.func45 rfl Try.call45 ?_
  intro args q r hF hq ho
  unfold balNextF at hF
  split at hF
  · cases hF
    exact ⟨by simp only [List.length_cons, List.length_nil]; decide, okBalNext0 _ _ hq⟩
  · cases hF
theorem sndAnchor6 : Sound Try.prog (lookΓ gamAnchor6) := sound_of _ fun p hp => by
  simp only [gamAnchor6, List.mem_cons, List.not_mem_nil, or_false] at hp
  subst hp
  exact meetsBalNext
theorem meetsAnchor6 : Meets Try.prog 16 anchor6F := by
  refine meets_of_awp (Γ := lookΓ gamAnchor6) (L := fun args => match args with | [] => lpAnchor60 | _ => fun _ => none) sndAnchor6 mixedOrders Try.func16 rfl Try.call16 ?_
  intro args q r hF hq ho
  unfold anchor6F at hF
  split at hF
  · cases hF
    exact ⟨by simp only [List.length_cons, List.length_nil]; decide, okAnchor60 hq⟩
  · cases hF
theorem sndLawMark : Sound Try.prog (lookΓ gamLawMark) := sound_of _ fun p hp => by
  simp only [gamLawMark, List.mem_cons, List.not_mem_nil, or_false] at hp
  rcases hp with rfl | rfl | rfl | rfl | rfl | rfl | rfl | rfl | rfl | rfl | rfl | rfl | rfl
  · exact meetsAnchor6
  · exact meetsNewIn
  · exact meetsRefTakeID
  · exact meetsTakeID
  · exact meetsInEnd
  · exact meetsRefEnd
  · exact meetsRefTakeBal
  · exact meetsTakeBal
  · exact meetsIdRight
  · exact meetsBalRight
  · exact meetsIdPut
  · exact meetsBalPut
  · exact meetsOutBytes
theorem meetsLawMark : Meets Try.prog 4 lawMarkF := by
  refine meets_of_awp (Γ := lookΓ gamLawMark) (L := fun args => match args with | [.val (.sl xs .no), .val (.agg [.int .i64 r, .int .i64 n]), .val (.int .u32 b)] => lpLawMark0 xs r n b | _ => fun _ => none) sndLawMark mixedOrders Try.func4 rfl Try.call4 ?_
  intro args q r hF hq ho
  unfold lawMarkF at hF
  split at hF
  · cases hF
    exact ⟨by simp only [List.length_cons, List.length_nil]; decide, okLawMark0 _ _ _ _ hq (okay_u32 (argI 2 ho rfl rfl))⟩
  · cases hF
end Go.Proofs.Ytledoikeaidlfaa
