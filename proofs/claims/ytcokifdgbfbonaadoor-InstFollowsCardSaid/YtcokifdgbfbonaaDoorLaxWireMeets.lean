/- The contracts are met. -/
import Derived.Test.YtcokifdgbfbonaaDoorLaxWireOk
namespace Go.Proofs.YtcokifdgbfbonaaDoor
set_option linter.unusedVariables false
set_option linter.unusedSimpArgs false
open Go.RowKit
theorem sndInFail : Sound Tryd.prog (lookΓ gamInFail) := sound_of _ fun p hp => by
  simp [gamInFail] at hp
theorem meetsInFail : Meets Tryd.prog 95 inFailF := by
  refine meets_of_awp (Γ := lookΓ gamInFail) (L := fun args => match args with | [.box [.sl xs .no, .int .i64 e], .val (.int .i64 c)] => lpInFail0 xs e c | _ => fun _ => none) sndInFail mixedOrders Tryd.func95 rfl Tryd.call95 ?_
  intro args q r hF hq ho
  unfold inFailF at hF
  split at hF
  · cases hF
    exact ⟨by simp only [List.length_cons, List.length_nil]; decide, okInFail0 _ _ _ hq⟩
  · cases hF
theorem sndTake : Sound Tryd.prog (lookΓ gamTake) := sound_of _ fun p hp => by
  simp only [gamTake, List.mem_cons, List.not_mem_nil, or_false] at hp
  subst hp
  exact meetsInFail.orNil
theorem meetsTake : Meets Tryd.prog 132 takeF := by
  refine meets_of_awp (Γ := lookΓ gamTake) (L := fun args => match args with | [.box [.sl xs .no, .int .i64 e], .val (.int .i64 k)] => lpTake0 xs e k | _ => fun _ => none) sndTake mixedOrders Tryd.func132 rfl Tryd.call132 ?_
  intro args q r hF hq ho
  unfold takeF at hF
  split at hF
  · cases hF
    exact ⟨by simp only [List.length_cons, List.length_nil]; decide, okTake0 _ _ _ hq⟩
  · cases hF
theorem sndInByte : Sound Tryd.prog (lookΓ gamInByte) := sound_of _ fun p hp => by
  simp only [gamInByte, List.mem_cons, List.not_mem_nil, or_false] at hp
  subst hp
  exact meetsTake.orNil
theorem meetsInByte : Meets Tryd.prog 93 inByteF := by
  refine meets_of_awp (Γ := lookΓ gamInByte) (L := fun args => match args with | [.box [.sl xs .no, .int .i64 e]] => lpInByte0 xs e | _ => fun _ => none) sndInByte mixedOrders Tryd.func93 rfl Tryd.call93 ?_
  intro args q r hF hq ho
  unfold inByteF at hF
  split at hF
  · cases hF
    exact ⟨by simp only [List.length_cons, List.length_nil]; decide, okInByte0 _ _ hq⟩
  · cases hF
theorem sndInTruth : Sound Tryd.prog (lookΓ gamInTruth) := sound_of _ fun p hp => by
  simp only [gamInTruth, List.mem_cons, List.not_mem_nil, or_false] at hp
  rcases hp with rfl | rfl
  · exact meetsInByte.orNil
  · exact meetsInFail.orNil
theorem meetsInTruth : Meets Tryd.prog 111 inTruthF := by
  refine meets_of_awp (Γ := lookΓ gamInTruth) (L := fun args => match args with | [.box [.sl xs .no, .int .i64 e]] => lpInTruth0 xs e | _ => fun _ => none) sndInTruth mixedOrders Tryd.func111 rfl Tryd.call111 ?_
  intro args q r hF hq ho
  unfold inTruthF at hF
  split at hF
  · cases hF
    exact ⟨by simp only [List.length_cons, List.length_nil]; decide, okInTruth0 _ _ hq⟩
  · cases hF
theorem sndInShort : Sound Tryd.prog (lookΓ gamInShort) := sound_of _ fun p hp => by
  simp only [gamInShort, List.mem_cons, List.not_mem_nil, or_false] at hp
  rcases hp with rfl | rfl | rfl
  · exact meetsReadShort.orNil
  · exact meetsInFail.orNil
  · exact meetsTake.orNil
theorem meetsInShort : Meets Tryd.prog 135 inShortF := by
  refine meets_of_awp (Γ := lookΓ gamInShort) (L := fun args => match args with | [.box [.sl xs .no, .int .i64 e], .val (.int .u64 m)] => lpInShort0 xs e m | _ => fun _ => none) sndInShort mixedOrders Tryd.func135 rfl Tryd.call135 ?_
  intro args q r hF hq ho
  unfold inShortF at hF
  split at hF
  · cases hF
    exact ⟨by simp only [List.length_cons, List.length_nil]; decide, okInShort0 _ _ _ hq⟩
  · cases hF
theorem sndInFixed : Sound Tryd.prog (lookΓ gamInFixed) := sound_of _ fun p hp => by
  simp only [gamInFixed, List.mem_cons, List.not_mem_nil, or_false] at hp
  rcases hp with rfl | rfl
  · exact meetsTake.orNil
  · exact meetsNumRead.orNil
theorem meetsInFixed : Meets Tryd.prog 133 inFixedF := by
  refine meets_of_awp (Γ := lookΓ gamInFixed) (L := fun args => match args with | [.box [.sl xs .no, .int .i64 e]] => lpInFixed0 xs e | _ => fun _ => none) sndInFixed mixedOrders Tryd.func133 rfl Tryd.call133 ?_
  intro args q r hF hq ho
  unfold inFixedF at hF
  split at hF
  · cases hF
    exact ⟨by simp only [List.length_cons, List.length_nil]; decide, okInFixed0 _ _ hq⟩
  · cases hF
theorem sndInText : Sound Tryd.prog (lookΓ gamInText) := sound_of _ fun p hp => by
  simp only [gamInText, List.mem_cons, List.not_mem_nil, or_false] at hp
  rcases hp with rfl | rfl
  · exact meetsInShort.orNil
  · exact meetsTake.orNil
theorem meetsInText : Meets Tryd.prog 134 inTextF := by
  refine meets_of_awp (Γ := lookΓ gamInText) (L := fun args => match args with | [.box [.sl xs .no, .int .i64 e], .val (.int .i64 m)] => lpInText0 xs e m | _ => fun _ => none) sndInText mixedOrders Tryd.func134 rfl Tryd.call134 ?_
  intro args q r hF hq ho
  unfold inTextF at hF
  split at hF
  · cases hF
    exact ⟨by simp only [List.length_cons, List.length_nil]; decide, okInText0 _ _ _ hq (okay_i64 (argI 1 ho rfl rfl))⟩
  · cases hF
theorem sndInFailed : Sound Tryd.prog (lookΓ gamInFailed) := sound_of _ fun p hp => by
  simp [gamInFailed] at hp
theorem meetsInFailed : Meets Tryd.prog 97 inFailedF := by
  refine meets_of_awp (Γ := lookΓ gamInFailed) (L := fun args => match args with | [.box [.sl xs .no, .int .i64 e]] => lpInFailed0 xs e | _ => fun _ => none) sndInFailed mixedOrders Tryd.func97 rfl Tryd.call97 ?_
  intro args q r hF hq ho
  unfold inFailedF at hF
  split at hF
  · cases hF
    exact ⟨by simp only [List.length_cons, List.length_nil]; decide, okInFailed0 _ _ hq⟩
  · cases hF
theorem sndInLeft : Sound Tryd.prog (lookΓ gamInLeft) := sound_of _ fun p hp => by
  simp [gamInLeft] at hp
theorem meetsInLeft : Meets Tryd.prog 51 inLeftF := by
  refine meets_of_awp (Γ := lookΓ gamInLeft) (L := fun args => match args with | [.box [.sl xs .no, .int .i64 e]] => lpInLeft0 xs e | _ => fun _ => none) sndInLeft mixedOrders Tryd.func51 rfl Tryd.call51 ?_
  intro args q r hF hq ho
  unfold inLeftF at hF
  split at hF
  · cases hF
    exact ⟨by simp only [List.length_cons, List.length_nil]; decide, okInLeft0 _ _ hq⟩
  · cases hF
theorem sndInEnd : Sound Tryd.prog (lookΓ gamInEnd) := sound_of _ fun p hp => by
  simp only [gamInEnd, List.mem_cons, List.not_mem_nil, or_false] at hp
  subst hp
  exact meetsInLeft.orNil
theorem meetsInEnd : Meets Tryd.prog 91 inEndF := by
  refine meets_of_awp (Γ := lookΓ gamInEnd) (L := fun args => match args with | [.box [.sl xs .no, .int .i64 e]] => lpInEnd0 xs e | _ => fun _ => none) sndInEnd mixedOrders Tryd.func91 rfl Tryd.call91 ?_
  intro args q r hF hq ho
  unfold inEndF at hF
  split at hF
  · cases hF
    exact ⟨by simp only [List.length_cons, List.length_nil]; decide, okInEnd0 _ _ hq⟩
  · cases hF
theorem sndNewIn : Sound Tryd.prog (lookΓ gamNewIn) := sound_of _ fun p hp => by
  simp only [gamNewIn, List.mem_cons, List.not_mem_nil, or_false] at hp
  subst hp
  exact meetsClone.orNil
theorem meetsNewIn : Meets Tryd.prog 49 newInF := by
  refine meets_of_awp (Γ := lookΓ gamNewIn) (L := fun args => match args with | [.val (.sl xs .no)] => lpNewIn0 xs | _ => fun _ => none) sndNewIn mixedOrders Tryd.func49 rfl Tryd.call49 ?_
  intro args q r hF hq ho
  unfold newInF at hF
  split at hF
  · cases hF
    exact ⟨by simp only [List.length_cons, List.length_nil]; decide, okNewIn0 _ hq⟩
  · cases hF
theorem sndOutByte : Sound Tryd.prog (lookΓ gamOutByte) := sound_of _ fun p hp => by
  simp [gamOutByte] at hp
theorem meetsOutByte : Meets Tryd.prog 120 outByteF := by
  refine meets_of_awp (Γ := lookΓ gamOutByte) (L := fun args => match args with | [.box [.sl xs (.row p q te0)], .val (.int .u8 b)] => lpOutByte1 xs p q b | _ => fun _ => none) sndOutByte mixedOrders Tryd.func120 rfl Tryd.call120 ?_
  intro args q r hF hq ho
  unfold outByteF at hF
  split at hF
  · split at hF
    · rename_i hte
      subst hte
      cases hF
      exact ⟨by simp only [List.length_cons, List.length_nil]; decide, okOutByte1 _ _ _ _ hq (okay_u8 (argI 1 ho rfl rfl))⟩
    · cases hF
  · cases hF
theorem sndOutTruth : Sound Tryd.prog (lookΓ gamOutTruth) := sound_of _ fun p hp => by
  simp only [gamOutTruth, List.mem_cons, List.not_mem_nil, or_false] at hp
  subst hp
  exact meetsOutByte.orNil
theorem meetsOutTruth : Meets Tryd.prog 143 outTruthF := by
  refine meets_of_awp (Γ := lookΓ gamOutTruth) (L := fun args => match args with | [.box [.sl xs (.row p q te0)], .val (.bool b)] => lpOutTruth1 xs p q b | _ => fun _ => none) sndOutTruth mixedOrders Tryd.func143 rfl Tryd.call143 ?_
  intro args q r hF hq ho
  unfold outTruthF at hF
  split at hF
  · split at hF
    · rename_i hte
      subst hte
      cases hF
      exact ⟨by simp only [List.length_cons, List.length_nil]; decide, okOutTruth1 _ _ _ _ hq⟩
    · cases hF
  · cases hF
theorem sndOutShort : Sound Tryd.prog (lookΓ gamOutShort) := sound_of _ fun p hp => by
  simp only [gamOutShort, List.mem_cons, List.not_mem_nil, or_false] at hp
  subst hp
  exact meetsNumShort.orNil
theorem meetsOutShort : Meets Tryd.prog 123 outShortF := by
  refine meets_of_awp (Γ := lookΓ gamOutShort) (L := fun args => match args with | [.box [.sl xs (.row p q te0)], .val (.int .u64 v)] => lpOutShort1 xs p q v | _ => fun _ => none) sndOutShort mixedOrders Tryd.func123 rfl Tryd.call123 ?_
  intro args q r hF hq ho
  unfold outShortF at hF
  split at hF
  · split at hF
    · rename_i hte
      subst hte
      cases hF
      exact ⟨by simp only [List.length_cons, List.length_nil]; decide, okOutShort1 _ _ _ _ hq (okay_u64 (argI 1 ho rfl rfl))⟩
    · cases hF
  · cases hF
theorem sndOutFixed : Sound Tryd.prog (lookΓ gamOutFixed) := sound_of _ fun p hp => by
  simp only [gamOutFixed, List.mem_cons, List.not_mem_nil, or_false] at hp
  subst hp
  exact meetsNumBytes.orNil
theorem meetsOutFixed : Meets Tryd.prog 121 outFixedF := by
  refine meets_of_awp (Γ := lookΓ gamOutFixed) (L := fun args => match args with | [.box [.sl xs (.row p q te0)], .val (.int .u64 v)] => lpOutFixed1 xs p q v | _ => fun _ => none) sndOutFixed mixedOrders Tryd.func121 rfl Tryd.call121 ?_
  intro args q r hF hq ho
  unfold outFixedF at hF
  split at hF
  · split at hF
    · rename_i hte
      subst hte
      cases hF
      exact ⟨by simp only [List.length_cons, List.length_nil]; decide, okOutFixed1 _ _ _ _ hq⟩
    · cases hF
  · cases hF
theorem sndOutText : Sound Tryd.prog (lookΓ gamOutText) := sound_of _ fun p hp => by
  simp only [gamOutText, List.mem_cons, List.not_mem_nil, or_false] at hp
  subst hp
  exact meetsOutShort.orNil
theorem meetsOutText : Meets Tryd.prog 122 outTextF := by
  refine meets_of_awp (Γ := lookΓ gamOutText) (L := fun args => match args with | [.box [.sl xs (.row p q te0)], .val (.str s)] => lpOutText1 xs p q s | _ => fun _ => none) sndOutText mixedOrders Tryd.func122 rfl Tryd.call122 ?_
  intro args q r hF hq ho
  unfold outTextF at hF
  split at hF
  · split at hF
    · rename_i hte
      subst hte
      cases hF
      exact ⟨by simp only [List.length_cons, List.length_nil]; decide, okOutText1 _ _ _ _ hq⟩
    · cases hF
  · cases hF
theorem sndOutBytes : Sound Tryd.prog (lookΓ gamOutBytes) := sound_of _ fun p hp => by
  simp only [gamOutBytes, List.mem_cons, List.not_mem_nil, or_false] at hp
  subst hp
  exact meetsClone.orNil
theorem meetsOutBytes : Meets Tryd.prog 72 outBytesF := by
  refine meets_of_awp (Γ := lookΓ gamOutBytes) (L := fun args => match args with | [.box [.sl xs (.row p q te0)]] => lpOutBytes1 xs p q | _ => fun _ => none) sndOutBytes mixedOrders Tryd.func72 rfl Tryd.call72 ?_
  intro args q r hF hq ho
  unfold outBytesF at hF
  split at hF
  · split at hF
    · rename_i hte
      subst hte
      cases hF
      exact ⟨by simp only [List.length_cons, List.length_nil]; decide, okOutBytes1 _ _ _ hq⟩
    · cases hF
  · cases hF
end Go.Proofs.YtcokifdgbfbonaaDoor
