/- The contracts are met. -/
import Derived.Test.YtledoikeaidlfaaLaxWireOk
namespace Go.Proofs.Ytledoikeaidlfaa
set_option linter.unusedVariables false
set_option linter.unusedSimpArgs false
open Go.RowKit
theorem sndInFail : Sound Try.prog (lookΓ gamInFail) := sound_of _ fun p hp => by
  simp [gamInFail] at hp
theorem meetsInFail : Meets Try.prog 47 inFailF := by
  refine meets_of_awp (Γ := lookΓ gamInFail) (L := fun args => match args with | [.box [.sl xs .no, .int .i64 e], .val (.int .i64 c)] => lpInFail0 xs e c | _ => fun _ => none) sndInFail mixedOrders Try.func47 rfl Try.call47 ?_
  intro args q r hF hq ho
  unfold inFailF at hF
  split at hF
  · cases hF
    exact ⟨by simp only [List.length_cons, List.length_nil]; decide, okInFail0 _ _ _ hq⟩
  · cases hF
theorem sndTake : Sound Try.prog (lookΓ gamTake) := sound_of _ fun p hp => by
  simp only [gamTake, List.mem_cons, List.not_mem_nil, or_false] at hp
  subst hp
  exact meetsInFail
theorem meetsTake : Meets Try.prog 56 takeF := by
  refine meets_of_awp (Γ := lookΓ gamTake) (L := fun args => match args with | [.box [.sl xs .no, .int .i64 e], .val (.int .i64 k)] => lpTake0 xs e k | _ => fun _ => none) sndTake mixedOrders Try.func56 rfl Try.call56 ?_
  intro args q r hF hq ho
  unfold takeF at hF
  split at hF
  · cases hF
    exact ⟨by simp only [List.length_cons, List.length_nil]; decide, okTake0 _ _ _ hq⟩
  · cases hF
theorem sndInByte : Sound Try.prog (lookΓ gamInByte) := sound_of _ fun p hp => by
  simp only [gamInByte, List.mem_cons, List.not_mem_nil, or_false] at hp
  subst hp
  exact meetsTake
theorem meetsInByte : Meets Try.prog 34 inByteF := by
  refine meets_of_awp (Γ := lookΓ gamInByte) (L := fun args => match args with | [.box [.sl xs .no, .int .i64 e]] => lpInByte0 xs e | _ => fun _ => none) sndInByte mixedOrders Try.func34 rfl Try.call34 ?_
  intro args q r hF hq ho
  unfold inByteF at hF
  split at hF
  · cases hF
    exact ⟨by simp only [List.length_cons, List.length_nil]; decide, okInByte0 _ _ hq⟩
  · cases hF
theorem sndInTruth : Sound Try.prog (lookΓ gamInTruth) := sound_of _ fun p hp => by
  simp only [gamInTruth, List.mem_cons, List.not_mem_nil, or_false] at hp
  rcases hp with rfl | rfl
  · exact meetsInByte
  · exact meetsInFail
theorem meetsInTruth : Meets Try.prog 35 inTruthF := by
  refine meets_of_awp (Γ := lookΓ gamInTruth) (L := fun args => match args with | [.box [.sl xs .no, .int .i64 e]] => lpInTruth0 xs e | _ => fun _ => none) sndInTruth mixedOrders Try.func35 rfl Try.call35 ?_
  intro args q r hF hq ho
  unfold inTruthF at hF
  split at hF
  · cases hF
    exact ⟨by simp only [List.length_cons, List.length_nil]; decide, okInTruth0 _ _ hq⟩
  · cases hF
theorem sndInShort : Sound Try.prog (lookΓ gamInShort) := sound_of _ fun p hp => by
  simp only [gamInShort, List.mem_cons, List.not_mem_nil, or_false] at hp
  rcases hp with rfl | rfl | rfl
  · exact meetsReadShort
  · exact meetsInFail
  · exact meetsTake
theorem meetsInShort : Meets Try.prog 36 inShortF := by
  refine meets_of_awp (Γ := lookΓ gamInShort) (L := fun args => match args with | [.box [.sl xs .no, .int .i64 e], .val (.int .u64 m)] => lpInShort0 xs e m | _ => fun _ => none) sndInShort mixedOrders Try.func36 rfl Try.call36 ?_
  intro args q r hF hq ho
  unfold inShortF at hF
  split at hF
  · cases hF
    exact ⟨by simp only [List.length_cons, List.length_nil]; decide, okInShort0 _ _ _ hq⟩
  · cases hF
theorem sndInFixed : Sound Try.prog (lookΓ gamInFixed) := sound_of _ fun p hp => by
  simp only [gamInFixed, List.mem_cons, List.not_mem_nil, or_false] at hp
  rcases hp with rfl | rfl
  · exact meetsTake
  · exact meetsNumRead
theorem meetsInFixed : Meets Try.prog 37 inFixedF := by
  refine meets_of_awp (Γ := lookΓ gamInFixed) (L := fun args => match args with | [.box [.sl xs .no, .int .i64 e]] => lpInFixed0 xs e | _ => fun _ => none) sndInFixed mixedOrders Try.func37 rfl Try.call37 ?_
  intro args q r hF hq ho
  unfold inFixedF at hF
  split at hF
  · cases hF
    exact ⟨by simp only [List.length_cons, List.length_nil]; decide, okInFixed0 _ _ hq⟩
  · cases hF
theorem sndInText : Sound Try.prog (lookΓ gamInText) := sound_of _ fun p hp => by
  simp only [gamInText, List.mem_cons, List.not_mem_nil, or_false] at hp
  rcases hp with rfl | rfl
  · exact meetsInShort
  · exact meetsTake
theorem meetsInText : Meets Try.prog 38 inTextF := by
  refine meets_of_awp (Γ := lookΓ gamInText) (L := fun args => match args with | [.box [.sl xs .no, .int .i64 e], .val (.int .i64 m)] => lpInText0 xs e m | _ => fun _ => none) sndInText mixedOrders Try.func38 rfl Try.call38 ?_
  intro args q r hF hq ho
  unfold inTextF at hF
  split at hF
  · cases hF
    exact ⟨by simp only [List.length_cons, List.length_nil]; decide, okInText0 _ _ _ hq (okay_i64 (argI 1 ho rfl rfl))⟩
  · cases hF
theorem sndInFailed : Sound Try.prog (lookΓ gamInFailed) := sound_of _ fun p hp => by
  simp [gamInFailed] at hp
theorem meetsInFailed : Meets Try.prog 28 inFailedF := by
  refine meets_of_awp (Γ := lookΓ gamInFailed) (L := fun args => match args with | [.box [.sl xs .no, .int .i64 e]] => lpInFailed0 xs e | _ => fun _ => none) sndInFailed mixedOrders Try.func28 rfl Try.call28 ?_
  intro args q r hF hq ho
  unfold inFailedF at hF
  split at hF
  · cases hF
    exact ⟨by simp only [List.length_cons, List.length_nil]; decide, okInFailed0 _ _ hq⟩
  · cases hF
theorem sndInLeft : Sound Try.prog (lookΓ gamInLeft) := sound_of _ fun p hp => by
  simp [gamInLeft] at hp
theorem meetsInLeft : Meets Try.prog 27 inLeftF := by
  refine meets_of_awp (Γ := lookΓ gamInLeft) (L := fun args => match args with | [.box [.sl xs .no, .int .i64 e]] => lpInLeft0 xs e | _ => fun _ => none) sndInLeft mixedOrders Try.func27 rfl Try.call27 ?_
  intro args q r hF hq ho
  unfold inLeftF at hF
  split at hF
  · cases hF
    exact ⟨by simp only [List.length_cons, List.length_nil]; decide, okInLeft0 _ _ hq⟩
  · cases hF
theorem sndInEnd : Sound Try.prog (lookΓ gamInEnd) := sound_of _ fun p hp => by
  simp only [gamInEnd, List.mem_cons, List.not_mem_nil, or_false] at hp
  subst hp
  exact meetsInLeft
theorem meetsInEnd : Meets Try.prog 11 inEndF := by
  refine meets_of_awp (Γ := lookΓ gamInEnd) (L := fun args => match args with | [.box [.sl xs .no, .int .i64 e]] => lpInEnd0 xs e | _ => fun _ => none) sndInEnd mixedOrders Try.func11 rfl Try.call11 ?_
  intro args q r hF hq ho
  unfold inEndF at hF
  split at hF
  · cases hF
    exact ⟨by simp only [List.length_cons, List.length_nil]; decide, okInEnd0 _ _ hq⟩
  · cases hF
theorem sndNewIn : Sound Try.prog (lookΓ gamNewIn) := sound_of _ fun p hp => by
  simp only [gamNewIn, List.mem_cons, List.not_mem_nil, or_false] at hp
  subst hp
  exact meetsClone
theorem meetsNewIn : Meets Try.prog 8 newInF := by
  refine meets_of_awp (Γ := lookΓ gamNewIn) (L := fun args => match args with | [.val (.sl xs .no)] => lpNewIn0 xs | _ => fun _ => none) sndNewIn mixedOrders Try.func8 rfl Try.call8 ?_
  intro args q r hF hq ho
  unfold newInF at hF
  split at hF
  · cases hF
    exact ⟨by simp only [List.length_cons, List.length_nil]; decide, okNewIn0 _ hq⟩
  · cases hF
theorem sndOutByte : Sound Try.prog (lookΓ gamOutByte) := sound_of _ fun p hp => by
  simp [gamOutByte] at hp
theorem meetsOutByte : Meets Try.prog 29 outByteF := by
  refine meets_of_awp (Γ := lookΓ gamOutByte) (L := fun args => match args with | [.box [.sl xs (.row p q te0)], .val (.int .u8 b)] => lpOutByte1 xs p q b | _ => fun _ => none) sndOutByte mixedOrders Try.func29 rfl Try.call29 ?_
  intro args q r hF hq ho
  unfold outByteF at hF
  split at hF
  · split at hF
    · rename_i hte
      subst hte
      cases hF
      exact ⟨by simp only [List.length_cons, List.length_nil]; decide, okOutByte1 _ _ _ _ hq (okay_u8 (argI 1 ho rfl rfl))⟩
    · cases hF
  · cases hF
theorem sndOutTruth : Sound Try.prog (lookΓ gamOutTruth) := sound_of _ fun p hp => by
  simp only [gamOutTruth, List.mem_cons, List.not_mem_nil, or_false] at hp
  subst hp
  exact meetsOutByte
theorem meetsOutTruth : Meets Try.prog 30 outTruthF := by
  refine meets_of_awp (Γ := lookΓ gamOutTruth) (L := fun args => match args with | [.box [.sl xs (.row p q te0)], .val (.bool b)] => lpOutTruth1 xs p q b | _ => fun _ => none) sndOutTruth mixedOrders Try.func30 rfl Try.call30 ?_
  intro args q r hF hq ho
  unfold outTruthF at hF
  split at hF
  · split at hF
    · rename_i hte
      subst hte
      cases hF
      exact ⟨by simp only [List.length_cons, List.length_nil]; decide, okOutTruth1 _ _ _ _ hq⟩
    · cases hF
  · cases hF
theorem sndOutShort : Sound Try.prog (lookΓ gamOutShort) := sound_of _ fun p hp => by
  simp only [gamOutShort, List.mem_cons, List.not_mem_nil, or_false] at hp
  subst hp
  exact meetsNumShort
theorem meetsOutShort : Meets Try.prog 31 outShortF := by
  refine meets_of_awp (Γ := lookΓ gamOutShort) (L := fun args => match args with | [.box [.sl xs (.row p q te0)], .val (.int .u64 v)] => lpOutShort1 xs p q v | _ => fun _ => none) sndOutShort mixedOrders Try.func31 rfl Try.call31 ?_
  intro args q r hF hq ho
  unfold outShortF at hF
  split at hF
  · split at hF
    · rename_i hte
      subst hte
      cases hF
      exact ⟨by simp only [List.length_cons, List.length_nil]; decide, okOutShort1 _ _ _ _ hq (okay_u64 (argI 1 ho rfl rfl))⟩
    · cases hF
  · cases hF
theorem sndOutFixed : Sound Try.prog (lookΓ gamOutFixed) := sound_of _ fun p hp => by
  simp only [gamOutFixed, List.mem_cons, List.not_mem_nil, or_false] at hp
  subst hp
  exact meetsNumBytes
theorem meetsOutFixed : Meets Try.prog 32 outFixedF := by
  refine meets_of_awp (Γ := lookΓ gamOutFixed) (L := fun args => match args with | [.box [.sl xs (.row p q te0)], .val (.int .u64 v)] => lpOutFixed1 xs p q v | _ => fun _ => none) sndOutFixed mixedOrders Try.func32 rfl Try.call32 ?_
  intro args q r hF hq ho
  unfold outFixedF at hF
  split at hF
  · split at hF
    · rename_i hte
      subst hte
      cases hF
      exact ⟨by simp only [List.length_cons, List.length_nil]; decide, okOutFixed1 _ _ _ _ hq⟩
    · cases hF
  · cases hF
theorem sndOutText : Sound Try.prog (lookΓ gamOutText) := sound_of _ fun p hp => by
  simp only [gamOutText, List.mem_cons, List.not_mem_nil, or_false] at hp
  subst hp
  exact meetsOutShort
theorem meetsOutText : Meets Try.prog 33 outTextF := by
  refine meets_of_awp (Γ := lookΓ gamOutText) (L := fun args => match args with | [.box [.sl xs (.row p q te0)], .val (.str s)] => lpOutText1 xs p q s | _ => fun _ => none) sndOutText mixedOrders Try.func33 rfl Try.call33 ?_
  intro args q r hF hq ho
  unfold outTextF at hF
  split at hF
  · split at hF
    · rename_i hte
      subst hte
      cases hF
      exact ⟨by simp only [List.length_cons, List.length_nil]; decide, okOutText1 _ _ _ _ hq⟩
    · cases hF
  · cases hF
theorem sndOutBytes : Sound Try.prog (lookΓ gamOutBytes) := sound_of _ fun p hp => by
  simp only [gamOutBytes, List.mem_cons, List.not_mem_nil, or_false] at hp
  subst hp
  exact meetsClone
theorem meetsOutBytes : Meets Try.prog 14 outBytesF := by
  refine meets_of_awp (Γ := lookΓ gamOutBytes) (L := fun args => match args with | [.box [.sl xs (.row p q te0)]] => lpOutBytes1 xs p q | _ => fun _ => none) sndOutBytes mixedOrders Try.func14 rfl Try.call14 ?_
  intro args q r hF hq ho
  unfold outBytesF at hF
  split at hF
  · split at hF
    · rename_i hte
      subst hte
      cases hF
      exact ⟨by simp only [List.length_cons, List.length_nil]; decide, okOutBytes1 _ _ _ hq⟩
    · cases hF
  · cases hF
end Go.Proofs.Ytledoikeaidlfaa
