/- The document's reading of a command, whatever its kind. -/
import Derived.Test.YtfoabkkkdcicgaaGreatDoorLaxPkRefC
namespace Go.Proofs.YtfoabkkkdcicgaaGreatDoor
set_option linter.unusedVariables false
open Go.RowKit
def refCtakeF : Con
  | [.val (.agg [.sl xs .no, .int .i64 at', .int .i64 e])] => some (isBytes xs ∧ 0 ≤ at' ∧ at' ≤ xs.length, ⟨.tup [.agg [.sl xs .no, .int .i64 (refAt (bytesL xs) (ctR (refL (bytesL xs) at') e)), .int .i64 (ctE (refL (bytesL xs) at') e)], .agg (cmdL (ctC (refL (bytesL xs) at') e))], none, none⟩)
  | _ => none
theorem meetsRefCtake : Meets Tryz.prog 34 refCtakeF := by
  refine ⟨meetsRefCtO.enters, fun args us w GE own d site q r hF hq hc hsite hs => ?_⟩
  unfold refCtakeF at hF
  split at hF
  · rename_i xs at' e
    cases hF
    have hr := inByteV_range (refL (bytesL xs) at') e
    by_cases h : 8 < inByteV (refL (bytesL xs) at') e
    · exact meetsRefCtO.calls _ us w GE own d site _ _ rfl ⟨h, hq⟩ hc hsite hs
    · have h9 : inByteV (refL (bytesL xs) at') e = 0 ∨ inByteV (refL (bytesL xs) at') e = 1 ∨ inByteV (refL (bytesL xs) at') e = 2 ∨ inByteV (refL (bytesL xs) at') e = 3 ∨ inByteV (refL (bytesL xs) at') e = 4 ∨ inByteV (refL (bytesL xs) at') e = 5 ∨ inByteV (refL (bytesL xs) at') e = 6 ∨ inByteV (refL (bytesL xs) at') e = 7 ∨ inByteV (refL (bytesL xs) at') e = 8 := by omega
      rcases h9 with h | h | h | h | h | h | h | h | h
      · exact meetsRefCt0.calls _ us w GE own d site _ _ rfl ⟨h, hq⟩ hc hsite hs
      · exact meetsRefCt1.calls _ us w GE own d site _ _ rfl ⟨h, hq⟩ hc hsite hs
      · exact meetsRefCt2.calls _ us w GE own d site _ _ rfl ⟨h, hq⟩ hc hsite hs
      · exact meetsRefCt3.calls _ us w GE own d site _ _ rfl ⟨h, hq⟩ hc hsite hs
      · exact meetsRefCt4.calls _ us w GE own d site _ _ rfl ⟨h, hq⟩ hc hsite hs
      · exact meetsRefCt5.calls _ us w GE own d site _ _ rfl ⟨h, hq⟩ hc hsite hs
      · exact meetsRefCt6.calls _ us w GE own d site _ _ rfl ⟨h, hq⟩ hc hsite hs
      · exact meetsRefCt7.calls _ us w GE own d site _ _ rfl ⟨h, hq⟩ hc hsite hs
      · exact meetsRefCt8.calls _ us w GE own d site _ _ rfl ⟨h, hq⟩ hc hsite hs
  · cases hF
end Go.Proofs.YtfoabkkkdcicgaaGreatDoor
