/- MsgFrames, whatever the message. -/
import Derived.Test.YtfoabkkkdcicgaaGreatDoorLaxPkMsgY
namespace Go.Proofs.YtfoabkkkdcicgaaGreatDoor
set_option linter.unusedVariables false
open Go.RowKit
def lawFramesF : Con
  | [.val (.agg zcm)] => (match msgOf zcm with | some m => some (maxX m.x, ⟨.bool true, none, none⟩) | _ => none)
  | _ => none
theorem meetsLawFrames : Meets Tryz.prog 4 lawFramesF := by
  refine ⟨meetsLawFramesT.enters, fun args us w GE own d site q r hF hq hc hsite hs => ?_⟩
  unfold lawFramesF at hF
  split at hF
  · split at hF
    · rename_i m hz
      obtain rfl := msgOf_some hz
      cases hF
      cases hr : rightM m with
      | true => exact meetsLawFramesT.calls _ us w GE own d site _ _ rfl ⟨hq, hr⟩ hc hsite hs
      | false => exact meetsLawFramesN.calls _ us w GE own d site _ _ rfl ⟨hq, hr⟩ hc hsite hs
    · cases hF
  · cases hF
end Go.Proofs.YtfoabkkkdcicgaaGreatDoor
