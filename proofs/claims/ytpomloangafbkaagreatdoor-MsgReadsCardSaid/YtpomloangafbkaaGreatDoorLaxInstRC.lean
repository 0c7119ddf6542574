/- The document's answer whether a state may be, whatever its name. -/
import Derived.Test.YtpomloangafbkaaGreatDoorLaxPkInstR
namespace Go.Proofs.YtpomloangafbkaaGreatDoor
set_option linter.unusedVariables false
open Go.RowKit
def xrightF : Con
  | [.val (.agg zcx)] => (match instOf zcx with | some x => some (smallX x, ⟨.bool (rightI x), none, none⟩) | _ => none)
  | _ => none
theorem meetsXright : Meets Tryz.prog 11 xrightF := by
  refine ⟨meetsXrightI.enters, fun args us w GE own d site q r hF hq hc hsite hs => ?_⟩
  unfold xrightF at hF
  split at hF
  · split at hF
    · rename_i x hzx
      obtain rfl := instOf_some hzx
      cases hF
      cases hr : rightId x.r x.sl
      · exact meetsXrightN.calls _ us w GE own d site _ _ rfl ⟨hq, hr⟩ hc hsite hs
      · exact meetsXrightI.calls _ us w GE own d site _ _ rfl ⟨hq, hr⟩ hc hsite hs
    · cases hF
  · cases hF
end Go.Proofs.YtpomloangafbkaaGreatDoor
