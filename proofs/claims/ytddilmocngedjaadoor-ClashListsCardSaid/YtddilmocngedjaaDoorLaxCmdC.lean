/- The document's answer whether a command may be, whatever its kind. -/
import Derived.Test.YtddilmocngedjaaDoorLaxPkCmdA
import Derived.Test.YtddilmocngedjaaDoorLaxPkCmdB
namespace Go.Proofs.YtddilmocngedjaaDoor
open Go.RowKit
def rrightF : Con
  | [.val (.agg [.int .i64 k, .int .u64 num, .str foot, .int .u64 rq, .str path, .int .i64 mode, .int .u64 n, .int .i64 time])] => some (foot.length ≤ 900000 ∧ path.length ≤ 900000, ⟨.bool (rightC ⟨k, num, foot, rq, path, mode, n, time⟩), none, none⟩)
  | _ => none
theorem rightC_out {c : CmdP} (h : ¬ (0 ≤ c.k ∧ c.k ≤ 8)) : rightC c = false := by
  have : okK c.k = false := by unfold okK; simp; omega
  simp [rightC, this]
theorem meetsRright : Meets Tryd.prog 59 rrightF := by
  refine ⟨meetsRrightI.enters, fun args us w GE own d site q r hF hq hc hsite hs => ?_⟩
  unfold rrightF at hF
  split at hF
  · rename_i k num foot rq path mode n time
    cases hF
    by_cases hk : 0 ≤ k ∧ k ≤ 8
    · exact meetsRrightI.calls _ us w GE own d site _ _ rfl ⟨hk, hq⟩ hc hsite hs
    · rw [rightC_out (c := ⟨k, num, foot, rq, path, mode, n, time⟩) hk]
      exact meetsRrightO.calls _ us w GE own d site _ _ rfl ⟨by omega, hq⟩ hc hsite hs
  · cases hF
end Go.Proofs.YtddilmocngedjaaDoor
