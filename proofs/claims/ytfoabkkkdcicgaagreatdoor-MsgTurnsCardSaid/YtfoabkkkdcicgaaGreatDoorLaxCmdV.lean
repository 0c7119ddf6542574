/- Commands into bytes and out of them: the contracts, whatever the kind. -/
import Derived.Test.YtfoabkkkdcicgaaGreatDoorLaxPkCmdW
namespace Go.Proofs.YtfoabkkkdcicgaaGreatDoor
set_option linter.unusedVariables false
open Go.RowKit
def cputF : Con
  | [.val (.agg [.int .i64 k, .int .u64 num, .str foot, .int .u64 rq, .str path, .int .i64 mode, .int .u64 n, .int .i64 time]), .box [.sl xs (.row p q te0)]] =>
    if te0 = 5 then some ((foot.length ≤ 900000 ∧ path.length ≤ 900000) ∧ isBytes xs ∧ xs.length + 2000000 ≤ 140737488355328, ⟨.tup [], some [.sl (bytesAV (catL (bytesL xs) (encP ⟨k, num, foot, rq, path, mode, n, time⟩))) (.row 0 0 5)], none⟩) else none
  | _ => none
theorem rightC_kind {c : CmdP} (h : rightC c = true) : 0 ≤ c.k ∧ c.k ≤ 8 := by
  by_cases hk : 0 ≤ c.k ∧ c.k ≤ 8
  · exact hk
  · have : okK c.k = false := by unfold okK; simp; omega
    simp [rightC, this] at h
theorem meetsCput : Meets Tryz.prog 73 cputF := by
  refine ⟨meetsCputI.enters, fun args us w GE own d site q r hF hq hc hsite hs => ?_⟩
  unfold cputF at hF
  split at hF
  · rename_i k num foot rq path mode n time xs p q' te0
    split at hF
    · rename_i ht
      subst ht
      cases hF
      cases hr : rightC ⟨k, num, foot, rq, path, mode, n, time⟩
      · have e : encP ⟨k, num, foot, rq, path, mode, n, time⟩ = encByte 0 := by unfold encP; rw [hr]; rfl
        rw [e]
        exact meetsCputN.calls _ us w GE own d site _ _ rfl ⟨hr, hq⟩ hc hsite hs
      · have e : encP ⟨k, num, foot, rq, path, mode, n, time⟩ = encC ⟨k, num, foot, rq, path, mode, n, time⟩ := by unfold encP; rw [hr]; rfl
        rw [e]
        exact meetsCputI.calls _ us w GE own d site _ _ rfl ⟨rightC_kind hr, hr, hq⟩ hc hsite hs
    · cases hF
  · cases hF
end Go.Proofs.YtfoabkkkdcicgaaGreatDoor
