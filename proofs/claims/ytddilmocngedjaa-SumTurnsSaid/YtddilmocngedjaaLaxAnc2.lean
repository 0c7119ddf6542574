/- The example of the sums, by content. -/
import Derived.Test.YtddilmocngedjaaLaxSumM
import Derived.Test.YtddilmocngedjaaSumAnchor
namespace Go.Proofs.Ytddilmocngedjaa
set_option linter.unusedVariables false
open Go.RowKit
def anchor2F : Con
  | [] => some (True, ⟨.bool true, none, none⟩)
  | _ => none
theorem meetsAnchor2 : Meets Try.prog 9 anchor2F := by
  refine meets_plain Try.call9 ?_
  intro args q r hF hq
  unfold anchor2F at hF
  split at hF
  · cases hF
    refine ⟨[], rfl, rfl, fun x hx => (by cases hx), rfl, rfl, rfl, ?_⟩
    intro us w S hs h
    obtain rfl : us = #[] := by
      have : us.size = 0 := by simpa using hs
      exact Array.eq_empty_of_size_eq_zero this
    refine (anchor02 w).mono ?_
    rintro e w' ⟨rfl, hb⟩
    exact ⟨_, rfl, hb, (RepP.bool true : RepP _ _ _ _)⟩
  · cases hF
end Go.Proofs.Ytddilmocngedjaa
