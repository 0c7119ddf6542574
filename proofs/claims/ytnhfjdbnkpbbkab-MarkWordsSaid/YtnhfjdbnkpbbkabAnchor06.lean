/- The anchor of layer 6. -/
import Derived.Test.YtnhfjdbnkpbbkabMarkP
namespace Go.Proofs.Ytnhfjdbnkpbbkab
set_option linter.unusedVariables false
open Go.RowKit

theorem anchor06 (w : World) : Calls Try.prog 26 #[] w fun e w' => e = .returned (.bool true) ∧ w = w' := by
  have e1 : bNext 0 2 = (10, 0) := rfl
  have e2 : bNext 10 0 = (16, 0) := rfl
  go_enter Try.func26, Try.ntmps26
  go_wp2_with (fail)
  refine (next_any _ _ _ (by omega) (by omega) (by omega) (by omega)).mono ?_; rintro e w2 ⟨rfl, rfl⟩
  rw [e1]
  go_wp2_with (fail)
  refine (next_any _ _ _ (by omega) (by omega) (by omega) (by omega)).mono ?_; rintro e w2 ⟨rfl, rfl⟩
  rw [e2]
  go_wp2_with (fail)
  go_ret
  exact ⟨rfl, rfl⟩

end Go.Proofs.Ytnhfjdbnkpbbkab
