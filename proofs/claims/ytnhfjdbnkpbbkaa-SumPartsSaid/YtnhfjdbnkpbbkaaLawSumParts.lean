/- SumParts: whatever the arguments, the law returns true, and all that was there is as it was. No condition. -/
import Derived.Test.YtnhfjdbnkpbbkaaFrame
import Derived.Test.YtnhfjdbnkpbbkaaLaxSumsWalk
namespace Go.Proofs.Ytnhfjdbnkpbbkaa
open Go.ChangeShapes Go.WideShapes Go.ChangeAt Go.RowKit
open Go.ChangeMaps (open_string shut_string)
set_option linter.unusedVariables false

set_option maxRecDepth 100000 in
theorem sumParts_lift (os : Os) (started : os.Started) (H : Type) (enc : TypeId × Value → H) :
    ReturnsInHanded {} Try.checked os 10 .any (Rows.sumPartsSpec.pre6 enc Try.checked.prog Try.f10 [] false) (Rows.sumPartsSpec.post enc Try.checked.prog Try.f10 false true false false) := by
  refine law_lift [55] os started H enc (by kernel_rfl) Try.func10 (by kernel_rfl) (by kernel_rfl) rfl (by kernel_rfl) ?_
    (ChangeSpec.witness6 (enc := enc) (C := Try.checked) false ⟨#[], #[.slice none 0 0], []⟩ 12 (by kernel_rfl) (by kernel_rfl) (by kernel_rfl) (by kernel_rfl)) ?_
  · intro ds h
    match ds, h with
    | [d0], _ => rfl
  intro W base args ds p g0
  obtain ⟨v0, _, d0, _, p0, _, rfl, hv0, ht0, hr0, g1⟩ := g0.next
  
  obtain rfl := g1.done
  exact sumParts_walk hv0 ht0

/-- The statement. -/
theorem sumParts_holds : Rows.SumPartsSaid :=
  OpenClaim.holds_of_wide 10 Try.f10 rfl rfl rfl rfl rfl rfl rfl ⟨rfl, rfl, rfl, rfl, rfl⟩ rfl rfl rfl rfl rfl (by kernel_rfl) Try.func10 (by kernel_rfl)
    (of_decide_eq_true (by kernel_rfl)) (by unfold Func.isWrapper; first | (rw [if_pos (by decide +kernel)]; kernel_rfl) | (rw [if_neg (by decide +kernel)]; exact ⟨rfl, rfl⟩))
    (fun os started H enc _ => sumParts_lift os started H enc)
#print axioms sumParts_holds
end Go.Proofs.Ytnhfjdbnkpbbkaa
