/- SumSeals: whatever the arguments, the law returns true, and all that was there is as it was. No condition. -/
import Derived.Test.YtnhfjdbnkpbbkabFrame
import Derived.Test.YtnhfjdbnkpbbkabLaxSealsWalk
namespace Go.Proofs.Ytnhfjdbnkpbbkab
open Go.ChangeShapes Go.WideShapes Go.ChangeAt Go.RowKit
open Go.ChangeMaps (open_string shut_string)
set_option linter.unusedVariables false

set_option maxRecDepth 100000 in
theorem sumSeals_lift (os : Os) (started : os.Started) (H : Type) (enc : TypeId × Value → H) :
    ReturnsInHanded {} Try.checked os 6 .any (Rows.sumSealsSpec.pre6 enc Try.checked.prog Try.f6 [] false) (Rows.sumSealsSpec.post enc Try.checked.prog Try.f6 false true false false) := by
  refine law_lift [37] os started H enc (by kernel_rfl) Try.func6 (by kernel_rfl) (by kernel_rfl) rfl (by kernel_rfl) ?_
    (ChangeSpec.witness6 (enc := enc) (C := Try.checked) false ⟨#[], #[.slice none 0 0], []⟩ 12 (by kernel_rfl) (by kernel_rfl) (by kernel_rfl) (by kernel_rfl)) ?_
  · intro ds h
    match ds, h with
    | [d0], _ => rfl
  intro W base args ds p g0
  obtain ⟨v0, _, d0, _, p0, _, rfl, hv0, ht0, hr0, g1⟩ := g0.next
  obtain ⟨A0, c0, l0, rfl, r0, lc0, cc0⟩ := open_bytes hv0 ht0 hr0
  obtain rfl := g1.done
  exact sumSeals_walk A0 c0 l0 r0 lc0 cc0

/-- The statement. -/
theorem sumSeals_holds : Rows.SumSealsSaid :=
  OpenClaim.holds_of_wide 6 Try.f6 rfl rfl rfl rfl rfl rfl rfl ⟨rfl, rfl, rfl, rfl, rfl⟩ rfl rfl rfl rfl rfl (by kernel_rfl) Try.func6 (by kernel_rfl)
    (of_decide_eq_true (by kernel_rfl)) (by unfold Func.isWrapper; first | (rw [if_pos (by decide +kernel)]; kernel_rfl) | (rw [if_neg (by decide +kernel)]; exact ⟨rfl, rfl⟩))
    (fun os started H enc _ => sumSeals_lift os started H enc)
#print axioms sumSeals_holds
end Go.Proofs.Ytnhfjdbnkpbbkab
