/- WireTakes: whatever the arguments, the law returns true, and all that was there is as it was. No condition. -/
import Derived.Test.YtledoikeaidlfaaFrame
import Derived.Test.YtledoikeaidlfaaLaxLaw3Walk
namespace Go.Proofs.Ytledoikeaidlfaa
open Go.ChangeShapes Go.WideShapes Go.ChangeAt Go.RowKit
open Go.ChangeMaps (open_string shut_string)
set_option linter.unusedVariables false

set_option maxRecDepth 100000 in
theorem wireTakes_lift (os : Os) (started : os.Started) (H : Type) (enc : TypeId × Value → H) :
    ReturnsInHanded {} Try.checked os 5 .any (Rows.wireTakesSpec.pre6 enc Try.checked.prog Try.f5 [] false) (Rows.wireTakesSpec.post enc Try.checked.prog Try.f5 false true false false) := by
  refine law_lift [22, 56] os started H enc (by kernel_rfl) Try.func5 (by kernel_rfl) (by kernel_rfl) rfl (by kernel_rfl) ?_
    (ChangeSpec.witness6 (enc := enc) (C := Try.checked) false ⟨#[], #[.slice none 0 0, .slice none 0 0], []⟩ 12 (by kernel_rfl) (by kernel_rfl) (by kernel_rfl) (by kernel_rfl)) ?_
  · intro ds h
    match ds, h with
    | [d0, d1], _ => rfl
  intro W base args ds p g0
  obtain ⟨v0, _, d0, _, p0, _, rfl, hv0, ht0, hr0, g1⟩ := g0.next
  obtain ⟨A0, c0, l0, rfl, r0, lc0, cc0⟩ := open_bytes hv0 ht0 hr0
  obtain ⟨v1, _, d1, _, p1, _, rfl, hv1, ht1, hr1, g2⟩ := g1.next
  
  obtain rfl := g2.done
  exact wireTakes_walk A0 c0 l0 r0 lc0 cc0 hv1 ht1

/-- The statement. -/
theorem wireTakes_holds : Rows.WireTakesSaid :=
  OpenClaim.holds_of_wide 5 Try.f5 rfl rfl rfl rfl rfl rfl rfl ⟨rfl, rfl, rfl, rfl, rfl⟩ rfl rfl rfl rfl rfl (by kernel_rfl) Try.func5 (by kernel_rfl)
    (of_decide_eq_true (by kernel_rfl)) (by unfold Func.isWrapper; first | (rw [if_pos (by decide +kernel)]; kernel_rfl) | (rw [if_neg (by decide +kernel)]; exact ⟨rfl, rfl⟩))
    (fun os started H enc _ => wireTakes_lift os started H enc)
#print axioms wireTakes_holds
end Go.Proofs.Ytledoikeaidlfaa
