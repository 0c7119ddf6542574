/- SumOf: whatever the arguments, the law returns true, and all that was there is as it was. No condition. -/
import Derived.Test.YtnhfjdbnkpbbkaaFrame
import Derived.Test.YtnhfjdbnkpbbkaaLaxSumsWalk
namespace Go.Proofs.Ytnhfjdbnkpbbkaa
open Go.ChangeShapes Go.WideShapes Go.ChangeAt Go.RowKit
open Go.ChangeMaps (open_string shut_string)
set_option linter.unusedVariables false

set_option maxRecDepth 100000 in
theorem sumOf_lift (os : Os) (started : os.Started) (H : Type) (enc : TypeId × Value → H) :
    ReturnsInHanded {} Try.checked os 8 .any (Rows.sumOfSpec.pre6 enc Try.checked.prog Try.f8 [] false) (Rows.sumOfSpec.post enc Try.checked.prog Try.f8 false true false false) := by
  refine law_lift [40, 3] os started H enc (by kernel_rfl) Try.func8 (by kernel_rfl) (by kernel_rfl) rfl (by kernel_rfl) ?_
    (ChangeSpec.witness6 (enc := enc) (C := Try.checked) false ⟨#[], #[.slice none 0 0, .int .i64 0], []⟩ 12 (by kernel_rfl) (by kernel_rfl) (by kernel_rfl) (by kernel_rfl)) ?_
  · intro ds h
    match ds, h with
    | [d0, d1], _ => rfl
  intro W base args ds p g0
  obtain ⟨v0, _, d0, _, p0, _, rfl, hv0, ht0, hr0, g1⟩ := g0.next
  obtain ⟨A0, c0, l0, rfl, r0, lc0, cc0⟩ := open_bytes hv0 ht0 hr0
  obtain ⟨v1, _, d1, _, p1, _, rfl, hv1, ht1, hr1, g2⟩ := g1.next
  obtain ⟨a1, rfl, rfl, rfl, w1⟩ := open_int Try.underlying3 hv1 ht1
  have b1 := bounds_i64 w1
  obtain rfl := g2.done
  exact sumOf_walk A0 c0 l0 r0 lc0 cc0 b1.1 b1.2

/-- The statement. -/
theorem sumOf_holds : Rows.SumOfSaid :=
  OpenClaim.holds_of_wide 8 Try.f8 rfl rfl rfl rfl rfl rfl rfl ⟨rfl, rfl, rfl, rfl, rfl⟩ rfl rfl rfl rfl rfl (by kernel_rfl) Try.func8 (by kernel_rfl)
    (of_decide_eq_true (by kernel_rfl)) (by unfold Func.isWrapper; first | (rw [if_pos (by decide +kernel)]; kernel_rfl) | (rw [if_neg (by decide +kernel)]; exact ⟨rfl, rfl⟩))
    (fun os started H enc _ => sumOf_lift os started H enc)
#print axioms sumOf_holds
end Go.Proofs.Ytnhfjdbnkpbbkaa
