/- AttrPast: whatever the arguments, the law returns true, and all that was there is as it was. No condition. -/
import Derived.Test.YtnhfjdbnkpbbkaaFrame
import Derived.Test.YtnhfjdbnkpbbkaaLaxPast
namespace Go.Proofs.Ytnhfjdbnkpbbkaa
open Go.ChangeShapes Go.WideShapes Go.ChangeAt Go.RowKit
open Go.ChangeMaps (open_string shut_string)
set_option linter.unusedVariables false

set_option maxRecDepth 100000 in
theorem attrPast_lift (os : Os) (started : os.Started) (H : Type) (enc : TypeId × Value → H) :
    ReturnsInHanded {} Try.checked os 11 .any (Rows.attrPastSpec.pre6 enc Try.checked.prog Try.f11 [] false) (Rows.attrPastSpec.post enc Try.checked.prog Try.f11 false true false false) := by
  refine law_lift [45, 3] os started H enc (by kernel_rfl) Try.func11 (by kernel_rfl) (by kernel_rfl) rfl (by kernel_rfl) ?_
    (ChangeSpec.witness6 (enc := enc) (C := Try.checked) false ⟨#[], #[.agg #[.int .i64 0, .int .i64 0, .int .i64 0, .int .i64 0, .int .i64 0, .int .i64 0, .int .i64 0, .int .i64 0], .int .i64 0], []⟩ 12 (by kernel_rfl) (by kernel_rfl) (by kernel_rfl) (by kernel_rfl)) ?_
  · intro ds h
    match ds, h with
    | [d0, d1], _ => rfl
  intro W base args ds p g0
  obtain ⟨v0, _, d0, _, p0, _, rfl, hv0, ht0, hr0, g1⟩ := g0.next
  obtain ⟨v1, _, d1, _, p1, _, rfl, hv1, ht1, hr1, g2⟩ := g1.next
  obtain ⟨a1, rfl, rfl, rfl, w1⟩ := open_int Try.underlying3 hv1 ht1
  have b1 := bounds_i64 w1
  obtain rfl := g2.done
  exact attrPast_walk hv0 b1.1 b1.2

/-- The statement. -/
theorem attrPast_holds : Rows.AttrPastSaid :=
  OpenClaim.holds_of_wide 11 Try.f11 rfl rfl rfl rfl rfl rfl rfl ⟨rfl, rfl, rfl, rfl, rfl⟩ rfl rfl rfl rfl rfl (by kernel_rfl) Try.func11 (by kernel_rfl)
    (of_decide_eq_true (by kernel_rfl)) (by unfold Func.isWrapper; first | (rw [if_pos (by decide +kernel)]; kernel_rfl) | (rw [if_neg (by decide +kernel)]; exact ⟨rfl, rfl⟩))
    (fun os started H enc _ => attrPast_lift os started H enc)
#print axioms attrPast_holds
end Go.Proofs.Ytnhfjdbnkpbbkaa
