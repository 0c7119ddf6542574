/- AttrMerge: whatever the arguments, the law returns true, and all that was there is as it was. No condition. -/
import Derived.Test.YtnhfjdbnkpbbkabFrame
import Derived.Test.YtnhfjdbnkpbbkabLaxMergeLaw
namespace Go.Proofs.Ytnhfjdbnkpbbkab
open Go.ChangeShapes Go.WideShapes Go.ChangeAt Go.RowKit
open Go.ChangeMaps (open_string shut_string)
set_option linter.unusedVariables false

set_option maxRecDepth 100000 in
theorem attrMerge_lift (os : Os) (started : os.Started) (H : Type) (enc : TypeId × Value → H) :
    ReturnsInHanded {} Try.checked os 3 .any (Rows.attrMergeSpec.pre6 enc Try.checked.prog Try.f3 [] false) (Rows.attrMergeSpec.post enc Try.checked.prog Try.f3 false true false false) := by
  refine law_lift [24, 24, 24] os started H enc (by kernel_rfl) Try.func3 (by kernel_rfl) (by kernel_rfl) rfl (by kernel_rfl) ?_
    (ChangeSpec.witness6 (enc := enc) (C := Try.checked) false ⟨#[], #[.agg #[.int .i64 0, .int .i64 0, .int .i64 0, .int .i64 0, .int .i64 0, .int .i64 0, .int .i64 0, .int .i64 0], .agg #[.int .i64 0, .int .i64 0, .int .i64 0, .int .i64 0, .int .i64 0, .int .i64 0, .int .i64 0, .int .i64 0], .agg #[.int .i64 0, .int .i64 0, .int .i64 0, .int .i64 0, .int .i64 0, .int .i64 0, .int .i64 0, .int .i64 0]], []⟩ 12 (by kernel_rfl) (by kernel_rfl) (by kernel_rfl) (by kernel_rfl)) ?_
  · intro ds h
    match ds, h with
    | [d0, d1, d2], _ => rfl
  intro W base args ds p g0
  obtain ⟨v0, _, d0, _, p0, _, rfl, hv0, ht0, hr0, g1⟩ := g0.next
  obtain ⟨v1, _, d1, _, p1, _, rfl, hv1, ht1, hr1, g2⟩ := g1.next
  obtain ⟨v2, _, d2, _, p2, _, rfl, hv2, ht2, hr2, g3⟩ := g2.next
  obtain rfl := g3.done
  exact attrMerge_walk hv0 hv1 hv2

/-- The statement. -/
theorem attrMerge_holds : Rows.AttrMergeSaid :=
  OpenClaim.holds_of_wide 3 Try.f3 rfl rfl rfl rfl rfl rfl rfl ⟨rfl, rfl, rfl, rfl, rfl⟩ rfl rfl rfl rfl rfl (by kernel_rfl) Try.func3 (by kernel_rfl)
    (of_decide_eq_true (by kernel_rfl)) (by unfold Func.isWrapper; first | (rw [if_pos (by decide +kernel)]; kernel_rfl) | (rw [if_neg (by decide +kernel)]; exact ⟨rfl, rfl⟩))
    (fun os started H enc _ => attrMerge_lift os started H enc)
#print axioms attrMerge_holds
end Go.Proofs.Ytnhfjdbnkpbbkab
