/- MarkWords: whatever the arguments, the law returns true, and all that was there is as it was. No condition. -/
import Derived.Test.YtnhfjdbnkpbbkabFrame
import Derived.Test.YtnhfjdbnkpbbkabMarkWords
namespace Go.Proofs.Ytnhfjdbnkpbbkab
open Go.ChangeShapes Go.WideShapes Go.ChangeAt Go.RowKit
open Go.ChangeMaps (open_string shut_string)
set_option linter.unusedVariables false

set_option maxRecDepth 100000 in
theorem markWords_lift (os : Os) (started : os.Started) (H : Type) (enc : TypeId × Value → H) :
    ReturnsInHanded {} Try.checked os 8 .any (Rows.markWordsSpec.pre6 enc Try.checked.prog Try.f8 [] false) (Rows.markWordsSpec.post enc Try.checked.prog Try.f8 false true false false) := by
  refine law_lift [33, 33, 36] os started H enc (by kernel_rfl) Try.func8 (by kernel_rfl) (by kernel_rfl) rfl (by kernel_rfl) ?_
    (ChangeSpec.witness6 (enc := enc) (C := Try.checked) false ⟨#[], #[.agg #[.int .i64 0, .int .i64 0], .agg #[.int .i64 0, .int .i64 0], .int .u64 0], []⟩ 12 (by kernel_rfl) (by kernel_rfl) (by kernel_rfl) (by kernel_rfl)) ?_
  · intro ds h
    match ds, h with
    | [d0, d1, d2], _ => rfl
  intro W base args ds p g0
  obtain ⟨v0, _, d0, _, p0, _, rfl, hv0, ht0, hr0, g1⟩ := g0.next
  obtain ⟨i0, j0, rfl, wi0, wj0⟩ := open_id hv0 ht0
  have bi0 := bounds_i64 wi0
  have bj0 := bounds_i64 wj0
  obtain ⟨v1, _, d1, _, p1, _, rfl, hv1, ht1, hr1, g2⟩ := g1.next
  obtain ⟨i1, j1, rfl, wi1, wj1⟩ := open_id hv1 ht1
  have bi1 := bounds_i64 wi1
  have bj1 := bounds_i64 wj1
  obtain ⟨v2, _, d2, _, p2, _, rfl, hv2, ht2, hr2, g3⟩ := g2.next
  obtain ⟨a2, rfl, rfl, rfl, w2⟩ := open_int Try.underlying36 hv2 ht2
  have b2 := bounds_u64 w2
  obtain rfl := g3.done
  exact words_walk i0 j0 i1 j1 a2 W b2.1 b2.2

/-- The statement. -/
theorem markWords_holds : Rows.MarkWordsSaid :=
  OpenClaim.holds_of_wide 8 Try.f8 rfl rfl rfl rfl rfl rfl rfl ⟨rfl, rfl, rfl, rfl, rfl⟩ rfl rfl rfl rfl rfl (by kernel_rfl) Try.func8 (by kernel_rfl)
    (of_decide_eq_true (by kernel_rfl)) (by unfold Func.isWrapper; first | (rw [if_pos (by decide +kernel)]; kernel_rfl) | (rw [if_neg (by decide +kernel)]; exact ⟨rfl, rfl⟩))
    (fun os started H enc _ => markWords_lift os started H enc)
#print axioms markWords_holds
end Go.Proofs.Ytnhfjdbnkpbbkab
