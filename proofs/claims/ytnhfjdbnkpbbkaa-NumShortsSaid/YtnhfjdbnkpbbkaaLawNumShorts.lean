/- NumShorts: whatever the arguments, the law returns true, and all that was there is as it was. No condition. -/
import Derived.Test.YtnhfjdbnkpbbkaaFrame
import Derived.Test.YtnhfjdbnkpbbkaaNumShorts
namespace Go.Proofs.Ytnhfjdbnkpbbkaa
open Go.ChangeShapes Go.WideShapes Go.ChangeAt Go.RowKit
open Go.ChangeMaps (open_string shut_string)
set_option linter.unusedVariables false

set_option maxRecDepth 100000 in
theorem numShorts_lift (os : Os) (started : os.Started) (H : Type) (enc : TypeId × Value → H) :
    ReturnsInHanded {} Try.checked os 12 .any (Rows.numShortsSpec.pre6 enc Try.checked.prog Try.f12 [] false) (Rows.numShortsSpec.post enc Try.checked.prog Try.f12 false true false false) := by
  refine law_lift [22, 40] os started H enc (by kernel_rfl) Try.func12 (by kernel_rfl) (by kernel_rfl) rfl (by kernel_rfl) ?_
    (ChangeSpec.witness6 (enc := enc) (C := Try.checked) false ⟨#[], #[.int .u64 0, .slice none 0 0], []⟩ 12 (by kernel_rfl) (by kernel_rfl) (by kernel_rfl) (by kernel_rfl)) ?_
  · intro ds h
    match ds, h with
    | [d0, d1], _ => rfl
  intro W base args ds p g0
  obtain ⟨v0, _, d0, _, p0, _, rfl, hv0, ht0, hr0, g1⟩ := g0.next
  obtain ⟨a0, rfl, rfl, rfl, w0⟩ := open_int Try.underlying22 hv0 ht0
  have b0 := bounds_u64 w0
  obtain ⟨v1, _, d1, _, p1, _, rfl, hv1, ht1, hr1, g2⟩ := g1.next
  obtain ⟨A1, c1, l1, rfl, r1, lc1, cc1⟩ := open_bytes hv1 ht1 hr1
  obtain rfl := g2.done
  exact shorts_walk a0 A1 c1 l1 W b0.1 b0.2 r1 lc1 cc1

/-- The statement. -/
theorem numShorts_holds : Rows.NumShortsSaid :=
  OpenClaim.holds_of_wide 12 Try.f12 rfl rfl rfl rfl rfl rfl rfl ⟨rfl, rfl, rfl, rfl, rfl⟩ rfl rfl rfl rfl rfl (by kernel_rfl) Try.func12 (by kernel_rfl)
    (of_decide_eq_true (by kernel_rfl)) (by unfold Func.isWrapper; first | (rw [if_pos (by decide +kernel)]; kernel_rfl) | (rw [if_neg (by decide +kernel)]; exact ⟨rfl, rfl⟩))
    (fun os started H enc _ => numShorts_lift os started H enc)
#print axioms numShorts_holds
end Go.Proofs.Ytnhfjdbnkpbbkaa
