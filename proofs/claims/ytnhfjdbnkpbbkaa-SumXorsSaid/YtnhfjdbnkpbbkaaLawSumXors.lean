/- SumXors: whatever the arguments, the law returns true, and all that was there is as it was. No condition. -/
import Derived.Test.YtnhfjdbnkpbbkaaFrame
import Derived.Test.YtnhfjdbnkpbbkaaSumXors
namespace Go.Proofs.Ytnhfjdbnkpbbkaa
open Go.ChangeShapes Go.WideShapes Go.ChangeAt Go.RowKit
open Go.ChangeMaps (open_string shut_string)
set_option linter.unusedVariables false

set_option maxRecDepth 100000 in
theorem sumXors_lift (os : Os) (started : os.Started) (H : Type) (enc : TypeId × Value → H) :
    ReturnsInHanded {} Try.checked os 9 .any (Rows.sumXorsSpec.pre6 enc Try.checked.prog Try.f9 [] false) (Rows.sumXorsSpec.post enc Try.checked.prog Try.f9 false true false false) := by
  refine law_lift [40, 40, 40] os started H enc (by kernel_rfl) Try.func9 (by kernel_rfl) (by kernel_rfl) rfl (by kernel_rfl) ?_
    (ChangeSpec.witness6 (enc := enc) (C := Try.checked) false ⟨#[], #[.slice none 0 0, .slice none 0 0, .slice none 0 0], []⟩ 12 (by kernel_rfl) (by kernel_rfl) (by kernel_rfl) (by kernel_rfl)) ?_
  · intro ds h
    match ds, h with
    | [d0, d1, d2], _ => rfl
  intro W base args ds p g0
  obtain ⟨v0, _, d0, _, p0, _, rfl, hv0, ht0, hr0, g1⟩ := g0.next
  obtain ⟨A0, c0, l0, rfl, r0, lc0, cc0⟩ := open_bytes hv0 ht0 hr0
  obtain ⟨v1, _, d1, _, p1, _, rfl, hv1, ht1, hr1, g2⟩ := g1.next
  obtain ⟨A1, c1, l1, rfl, r1, lc1, cc1⟩ := open_bytes hv1 ht1 hr1
  obtain ⟨v2, _, d2, _, p2, _, rfl, hv2, ht2, hr2, g3⟩ := g2.next
  obtain ⟨A2, c2, l2, rfl, r2, lc2, cc2⟩ := open_bytes hv2 ht2 hr2
  obtain rfl := g3.done
  exact xors_walk A0 A1 A2 c0 c1 c2 l0 l1 l2 W r0 lc0 cc0 r1 lc1 cc1 r2 lc2 cc2

/-- The statement. -/
theorem sumXors_holds : Rows.SumXorsSaid :=
  OpenClaim.holds_of_wide 9 Try.f9 rfl rfl rfl rfl rfl rfl rfl ⟨rfl, rfl, rfl, rfl, rfl⟩ rfl rfl rfl rfl rfl (by kernel_rfl) Try.func9 (by kernel_rfl)
    (of_decide_eq_true (by kernel_rfl)) (by unfold Func.isWrapper; first | (rw [if_pos (by decide +kernel)]; kernel_rfl) | (rw [if_neg (by decide +kernel)]; exact ⟨rfl, rfl⟩))
    (fun os started H enc _ => sumXors_lift os started H enc)
#print axioms sumXors_holds
end Go.Proofs.Ytnhfjdbnkpbbkaa
