/- NumBytes: whatever the arguments, the law returns true, and all that was there is as it was. No condition. -/
import Derived.Test.YtnhfjdbnkpbbkabFrame
import Derived.Test.YtnhfjdbnkpbbkabNumBytes
namespace Go.Proofs.Ytnhfjdbnkpbbkab
open Go.ChangeShapes Go.WideShapes Go.ChangeAt Go.RowKit
open Go.ChangeMaps (open_string shut_string)
set_option linter.unusedVariables false

set_option maxRecDepth 100000 in
theorem numBytes_lift (os : Os) (started : os.Started) (H : Type) (enc : TypeId × Value → H) :
    ReturnsInHanded {} Try.checked os 5 .any (Rows.numBytesSpec.pre6 enc Try.checked.prog Try.f5 [] false) (Rows.numBytesSpec.post enc Try.checked.prog Try.f5 false true false false) := by
  refine law_lift [36, 3, 37] os started H enc (by kernel_rfl) Try.func5 (by kernel_rfl) (by kernel_rfl) rfl (by kernel_rfl) ?_
    (ChangeSpec.witness6 (enc := enc) (C := Try.checked) false ⟨#[], #[.int .u64 0, .int .i64 0, .slice none 0 0], []⟩ 12 (by kernel_rfl) (by kernel_rfl) (by kernel_rfl) (by kernel_rfl)) ?_
  · intro ds h
    match ds, h with
    | [d0, d1, d2], _ => rfl
  intro W base args ds p g0
  obtain ⟨v0, _, d0, _, p0, _, rfl, hv0, ht0, hr0, g1⟩ := g0.next
  obtain ⟨a0, rfl, rfl, rfl, w0⟩ := open_int Try.underlying36 hv0 ht0
  have b0 := bounds_u64 w0
  obtain ⟨v1, _, d1, _, p1, _, rfl, hv1, ht1, hr1, g2⟩ := g1.next
  obtain ⟨a1, rfl, rfl, rfl, w1⟩ := open_int Try.underlying3 hv1 ht1
  have b1 := bounds_i64 w1
  obtain ⟨v2, _, d2, _, p2, _, rfl, hv2, ht2, hr2, g3⟩ := g2.next
  obtain ⟨A2, c2, l2, rfl, r2, lc2, cc2⟩ := open_bytes hv2 ht2 hr2
  obtain rfl := g3.done
  exact numBytes_walk a0 a1 A2 c2 l2 W b0.1 b0.2 b1.1 b1.2 r2 lc2 cc2

/-- The statement. -/
theorem numBytes_holds : Rows.NumBytesSaid :=
  OpenClaim.holds_of_wide 5 Try.f5 rfl rfl rfl rfl rfl rfl rfl ⟨rfl, rfl, rfl, rfl, rfl⟩ rfl rfl rfl rfl rfl (by kernel_rfl) Try.func5 (by kernel_rfl)
    (of_decide_eq_true (by kernel_rfl)) (by unfold Func.isWrapper; first | (rw [if_pos (by decide +kernel)]; kernel_rfl) | (rw [if_neg (by decide +kernel)]; exact ⟨rfl, rfl⟩))
    (fun os started H enc _ => numBytes_lift os started H enc)
#print axioms numBytes_holds
end Go.Proofs.Ytnhfjdbnkpbbkab
