/- WirePuts: whatever the arguments, the law returns true, and all that was there is as it was. The second form: arguments of bulk at most 1048576. -/
import Derived.Test.YtledoikeaidlfaaFrameUpto
import Derived.Test.YtledoikeaidlfaaLaxPutsWalk
namespace Go.Proofs.Ytledoikeaidlfaa
open Go.ChangeShapes Go.WideShapes Go.ChangeAt Go.RowKit
open Go.ChangeMaps (open_string shut_string)
set_option linter.unusedVariables false

set_option maxRecDepth 100000 in
theorem wirePuts_lift (os : Os) (started : os.Started) (H : Type) (enc : TypeId × Value → H) (F : Stop.Interp) :
    ReturnsInHanded {} Try.checked os 6 .any ((Rows.OpenSpec.upto Rows.wirePutsSpec).pre6 enc Try.checked.prog Try.f6 [] false) (((Rows.OpenSpec.upto Rows.wirePutsSpec).at F).post enc Try.checked.prog Try.f6 false true false false) := by
  refine law_lift_upto [56] os started H enc (by kernel_rfl) Try.func6 (by kernel_rfl) (by kernel_rfl) rfl (by kernel_rfl) ?_
    (OpenSpec.witness (enc := enc) (C := Try.checked) (s := Rows.OpenSpec.upto Rows.wirePutsSpec) (k := Rows.uptoSmall) rfl false ⟨#[], #[.slice none 0 0], []⟩ 12 (by kernel_rfl) (by kernel_rfl) (by kernel_rfl)
      (x := ([.nil], [], [])) (by kernel_rfl) rfl (by kernel_rfl)) ?_
  · intro ds h
    match ds, h with
    | [d0], _ => rfl
  intro W base args ds p g0 hb
  obtain ⟨v0, _, d0, _, p0, _, rfl, hv0, ht0, hr0, hB0, hb1, g1⟩ := g0.nextUpto hb
  obtain rfl := g1.done
  exact wirePuts_walk hv0 ht0 hB0

/-- The statement. -/
theorem wirePutsUpto_holds : Rows.WirePutsUptoSaid :=
  OpenClaim.holds_of_cond 6 Try.f6 rfl rfl rfl rfl rfl rfl rfl ⟨rfl, rfl, rfl, rfl, rfl⟩ rfl rfl rfl rfl rfl (by kernel_rfl) Try.func6 (by kernel_rfl)
    (of_decide_eq_true (by kernel_rfl)) (by unfold Func.isWrapper; first | (rw [if_pos (by decide +kernel)]; kernel_rfl) | (rw [if_neg (by decide +kernel)]; exact ⟨rfl, rfl⟩))
    (fun os started H enc _ F => wirePuts_lift os started H enc F)
#print axioms wirePutsUpto_holds
end Go.Proofs.Ytledoikeaidlfaa
