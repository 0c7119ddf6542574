/- LogScans: whatever the arguments, the law returns true, and all that was there is as it was. No condition. -/
import Derived.Test.YtddilmocngedjaaFrame
import Derived.Test.YtddilmocngedjaaLaxOpen
import Derived.Test.YtddilmocngedjaaLaxPkLogS
namespace Go.Proofs.Ytddilmocngedjaa
open Go.ChangeShapes Go.WideShapes Go.ChangeAt Go.RowKit
open Go.ChangeMaps (open_string shut_string)
set_option linter.unusedVariables false

set_option maxRecDepth 100000 in
theorem logScans_lift (os : Os) (started : os.Started) (H : Type) (enc : TypeId × Value → H) :
    ReturnsInHanded {} Try.checked os 6 .any (Rows.logScansSpec.pre6 enc Try.checked.prog Try.f6 [] false) (Rows.logScansSpec.post enc Try.checked.prog Try.f6 false true false false) := by
  refine law_lift [22] os started H enc (by kernel_rfl) Try.func6 (by kernel_rfl) (by kernel_rfl) rfl (by kernel_rfl) ?_
    (ChangeSpec.witness6 (enc := enc) (C := Try.checked) false ⟨#[], #[.slice none 0 0], []⟩ 12 (by kernel_rfl) (by kernel_rfl) (by kernel_rfl) (by kernel_rfl)) ?_
  · intro ds h
    match ds, h with
    | [d0], _ => rfl
  intro W base args ds p g0
  obtain ⟨v0, _, d0, _, p0, _, rfl, hv0, ht0, hr0, g1⟩ := g0.next
  obtain ⟨c0, h0, r0⟩ := open_one (B := 9223372036854775807) (ty := .sl [.int .u8]) (d := 9) (by kernel_rfl) (by kernel_rfl) (.inl (Nat.le_refl _)) hv0 ht0
  obtain ⟨x0, rfl, k0⟩ := h0.inv_sl
  obtain rfl := g1.done
  refine law_of_meets meetsLawScans (l := [.sl x0 .no]) rfl (⟨h0.bytes, h0.len⟩) rfl ?_
  intro i v hv
  match i, hv with
  | 0, hv =>
    obtain rfl : AV.sl x0 .no = v := by simpa using hv
    exact ⟨_, rfl, r0 _⟩
  | i + 1, hv => simp at hv

/-- The statement. -/
theorem logScans_holds : Rows.LogScansSaid :=
  OpenClaim.holds_of_wide 6 Try.f6 rfl rfl rfl rfl rfl rfl rfl ⟨rfl, rfl, rfl, rfl, rfl⟩ rfl rfl rfl rfl rfl (by kernel_rfl) Try.func6 (by kernel_rfl)
    (of_decide_eq_true (by kernel_rfl)) (by unfold Func.isWrapper; first | (rw [if_pos (by decide +kernel)]; kernel_rfl) | (rw [if_neg (by decide +kernel)]; exact ⟨rfl, rfl⟩))
    (fun os started H enc _ => logScans_lift os started H enc)
#print axioms logScans_holds
end Go.Proofs.Ytddilmocngedjaa
