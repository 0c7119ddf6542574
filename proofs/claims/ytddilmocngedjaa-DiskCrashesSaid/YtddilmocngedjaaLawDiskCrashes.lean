/- DiskCrashes: whatever the arguments, the law returns true, and all that was there is as it was. No condition. -/
import Derived.Test.YtddilmocngedjaaFrame
import Derived.Test.YtddilmocngedjaaLaxOpen
import Derived.Test.YtddilmocngedjaaDiskTy
namespace Go.Proofs.Ytddilmocngedjaa
open Go.ChangeShapes Go.WideShapes Go.ChangeAt Go.RowKit
open Go.ChangeMaps (open_string shut_string)
set_option linter.unusedVariables false

set_option maxRecDepth 100000 in
theorem diskCrashes_lift (os : Os) (started : os.Started) (H : Type) (enc : TypeId × Value → H) :
    ReturnsInHanded {} Try.checked os 4 .any (Rows.diskCrashesSpec.pre6 enc Try.checked.prog Try.f4 [] false) (Rows.diskCrashesSpec.post enc Try.checked.prog Try.f4 false true false false) := by
  refine law_lift [31, 32] os started H enc (by kernel_rfl) Try.func4 (by kernel_rfl) (by kernel_rfl) rfl (by kernel_rfl) ?_
    (ChangeSpec.witness6 (enc := enc) (C := Try.checked) false ⟨#[], #[.slice none 0 0, .agg #[.int .i64 0, .int .i64 0]], []⟩ 12 (by kernel_rfl) (by kernel_rfl) (by kernel_rfl) (by kernel_rfl)) ?_
  · intro ds h
    match ds, h with
    | [d0, d1], _ => rfl
  intro W base args ds p g0
  obtain ⟨v0, _, d0, _, p0, _, rfl, hv0, ht0, hr0, g1⟩ := g0.next
  obtain ⟨c0, h0, r0⟩ := open_one (B := 9223372036854775807) (ty := .sl [.int .i64, .int .i64, .int .i64, .sl [.int .u8]]) (d := 9) (by kernel_rfl) (by kernel_rfl) (.inl (Nat.le_refl _)) hv0 ht0
  obtain ⟨x0, rfl, k0⟩ := h0.inv_sl
  obtain ⟨v1, _, d1, _, p1, _, rfl, hv1, ht1, hr1, g2⟩ := g1.next
  obtain ⟨z1_0, e1_0, r1⟩ := open_agg (B := 9223372036854775807) (l := [.int .i64, .int .i64]) (d := 9) (by kernel_rfl) (by kernel_rfl) (.inl (Nat.le_refl _)) hv1 ht1
  obtain ⟨c1_0, z1_1, rfl, h1_0, e1_1⟩ := e1_0.cons
  obtain ⟨x1_0, rfl, k1_0⟩ := h1_0.inv_int
  obtain ⟨c1_1, z1_2, rfl, h1_1, e1_2⟩ := e1_1.cons
  obtain ⟨x1_1, rfl, k1_1⟩ := h1_1.inv_int
  obtain rfl := e1_2.done
  obtain rfl := g2.done
  refine law_of_meets meetsLawCrashes (l := [.sl x0 .no, .agg [.int .i64 x1_0, .int .i64 x1_1]]) rfl (isOps_of h0) rfl ?_
  intro i v hv
  match i, hv with
  | 0, hv =>
    obtain rfl : AV.sl x0 .no = v := by simpa using hv
    exact ⟨_, rfl, r0 _⟩
  | 1, hv =>
    obtain rfl : AV.agg [.int .i64 x1_0, .int .i64 x1_1] = v := by simpa using hv
    exact ⟨_, rfl, r1 _⟩
  | i + 2, hv => simp at hv

/-- The statement. -/
theorem diskCrashes_holds : Rows.DiskCrashesSaid :=
  OpenClaim.holds_of_wide 4 Try.f4 rfl rfl rfl rfl rfl rfl rfl ⟨rfl, rfl, rfl, rfl, rfl⟩ rfl rfl rfl rfl rfl (by kernel_rfl) Try.func4 (by kernel_rfl)
    (of_decide_eq_true (by kernel_rfl)) (by unfold Func.isWrapper; first | (rw [if_pos (by decide +kernel)]; kernel_rfl) | (rw [if_neg (by decide +kernel)]; exact ⟨rfl, rfl⟩))
    (fun os started H enc _ => diskCrashes_lift os started H enc)
#print axioms diskCrashes_holds
end Go.Proofs.Ytddilmocngedjaa
