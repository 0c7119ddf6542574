/- LogTurns: whatever the arguments, the law returns true, and all that was there is as it was. No condition. -/
import Derived.Test.YtddilmocngedjaaFrame
import Derived.Test.YtddilmocngedjaaLaxOpen
import Derived.Test.YtddilmocngedjaaLaxLogT
import Derived.Test.YtddilmocngedjaaLaxPkLogT
namespace Go.Proofs.Ytddilmocngedjaa
open Go.ChangeShapes Go.WideShapes Go.ChangeAt Go.RowKit
open Go.ChangeMaps (open_string shut_string)
set_option linter.unusedVariables false

set_option maxRecDepth 100000 in
theorem logTurns_lift (os : Os) (started : os.Started) (H : Type) (enc : TypeId × Value → H) :
    ReturnsInHanded {} Try.checked os 7 .any (Rows.logTurnsSpec.pre6 enc Try.checked.prog Try.f7 [] false) (Rows.logTurnsSpec.post enc Try.checked.prog Try.f7 false true false false) := by
  refine law_lift [56, 22, 22, 3] os started H enc (by kernel_rfl) Try.func7 (by kernel_rfl) (by kernel_rfl) rfl (by kernel_rfl) ?_
    (ChangeSpec.witness6 (enc := enc) (C := Try.checked) false ⟨#[], #[.slice none 0 0, .slice none 0 0, .slice none 0 0, .int .i64 0], []⟩ 12 (by kernel_rfl) (by kernel_rfl) (by kernel_rfl) (by kernel_rfl)) ?_
  · intro ds h
    match ds, h with
    | [d0, d1, d2, d3], _ => rfl
  intro W base args ds p g0
  obtain ⟨v0, _, d0, _, p0, _, rfl, hv0, ht0, hr0, g1⟩ := g0.next
  obtain ⟨c0, h0, r0⟩ := open_one (B := 9223372036854775807) (ty := .sl [.sl [.int .u8]]) (d := 9) (by kernel_rfl) (by kernel_rfl) (.inl (Nat.le_refl _)) hv0 ht0
  obtain ⟨x0, rfl, k0⟩ := h0.inv_sl
  obtain ⟨v1, _, d1, _, p1, _, rfl, hv1, ht1, hr1, g2⟩ := g1.next
  obtain ⟨c1, h1, r1⟩ := open_one (B := 9223372036854775807) (ty := .sl [.int .u8]) (d := 9) (by kernel_rfl) (by kernel_rfl) (.inl (Nat.le_refl _)) hv1 ht1
  obtain ⟨x1, rfl, k1⟩ := h1.inv_sl
  obtain ⟨v2, _, d2, _, p2, _, rfl, hv2, ht2, hr2, g3⟩ := g2.next
  obtain ⟨c2, h2, r2⟩ := open_one (B := 9223372036854775807) (ty := .sl [.int .u8]) (d := 9) (by kernel_rfl) (by kernel_rfl) (.inl (Nat.le_refl _)) hv2 ht2
  obtain ⟨x2, rfl, k2⟩ := h2.inv_sl
  obtain ⟨v3, _, d3, _, p3, _, rfl, hv3, ht3, hr3, g4⟩ := g3.next
  obtain ⟨c3, h3, r3⟩ := open_one (B := 9223372036854775807) (ty := .int .i64) (d := 9) (by kernel_rfl) (by kernel_rfl) (.inl (Nat.le_refl _)) hv3 ht3
  obtain ⟨x3, rfl, k3⟩ := h3.inv_int
  obtain rfl := g4.done
  refine law_of_meets meetsLawTurns14 (l := [.sl x0 .no, .sl x1 .no, .sl x2 .no, .int .i64 x3]) rfl (⟨recs_of h0, ⟨h1.bytes, h1.len⟩, ⟨h2.bytes, h2.len⟩⟩) rfl ?_
  intro i v hv
  match i, hv with
  | 0, hv =>
    obtain rfl : AV.sl x0 .no = v := by simpa using hv
    exact ⟨_, rfl, r0 _⟩
  | 1, hv =>
    obtain rfl : AV.sl x1 .no = v := by simpa using hv
    exact ⟨_, rfl, r1 _⟩
  | 2, hv =>
    obtain rfl : AV.sl x2 .no = v := by simpa using hv
    exact ⟨_, rfl, r2 _⟩
  | 3, hv =>
    obtain rfl : AV.int .i64 x3 = v := by simpa using hv
    exact ⟨_, rfl, r3 _⟩
  | i + 4, hv => simp at hv

/-- The statement. -/
theorem logTurns_holds : Rows.LogTurnsSaid :=
  OpenClaim.holds_of_wide 7 Try.f7 rfl rfl rfl rfl rfl rfl rfl ⟨rfl, rfl, rfl, rfl, rfl⟩ rfl rfl rfl rfl rfl (by kernel_rfl) Try.func7 (by kernel_rfl)
    (of_decide_eq_true (by kernel_rfl)) (by unfold Func.isWrapper; first | (rw [if_pos (by decide +kernel)]; kernel_rfl) | (rw [if_neg (by decide +kernel)]; exact ⟨rfl, rfl⟩))
    (fun os started H enc _ => logTurns_lift os started H enc)
#print axioms logTurns_holds
end Go.Proofs.Ytddilmocngedjaa
