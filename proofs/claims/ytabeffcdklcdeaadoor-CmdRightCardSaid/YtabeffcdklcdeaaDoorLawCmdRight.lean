/- CmdRight: whatever the arguments, the law returns true, and all that was there is as it was. No condition. -/
import Derived.Test.YtabeffcdklcdeaaDoorFrameLaid
import Derived.Test.YtabeffcdklcdeaaDoorLaxOpen
import Derived.Test.YtabeffcdklcdeaaDoorLaxPkCmdS
namespace Go.Proofs.YtabeffcdklcdeaaDoor
open Go.ChangeShapes Go.WideShapes Go.ChangeAt Go.RowKit
open Go.ChangeMaps (open_string shut_string)
set_option linter.unusedVariables false

set_option maxRecDepth 100000 in
theorem cmdRight_lift (os : Os) (started : os.Started) (H : Type) (enc : TypeId × Value → H) :
    ReturnsInHanded {} Tryd.checked os 14 .any (fun w args => (Rows.cmdRightSpec.pre enc Tryd.checked.prog Tryd.f14 [] false w args ∧ laidMetH Tryd.prog laidTables w) ∧ sizedMet enc Tryd.checked.prog Tryd.f14 (OpenSpec.ofChange Rows.cmdRightSpec) false w args) (Rows.cmdRightSpec.post enc Tryd.checked.prog Tryd.f14 false true false false) := by
  refine law_lift_and (X := fun w _ => laidMetH Tryd.prog laidTables w) (fun _ _ _ hh h => h.of_heap hh) [44] os started H enc (by kernel_rfl) Tryd.func14 (by kernel_rfl) (by kernel_rfl) rfl (by kernel_rfl) ?_
    (ChangeSpec.witness_shaped (enc := enc) (C := Tryd.checked) (os := os) (X := fun w _ => laidMetH Tryd.prog laidTables w) false (World.laidAll Tryd.prog os laidTables) #[.agg #[.int .i64 0, .int .u64 0, .string ByteArray.empty, .int .u64 0, .string ByteArray.empty, .int .i64 0, .int .u64 0, .int .i64 0]] 12 (World.laidAll_os _ _ _) (World.shaped_of_ZipB (by kernel_rfl) (by kernel_rfl)) (by kernel_rfl) (by kernel_rfl) (by kernel_rfl) (laid_world os _)) ?_
  · intro ds h
    match ds, h with
    | [d0], _ => rfl
  intro W base args ds p g0
  obtain ⟨v0, _, d0, _, p0, _, rfl, hv0, ht0, hr0, g1⟩ := g0.next
  obtain ⟨z0_0, e0_0, r0⟩ := open_agg (B := 9223372036854775807) (l := [.int .i64, .int .u64, .str, .int .u64, .str, .int .i64, .int .u64, .int .i64]) (d := 9) (by kernel_rfl) (by kernel_rfl) (.inl (Nat.le_refl _)) hv0 ht0
  obtain ⟨c0_0, z0_1, rfl, h0_0, e0_1⟩ := e0_0.cons
  obtain ⟨x0_0, rfl, k0_0⟩ := h0_0.inv_int
  obtain ⟨c0_1, z0_2, rfl, h0_1, e0_2⟩ := e0_1.cons
  obtain ⟨x0_1, rfl, k0_1⟩ := h0_1.inv_int
  obtain ⟨c0_2, z0_3, rfl, h0_2, e0_3⟩ := e0_2.cons
  obtain ⟨x0_2, rfl, k0_2⟩ := h0_2.inv_str
  obtain ⟨c0_3, z0_4, rfl, h0_3, e0_4⟩ := e0_3.cons
  obtain ⟨x0_3, rfl, k0_3⟩ := h0_3.inv_int
  obtain ⟨c0_4, z0_5, rfl, h0_4, e0_5⟩ := e0_4.cons
  obtain ⟨x0_4, rfl, k0_4⟩ := h0_4.inv_str
  obtain ⟨c0_5, z0_6, rfl, h0_5, e0_6⟩ := e0_5.cons
  obtain ⟨x0_5, rfl, k0_5⟩ := h0_5.inv_int
  obtain ⟨c0_6, z0_7, rfl, h0_6, e0_7⟩ := e0_6.cons
  obtain ⟨x0_6, rfl, k0_6⟩ := h0_6.inv_int
  obtain ⟨c0_7, z0_8, rfl, h0_7, e0_8⟩ := e0_7.cons
  obtain ⟨x0_7, rfl, k0_7⟩ := h0_7.inv_int
  obtain rfl := e0_8.done
  obtain rfl := g1.done
  refine law_of_meets meetsLawRight (l := [.agg [.int .i64 x0_0, .int .u64 x0_1, .str x0_2, .int .u64 x0_3, .str x0_4, .int .i64 x0_5, .int .u64 x0_6, .int .i64 x0_7]]) rfl (⟨k0_2, k0_4⟩) rfl ?_
  intro i v hv
  match i, hv with
  | 0, hv =>
    obtain rfl : AV.agg [.int .i64 x0_0, .int .u64 x0_1, .str x0_2, .int .u64 x0_3, .str x0_4, .int .i64 x0_5, .int .u64 x0_6, .int .i64 x0_7] = v := by simpa using hv
    exact ⟨_, rfl, r0 _⟩
  | i + 1, hv => simp at hv

/-- The statement. -/
theorem cmdRight_holds : Rows.CmdRightSaid :=
  OpenClaim.holds_of_wide 14 Tryd.f14 rfl rfl rfl rfl rfl rfl rfl ⟨rfl, rfl, rfl, rfl, rfl⟩ rfl rfl rfl rfl rfl (by kernel_rfl) Tryd.func14 (by kernel_rfl)
    (of_decide_eq_true (by kernel_rfl)) (by unfold Func.isWrapper; first | (rw [if_pos (by decide +kernel)]; kernel_rfl) | (rw [if_neg (by decide +kernel)]; exact ⟨rfl, rfl⟩))
    (fun os started H enc _ => cmdRight_lift os started H enc)
#print axioms cmdRight_holds

/-- The tied card: the row, with what it lists tied to the program's text. -/
theorem cmdRight_card : Rows.CmdRightCardSaid :=
  Claim7.holds_tied_plain_at .later [] [.data, .pinned] true (true, "e1a82656b6cce5855354a6a1d29481cc79794d38f0d49c54f670f7b8e944f5c8") false cmdRight_holds (fun _ h => by cases h) (by kernel_rfl) (fun _ h => by cases h) cmdRight_row_tie rfl ⟨rfl, rfl⟩ (by kernel_rfl) rfl
    (fun f fn hf hfn => by
      obtain rfl : f = 14 := Option.some.inj ((show Tryd.prog.funcNamed "moothill/moothilllaw07.CmdRight" = some 14 by kernel_rfl).symm.trans hf) |>.symm
      obtain rfl : fn = Tryd.f14 := (Option.some.inj (Tryd.func14.symm.trans hfn)).symm
      exact ⟨by kernel_rfl, fun j t ht => by
        have hm : t ∈ [44] := by simpa using Array.mem_of_getElem? ht
        have hall : ([44].all fun u => !Tryd.prog.wantsStandIn u) = true := by kernel_rfl
        exact (show Tryd.prog.wantsStandIn t = false by simpa using List.all_eq_true.1 hall t hm)⟩)
    (by kernel_rfl)
#print axioms cmdRight_card
end Go.Proofs.YtabeffcdklcdeaaDoor
