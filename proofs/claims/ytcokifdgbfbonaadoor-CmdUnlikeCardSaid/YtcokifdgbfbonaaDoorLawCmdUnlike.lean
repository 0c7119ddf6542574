/- CmdUnlike: two unlike commands that may be have unlike bytes, and the one is no beginning of the other No condition. -/
import Derived.Test.YtcokifdgbfbonaaDoorFrameLaid
import Derived.Test.YtcokifdgbfbonaaDoorLaxOpen
import Derived.Test.YtcokifdgbfbonaaDoorLaxPkCmdX
namespace Go.Proofs.YtcokifdgbfbonaaDoor
open Go.ChangeShapes Go.WideShapes Go.ChangeAt Go.RowKit
open Go.ChangeMaps (open_string shut_string)
set_option linter.unusedVariables false

set_option maxRecDepth 100000 in
theorem cmdUnlike_lift (os : Os) (started : os.Started) (H : Type) (enc : TypeId × Value → H) :
    ReturnsInHanded {} Tryd.checked os 4 .any (fun w args => (Rows.cmdUnlikeSpec.pre enc Tryd.checked.prog Tryd.f4 [] false w args ∧ laidMetH Tryd.prog laidTables w) ∧ sizedMet enc Tryd.checked.prog Tryd.f4 (OpenSpec.ofChange Rows.cmdUnlikeSpec) false w args) (Rows.cmdUnlikeSpec.post enc Tryd.checked.prog Tryd.f4 false true false false) := by
  refine law_lift_and (X := fun w _ => laidMetH Tryd.prog laidTables w) (fun _ _ _ hh h => h.of_heap hh) [28, 28] os started H enc (by kernel_rfl) Tryd.func4 (by kernel_rfl) (by kernel_rfl) rfl (by kernel_rfl) ?_
    (ChangeSpec.witness_shaped (enc := enc) (C := Tryd.checked) (os := os) (X := fun w _ => laidMetH Tryd.prog laidTables w) false (World.laidAll Tryd.prog os laidTables) #[.agg #[.int .i64 0, .int .u64 0, .string ByteArray.empty, .int .u64 0, .string ByteArray.empty, .int .i64 0, .int .u64 0, .int .i64 0], .agg #[.int .i64 0, .int .u64 0, .string ByteArray.empty, .int .u64 0, .string ByteArray.empty, .int .i64 0, .int .u64 0, .int .i64 0]] 12 (World.laidAll_os _ _ _) (World.shaped_of_ZipB (by kernel_rfl) (by kernel_rfl)) (by kernel_rfl) (by kernel_rfl) (by kernel_rfl) (laid_world os _)) ?_
  · intro ds h
    match ds, h with
    | [d0, d1], _ => rfl
  intro W base args ds p g0
  obtain ⟨v0, _, d0, _, p0, _, rfl, hv0, ht0, hr0, g1⟩ := g0.next
  obtain ⟨z0_0, e0_0, r0⟩ := open_agg (B := 9223372036854775807) (l := [.int .i64, .int .u64, .str, .int .u64, .str, .int .i64, .int .u64, .int .i64]) (d := 9) (by kernel_rfl) (by kernel_rfl) (.inl (Nat.le_refl _)) hv0 ht0
  obtain ⟨c0_0, z0_1, rfl, h0_0, e0_1⟩ := e0_0.cons
  obtain ⟨x0_0, rfl, k0_0⟩ := h0_0.inv_int
  obtain ⟨c0_1, z0_2, rfl, h0_1, e0_2⟩ := e0_1.cons
  obtain ⟨x0_1, rfl, k0_1⟩ := h0_1.inv_int
  obtain ⟨c0_2, z0_3, rfl, h0_2, e0_3⟩ := e0_2.cons
  obtain ⟨x0_2, rfl, k0_2⟩ := h0_2.inv_str
  obtain ⟨c0_3, z0_4, rfl, h0_3, e0_4⟩ := e0_3.cons
  obtain ⟨x0_3, rfl, k0_3⟩ := h0_3.inv_int
  obtain ⟨c0_4, z0_5, rfl, h0_4, e0_5⟩ := e0_4.cons
  obtain ⟨x0_4, rfl, k0_4⟩ := h0_4.inv_str
  obtain ⟨c0_5, z0_6, rfl, h0_5, e0_6⟩ := e0_5.cons
  obtain ⟨x0_5, rfl, k0_5⟩ := h0_5.inv_int
  obtain ⟨c0_6, z0_7, rfl, h0_6, e0_7⟩ := e0_6.cons
  obtain ⟨x0_6, rfl, k0_6⟩ := h0_6.inv_int
  obtain ⟨c0_7, z0_8, rfl, h0_7, e0_8⟩ := e0_7.cons
  obtain ⟨x0_7, rfl, k0_7⟩ := h0_7.inv_int
  obtain rfl := e0_8.done
  obtain ⟨v1, _, d1, _, p1, _, rfl, hv1, ht1, hr1, g2⟩ := g1.next
  obtain ⟨z1_0, e1_0, r1⟩ := open_agg (B := 9223372036854775807) (l := [.int .i64, .int .u64, .str, .int .u64, .str, .int .i64, .int .u64, .int .i64]) (d := 9) (by kernel_rfl) (by kernel_rfl) (.inl (Nat.le_refl _)) hv1 ht1
  obtain ⟨c1_0, z1_1, rfl, h1_0, e1_1⟩ := e1_0.cons
  obtain ⟨x1_0, rfl, k1_0⟩ := h1_0.inv_int
  obtain ⟨c1_1, z1_2, rfl, h1_1, e1_2⟩ := e1_1.cons
  obtain ⟨x1_1, rfl, k1_1⟩ := h1_1.inv_int
  obtain ⟨c1_2, z1_3, rfl, h1_2, e1_3⟩ := e1_2.cons
  obtain ⟨x1_2, rfl, k1_2⟩ := h1_2.inv_str
  obtain ⟨c1_3, z1_4, rfl, h1_3, e1_4⟩ := e1_3.cons
  obtain ⟨x1_3, rfl, k1_3⟩ := h1_3.inv_int
  obtain ⟨c1_4, z1_5, rfl, h1_4, e1_5⟩ := e1_4.cons
  obtain ⟨x1_4, rfl, k1_4⟩ := h1_4.inv_str
  obtain ⟨c1_5, z1_6, rfl, h1_5, e1_6⟩ := e1_5.cons
  obtain ⟨x1_5, rfl, k1_5⟩ := h1_5.inv_int
  obtain ⟨c1_6, z1_7, rfl, h1_6, e1_7⟩ := e1_6.cons
  obtain ⟨x1_6, rfl, k1_6⟩ := h1_6.inv_int
  obtain ⟨c1_7, z1_8, rfl, h1_7, e1_8⟩ := e1_7.cons
  obtain ⟨x1_7, rfl, k1_7⟩ := h1_7.inv_int
  obtain rfl := e1_8.done
  obtain rfl := g2.done
  refine law_of_meets meetsLawUnlike (l := [.agg [.int .i64 x0_0, .int .u64 x0_1, .str x0_2, .int .u64 x0_3, .str x0_4, .int .i64 x0_5, .int .u64 x0_6, .int .i64 x0_7], .agg [.int .i64 x1_0, .int .u64 x1_1, .str x1_2, .int .u64 x1_3, .str x1_4, .int .i64 x1_5, .int .u64 x1_6, .int .i64 x1_7]]) rfl (⟨⟨k0_2, k0_4⟩, ⟨k1_2, k1_4⟩⟩) rfl ?_
  intro i v hv
  match i, hv with
  | 0, hv =>
    obtain rfl : AV.agg [.int .i64 x0_0, .int .u64 x0_1, .str x0_2, .int .u64 x0_3, .str x0_4, .int .i64 x0_5, .int .u64 x0_6, .int .i64 x0_7] = v := by simpa using hv
    exact ⟨_, rfl, r0 _⟩
  | 1, hv =>
    obtain rfl : AV.agg [.int .i64 x1_0, .int .u64 x1_1, .str x1_2, .int .u64 x1_3, .str x1_4, .int .i64 x1_5, .int .u64 x1_6, .int .i64 x1_7] = v := by simpa using hv
    exact ⟨_, rfl, r1 _⟩
  | i + 2, hv => simp at hv

/-- The statement. -/
theorem cmdUnlike_holds : Rows.CmdUnlikeSaid :=
  OpenClaim.holds_of_wide 4 Tryd.f4 rfl rfl rfl rfl rfl rfl rfl ⟨rfl, rfl, rfl, rfl, rfl⟩ rfl rfl rfl rfl rfl (by kernel_rfl) Tryd.func4 (by kernel_rfl)
    (of_decide_eq_true (by kernel_rfl)) (by unfold Func.isWrapper; first | (rw [if_pos (by decide +kernel)]; kernel_rfl) | (rw [if_neg (by decide +kernel)]; exact ⟨rfl, rfl⟩))
    (fun os started H enc _ => cmdUnlike_lift os started H enc)
#print axioms cmdUnlike_holds

/-- The tied card: the row, with what it lists tied to the program's text. -/
theorem cmdUnlike_card : Rows.CmdUnlikeCardSaid :=
  Claim7.holds_tied_plain_at .later [] [.data, .pinned] true (true, "066d9d54bf7d2b9ace2b560bd54625dac8774d04708ce318f78d0103eb25417e") false cmdUnlike_holds (fun _ h => by cases h) (by kernel_rfl) (fun _ h => by cases h) cmdUnlike_row_tie rfl ⟨rfl, rfl⟩ (by kernel_rfl) rfl
    (fun f fn hf hfn => by
      obtain rfl : f = 4 := Option.some.inj ((show Tryd.prog.funcNamed "moothill/moothilllaw07.CmdUnlike" = some 4 by kernel_rfl).symm.trans hf) |>.symm
      obtain rfl : fn = Tryd.f4 := (Option.some.inj (Tryd.func4.symm.trans hfn)).symm
      exact ⟨by kernel_rfl, fun j t ht => by
        have hm : t ∈ [28, 28] := by simpa using Array.mem_of_getElem? ht
        have hall : ([28, 28].all fun u => !Tryd.prog.wantsStandIn u) = true := by kernel_rfl
        exact (show Tryd.prog.wantsStandIn t = false by simpa using List.all_eq_true.1 hall t hm)⟩)
    (by kernel_rfl)
#print axioms cmdUnlike_card
end Go.Proofs.YtcokifdgbfbonaaDoor
