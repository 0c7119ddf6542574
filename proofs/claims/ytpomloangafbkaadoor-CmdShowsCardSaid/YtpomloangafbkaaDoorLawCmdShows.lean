/- CmdShows: whatever the arguments, the law returns true, and all that was there is as it was. No condition. -/
import Derived.Test.YtpomloangafbkaaDoorFrameCmd
import Derived.Test.YtpomloangafbkaaDoorLaxOpen
import Derived.Test.YtpomloangafbkaaDoorLaxPkCmdU
namespace Go.Proofs.YtpomloangafbkaaDoor
open Go.ChangeShapes Go.WideShapes Go.ChangeAt Go.RowKit
open Go.ChangeMaps (open_string shut_string)
set_option linter.unusedVariables false

set_option maxRecDepth 100000 in
theorem cmdShows_lift (os : Os) (started : os.Started) (H : Type) (enc : TypeId × Value → H) :
    ReturnsInHanded {} Tryd.checked os 6 .any (fun w args => (Rows.cmdShowsSpec.pre enc Tryd.checked.prog Tryd.f6 [] false w args ∧ laidMetH Tryd.prog cmdTables w) ∧ sizedMet enc Tryd.checked.prog Tryd.f6 (OpenSpec.ofChange Rows.cmdShowsSpec) false w args) (Rows.cmdShowsSpec.post enc Tryd.checked.prog Tryd.f6 false true false false) := by
  refine law_lift_text (X := fun w _ => laidMetH Tryd.prog cmdTables w) (fun _ _ _ hh h => h.of_heap hh) [51] os started H enc (by kernel_rfl) Tryd.func6 (by kernel_rfl) (by kernel_rfl) rfl (by kernel_rfl) ?_
    (ChangeSpec.witness_shaped (enc := enc) (C := Tryd.checked) (os := os) (X := fun w _ => laidMetH Tryd.prog cmdTables w) false (World.laidAll Tryd.prog os cmdTables) #[.agg #[.int .i64 0, .int .u64 0, .string ByteArray.empty, .int .u64 0, .string ByteArray.empty, .int .i64 0, .int .u64 0, .int .i64 0]] 12 (World.laidAll_os _ _ _) (World.shaped_of_ZipB (by kernel_rfl) (by kernel_rfl)) (by kernel_rfl) (by kernel_rfl) (by kernel_rfl) (cmd_world os _)) ?_
  · intro ds h
    match ds, h with
    | [d0], _ => rfl
  intro W base args ds p g0 hsh hxx
  obtain ⟨v0, _, d0, _, p0, _, rfl, hv0, ht0, hr0, g1⟩ := g0.next
  obtain ⟨z0_0, e0_0, r0⟩ := open_agg (B := 9223372036854775807) (l := [.int .i64, .int .u64, .str, .int .u64, .str, .int .i64, .int .u64, .int .i64]) (d := 9) (by kernel_rfl) (by kernel_rfl) (.inl (Nat.le_refl _)) hv0 ht0
  obtain ⟨c0_0, z0_1, rfl, h0_0, e0_1⟩ := e0_0.cons
  obtain ⟨x0_0, rfl, k0_0⟩ := h0_0.inv_int
  obtain ⟨c0_1, z0_2, rfl, h0_1, e0_2⟩ := e0_1.cons
  obtain ⟨x0_1, rfl, k0_1⟩ := h0_1.inv_int
  obtain ⟨c0_2, z0_3, rfl, h0_2, e0_3⟩ := e0_2.cons
  obtain ⟨x0_2, rfl, k0_2⟩ := h0_2.inv_str
  obtain ⟨c0_3, z0_4, rfl, h0_3, e0_4⟩ := e0_3.cons
  obtain ⟨x0_3, rfl, k0_3⟩ := h0_3.inv_int
  obtain ⟨c0_4, z0_5, rfl, h0_4, e0_5⟩ := e0_4.cons
  obtain ⟨x0_4, rfl, k0_4⟩ := h0_4.inv_str
  obtain ⟨c0_5, z0_6, rfl, h0_5, e0_6⟩ := e0_5.cons
  obtain ⟨x0_5, rfl, k0_5⟩ := h0_5.inv_int
  obtain ⟨c0_6, z0_7, rfl, h0_6, e0_7⟩ := e0_6.cons
  obtain ⟨x0_6, rfl, k0_6⟩ := h0_6.inv_int
  obtain ⟨c0_7, z0_8, rfl, h0_7, e0_8⟩ := e0_7.cons
  obtain ⟨x0_7, rfl, k0_7⟩ := h0_7.inv_int
  obtain rfl := e0_8.done
  obtain rfl := g1.done
  refine law_of_meets meetsLawShows (l := [.agg [.int .i64 x0_0, .int .u64 x0_1, .str x0_2, .int .u64 x0_3, .str x0_4, .int .i64 x0_5, .int .u64 x0_6, .int .i64 x0_7]]) rfl (⟨k0_2, k0_4⟩) rfl ?_ (tt_cmd hsh hxx)
  intro i v hv
  match i, hv with
  | 0, hv =>
    obtain rfl : AV.agg [.int .i64 x0_0, .int .u64 x0_1, .str x0_2, .int .u64 x0_3, .str x0_4, .int .i64 x0_5, .int .u64 x0_6, .int .i64 x0_7] = v := by simpa using hv
    exact ⟨_, rfl, r0 _⟩
  | i + 1, hv => simp at hv

/-- The statement. -/
theorem cmdShows_holds : Rows.CmdShowsSaid :=
  OpenClaim.holds_of_wide 6 Tryd.f6 rfl rfl rfl rfl rfl rfl rfl ⟨rfl, rfl, rfl, rfl, rfl⟩ rfl rfl rfl rfl rfl (by kernel_rfl) Tryd.func6 (by kernel_rfl)
    (of_decide_eq_true (by kernel_rfl)) (by unfold Func.isWrapper; first | (rw [if_pos (by decide +kernel)]; kernel_rfl) | (rw [if_neg (by decide +kernel)]; exact ⟨rfl, rfl⟩))
    (fun os started H enc _ => cmdShows_lift os started H enc)
#print axioms cmdShows_holds

/-- The tied card: the row, with what it lists tied to the program's text. -/
theorem cmdShows_card : Rows.CmdShowsCardSaid :=
  Claim7.holds_tied_plain_at .later [] [.data, .data, .data, .data, .sentinel, .sentinel, .data, .pinned] true (true, "c0e00fb800ed77a3f23b0050d0985c5c42da82a514dd9bdc67bfb8d7343b8ef8") true cmdShows_holds (fun _ h => by cases h) (by kernel_rfl) (fun _ h => by cases h) cmdShows_row_tie rfl ⟨rfl, rfl⟩ (by kernel_rfl) rfl
    (fun f fn hf hfn => by
      obtain rfl : f = 6 := Option.some.inj ((show Tryd.prog.funcNamed "moothill/moothilllaw07.CmdShows" = some 6 by kernel_rfl).symm.trans hf) |>.symm
      obtain rfl : fn = Tryd.f6 := (Option.some.inj (Tryd.func6.symm.trans hfn)).symm
      exact ⟨by kernel_rfl, fun j t ht => by
        have hm : t ∈ [51] := by simpa using Array.mem_of_getElem? ht
        have hall : ([51].all fun u => !Tryd.prog.wantsStandIn u) = true := by kernel_rfl
        exact (show Tryd.prog.wantsStandIn t = false by simpa using List.all_eq_true.1 hall t hm)⟩)
    (by kernel_rfl)
#print axioms cmdShows_card
end Go.Proofs.YtpomloangafbkaaDoor
