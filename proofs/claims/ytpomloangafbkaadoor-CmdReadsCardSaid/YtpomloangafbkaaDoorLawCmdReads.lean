/- CmdReads: whatever the arguments, the law returns true, and all that was there is as it was. No condition. -/
import Derived.Test.YtpomloangafbkaaDoorFrameCmd
import Derived.Test.YtpomloangafbkaaDoorLaxOpen
import Derived.Test.YtpomloangafbkaaDoorLaxPkCmdU
namespace Go.Proofs.YtpomloangafbkaaDoor
open Go.ChangeShapes Go.WideShapes Go.ChangeAt Go.RowKit
open Go.ChangeMaps (open_string shut_string)
set_option linter.unusedVariables false

set_option maxRecDepth 100000 in
theorem cmdReads_lift (os : Os) (started : os.Started) (H : Type) (enc : TypeId × Value → H) :
    ReturnsInHanded {} Tryd.checked os 7 .any (fun w args => (Rows.cmdReadsSpec.pre enc Tryd.checked.prog Tryd.f7 [] false w args ∧ laidMetH Tryd.prog cmdTables w) ∧ sizedMet enc Tryd.checked.prog Tryd.f7 (OpenSpec.ofChange Rows.cmdReadsSpec) false w args) (Rows.cmdReadsSpec.post enc Tryd.checked.prog Tryd.f7 false true false false) := by
  refine law_lift_text (X := fun w _ => laidMetH Tryd.prog cmdTables w) (fun _ _ _ hh h => h.of_heap hh) [9] os started H enc (by kernel_rfl) Tryd.func7 (by kernel_rfl) (by kernel_rfl) rfl (by kernel_rfl) ?_
    (ChangeSpec.witness_shaped (enc := enc) (C := Tryd.checked) (os := os) (X := fun w _ => laidMetH Tryd.prog cmdTables w) false (World.laidAll Tryd.prog os cmdTables) #[.string ByteArray.empty] 12 (World.laidAll_os _ _ _) (World.shaped_of_ZipB (by kernel_rfl) (by kernel_rfl)) (by kernel_rfl) (by kernel_rfl) (by kernel_rfl) (cmd_world os _)) ?_
  · intro ds h
    match ds, h with
    | [d0], _ => rfl
  intro W base args ds p g0 hsh hxx
  obtain ⟨v0, _, d0, _, p0, _, rfl, hv0, ht0, hr0, g1⟩ := g0.next
  obtain ⟨c0, h0, r0⟩ := open_one (B := 9223372036854775807) (ty := .str) (d := 9) (by kernel_rfl) (by kernel_rfl) (.inl (Nat.le_refl _)) hv0 ht0
  obtain ⟨x0, rfl, k0⟩ := h0.inv_str
  obtain rfl := g1.done
  refine law_of_meets meetsLawReads (l := [.str x0]) rfl (k0) rfl ?_ (tt_cmd hsh hxx)
  intro i v hv
  match i, hv with
  | 0, hv =>
    obtain rfl : AV.str x0 = v := by simpa using hv
    exact ⟨_, rfl, r0 _⟩
  | i + 1, hv => simp at hv

/-- The statement. -/
theorem cmdReads_holds : Rows.CmdReadsSaid :=
  OpenClaim.holds_of_wide 7 Tryd.f7 rfl rfl rfl rfl rfl rfl rfl ⟨rfl, rfl, rfl, rfl, rfl⟩ rfl rfl rfl rfl rfl (by kernel_rfl) Tryd.func7 (by kernel_rfl)
    (of_decide_eq_true (by kernel_rfl)) (by unfold Func.isWrapper; first | (rw [if_pos (by decide +kernel)]; kernel_rfl) | (rw [if_neg (by decide +kernel)]; exact ⟨rfl, rfl⟩))
    (fun os started H enc _ => cmdReads_lift os started H enc)
#print axioms cmdReads_holds

/-- The tied card: the row, with what it lists tied to the program's text. -/
theorem cmdReads_card : Rows.CmdReadsCardSaid :=
  Claim7.holds_tied_plain_at .later [] [.data, .data, .data, .data, .sentinel, .sentinel, .data, .pinned] true (true, "c0e00fb800ed77a3f23b0050d0985c5c42da82a514dd9bdc67bfb8d7343b8ef8") true cmdReads_holds (fun _ h => by cases h) (by kernel_rfl) (fun _ h => by cases h) cmdReads_row_tie rfl ⟨rfl, rfl⟩ (by kernel_rfl) rfl
    (fun f fn hf hfn => by
      obtain rfl : f = 7 := Option.some.inj ((show Tryd.prog.funcNamed "moothill/moothilllaw07.CmdReads" = some 7 by kernel_rfl).symm.trans hf) |>.symm
      obtain rfl : fn = Tryd.f7 := (Option.some.inj (Tryd.func7.symm.trans hfn)).symm
      exact ⟨by kernel_rfl, fun j t ht => by
        have hm : t ∈ [9] := by simpa using Array.mem_of_getElem? ht
        have hall : ([9].all fun u => !Tryd.prog.wantsStandIn u) = true := by kernel_rfl
        exact (show Tryd.prog.wantsStandIn t = false by simpa using List.all_eq_true.1 hall t hm)⟩)
    (by kernel_rfl)
#print axioms cmdReads_card
end Go.Proofs.YtpomloangafbkaaDoor
