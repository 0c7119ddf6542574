/- MsgReads: whatever the arguments, the law returns true, and all that was there is as it was. No condition. -/
import Derived.Test.YtpomloangafbkaaGreatDoorFrameCmd
import Derived.Test.YtpomloangafbkaaGreatDoorLaxOpen
import Derived.Test.YtpomloangafbkaaGreatDoorLaxPkMsgR
namespace Go.Proofs.YtpomloangafbkaaGreatDoor
open Go.ChangeShapes Go.WideShapes Go.ChangeAt Go.RowKit
open Go.ChangeMaps (open_string shut_string)
set_option linter.unusedVariables false

set_option maxRecDepth 100000 in
theorem msgReads_lift (os : Os) (started : os.Started) (H : Type) (enc : TypeId × Value → H) :
    ReturnsInHanded {} Tryz.checked os 6 .any (fun w args => (Rows.msgReadsSpec.pre enc Tryz.checked.prog Tryz.f6 [] false w args ∧ laidMetH Tryz.prog cmdTables w) ∧ sizedMet enc Tryz.checked.prog Tryz.f6 (OpenSpec.ofChange Rows.msgReadsSpec) false w args) (Rows.msgReadsSpec.post enc Tryz.checked.prog Tryz.f6 false true false false) := by
  refine law_lift_text (X := fun w _ => laidMetH Tryz.prog cmdTables w) (fun _ _ _ hh h => h.of_heap hh) [9] os started H enc (by kernel_rfl) Tryz.func6 (by kernel_rfl) (by kernel_rfl) rfl (by kernel_rfl) ?_
    (ChangeSpec.witness_shaped (enc := enc) (C := Tryz.checked) (os := os) (X := fun w _ => laidMetH Tryz.prog cmdTables w) false (World.laidAll Tryz.prog os cmdTables) #[.string ByteArray.empty] 12 (World.laidAll_os _ _ _) (World.shaped_of_ZipB (by kernel_rfl) (by kernel_rfl)) (by kernel_rfl) (by kernel_rfl) (by kernel_rfl) (cmd_world os _)) ?_
  · intro ds h
    match ds, h with
    | [d0], _ => rfl
  intro W base args ds p g0 hsh hxx
  obtain ⟨v0, _, d0, _, p0, _, rfl, hv0, ht0, hr0, g1⟩ := g0.next
  obtain ⟨c0, h0, r0⟩ := open_one (B := 9223372036854775807) (ty := .str) (d := 9) (by kernel_rfl) (by kernel_rfl) (.inl (Nat.le_refl _)) hv0 ht0
  obtain ⟨x0, rfl, k0⟩ := h0.inv_str
  obtain rfl := g1.done
  refine law_of_meets meetsLawMReads (l := [.str x0]) rfl (k0) rfl ?_ (tt_cmd hsh hxx)
  intro i v hv
  match i, hv with
  | 0, hv =>
    obtain rfl : AV.str x0 = v := by simpa using hv
    exact ⟨_, rfl, r0 _⟩
  | i + 1, hv => simp at hv

/-- The statement. -/
theorem msgReads_holds : Rows.MsgReadsSaid :=
  OpenClaim.holds_of_wide 6 Tryz.f6 rfl rfl rfl rfl rfl rfl rfl ⟨rfl, rfl, rfl, rfl, rfl⟩ rfl rfl rfl rfl rfl (by kernel_rfl) Tryz.func6 (by kernel_rfl)
    (of_decide_eq_true (by kernel_rfl)) (by unfold Func.isWrapper; first | (rw [if_pos (by decide +kernel)]; kernel_rfl) | (rw [if_neg (by decide +kernel)]; exact ⟨rfl, rfl⟩))
    (fun os started H enc _ => msgReads_lift os started H enc)
#print axioms msgReads_holds

/-- The tied card: the row, with what it lists tied to the program's text. -/
theorem msgReads_card : Rows.MsgReadsCardSaid :=
  Claim7.holds_tied_plain_at .later [] [.data, .data, .data, .data, .sentinel, .sentinel, .data, .pinned] true (true, "ba83f96920dd5c531ef591e33167ad0483e409ecdaf6a5e98da90974a0f38ae0") true msgReads_holds (fun _ h => by cases h) (by kernel_rfl) (fun _ h => by cases h) msgReads_row_tie rfl ⟨rfl, rfl⟩ (by kernel_rfl) rfl
    (fun f fn hf hfn => by
      obtain rfl : f = 6 := Option.some.inj ((show Tryz.prog.funcNamed "moothill/moothilllaw11.MsgReads" = some 6 by kernel_rfl).symm.trans hf) |>.symm
      obtain rfl : fn = Tryz.f6 := (Option.some.inj (Tryz.func6.symm.trans hfn)).symm
      exact ⟨by kernel_rfl, fun j t ht => by
        have hm : t ∈ [9] := by simpa using Array.mem_of_getElem? ht
        have hall : ([9].all fun u => !Tryz.prog.wantsStandIn u) = true := by kernel_rfl
        exact (show Tryz.prog.wantsStandIn t = false by simpa using List.all_eq_true.1 hall t hm)⟩)
    (by kernel_rfl)
#print axioms msgReads_card
end Go.Proofs.YtpomloangafbkaaGreatDoor
