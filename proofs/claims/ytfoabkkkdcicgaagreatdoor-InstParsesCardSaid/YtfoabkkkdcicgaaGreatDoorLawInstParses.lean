/- InstParses: whatever the arguments, the law returns true, and all that was there is as it was. No condition. -/
import Derived.Test.YtfoabkkkdcicgaaGreatDoorFrameLaid
import Derived.Test.YtfoabkkkdcicgaaGreatDoorLaxOpen
import Derived.Test.YtfoabkkkdcicgaaGreatDoorLaxPkRefX
namespace Go.Proofs.YtfoabkkkdcicgaaGreatDoor
open Go.ChangeShapes Go.WideShapes Go.ChangeAt Go.RowKit
open Go.ChangeMaps (open_string shut_string)
set_option linter.unusedVariables false

set_option maxRecDepth 100000 in
theorem instParses_lift (os : Os) (started : os.Started) (H : Type) (enc : TypeId × Value → H) :
    ReturnsInHanded {} Tryz.checked os 3 .any (fun w args => (Rows.instParsesSpec.pre enc Tryz.checked.prog Tryz.f3 [] false w args ∧ laidMetH Tryz.prog laidTables w) ∧ sizedMet enc Tryz.checked.prog Tryz.f3 (OpenSpec.ofChange Rows.instParsesSpec) false w args) (Rows.instParsesSpec.post enc Tryz.checked.prog Tryz.f3 false true false false) := by
  refine law_lift_and (X := fun w _ => laidMetH Tryz.prog laidTables w) (fun _ _ _ hh h => h.of_heap hh) [22] os started H enc (by kernel_rfl) Tryz.func3 (by kernel_rfl) (by kernel_rfl) rfl (by kernel_rfl) ?_
    (ChangeSpec.witness_shaped (enc := enc) (C := Tryz.checked) (os := os) (X := fun w _ => laidMetH Tryz.prog laidTables w) false (World.laidAll Tryz.prog os laidTables) #[.slice none 0 0] 12 (World.laidAll_os _ _ _) (World.shaped_of_ZipB (by kernel_rfl) (by kernel_rfl)) (by kernel_rfl) (by kernel_rfl) (by kernel_rfl) (laid_world os _)) ?_
  · intro ds h
    match ds, h with
    | [d0], _ => rfl
  intro W base args ds p g0
  obtain ⟨v0, _, d0, _, p0, _, rfl, hv0, ht0, hr0, g1⟩ := g0.next
  obtain ⟨c0, h0, r0⟩ := open_one (B := 9223372036854775807) (ty := .sl [.int .u8]) (d := 9) (by kernel_rfl) (by kernel_rfl) (.inl (Nat.le_refl _)) hv0 ht0
  obtain ⟨x0, rfl, k0⟩ := h0.inv_sl
  obtain rfl := g1.done
  refine law_of_meets meetsLawIParses (l := [.sl x0 .no]) rfl (⟨h0.bytes, h0.len⟩) rfl ?_
  intro i v hv
  match i, hv with
  | 0, hv =>
    obtain rfl : AV.sl x0 .no = v := by simpa using hv
    exact ⟨_, rfl, r0 _⟩
  | i + 1, hv => simp at hv

/-- The statement. -/
theorem instParses_holds : Rows.InstParsesSaid :=
  OpenClaim.holds_of_wide 3 Tryz.f3 rfl rfl rfl rfl rfl rfl rfl ⟨rfl, rfl, rfl, rfl, rfl⟩ rfl rfl rfl rfl rfl (by kernel_rfl) Tryz.func3 (by kernel_rfl)
    (of_decide_eq_true (by kernel_rfl)) (by unfold Func.isWrapper; first | (rw [if_pos (by decide +kernel)]; kernel_rfl) | (rw [if_neg (by decide +kernel)]; exact ⟨rfl, rfl⟩))
    (fun os started H enc _ => instParses_lift os started H enc)
#print axioms instParses_holds

/-- The tied card: the row, with what it lists tied to the program's text. -/
theorem instParses_card : Rows.InstParsesCardSaid :=
  Claim7.holds_tied_plain_at .later [] [.data, .pinned] true (true, "e2a6138176af4264c0b7a9f18d8e371a46d140e22fda58dfbe3a888dd5804ba9") false instParses_holds (fun _ h => by cases h) (by kernel_rfl) (fun _ h => by cases h) instParses_row_tie rfl ⟨rfl, rfl⟩ (by kernel_rfl) rfl
    (fun f fn hf hfn => by
      obtain rfl : f = 3 := Option.some.inj ((show Tryz.prog.funcNamed "moothill/moothilllaw10.InstParses" = some 3 by kernel_rfl).symm.trans hf) |>.symm
      obtain rfl : fn = Tryz.f3 := (Option.some.inj (Tryz.func3.symm.trans hfn)).symm
      exact ⟨by kernel_rfl, fun j t ht => by
        have hm : t ∈ [22] := by simpa using Array.mem_of_getElem? ht
        have hall : ([22].all fun u => !Tryz.prog.wantsStandIn u) = true := by kernel_rfl
        exact (show Tryz.prog.wantsStandIn t = false by simpa using List.all_eq_true.1 hall t hm)⟩)
    (by kernel_rfl)
#print axioms instParses_card
end Go.Proofs.YtfoabkkkdcicgaaGreatDoor
