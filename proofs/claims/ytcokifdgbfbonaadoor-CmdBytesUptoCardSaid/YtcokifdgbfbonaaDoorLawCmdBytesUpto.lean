/- CmdBytes: a command that may be is read from its bytes, whatever follows; of others a Noop is written The second form: arguments of bulk at most 1048576. -/
import Derived.Test.YtcokifdgbfbonaaDoorFrameLaidUpto
import Derived.Test.YtcokifdgbfbonaaDoorLaxOpen
import Derived.Test.YtcokifdgbfbonaaDoorLaxPkCmdX
namespace Go.Proofs.YtcokifdgbfbonaaDoor
open Go.ChangeShapes Go.WideShapes Go.ChangeAt Go.RowKit
open Go.ChangeMaps (open_string shut_string)
set_option linter.unusedVariables false

set_option maxRecDepth 100000 in
theorem cmdBytes_lift (os : Os) (started : os.Started) (H : Type) (enc : TypeId × Value → H) (F : Stop.Interp) :
    ReturnsInHanded {} Tryd.checked os 10 .any (fun w args => ((Rows.OpenSpec.upto Rows.cmdBytesSpec).pre enc Tryd.checked.prog Tryd.f10 [] false w args ∧ laidMetH Tryd.prog laidTables w) ∧ sizedMet enc Tryd.checked.prog Tryd.f10 (Rows.OpenSpec.upto Rows.cmdBytesSpec) false w args) (((Rows.OpenSpec.upto Rows.cmdBytesSpec).at F).post enc Tryd.checked.prog Tryd.f10 false true false false) := by
  refine law_lift_upto_and (X := fun w _ => laidMetH Tryd.prog laidTables w) (s := Rows.cmdBytesSpec) [28, 33] os started H enc (by kernel_rfl) Tryd.func10 (by kernel_rfl) (by kernel_rfl) rfl (by kernel_rfl) ?_
    (witness_upto_shaped (enc := enc) (C := Tryd.checked) (os := os) (s := Rows.OpenSpec.upto Rows.cmdBytesSpec) (k := Rows.uptoSmall) rfl (X := fun w _ => laidMetH Tryd.prog laidTables w) (World.laidAll Tryd.prog os laidTables) #[.agg #[.int .i64 0, .int .u64 0, .string ByteArray.empty, .int .u64 0, .string ByteArray.empty, .int .i64 0, .int .u64 0, .int .i64 0], .slice none 0 0] 12 (World.laidAll_os _ _ _) (World.shaped_of_ZipB (by kernel_rfl) (by kernel_rfl)) (by kernel_rfl) (by kernel_rfl) (by kernel_rfl) (laid_world os _)) ?_
  · intro ds h
    match ds, h with
    | [d0, d1], _ => rfl
  intro W base args ds p g0 hb
  obtain ⟨v0, _, d0, _, p0, _, rfl, hv0, ht0, hr0, hB0, hb1, g1⟩ := g0.nextUpto hb
  obtain ⟨z0_0, e0_0, r0⟩ := open_agg (B := 1048576) (l := [.int .i64, .int .u64, .str, .int .u64, .str, .int .i64, .int .u64, .int .i64]) (d := 9) (by kernel_rfl) (by kernel_rfl) hB0 hv0 ht0
  obtain ⟨c0_0, z0_1, rfl, h0_0, e0_1⟩ := e0_0.cons
  obtain ⟨x0_0, rfl, k0_0⟩ := h0_0.inv_int
  obtain ⟨c0_1, z0_2, rfl, h0_1, e0_2⟩ := e0_1.cons
  obtain ⟨x0_1, rfl, k0_1⟩ := h0_1.inv_int
  obtain ⟨c0_2, z0_3, rfl, h0_2, e0_3⟩ := e0_2.cons
  obtain ⟨x0_2, rfl, k0_2⟩ := h0_2.inv_str
  obtain ⟨c0_3, z0_4, rfl, h0_3, e0_4⟩ := e0_3.cons
  obtain ⟨x0_3, rfl, k0_3⟩ := h0_3.inv_int
  obtain ⟨c0_4, z0_5, rfl, h0_4, e0_5⟩ := e0_4.cons
  obtain ⟨x0_4, rfl, k0_4⟩ := h0_4.inv_str
  obtain ⟨c0_5, z0_6, rfl, h0_5, e0_6⟩ := e0_5.cons
  obtain ⟨x0_5, rfl, k0_5⟩ := h0_5.inv_int
  obtain ⟨c0_6, z0_7, rfl, h0_6, e0_7⟩ := e0_6.cons
  obtain ⟨x0_6, rfl, k0_6⟩ := h0_6.inv_int
  obtain ⟨c0_7, z0_8, rfl, h0_7, e0_8⟩ := e0_7.cons
  obtain ⟨x0_7, rfl, k0_7⟩ := h0_7.inv_int
  obtain rfl := e0_8.done
  obtain ⟨v1, _, d1, _, p1, _, rfl, hv1, ht1, hr1, hB1, hb2, g2⟩ := g1.nextUpto hb1
  obtain ⟨c1, h1, r1⟩ := open_one (B := 1048576) (ty := .sl [.int .u8]) (d := 9) (by kernel_rfl) (by kernel_rfl) hB1 hv1 ht1
  obtain ⟨x1, rfl, k1⟩ := h1.inv_sl
  obtain rfl := g2.done
  refine law_of_meets meetsLawBytes (l := [.agg [.int .i64 x0_0, .int .u64 x0_1, .str x0_2, .int .u64 x0_3, .str x0_4, .int .i64 x0_5, .int .u64 x0_6, .int .i64 x0_7], .sl x1 .no]) rfl (⟨⟨Nat.le_trans k0_2 (by decide), Nat.le_trans k0_4 (by decide)⟩, h1.bytes, Nat.le_trans h1.len (by decide)⟩) rfl ?_
  intro i v hv
  match i, hv with
  | 0, hv =>
    obtain rfl : AV.agg [.int .i64 x0_0, .int .u64 x0_1, .str x0_2, .int .u64 x0_3, .str x0_4, .int .i64 x0_5, .int .u64 x0_6, .int .i64 x0_7] = v := by simpa using hv
    exact ⟨_, rfl, r0 _⟩
  | 1, hv =>
    obtain rfl : AV.sl x1 .no = v := by simpa using hv
    exact ⟨_, rfl, r1 _⟩
  | i + 2, hv => simp at hv

/-- The statement. -/
theorem cmdBytesUpto_holds : Rows.CmdBytesUptoSaid :=
  OpenClaim.holds_of_cond 10 Tryd.f10 rfl rfl rfl rfl rfl rfl rfl ⟨rfl, rfl, rfl, rfl, rfl⟩ rfl rfl rfl rfl rfl (by kernel_rfl) Tryd.func10 (by kernel_rfl)
    (of_decide_eq_true (by kernel_rfl)) (by unfold Func.isWrapper; first | (rw [if_pos (by decide +kernel)]; kernel_rfl) | (rw [if_neg (by decide +kernel)]; exact ⟨rfl, rfl⟩))
    (fun os started H enc _ F => cmdBytes_lift os started H enc F)
#print axioms cmdBytesUpto_holds

/-- The tied card: the row, with what it lists tied to the program's text. -/
theorem cmdBytesUpto_card : Rows.CmdBytesUptoCardSaid :=
  Claim7.holds_tied_plain_at .later [] [.data, .pinned] true (true, "066d9d54bf7d2b9ace2b560bd54625dac8774d04708ce318f78d0103eb25417e") false cmdBytesUpto_holds (fun _ h => by cases h) (by kernel_rfl) (fun _ h => by cases h) cmdBytesUpto_row_tie rfl ⟨rfl, rfl⟩ (by kernel_rfl) rfl
    (fun f fn hf hfn => by
      obtain rfl : f = 10 := Option.some.inj ((show Tryd.prog.funcNamed "moothill/moothilllaw07.CmdBytes" = some 10 by kernel_rfl).symm.trans hf) |>.symm
      obtain rfl : fn = Tryd.f10 := (Option.some.inj (Tryd.func10.symm.trans hfn)).symm
      exact ⟨by kernel_rfl, fun j t ht => by
        have hm : t ∈ [28, 33] := by simpa using Array.mem_of_getElem? ht
        have hall : ([28, 33].all fun u => !Tryd.prog.wantsStandIn u) = true := by kernel_rfl
        exact (show Tryd.prog.wantsStandIn t = false by simpa using List.all_eq_true.1 hall t hm)⟩)
    (by kernel_rfl)
#print axioms cmdBytesUpto_card
end Go.Proofs.YtcokifdgbfbonaaDoor
