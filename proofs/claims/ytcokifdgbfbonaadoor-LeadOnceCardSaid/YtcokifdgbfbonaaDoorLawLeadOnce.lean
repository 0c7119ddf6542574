/- LeadOnce: whatever the arguments, the law returns true, and all that was there is as it was. No condition. -/
import Derived.Test.YtcokifdgbfbonaaDoorFrameLaid
import Derived.Test.YtcokifdgbfbonaaDoorLaxOpen
import Derived.Test.YtcokifdgbfbonaaDoorLeadTy
namespace Go.Proofs.YtcokifdgbfbonaaDoor
open Go.ChangeShapes Go.WideShapes Go.ChangeAt Go.RowKit
open Go.ChangeMaps (open_string shut_string)
set_option linter.unusedVariables false

set_option maxRecDepth 100000 in
theorem leadOnce_lift (os : Os) (started : os.Started) (H : Type) (enc : TypeId × Value → H) :
    ReturnsInHanded {} Tryd.checked os 12 .any (fun w args => (Rows.leadOnceSpec.pre enc Tryd.checked.prog Tryd.f12 [] false w args ∧ laidMetH Tryd.prog laidTables w) ∧ sizedMet enc Tryd.checked.prog Tryd.f12 (OpenSpec.ofChange Rows.leadOnceSpec) false w args) (Rows.leadOnceSpec.post enc Tryd.checked.prog Tryd.f12 false true false false) := by
  refine law_lift_and (X := fun w _ => laidMetH Tryd.prog laidTables w) (fun _ _ _ hh h => h.of_heap hh) [3, 3, 44, 79, 39] os started H enc (by kernel_rfl) Tryd.func12 (by kernel_rfl) (by kernel_rfl) rfl (by kernel_rfl) ?_
    (ChangeSpec.witness_shaped (enc := enc) (C := Tryd.checked) (os := os) (X := fun w _ => laidMetH Tryd.prog laidTables w) false (World.laidAll Tryd.prog os laidTables) #[.int .i64 0, .int .i64 0, .agg #[.int .i64 0, .int .i64 0, .int .i64 0, .int .u32 0, .int .u32 0, .bool false, .int .i64 0, .int .u64 0, .string ByteArray.empty, .int .u64 0, .string ByteArray.empty, .int .i64 0, .int .u64 0, .int .i64 0, .int .i64 0, .int .i64 0, .int .i64 0, .int .i64 0, .int .i64 0, .int .i64 0, .int .i64 0, .int .i64 0], .slice none 0 0, .int .u32 0] 12 (World.laidAll_os _ _ _) (World.shaped_of_ZipB (by kernel_rfl) (by kernel_rfl)) (by kernel_rfl) (by kernel_rfl) (by kernel_rfl) (laid_world os _)) ?_
  · intro ds h
    match ds, h with
    | [d0, d1, d2, d3, d4], _ => rfl
  intro W base args ds p g0
  obtain ⟨v0, _, d0, _, p0, _, rfl, hv0, ht0, hr0, g1⟩ := g0.next
  obtain ⟨c0, h0, r0⟩ := open_one (B := 9223372036854775807) (ty := .int .i64) (d := 9) (by kernel_rfl) (by kernel_rfl) (.inl (Nat.le_refl _)) hv0 ht0
  obtain ⟨x0, rfl, k0⟩ := h0.inv_int
  obtain ⟨v1, _, d1, _, p1, _, rfl, hv1, ht1, hr1, g2⟩ := g1.next
  obtain ⟨c1, h1, r1⟩ := open_one (B := 9223372036854775807) (ty := .int .i64) (d := 9) (by kernel_rfl) (by kernel_rfl) (.inl (Nat.le_refl _)) hv1 ht1
  obtain ⟨x1, rfl, k1⟩ := h1.inv_int
  obtain ⟨v2, _, d2, _, p2, _, rfl, hv2, ht2, hr2, g3⟩ := g2.next
  obtain ⟨z2_0, e2_0, r2⟩ := open_agg (B := 9223372036854775807) (l := [.int .i64, .int .i64, .int .i64, .int .u32, .int .u32, .bool, .int .i64, .int .u64, .str, .int .u64, .str, .int .i64, .int .u64, .int .i64, .int .i64, .int .i64, .int .i64, .int .i64, .int .i64, .int .i64, .int .i64, .int .i64]) (d := 9) (by kernel_rfl) (by kernel_rfl) (.inl (Nat.le_refl _)) hv2 ht2
  obtain ⟨c2_0, z2_1, rfl, h2_0, e2_1⟩ := e2_0.cons
  obtain ⟨x2_0, rfl, k2_0⟩ := h2_0.inv_int
  obtain ⟨c2_1, z2_2, rfl, h2_1, e2_2⟩ := e2_1.cons
  obtain ⟨x2_1, rfl, k2_1⟩ := h2_1.inv_int
  obtain ⟨c2_2, z2_3, rfl, h2_2, e2_3⟩ := e2_2.cons
  obtain ⟨x2_2, rfl, k2_2⟩ := h2_2.inv_int
  obtain ⟨c2_3, z2_4, rfl, h2_3, e2_4⟩ := e2_3.cons
  obtain ⟨x2_3, rfl, k2_3⟩ := h2_3.inv_int
  obtain ⟨c2_4, z2_5, rfl, h2_4, e2_5⟩ := e2_4.cons
  obtain ⟨x2_4, rfl, k2_4⟩ := h2_4.inv_int
  obtain ⟨c2_5, z2_6, rfl, h2_5, e2_6⟩ := e2_5.cons
  obtain ⟨x2_5, rfl⟩ := h2_5.inv_bool
  obtain ⟨c2_6, z2_7, rfl, h2_6, e2_7⟩ := e2_6.cons
  obtain ⟨x2_6, rfl, k2_6⟩ := h2_6.inv_int
  obtain ⟨c2_7, z2_8, rfl, h2_7, e2_8⟩ := e2_7.cons
  obtain ⟨x2_7, rfl, k2_7⟩ := h2_7.inv_int
  obtain ⟨c2_8, z2_9, rfl, h2_8, e2_9⟩ := e2_8.cons
  obtain ⟨x2_8, rfl, k2_8⟩ := h2_8.inv_str
  obtain ⟨c2_9, z2_10, rfl, h2_9, e2_10⟩ := e2_9.cons
  obtain ⟨x2_9, rfl, k2_9⟩ := h2_9.inv_int
  obtain ⟨c2_10, z2_11, rfl, h2_10, e2_11⟩ := e2_10.cons
  obtain ⟨x2_10, rfl, k2_10⟩ := h2_10.inv_str
  obtain ⟨c2_11, z2_12, rfl, h2_11, e2_12⟩ := e2_11.cons
  obtain ⟨x2_11, rfl, k2_11⟩ := h2_11.inv_int
  obtain ⟨c2_12, z2_13, rfl, h2_12, e2_13⟩ := e2_12.cons
  obtain ⟨x2_12, rfl, k2_12⟩ := h2_12.inv_int
  obtain ⟨c2_13, z2_14, rfl, h2_13, e2_14⟩ := e2_13.cons
  obtain ⟨x2_13, rfl, k2_13⟩ := h2_13.inv_int
  obtain ⟨c2_14, z2_15, rfl, h2_14, e2_15⟩ := e2_14.cons
  obtain ⟨x2_14, rfl, k2_14⟩ := h2_14.inv_int
  obtain ⟨c2_15, z2_16, rfl, h2_15, e2_16⟩ := e2_15.cons
  obtain ⟨x2_15, rfl, k2_15⟩ := h2_15.inv_int
  obtain ⟨c2_16, z2_17, rfl, h2_16, e2_17⟩ := e2_16.cons
  obtain ⟨x2_16, rfl, k2_16⟩ := h2_16.inv_int
  obtain ⟨c2_17, z2_18, rfl, h2_17, e2_18⟩ := e2_17.cons
  obtain ⟨x2_17, rfl, k2_17⟩ := h2_17.inv_int
  obtain ⟨c2_18, z2_19, rfl, h2_18, e2_19⟩ := e2_18.cons
  obtain ⟨x2_18, rfl, k2_18⟩ := h2_18.inv_int
  obtain ⟨c2_19, z2_20, rfl, h2_19, e2_20⟩ := e2_19.cons
  obtain ⟨x2_19, rfl, k2_19⟩ := h2_19.inv_int
  obtain ⟨c2_20, z2_21, rfl, h2_20, e2_21⟩ := e2_20.cons
  obtain ⟨x2_20, rfl, k2_20⟩ := h2_20.inv_int
  obtain ⟨c2_21, z2_22, rfl, h2_21, e2_22⟩ := e2_21.cons
  obtain ⟨x2_21, rfl, k2_21⟩ := h2_21.inv_int
  obtain rfl := e2_22.done
  obtain ⟨v3, _, d3, _, p3, _, rfl, hv3, ht3, hr3, g4⟩ := g3.next
  obtain ⟨c3, h3, r3⟩ := open_one (B := 9223372036854775807) (ty := .sl [.int .i64, .int .i64, .int .i64, .int .i64, .int .i64, .int .u32, .bool, .int .i64, .int .i64, .int .i64, .int .u32, .int .u32, .bool, .int .i64, .int .u64, .str, .int .u64, .str, .int .i64, .int .u64, .int .i64, .int .i64, .int .i64, .int .i64, .int .i64, .int .i64, .int .i64, .int .i64, .int .i64]) (d := 9) (by kernel_rfl) (by kernel_rfl) (.inl (Nat.le_refl _)) hv3 ht3
  obtain ⟨x3, rfl, k3⟩ := h3.inv_sl
  obtain ⟨v4, _, d4, _, p4, _, rfl, hv4, ht4, hr4, g5⟩ := g4.next
  obtain ⟨c4, h4, r4⟩ := open_one (B := 9223372036854775807) (ty := .int .u32) (d := 9) (by kernel_rfl) (by kernel_rfl) (.inl (Nat.le_refl _)) hv4 ht4
  obtain ⟨x4, rfl, k4⟩ := h4.inv_int
  obtain rfl := g5.done
  refine law_of_meets meetsLawOnce (l := [.int .i64 x0, .int .i64 x1, .agg [.int .i64 x2_0, .int .i64 x2_1, .int .i64 x2_2, .int .u32 x2_3, .int .u32 x2_4, .bool x2_5, .int .i64 x2_6, .int .u64 x2_7, .str x2_8, .int .u64 x2_9, .str x2_10, .int .i64 x2_11, .int .u64 x2_12, .int .i64 x2_13, .int .i64 x2_14, .int .i64 x2_15, .int .i64 x2_16, .int .i64 x2_17, .int .i64 x2_18, .int .i64 x2_19, .int .i64 x2_20, .int .i64 x2_21], .sl x3 .no, .int .u32 x4]) rfl (⟨⟨k2_8, k2_10⟩, isMsgs_of k3⟩) rfl ?_
  intro i v hv
  match i, hv with
  | 0, hv =>
    obtain rfl : AV.int .i64 x0 = v := by simpa using hv
    exact ⟨_, rfl, r0 _⟩
  | 1, hv =>
    obtain rfl : AV.int .i64 x1 = v := by simpa using hv
    exact ⟨_, rfl, r1 _⟩
  | 2, hv =>
    obtain rfl : AV.agg [.int .i64 x2_0, .int .i64 x2_1, .int .i64 x2_2, .int .u32 x2_3, .int .u32 x2_4, .bool x2_5, .int .i64 x2_6, .int .u64 x2_7, .str x2_8, .int .u64 x2_9, .str x2_10, .int .i64 x2_11, .int .u64 x2_12, .int .i64 x2_13, .int .i64 x2_14, .int .i64 x2_15, .int .i64 x2_16, .int .i64 x2_17, .int .i64 x2_18, .int .i64 x2_19, .int .i64 x2_20, .int .i64 x2_21] = v := by simpa using hv
    exact ⟨_, rfl, r2 _⟩
  | 3, hv =>
    obtain rfl : AV.sl x3 .no = v := by simpa using hv
    exact ⟨_, rfl, r3 _⟩
  | 4, hv =>
    obtain rfl : AV.int .u32 x4 = v := by simpa using hv
    exact ⟨_, rfl, r4 _⟩
  | i + 5, hv => simp at hv

/-- The statement. -/
theorem leadOnce_holds : Rows.LeadOnceSaid :=
  OpenClaim.holds_of_wide 12 Tryd.f12 rfl rfl rfl rfl rfl rfl rfl ⟨rfl, rfl, rfl, rfl, rfl⟩ rfl rfl rfl rfl rfl (by kernel_rfl) Tryd.func12 (by kernel_rfl)
    (of_decide_eq_true (by kernel_rfl)) (by unfold Func.isWrapper; first | (rw [if_pos (by decide +kernel)]; kernel_rfl) | (rw [if_neg (by decide +kernel)]; exact ⟨rfl, rfl⟩))
    (fun os started H enc _ => leadOnce_lift os started H enc)
#print axioms leadOnce_holds

/-- The tied card: the row, with what it lists tied to the program's text. -/
theorem leadOnce_card : Rows.LeadOnceCardSaid :=
  Claim7.holds_tied_plain_at .later [] [.data, .pinned] true (true, "066d9d54bf7d2b9ace2b560bd54625dac8774d04708ce318f78d0103eb25417e") false leadOnce_holds (fun _ h => by cases h) (by kernel_rfl) (fun _ h => by cases h) leadOnce_row_tie rfl ⟨rfl, rfl⟩ (by kernel_rfl) rfl
    (fun f fn hf hfn => by
      obtain rfl : f = 12 := Option.some.inj ((show Tryd.prog.funcNamed "moothill/moothilllaw23.LeadOnce" = some 12 by kernel_rfl).symm.trans hf) |>.symm
      obtain rfl : fn = Tryd.f12 := (Option.some.inj (Tryd.func12.symm.trans hfn)).symm
      exact ⟨by kernel_rfl, fun j t ht => by
        have hm : t ∈ [3, 3, 44, 79, 39] := by simpa using Array.mem_of_getElem? ht
        have hall : ([3, 3, 44, 79, 39].all fun u => !Tryd.prog.wantsStandIn u) = true := by kernel_rfl
        exact (show Tryd.prog.wantsStandIn t = false by simpa using List.all_eq_true.1 hall t hm)⟩)
    (by kernel_rfl)
#print axioms leadOnce_card
end Go.Proofs.YtcokifdgbfbonaaDoor
