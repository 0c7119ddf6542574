/- slices.Grow at nil, over bytes: a row of one's own, with nothing in it yet. -/
import Derived.Test.YtddilmocngedjaaLaxTail
import Derived.Test.YtddilmocngedjaaRefShort
import Derived.Test.YtddilmocngedjaaSame
import Derived.Lib.AppendZerosOnto
namespace Go.Proofs.Ytddilmocngedjaa
set_option linter.unusedVariables false
set_option linter.unusedSimpArgs false
open Go.RowKit Go.Lib

set_option maxHeartbeats 2000000 in
set_option maxRecDepth 100000 in
theorem grow_nil (n : Nat) (w : World) (hbig : n ≤ 140737488355328) :
    Calls Try.prog 59 #[.slice none 0 0, .int .i64 n] w fun e w' => ∃ x, e = .returned x ∧ OwnB w' w.heap.size x [] ∧ Below w.heap.size w w' := by
  obtain ⟨i0, hi, hz0, hz1, hz2⟩ := info_parts info_u8
  have t22 := Try.underlying22
  by_cases hn : n = 0
  · subst hn
    go_enter Try.func59, Try.ntmps59
    go_wp2
    go_ret
    exact ⟨_, rfl, OwnB.nil _ _, Below.refl _ _⟩
  have h1 : ¬ ((n : Int) < 0) := by omega
  have h2 : wrap64 ((0 : Int) - (0 : Int)) = 0 := by unfold wrap64; omega
  have h3 : wrap64 ((n : Int) - (0 : Int)) = (n : Int) := by unfold wrap64; omega
  have h4 : (n : Int) > 0 := by omega
  have hrz : ∀ ty, (Builtin.append_ #[22, 3] ty #[.slice none 0 0, .int .i64 (n : Int)]).run Try.prog w =
      .ok (.slice (some ⟨w.heap.size, 0, none⟩) n (grownCap w n 0 5)) (w.drew.alloc (.cells (#[] ++ Builtin.zeroCells (Value.int .u8 0).cells n ++ Builtin.zeroCells (Value.int .u8 0).cells (grownCap w n 0 5 - n)) 5)) := fun ty => by
    have h := Lib.run_append_grow_zeros w 22 3 ty 5 i0 (.int .u8 0) .i64 .i64 t22 Try.underlying3 hi hz0 none 0 0 [] (by exact run_firstCells_none w.drew i0.size 0 0 0) n (by omega) (by omega) (by omega) (by omega) (by rw [hz2]; omega) (by rw [Nat.zero_add]; exact growslice_fits (by omega) (by rw [hz2]; omega))
    rw [Nat.zero_add] at h
    exact h
  have hGn : n ≤ grownCap w n 0 5 := grownCap_ge w _ _ _
  obtain ⟨G, hG⟩ : ∃ G, G = grownCap w n 0 5 := ⟨_, rfl⟩
  rw [← hG] at hrz hGn
  have hG63 : G ≤ 9223372036854775807 := by
    have := grownCap_le_maxLen w n 0 5 (by unfold maxLen; omega)
    rw [← hG] at this
    unfold maxLen at this
    omega
  clear hG
  go_enter Try.func59, Try.ntmps59
  go_wp2_with (at_builtin; refine Lib.wpList_append_run _ rfl _ _ _ _ rfl _ _ rfl rfl _ _ (hrz _) ?_)
  all_goals go_ret
  all_goals refine ⟨_, rfl, ?_, ?_⟩
  · exact OwnB.drew (World.ownsRow_made w _ G (Nat.le_refl _) (by unfold maxLen; omega) (by simp [Builtin.zeroCells]; omega))
  · exact ((Below.refl _ w).alloc (Nat.le_refl _) _).drew
def growF : Con
  | [.val (.sl xs .nil), .val (.int .i64 n)] => some (xs = [] ∧ 0 ≤ n ∧ n ≤ 140737488355328, ⟨.sl [] (.row 0 0 5), none, none⟩)
  | _ => none
theorem meetsGrow : Meets Try.prog 59 growF := by
  refine meets_row_ex Try.call59 ?_
  intro args q r hF hq
  unfold growF at hF
  split at hF
  · rename_i xs n
    cases hF
    obtain ⟨rfl, h0, h1⟩ := hq
    refine ⟨[.sl [] .nil, .int .i64 n], [], _, rfl, rfl, fun x hx => (by simp at hx; rcases hx with rfl | rfl <;> rfl), rfl, by rw [ts_u8]; omega, fun x hx => (by cases hx), ?_⟩
    intro us w S hs h
    obtain ⟨u, u', rfl, hu, hu'⟩ := two_args hs fun i x hx => by obtain ⟨u, h1, h2, _⟩ := h i x hx; exact ⟨u, h1, h2⟩
    obtain ⟨_, e, _, e3⟩ := h 0 _ rfl
    obtain rfl : u = .slice none 0 0 := by
      rw [show #[u, u'][0]? = some u from rfl] at e
      cases e
      exact e3 [] rfl
    obtain ⟨rfl, _, _⟩ := repV_i64 hu'
    obtain ⟨k, rfl⟩ : ∃ k : Nat, n = k := ⟨n.toNat, by omega⟩
    refine (grow_nil k w (by omega)).mono ?_
    rintro e w' ⟨x, rfl, ho, hb⟩
    exact row_bytes (l := []) ho hb
  · cases hF
/-- the reference's short number -/
theorem meetsRefShort : Meets Try.prog 57 numShortF := by
  refine meets_row Try.call57 ?_
  intro args q r hF hq
  unfold numShortF at hF
  split at hF
  · rename_i v
    cases hF
    refine ⟨[.int .u64 v], _, _, rfl, rfl, fun x hx => (by simp at hx; subst hx; rfl), rfl, by rw [ts_u8]; omega, flat_bytes _, ?_⟩
    intro us w S hs h
    obtain ⟨u, rfl, hu⟩ := one_arg hs h
    obtain ⟨rfl, h0, h1⟩ := repV_u64 hu
    refine (refShort_any v w h0 h1).mono ?_
    rintro e w' ⟨x, rfl, ho, hb⟩
    exact row_bytes ho hb
  · cases hF
/-- are two byte texts the same? -/
def sameBF : Con
  | [.val (.sl xs .no), .val (.sl ys .no)] => some (isBytes xs ∧ isBytes ys, ⟨.bool (decide (bytesL xs = bytesL ys)), none, none⟩)
  | _ => none
theorem meetsSameB : Meets Try.prog 19 sameBF := by
  refine meets_plain Try.call19 ?_
  intro args q r hF hq
  unfold sameBF at hF
  split at hF
  · rename_i xs ys
    cases hF
    obtain ⟨l, rfl⟩ := hq.1.get
    obtain ⟨m, rfl⟩ := hq.2.get
    rw [bytesL_bytesAV, bytesL_bytesAV]
    refine ⟨[.sl (bytesAV l) .no, .sl (bytesAV m) .no], rfl, rfl, fun x hx => (by simp at hx; rcases hx with rfl | rfl <;> rfl), rfl, rfl, rfl, ?_⟩
    intro us w S hs h
    obtain ⟨u, u', rfl, hu, hu'⟩ := two_args hs h
    obtain ⟨A, c, rfl, h1, h2, h3⟩ := repV_bytes hu
    obtain ⟨A', c', rfl, h1', h2', h3'⟩ := repV_bytes hu'
    refine (same_any l m A A' c c' _ _ w h3 h3' (by omega) (by omega)).mono ?_
    rintro e w' ⟨rfl, n, rfl⟩
    exact ⟨_, rfl, bel_drewN (Below.refl _ _) n, (RepP.bool _ : RepP _ _ _ _)⟩
  · cases hF
end Go.Proofs.Ytddilmocngedjaa
