/- crew.Set.List: those in a set. -/
import Derived.Test.YtcokifdgbfbonaaDoorDel
import Derived.Lib.LazyBuf
import Derived.Shelf.Slices.Clone
namespace Go.Proofs.YtcokifdgbfbonaaDoor
set_option linter.unusedVariables false
set_option linter.unusedSimpArgs false
open Go.RowKit Go.Lib
def ivL (k : Nat) : List Value := (List.range k).map fun r : Nat => Value.int .i64 ((r : Nat) : Int)
theorem info_i64 : (Tryd.prog.info? 3).map (fun i => (i.zero, i.size, i.bytes)) = some (some (.int .i64 0), 1, 8) := by kernel_rfl
set_option maxHeartbeats 4000000 in
set_option maxRecDepth 100000 in
theorem list_any (s : Int) (hs : 0 ≤ s ∧ s ≤ 255) (w : World) :
    Calls Tryd.prog 41 #[.int .u8 s] w fun e w' => ∃ g c, e = .returned (.slice (some ⟨g, 0, none⟩) (keepS s [0, 1, 2, 3, 4, 5, 6]).length c) ∧ Below w.heap.size w w' ∧ w.heap.size ≤ g ∧ (7 ≤ c ∧ c ≤ 9223372036854775807) ∧ ∀ t, t < (keepS s [0, 1, 2, 3, 4, 5, 6]).length → w'.cell? ⟨g, t, none⟩ = some (.int .i64 ((keepS s [0, 1, 2, 3, 4, 5, 6]).getD t 0)) := by
  obtain ⟨i0, hi, hz0, hz1, hz2⟩ := info_parts info_i64
  have t22 := Tryd.underlying64
  go_enter Tryd.func41, Tryd.ntmps41
  go_wp2
  go_loopg [3, 4, 5] 7 (fun gg s3 _ s5 wr => ∃ k : Nat, s5 = .int .i64 (k : Int) ∧ k ≤ 7 ∧ 7 - k ≤ gg ∧ Hid (wr.ownsRow w.heap.size 3 1 s3 k (ivL k) ∧ Below w.heap.size w wr))
  case atStart => exact ⟨0, rfl, by omega, by omega, ⟨World.ownsRow_nil _ _ _ _, Below.refl _ w⟩⟩
  case round =>
    obtain ⟨k, rfl, hk, hg, hI⟩ := hrel
    by_cases hlt : k < 7
    · have hal := fun o => hI.out.1.alloc o
      go_wp2_with (at_builtin; refine wpList_append_own _ rfl _ _ 64 rfl w.heap.size 3 i0 (.int .i64 0) 1 8 t22 hi hz0 hz1 hz2 rfl (by decide) _ k (ivL k) rfl (hal _) ⟨wr.heap.size, 0, none⟩ 1 1 [.int .i64 (k : Int)] rfl ?qc1 ?qc2 ?qc3 ?qc4 ?qc5 ?qc6 ?_)
      case qc1 => rfl
      case qc2 =>
        intro j u hj
        match j, hj with
        | 0, hj =>
          obtain rfl : Value.int .i64 (k : Int) = u := by simpa using hj
          simp [Addr.add]
        | j + 1, hj => simp at hj
      case qc3 => intro u hu; simp at hu; subst hu; rfl
      case qc4 => unfold maxLen; omega
      case qc5 => omega
      case qc6 => have := hI.out.2.size; simp; omega
      intro v' w1 hown hgrow hnil
      have e : ivL k ++ [Value.int .i64 (k : Int)] = ivL (k + 1) := by unfold ivL; rw [List.range_succ, List.map_append]; rfl
      rw [e] at hown
      have HO := Lib.hid hown
      have HB : Hid (Below w.heap.size w w1) := (hI.out.2.alloc hI.out.2.size _).grown hgrow (by have := hI.out.2.size; simp; omega) (by intro q hq; exact (hI.out.1.lt q hq).1)
      clear hown hgrow hnil hal e
      go_wp2
      go_roundg (7 - (k + 1))
      case measure => omega
      case rel => exact ⟨k + 1, by go_num, by omega, by omega, (⟨HO.out, HB.out⟩ : _)⟩
    · obtain rfl : k = 7 := by omega
      obtain ⟨A, cap, rfl, h7, hcap, hA⟩ := row_form hI.out.1
      obtain ⟨g, rfl⟩ := hA (by omega)
      obtain ⟨hg1, hg2⟩ := hI.out.1.lt g rfl
      have D := del_any s hs g 7 cap [0, 1, 2, 3, 4, 5, 6] wr rfl (by omega) h7 (fun j hj => by
          have : j = 0 ∨ j = 1 ∨ j = 2 ∨ j = 3 ∨ j = 4 ∨ j = 5 ∨ j = 6 := by omega
          rcases this with rfl | rfl | rfl | rfl | rfl | rfl | rfl <;> decide) hg2 (fun j hj => by
          rw [World.ownsRow.cellAt hI.out.1 j (by omega)]
          have : j = 0 ∨ j = 1 ∨ j = 2 ∨ j = 3 ∨ j = 4 ∨ j = 5 ∨ j = 6 := by omega
          rcases this with rfl | rfl | rfl | rfl | rfl | rfl | rfl <;> rfl) (fun j hj => World.ownsRow.frozenAt hI.out.1 j)
      have HI := Lib.hid hI.out.2
      have HG := Lib.hid hg1
      clear hI hg1 hg2
      generalize hK : keepS s [0, 1, 2, 3, 4, 5, 6] = K at *
      go_wp2_with (go_at_call 86; refine D.mono ?_; rintro e w' ⟨rfl, hb', hcells⟩)
      go_ret
      subst hK
      exact ⟨g, cap, rfl, HI.out.trans (hb'.mono HG.out), HG.out, ⟨h7, hcap⟩, hcells⟩
end Go.Proofs.YtcokifdgbfbonaaDoor
