/- lead.knows: whether a replica was heard: slices.ContainsFunc at []pick.Told. -/
import Derived.Test.YtcokifdgbfbonaaDoorLaxArgs
import Derived.Test.YtcokifdgbfbonaaDoorShelfK
namespace Go.Proofs.YtcokifdgbfbonaaDoor
set_option linter.unusedVariables false
set_option linter.unusedSimpArgs false
open Go.RowKit Go.Lib

/-- a told state's cells: the replica, and 22 more -/
def encT (x : Int × List Value) : List Value := .int .i64 x.1 :: (List.range 22).map fun j => x.2.getD j undef
theorem encT_len (x : Int × List Value) : (encT x).length = 23 := by simp [encT]
set_option maxHeartbeats 2000000 in
set_option maxRecDepth 100000 in
theorem told_pred (q r : Int) (cs : Array Value) (h0 : cs[0]? = some (.int .i64 q)) (kb : Nat) (w : World) (hk : w.cell? ⟨kb, 0, none⟩ = some (.int .i64 r)) (hkb : kb < w.heap.size) (W : World) (hb : Below w.heap.size w W) :
    Calls Tryd.prog 137 #[.agg cs, .pointer (some ⟨kb, 0, none⟩)] W fun e w' => e = .returned (.bool (q == r)) ∧ Below w.heap.size w w' := by
  have hk' : W.cell? ⟨kb, 0, none⟩ = some (.int .i64 r) := by rw [hb.cell (p := ⟨kb, 0, none⟩) hkb]; exact hk
  have hk2 : ∀ o, (W.alloc o).cell? ⟨kb, 0, none⟩ = some (.int .i64 r) := fun o => Lib.cell?_alloc_some _ hk'
  have hB := Lib.hid hb
  clear hk hb
  go_enter Tryd.func137, Tryd.ntmps137
  go_wp2
  go_ret
  refine ⟨rfl, hB.out.alloc (hB.out.size) _⟩
theorem told_contains (r : Int) (kb b off n c : Nat) (zs : List (Int × List Value)) (w : World) (hk : w.cell? ⟨kb, 0, none⟩ = some (.int .i64 r)) (hkb : kb < w.heap.size) (hz : n = zs.length) (hbig : n ≤ 9223372036854775807) (hb : b < w.heap.size)
    (hc : ∀ j, j < zs.length → ∀ i v, (encT zs[j]!)[i]? = some v → w.cell? ⟨b, off + j * 23 + i, none⟩ = some v) :
    Calls Tryd.prog 136 #[.slice (some ⟨b, off, none⟩) n c, .func (.func 137) #[] #[.pointer (some ⟨kb, 0, none⟩)]] w
      fun e w' => e = .returned (.bool (zs.any fun y => y.1 == r)) ∧ Below w.heap.size w w' := by
  have h := AnyQ.slices_ContainsFunc (α := Int × List Value) Tryd.laysK8 23 Tryd.isAgg68 Tryd.sizeOf68 encT encT_len (fun y => y.1 == r) 137 #[.pointer (some ⟨kb, 0, none⟩)] Tryd.call137 b off n c zs w
    (fun W x hb' => told_pred x.1 r (encT x).toArray (by simp [encT]) kb w hk hkb W hb') (by omega) hbig hb hc
  rw [hz, List.take_length] at h
  rw [hz]
  exact h
set_option maxHeartbeats 2000000 in
set_option maxRecDepth 100000 in
theorem knows_any (a0 a1 a2 a3 a5 : Value) (r : Int) (b off n c : Nat) (zs : List (Int × List Value)) (w : World) (hz : n = zs.length) (hbig : n ≤ 9223372036854775807) (hb : b < w.heap.size)
    (hc : ∀ j, j < zs.length → ∀ i v, (encT zs[j]!)[i]? = some v → w.cell? ⟨b, off + j * 23 + i, none⟩ = some v) :
    Calls Tryd.prog 99 #[.agg #[a0, a1, a2, a3, .slice (some ⟨b, off, none⟩) n c, a5], .int .i64 r] w
      fun e w' => e = .returned (.bool (zs.any fun y => y.1 == r)) ∧ Below w.heap.size w w' := by
  obtain ⟨w1, hw1⟩ : ∃ w1, w1 = (w.alloc (.cells #[a0, a1, a2, a3, .slice (some ⟨b, off, none⟩) n c, a5] 81)).alloc (.cells #[.int .i64 r] 3) := ⟨_, rfl⟩
  have H := told_contains r (w.heap.size + 1) b off n c zs w1 (by rw [hw1]; simp) (by rw [hw1]; simp) hz hbig (by rw [hw1]; simp; omega) (fun j hj i v hv => by rw [hw1]; exact Lib.cell?_alloc_some _ (Lib.cell?_alloc_some _ (hc j hj i v hv)))
  rw [hw1] at H
  clear hc hw1 hz
  generalize (zs.any fun y => y.1 == r) = R at H ⊢
  go_enter Tryd.func99, Tryd.ntmps99
  go_wp2_with (go_at_call 136; refine H.mono ?_; rintro e w' ⟨rfl, hb'⟩)
  go_ret
  exact ⟨rfl, (((Below.refl _ w).alloc (Nat.le_refl _) _).alloc (by simp) _).trans (hb'.mono (by simp; omega))⟩
end Go.Proofs.YtcokifdgbfbonaaDoor
