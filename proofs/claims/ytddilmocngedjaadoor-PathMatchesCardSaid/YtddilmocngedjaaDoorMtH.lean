/- slices.Sort and slices.Compact over a row of one's own: what set it holds. -/
import Derived.Test.YtddilmocngedjaaDoorMtG
import Derived.Sort.Grow
namespace Go.Proofs.YtddilmocngedjaaDoor
set_option linter.unusedVariables false
set_option linter.unusedSimpArgs false
open Go Go.Proofs Go.RowKit Go.Lib Go.Sort
theorem below_mapBlock {B g : Nat} {w0 w : World} (hb : Below B w0 w) (hg : B ≤ g) (f : Array Value → Array Value) : Below B w0 (mapBlock w g f) := by
  refine ⟨hb.os, hb.tape, hb.output, ?_, fun k hk => ?_⟩
  · have : (mapBlock w g f).heap.size = w.heap.size := by simp [mapBlock]
    rw [this]; exact hb.size
  · rw [← hb.block k hk]
    have hne : g ≠ k := by omega
    simp [mapBlock, Array.getElem?_modify, hne]
theorem below_putRow {α : Type} [Inhabited α] {B g off : Nat} {w0 w : World} {enc : α → Value} {d : Array α} (hb : Below B w0 w) (hg : B ≤ g) : Below B w0 (putRow enc w g off d) := below_mapBlock hb hg _
theorem below_ahead {B : Nat} {w0 w : World} (hb : Below B w0 w) (n : Nat) : Below B w0 (Sort.ahead w n) := ⟨hb.os, hb.tape, hb.output, hb.size, hb.block⟩
theorem below_grow {B : Nat} {w0 w : World} (hb : Below B w0 w) (hB : B ≤ w.heap.size) (os : Array Obj) : Below B w0 (grow w os) :=
  ⟨hb.os, hb.tape, hb.output, by have := hb.size; simp; omega, fun k hk => by rw [heap_grow_old w os (by omega)]; exact hb.block k hk⟩
theorem compactUpTo_mem (d : Array Int) : ∀ (m : Nat), m ≤ d.size → ∀ x, x ∈ compactUpTo d m ↔ ∃ j, j < m ∧ d[j]! = x
  | 0, _, x => by simp [compactUpTo]
  | m + 1, h, x => by
    rw [compactUpTo_succ, List.mem_append, compactUpTo_mem d m (by omega) x]
    constructor
    · rintro (⟨j, hj, e⟩ | h1)
      · exact ⟨j, by omega, e⟩
      · split at h1
        · exact ⟨m, by omega, (List.mem_singleton.1 h1).symm⟩
        · simp at h1
    · rintro ⟨j, hj, e⟩
      by_cases hjm : j < m
      · exact .inl ⟨j, hjm, e⟩
      · obtain rfl : j = m := by omega
        by_cases hk : keeps d j = true
        · right; rw [if_pos hk]; simpa using e.symm
        · left
          have h0 : j ≠ 0 := fun h0 => hk (by subst h0; exact keeps_lt_one d 0 (by omega))
          have h1 : d[j]! = d[j - 1]! := Decidable.byContradiction fun hne => hk (keeps_pos hne)
          exact ⟨j - 1, by omega, by rw [← h1]; exact e⟩
theorem compact_mem (zs : List Int) (x : Int) : x ∈ Lib.compact zs ↔ x ∈ zs := by
  unfold Lib.compact
  rw [compactUpTo_mem _ _ (by simp)]
  constructor
  · rintro ⟨j, hj, rfl⟩
    simp [getElem!_pos, hj]
  · intro h
    obtain ⟨j, hj, rfl⟩ := List.mem_iff_getElem.1 h
    exact ⟨j, hj, by simp [getElem!_pos, hj]⟩
theorem compact_len (zs : List Int) : (Lib.compact zs).length ≤ zs.length := by
  unfold Lib.compact compactUpTo
  rw [List.length_map]
  exact Nat.le_trans (List.length_filter_le _ _) (by simp)
theorem own_holds {w : World} {base g n cap : Nat} {zs : List Int} (h : w.ownsRow base 3 1 (.slice (some ⟨g, 0, none⟩) n cap) n (zs.map (Value.int .i64))) (hn : zs.length = n) : Holds (Value.int .i64) w g 0 zs.toArray := by
  intro j hj
  have hj' : j < zs.length := by simpa using hj
  refine ⟨?_, World.ownsRow.frozenAt h (0 + j)⟩
  rw [Nat.zero_add, World.ownsRow.cellAt h j (by omega), List.getElem?_map, List.getElem?_eq_getElem hj']
  simp [getElem!_pos, hj']
theorem sort_own (base g cap : Nat) (zs : List Int) (w : World) (hg : base ≤ g) (hgs : g < w.heap.size) (hH : Holds (Value.int .i64) w g 0 zs.toArray) (hsz : zs.length < 4611686018427387904) :
    Calls Tryd.prog 37 #[.slice (some ⟨g, 0, none⟩) zs.length cap] w fun e w' => e = .returned (.tuple #[]) ∧ Below base w w' ∧ Holds (Value.int .i64) w' g 0 (zs.mergeSort fun x y => decide (x ≤ y)).toArray := by
  refine (Tryd.slices_Sort_int g 0 cap zs w hH hgs hsz).mono ?_
  rintro e w' ⟨rfl, n, os, rfl⟩
  refine ⟨rfl, below_grow (below_putRow (below_ahead (Below.refl _ _) n) hg) (by simp; omega) os, ?_⟩
  refine holds_grow _ _ _ _ _ _ (by simpa using hgs) ?_
  exact holds_putRow _ _ _ _ zs.toArray _ hH (by simp)
theorem compact_own (base g cap : Nat) (zs : List Int) (w : World) (hg : base ≤ g) (hH : Holds (Value.int .i64) w g 0 zs.toArray) (hsz : zs.length ≤ 9223372036854775807) (hcap : zs.length ≤ cap) :
    Calls Tryd.prog 38 #[.slice (some ⟨g, 0, none⟩) zs.length cap] w fun e w' => e = .returned (.slice (some ⟨g, 0, none⟩) (Lib.compact zs).length cap) ∧ Below base w w' ∧ ∀ (j : Nat) x, (Lib.compact zs)[j]? = some x → w'.cell? ⟨g, 0 + j, none⟩ = some (.int .i64 x) := by
  refine (Tryd.slices_Compact_int g 0 cap zs w hH hsz hcap).mono ?_
  rintro e w' ⟨rfl, q, rfl⟩
  refine ⟨rfl, below_putRow (below_ahead (Below.refl _ _) q) hg, fun j x hx => ?_⟩
  have hl := compact_len zs
  have hj := (List.getElem?_eq_some_iff.1 hx).1
  have h := holds_putRow (Value.int .i64) (Sort.ahead w q) g 0 zs.toArray (Lib.compact zs ++ List.replicate (zs.length - (Lib.compact zs).length) 0).toArray hH (by simp; omega) j (by simp; omega)
  rw [h.1]
  have e : (Lib.compact zs ++ List.replicate (zs.length - (Lib.compact zs).length) 0)[j]? = some x := by rw [List.getElem?_append_left hj]; exact hx
  simp [getElem!_def, e]
end Go.Proofs.YtddilmocngedjaaDoor
