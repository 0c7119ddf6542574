/- A disk in a real world: contracts by content as calls; stores into its block. -/
import Derived.Test.YtddilmocngedjaaDkA
import Derived.Sort.Row
import Derived.Laws.OwnMore
import Derived.Shelf.RegionOpenPlain
namespace Go.Proofs.Ytddilmocngedjaa
set_option linter.unusedVariables false
set_option linter.unusedSimpArgs false
open Go Go.Proofs Go.RowKit Go.Lib
theorem disk_call {f : Nat} {F : Con} (hM : Meets Try.prog f F) {w : World} {D : Nat} {d d' : DV} {v0 v1 : Value} {l : List AV} {us : Array Value} {q : Prop} {val : AV} (hF : F (.box d.av :: vals l) = some (q, ⟨val, some d'.av, none⟩)) (hq : q) (hv : val.cellsT.all (fun c => (rowOf c).isNone) = true)
    (h : DiskAt w D d v0 v1) (hs : us.size = l.length + 1) (hu0 : us[0]? = some (.pointer (some ⟨D, 0, none⟩)))
    (hu : ∀ (i : Nat) v, l[i]? = some v → ∃ u, us[i + 1]? = some u ∧ Rep Try.prog (entrySt (.box d.av :: vals l)) (ghD D v0 v1) w v u) :
    Calls Try.prog f us w fun e w' => ∃ v v0' v1', e = .returned v ∧ DiskAt w' D d' v0' v1' ∧ Touch w D v0 v1 w' v0' v1' ∧ ∃ GX, Rep Try.prog (exitSt 1 (some (0, 0)) ⟨val, some d'.av, none⟩) GX w' (retVal (some (0, 0)) 1 8 val) v := by
  refine (hM.calls _ us w _ _ 1 (some (0, 0)) q _ hF hq (came_disk h l us hs hu0 hu) rfl (fun i s e => ?_)).mono ?_
  · cases e
    exact ⟨by decide, _, rfl⟩
  · rintro e w' ⟨GX, v, rfl, hB⟩
    obtain ⟨v0', v1', h1, h2, h3⟩ := disk_back hv hB
    exact ⟨v, v0', v1', rfl, h1, h2, GX, h3⟩
section
variable {w : World} {D : Nat} {d : DV} {v0 v1 : Value} (h : DiskAt w D d v0 v1)
include h
theorem DiskAt.cell {i : Nat} {u : Value} (hi : (d.vals v0 v1)[i]? = some u) : w.cell? ⟨D, i, none⟩ = some u := by
  obtain ⟨us, t, ht, _, hus⟩ := h.box
  rw [cell_of_row w D i us t (0, 0) ht]
  exact hus i u hi
theorem DiskAt.frozen (i : Nat) : w.frozen? ⟨D, i, none⟩ = false := by
  obtain ⟨us, t, ht, _, _⟩ := h.box
  simp [World.frozen?, ht]
theorem DiskAt.lt : D < w.heap.size := by
  obtain ⟨us, t, ht, _, _⟩ := h.box
  exact (Array.getElem?_eq_some_iff.1 ht).1
end
theorem own_other {w : World} {D i base n : Nat} {u v : Value} {xs : List Value} (h : w.ownsRow base 5 1 v n xs) (ho : v.ownBlock ≠ some D) : (w.setCell ⟨D, i, none⟩ u).ownsRow base 5 1 v n xs := by
  refine ⟨h.1, ?_⟩
  rcases h.2 with h | ⟨g, cap, cur, rfl, h1, h2, h3⟩
  · exact .inl h
  · refine .inr ⟨g, cap, cur, rfl, h1, ?_, h3⟩
    have hne : D ≠ g := fun e => ho (by rw [e]; rfl)
    rw [← h2, Sort.setCell_eq]
    simp [Sort.mapBlock, Array.getElem?_modify, hne]
/-- a cell of the disk is stored -/
theorem DiskAt.set {w : World} {D i : Nat} {d d' : DV} {v0 v1 v0' v1' u : Value} (h : DiskAt w D d v0 v1) (hv : d'.vals v0' v1' = (d.vals v0 v1).set i u) (hi : i < 8)
    (h0 : w.ownsRow 0 5 1 v0' d'.x0.length (d'.x0.map bv)) (h1 : w.ownsRow 0 5 1 v1' d'.x1.length (d'.x1.map bv)) (b0 : v0'.ownBlock = none ∨ v0'.ownBlock = v0.ownBlock) (b1 : v1'.ownBlock = none ∨ v1'.ownBlock = v1.ownBlock)
    (ok : i64ok d'.sz ∧ i64ok d'.s0 ∧ i64ok d'.s1 ∧ i64ok d'.un) : DiskAt (w.setCell ⟨D, i, none⟩ u) D d' v0' v1' ∧ Touch w D v0 v1 (w.setCell ⟨D, i, none⟩ u) v0' v1' := by
  have c0 : v0'.ownBlock ≠ some D := by rcases b0 with e | e <;> rw [e]; exact fun e => by cases e
                                        exact h.a0
  have c1 : v1'.ownBlock ≠ some D := by rcases b1 with e | e <;> rw [e]; exact fun e => by cases e
                                        exact h.a1
  obtain ⟨us, t, ht, h8, hus⟩ := h.box
  have hh : (w.setCell ⟨D, i, none⟩ u).heap[D]? = some (.cells (us.setIfInBounds i u) t (0, 0)) := by
    rw [Sort.setCell_eq]
    simp [Sort.mapBlock, Array.getElem?_modify, ht, Sort.onCells]
  have hsz : (w.setCell ⟨D, i, none⟩ u).heap.size = w.heap.size := by
    rw [Sort.setCell_eq]; simp [Sort.mapBlock]
  refine ⟨⟨⟨_, t, hh, by simpa using h8, fun j x hj => ?_⟩, own_other h0 c0, own_other h1 c1, c0, c1, fun g e e' => ?_, ok⟩, ⟨?_, ?_, ?_, by omega, fun b hb hne _ _ => ?_, fun g hg => ?_⟩⟩
  · rw [hv, List.getElem?_set] at hj
    rw [Array.getElem?_setIfInBounds]
    by_cases hij : i = j
    · subst hij
      rw [if_pos rfl] at hj ⊢
      have hl : (d.vals v0 v1).length = 8 := rfl
      rw [hl, if_pos hi] at hj
      rw [if_pos (by omega)]; exact hj
    · rw [if_neg hij] at hj ⊢
      exact hus j x hj
  · rcases b0 with e0 | e0 <;> rw [e0] at e
    · cases e
    · rcases b1 with e1 | e1 <;> rw [e1] at e'
      · cases e'
      · exact h.a2 g e e'
  · rw [Sort.setCell_eq]; rfl
  · rw [Sort.setCell_eq]; rfl
  · rw [Sort.setCell_eq]; rfl
  · exact Below.heap_setCell w ⟨D, i, none⟩ u b hne
  · right
    rcases hg with hg | hg
    · rcases b0 with e | e <;> rw [e] at hg
      · cases hg
      · exact .inl hg
    · rcases b1 with e | e <;> rw [e] at hg
      · cases hg
      · exact .inr hg
theorem own_cut {w : World} {base n k : Nat} {A : Option Addr} {cap : Nat} {xs : List Value} (h : w.ownsRow base 5 1 (.slice A n cap) n xs) (hk : k ≤ n) : w.ownsRow base 5 1 (.slice A k cap) k (xs.take k) := by
  obtain ⟨h1, h2⟩ := h
  refine ⟨by simp; omega, ?_⟩
  rcases h2 with ⟨e, hn⟩ | ⟨g, cap', cur, e, hb, hg, h3, h4, h5, h6⟩
  · cases e
    obtain rfl : k = 0 := by omega
    exact .inl ⟨rfl, rfl⟩
  · cases e
    exact .inr ⟨g, cap, cur, rfl, hb, hg, by omega, h4, h5, by rw [← h6, Nat.mul_one, Nat.mul_one, List.take_take]; congr 1; omega⟩
end Go.Proofs.Ytddilmocngedjaa
