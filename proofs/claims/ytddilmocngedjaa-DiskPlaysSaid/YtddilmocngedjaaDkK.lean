/- DiskPlays' memory: the disk, the document's disk in a box, and the steps in a list. -/
import Derived.Test.YtddilmocngedjaaDkJ
import Derived.Test.YtddilmocngedjaaDiskTy
namespace Go.Proofs.Ytddilmocngedjaa
set_option linter.unusedVariables false
set_option linter.unusedSimpArgs false
open Go Go.Proofs Go.RowKit Go.Lib
/-- the law's world: w as it began, the disk in block D, the document's in box X -/
structure LawAt (w W : World) (D X : Nat) (d : DV) (v0 v1 : Value) (dx : DV) (xv : Value) (cs : Array Value) : Prop where
  at' : DiskAt W D d v0 v1
  ref : RepV1 W (Apart D v0 v1 [X]) (.agg (refA dx)) xv
  bx : Blk W X 40 cs
  below : Below w.heap.size w W
  nD : w.heap.size ≤ D
  nX : w.heap.size ≤ X
  nXD : X ≠ D
  row : ∀ g, v0.ownBlock = some g ∨ v1.ownBlock = some g → g ≠ X ∧ w.heap.size ≤ g
section
variable {w W : World} {D X : Nat} {d dx : DV} {v0 v1 xv : Value} {cs : Array Value}
theorem LawAt.past {W' : World} (h : LawAt w W D X d v0 v1 dx xv cs) (hb : Below W.heap.size W W') : LawAt w W' D X d v0 v1 dx xv cs :=
  ⟨h.at'.below hb, h.ref.mono fun b o u hbo hu => ⟨hbo, (cell_same (hb.block b (cell_lt hu))).trans hu⟩, h.bx.below hb h.bx.lt, h.below.trans (hb.mono h.below.size), h.nD, h.nX, h.nXD, h.row⟩
theorem touch_below {W' : World} {B : Nat} {v0' v1' : Value} (ht : Touch W D v0 v1 W' v0' v1') (hB : B ≤ W.heap.size) (hD : B ≤ D) (hr : ∀ g, v0.ownBlock = some g ∨ v1.ownBlock = some g → B ≤ g) : Below B W W' := by
  refine ⟨ht.os, ht.tape, ht.output, ht.size, fun b hb => ht.block b (by omega) (by omega) (fun e => ?_) (fun e => ?_)⟩
  · have := hr b (.inl e); omega
  · have := hr b (.inr e); omega
theorem LawAt.disk {W' : World} {d' dy : DV} {v0' v1' yv : Value} (h : LawAt w W D X d v0 v1 dx xv cs) (h1 : DiskAt W' D d' v0' v1') (ht : Touch W D v0 v1 W' v0' v1') (hy : RepV1 W' (Apart D v0' v1' [X]) (.agg (refA dy)) yv) : LawAt w W' D X d' v0' v1' dy yv cs := by
  have hX := h.bx.lt
  refine ⟨h1, hy, ?_, h.below.trans (touch_below ht h.below.size h.nD fun g hg => (h.row g hg).2), h.nD, h.nX, h.nXD, fun g hg => ?_⟩
  · exact (ht.block X hX h.nXD (fun e => (h.row X (.inl e)).1 rfl) (fun e => (h.row X (.inr e)).1 rfl)).trans h.bx
  · rcases ht.row g hg with h4 | h4 | h4
    · have := h.below.size; exact ⟨by omega, by omega⟩
    · exact h.row g (.inl h4)
    · exact h.row g (.inr h4)
theorem LawAt.alike {W' : World} {v0' v1' : Value} (h : LawAt w W D X d v0 v1 dx xv cs) (h1 : DiskAt W' D d v0' v1') (ht : Touch W D v0 v1 W' v0' v1') : LawAt w W' D X d v0' v1' dx xv cs :=
  h.disk h1 ht (h.ref.mono fun b o u hb hu => ht.rep hb hu)
theorem LawAt.set (h : LawAt w W D X d v0 v1 dx xv cs) (i : Nat) (u : Value) : LawAt w (W.setCell ⟨X, i, none⟩ u) D X d v0 v1 dx xv (cs.setIfInBounds i u) := by
  refine ⟨h.at'.far h.nXD (fun e => (h.row X (.inl e)).1 rfl) (fun e => (h.row X (.inr e)).1 rfl), h.ref.mono fun b o u' hb hu => ⟨hb, (cell_same (Below.heap_setCell W ⟨X, i, none⟩ u b ?_)).trans hu⟩, h.bx.put i u, h.below.setCell (p := ⟨X, i, none⟩) h.nX u, h.nD, h.nX, h.nXD, h.row⟩
  rintro rfl
  exact hb.2.2.2 (by simp)
/-- what lay there as the law began is apart from all that it makes -/
theorem LawAt.old (h : LawAt w W D X d v0 v1 dx xv cs) {b o : Nat} {u : Value} (hu : w.cell? ⟨b, o, none⟩ = some u) : Apart D v0 v1 [X] b o ∧ W.cell? ⟨b, o, none⟩ = some u := by
  have hlt := cell_lt hu
  have hD := h.nD
  have hX := h.nX
  refine ⟨⟨by omega, fun e => ?_, fun e => ?_, fun hm => ?_⟩, (cell_same (h.below.block b hlt)).trans hu⟩
  · have := (h.row b (.inl e)).2; omega
  · have := (h.row b (.inr e)).2; omega
  · simp at hm; omega
end
/-- the steps in memory -/
def OpAt (w : World) (S : Nat → Nat → Prop) (b off i : Nat) (k f n : Int) (yb : List UInt8) (ov : Value) : Prop :=
  w.cell? ⟨b, off + i * 4, none⟩ = some (.int .i64 k) ∧ w.cell? ⟨b, off + i * 4 + 1, none⟩ = some (.int .i64 f) ∧ w.cell? ⟨b, off + i * 4 + 2, none⟩ = some (.int .i64 n) ∧ w.cell? ⟨b, off + i * 4 + 3, none⟩ = some ov ∧
    i64ok k ∧ i64ok f ∧ i64ok n ∧ RepP w S (.sl (bytesAV yb) .no) ov
theorem ops_open {w : World} {S : Nat → Nat → Prop} {ops : List AV} {v : Value} (ht : HasTy 9223372036854775807 (.sl opTys) (.sl ops .no)) (h : RepP w S (.sl ops .no) v) :
    ∃ A cap, v = .slice A ops.length cap ∧ ops.length ≤ 9223372036854775807 ∧ (ops.length ≠ 0 → ∃ b off, A = some ⟨b, off, none⟩ ∧ ∀ i, i < ops.length → ∃ k f n yb ov, OpAt w S b off i k f n yb ov) := by
  have hlen := ht.len
  have hel : ∀ i (hi : i < ops.length), CellsTy 9223372036854775807 opTys (elemAt ops i).cells := fun i hi => ht.elem hi
  have hget : ∀ i, i < ops.length → ops[i]? = some (elemAt ops i) := fun i hi => by simp [elemAt, cellAt, List.getElem?_eq_getElem hi]
  cases h with
  | slnil _ a cap h0 => exact ⟨a, cap, rfl, hlen, fun h => absurd rfl h⟩
  | sl _ _ b off cap size us hc hm hsz hS hr =>
    refine ⟨_, cap, rfl, hlen, fun _ => ⟨b, off, rfl, fun i hi => ?_⟩⟩
    have hx := hget i hi
    obtain ⟨hl4, hty⟩ := hel i hi
    have h4 : (elemAt ops i).cells.length = 4 := hl4
    have hsz4 : size = 4 := by rw [← hsz i _ hx, h4]
    subst hsz4
    have c : ∀ j (hj : j < 4), (elemAt ops i).cells[j]? = some ((elemAt ops i).cells[j]'(by omega)) := fun j hj => List.getElem?_eq_getElem (by omega)
    obtain ⟨k, ek, k1, k2⟩ := (hty 0 (.int .i64) _ rfl (c 0 (by omega))).inv_int
    obtain ⟨f, ef, f1, f2⟩ := (hty 1 (.int .i64) _ rfl (c 1 (by omega))).inv_int
    obtain ⟨n, en, n1, n2⟩ := (hty 2 (.int .i64) _ rfl (c 2 (by omega))).inv_int
    obtain ⟨ys, ey, y1⟩ := (hty 3 (.sl [.int .u8]) _ rfl (c 3 (by omega))).inv_sl
    obtain ⟨yb, rfl⟩ := y1.bytes.get
    have e0 := c 0 (by omega); rw [ek] at e0
    have e1 := c 1 (by omega); rw [ef] at e1
    have e2 := c 2 (by omega); rw [en] at e2
    have e3 := c 3 (by omega); rw [ey] at e3
    have p0 := hr i _ 0 _ hx e0
    have p1 := hr i _ 1 _ hx e1
    have p2 := hr i _ 2 _ hx e2
    have p3 := hr i _ 3 _ hx e3
    have q0 := (hS i _ 0 _ hx e0).2.1
    have q1 := (hS i _ 1 _ hx e1).2.1
    have q2 := (hS i _ 2 _ hx e2).2.1
    have q3 := (hS i _ 3 _ hx e3).2.1
    have ii : ∀ {m : Int} {u : Value}, RepP w S (.int .i64 m) u → u = .int .i64 m ∧ i64ok m := by
      intro m u h
      cases h with
      | int k n h1 h2 => exact ⟨rfl, by simp [IntKind.min, IntKind.signed, IntKind.bits] at h1; omega, by simp [IntKind.max, IntKind.signed, IntKind.bits] at h2; omega⟩
    refine ⟨k, f, n, yb, us i 3, ?_, ?_, ?_, q3, (ii p0).2, (ii p1).2, (ii p2).2, p3⟩
    · rw [← (ii p0).1]; exact q0
    · rw [← (ii p1).1]; exact q1
    · rw [← (ii p2).1]; exact q2
end Go.Proofs.Ytddilmocngedjaa
