/- disk.Copy: by hand. -/
import Derived.Test.YtddilmocngedjaaDkC
namespace Go.Proofs.Ytddilmocngedjaa
set_option linter.unusedVariables false
set_option linter.unusedSimpArgs false
open Go Go.Proofs Go.RowKit Go.Lib
theorem own_base {W : World} {b b' e size k : Nat} {v : Value} {xs : List Value} (h : W.ownsRow b e size v k xs) (hb : b' ≤ b) : W.ownsRow b' e size v k xs := by
  obtain ⟨h1, h2⟩ := h
  refine ⟨h1, ?_⟩
  rcases h2 with h | ⟨g, cap, cur, h3, h4, h5⟩
  · exact .inl h
  · exact .inr ⟨g, cap, cur, h3, Nat.le_trans hb h4, h5⟩
theorem rd_own {w : World} {A : Option Addr} {n cap base : Nat} {l : List UInt8} (h : w.ownsRow base 5 1 (.slice A n cap) n (l.map bv)) (hn : l.length = n) : Rd w w.heap.size A (l.map bv) := by
  rcases h.2 with ⟨e, h0⟩ | ⟨g, cap', cur, e, hb, hg, _⟩
  · left
    have : l = [] := List.length_eq_zero_iff.1 (by omega)
    rw [this]; rfl
  · cases e
    right
    refine ⟨g, 0, rfl, (Array.getElem?_eq_some_iff.1 hg).1, fun j u hu => ?_⟩
    have hj := (List.getElem?_eq_some_iff.1 hu).1
    rw [Nat.zero_add, World.ownsRow.cellAt h j (by simp at hj; omega)]; exact hu
theorem row_slice {w : World} {base e n : Nat} {v : Value} {xs : List Value} (h : w.ownsRow base e 1 v n xs) : ∃ A c, v = .slice A n c ∧ n ≤ c ∧ c ≤ 9223372036854775807 := by
  rcases h.2 with ⟨rfl, rfl⟩ | ⟨g, cap, cur, rfl, _, _, h1, h2, _⟩
  · exact ⟨none, 0, rfl, Nat.le_refl _, by omega⟩
  · exact ⟨_, cap, rfl, h1, h2⟩
def DV.boxed (d : DV) (x y : Value) : Array Value := #[.int .i64 d.sz, x, .int .i64 d.s0, y, .int .i64 d.s1, .bool d.ar, .int .i64 d.un, .bool d.dn]
def CopyInv (w : World) (d : DV) (k : Nat) (wr : World) : Prop :=
  ∃ x y t, wr.heap[w.heap.size]? = some (.cells (d.boxed x y) t (0, 0)) ∧ Below w.heap.size w wr ∧
    (1 ≤ k → wr.ownsRow (w.heap.size + 1) 5 1 x d.x0.length (d.x0.map bv)) ∧ (2 ≤ k → wr.ownsRow (w.heap.size + 1) 5 1 y d.x1.length (d.x1.map bv) ∧ ∀ g, x.ownBlock = some g → y.ownBlock ≠ some g)
set_option maxHeartbeats 4000000 in
set_option maxRecDepth 100000 in
theorem copy_any (d : DV) (hd : d.fine) (D : Nat) (v0 v1 : Value) (w : World) (h : DiskAt w D d v0 v1) :
    Calls Try.prog 22 #[.pointer (some ⟨D, 0, none⟩)] w fun e w' => ∃ C u0 u1, e = .returned (.pointer (some ⟨C, 0, none⟩)) ∧ w.heap.size ≤ C ∧ DiskAt w' C d u0 u1 ∧ Below w.heap.size w w' ∧ ∀ g, u0.ownBlock = some g ∨ u1.ownBlock = some g → w.heap.size ≤ g := by
  have mixed : Try.prog.follows .mixedOrders = true := by kernel_rfl
  obtain ⟨f1, f2, f3, f4, f5, f6⟩ := hd
  obtain ⟨A0, p0, rfl, h01, h02⟩ := row_slice h.r0
  obtain ⟨A1, p1, rfl, h11, h12⟩ := row_slice h.r1
  have c0 := h.cell (i := 0) rfl
  have c1 := h.cell (i := 1) rfl
  have c2 := h.cell (i := 2) rfl
  have c3 := h.cell (i := 3) rfl
  have c4 := h.cell (i := 4) rfl
  have c5 := h.cell (i := 5) rfl
  have c6 := h.cell (i := 6) rfl
  have c7 := h.cell (i := 7) rfl
  have HD := Lib.hid h
  clear h
  go_enter Try.func22, Try.ntmps22
  go_wp2
  go_loopg [4, 8] 2 (fun gg _ s8 wr => ∃ k : Nat, s8 = .int .i64 (k : Int) ∧ k ≤ 2 ∧ 2 - k ≤ gg ∧ Hid (CopyInv w d k wr))
  case atStart => exact ⟨0, rfl, by omega, by omega, (⟨_, _, _, heap_alloc_new w _, (Below.refl _ w).alloc (Nat.le_refl _) _, fun h => by omega, fun h => by omega⟩ : _)⟩
  case round =>
    obtain ⟨k, rfl, hk, hg, hI⟩ := hrel
    have hk3 : k = 0 ∨ k = 1 ∨ k = 2 := by omega
    rcases hk3 with rfl | rfl | rfl
    · obtain ⟨x, y, t, hC, hB, _, _⟩ := hI.out
      have hDw := HD.out.below hB
      have d1 := hDw.cell (i := 1) rfl
      have hcl := Lib.hid (clone_any d.x0 A0 p0 wr.heap.size wr (rd_own hDw.r0 rfl) (by omega))
      have HC := Lib.hid hC
      have HB := Lib.hid hB
      clear hC hB hI hDw
      go_wp2_with fail
      refine hcl.out.mono ?_
      rintro e w3 ⟨x', rfl, ho, hb3⟩
      obtain ⟨A3, p3, rfl, h31, h32⟩ := row_slice ho
      have hsz : w.heap.size < wr.heap.size := (Array.getElem?_eq_some_iff.1 HC.out).1
      have hC3 := (hb3.block _ hsz).trans HC.out
      have e1 : w3.cell? ⟨w.heap.size, 1, none⟩ = some x := by rw [cell_of_row w3 w.heap.size 1 _ t (0, 0) hC3]; rfl
      have z1 : w3.frozen? ⟨w.heap.size, 1, none⟩ = false := by simp [World.frozen?, hC3]
      have hne : (Value.slice A3 d.x0.length p3).ownBlock ≠ some w.heap.size := fun e => by have := (ho.lt _ e).1; omega
      have HF : Hid (CopyInv w d 1 (w3.setCell ⟨w.heap.size, 1, none⟩ (.slice A3 d.x0.length p3))) :=
        ⟨_, y, t, heap_setCell_same w3 w.heap.size 1 _ t _ hC3, (HB.out.trans (hb3.mono HB.out.size)).setCell (p := ⟨w.heap.size, 1, none⟩) (Nat.le_refl _) _, fun _ => own_other (own_base ho (by omega)) hne, fun h => by omega⟩
      clear ho hb3 hC3 hne
      go_wp2
      generalize w3.setCell ⟨w.heap.size, 1, none⟩ (.slice A3 d.x0.length p3) = w4 at *
      go_roundg 1
      case measure => omega
      case rel => exact ⟨1, by go_num, by omega, by omega, HF⟩
    · obtain ⟨x, y, t, hC, hB, hx, _⟩ := hI.out
      have hx := hx (by omega)
      have hDw := HD.out.below hB
      have d1 := hDw.cell (i := 3) rfl
      have hcl := Lib.hid (clone_any d.x1 A1 p1 wr.heap.size wr (rd_own hDw.r1 rfl) (by omega))
      have HC := Lib.hid hC
      have HB := Lib.hid hB
      have HX := Lib.hid hx
      clear hC hB hI hDw hx
      go_wp2_with fail
      refine hcl.out.mono ?_
      rintro e w3 ⟨x', rfl, ho, hb3⟩
      obtain ⟨A3, p3, rfl, h31, h32⟩ := row_slice ho
      have hsz : w.heap.size < wr.heap.size := (Array.getElem?_eq_some_iff.1 HC.out).1
      have hC3 := (hb3.block _ hsz).trans HC.out
      have e1 : w3.cell? ⟨w.heap.size, 3, none⟩ = some y := by rw [cell_of_row w3 w.heap.size 3 _ t (0, 0) hC3]; rfl
      have z1 : w3.frozen? ⟨w.heap.size, 3, none⟩ = false := by simp [World.frozen?, hC3]
      have hne : (Value.slice A3 d.x1.length p3).ownBlock ≠ some w.heap.size := fun e => by have := (ho.lt _ e).1; omega
      have hnx : x.ownBlock ≠ some w.heap.size := fun e => by have := (HX.out.lt _ e).1; omega
      have hap : ∀ g, x.ownBlock = some g → (Value.slice A3 d.x1.length p3).ownBlock ≠ some g := fun g e e' => by
        have h1 := (HX.out.lt _ e).2
        have h2 := (ho.lt _ e').1
        omega
      have HF : Hid (CopyInv w d 2 (w3.setCell ⟨w.heap.size, 3, none⟩ (.slice A3 d.x1.length p3))) :=
        ⟨x, _, t, heap_setCell_same w3 w.heap.size 3 _ t _ hC3, (HB.out.trans (hb3.mono HB.out.size)).setCell (p := ⟨w.heap.size, 3, none⟩) (Nat.le_refl _) _, fun _ => own_other (own_below HX.out hb3) hnx, fun _ => ⟨own_other (own_base ho (by omega)) hne, hap⟩⟩
      clear ho hb3 hC3 hne hap hnx
      go_wp2
      generalize w3.setCell ⟨w.heap.size, 3, none⟩ (.slice A3 d.x1.length p3) = w4 at *
      go_roundg 0
      case measure => omega
      case rel => exact ⟨2, by go_num, by omega, by omega, HF⟩
    · obtain ⟨x, y, t, hC, hB, hx, hy⟩ := hI.out
      have hx := hx (by omega)
      obtain ⟨hy, hap⟩ := hy (by omega)
      have HF : Hid (∃ u0 u1, DiskAt wr w.heap.size d u0 u1 ∧ ∀ g, u0.ownBlock = some g ∨ u1.ownBlock = some g → w.heap.size ≤ g) := by
        refine ⟨x, y, ⟨⟨_, t, hC, by simp [DV.boxed], fun i u hu => ?_⟩, own_base hx (Nat.zero_le _), own_base hy (Nat.zero_le _), fun e => ?_, fun e => ?_, hap, HD.out.ok⟩, fun g hg => ?_⟩
        · simpa [DV.boxed, DV.vals] using hu
        · have := (hx.lt _ e).1; omega
        · have := (hy.lt _ e).1; omega
        · rcases hg with hg | hg
          · have := (hx.lt _ hg).1; omega
          · have := (hy.lt _ hg).1; omega
      have HB := Lib.hid hB
      clear hI hC hB hx hy hap
      go_wp2
      go_ret
      obtain ⟨u0, u1, a, b⟩ := HF.out
      exact ⟨w.heap.size, u0, u1, rfl, Nat.le_refl _, a, HB.out, b⟩
end Go.Proofs.Ytddilmocngedjaa
