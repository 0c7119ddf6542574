/- A sum's four bytes, the least first: slices.Reverse over a row of one's own, and sum.tail. -/
import Derived.Test.YtfoabkkkdcicgaaGreatDoorBytes
import Derived.Laws.OwnMore
import Derived.Shelf.RegionOpenPlain
namespace Go.Proofs.YtfoabkkkdcicgaaGreatDoor
set_option linter.unusedVariables false
set_option linter.unusedSimpArgs false
open Go.RowKit Go.Lib

def rv4 (a b c d : UInt8) : Nat → List UInt8
  | 0 => [a, b, c, d]
  | 1 => [d, b, c, a]
  | _ => [d, c, b, a]
theorem own_cell {w : World} {B g n cap : Nat} {l : List UInt8} (h : w.ownsRow B 5 1 (.slice (some ⟨g, 0, none⟩) n cap) n (l.map bv)) (j : Nat) (hj : j < n) {x : UInt8} (hx : l[j]? = some x) : w.cell? ⟨g, j, none⟩ = some (.int .u8 (x.toNat : Int)) := by
  rw [World.ownsRow.cellAt h j (by omega), List.getElem?_map, hx]; rfl
theorem own_swap {w w0 : World} {B g n cap : Nat} {xs : List Value} (h : w.ownsRow B 5 1 (.slice (some ⟨g, 0, none⟩) n cap) n xs) (hb : Below B w0 w) (hg : B ≤ g) (i j : Nat) (u v : Value) :
    ((w.setCell ⟨g, i, none⟩ u).setCell ⟨g, j, none⟩ v).ownsRow B 5 1 (.slice (some ⟨g, 0, none⟩) n cap) n ((xs.set i u).set j v) ∧ Below B w0 ((w.setCell ⟨g, i, none⟩ u).setCell ⟨g, j, none⟩ v) :=
  ⟨((h.stored i u).1.stored j v).1, (hb.setCell (p := ⟨g, i, none⟩) hg u).setCell (p := ⟨g, j, none⟩) hg v⟩
set_option maxRecDepth 100000 in
set_option maxHeartbeats 2000000 in
theorem rev4 (a b c d : UInt8) (g cap B : Nat) (w : World) (h : w.ownsRow B 5 1 (.slice (some ⟨g, 0, none⟩) 4 cap) 4 ([a, b, c, d].map bv)) (hg : B ≤ g) :
    Calls Tryz.prog 95 #[.slice (some ⟨g, 0, none⟩) 4 cap] w fun e w' => e = .returned (.tuple #[]) ∧ w'.ownsRow B 5 1 (.slice (some ⟨g, 0, none⟩) 4 cap) 4 ([d, c, b, a].map bv) ∧ Below B w w' := by
  have mixed : Tryz.prog.follows .mixedOrders = true := by kernel_rfl
  go_enter Tryz.func95, Tryz.ntmps95
  go_wp2
  go_loopw [2, 3] (fun i j wr => ∃ (k : Nat) (i' j' : Int), i = .int .i64 i' ∧ j = .int .i64 j' ∧ (k = 0 ∧ i' = 0 ∧ j' = 3 ∨ k = 1 ∧ i' = 1 ∧ j' = 2 ∨ k = 2 ∧ i' = 2 ∧ j' = 1) ∧
      wr.ownsRow B 5 1 (.slice (some ⟨g, 0, none⟩) 4 cap) 4 ((rv4 a b c d k).map bv) ∧ Below B w wr)
    (fun i _ _ => 2 - (intOf i).toNat)
  case atStart => exact ⟨0, 0, 3, rfl, rfl, .inl ⟨rfl, rfl, rfl⟩, h, Below.refl _ _⟩
  case round =>
    obtain ⟨k, i', j', rfl, rfl, hk, ho, hb⟩ := hrel
    rcases hk with ⟨rfl, rfl, rfl⟩ | ⟨rfl, rfl, rfl⟩ | ⟨rfl, rfl, rfl⟩
    · have ci := own_cell ho 0 (by omega) rfl
      have cj := own_cell ho 3 (by omega) rfl
      have fi := World.ownsRow.frozenAt ho 0
      have fj := World.ownsRow.frozenAt ho 3
      have HS := Lib.hid (own_swap ho hb hg 0 3 (.int .u8 (d.toNat : Int)) (.int .u8 (a.toNat : Int)))
      clear ho hb h
      go_wp2_with fail
      go_region_o
      go_wp2
      go_roundw
      case rel => exact ⟨1, 1, 2, by go_num, by go_num, .inr (.inl ⟨rfl, rfl, rfl⟩), HS.out.1, by first | exact HS.out.2 | exact HS.out.2.drew⟩
      case measure => simp [intOf]
    · have ci := own_cell ho 1 (by omega) rfl
      have cj := own_cell ho 2 (by omega) rfl
      have fi := World.ownsRow.frozenAt ho 1
      have fj := World.ownsRow.frozenAt ho 2
      have HS := Lib.hid (own_swap ho hb hg 1 2 (.int .u8 (c.toNat : Int)) (.int .u8 (b.toNat : Int)))
      clear ho hb h
      go_wp2_with fail
      go_region_o
      go_wp2
      go_roundw
      case rel => exact ⟨2, 2, 1, by go_num, by go_num, .inr (.inr ⟨rfl, rfl, rfl⟩), HS.out.1, by first | exact HS.out.2 | exact HS.out.2.drew⟩
      case measure => simp [intOf]
    · go_wp2
      go_end0
      exact ⟨rfl, ho, hb⟩
theorem bytesOf4 (v : Int) : bytesOf v 4 = [byteAt v 3, byteAt v 2, byteAt v 1, byteAt v 0] := by rfl
def tailL (v : Int) : List UInt8 := [byteAt v 0, byteAt v 1, byteAt v 2, byteAt v 3]
set_option maxRecDepth 100000 in
set_option maxHeartbeats 2000000 in
theorem tail_any (v : Int) (h0 : 0 ≤ v) (h1 : v ≤ 4294967295) (w : World) :
    Calls Tryz.prog 76 #[.int .u32 v] w fun e w' => ∃ x, e = .returned x ∧ OwnB w' w.heap.size x (tailL v) ∧ Below w.heap.size w w' := by
  have ew : IntKind.u64.wrap v = v := by rw [IntKind.wrap_u64]; omega
  go_enter Tryz.func76, Tryz.ntmps76
  go_wp2_with (fail)
  refine (numBytes_any v 4 _ h0 (by omega) (by omega) (by omega)).mono ?_; rintro e w2 ⟨x, rfl, hx, hb2⟩
  have e4 : cap8 4 = 4 := rfl
  rw [e4] at hx
  have hx' : w2.ownsRow w.heap.size 5 1 x 4 ([byteAt v 3, byteAt v 2, byteAt v 1, byteAt v 0].map bv) := hx
  obtain ⟨g, cap, rfl, hg⟩ : ∃ g cap, x = .slice (some ⟨g, 0, none⟩) 4 cap ∧ w.heap.size ≤ g := by
    rcases hx'.2 with ⟨_, h⟩ | ⟨g, cap, cur, h, hb, _⟩
    · exact absurd h (by decide)
    · exact ⟨g, cap, h, hb⟩
  clear hx
  go_wp2_with (fail)
  refine (rev4 _ _ _ _ g cap w.heap.size _ hx' hg).mono ?_; rintro e w3 ⟨rfl, hx3, hb3⟩
  have hb := hb2.trans hb3
  clear hx' hb2 hb3
  go_wp2
  go_ret
  exact ⟨_, rfl, hx3, hb⟩
end Go.Proofs.YtfoabkkkdcicgaaGreatDoor
