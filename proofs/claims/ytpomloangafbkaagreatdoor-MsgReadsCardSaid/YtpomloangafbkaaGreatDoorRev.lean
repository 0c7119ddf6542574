/- A sum's four bytes, the least first: slices.Reverse over a row of one's own, and sum.tail. -/
import Derived.Test.YtpomloangafbkaaGreatDoorKit
import Derived.Laws.BitsAllLaws
import Derived.Laws.OwnMore
import Derived.Shelf.RegionOpenPlain
namespace Go.Proofs.YtpomloangafbkaaGreatDoor
set_option linter.unusedVariables false
set_option maxRecDepth 20000
open Go.RowKit

/-- one of a number's bytes: the j-th from below -/
def byteAt (v : Int) (j : Nat) : UInt8 := UInt8.ofNat ((v / 256 ^ j).toNat % 256)
/-- a number's n lowest bytes, the greatest first -/
def bytesOf (v : Int) (n : Nat) : List UInt8 := (List.range n).map fun i => byteAt v (n - 1 - i)
theorem bytesOf_len (v : Int) (n : Nat) : (bytesOf v n).length = n := by simp [bytesOf]
theorem bytesOf_get (v : Int) (n i : Nat) (h : i < (bytesOf v n).length) : (bytesOf v n)[i] = byteAt v (n - 1 - i) := by simp [bytesOf]
theorem byte_cell (v : Int) (j : Nat) (h0 : 0 ≤ v) : bv (byteAt v j) = .int .u8 (v / 2 ^ (j * 8) % 256) := by
  unfold bv byteAt
  have e : (2 : Int) ^ (j * 8) = 256 ^ j := by rw [Nat.mul_comm, Int.pow_mul]; rfl
  have hp : (0 : Int) < 256 ^ j := Int.pow_pos (by omega)
  have hd : 0 ≤ v / 256 ^ j := Int.ediv_nonneg h0 (by omega)
  rw [e, UInt8.toNat_ofNat']
  congr 1
  omega
/-- how many bytes are made -/
def cap8 (n : Int) : Nat := if n ≤ 0 then 0 else if 8 ≤ n then 8 else n.toNat
theorem cap8_le (n : Int) : cap8 n ≤ 8 := by unfold cap8; split; omega; split <;> omega
/-- what stands in the row behind i rounds -/
def half (v : Int) (n i : Nat) : List Value := ((bytesOf v n).take i).map bv ++ List.replicate (n - i) (.int .u8 0)
theorem half_zero (v : Int) (n : Nat) : half v n 0 = List.replicate n (.int .u8 0) := by simp [half]
theorem half_full (v : Int) (n : Nat) : half v n n = (bytesOf v n).map bv := by
  unfold half
  rw [List.take_of_length_le (by rw [bytesOf_len]; omega)]; simp
theorem half_step (v : Int) (n i : Nat) (h : i < n) : (half v n i).set i (bv (byteAt v (n - 1 - i))) = half v n (i + 1) := by
  unfold half
  have hl : (((bytesOf v n).take i).map bv).length = i := by simp [bytesOf_len]; omega
  rw [List.set_append_right _ _ (by omega), hl, Nat.sub_self]
  have e : List.replicate (n - i) (Value.int .u8 0) = .int .u8 0 :: List.replicate (n - (i + 1)) (.int .u8 0) := by
    have : n - i = (n - (i + 1)) + 1 := by omega
    rw [this, List.replicate_succ]
  rw [e, List.set_cons_zero, List.take_succ_eq_append_getElem (by rw [bytesOf_len]; exact h), bytesOf_get, List.map_append]
  simp
theorem half_at (v : Int) (n i : Nat) (h : i < n) : (half v n i)[i]? = some (.int .u8 0) := by
  unfold half
  have hl : (((bytesOf v n).take i).map bv).length = i := by simp [bytesOf_len]; omega
  rw [List.getElem?_append_right (by omega), hl, Nat.sub_self, List.getElem?_replicate, if_pos (by omega)]

theorem numBytes_any (v n : Int) (w : World) (h0 : 0 ≤ v) (h1 : v ≤ 18446744073709551615) (h2 : -9223372036854775808 ≤ n) (h3 : n ≤ 9223372036854775807) :
    Calls Tryz.prog 143 #[.int .u64 v, .int .i64 n] w fun e w' => ∃ x, e = .returned x ∧ OwnB w' w.heap.size x (bytesOf v (cap8 n)) ∧ Below w.heap.size w w' := by
  obtain ⟨i0, hi0, hz0, hz1, hz2⟩ := info_parts info_u8
  obtain ⟨K, hK, hK8, hn⟩ : ∃ K : Nat, K = cap8 n ∧ K ≤ 8 ∧ ((n < 0 ∧ K = 0) ∨ (8 < n ∧ K = 8) ∨ (0 ≤ n ∧ n ≤ 8 ∧ n = (K : Int))) := by
    refine ⟨cap8 n, rfl, cap8_le n, ?_⟩
    unfold cap8
    split
    · omega
    · split <;> omega
  rw [← hK]
  clear hK
  rcases hn with ⟨hn, rfl⟩ | ⟨hn, rfl⟩ | ⟨hn0, hn8, rfl⟩
  · go_enter Tryz.func143, Tryz.ntmps143
    go_wp2_with (at_make; refine wpList_make_full _ rfl _ _ 62 rfl w.heap.size 5 i0 (.int .u8 0) 1 Tryz.underlying62 hi0 hz0 hz1 _ _ _ _ 0 rfl rfl ?c1 ?c2 ?c3 ?c4 ?c5 ?_)
    case c1 => first | rfl | omega
    case c2 => first | rfl | omega
    case c3 => rw [hz2]; omega
    case c4 => unfold maxLen; omega
    case c5 => exact Nat.le_refl _
    intro w1 hown hg
    have hb : Below w.heap.size w w1 := (Below.refl _ _).grown hg (Nat.le_refl _) (fun k h => by cases h)
    have hz : (madeCells #[Value.int IntKind.u8 0] (0 * 1)).toList = half v 0 0 := by rw [Nat.mul_one, toList_madeCells_one, half_zero]
    have hown2 : w1.ownsRow w.heap.size 5 1 (.slice (some ⟨w.heap.size, 0, none⟩) 0 0) 0 (half v 0 0) := by rw [← hz]; first | exact hown | simpa using hown
    clear hown hz hg
    go_wp2
    go_loopw [6, 14] (fun _ i wr => ∃ k : Nat, k ≤ 0 ∧ i = .int .i64 k ∧ wr.ownsRow w.heap.size 5 1 (.slice (some ⟨w.heap.size, 0, none⟩) 0 0) 0 (half v 0 k) ∧ Below w.heap.size w wr)
      (fun _ i _ => 0 - (intOf i).toNat)
    case atStart => exact ⟨0, by omega, rfl, hown2, hb⟩
    case round =>
      obtain ⟨k, hk, rfl, hown, hbr⟩ := hrel
      obtain rfl : k = 0 := by omega
      rw [half_full] at hown
      go_wp2
      go_ret
      exact ⟨_, rfl, by unfold OwnB; rw [bytesOf_len]; exact hown, hbr⟩
  · go_enter Tryz.func143, Tryz.ntmps143
    go_wp2_with (at_make; refine wpList_make_full _ rfl _ _ 62 rfl w.heap.size 5 i0 (.int .u8 0) 1 Tryz.underlying62 hi0 hz0 hz1 _ _ _ _ 8 rfl rfl ?c1 ?c2 ?c3 ?c4 ?c5 ?_)
    case c1 => first | rfl | omega
    case c2 => first | rfl | omega
    case c3 => rw [hz2]; omega
    case c4 => unfold maxLen; omega
    case c5 => exact Nat.le_refl _
    intro w1 hown hg
    have hb : Below w.heap.size w w1 := (Below.refl _ _).grown hg (Nat.le_refl _) (fun k h => by cases h)
    have hz : (madeCells #[Value.int IntKind.u8 0] (8 * 1)).toList = half v 8 0 := by rw [Nat.mul_one, toList_madeCells_one, half_zero]
    have hown2 : w1.ownsRow w.heap.size 5 1 (.slice (some ⟨w.heap.size, 0, none⟩) 8 8) 8 (half v 8 0) := by rw [← hz]; first | exact hown | simpa using hown
    clear hown hz hg
    go_wp2
    go_loopw [6, 14] (fun _ i wr => ∃ k : Nat, k ≤ 8 ∧ i = .int .i64 k ∧ wr.ownsRow w.heap.size 5 1 (.slice (some ⟨w.heap.size, 0, none⟩) 8 8) 8 (half v 8 k) ∧ Below w.heap.size w wr)
      (fun _ i _ => 8 - (intOf i).toNat)
    case atStart => exact ⟨0, by omega, rfl, hown2, hb⟩
    case round =>
      obtain ⟨k, hk, rfl, hown, hbr⟩ := hrel
      by_cases hlt : k < 8
      · have hc : wr.cell? ⟨w.heap.size, k, none⟩ = some (.int .u8 0) := by rw [hown.cellAt k (by omega), half_at v 8 k hlt]
        have hf : wr.frozen? ⟨w.heap.size, k, none⟩ = false := hown.frozenAt k
        go_wp2
        go_roundw
        case rel =>
          have S := (hown.stored k (bv (byteAt v (8 - 1 - k)))).1
          rw [half_step v _ k hlt, byte_cell v _ h0] at S
          exact ⟨k + 1, by omega, by go_num, S, hbr.setCell (Nat.le_refl _) _⟩
        case measure => simp [intOf]; omega
      · obtain rfl : k = 8 := by omega
        rw [half_full] at hown
        go_wp2
        go_ret
        exact ⟨_, rfl, by unfold OwnB; rw [bytesOf_len]; exact hown, hbr⟩
  · go_enter Tryz.func143, Tryz.ntmps143
    go_wp2_with (at_make; refine wpList_make_full _ rfl _ _ 62 rfl w.heap.size 5 i0 (.int .u8 0) 1 Tryz.underlying62 hi0 hz0 hz1 _ _ _ _ K rfl rfl ?c1 ?c2 ?c3 ?c4 ?c5 ?_)
    case c1 => first | rfl | omega
    case c2 => first | rfl | omega
    case c3 => rw [hz2]; omega
    case c4 => unfold maxLen; omega
    case c5 => exact Nat.le_refl _
    intro w1 hown hg
    have hb : Below w.heap.size w w1 := (Below.refl _ _).grown hg (Nat.le_refl _) (fun k h => by cases h)
    have hz : (madeCells #[Value.int IntKind.u8 0] (K * 1)).toList = half v K 0 := by rw [Nat.mul_one, toList_madeCells_one, half_zero]
    have hown2 : w1.ownsRow w.heap.size 5 1 (.slice (some ⟨w.heap.size, 0, none⟩) K K) K (half v K 0) := by rw [← hz]; first | exact hown | simpa using hown
    clear hown hz hg
    go_wp2
    go_loopw [6, 14] (fun _ i wr => ∃ k : Nat, k ≤ K ∧ i = .int .i64 k ∧ wr.ownsRow w.heap.size 5 1 (.slice (some ⟨w.heap.size, 0, none⟩) K K) K (half v K k) ∧ Below w.heap.size w wr)
      (fun _ i _ => K - (intOf i).toNat)
    case atStart => exact ⟨0, by omega, rfl, hown2, hb⟩
    case round =>
      obtain ⟨k, hk, rfl, hown, hbr⟩ := hrel
      by_cases hlt : k < K
      · have hc : wr.cell? ⟨w.heap.size, k, none⟩ = some (.int .u8 0) := by rw [hown.cellAt k (by omega), half_at v K k hlt]
        have hf : wr.frozen? ⟨w.heap.size, k, none⟩ = false := hown.frozenAt k
        go_wp2
        go_roundw
        case rel =>
          have S := (hown.stored k (bv (byteAt v (K - 1 - k)))).1
          rw [half_step v _ k hlt, byte_cell v _ h0] at S
          exact ⟨k + 1, by omega, by go_num, S, hbr.setCell (Nat.le_refl _) _⟩
        case measure => simp [intOf]; omega
      · obtain rfl : k = K := by omega
        rw [half_full] at hown
        go_wp2
        go_ret
        exact ⟨_, rfl, by unfold OwnB; rw [bytesOf_len]; exact hown, hbr⟩
end Go.Proofs.YtpomloangafbkaaGreatDoor
namespace Go.Proofs.YtpomloangafbkaaGreatDoor
set_option linter.unusedVariables false
set_option linter.unusedSimpArgs false
open Go.RowKit Go.Lib

def rv4 (a b c d : UInt8) : Nat → List UInt8
  | 0 => [a, b, c, d]
  | 1 => [d, b, c, a]
  | _ => [d, c, b, a]
theorem own_cell {w : World} {B g n cap : Nat} {l : List UInt8} (h : w.ownsRow B 5 1 (.slice (some ⟨g, 0, none⟩) n cap) n (l.map bv)) (j : Nat) (hj : j < n) {x : UInt8} (hx : l[j]? = some x) : w.cell? ⟨g, j, none⟩ = some (.int .u8 (x.toNat : Int)) := by
  rw [World.ownsRow.cellAt h j (by omega), List.getElem?_map, hx]; rfl
theorem own_swap {w w0 : World} {B g n cap : Nat} {xs : List Value} (h : w.ownsRow B 5 1 (.slice (some ⟨g, 0, none⟩) n cap) n xs) (hb : Below B w0 w) (hg : B ≤ g) (i j : Nat) (u v : Value) :
    ((w.setCell ⟨g, i, none⟩ u).setCell ⟨g, j, none⟩ v).ownsRow B 5 1 (.slice (some ⟨g, 0, none⟩) n cap) n ((xs.set i u).set j v) ∧ Below B w0 ((w.setCell ⟨g, i, none⟩ u).setCell ⟨g, j, none⟩ v) :=
  ⟨((h.stored i u).1.stored j v).1, (hb.setCell (p := ⟨g, i, none⟩) hg u).setCell (p := ⟨g, j, none⟩) hg v⟩
set_option maxRecDepth 100000 in
set_option maxHeartbeats 2000000 in
theorem rev4 (a b c d : UInt8) (g cap B : Nat) (w : World) (h : w.ownsRow B 5 1 (.slice (some ⟨g, 0, none⟩) 4 cap) 4 ([a, b, c, d].map bv)) (hg : B ≤ g) :
    Calls Tryz.prog 144 #[.slice (some ⟨g, 0, none⟩) 4 cap] w fun e w' => e = .returned (.tuple #[]) ∧ w'.ownsRow B 5 1 (.slice (some ⟨g, 0, none⟩) 4 cap) 4 ([d, c, b, a].map bv) ∧ Below B w w' := by
  have mixed : Tryz.prog.follows .mixedOrders = true := by kernel_rfl
  go_enter Tryz.func144, Tryz.ntmps144
  go_wp2
  go_loopw [2, 3] (fun i j wr => ∃ (k : Nat) (i' j' : Int), i = .int .i64 i' ∧ j = .int .i64 j' ∧ (k = 0 ∧ i' = 0 ∧ j' = 3 ∨ k = 1 ∧ i' = 1 ∧ j' = 2 ∨ k = 2 ∧ i' = 2 ∧ j' = 1) ∧
      wr.ownsRow B 5 1 (.slice (some ⟨g, 0, none⟩) 4 cap) 4 ((rv4 a b c d k).map bv) ∧ Below B w wr)
    (fun i _ _ => 2 - (intOf i).toNat)
  case atStart => exact ⟨0, 0, 3, rfl, rfl, .inl ⟨rfl, rfl, rfl⟩, h, Below.refl _ _⟩
  case round =>
    obtain ⟨k, i', j', rfl, rfl, hk, ho, hb⟩ := hrel
    rcases hk with ⟨rfl, rfl, rfl⟩ | ⟨rfl, rfl, rfl⟩ | ⟨rfl, rfl, rfl⟩
    · have ci := own_cell ho 0 (by omega) rfl
      have cj := own_cell ho 3 (by omega) rfl
      have fi := World.ownsRow.frozenAt ho 0
      have fj := World.ownsRow.frozenAt ho 3
      have HS := Lib.hid (own_swap ho hb hg 0 3 (.int .u8 (d.toNat : Int)) (.int .u8 (a.toNat : Int)))
      clear ho hb h
      go_wp2_with fail
      go_region_o
      go_wp2
      go_roundw
      case rel => exact ⟨1, 1, 2, by go_num, by go_num, .inr (.inl ⟨rfl, rfl, rfl⟩), HS.out.1, by first | exact HS.out.2 | exact HS.out.2.drew⟩
      case measure => simp [intOf]
    · have ci := own_cell ho 1 (by omega) rfl
      have cj := own_cell ho 2 (by omega) rfl
      have fi := World.ownsRow.frozenAt ho 1
      have fj := World.ownsRow.frozenAt ho 2
      have HS := Lib.hid (own_swap ho hb hg 1 2 (.int .u8 (c.toNat : Int)) (.int .u8 (b.toNat : Int)))
      clear ho hb h
      go_wp2_with fail
      go_region_o
      go_wp2
      go_roundw
      case rel => exact ⟨2, 2, 1, by go_num, by go_num, .inr (.inr ⟨rfl, rfl, rfl⟩), HS.out.1, by first | exact HS.out.2 | exact HS.out.2.drew⟩
      case measure => simp [intOf]
    · go_wp2
      go_end0
      exact ⟨rfl, ho, hb⟩
def tailL (v : Int) : List UInt8 := [byteAt v 0, byteAt v 1, byteAt v 2, byteAt v 3]
set_option maxRecDepth 100000 in
set_option maxHeartbeats 2000000 in
theorem tail_any (v : Int) (h0 : 0 ≤ v) (h1 : v ≤ 4294967295) (w : World) :
    Calls Tryz.prog 110 #[.int .u32 v] w fun e w' => ∃ x, e = .returned x ∧ OwnB w' w.heap.size x (tailL v) ∧ Below w.heap.size w w' := by
  have ew : IntKind.u64.wrap v = v := by rw [IntKind.wrap_u64]; omega
  go_enter Tryz.func110, Tryz.ntmps110
  go_wp2_with (fail)
  refine (numBytes_any v 4 _ h0 (by omega) (by omega) (by omega)).mono ?_; rintro e w2 ⟨x, rfl, hx, hb2⟩
  have e4 : cap8 4 = 4 := rfl
  rw [e4] at hx
  have hx' : w2.ownsRow w.heap.size 5 1 x 4 ([byteAt v 3, byteAt v 2, byteAt v 1, byteAt v 0].map bv) := hx
  obtain ⟨g, cap, rfl, hg⟩ : ∃ g cap, x = .slice (some ⟨g, 0, none⟩) 4 cap ∧ w.heap.size ≤ g := by
    rcases hx'.2 with ⟨_, h⟩ | ⟨g, cap, cur, h, hb, _⟩
    · exact absurd h (by decide)
    · exact ⟨g, cap, h, hb⟩
  clear hx
  go_wp2_with (fail)
  refine (rev4 _ _ _ _ g cap w.heap.size _ hx' hg).mono ?_; rintro e w3 ⟨rfl, hx3, hb3⟩
  have hb := hb2.trans hb3
  clear hx' hb2 hb3
  go_wp2
  go_ret
  exact ⟨_, rfl, hx3, hb⟩
end Go.Proofs.YtpomloangafbkaaGreatDoor
