/- Bytes by content: lists of bytes as slices' elements. -/
import Derived.Test.YtddilmocngedjaaLm3
import Derived.Test.YtddilmocngedjaaKit
namespace Go.Proofs.Ytddilmocngedjaa
set_option linter.unusedVariables false
set_option linter.unusedSimpArgs false
open Go.RowKit

theorem byte_back (b : UInt8) : (byteAV b).byte = b := by simp [byteAV, AV.byte]
theorem bytesL_bytesAV (l : List UInt8) : bytesL (bytesAV l) = l := by
  unfold bytesL bytesAV
  rw [List.map_map]
  have : AV.byte ∘ byteAV = id := by funext b; exact byte_back b
  rw [this, List.map_id]
theorem isBytes_bytesAV (l : List UInt8) : isBytes (bytesAV l) := by unfold isBytes; rw [bytesL_bytesAV]
theorem isBytes_nil : isBytes [] := rfl
theorem bytesL_nil : bytesL [] = [] := rfl
theorem bytesAV_nil : bytesAV [] = [] := rfl
theorem length_bytesAV (l : List UInt8) : (bytesAV l).length = l.length := by simp [bytesAV]
theorem isBytes.get {xs : List AV} (h : isBytes xs) : ∃ l, xs = bytesAV l := ⟨_, h⟩
theorem okWidth_bytes (l : List UInt8) : okWidth 1 (bytesAV l) := by
  intro x hx
  obtain ⟨b, _, rfl⟩ := List.mem_map.1 hx
  rfl
theorem okWidth_nil (n : Nat) : okWidth n [] := fun x hx => by simp at hx
theorem okWidth_cons {n : Nat} {x : AV} {xs : List AV} (h : x.cells.length = n) (h' : okWidth n xs) : okWidth n (x :: xs) := by
  intro y hy
  rcases List.mem_cons.1 hy with rfl | hy
  · exact h
  · exact h' y hy
theorem okWidth_cat {n : Nat} {xs ys : List AV} (h : okWidth n xs) (h' : okWidth n ys) : okWidth n (catL xs ys) := by
  intro y hy
  rcases List.mem_append.1 hy with hy | hy
  · exact h y hy
  · exact h' y hy
theorem okWidth_cut {n : Nat} {xs : List AV} (h : okWidth n xs) (i j : Nat) : okWidth n (cutL xs i j) := by
  intro y hy
  exact h y (List.mem_of_mem_take (List.mem_of_mem_drop hy))
theorem elemAt_bytes {l : List UInt8} {i : Nat} (h : i < l.length) : elemAt (bytesAV l) i = byteAV (l.getD i 0) := by
  unfold elemAt cellAt bytesAV
  simp [h]
theorem okElem_bytes {l : List UInt8} {i : Nat} (h : i < l.length) : okElem 1 (bytesAV l) i := by
  unfold okElem
  rw [elemAt_bytes h]; rfl
theorem okRead_bytes {l : List UInt8} {i : Nat} (h : i < l.length) : okRead [.int .u8] (elemAt (bytesAV l) i) 0 := by
  intro k kd hk
  cases k with
  | succ k => simp at hk
  | zero =>
    simp at hk
    subst hk
    rw [elemAt_bytes h]; rfl
theorem rdInt_bytes (l : List UInt8) (i : Nat) : rdInt (elemAt (bytesAV l) i) 0 = ((l.getD i 0).toNat : Int) := by
  by_cases h : i < l.length
  · rw [elemAt_bytes h]; rfl
  · unfold rdInt elemAt cellAt bytesAV
    simp [List.getElem?_eq_none (Nat.le_of_not_lt h), AV.cells, AV.theInt]
theorem cutL_bytes (l : List UInt8) (i j : Nat) : cutL (bytesAV l) i j = bytesAV (cutL l i j) := by simp [cutL, bytesAV, List.map_take, List.map_drop]
theorem catL_bytes (l m : List UInt8) : catL (bytesAV l) (bytesAV m) = bytesAV (l ++ m) := by simp [catL, bytesAV]
theorem byte_int {b : Int} (h0 : 0 ≤ b) (h1 : b ≤ 255) : AV.int .u8 b = byteAV (UInt8.ofNat b.toNat) := by
  unfold byteAV
  congr 1
  rw [UInt8.toNat_ofNat']
  omega
theorem bytes_one {b : Int} (h0 : 0 ≤ b) (h1 : b ≤ 255) : [AV.int .u8 b] = bytesAV [UInt8.ofNat b.toNat] := by
  rw [byte_int h0 h1]; rfl
theorem okay_bytes {xs : List AV} {o : Own} (h : (AV.sl xs o).okay) : xs.length ≤ 9223372036854775807 := by
  have := (okay_sl h).1
  unfold maxLen at this
  omega
theorem okay_i64 {i : Int} (h : (AV.int .i64 i).okay) : -9223372036854775808 ≤ i ∧ i ≤ 9223372036854775807 := by
  have := okay_int h
  have m0 : IntKind.i64.min = -9223372036854775808 := by decide
  have m1 : IntKind.i64.max = 9223372036854775807 := by decide
  omega
theorem okay_u64 {i : Int} (h : (AV.int .u64 i).okay) : 0 ≤ i ∧ i ≤ 18446744073709551615 := by
  have := okay_int h
  have m0 : IntKind.u64.min = 0 := by decide
  have m1 : IntKind.u64.max = 18446744073709551615 := by decide
  omega
theorem okay_u32 {i : Int} (h : (AV.int .u32 i).okay) : 0 ≤ i ∧ i ≤ 4294967295 := by
  have := okay_int h
  have m0 : IntKind.u32.min = 0 := by decide
  have m1 : IntKind.u32.max = 4294967295 := by decide
  omega
theorem okay_u8 {i : Int} (h : (AV.int .u8 i).okay) : 0 ≤ i ∧ i ≤ 255 := by
  have := okay_int h
  have m0 : IntKind.u8.min = 0 := by decide
  have m1 : IntKind.u8.max = 255 := by decide
  omega

/-- facts of a function's arguments -/
theorem argI {l : List Arg} {v : AV} (k : Nat) (ho : ArgsOkay l) (h : l[k]? = some (.val v)) (hc : Arg.cells (.val v) = [v]) : v.okay :=
  ho _ (List.mem_of_getElem? h) v (by rw [hc]; simp)
theorem argA {l : List Arg} {cs : List AV} {c : AV} (k j : Nat) (ho : ArgsOkay l) (h : l[k]? = some (.val (.agg cs))) (hc : cs[j]? = some c) : c.okay :=
  ho _ (List.mem_of_getElem? h) c (List.mem_of_getElem? hc)
theorem argB {l : List Arg} {cs : List AV} {c : AV} (k j : Nat) (ho : ArgsOkay l) (h : l[k]? = some (.box cs)) (hc : cs[j]? = some c) : c.okay :=
  ho _ (List.mem_of_getElem? h) c (List.mem_of_getElem? hc)
theorem cond_prop {b : Bool} {X Y : Prop} (h1 : b = true → X) (h2 : b = false → Y) : cond b X Y := by
  cases b
  · exact h2 rfl
  · exact h1 rfl

section
variable {P : Program} {w w' : World} {S : Nat → Nat → Prop}
theorem FL_bytes (l : List UInt8) : FL w S 1 (bytesAV l) (l.map bv) := by
  refine ⟨by simp [bytesAV], fun i x hx => ?_⟩
  simp only [bytesAV, List.getElem?_map, Option.map_eq_some_iff] at hx
  obtain ⟨b, hb, rfl⟩ := hx
  refine ⟨rfl, fun j c hc => ?_⟩
  match j, hc with
  | 0, hc =>
    simp [byteAV, AV.cells] at hc
    subst hc
    exact ⟨rfl, .int .u8 (b.toNat : Int), by simp [hb, bv], repP_byte b⟩
/-- where bytes lie -/
theorem rd_of {l : List UInt8} {o : Own} {r : Value} (h : RepP w S (.sl (bytesAV l) o) r) : ∃ A c, r = .slice A l.length c ∧ l.length ≤ c ∧ c ≤ 9223372036854775807 ∧ Rd w w.heap.size A (l.map bv) := by
  obtain ⟨us, ad, cap, e3, e4, e5⟩ := FL.of (size := 1) h (fun z hz => by obtain ⟨b, _, rfl⟩ := List.mem_map.1 hz; rfl)
  obtain ⟨ad', cap', e6, e7, e8⟩ := h.form
  rw [e3] at e6
  cases e6
  rw [length_bytesAV] at e3 e7
  refine ⟨ad, cap, e3, e7, by unfold maxLen at e8; omega, ?_⟩
  rcases e5 with h0 | ⟨b, off, rfl, hc⟩
  · left
    have : l = [] := by simpa [bytesAV] using h0
    simp [this]
  · by_cases hl : l = []
    · left; simp [hl]
    right
    have hget : ∀ j u, (l.map bv)[j]? = some u → w.cell? ⟨b, off + j, none⟩ = some u := by
      intro j u hj
      simp only [List.getElem?_map, Option.map_eq_some_iff] at hj
      obtain ⟨x, hx, rfl⟩ := hj
      obtain ⟨_, f2⟩ := e4.2 j (byteAV x) (by simp [bytesAV, hx])
      obtain ⟨_, u, f3, f4⟩ := f2 0 (byteAV x) rfl
      rw [Nat.mul_one, Nat.add_zero] at f3
      have := hc j u f3
      rw [this]
      cases f4; rfl
    refine ⟨b, off, rfl, ?_, hget⟩
    obtain ⟨x, l', rfl⟩ : ∃ x l', l = x :: l' := by
      cases l with
      | nil => exact absurd rfl hl
      | cons x l' => exact ⟨x, l', rfl⟩
    exact World.block_lt_of_cell? w _ (hget 0 (bv x) rfl)
theorem drop_bare {v : AV} (h : v.plain = true) (hb : v.bareAll = true) : v.drop = v := by
  cases v with
  | agg cs =>
    simp only [AV.drop]
    congr 1
    have hb' : cs.all AV.bareCell = true := hb
    rw [List.all_eq_true] at hb'
    conv => rhs; rw [← List.map_id cs]
    exact List.map_congr_left fun c hc => by
      have := hb' c hc
      cases c with
      | sl xs ow => cases ow <;> first | rfl | cases this
      | _ => rfl
  | sl xs ow => cases ow <;> first | rfl | (simp [AV.bareAll, AV.cells, AV.bareCell] at hb)
  | _ => rfl
end
end Go.Proofs.Ytddilmocngedjaa
