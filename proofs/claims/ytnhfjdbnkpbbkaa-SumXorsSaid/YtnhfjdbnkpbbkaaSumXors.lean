/- SumXors: the law's walk. -/
import Derived.Test.YtnhfjdbnkpbbkaaSum
import Derived.Test.YtnhfjdbnkpbbkaaRegion
namespace Go.Proofs.Ytnhfjdbnkpbbkaa
set_option linter.unusedVariables false
open Go.RowKit

/-- byte by byte -/
def xor3 : List UInt8 → List UInt8 → List UInt8 → List UInt8
  | a :: l, b :: m, c :: n => (a ^^^ b ^^^ c) :: xor3 l m n
  | _, _, _ => []
theorem cstep_xor (s t : BitVec 32) (a b : UInt8) : cstep (s ^^^ t) (a ^^^ b) = cstep s a ^^^ cstep t b := by
  unfold cstep
  rw [← cbits_xor]
  congr 1
  have e : BitVec.ofNat 32 (a ^^^ b).toNat = BitVec.ofNat 32 a.toNat ^^^ BitVec.ofNat 32 b.toNat := by
    apply BitVec.eq_of_toNat_eq
    have ha := a.toNat_lt
    have hb := b.toNat_lt
    have hc := (a ^^^ b).toNat_lt
    rw [BitVec.toNat_xor, BitVec.toNat_ofNat, BitVec.toNat_ofNat, BitVec.toNat_ofNat, UInt8.toNat_xor]
    rw [UInt8.toNat_xor] at hc
    rw [Nat.mod_eq_of_lt (by omega), Nat.mod_eq_of_lt (by omega), Nat.mod_eq_of_lt (by omega)]
  rw [e]; ac_rfl
theorem crcFrom_xor3 : ∀ (l m n : List UInt8) (s t u : BitVec 32), l.length = m.length → l.length = n.length →
    crcFrom (s ^^^ t ^^^ u) (xor3 l m n) = crcFrom s l ^^^ crcFrom t m ^^^ crcFrom u n
  | [], [], [], s, t, u, _, _ => rfl
  | a :: l, b :: m, c :: n, s, t, u, h1, h2 => by
    have ih := crcFrom_xor3 l m n (cstep s a) (cstep t b) (cstep u c) (by simpa using h1) (by simpa using h2)
    show crcFrom (cstep (s ^^^ t ^^^ u) (a ^^^ b ^^^ c)) (xor3 l m n) = _
    rw [cstep_xor, cstep_xor]; exact ih
  | [], _ :: _, _, _, _, _, h, _ => by simp at h
  | _ :: _, [], _, _, _, _, h, _ => by simp at h
  | [], [], _ :: _, _, _, _, _, h => by simp at h
  | _ :: _, _ :: _, [], _, _, _, _, h => by simp at h
theorem not_xor3 (a b c : BitVec 32) : (~~~ a) ^^^ (~~~ b) ^^^ (~~~ c) = ~~~ (a ^^^ b ^^^ c) := by
  rw [← BitVec.xor_allOnes (x := a), ← BitVec.xor_allOnes (x := b), ← BitVec.xor_allOnes (x := c), ← BitVec.xor_allOnes (x := a ^^^ b ^^^ c)]
  have h : ∀ o : BitVec 32, (a ^^^ o) ^^^ (b ^^^ o) ^^^ (c ^^^ o) = a ^^^ b ^^^ c ^^^ (o ^^^ o ^^^ o) := by intro o; ac_rfl
  rw [h, BitVec.xor_self, BitVec.zero_xor]
theorem crc_xor3 (l m n : List UInt8) (h1 : l.length = m.length) (h2 : l.length = n.length) : crc l ^^^ crc m ^^^ crc n = crc (xor3 l m n) := by
  unfold crc
  rw [not_xor3, ← crcFrom_xor3 l m n _ _ _ h1 h2]
  congr 2
theorem xor3_length : ∀ (l m n : List UInt8), l.length = m.length → l.length = n.length → (xor3 l m n).length = l.length
  | [], [], [], _, _ => rfl
  | a :: l, b :: m, c :: n, h1, h2 => by simp [xor3, xor3_length l m n (by simpa using h1) (by simpa using h2)]
  | [], _ :: _, _, h, _ => by simp at h
  | _ :: _, [], _, h, _ => by simp at h
  | [], [], _ :: _, _, h => by simp at h
  | _ :: _, _ :: _, [], _, h => by simp at h
theorem xor3_get : ∀ (l m n : List UInt8) (k : Nat) (h : k < (xor3 l m n).length) (ha : k < l.length) (hb : k < m.length) (hc : k < n.length), (xor3 l m n)[k] = l[k] ^^^ m[k] ^^^ n[k]
  | a :: l, b :: m, c :: n, 0, _, _, _, _ => rfl
  | a :: l, b :: m, c :: n, k + 1, h, ha, hb, hc => by
    have h' : k < (xor3 l m n).length := by simpa [xor3] using h
    show (xor3 l m n)[k] = _
    exact xor3_get l m n k h' (by simpa using ha) (by simpa using hb) (by simpa using hc)
  | [], _, _, _, _, h, _, _ => by simp at h
  | _ :: _, [], _, _, _, _, h, _ => by simp at h
  | _ :: _, _ :: _, [], _, _, _, _, h => by simp at h

/-- a row half filled -/
def fillK (l : List UInt8) (n k : Nat) : List Value := (l.take k).map bv ++ List.replicate (n - k) (.int .u8 0)
theorem fillK_full (l : List UInt8) (n : Nat) (h : l.length = n) : fillK l n n = l.map bv := by unfold fillK; rw [List.take_of_length_le (by omega)]; simp
theorem fillK_step (l : List UInt8) (n k : Nat) (h : l.length = n) (hk : k < n) : (fillK l n k).set k (bv (l[k]'(by omega))) = fillK l n (k + 1) := by
  unfold fillK
  have hl : ((l.take k).map bv).length = k := by simp; omega
  rw [List.set_append_right _ _ (by omega), hl, Nat.sub_self]
  have e : List.replicate (n - k) (Value.int .u8 0) = .int .u8 0 :: List.replicate (n - (k + 1)) (.int .u8 0) := by
    have : n - k = (n - (k + 1)) + 1 := by omega
    rw [this, List.replicate_succ]
  rw [e, List.set_cons_zero, List.take_succ_eq_append_getElem (by omega), List.map_append]
  simp
theorem fillK_at (l : List UInt8) (n k : Nat) (h : l.length = n) (hk : k < n) : (fillK l n k)[k]? = some (.int .u8 0) := by
  unfold fillK
  have hl : ((l.take k).map bv).length = k := by simp; omega
  rw [List.getElem?_append_right (by omega), hl, Nat.sub_self, List.getElem?_replicate, if_pos (by omega)]

theorem u8_xor3 (a b c : UInt8) : bits BinOp.xor IntKind.u8 (bits BinOp.xor IntKind.u8 (a.toNat : Int) (b.toNat : Int)) (c.toNat : Int) = ((a ^^^ b ^^^ c).toNat : Int) := by
  rw [u8_xor_nat _ _ a.toNat_lt b.toNat_lt, ← UInt8.toNat_xor, u8_xor_nat _ _ (a ^^^ b).toNat_lt c.toNat_lt, ← UInt8.toNat_xor]
theorem min4 (W : World) (ts : Array TypeId) (t : TypeId) (a b c d : Int) : (Builtin.min_ ts t #[.int .i64 a, .int .i64 b, .int .i64 c, .int .i64 d]).run Try.prog W = .ok (.int .i64 (min (min (min a b) c) d)) W := by
  have e : ∀ x y : Int, (if y < x then y else x) = min x y := by intro x y; rw [Int.min_def]; split <;> split <;> omega
  simp [Builtin.min_, Builtin.min2, e]

set_option maxRecDepth 20000 in
set_option maxHeartbeats 16000000 in
theorem xors_walk (A A' A'' : Option Addr) (c c' c'' : Nat) (l l' l'' : List UInt8) (w : World) (hr : Rd w w.heap.size A (l.map bv)) (hlc : l.length ≤ c) (hc : c ≤ 140737488351232)
    (hr' : Rd w w.heap.size A' (l'.map bv)) (hlc' : l'.length ≤ c') (hc' : c' ≤ 140737488351232) (hr'' : Rd w w.heap.size A'' (l''.map bv)) (hlc'' : l''.length ≤ c'') (hc'' : c'' ≤ 140737488351232) :
    Calls Try.prog 9 #[.slice A l.length c, .slice A' l'.length c', .slice A'' l''.length c''] w fun e w' => e = .returned (.bool true) ∧ Below w.heap.size w w' := by
  obtain ⟨N, hN⟩ : ∃ N, N = l.length := ⟨_, rfl⟩
  obtain ⟨N', hN'⟩ : ∃ N, N = l'.length := ⟨_, rfl⟩
  obtain ⟨N'', hN''⟩ : ∃ N, N = l''.length := ⟨_, rfl⟩
  rw [← hN] at hlc ⊢
  rw [← hN'] at hlc' ⊢
  rw [← hN''] at hlc'' ⊢
  obtain ⟨n, hn⟩ : ∃ n : Nat, (n : Int) = min (min (min (N : Int) (N' : Int)) (N'' : Int)) 300 := ⟨min (min (min N N') N'') 300, by omega⟩
  have hn1 : n ≤ N := by omega
  have hn2 : n ≤ N' := by omega
  have hn3 : n ≤ N'' := by omega
  have hn4 : n ≤ 300 := by omega
  have HN := Lib.hid hN
  have HN' := Lib.hid hN'
  have HN'' := Lib.hid hN''
  have hmin : ∀ (W : World) (ts : Array TypeId) (t : TypeId), (Builtin.min_ ts t #[.int .i64 (N : Int), .int .i64 (N' : Int), .int .i64 (N'' : Int), .int .i64 300]).run Try.prog W = .ok (.int .i64 (n : Int)) W := by
    intro W ts t; rw [min4, hn]
  clear hN hN' hN'' hn
  obtain ⟨i0, hi0, hz0, hz1, hz2⟩ := info_parts info_u8
  go_enter Try.func9, Try.ntmps9
  go_wp2_with (fail)
  refine (anchor02 _).mono ?_; rintro e w1 ⟨rfl, hb1⟩
  go_wp2_with (at_make; refine wpList_make_full _ rfl _ _ 40 rfl w1.heap.size 5 i0 (.int .u8 0) 1 Try.underlying40 hi0 hz0 hz1 _ _ _ _ n rfl rfl ?c1 ?c2 ?c3 ?c4 ?c5 ?_)
  case c1 => first | rfl | omega
  case c2 => first | rfl | omega
  case c3 => rw [hz2]; omega
  case c4 => unfold maxLen; omega
  case c5 => exact Nat.le_refl _
  intro w2 hown hg
  have hb2 : Below w1.heap.size w1 w2 := (Below.refl _ _).grown hg (Nat.le_refl _) (fun k h => by cases h)
  obtain ⟨X, hX⟩ : ∃ X, X = xor3 (l.take n) (l'.take n) (l''.take n) := ⟨_, rfl⟩
  have hl1 : (l.take n).length = n := by rw [List.length_take, ← HN.out]; omega
  have hl2 : (l'.take n).length = n := by rw [List.length_take, ← HN'.out]; omega
  have hl3 : (l''.take n).length = n := by rw [List.length_take, ← HN''.out]; omega
  have hXl : X.length = n := by rw [hX, xor3_length _ _ _ (by omega) (by omega), hl1]
  have hz : (madeCells #[Value.int IntKind.u8 0] (n * 1)).toList = fillK X n 0 := by rw [Nat.mul_one, toList_madeCells_one]; simp [fillK]
  have hown2 : w2.ownsRow w1.heap.size 5 1 (.slice (some ⟨w1.heap.size, 0, none⟩) n n) n (fillK X n 0) := by rw [← hz]; first | exact hown | simpa using hown
  have HC : Hid (crc (l.take n) ^^^ crc (l'.take n) ^^^ crc (l''.take n) = crc X) := by show _ = _; rw [hX]; exact crc_xor3 _ _ _ (by omega) (by omega)
  have HXg : Hid (∀ k (hx : k < X.length) (ha : k < l.length) (hb : k < l'.length) (hc : k < l''.length), k < n → X[k] = l[k] ^^^ l'[k] ^^^ l''[k]) := by
    intro k hx ha hb hc h
    subst hX
    rw [xor3_get _ _ _ k hx (by omega) (by omega) (by omega)]
    simp
  have HXl := Lib.hid hXl
  have HL1 := Lib.hid hl1
  have HL2 := Lib.hid hl2
  have HL3 := Lib.hid hl3
  have hs1 := hb1.size
  clear hown hz hg hX hXl hl1 hl2 hl3
  go_wp2_with (fail)
  go_loopw [9, 23] (fun _ i wr => ∃ k : Nat, k ≤ n ∧ i = .int .i64 k ∧ wr.ownsRow w1.heap.size 5 1 (.slice (some ⟨w1.heap.size, 0, none⟩) n n) n (fillK X n k) ∧ Below w1.heap.size w1 wr)
    (fun _ i _ => n - (intOf i).toNat)
  case atStart => exact ⟨0, by omega, rfl, hown2, hb2⟩
  case round =>
    obtain ⟨k, hk, rfl, hown, hbr⟩ := hrel
    have hb0 := bel_next hb1 hbr
    by_cases hlt : k < n
    · obtain ⟨b1, o1, rfl, hbb1, hcell1⟩ := (hr.below hb0 (Nat.le_refl _)).open_ (by rw [List.length_map, ← HN.out]; omega)
      obtain ⟨b2, o2, rfl, hbb2, hcell2⟩ := (hr'.below hb0 (Nat.le_refl _)).open_ (by rw [List.length_map, ← HN'.out]; omega)
      obtain ⟨b3, o3, rfl, hbb3, hcell3⟩ := (hr''.below hb0 (Nat.le_refl _)).open_ (by rw [List.length_map, ← HN''.out]; omega)
      have d1 : wr.cell? ⟨b1, o1 + k, none⟩ = some (.int .u8 ((l[k]'(by rw [← HN.out]; omega)).toNat : Int)) := by rw [hcell1 k (by rw [List.length_map, ← HN.out]; omega), List.getElem_map]; rfl
      have d2 : wr.cell? ⟨b2, o2 + k, none⟩ = some (.int .u8 ((l'[k]'(by rw [← HN'.out]; omega)).toNat : Int)) := by rw [hcell2 k (by rw [List.length_map, ← HN'.out]; omega), List.getElem_map]; rfl
      have d3 : wr.cell? ⟨b3, o3 + k, none⟩ = some (.int .u8 ((l''[k]'(by rw [← HN''.out]; omega)).toNat : Int)) := by rw [hcell3 k (by rw [List.length_map, ← HN''.out]; omega), List.getElem_map]; rfl
      have hx := u8_xor3 (l[k]'(by rw [← HN.out]; omega)) (l'[k]'(by rw [← HN'.out]; omega)) (l''[k]'(by rw [← HN''.out]; omega))
      rw [← HXg.out k (by rw [HXl.out]; exact hlt) (by rw [← HN.out]; omega) (by rw [← HN'.out]; omega) (by rw [← HN''.out]; omega) hlt] at hx
      obtain ⟨x1, h1⟩ : ∃ x : UInt8, x = l[k]'(by rw [← HN.out]; omega) := ⟨_, rfl⟩
      obtain ⟨x2, h2⟩ : ∃ x : UInt8, x = l'[k]'(by rw [← HN'.out]; omega) := ⟨_, rfl⟩
      obtain ⟨x3, h3⟩ : ∃ x : UInt8, x = l''[k]'(by rw [← HN''.out]; omega) := ⟨_, rfl⟩
      obtain ⟨x4, h4⟩ : ∃ x : UInt8, x = X[k]'(by rw [HXl.out]; exact hlt) := ⟨_, rfl⟩
      rw [← h1] at d1 hx
      rw [← h2] at d2 hx
      rw [← h3] at d3 hx
      rw [← h4] at hx
      have S := (hown.stored k (bv x4)).1
      rw [h4, fillK_step X n k HXl.out hlt, ← h4] at S
      have HS := Lib.hid S
      have hc : wr.cell? ⟨w1.heap.size, k, none⟩ = some (.int .u8 0) := by rw [hown.cellAt k (by omega), fillK_at X n k HXl.out hlt]
      have hf : wr.frozen? ⟨w1.heap.size, k, none⟩ = false := hown.frozenAt k
      clear hcell1 hcell2 hcell3 h1 h2 h3 h4 S hown
      go_wp2
      go_region
      go_wp2
      go_roundw
      case rel => exact ⟨k + 1, by omega, by go_num, HS.out, (hbr.setCell (Nat.le_refl _) _).drew⟩
      case measure => simp [intOf]; omega
    · obtain rfl : n = k := by omega
      rw [fillK_full X n HXl.out] at hown
      have hrX : Rd wr wr.heap.size (some ⟨w1.heap.size, 0, none⟩) (X.map bv) := Rd.of_own hown
      have hra : Rd wr wr.heap.size A ((l.take n).map bv) := by rw [List.map_take]; exact ((hr.below hb0 (Nat.le_refl _)).more hb0.size).take n
      have hra' : Rd wr wr.heap.size A' ((l'.take n).map bv) := by rw [List.map_take]; exact ((hr'.below hb0 (Nat.le_refl _)).more hb0.size).take n
      have hra'' : Rd wr wr.heap.size A'' ((l''.take n).map bv) := by rw [List.map_take]; exact ((hr''.below hb0 (Nat.le_refl _)).more hb0.size).take n
      have hx1 := xor32 (crc (l.take n)) (crc (l'.take n))
      have hx2 := xor32 (crc (l.take n) ^^^ crc (l'.take n)) (crc (l''.take n))
      rw [HC.out] at hx2
      obtain ⟨y12, hy12⟩ : ∃ y : Nat, y = (crc (l.take n) ^^^ crc (l'.take n)).toNat := ⟨_, rfl⟩
      rw [← hy12] at hx1 hx2
      clear hy12
      have h63 : n ≤ 9223372036854775807 := by omega
      have q1 : (0 : Int) ≤ (n : Int) := by omega
      have q2 : (n : Int) ≤ (c : Int) := by omega
      have q3 : (n : Int) ≤ (c' : Int) := by omega
      have q4 : (n : Int) ≤ (c'' : Int) := by omega
      clear hown hr hr' hr''
      go_wp2_with (fail)
      refine wp_region_any (by kernel_rfl) ?_
      refine take_at 0 (some 44) rfl rfl (by kernel_rfl) (by kernel_rfl) (by kernel_rfl) (fun _ _ _ h => h) (by rfl) (v := ?v1) (fun w => ?y1) ?_
      case y1 => go_simp; with_reducible rfl
      try simp only [Act.put, List.setIfInBounds_toArray, List.set_cons_zero, List.set_cons_succ]
      refine take_at 1 (some 45) rfl rfl (by kernel_rfl) (by kernel_rfl) (by kernel_rfl) (fun _ _ _ h => h) (by rfl) (v := ?v2) (fun w => ?y2) ?_
      case y2 => go_simp; with_reducible rfl
      try simp only [Act.put, List.setIfInBounds_toArray, List.set_cons_zero, List.set_cons_succ]
      refine take_at 2 (some 46) rfl rfl (by kernel_rfl) (by kernel_rfl) (by kernel_rfl) (fun _ _ _ h => h) (by rfl) (v := ?v3) (fun w => ?y3) ?_
      case y3 => go_simp; with_reducible rfl
      try simp only [Act.put, List.setIfInBounds_toArray, List.set_cons_zero, List.set_cons_succ]
      refine take_at 5 (some 49) rfl rfl (by kernel_rfl) (by kernel_rfl) (by kernel_rfl) (fun _ _ _ h => h) (by rfl) (v := ?v4) (fun w => ?y4) ?_
      case y4 => go_simp; with_reducible rfl
      try simp only [Act.put, List.setIfInBounds_toArray, List.set_cons_zero, List.set_cons_succ]
      refine take_at 6 (some 50) rfl rfl (by kernel_rfl) (by kernel_rfl) (by kernel_rfl) (fun _ _ _ h => h) (by rfl) (v := ?v5) (fun w => ?y5) ?_
      case y5 => go_simp; with_reducible rfl
      try simp only [Act.put, List.setIfInBounds_toArray, List.set_cons_zero, List.set_cons_succ]
      refine take_at 7 (some 51) rfl rfl (by kernel_rfl) (by kernel_rfl) (by kernel_rfl) (fun _ _ _ h => h) (by rfl) (v := ?v6) (fun w => ?y6) ?_
      case y6 => go_simp; with_reducible rfl
      try simp only [Act.put, List.setIfInBounds_toArray, List.set_cons_zero, List.set_cons_succ]
      refine take_at 11 (some 55) rfl rfl (by kernel_rfl) (by kernel_rfl) (by kernel_rfl) (fun _ _ _ h => h) (by rfl) (v := ?v7) (fun w => ?y7) ?_
      case y7 => go_simp; with_reducible rfl
      try simp only [Act.put, List.setIfInBounds_toArray, List.set_cons_zero, List.set_cons_succ]
      refine take_at 12 (some 56) rfl rfl (by kernel_rfl) (by kernel_rfl) (by kernel_rfl) (fun _ _ _ h => h) (by rfl) (v := ?v8) (fun w => ?y8) ?_
      case y8 => go_simp; with_reducible rfl
      try simp only [Act.put, List.setIfInBounds_toArray, List.set_cons_zero, List.set_cons_succ]
      refine take_at 13 (some 57) rfl rfl (by kernel_rfl) (by kernel_rfl) (by kernel_rfl) (fun _ _ _ h => h) (by rfl) (v := ?v9) (fun w => ?y9) ?_
      case y9 => go_simp; with_reducible rfl
      try simp only [Act.put, List.setIfInBounds_toArray, List.set_cons_zero, List.set_cons_succ]
      refine take_at 17 (some 61) rfl rfl (by kernel_rfl) (by kernel_rfl) (by kernel_rfl) (fun _ _ _ h => h) (by rfl) (v := ?v10) (fun w => ?y10) ?_
      case y10 => go_simp; with_reducible rfl
      try simp only [Act.put, List.setIfInBounds_toArray, List.set_cons_zero, List.set_cons_succ]
      refine region_inv (V := [(3, fun v W => ∃ g, v = .slice (some ⟨g, 0, none⟩) 1 1 ∧ W.cell? ⟨g, 0, none⟩ = some (.slice A n c)), (4, fun v _ => v = .int .u32 ((crc (l.take n)).toNat : Int)), (8, fun v W => ∃ g, v = .slice (some ⟨g, 0, none⟩) 1 1 ∧ W.cell? ⟨g, 0, none⟩ = some (.slice A' n c')), (9, fun v _ => v = .int .u32 ((crc (l'.take n)).toNat : Int)), (10, fun v _ => v = .int .u32 (y12 : Int)), (14, fun v W => ∃ g, v = .slice (some ⟨g, 0, none⟩) 1 1 ∧ W.cell? ⟨g, 0, none⟩ = some (.slice A'' n c'')), (15, fun v _ => v = .int .u32 ((crc (l''.take n)).toNat : Int)), (16, fun v _ => v = .int .u32 ((crc X).toNat : Int)), (18, fun v W => ∃ g, v = .slice (some ⟨g, 0, none⟩) 1 1 ∧ W.cell? ⟨g, 0, none⟩ = some (.slice (some ⟨w1.heap.size, 0, none⟩) n n)), (19, fun v _ => v = .int .u32 ((crc X).toNat : Int)), (20, fun v _ => v = .bool true), (21, fun v _ => v = .bool true)]) (rs := [3, 4, 8, 9, 10, 14, 15, 16, 18, 19, 20, 21]) (fs := [(3, (some 47)), (4, (some 48)), (8, (some 52)), (9, (some 53)), (10, (some 54)), (14, (some 58)), (15, (some 59)), (16, (some 60)), (18, (some 62)), (19, (some 63)), (20, (some 64)), (21, (some 6))]) (by kernel_rfl) (by kernel_rfl) (by kernel_rfl) (by kernel_rfl) (by kernel_rfl) (Obs.cons (some 47) [] rfl (by rfl) (by rfl) (by kernel_rfl) ?_ (Obs.cons (some 48) [(3, (some 47))] rfl (by rfl) (by rfl) (by kernel_rfl) ?_ (Obs.cons (some 52) [] rfl (by rfl) (by rfl) (by kernel_rfl) ?_ (Obs.cons (some 53) [(4, (some 48)), (8, (some 52))] rfl (by rfl) (by rfl) (by kernel_rfl) ?_ (Obs.cons (some 54) [(4, (some 48)), (9, (some 53))] rfl (by rfl) (by rfl) (by kernel_rfl) ?_ (Obs.cons (some 58) [] rfl (by rfl) (by rfl) (by kernel_rfl) ?_ (Obs.cons (some 59) [(9, (some 53)), (14, (some 58))] rfl (by rfl) (by rfl) (by kernel_rfl) ?_ (Obs.cons (some 60) [(10, (some 54)), (15, (some 59))] rfl (by rfl) (by rfl) (by kernel_rfl) ?_ (Obs.cons (some 62) [] rfl (by rfl) (by rfl) (by kernel_rfl) ?_ (Obs.cons (some 63) [(15, (some 59)), (18, (some 62))] rfl (by rfl) (by rfl) (by kernel_rfl) ?_ (Obs.cons (some 64) [(16, (some 60)), (19, (some 63))] rfl (by rfl) (by rfl) (by kernel_rfl) ?_ (Obs.cons (some 6) [(3, (some 47)), (4, (some 48)), (8, (some 52)), (9, (some 53)), (10, (some 54)), (14, (some 58)), (15, (some 59)), (16, (some 60)), (18, (some 62)), (19, (some 63)), (20, (some 64))] rfl (by rfl) (by rfl) (by kernel_rfl) ?_ (Obs.nil))))))))))))) ?_
      · intro W hW
        intro K hK
        try simp only [Act.put, List.setIfInBounds_toArray, List.set_cons_zero, List.set_cons_succ] at hK
        go_simp
        exact hK _ _ ((Below.refl _ _).alloc (Nat.le_refl _) _) (fun W2 hb2 => ⟨_, rfl, keep_cell (cell_last1 _ _ _ 0 _ rfl) hb2⟩)
      · intro W hW
        intro vv hv; obtain ⟨g3, rfl, hc3⟩ : ∃ g, vv = _ ∧ _ := hv
        intro K hK
        try simp only [Act.put, List.setIfInBounds_toArray, List.set_cons_zero, List.set_cons_succ] at hK
        go_simp
        refine (of_one (l.take n) wr wr.heap.size g3 n c A W HL1.out.symm hra (Nat.le_refl _) h63 (bel_of_drew hW) hc3).mono ?_
        rintro e w3 ⟨rfl, rfl⟩
        exact hK _ _ (Below.refl _ _) (fun _ _ => rfl)
      · intro W hW
        intro K hK
        try simp only [Act.put, List.setIfInBounds_toArray, List.set_cons_zero, List.set_cons_succ] at hK
        go_simp
        exact hK _ _ ((Below.refl _ _).alloc (Nat.le_refl _) _) (fun W2 hb2 => ⟨_, rfl, keep_cell (cell_last1 _ _ _ 0 _ rfl) hb2⟩)
      · intro W hW
        intro vv hv; obtain rfl : vv = _ := hv
        intro vv hv; obtain ⟨g8, rfl, hc8⟩ : ∃ g, vv = _ ∧ _ := hv
        intro K hK
        try simp only [Act.put, List.setIfInBounds_toArray, List.set_cons_zero, List.set_cons_succ] at hK
        go_simp
        refine (of_one (l'.take n) wr wr.heap.size g8 n c' A' W HL2.out.symm hra' (Nat.le_refl _) h63 (bel_of_drew hW) hc8).mono ?_
        rintro e w3 ⟨rfl, rfl⟩
        exact hK _ _ (Below.refl _ _) (fun _ _ => rfl)
      · intro W hW
        intro vv hv; obtain rfl : vv = _ := hv
        intro vv hv; obtain rfl : vv = _ := hv
        intro K hK
        try simp only [Act.put, List.setIfInBounds_toArray, List.set_cons_zero, List.set_cons_succ] at hK
        go_simp
        exact hK _ _ (Below.refl _ _) (fun _ _ => by first | exact rfl | (show _ = _; simp))
      · intro W hW
        intro K hK
        try simp only [Act.put, List.setIfInBounds_toArray, List.set_cons_zero, List.set_cons_succ] at hK
        go_simp
        exact hK _ _ ((Below.refl _ _).alloc (Nat.le_refl _) _) (fun W2 hb2 => ⟨_, rfl, keep_cell (cell_last1 _ _ _ 0 _ rfl) hb2⟩)
      · intro W hW
        intro vv hv; obtain rfl : vv = _ := hv
        intro vv hv; obtain ⟨g14, rfl, hc14⟩ : ∃ g, vv = _ ∧ _ := hv
        intro K hK
        try simp only [Act.put, List.setIfInBounds_toArray, List.set_cons_zero, List.set_cons_succ] at hK
        go_simp
        refine (of_one (l''.take n) wr wr.heap.size g14 n c'' A'' W HL3.out.symm hra'' (Nat.le_refl _) h63 (bel_of_drew hW) hc14).mono ?_
        rintro e w3 ⟨rfl, rfl⟩
        exact hK _ _ (Below.refl _ _) (fun _ _ => rfl)
      · intro W hW
        intro vv hv; obtain rfl : vv = _ := hv
        intro vv hv; obtain rfl : vv = _ := hv
        intro K hK
        try simp only [Act.put, List.setIfInBounds_toArray, List.set_cons_zero, List.set_cons_succ] at hK
        go_simp
        exact hK _ _ (Below.refl _ _) (fun _ _ => by first | exact rfl | (show _ = _; simp))
      · intro W hW
        intro K hK
        try simp only [Act.put, List.setIfInBounds_toArray, List.set_cons_zero, List.set_cons_succ] at hK
        go_simp
        exact hK _ _ ((Below.refl _ _).alloc (Nat.le_refl _) _) (fun W2 hb2 => ⟨_, rfl, keep_cell (cell_last1 _ _ _ 0 _ rfl) hb2⟩)
      · intro W hW
        intro vv hv; obtain rfl : vv = _ := hv
        intro vv hv; obtain ⟨g18, rfl, hc18⟩ : ∃ g, vv = _ ∧ _ := hv
        intro K hK
        try simp only [Act.put, List.setIfInBounds_toArray, List.set_cons_zero, List.set_cons_succ] at hK
        go_simp
        refine (of_one X wr wr.heap.size g18 n n (some ⟨w1.heap.size, 0, none⟩) W HXl.out.symm hrX (Nat.le_refl _) h63 (bel_of_drew hW) hc18).mono ?_
        rintro e w3 ⟨rfl, rfl⟩
        exact hK _ _ (Below.refl _ _) (fun _ _ => rfl)
      · intro W hW
        intro vv hv; obtain rfl : vv = _ := hv
        intro vv hv; obtain rfl : vv = _ := hv
        intro K hK
        try simp only [Act.put, List.setIfInBounds_toArray, List.set_cons_zero, List.set_cons_succ] at hK
        go_simp
        exact hK _ _ (Below.refl _ _) (fun _ _ => by first | exact rfl | (show _ = _; simp))
      · intro W hW
        intro vv hv; obtain ⟨g3, rfl, hc3⟩ : ∃ g, vv = _ ∧ _ := hv
        intro vv hv; obtain rfl : vv = _ := hv
        intro vv hv; obtain ⟨g8, rfl, hc8⟩ : ∃ g, vv = _ ∧ _ := hv
        intro vv hv; obtain rfl : vv = _ := hv
        intro vv hv; obtain rfl : vv = _ := hv
        intro vv hv; obtain ⟨g14, rfl, hc14⟩ : ∃ g, vv = _ ∧ _ := hv
        intro vv hv; obtain rfl : vv = _ := hv
        intro vv hv; obtain rfl : vv = _ := hv
        intro vv hv; obtain ⟨g18, rfl, hc18⟩ : ∃ g, vv = _ ∧ _ := hv
        intro vv hv; obtain rfl : vv = _ := hv
        intro vv hv; obtain rfl : vv = _ := hv
        intro K hK
        try simp only [Act.put, List.setIfInBounds_toArray, List.set_cons_zero, List.set_cons_succ] at hK
        go_simp
        exact hK _ _ (Below.refl _ _) (fun _ _ => by first | exact rfl | (show _ = _; simp))
      · intro W hW
        intro vv hv; obtain ⟨g3, rfl, hc3⟩ : ∃ g, vv = _ ∧ _ := hv
        intro vv hv; obtain rfl : vv = _ := hv
        intro vv hv; obtain ⟨g8, rfl, hc8⟩ : ∃ g, vv = _ ∧ _ := hv
        intro vv hv; obtain rfl : vv = _ := hv
        intro vv hv; obtain rfl : vv = _ := hv
        intro vv hv; obtain ⟨g14, rfl, hc14⟩ : ∃ g, vv = _ ∧ _ := hv
        intro vv hv; obtain rfl : vv = _ := hv
        intro vv hv; obtain rfl : vv = _ := hv
        intro vv hv; obtain ⟨g18, rfl, hc18⟩ : ∃ g, vv = _ ∧ _ := hv
        intro vv hv; obtain rfl : vv = _ := hv
        intro vv hv; obtain rfl : vv = _ := hv
        intro vv hv; obtain rfl : vv = _ := hv
        have hbW := bel_next hb0 (bel_of_drew hW)
        (try simp only [ObIn, Act.put, List.setIfInBounds_toArray, List.set_cons_zero, List.set_cons_succ])
        go_wp2
        go_returns
        exact ⟨by first | rfl | exact ret_bool (by simp), hbW⟩
end Go.Proofs.Ytnhfjdbnkpbbkaa
