/- The conditions of the log's frames hold. -/
import Derived.Test.YtnakjgpogegdoaaLaxLogVc
import Derived.Test.YtnakjgpogegdoaaLaxWrap
namespace Go.Proofs.Ytnakjgpogegdoaa
set_option linter.unusedVariables false
set_option linter.unusedSimpArgs false
open Go.RowKit
set_option maxRecDepth 100000

theorem short_le10 {v : Int} (h0 : 0 ≤ v) (h1 : v ≤ 18446744073709551615) : (short v.toNat).length ≤ 10 := short_len64 _ (by omega)
theorem okEqual0 : OkEqual0 := by
  intro xs ys hq
  refine vcEqual0 xs ys ?_
  simp only [true_and, and_true, forall_eq, eq_self]
  exact ⟨hq.1, hq.2, by by_cases h : bytesL xs = bytesL ys <;> simp [h]⟩
theorem flat_one (l : List UInt8) : flatL [AV.sl (bytesAV l) Own.no] = l := by
  have : partL (AV.sl (bytesAV l) Own.no) = l := bytesL_bytesAV l
  simp [flatL, this]
theorem parts_one (l : List UInt8) : isParts [AV.sl (bytesAV l) Own.no] := by
  intro x hx; simp at hx; subst hx; exact ⟨l, _, rfl⟩
theorem tailL_len (v : Int) : (tailL v).length = 4 := rfl
theorem okSeal0 : OkSeal0 := by
  intro xs hq
  refine vcSeal0 xs ?_
  obtain ⟨hb, hl⟩ := hq
  obtain ⟨l, rfl⟩ := hb.get
  simp only [true_and, and_true, forall_eq, eq_self, bytesL_bytesAV, isBytes_bytesAV, length_bytesAV, flat_one, tailL_len] at hl ⊢
  exact ⟨by omega, parts_one l, ⟨by omega, by omega, by first | exact ⟨okWidth_bytes _, okWidth_bytes _⟩ | exact okWidth_bytes _⟩, by rw [catL_bytes]; rfl⟩
theorem cutS (l : List UInt8) (a b : Nat) : cutL (bytesAV l) a b = bytesAV (cutL l a b) := by simp [cutL, bytesAV]
theorem okOpen0 : OkOpen0 := by
  intro xs hq
  refine vcOpen0 xs ?_
  obtain ⟨hb, hl⟩ := hq
  obtain ⟨l, rfl⟩ := hb.get
  simp only [true_and, and_true, forall_eq, eq_self, bytesL_bytesAV, isBytes_bytesAV, length_bytesAV, cutS, flat_one] at hl ⊢
  refine cond_prop (fun h => ?_) fun h => ?_
  · have h' : l.length < 4 := by simp at h; omega
    have ho : openOK l = false := by simp [openOK]; omega
    exact ⟨by simp [openV, ho, bytesAV], by simp [openE, h']⟩
  · have h4 : 4 ≤ l.length := by simp at h; omega
    have ew : IntKind.i64.wrap ((l.length : Int) - 4) = (l.length : Int) - 4 := wrap_i64 (by omega) (by omega)
    rw [ew]
    have et : ((l.length : Int) - 4).toNat = l.length - 4 := by omega
    rw [et]
    have c1 : cutL l 0 (l.length - 4) = bodyL l := by simp [cutL, bodyL]
    have c2 : cutL l (l.length - 4) l.length = l.drop (l.length - 4) := by simp [cutL]
    have hbl : (bodyL l).length ≤ l.length := by simp [bodyL]
    rw [c1, c2]
    refine ⟨⟨⟨by omega, by omega⟩, okWidth_bytes _⟩, ⟨⟨by omega, by omega⟩, okWidth_bytes _⟩, parts_one _, cond_prop (fun h => ?_) fun h => ?_⟩
    · have h2 : ¬ (l.drop (l.length - 4) = tailL (crcI (bodyL l))) := by simpa using h
      have ho : openOK l = false := by simp [openOK, h2]
      have h5 : ¬ l.length < 4 := by omega
      exact ⟨by simp [openV, ho, bytesAV], by simp [openE, h5, ho]⟩
    · have h2 : l.drop (l.length - 4) = tailL (crcI (bodyL l)) := by simpa using h
      have ho : openOK l = true := by simp [openOK, h2, h4]
      have h5 : ¬ l.length < 4 := by omega
      exact ⟨⟨⟨by omega, by omega⟩, okWidth_bytes _⟩, by omega, by simp [openV, ho], by simp [openE, h5, ho]⟩
theorem wrap4 {n : Nat} (h : n ≤ 100000000) : (IntKind.u64.wrap (IntKind.i64.wrap ((n : Int) + 4))).toNat = n + 4 := by
  rw [wrap_i64 (by omega) (by omega), wrap_u64 (by omega) (by omega)]; omega
theorem short_le10' (n : Nat) (h : n ≤ 18446744073709551615) : (short n).length ≤ 10 := short_len64 _ (by omega)
theorem okSize0 : OkSize0 := by
  intro xs hq
  refine vcSize0 xs ?_
  simp only [true_and, and_true, forall_eq, eq_self, bytesL_bytesAV, length_bytesAV]
  refine cond_prop (fun h => ?_) fun h => ?_
  · have h' : 16384 < xs.length := by simp at h; omega
    simp [sizeL, h']
  · have h' : ¬ 16384 < xs.length := by simp at h; omega
    have h10 := short_le10' (xs.length + 4) (by omega)
    rw [wrap4 (by omega), wrap_i64 (n := (xs.length : Int) + 4) (by omega) (by omega), wrap_i64 (by omega) (by omega)]
    simp only [sizeL, if_neg h']; omega
theorem okConcat20 : OkConcat20 := by
  intro xs ys hq
  refine vcConcat20 xs ys ?_
  obtain ⟨hb, hb', hl⟩ := hq
  obtain ⟨l, rfl⟩ := hb.get
  obtain ⟨m, rfl⟩ := hb'.get
  have e0 : rdList (elemAt [AV.sl (bytesAV l) Own.no, AV.sl (bytesAV m) Own.no] 0) 0 = bytesAV l := rfl
  have e1 : rdList (elemAt [AV.sl (bytesAV l) Own.no, AV.sl (bytesAV m) Own.no] 1) 0 = bytesAV m := rfl
  have r0 : okRead [Kd.sl] (elemAt [AV.sl (bytesAV l) Own.no, AV.sl (bytesAV m) Own.no] 0) 0 := by
    intro i kd h
    match i, h with
    | 0, h => simp at h; subst h; rfl
    | i + 1, h => simp at h
  have r1 : okRead [Kd.sl] (elemAt [AV.sl (bytesAV l) Own.no, AV.sl (bytesAV m) Own.no] 1) 0 := by
    intro i kd h
    match i, h with
    | 0, h => simp at h; subst h; rfl
    | i + 1, h => simp at h
  simp only [length_bytesAV] at hl
  simp only [true_and, and_true, forall_eq, eq_self, bytesL_bytesAV, length_bytesAV, isBytes_bytesAV, e0, e1, r0, r1, catL_nil, Int.zero_add, catL_length, List.length_nil, Nat.zero_add]
  have w1 : IntKind.i64.wrap (l.length : Int) = l.length := wrap_i64 (by omega) (by omega)
  have w2 : IntKind.i64.wrap ((l.length : Int) + m.length) = (l.length : Int) + m.length := wrap_i64 (by omega) (by omega)
  simp only [w1, w2]
  refine ⟨⟨by omega, by omega, rfl⟩, cond_prop (fun h => by simp at h; omega) fun _ => ⟨⟨by omega, by omega, rfl⟩, cond_prop (fun h => by simp at h; omega) fun _ => ⟨⟨by omega, by omega⟩, ⟨by omega, by omega, rfl⟩, ⟨by omega, by omega, okWidth_nil _, okWidth_bytes _⟩, ⟨by omega, by omega, rfl⟩, ⟨by omega, by omega, okWidth_bytes _, okWidth_bytes _⟩⟩⟩⟩
theorem seal_len (l : List UInt8) : (sealL l).length = l.length + 4 := by simp [sealL, tailL_len]
theorem okFrame0 : OkFrame0 := by
  intro xs hq
  refine vcFrame0 xs ?_
  obtain ⟨hb, hl⟩ := hq
  obtain ⟨l, rfl⟩ := hb.get
  simp only [true_and, and_true, forall_eq, eq_self, bytesL_bytesAV, length_bytesAV, isBytes_bytesAV, seal_len] at hl ⊢
  refine cond_prop (fun h => ?_) fun h => ?_
  · have h' : 16384 < l.length := by simp at h; omega
    simp [frV, frE, h', bytesAV]
  · have h' : ¬ 16384 < l.length := by simp at h; omega
    have h10 := short_le10' (l.length + 4) (by omega)
    rw [wrap4 (by omega)]
    refine ⟨by omega, by omega, ?_, by simp [frE, h']⟩
    rw [catL_bytes]
    simp [frV, h', frameL]
theorem crcI_range (l : List UInt8) : 0 ≤ crcI l ∧ crcI l ≤ 4294967295 := by
  unfold crcI
  have := (crc l).isLt
  omega
theorem tail_byte (v : Int) (h0 : 0 ≤ v) (k : Nat) : (((v / 256 ^ k).toNat % 256 : Nat) : Int) = v / 256 ^ k % 256 := by
  have hp : (0 : Int) < 256 ^ k := Int.pow_pos (by omega)
  have hd : 0 ≤ v / 256 ^ k := Int.ediv_nonneg h0 (by omega)
  omega
theorem byteAt_int (v : Int) (h0 : 0 ≤ v) (k : Nat) : AV.int .u8 (v / 256 ^ k % 256) = byteAV (byteAt v k) := by
  unfold byteAV byteAt
  have := tail_byte v h0 k
  rw [UInt8.toNat_ofNat']
  congr 1
  omega
theorem okRefFrame0 : OkRefFrame0 := by
  intro xs hq
  refine vcRefFrame0 xs ?_
  obtain ⟨hb, hl⟩ := hq
  obtain ⟨l, rfl⟩ := hb.get
  obtain ⟨c, hc⟩ : ∃ c, c = crcI l := ⟨_, rfl⟩
  have h0 : 0 ≤ c := by rw [hc]; exact (crcI_range l).1
  have h1 : c ≤ 4294967295 := by rw [hc]; exact (crcI_range l).2
  simp only [length_bytesAV] at hl
  have h10 := short_le10' (l.length + 4) (by omega)
  have o : ∀ x : Int, okWidth 1 [AV.int .u8 x] := fun x => okWidth_cons rfl (okWidth_nil _)
  have q1 : c.tdiv 256 = c / 256 := Int.tdiv_eq_ediv_of_nonneg h0
  have q2 : (c / 256).tdiv 256 = c / 256 / 256 := Int.tdiv_eq_ediv_of_nonneg (by omega)
  have q3 : (c / 256 / 256).tdiv 256 = c / 256 / 256 / 256 := Int.tdiv_eq_ediv_of_nonneg (by omega)
  have w1 : IntKind.u32.wrap (c / 256) = c / 256 := wrap_u32 (by omega) (by omega)
  have w2 : IntKind.u32.wrap (c / 256 / 256) = c / 256 / 256 := wrap_u32 (by omega) (by omega)
  have w3 : IntKind.u32.wrap (c / 256 / 256 / 256) = c / 256 / 256 / 256 := wrap_u32 (by omega) (by omega)
  have m0 : ∀ x : Int, 0 ≤ x → IntKind.u8.wrap (x.tmod 256) = x % 256 := fun x hx => by rw [Int.tmod_eq_emod_of_nonneg hx]; exact wrap_u8 (by omega) (by omega)
  have b0 : [AV.int .u8 (c % 256)] = bytesAV [byteAt c 0] := by have := byteAt_int c h0 0; simp at this; rw [this]; rfl
  have b1 : [AV.int .u8 (c / 256 % 256)] = bytesAV [byteAt c 1] := by have := byteAt_int c h0 1; simp at this; rw [this]; rfl
  have b2 : [AV.int .u8 (c / 256 / 256 % 256)] = bytesAV [byteAt c 2] := by
    have := byteAt_int c h0 2
    rw [show (256 : Int) ^ 2 = 256 * 256 from rfl, ← Int.ediv_ediv_of_nonneg (by omega)] at this
    rw [this]; rfl
  have b3 : [AV.int .u8 (c / 256 / 256 / 256 % 256)] = bytesAV [byteAt c 3] := by
    have := byteAt_int c h0 3
    rw [show (256 : Int) ^ 3 = 256 * 256 * 256 from rfl, ← Int.ediv_ediv_of_nonneg (by omega), ← Int.ediv_ediv_of_nonneg (by omega)] at this
    rw [this]; rfl
  simp only [true_and, and_true, forall_eq, eq_self, bytesL_bytesAV, length_bytesAV, isBytes_bytesAV, wrap4 (show l.length ≤ 100000000 by omega), ← hc, q1, q2, q3, w1, w2, w3, m0 c h0, m0 (c / 256) (by omega), m0 (c / 256 / 256) (by omega), m0 (c / 256 / 256 / 256) (by omega), b0, b1, b2, b3, catL_bytes, okWidth_bytes, List.length_append, List.length_cons, List.length_nil, ne_eq]
  refine ⟨⟨by omega, by omega⟩, by decide, ⟨by omega, by omega⟩, by decide, by decide, ⟨by omega, by omega⟩, by decide, by decide, ⟨by omega, by omega⟩, by decide, by decide, ⟨by omega, by omega⟩, by decide, ?_⟩
  simp [frameL, sealL, tailL, hc]
theorem okAnchor140 : OkAnchor140 := by
  intro hq
  refine vcAnchor140 ?_
  have e : frV [] = [4, 0, 0, 0, 0] := by decide +kernel
  simp only [true_and, and_true, forall_eq, eq_self, bytesL_bytesAV, length_bytesAV, isBytes_bytesAV, e, bytesL_nil, isBytes_nil, List.length_nil, List.length_cons]
  have o : ∀ i, i < 5 → okElem 1 (bytesAV [4, 0, 0, 0, 0]) i := fun i h => okElem_bytes h
  have r : ∀ i, i < 5 → okRead [Kd.int .u8] (elemAt (bytesAV [4, 0, 0, 0, 0]) i) 0 := fun i h => okRead_bytes h
  have i0 : rdInt (elemAt (bytesAV [4, 0, 0, 0, 0]) (Int.toNat 0)) 0 = 4 := rfl
  have i1 : rdInt (elemAt (bytesAV [4, 0, 0, 0, 0]) (Int.toNat 1)) 0 = 0 := rfl
  have i4 : rdInt (elemAt (bytesAV [4, 0, 0, 0, 0]) (Int.toNat 4)) 0 = 0 := rfl
  simp only [i0, i1, i4, beq_self_eq_true, cond_true]
  refine ⟨by omega, cond_prop (fun _ => ⟨⟨by omega, by omega, o _ (by decide)⟩, r _ (by decide), ⟨by omega, by omega, o _ (by decide)⟩, r _ (by decide), ⟨by omega, by omega, o 4 (by decide)⟩, r 4 (by decide), rfl⟩) fun h => by simp at h⟩
theorem okLawFrames0 : OkLawFrames0 := by
  intro xs hq
  refine vcLawFrames0 xs ?_
  obtain ⟨hb, hl⟩ := hq
  obtain ⟨l, rfl⟩ := hb.get
  simp only [true_and, and_true, forall_eq, eq_self, bytesL_bytesAV, length_bytesAV, isBytes_bytesAV] at hl ⊢
  refine ⟨by omega, cond_prop (fun h => ?_) fun h => ?_⟩
  · have h' : 16384 < l.length := by simp at h; omega
    simp [frE, frV, h', sizeL]; omega
  · have h' : ¬ 16384 < l.length := by simp at h; omega
    have e1 : frE l.length = 0 := by simp [frE, h']
    have e2 : ((frV l).length : Int) = sizeL l.length := by simp [frV, sizeL, h', frameL, seal_len]; omega
    simp only [e1, e2, beq_self_eq_true, cond_true]
    refine ⟨by omega, cond_prop (fun h => trivial) fun h => ⟨by simp at h; omega, by simp [frV, h']⟩⟩
end Go.Proofs.Ytnakjgpogegdoaa
