/- The conditions of AttrTakes and MarkTakes hold. -/
import Derived.Test.YtledoikeaidlfaaLaxLaw9Vc
namespace Go.Proofs.Ytledoikeaidlfaa
set_option linter.unusedVariables false
set_option linter.unusedSimpArgs false
open Go.RowKit
set_option maxRecDepth 100000

theorem refL_zero (l : List UInt8) : refL l 0 = l := by simp [refL]
theorem catL_nil {α : Type} (l : List α) : catL [] l = l := rfl
theorem sh_short {v m : Int} (more : List UInt8) (h0 : 0 ≤ v) (hm : v ≤ m) (hv : v ≤ 18446744073709551615) :
    shV (catL (short v.toNat) more) 0 m = v ∧ shRest (catL (short v.toNat) more) 0 m = more ∧ shErr (catL (short v.toNat) more) 0 m = 0 := by
  have h := rShort_short v.toNat more (by omega)
  have e : catL (short v.toNat) more = short v.toNat ++ more := rfl
  rw [e]
  have hm' : ¬ m < ((v.toNat : Nat) : Int) := by omega
  simp [shV, shRest, shErr, h, hm']
  omega
theorem sh_short_end {v m : Int} (h0 : 0 ≤ v) (hm : v ≤ m) (hv : v ≤ 18446744073709551615) :
    shV (short v.toNat) 0 m = v ∧ shRest (short v.toNat) 0 m = [] ∧ shErr (short v.toNat) 0 m = 0 := by
  have := sh_short (v := v) (m := m) [] h0 hm hv
  simpa [catL] using this
theorem encA_taken {s d0 d1 d2 d3 d4 d5 d6 : Int} (h : rightA s d0 d1 d2 d3 d4 d5 d6 = true) :
    shV (encA s d0 d1 d2 d3 d4 d5 d6) 0 1073741824 = s ∧ (atS (encA s d0 d1 d2 d3 d4 d5 d6) 0 7) = ([], 0) ∧ atV (encA s d0 d1 d2 d3 d4 d5 d6) 0 0 = d0 ∧ atV (encA s d0 d1 d2 d3 d4 d5 d6) 0 1 = d1 ∧ atV (encA s d0 d1 d2 d3 d4 d5 d6) 0 2 = d2 ∧
      atV (encA s d0 d1 d2 d3 d4 d5 d6) 0 3 = d3 ∧ atV (encA s d0 d1 d2 d3 d4 d5 d6) 0 4 = d4 ∧ atV (encA s d0 d1 d2 d3 d4 d5 d6) 0 5 = d5 ∧ atV (encA s d0 d1 d2 d3 d4 d5 d6) 0 6 = d6 := by
  simp only [rightA, inLen, Bool.and_eq_true, decide_eq_true_eq] at h
  have e : encA s d0 d1 d2 d3 d4 d5 d6 = catL (short s.toNat) (catL (short d0.toNat) (catL (short d1.toNat) (catL (short d2.toNat) (catL (short d3.toNat) (catL (short d4.toNat) (catL (short d5.toNat) (short d6.toNat))))))) := by
    simp only [encA, catL_assoc]
  rw [e]
  have k : ∀ (v : Int) more, 0 ≤ v → v ≤ 1024 → shV (catL (short v.toNat) more) 0 1024 = v ∧ shRest (catL (short v.toNat) more) 0 1024 = more ∧ shErr (catL (short v.toNat) more) 0 1024 = 0 := fun v more h0 h1 => sh_short more h0 h1 (by omega)
  have a0 := sh_short (v := s) (m := 1073741824) (catL (short d0.toNat) (catL (short d1.toNat) (catL (short d2.toNat) (catL (short d3.toNat) (catL (short d4.toNat) (catL (short d5.toNat) (short d6.toNat))))))) (by omega) (by omega) (by omega)
  have b0 := fun more => k d0 more (by omega) (by omega)
  have b1 := fun more => k d1 more (by omega) (by omega)
  have b2 := fun more => k d2 more (by omega) (by omega)
  have b3 := fun more => k d3 more (by omega) (by omega)
  have b4 := fun more => k d4 more (by omega) (by omega)
  have b5 := fun more => k d5 more (by omega) (by omega)
  have b6 := sh_short_end (v := d6) (m := 1024) (by omega) (by omega) (by omega)
  simp [atV, atS, a0.1, a0.2.1, a0.2.2, (b0 _).1, (b0 _).2.1, (b0 _).2.2, (b1 _).1, (b1 _).2.1, (b1 _).2.2, (b2 _).1, (b2 _).2.1, (b2 _).2.2, (b3 _).1, (b3 _).2.1, (b3 _).2.2, (b4 _).1, (b4 _).2.1, (b4 _).2.2, (b5 _).1, (b5 _).2.1, (b5 _).2.2, b6.1, b6.2.1, b6.2.2]
theorem zA_right (s d0 d1 d2 d3 d4 d5 d6 : Int) : rightA (zA s d0 d1 d2 d3 d4 d5 d6 s) (zA s d0 d1 d2 d3 d4 d5 d6 d0) (zA s d0 d1 d2 d3 d4 d5 d6 d1) (zA s d0 d1 d2 d3 d4 d5 d6 d2) (zA s d0 d1 d2 d3 d4 d5 d6 d3) (zA s d0 d1 d2 d3 d4 d5 d6 d4) (zA s d0 d1 d2 d3 d4 d5 d6 d5) (zA s d0 d1 d2 d3 d4 d5 d6 d6) = true := by
  unfold zA
  cases h : rightA s d0 d1 d2 d3 d4 d5 d6 with
  | true => simp [h]
  | false => simp; decide
theorem encA_length {s d0 d1 d2 d3 d4 d5 d6 : Int} (h : rightA s d0 d1 d2 d3 d4 d5 d6 = true) : (encA s d0 d1 d2 d3 d4 d5 d6).length ≤ 80 := by
  simp only [rightA, inLen, Bool.and_eq_true, decide_eq_true_eq] at h
  have k : ∀ v : Int, 0 ≤ v → v ≤ 1073741824 → (short v.toNat).length ≤ 10 := fun v h0 h1 => short_le10 h0 (by omega)
  have := k s (by omega) (by omega); have := k d0 (by omega) (by omega); have := k d1 (by omega) (by omega); have := k d2 (by omega) (by omega)
  have := k d3 (by omega) (by omega); have := k d4 (by omega) (by omega); have := k d5 (by omega) (by omega); have := k d6 (by omega) (by omega)
  simp only [encA, catL_length]
  omega
theorem rightId2 {n : Int} (h : 0 ≤ n ∧ n < 1024) : rightId 2 n = true := by simp [rightId]; omega
theorem okAttCovers0 : OkAttCovers0 := by
  intro s d0 d1 d2 d3 d4 d5 d6 r n hq
  refine vcAttCovers0 s d0 d1 d2 d3 d4 d5 d6 r n ?_
  obtain ⟨rfl, hn⟩ := hq
  simp [rightId2 hn]
  exact Iff.rfl
theorem okAttOwn0 : OkAttOwn0 := by
  intro s d0 d1 d2 d3 d4 d5 d6 r n hq
  refine vcAttOwn0 s d0 d1 d2 d3 d4 d5 d6 r n ?_
  obtain ⟨rfl, hn⟩ := hq
  simp [rightId2 hn]
  exact ⟨rfl, rfl, rfl, rfl, rfl, rfl, rfl⟩
theorem okAttOwns0 : OkAttOwns0 := by
  intro s d0 d1 d2 d3 d4 d5 d6 r n hq
  refine vcAttOwns0 s d0 d1 d2 d3 d4 d5 d6 r n ?_
  simp only [true_and, and_true, forall_eq, eq_self]
  refine cond_prop (fun h => cond_prop (fun h' => ⟨hq, ?_⟩) fun h' => ?_) fun h => ?_
  · rw [h', Bool.eq_iff_iff]; simp; exact eq_comm
  · rw [h']; rfl
  · obtain ⟨rfl, hn⟩ := hq
    rw [rightId2 hn] at h; cases h
theorem okAnchor90 : OkAnchor90 := by
  intro hq
  refine vcAnchor90 ?_
  simp [rightA, inLen]
theorem okBalNext0 : OkBalNext0 := by
  intro b r hq
  refine vcBalNext0 b r ?_
  simp only [true_and, and_true, forall_eq, eq_self]
  rcases hq with ⟨rfl, rfl⟩ | ⟨rfl, rfl⟩ <;> simp <;> decide
theorem okAnchor60 : OkAnchor60 := by
  intro hq
  refine vcAnchor60 ?_
  simp
theorem okLawAttr0 : OkLawAttr0 := by
  intro xs s d0 d1 d2 d3 d4 d5 d6 hq
  refine vcLawAttr0 xs s d0 d1 d2 d3 d4 d5 d6 ?_
  obtain ⟨E, hE⟩ : ∃ E, E = encA (zA s d0 d1 d2 d3 d4 d5 d6 s) (zA s d0 d1 d2 d3 d4 d5 d6 d0) (zA s d0 d1 d2 d3 d4 d5 d6 d1) (zA s d0 d1 d2 d3 d4 d5 d6 d2) (zA s d0 d1 d2 d3 d4 d5 d6 d3) (zA s d0 d1 d2 d3 d4 d5 d6 d4) (zA s d0 d1 d2 d3 d4 d5 d6 d5) (zA s d0 d1 d2 d3 d4 d5 d6 d6) := ⟨_, rfl⟩
  have ht := encA_taken (zA_right s d0 d1 d2 d3 d4 d5 d6)
  have hl := encA_length (zA_right s d0 d1 d2 d3 d4 d5 d6)
  rw [← hE] at ht hl
  obtain ⟨t0, t1, t2, t3, t4, t5, t6, t7, t8⟩ := ht
  have hlen : (bytesL xs).length = xs.length := by simp [bytesL]
  have hs : (atS (bytesL xs) 0 7).1 <:+ bytesL xs := atS_suf _ _ _
  have hr := refAt_range hs
  have he := refL_refAt hs
  rw [hlen] at hr
  have z : ∀ v, atZ E 0 v = v := fun v => by unfold atZ; rw [t1]; simp
  have n0 : isBytes [] := rfl
  have b0 : bytesL [] = [] := rfl
  simp only [true_and, and_true, forall_eq, eq_self, bytesL_bytesAV, isBytes_bytesAV, length_bytesAV, refL_zero, he, ← hE, catL_nil, t0, t1, t2, t3, t4, t5, t6, t7, t8, z, n0, b0]
  refine ⟨hq, ⟨hq.1, by omega, by omega⟩, hq.1, cond_prop (fun h => by simp at h) fun h => ⟨⟨hq.1, hr⟩, cond_prop (fun h => by simp at h) fun h => ⟨by omega, by omega, by omega, cond_prop (fun h => ?_) fun h => ?_⟩⟩⟩
  · simp only [Bool.not_eq_true'] at h
    simp [zA, h, inEnd, inLeft]
  · simp only [Bool.not_eq_false'] at h
    simp [zA, h, inEnd, inLeft]
theorem encID_taken {r n : Int} (more : List UInt8) (h : rightId r n = true) : idR (catL (encID r n) more) 0 = r ∧ idS (catL (encID r n) more) 0 = n ∧ idRest (catL (encID r n) more) 0 = more ∧ idErr (catL (encID r n) more) 0 = 0 := by
  simp [rightId] at h
  have e : catL (encID r n) more = catL (encByte r) (catL (short n.toNat) more) := by
    unfold encID
    rw [catL_assoc]
    have w1 : IntKind.u8.wrap r = r := by rw [IntKind.wrap_u8]; omega
    rw [w1, wrap_u64 (by omega) (by omega)]
  rw [e]
  obtain ⟨L, hL⟩ : ∃ L, L = catL (short n.toNat) more := ⟨_, rfl⟩
  have hs := sh_short (v := n) (m := 1023) more (by omega) (by omega) (by omega)
  rw [← hL] at hs ⊢
  have ok : tkOK (catL (encByte r) L).length 0 1 = true := by simp [tkOK, catL, encByte]; omega
  have tk := tk_ok ok _ rfl
  have hb : inByteV (catL (encByte r) L) 0 = r := by
    unfold inByteV
    rw [tk.2.2]
    simp [catL, encByte, UInt8.toNat_ofNat']
    omega
  have hd : tkRest (catL (encByte r) L) 0 1 = L := by rw [tk.1]; simp [catL, encByte]
  have he : idE1 (catL (encByte r) L) 0 = 0 := by
    unfold idE1
    rw [hb, if_neg (by omega), tk.2.1]
  have e1 : idErr (catL (encByte r) L) 0 = 0 := by unfold idErr; rw [hd, he]; exact hs.2.2
  refine ⟨?_, ?_, ?_, e1⟩
  · unfold idR; rw [e1, hb]; simp
  · unfold idS; rw [e1, hd, he]; simp [hs.1]
  · unfold idRest; rw [hd, he]; exact hs.2.1
theorem okLawMark0 : OkLawMark0 := by
  intro xs r n b hq hb
  refine vcLawMark0 xs r n b ?_
  have hlen : (bytesL xs).length = xs.length := by simp [bytesL]
  have hs : idRest (bytesL xs) 0 <:+ bytesL xs := idRest_suf _ _
  have hr := refAt_range hs
  have he := refL_refAt hs
  have hs2 : shRest (idRest (bytesL xs) 0) (idErr (bytesL xs) 0) 4294967295 <:+ bytesL xs := (shRest_suf _ _ _).trans hs
  have hr2 := refAt_range hs2
  have he2 := refL_refAt hs2
  rw [hlen] at hr hr2
  have n0 : isBytes [] := rfl
  have b0 : bytesL [] = [] := rfl
  simp only [true_and, and_true, forall_eq, eq_self, bytesL_bytesAV, isBytes_bytesAV, length_bytesAV, refL_zero, he, he2, catL_nil, n0, b0]
  refine ⟨hq, ⟨hq.1, by omega, by omega⟩, hq.1, cond_prop (fun h => by simp at h) fun h => ⟨⟨hq.1, hr⟩, cond_prop (fun h => by simp at h) fun h => ⟨⟨hq.1, hr⟩, cond_prop (fun h => by simp at h) fun h => ⟨⟨hq.1, hr2⟩, cond_prop (fun h => by simp at h) fun h => cond_prop (fun h => trivial) fun h => cond_prop (fun h' => trivial) fun h' => ?_⟩⟩⟩⟩
  simp only [Bool.not_eq_false'] at h h'
  obtain ⟨t1, t2, t3, t4⟩ := encID_taken (short b.toNat) h
  have hsh := sh_short_end (v := b) (m := 4294967295) hb.1 hb.2 (by omega)
  have hid : (encID r n).length ≤ 11 := by
    unfold encID
    rw [catL_length]
    have : 0 ≤ IntKind.u64.wrap n ∧ IntKind.u64.wrap n ≤ 18446744073709551615 := by rw [IntKind.wrap_u64]; omega
    have := short_le10 this.1 this.2
    simp [encByte]; omega
  have hbl := short_le10 (v := b) hb.1 (by omega)
  simp only [t1, t2, t3, t4, hsh.1, hsh.2.1, hsh.2.2, balV, balE, h', catL_length]
  refine ⟨by omega, by omega, by omega, by omega, ?_⟩
  simp [inEnd, inLeft]
end Go.Proofs.Ytledoikeaidlfaa
