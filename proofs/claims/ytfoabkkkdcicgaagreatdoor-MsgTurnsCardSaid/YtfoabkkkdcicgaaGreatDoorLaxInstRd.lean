/- A right state is read from its bytes, whatever follows: plain laws. -/
import Derived.Test.YtfoabkkkdcicgaaGreatDoorLaxPkInstW
import Derived.Test.YtfoabkkkdcicgaaGreatDoorLaxPkInstR
namespace Go.Proofs.YtfoabkkkdcicgaaGreatDoor
set_option linter.unusedVariables false
set_option linter.unusedSimpArgs false
open Go.RowKit
set_option maxRecDepth 100000
theorem sh_short {v m : Int} (more : List UInt8) (h0 : 0 ≤ v) (hm : v ≤ m) (hv : v ≤ 18446744073709551615) :
    shV (catL (short v.toNat) more) 0 m = v ∧ shRest (catL (short v.toNat) more) 0 m = more ∧ shErr (catL (short v.toNat) more) 0 m = 0 := by
  have h := rShort_short v.toNat more (by omega)
  have e : catL (short v.toNat) more = short v.toNat ++ more := rfl
  rw [e]
  have hm' : ¬ m < ((v.toNat : Nat) : Int) := by omega
  simp [shV, shRest, shErr, h, hm']
  omega
theorem encID_taken {r n : Int} (more : List UInt8) (h : rightId r n = true) : idR (catL (encID r n) more) 0 = r ∧ idS (catL (encID r n) more) 0 = n ∧ idRest (catL (encID r n) more) 0 = more ∧ idErr (catL (encID r n) more) 0 = 0 := by
  simp [rightId] at h
  have e : catL (encID r n) more = catL (encByte r) (catL (short n.toNat) more) := by
    unfold encID
    rw [catL_assoc]
    have w1 : IntKind.u8.wrap r = r := by rw [IntKind.wrap_u8]; omega
    rw [w1, wrap_u64 (by omega) (by omega)]
  rw [e]
  obtain ⟨L, hL⟩ : ∃ L, L = catL (short n.toNat) more := ⟨_, rfl⟩
  have hs := sh_short (v := n) (m := 1023) more (by omega) (by omega) (by omega)
  rw [← hL] at hs ⊢
  have ok : tkOK (catL (encByte r) L).length 0 1 = true := by simp [tkOK, catL, encByte]; omega
  have tk := tk_ok ok _ rfl
  have hb : inByteV (catL (encByte r) L) 0 = r := by
    unfold inByteV
    rw [tk.2.2]
    simp [catL, encByte, UInt8.toNat_ofNat']
    omega
  have hd : tkRest (catL (encByte r) L) 0 1 = L := by rw [tk.1]; simp [catL, encByte]
  have he : idE1 (catL (encByte r) L) 0 = 0 := by
    unfold idE1
    rw [hb, if_neg (by omega), tk.2.1]
  have e1 : idErr (catL (encByte r) L) 0 = 0 := by unfold idErr; rw [hd, he]; exact hs.2.2
  refine ⟨?_, ?_, ?_, e1⟩
  · unfold idR; rw [e1, hb]; simp
  · unfold idS; rw [e1, hd, he]; simp [hs.1]
  · unfold idRest; rw [hd, he]; exact hs.2.1
theorem truth_taken (b : Bool) (more : List UInt8) : inTruthV (encTruth b ++ more) 0 = b ∧ tkRest (encTruth b ++ more) 0 1 = more ∧ inTruthE (encTruth b ++ more) 0 = 0 := by
  have := tk_ok (n := (encTruth b ++ more).length) (e := 0) (k := 1) (by simp [tkOK, encTruth]; omega) _ rfl
  have hv : inByteV (encTruth b ++ more) 0 = if b then 1 else 0 := by
    unfold inByteV
    rw [this.2.2]
    cases b <;> simp [encTruth]
  have he : inTruthE (encTruth b ++ more) 0 = 0 := by
    unfold inTruthE
    rw [hv, this.2.1]
    cases b <;> simp
  unfold inTruthV
  rw [he, hv, this.1]
  cases b <;> simp [encTruth]
theorem encA_app {s d0 d1 d2 d3 d4 d5 d6 : Int} (h : rightA s d0 d1 d2 d3 d4 d5 d6 = true) (more : List UInt8) :
    (atS (encA s d0 d1 d2 d3 d4 d5 d6 ++ more) 0 7) = (more, 0) ∧ itA (encA s d0 d1 d2 d3 d4 d5 d6 ++ more) 0 = ⟨s, d0, d1, d2, d3, d4, d5, d6⟩ := by
  simp only [rightA, inLen, Bool.and_eq_true, decide_eq_true_eq] at h
  have e : encA s d0 d1 d2 d3 d4 d5 d6 ++ more = catL (short s.toNat) (catL (short d0.toNat) (catL (short d1.toNat) (catL (short d2.toNat) (catL (short d3.toNat) (catL (short d4.toNat) (catL (short d5.toNat) (catL (short d6.toNat) more))))))) := by
    simp only [encA, catL_eq, List.append_assoc]
  rw [e]
  have k : ∀ (v : Int) more, 0 ≤ v → v ≤ 1024 → shV (catL (short v.toNat) more) 0 1024 = v ∧ shRest (catL (short v.toNat) more) 0 1024 = more ∧ shErr (catL (short v.toNat) more) 0 1024 = 0 := fun v more h0 h1 => sh_short more h0 h1 (by omega)
  have a0 := fun more => sh_short (v := s) (m := 1073741824) more (by omega) (by omega) (by omega)
  have b0 := fun more => k d0 more (by omega) (by omega)
  have b1 := fun more => k d1 more (by omega) (by omega)
  have b2 := fun more => k d2 more (by omega) (by omega)
  have b3 := fun more => k d3 more (by omega) (by omega)
  have b4 := fun more => k d4 more (by omega) (by omega)
  have b5 := fun more => k d5 more (by omega) (by omega)
  have b6 := fun more => k d6 more (by omega) (by omega)
  have t : atS (catL (short s.toNat) (catL (short d0.toNat) (catL (short d1.toNat) (catL (short d2.toNat) (catL (short d3.toNat) (catL (short d4.toNat) (catL (short d5.toNat) (catL (short d6.toNat) more)))))))) 0 7 = (more, 0) := by
    simp [atS, (a0 _).1, (a0 _).2.1, (a0 _).2.2, (b0 _).1, (b0 _).2.1, (b0 _).2.2, (b1 _).1, (b1 _).2.1, (b1 _).2.2, (b2 _).1, (b2 _).2.1, (b2 _).2.2, (b3 _).1, (b3 _).2.1, (b3 _).2.2, (b4 _).1, (b4 _).2.1, (b4 _).2.2, (b5 _).1, (b5 _).2.1, (b5 _).2.2, (b6 _).1, (b6 _).2.1, (b6 _).2.2]
  have tz : ∀ v, atZ (catL (short s.toNat) (catL (short d0.toNat) (catL (short d1.toNat) (catL (short d2.toNat) (catL (short d3.toNat) (catL (short d4.toNat) (catL (short d5.toNat) (catL (short d6.toNat) more)))))))) 0 v = v := by
    intro v; unfold atZ; rw [t]; rfl
  refine ⟨t, ?_⟩
  unfold itA
  simp only [tz]
  simp [atV, atS, (a0 _).1, (a0 _).2.1, (a0 _).2.2, (b0 _).1, (b0 _).2.1, (b0 _).2.2, (b1 _).1, (b1 _).2.1, (b1 _).2.2, (b2 _).1, (b2 _).2.1, (b2 _).2.2, (b3 _).1, (b3 _).2.1, (b3 _).2.2, (b4 _).1, (b4 _).2.1, (b4 _).2.2, (b5 _).1, (b5 _).2.1, (b5 _).2.2, (b6 _).1, (b6 _).2.1, (b6 _).2.2]
theorem bal_taken {b : Int} (more : List UInt8) (h : balOK b = true) (h0 : 0 ≤ b) (h1 : b ≤ 4294967295) : balV (catL (short b.toNat) more) 0 = b ∧ shRest (catL (short b.toNat) more) 0 4294967295 = more ∧ balE (catL (short b.toNat) more) 0 = 0 := by
  obtain ⟨a1, a2, a3⟩ := sh_short (v := b) (m := 4294967295) more h0 h1 (by omega)
  unfold balV balE
  rw [a1, a2, a3, if_pos h, if_pos h]
  exact ⟨rfl, rfl, rfl⟩
theorem rightI_parts {x : InstP} (h : rightI x = true) : rightId x.r x.sl = true ∧ balOK x.bal = true ∧ balOK x.vote = true ∧ (x.st = 0 → x = ⟨x.r, x.sl, 0, x.bal, 0, false, zC, zA0⟩) ∧ (x.st ≠ 0 → 1 ≤ x.st ∧ x.st ≤ 3 ∧ rightC x.c = true ∧ attGood x) := by
  rw [rightI_steps] at h
  simp only [Bool.and_eq_true, Bool.not_eq_true', decide_eq_false_iff_not] at h
  obtain ⟨a1, a2, a3, a4, a5, a6, a7⟩ := h
  refine ⟨a1, a2, a3, fun h0 => ?_, fun h0 => ?_⟩
  · rw [if_pos h0] at a7
    simp only [Bool.and_eq_true, beq_iff_eq, Bool.not_eq_true'] at a7
    obtain ⟨b1, b2, b3, b4⟩ := a7
    have c1 := eqC_iff.1 b3
    have c2 : x.a = zA0 := by
      obtain ⟨_, _, _, _, _, _, _, ⟨e1, e2, e3, e4, e5, e6, e7, e8⟩⟩ := x
      simp [eqA, attL, zA0, sameCells, AV.same] at b4 ⊢
      exact b4
    obtain ⟨r, sl, st, bal, vote, same, c, a⟩ := x
    simp only at *
    subst h0 b1 b2 c1 c2
    rfl
  · rw [if_neg h0] at a7
    simp only [Bool.and_eq_true] at a7
    exact ⟨by omega, by omega, a7.2.1, a7.2.2.1⟩
theorem itake_enc {x : InstP} (h : rightI x = true) (hb : rangeX x) (more : List UInt8) : itX (encI x ++ more) 0 = x ∧ itR (encI x ++ more) 0 = more ∧ itE (encI x ++ more) 0 = 0 := by
  obtain ⟨p1, p2, p3, p4, p5⟩ := rightI_parts h
  obtain ⟨hb1, hb2, hb3⟩ := hb
  obtain ⟨S, hS⟩ : ∃ S, S = (if x.st = 0 then [] else encIR x) ++ more := ⟨_, rfl⟩
  obtain ⟨l, hl⟩ : ∃ l, l = encI x ++ more := ⟨_, rfl⟩
  have hst : 0 ≤ x.st ∧ x.st ≤ 3 := by
    by_cases h0 : x.st = 0
    · omega
    · have := p5 h0; omega
  have ws : IntKind.u8.wrap x.st = x.st := wrap_u8 hst.1 (by omega)
  have e : l = catL (encID x.r x.sl) (catL (short x.bal.toNat) (encByte x.st ++ S)) := by
    rw [hl, hS]; simp only [encI, catL_eq, ws, List.append_assoc]
  rw [← hl]
  obtain ⟨a1, a2, a3, a4⟩ := encID_taken (catL (short x.bal.toNat) (encByte x.st ++ S)) p1
  rw [← e] at a1 a2 a3 a4
  have i1 : it1 l 0 = (catL (short x.bal.toNat) (encByte x.st ++ S), 0) := by unfold it1; rw [a3, a4]
  obtain ⟨b1, b2, b3⟩ := bal_taken (encByte x.st ++ S) p2 hb1.1 hb1.2
  have i2 : it2 l 0 = (encByte x.st ++ S, 0) := by unfold it2; rw [i1, b2, b3]
  obtain ⟨c1, c2, c3⟩ := byte_taken (b := x.st) S hst.1 (by omega)
  have iS : itSt l 0 = x.st := by unfold itSt; rw [i2]; exact c1
  have i3 : it3 l 0 = (S, 0) := by unfold it3; rw [i2, iS, c2, c3, if_neg (by omega)]
  have iB : balV (it1 l 0).1 (it1 l 0).2 = x.bal := by rw [i1]; exact b1
  have key : itV l 0 = x ∧ it8 l 0 = (more, 0) := by
    by_cases h0 : x.st = 0
    · have hS' : S = more := by rw [hS, if_pos h0]; rfl
      have e0 : itSt l 0 = 0 := by rw [iS]; exact h0
      refine ⟨?_, ?_⟩
      · unfold itV
        rw [if_pos e0, a1, a2, iB]
        exact (p4 h0).symm
      · unfold it8
        rw [if_pos e0, i3, hS']
    · obtain ⟨q1, q2, q3, q4⟩ := p5 h0
      have e0 : ¬ itSt l 0 = 0 := by rw [iS]; exact h0
      have hS' : S = catL (short x.vote.toNat) (encTruth x.same ++ (encP x.c ++ (encA x.a.s x.a.d0 x.a.d1 x.a.d2 x.a.d3 x.a.d4 x.a.d5 x.a.d6 ++ more))) := by
        rw [hS, if_neg h0]; simp only [encIR, catL_eq, List.append_assoc]
      obtain ⟨d1, d2, d3⟩ := bal_taken (encTruth x.same ++ (encP x.c ++ (encA x.a.s x.a.d0 x.a.d1 x.a.d2 x.a.d3 x.a.d4 x.a.d5 x.a.d6 ++ more))) p3 hb2.1 hb2.2
      rw [← hS'] at d1 d2 d3
      have i4 : it4 l 0 = (encTruth x.same ++ (encP x.c ++ (encA x.a.s x.a.d0 x.a.d1 x.a.d2 x.a.d3 x.a.d4 x.a.d5 x.a.d6 ++ more)), 0) := by unfold it4; rw [i3, d2, d3]
      obtain ⟨t1, t2, t3⟩ := truth_taken x.same (encP x.c ++ (encA x.a.s x.a.d0 x.a.d1 x.a.d2 x.a.d3 x.a.d4 x.a.d5 x.a.d6 ++ more))
      have i5 : it5 l 0 = (encP x.c ++ (encA x.a.s x.a.d0 x.a.d1 x.a.d2 x.a.d3 x.a.d4 x.a.d5 x.a.d6 ++ more), 0) := by unfold it5; rw [i4, t2, t3]
      obtain ⟨u1, u2, u3⟩ := take_encP hb3 (encA x.a.s x.a.d0 x.a.d1 x.a.d2 x.a.d3 x.a.d4 x.a.d5 x.a.d6 ++ more)
      have i6 : it6 l 0 = (encA x.a.s x.a.d0 x.a.d1 x.a.d2 x.a.d3 x.a.d4 x.a.d5 x.a.d6 ++ more, 0) := by unfold it6; rw [i5, u2, u3]
      obtain ⟨v1, v2⟩ := encA_app q4 more
      refine ⟨?_, ?_⟩
      · unfold itV
        rw [if_neg e0, a1, a2, iB, iS, i3, i4, i5, i6]
        simp only
        rw [d1, t1, u1, if_pos q3, v2]
      · unfold it8
        rw [if_neg e0, i6, v1]
  have hE : itE l 0 = 0 := by unfold itE; rw [key.1, if_pos h, key.2]
  refine ⟨?_, ?_, hE⟩
  · unfold itX; rw [if_pos hE, key.1]
  · unfold itR; rw [key.2]
theorem iparse_enc {x : InstP} (h : rightI x = true) (hb : rangeX x) : iparseE (encI x) = 0 ∧ iparseX (encI x) = x := by
  have t := itake_enc h hb []
  rw [List.append_nil] at t
  have e : iparseE (encI x) = 0 := by
    unfold iparseE inEnd inLeft
    rw [t.2.1, t.2.2]; simp
  refine ⟨e, ?_⟩
  unfold iparseX
  rw [if_pos e]; exact t.1
end Go.Proofs.YtfoabkkkdcicgaaGreatDoor
