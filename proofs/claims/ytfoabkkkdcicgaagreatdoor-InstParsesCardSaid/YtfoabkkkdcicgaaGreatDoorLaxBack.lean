/- What was read is written as it was. -/
import Derived.Test.YtfoabkkkdcicgaaGreatDoorLaxPkInstW
import Derived.Test.YtfoabkkkdcicgaaGreatDoorLaxRefCC
namespace Go.Proofs.YtfoabkkkdcicgaaGreatDoor
set_option linter.unusedVariables false
set_option linter.unusedSimpArgs false
open Go.RowKit
set_option maxRecDepth 100000

theorem tk_back {n : Nat} {e k : Int} (h : tkErr n e k = 0) : e = 0 ∧ k ≤ n ∧ tkOK n e k = true := by
  unfold tkErr at h
  by_cases ho : tkOK n e k = true
  · rw [if_pos ho] at h
    have := ho
    simp [tkOK] at this
    exact ⟨h, this.2, ho⟩
  · rw [if_neg ho] at h
    unfold inFail at h
    split at h
    · cases h
    · rename_i hz; exact absurd h hz
theorem fail_back {e c : Int} (hc : c ≠ 0) (h : inFail e c = 0) : False := by
  unfold inFail at h
  split at h
  · exact hc h
  · rename_i hz; exact hz h
theorem back_byte {l : List UInt8} {e : Int} (h : tkErr l.length e 1 = 0) : e = 0 ∧ l = encByte (inByteV l 0) ++ tkRest l 0 1 := by
  obtain ⟨rfl, h1, ho⟩ := tk_back h
  obtain ⟨a, b, c⟩ := tk_ok ho l rfl
  refine ⟨rfl, ?_⟩
  unfold inByteV
  rw [a, c]
  match l, h1 with
  | x :: r, _ => simp [encByte]
theorem back_short {l : List UInt8} {e m : Int} (h : shErr l e m = 0) : e = 0 ∧ l = short (shV l 0 m).toNat ++ shRest l 0 m := by
  unfold shErr at h
  split at h
  · rename_i he; exact absurd h he
  · rename_i he
    have he0 : e = 0 := by omega
    refine ⟨he0, ?_⟩
    split at h
    · rename_i h2; exact absurd (by omega) h2
    · rename_i h2
      split at h
      · cases h
      · rename_i h3
        have h20 : (rShort l).2.2 = 0 := by omega
        unfold shV shRest
        rw [if_neg (by omega), if_neg (by omega), if_neg (by omega), if_neg (by omega), if_neg (by omega), if_neg (by omega)]
        obtain ⟨a, b, c⟩ := rShort_reads (l := l) (v := (rShort l).1) (n := (rShort l).2.1) (by rw [← h20])
        rw [Int.toNat_natCast, b, List.take_append_drop]
theorem back_truth {l : List UInt8} {e : Int} (h : inTruthE l e = 0) : e = 0 ∧ l = encTruth (inTruthV l 0) ++ tkRest l 0 1 := by
  by_cases hb : 1 < inByteV l e
  · unfold inTruthE at h; rw [if_pos hb] at h; exact (fail_back (by decide) h).elim
  · have h' := h
    unfold inTruthE at h
    rw [if_neg hb] at h
    obtain ⟨rfl, hl⟩ := back_byte h
    refine ⟨rfl, ?_⟩
    have hr := inByteV_range l 0
    have : inTruthV l 0 = (inByteV l 0 == 1) := by unfold inTruthV; rw [h']; simp
    rw [this]
    have h01 : inByteV l 0 = 0 ∨ inByteV l 0 = 1 := by omega
    have e2 : encByte (inByteV l 0) = encTruth (inByteV l 0 == 1) := by rcases h01 with h | h <;> (rw [h]; rfl)
    rw [← e2]; exact hl
theorem bytesOf_valOf : ∀ (l : List UInt8), bytesOf (valOf l : Int) l.length = l := by
  intro l
  have key : ∀ (n : Nat) (l : List UInt8), l.length = n → bytesOf (valOf l : Int) n = l := by
    intro n
    induction n with
    | zero => intro l h; have := List.length_eq_zero_iff.1 h; subst this; rfl
    | succ n ih =>
      intro l h
      have hne : l ≠ [] := by intro hn; subst hn; simp at h
      obtain ⟨r, b, rfl⟩ : ∃ r b, l = r ++ [b] := ⟨l.dropLast, l.getLast hne, (List.dropLast_concat_getLast hne).symm⟩
      have hr : r.length = n := by simp at h; exact h
      rw [valOf_snoc, bytesOf_shift _ _ (by omega)]
      have hb := b.toNat_lt
      have e1 : (((valOf r * 256 + b.toNat : Nat) : Int)) / 256 = (valOf r : Int) := by omega
      have e2 : byteAt (((valOf r * 256 + b.toNat : Nat) : Int)) 0 = b := by
        unfold byteAt
        apply UInt8.toNat_inj.1
        simp
        omega
      rw [e1, e2, ih r hr]
  exact key _ l rfl
theorem back_fixed {l : List UInt8} {e : Int} (h : tkErr l.length e 8 = 0) : e = 0 ∧ l = bytesOf ((val8 (tkOut l 0 8) : Nat) : Int) (cap8 8) ++ tkRest l 0 8 := by
  obtain ⟨rfl, h1, ho⟩ := tk_back h
  obtain ⟨a, b, c⟩ := tk_ok ho l rfl
  refine ⟨rfl, ?_⟩
  rw [a, c]
  have t : ((8 : Int)).toNat = 8 := rfl
  rw [t]
  have hl : (l.take 8).length = 8 := by rw [List.length_take]; omega
  have e8 : val8 (l.take 8) = valOf (l.take 8) := by unfold val8; rw [if_neg (by omega), List.take_take]; simp
  have c8 : cap8 8 = 8 := by decide
  have := bytesOf_valOf (l.take 8)
  rw [hl] at this
  rw [e8, c8, this, List.take_append_drop]
theorem back_text {l : List UInt8} {e : Int} (h : inTextE l e 64 = 0) : e = 0 ∧ l = encText (inTextV l 0 64) ++ inTextR l 0 64 := by
  have m : most0 64 = 64 := by decide
  unfold inTextE at h
  rw [m] at h
  obtain ⟨h0, h1, ho⟩ := tk_back h
  obtain ⟨rfl, hl⟩ := back_short h0
  refine ⟨rfl, ?_⟩
  unfold inTextV inTextR
  rw [m, h0]
  rw [h0] at ho
  obtain ⟨a, b, c⟩ := tk_ok ho (shRest l 0 64) rfl
  rw [a, c]
  have hv := shV_range l 0 64 (by omega)
  have hlen : ((shRest l 0 64).take (shV l 0 64).toNat).length = (shV l 0 64).toNat := by rw [List.length_take]; omega
  unfold encText
  rw [hlen, List.append_assoc, List.take_append_drop]
  exact hl
theorem back_bal {l : List UInt8} {e : Int} (h : balE l e = 0) : e = 0 ∧ l = short (balV l 0).toNat ++ shRest l 0 4294967295 := by
  unfold balE at h
  by_cases hb : balOK (shV l e 4294967295) = true
  · rw [if_pos hb] at h
    obtain ⟨rfl, hl⟩ := back_short h
    refine ⟨rfl, ?_⟩
    unfold balV
    rw [if_pos hb]; exact hl
  · rw [if_neg hb] at h; exact (fail_back (by decide) h).elim
theorem back_id {l : List UInt8} {e : Int} (h : idErr l e = 0) : e = 0 ∧ l = encID (idR l 0) (idS l 0) ++ idRest l 0 := by
  have h' := h
  unfold idErr at h
  obtain ⟨h1, hl⟩ := back_short h
  have h1' := h1
  unfold idE1 at h1
  split at h1
  · exact (fail_back (by decide) h1).elim
  · rename_i h6
    obtain ⟨rfl, hl2⟩ := back_byte h1
    refine ⟨rfl, ?_⟩
    have e1 : idR l 0 = inByteV l 0 := by unfold idR; rw [if_pos h']
    have e2 : idS l 0 = shV (tkRest l 0 1) 0 1023 := by unfold idS; rw [if_pos h', h1']
    have e3 : idRest l 0 = shRest (tkRest l 0 1) 0 1023 := by unfold idRest; rw [h1']
    have hr := inByteV_range l 0
    have hs := shV_range (tkRest l 0 1) 0 1023 (by omega)
    rw [e1, e2, e3]
    unfold encID catL
    rw [show IntKind.u8.wrap (inByteV l 0) = inByteV l 0 by rw [IntKind.wrap_u8]; omega, wrap_u64 (by omega) (by omega), List.append_assoc, ← hl]
    exact hl2
theorem back_atS {l : List UInt8} {e : Int} : ∀ k : Nat, (atS l e (k + 1)).2 = 0 → (atS l e k).2 = 0 ∧ (atS l e k).1 = short (atV l e k).toNat ++ (atS l e (k + 1)).1 := by
  intro k h
  have h' : shErr (atS l e k).1 (atS l e k).2 1024 = 0 := h
  obtain ⟨h0, hl⟩ := back_short h'
  refine ⟨h0, ?_⟩
  show _ = short (shV (atS l e k).1 (atS l e k).2 1024).toNat ++ shRest (atS l e k).1 (atS l e k).2 1024
  rw [h0]; exact hl
theorem back_att {l : List UInt8} {e : Int} (h : (atS l e 7).2 = 0) : e = 0 ∧ l = encA (itA l 0).s (itA l 0).d0 (itA l 0).d1 (itA l 0).d2 (itA l 0).d3 (itA l 0).d4 (itA l 0).d5 (itA l 0).d6 ++ (atS l 0 7).1 := by
  obtain ⟨z6, l6⟩ := back_atS 6 h
  obtain ⟨z5, l5⟩ := back_atS 5 z6
  obtain ⟨z4, l4⟩ := back_atS 4 z5
  obtain ⟨z3, l3⟩ := back_atS 3 z4
  obtain ⟨z2, l2⟩ := back_atS 2 z3
  obtain ⟨z1, l1⟩ := back_atS 1 z2
  obtain ⟨z0, l0⟩ := back_atS 0 z1
  obtain ⟨rfl, hl⟩ := back_short (show shErr l e 1073741824 = 0 from z0)
  refine ⟨rfl, ?_⟩
  have az : ∀ v, atZ l 0 v = v := fun v => by unfold atZ; rw [if_pos h]
  simp only [itA, az]
  unfold encA catL
  simp only [List.append_assoc]
  rw [← l6, ← l5, ← l4, ← l3, ← l2, ← l1, ← l0]
  exact hl
/-- a kind's fields -/
theorem back_fields {l : List UInt8} {e k : Int} (h : fE l e k = 0) : e = 0 ∧ l = (if hS k then catL (bytesOf (vNum l 0 k) (cap8 8)) (encText (vFoot l 0 k)) else []) ++ ((if hR k then short (vRq l 0 k).toNat else []) ++ ((if hP k then encText (vPath l 0 k) else []) ++ ((if hM k then encByte (vMode l 0 k) else []) ++ ((if hN k then short (vN l 0 k).toNat else []) ++ ((if hT k then short (vTime l 0 k).toNat else []) ++ fR l 0 k))))) := by
  have s7 : (f7 l e k).2 = 0 → (f6 l e k).2 = 0 ∧ (f6 l e k).1 = (if hT k then short (vTime l e k).toNat else []) ++ (f7 l e k).1 := by
    unfold f7 vTime
    cases hT k with
    | false => intro h; exact ⟨h, rfl⟩
    | true => intro h; obtain ⟨a, b⟩ := back_short h; simp only [if_true]; refine ⟨a, ?_⟩; rw [a]; exact b
  have s6 : (f6 l e k).2 = 0 → (f5 l e k).2 = 0 ∧ (f5 l e k).1 = (if hN k then short (vN l e k).toNat else []) ++ (f6 l e k).1 := by
    unfold f6 vN
    cases hN k with
    | false => intro h; exact ⟨h, rfl⟩
    | true => intro h; obtain ⟨a, b⟩ := back_short h; simp only [if_true]; refine ⟨a, ?_⟩; rw [a]; exact b
  have s5 : (f5 l e k).2 = 0 → (f4 l e k).2 = 0 ∧ (f4 l e k).1 = (if hM k then encByte (vMode l e k) else []) ++ (f5 l e k).1 := by
    unfold f5 vMode
    cases hM k with
    | false => intro h; exact ⟨h, rfl⟩
    | true => intro h; obtain ⟨a, b⟩ := back_byte h; simp only [if_true]; refine ⟨a, ?_⟩; rw [a]; exact b
  have s4 : (f4 l e k).2 = 0 → (f3 l e k).2 = 0 ∧ (f3 l e k).1 = (if hP k then encText (vPath l e k) else []) ++ (f4 l e k).1 := by
    unfold f4 vPath
    cases hP k with
    | false => intro h; exact ⟨h, rfl⟩
    | true => intro h; obtain ⟨a, b⟩ := back_text h; simp only [if_true]; refine ⟨a, ?_⟩; rw [a]; exact b
  have s3 : (f3 l e k).2 = 0 → (f2 l e k).2 = 0 ∧ (f2 l e k).1 = (if hR k then short (vRq l e k).toNat else []) ++ (f3 l e k).1 := by
    unfold f3 vRq
    cases hR k with
    | false => intro h; exact ⟨h, rfl⟩
    | true => intro h; obtain ⟨a, b⟩ := back_short h; simp only [if_true]; refine ⟨a, ?_⟩; rw [a]; exact b
  have s2 : (f2 l e k).2 = 0 → e = 0 ∧ l = (if hS k then catL (bytesOf (vNum l e k) (cap8 8)) (encText (vFoot l e k)) else []) ++ (f2 l e k).1 := by
    unfold f2 f1 vFoot vNum f1
    cases hS k with
    | false => intro h; exact ⟨h, rfl⟩
    | true =>
      simp only [if_true]
      intro h
      obtain ⟨a, b⟩ := back_text h
      obtain ⟨c, d⟩ := back_fixed a
      refine ⟨c, ?_⟩
      rw [a]
      subst c
      unfold catL
      rw [List.append_assoc, ← b]
      exact d
  obtain ⟨a6, b6⟩ := s7 h
  obtain ⟨a5, b5⟩ := s6 a6
  obtain ⟨a4, b4⟩ := s5 a5
  obtain ⟨a3, b3⟩ := s4 a4
  obtain ⟨a2, b2⟩ := s3 a3
  obtain ⟨a1, b1⟩ := s2 a2
  subst a1
  refine ⟨rfl, ?_⟩
  show _ = _ ++ (_ ++ (_ ++ (_ ++ (_ ++ (_ ++ (f7 l 0 k).1)))))
  rw [← b6, ← b5, ← b4, ← b3, ← b2]
  exact b1
theorem back_cmd {l : List UInt8} {e : Int} (h : ctE l e = 0) : e = 0 ∧ l = encP (ctC l 0) ++ ctR l 0 ∧ rightC (ctC l 0) = true := by
  have h' := h
  cases hr : rightC (fC (tkRest l e 1) (ctK l e) (inByteV l e)) with
  | false =>
    rw [ct_wrong hr] at h
    exact (fail_back (by decide) h).elim
  | true =>
    rw [ct_right hr] at h
    obtain ⟨hk, hf⟩ := back_fields h
    have hk' := hk
    unfold ctK at hk
    split at hk
    · obtain ⟨rfl, hl⟩ := back_byte hk
      have hC := ctC_ok h'
      rw [hk'] at hC hr
      refine ⟨rfl, ?_, by rw [hC]; exact hr⟩
      unfold encP
      rw [hC, if_pos hr]
      have hm : ∀ b : Bool, (if b = true then encByte (IntKind.u8.wrap (vMode (tkRest l 0 1) 0 (inByteV l 0))) else []) = (if b = true then encByte (vMode (tkRest l 0 1) 0 (inByteV l 0)) else []) := by
        intro b
        have : 0 ≤ vMode (tkRest l 0 1) 0 (inByteV l 0) ∧ vMode (tkRest l 0 1) 0 (inByteV l 0) ≤ 255 := by
          unfold vMode
          split
          · exact inByteV_range _ _
          · omega
        rw [show IntKind.u8.wrap (vMode (tkRest l 0 1) 0 (inByteV l 0)) = vMode (tkRest l 0 1) 0 (inByteV l 0) by rw [IntKind.wrap_u8]; omega]
      have ht : IntKind.u64.wrap (vTime (tkRest l 0 1) 0 (inByteV l 0)) = vTime (tkRest l 0 1) 0 (inByteV l 0) := by
        have : 0 ≤ vTime (tkRest l 0 1) 0 (inByteV l 0) ∧ vTime (tkRest l 0 1) 0 (inByteV l 0) ≤ 1099511627776 := by
          unfold vTime
          split
          · exact shV_range _ _ _ (by omega)
          · omega
        exact wrap_u64 (by omega) (by omega)
      have hb := inByteV_range l 0
      have hR : ctR l 0 = fR (tkRest l 0 1) 0 (inByteV l 0) := by unfold ctR; rw [hk']
      unfold encC fC
      simp only [hm, ht, hR]
      rw [show IntKind.u8.wrap (inByteV l 0) = inByteV l 0 by rw [IntKind.wrap_u8]; omega]
      unfold catL at hf ⊢
      simp only [List.append_assoc] at hf ⊢
      rw [← hf]
      exact hl
    · exact (fail_back (by decide) hk).elim
theorem back_inst {l : List UInt8} {e : Int} (h : itE l e = 0) : e = 0 ∧ l = encI (itX l 0) ++ itR l 0 ∧ rightI (itX l 0) = true := by
  have h' := h
  cases hr : rightI (itV l e) with
  | false => rw [it_wrong hr] at h; exact (fail_back (by decide) h).elim
  | true =>
    rw [it_right hr] at h
    have h3 : (it3 l e).2 = 0 ∧ (itSt l e ≠ 0 → (it3 l e).1 = encIR (itVn l e) ++ itR l e) := by
      by_cases g0 : itSt l e = 0
      · have h8 : it8 l e = it3 l e := if_pos g0
        rw [h8] at h
        exact ⟨h, fun g => absurd g0 g⟩
      · have h8 : it8 l e = atS (it6 l e).1 (it6 l e).2 7 := if_neg g0
        rw [h8] at h
        obtain ⟨a6, b6⟩ := back_att h
        obtain ⟨a5, b5, c5⟩ := back_cmd (l := (it5 l e).1) (e := (it5 l e).2) (by rw [← it6_2]; exact a6)
        obtain ⟨a4, b4⟩ := back_truth (l := (it4 l e).1) (e := (it4 l e).2) (by rw [← it5_2]; exact a5)
        obtain ⟨a3, b3⟩ := back_bal (l := (it3 l e).1) (e := (it3 l e).2) (by rw [← it4_2]; exact a4)
        refine ⟨a3, fun _ => ?_⟩
        have r6 := it6_1 l e
        have r5 := it5_1 l e
        have r4 := it4_1 l e
        have F : itR l e = (atS (it6 l e).1 (it6 l e).2 7).1 := by unfold itR; rw [h8]
        rw [F]
        unfold encIR itVn
        simp only []
        rw [a6, a5, a4, a3] at *
        unfold catL
        simp only [List.append_assoc]
        rw [← b6, r6, ← b5, r5, ← b4, r4, ← b3]
    obtain ⟨e3, t3⟩ := h3
    unfold it3 at e3
    simp only at e3
    split at e3
    · exact (fail_back (by decide) e3).elim
    · rename_i g3
      obtain ⟨a2, b2⟩ := back_byte e3
      have a2' := a2
      rw [it2_2] at a2
      obtain ⟨a1, b1⟩ := back_bal a2
      have a1' := a1
      rw [it1_2] at a1
      obtain ⟨rfl, b0⟩ := back_id a1
      have hX := itX_ok h'
      refine ⟨rfl, ?_, by rw [hX]; exact hr⟩
      rw [hX]
      have r3 := it3_1 l 0
      have r2 := it2_1 l 0
      have r1 := it1_1 l 0
      have rs := itSt_1 l 0
      have hb := inByteV_range (it2 l 0).1 0
      rw [a2'] at rs r3
      rw [a1'] at r2
      have w : IntKind.u8.wrap (itSt l 0) = itSt l 0 := by rw [rs, IntKind.wrap_u8]; omega
      by_cases g0 : itSt l 0 = 0
      · have hV : itV l 0 = ⟨idR l 0, idS l 0, 0, balV (it1 l 0).1 (it1 l 0).2, 0, false, zC, zA0⟩ := if_pos g0
        have h8 : it8 l 0 = it3 l 0 := if_pos g0
        have F : itR l 0 = (it3 l 0).1 := by unfold itR; rw [h8]
        rw [hV, F, a1', r3]
        unfold encI catL
        simp only [if_true, List.append_assoc, List.nil_append]
        rw [rs] at g0
        rw [g0] at b2
        rw [show IntKind.u8.wrap 0 = 0 by decide, ← b2, r2, ← b1, r1]
        exact b0
      · have hV : itV l 0 = itVn l 0 := if_neg g0
        have ht := t3 g0
        rw [hV]
        have e1 : encI (itVn l 0) = catL (encID (idR l 0) (idS l 0)) (catL (short (balV (it1 l 0).1 (it1 l 0).2).toNat) (catL (encByte (IntKind.u8.wrap (itSt l 0))) (encIR (itVn l 0)))) := by
          show catL (encID (idR l 0) (idS l 0)) (catL (short (balV (it1 l 0).1 (it1 l 0).2).toNat) (catL (encByte (IntKind.u8.wrap (itSt l 0))) (if itSt l 0 = 0 then [] else encIR (itVn l 0)))) = _
          rw [if_neg g0]
        rw [e1, w, a1']
        unfold catL
        simp only [List.append_assoc]
        rw [← ht, r3, rs, ← b2, r2, ← b1, r1]
        exact b0
theorem back_parse {l : List UInt8} (h : iparseE l = 0) : l = encI (iparseX l) ∧ rightI (iparseX l) = true ∧ iparseX l = itX l 0 := by
  have hX : iparseX l = itX l 0 := by unfold iparseX; rw [if_pos h]
  obtain ⟨E, hE⟩ : ∃ E, E = itE l 0 := ⟨_, rfl⟩
  unfold iparseE inEnd inLeft at h
  rw [← hE] at h
  by_cases hl : (0 : Int) < (if E ≠ 0 then (0 : Int) else ((itR l 0).length : Int))
  · rw [if_pos hl] at h; cases h
  · rw [if_neg hl] at h
    rw [if_neg (by rw [h]; decide)] at hl
    rw [hE] at h
    obtain ⟨_, b, c⟩ := back_inst h
    have : itR l 0 = [] := List.length_eq_zero_iff.1 (by omega)
    rw [this, List.append_nil] at b
    rw [hX]
    exact ⟨b, c, rfl⟩
end Go.Proofs.YtfoabkkkdcicgaaGreatDoor
