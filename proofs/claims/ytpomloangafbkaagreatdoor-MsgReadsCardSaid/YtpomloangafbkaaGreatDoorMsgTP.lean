/- Messages' texts: what is shown is read; plain laws. -/
import Derived.Test.YtpomloangafbkaaGreatDoorLaxPkMsgS
namespace Go.Proofs.YtpomloangafbkaaGreatDoor
set_option linter.unusedVariables false
set_option linter.unusedSimpArgs false
open Go.RowKit
set_option maxRecDepth 100000
def wdM (t : List UInt8) (i : Nat) : List UInt8 := (splitM t [32] 6).getD i []
def mxR (t : List UInt8) : MsgP :=
  ⟨kindM (wdM t 0), atoiV (Lib.cut (wdM t 1) [62]).1, atoiV (Lib.cut (wdM t 1) [62]).2.1, ridR (wdM t 2), ridS (wdM t 2), rbalV (wdM t 3), wdM t 4 == [121, 101, 115], if kindM (wdM t 0) = 6 then zI else ireadX (wdM t 5)⟩
def mokR (t : List UInt8) : Bool := rightM (mxR t) && (mshowV (mxR t) == t)
def mreadX (t : List UInt8) : MsgP := if mokR t then mxR t else zM
def mreadE (t : List UInt8) : Int := if mokR t then 0 else 10
theorem kind_word {k : Int} (h0 : 1 ≤ k) (h1 : k ≤ 7) : kindM (wordM k) = k := by
  obtain rfl | rfl | rfl | rfl | rfl | rfl | rfl : k = 1 ∨ k = 2 ∨ k = 3 ∨ k = 4 ∨ k = 5 ∨ k = 6 ∨ k = 7 := by omega
  all_goals decide
theorem fromTo_read {a b : Int} (ha : 0 ≤ a) (hb : 0 ≤ b) (ha' : a ≤ 9223372036854775807) (hb' : b ≤ 9223372036854775807) : atoiV (Lib.cut (fromTo a b) [62]).1 = a ∧ atoiV (Lib.cut (fromTo a b) [62]).2.1 = b := by
  have hc : Lib.cut (fromTo a b) [62] = (digL a, digL b, true) := by
    rw [fromTo_dig ha hb]; exact cut_at _ _ _ (dig_not' _ (by decide))
  rw [hc]
  refine ⟨?_, ?_⟩
  · show atoiV (Lib.decDigits a.toNat) = a
    rw [atoi_dec (by omega)]; omega
  · show atoiV (Lib.decDigits b.toNat) = b
    rw [atoi_dec (by omega)]; omega
theorem right_ok {m : MsgP} (h : rightM m = true) (ho : m.ok = true) : asksK m.k = false ∧ m.k ≠ 6 := by
  obtain ⟨a1, a2, a3, a4, a5, a6, a7, a8, a9⟩ := rightM_parts h
  have h6 : m.k ≠ 6 := fun e => by have := (a8 e).1; rw [ho] at this; cases this
  refine ⟨?_, h6⟩
  rw [rightM_yes ⟨a1, a2, a3, a4, a5, a6, a7⟩, if_neg h6, if_pos (a9 h6), ho] at h
  simpa using h
theorem said_read {m : MsgP} (h : rightM m = true) : (saidN m.k m.ok == [121, 101, 115]) = m.ok := by
  cases ho : m.ok with
  | false =>
    unfold saidN
    split
    · decide
    · decide
  | true =>
    obtain ⟨h1, h2⟩ := right_ok h ho
    unfold saidN
    rw [if_neg (by rw [h1]; simpa using h2)]
    decide
theorem wordM_blank (k : Int) : ∀ c ∈ wordM k, c ≠ 32 := by
  unfold wordM
  generalize k.toNat = n
  match n with
  | 0 => decide
  | 1 => decide
  | 2 => decide
  | 3 => decide
  | 4 => decide
  | 5 => decide
  | 6 => decide
  | 7 => decide
  | n + 8 => simp [wordsM]
theorem saidN_blank (k : Int) (ok : Bool) : ∀ c ∈ saidN k ok, c ≠ 32 := by
  unfold saidN
  split
  · decide
  · split <;> decide
theorem fromTo_blank {a b : Int} (ha : 0 ≤ a) (hb : 0 ≤ b) : ∀ c ∈ fromTo a b, c ≠ 32 := by
  intro c hc
  rw [fromTo_dig ha hb] at hc
  simp only [List.mem_append, List.mem_cons] at hc
  rcases hc with hc | rfl | hc
  · exact dig_not _ (by decide) c hc
  · decide
  · exact dig_not _ (by decide) c hc
theorem read_idM {r n : Int} (f1 : rightId r n = true) : ridR (idShowV r n) = r ∧ ridS (idShowV r n) = n := by
  obtain ⟨r0, r1, r2, r3⟩ := rightId_facts f1
  obtain ⟨n1, n2, n3⟩ := pair_nums r0 r2 (by omega) (by omega)
  have e : idShowV r n = pairL r n := by unfold idShowV; rw [if_pos f1]
  have re : ridE (pairL r n) = 0 := by unfold ridE; rw [if_pos n3, n1, n2, if_pos f1]
  rw [e]
  exact ⟨by unfold ridR; rw [if_pos re, n1], by unfold ridS; rw [if_pos re, n2]⟩
theorem mwords_shown {m : MsgP} (h : rightM m = true) (hb : rangeM m) : splitM (mshowV m) [32] 6 = partsM m := by
  obtain ⟨a1, a2, a3, a4, a5, a6, a7, a8, a9⟩ := rightM_parts h
  have e1 : mshowV m = Lib.join (partsM m) [32] := by unfold mshowV; rw [if_pos h]
  have b1 : ∀ c ∈ idShowV m.r m.s, c ≠ 32 := by rw [(show_idM a6).1]; exact pair6_blank _ _
  have b2 : ∀ c ∈ balShowV m.b, c ≠ 32 := by rw [(show_bal hb.1.1 hb.1.2 a7).1]; exact pair6_blank _ _
  have b3 := fromTo_blank (rep_range a3).1 (rep_range a4).1
  have H : ∀ y ∈ [wordM m.k, fromTo m.src m.dst, idShowV m.r m.s, balShowV m.b, saidN m.k m.ok], ∀ c ∈ y, c ≠ 32 := by
    intro y hy
    simp only [List.mem_cons, List.not_mem_nil, or_false] at hy
    rcases hy with rfl | rfl | rfl | rfl | rfl
    · exact wordM_blank _
    · exact b3
    · exact b1
    · exact b2
    · exact saidN_blank _ _
  rw [e1]
  unfold splitM
  by_cases h0 : m.k = 6
  · rw [mparts_no h0]
    have hl := join_ge 32 [fromTo m.src m.dst, idShowV m.r m.s, balShowV m.b, saidN m.k m.ok] (wordM m.k)
    simp only [List.length_cons, List.length_nil] at hl
    exact splitK_join 32 [fromTo m.src m.dst, idShowV m.r m.s, balShowV m.b, saidN m.k m.ok] (wordM m.k) _ (by simp only [List.length_cons, List.length_nil]; omega) H
  · rw [mparts_yes h0]
    have hl := join_ge 32 [fromTo m.src m.dst, idShowV m.r m.s, balShowV m.b, saidN m.k m.ok, ishowV m.x] (wordM m.k)
    simp only [List.length_cons, List.length_nil] at hl
    have ek : min 6 ((Lib.join [wordM m.k, fromTo m.src m.dst, idShowV m.r m.s, balShowV m.b, saidN m.k m.ok, ishowV m.x] [32]).length + 1) - 1 = 5 := by omega
    rw [ek]
    exact splitK_tail 32 (ishowV m.x) [wordM m.k, fromTo m.src m.dst, idShowV m.r m.s, balShowV m.b, saidN m.k m.ok] H
/-- what is shown is read -/
theorem mread_shown {m : MsgP} (h : rightM m = true) (hb : rangeM m) : mreadX (mshowV m) = m ∧ mreadE (mshowV m) = 0 := by
  obtain ⟨a1, a2, a3, a4, a5, a6, a7, a8, a9⟩ := rightM_parts h
  have r1 := rep_range a3
  have r2 := rep_range a4
  have hw := mwords_shown h hb
  obtain ⟨i1, i2⟩ := read_idM a6
  have i3 := read_bal hb.1.1 hb.1.2 a7
  obtain ⟨i4, i5⟩ := fromTo_read r1.1 r2.1 (by omega) (by omega)
  have i6 := said_read h
  have hx : mxR (mshowV m) = m := by
    unfold mxR wdM
    rw [hw]
    by_cases h0 : m.k = 6
    · rw [mparts_no h0]
      simp only [List.getD_cons_zero, List.getD_cons_succ]
      rw [kind_word a1 a2, if_pos h0, i1, i2, i3, i4, i5, i6, ← eqI_zI (a8 h0).2]
    · rw [mparts_yes h0]
      simp only [List.getD_cons_zero, List.getD_cons_succ]
      rw [kind_word a1 a2, if_neg h0, i1, i2, i3, i4, i5, i6, (iread_shown (a9 h0).1 hb.2).1]
  have hk : mokR (mshowV m) = true := by
    unfold mokR
    rw [hx, h]; simp
  unfold mreadX mreadE
  rw [hk]
  exact ⟨hx, rfl⟩
/-- a shown message begins with the document's text -/
theorem mshow_head {m : MsgP} (h : rightM m = true) (hb : 0 ≤ m.b ∧ m.b ≤ 4294967295) : mshowV m = headM m ++ (if m.k = 6 then [] else 32 :: ishowV m.x) := by
  obtain ⟨a1, a2, a3, a4, a5, a6, a7, a8, a9⟩ := rightM_parts h
  have e1 : mshowV m = Lib.join (partsM m) [32] := by unfold mshowV; rw [if_pos h]
  have b1 := (show_idM a6).1
  have b2 := (show_bal hb.1 hb.2 a7).1
  have b3 := fromTo_dig (rep_range a3).1 (rep_range a4).1
  rw [e1]
  by_cases h0 : m.k = 6
  · rw [mparts_no h0, if_pos h0, b1, b2, b3]
    unfold headM
    simp [join_two, Lib.join_one]
  · rw [mparts_yes h0, if_neg h0, b1, b2, b3]
    unfold headM
    simp [join_two, Lib.join_one]
theorem mshow_len {m : MsgP} (h : rightM m = true) (hb : rangeM m) : (mshowV m).length ≤ 50000 := by
  have e1 : mshowV m = Lib.join (partsM m) [32] := by unfold mshowV; rw [if_pos h]
  rw [e1]; exact mparts_join h hb
theorem wdM_len (t : List UInt8) (i : Nat) : (wdM t i).length ≤ t.length := by
  unfold wdM
  rw [List.getD_eq_getElem?_getD]
  cases e : (splitM t [32] 6)[i]? with
  | none => simp
  | some y => exact splitM_mem t [32] 6 y (List.mem_of_getElem? e)
end Go.Proofs.YtpomloangafbkaaGreatDoor
