/- States' texts: what is shown is read; plain laws. -/
import Derived.Test.YtpomloangafbkaaGreatDoorLaxPkInstU
import Derived.Test.YtpomloangafbkaaGreatDoorStrN
namespace Go.Proofs.YtpomloangafbkaaGreatDoor
set_option linter.unusedVariables false
set_option linter.unusedSimpArgs false
open Go.RowKit
set_option maxRecDepth 100000
def wdX (t : List UInt8) (i : Nat) : List UInt8 := (splitM t [32] 7).getD i []
/-- what a text's words tell -/
def ixR (t : List UInt8) : InstP :=
  if statusN (wdX t 2) = 0 then ⟨ridR (wdX t 0), ridS (wdX t 0), 0, rbalV (wdX t 1), 0, false, zC, zA0⟩
  else ⟨ridR (wdX t 0), ridS (wdX t 0), statusN (wdX t 2), rbalV (wdX t 1), rbalV (wdX t 3), wdX t 4 == [115, 97, 109, 101], readC (wdX t 6), ⟨raS (wdX t 5), raD (wdX t 5) 0, raD (wdX t 5) 1, raD (wdX t 5) 2, raD (wdX t 5) 3, raD (wdX t 5) 4, raD (wdX t 5) 5, raD (wdX t 5) 6⟩⟩
def iokR (t : List UInt8) : Bool := rightI (ixR t) && (ishowV (ixR t) == t)
def ireadX (t : List UInt8) : InstP := if iokR t then ixR t else zI
def ireadE (t : List UInt8) : Int := if iokR t then 0 else 10
theorem join_ge (b : UInt8) : ∀ (r : List (List UInt8)) (x : List UInt8), r.length ≤ (Lib.join (x :: r) [b]).length
  | [], x => by simp
  | y :: r, x => by
    have := join_ge b r y
    rw [join_two]
    simp only [List.length_append, List.length_cons]
    omega
theorem splitK_tail (b : UInt8) (z : List UInt8) : ∀ (hs : List (List UInt8)), (∀ y ∈ hs, ∀ c ∈ y, c ≠ b) → Lib.splitK [b] 0 hs.length (Lib.join (hs ++ [z]) [b]) = hs ++ [z]
  | [], h => by simp [Lib.splitK, Lib.join_one]
  | x :: hs, h => by
    have hne : ∃ y r, hs ++ [z] = y :: r := by cases hs with
      | nil => exact ⟨z, [], rfl⟩
      | cons y r => exact ⟨y, r ++ [z], rfl⟩
    obtain ⟨y, r, e⟩ := hne
    have ih := splitK_tail b z hs fun y hy => h y (by simp [hy])
    rw [List.cons_append, e] at *
    rw [join_two, List.length_cons]
    unfold Lib.splitK
    rw [index_at x _ b (h x (by simp))]
    have hn : ((x.length : Int) == -1) = false := by simp
    rw [hn]
    have e1 : ((x.length : Int)).toNat = x.length := by omega
    rw [e1]
    have e2 : (x ++ b :: Lib.join (y :: r) [b]).drop (x.length + [b].length) = Lib.join (y :: r) [b] := by
      rw [← List.drop_drop]; simp
    rw [e2, ih]
    simp
theorem pair6_blank (a b : Int) : ∀ c ∈ pair6 a b, c ≠ 32 := by
  intro c hc
  unfold pair6 at hc
  simp only [catL_eq, List.mem_append, List.mem_cons, List.not_mem_nil, or_false] at hc
  rcases hc with (hc | rfl) | hc
  · exact dig_not _ (by decide) c hc
  · decide
  · exact dig_not _ (by decide) c hc
theorem text9_blank (s d0 d1 d2 d3 d4 d5 d6 : Int) : ∀ c ∈ text9 s d0 d1 d2 d3 d4 d5 d6, c ≠ 32 := by
  intro c hc
  unfold text9 at hc
  simp only [catL_eq, List.mem_append, List.mem_cons, List.not_mem_nil, or_false] at hc
  have D : ∀ v, c ∈ digL v → c ≠ 32 := fun v h => dig_not _ (by decide) c h
  rcases hc with (((((((((((((hc | hc) | hc) | hc) | hc) | hc) | hc) | hc) | hc) | hc) | hc) | hc) | hc) | hc) | hc <;> first | exact D _ hc | (subst hc; decide)
theorem wordN_blank (k : Int) : ∀ c ∈ wordN k, c ≠ 32 := by
  unfold wordN
  generalize k.toNat = n
  match n with
  | 0 => decide
  | 1 => decide
  | 2 => decide
  | 3 => decide
  | n + 4 => simp [wordsS]
theorem howN_blank (b : Bool) : ∀ c ∈ howN b, c ≠ 32 := by cases b <;> decide
theorem status_word {k : Int} (h0 : 0 ≤ k) (h1 : k ≤ 3) : statusN (wordN k) = k := by
  obtain rfl | rfl | rfl | rfl : k = 0 ∨ k = 1 ∨ k = 2 ∨ k = 3 := by omega
  all_goals decide
theorem read_id {x : InstP} (h : rightI x = true) : ridR (idShowV x.r x.sl) = x.r ∧ ridS (idShowV x.r x.sl) = x.sl := by
  obtain ⟨f1, _⟩ := rightI_parts h
  obtain ⟨r0, r1, r2, r3⟩ := rightId_facts f1
  obtain ⟨n1, n2, n3⟩ := pair_nums r0 r2 (by omega) (by omega)
  have e : idShowV x.r x.sl = pairL x.r x.sl := by unfold idShowV; rw [if_pos f1]
  have re : ridE (pairL x.r x.sl) = 0 := by unfold ridE; rw [if_pos n3, n1, n2, if_pos f1]
  rw [e]
  exact ⟨by unfold ridR; rw [if_pos re, n1], by unfold ridS; rw [if_pos re, n2]⟩
theorem read_bal {b : Int} (h0 : 0 ≤ b) (h1 : b ≤ 4294967295) (h : balOK b = true) : rbalV (balShowV b) = b := ((bal_text h0 h1).2 h).2.2.2.1
/-- a shown state's words -/
theorem words_shown {x : InstP} (h : rightI x = true) (hb : rangeI x) : splitM (ishowV x) [32] 7 = partsI x := by
  obtain ⟨f1, f2, f3, f4, f5⟩ := rightI_parts h
  have e1 : ishowV x = Lib.join (partsI x) [32] := by unfold ishowV; rw [if_pos h]
  have b1 : ∀ c ∈ idShowV x.r x.sl, c ≠ 32 := by rw [(show_id h).1]; exact pair6_blank _ _
  have b2 : ∀ c ∈ balShowV x.bal, c ≠ 32 := by rw [(show_bal hb.1.1 hb.1.2 f2).1]; exact pair6_blank _ _
  have b3 : ∀ c ∈ balShowV x.vote, c ≠ 32 := by rw [(show_bal hb.2.1.1 hb.2.1.2 f3).1]; exact pair6_blank _ _
  rw [e1]
  unfold splitM
  by_cases h0 : x.st = 0
  · rw [parts_no h0]
    have hl := join_ge 32 [balShowV x.bal, wordN x.st] (idShowV x.r x.sl)
    simp only [List.length_cons, List.length_nil] at hl
    refine splitK_join 32 [balShowV x.bal, wordN x.st] (idShowV x.r x.sl) _ (by simp only [List.length_cons, List.length_nil]; omega) ?_
    intro y hy
    simp only [List.mem_cons, List.not_mem_nil, or_false] at hy
    rcases hy with rfl | rfl | rfl
    · exact b1
    · exact b2
    · exact wordN_blank _
  · rw [parts_yes h0]
    have hl := join_ge 32 [balShowV x.bal, wordN x.st, balShowV x.vote, howN x.same, attV x.a, showV x.c] (idShowV x.r x.sl)
    simp only [List.length_cons, List.length_nil] at hl
    have ek : min 7 ((Lib.join [idShowV x.r x.sl, balShowV x.bal, wordN x.st, balShowV x.vote, howN x.same, attV x.a, showV x.c] [32]).length + 1) - 1 = 6 := by omega
    rw [ek]
    refine splitK_tail 32 (showV x.c) [idShowV x.r x.sl, balShowV x.bal, wordN x.st, balShowV x.vote, howN x.same, attV x.a] ?_
    intro y hy
    simp only [List.mem_cons, List.not_mem_nil, or_false] at hy
    rcases hy with rfl | rfl | rfl | rfl | rfl | rfl
    · exact b1
    · exact b2
    · exact wordN_blank _
    · exact b3
    · exact howN_blank _
    · unfold attV
      rw [(show_text (f5 h0).2.2.2).1]
      exact text9_blank _ _ _ _ _ _ _ _
/-- what is shown is read -/
theorem iread_shown {x : InstP} (h : rightI x = true) (hb : rangeI x) : ireadX (ishowV x) = x ∧ ireadE (ishowV x) = 0 := by
  obtain ⟨f1, f2, f3, f4, f5⟩ := rightI_parts h
  have hst := rightI_st h
  have hw := words_shown h hb
  obtain ⟨i1, i2⟩ := read_id h
  have i3 := read_bal hb.1.1 hb.1.2 f2
  have i4 := read_bal hb.2.1.1 hb.2.1.2 f3
  have hx : ixR (ishowV x) = x := by
    unfold ixR wdX
    rw [hw]
    by_cases h0 : x.st = 0
    · rw [parts_no h0]
      simp only [List.getD_cons_zero, List.getD_cons_succ]
      rw [status_word hst.1 hst.2, if_pos h0, i1, i2, i3]
      exact (f4 h0).symm
    · rw [parts_yes h0]
      simp only [List.getD_cons_zero, List.getD_cons_succ]
      obtain ⟨_, _, hc, ha⟩ := f5 h0
      obtain ⟨r1, r2, p0, p1, p2, p3, p4, p5, p6, _⟩ := read_show ha
      have hh : (howN x.same == [115, 97, 109, 101]) = x.same := by cases x.same <;> rfl
      have hr := (read_shown hc (numOK_of hb)).1
      unfold attV
      rw [status_word hst.1 hst.2, if_neg h0, i1, i2, i3, i4, r2, p0, p1, p2, p3, p4, p5, p6, hh, hr]
  have hk : iokR (ishowV x) = true := by
    unfold iokR
    rw [hx, h]; simp
  unfold ireadX ireadE
  rw [hk]
  exact ⟨hx, rfl⟩
theorem ishow_len {x : InstP} (h : rightI x = true) (hb : rangeI x) : (ishowV x).length ≤ 7100 := by
  have e1 : ishowV x = Lib.join (partsI x) [32] := by unfold ishowV; rw [if_pos h]
  rw [e1]; exact parts_join h hb
theorem wdX_len (t : List UInt8) (i : Nat) : (wdX t i).length ≤ t.length := by
  unfold wdX
  rw [List.getD_eq_getElem?_getD]
  cases e : (splitM t [32] 7)[i]? with
  | none => simp
  | some y => exact splitM_mem t [32] 7 y (List.mem_of_getElem? e)
end Go.Proofs.YtpomloangafbkaaGreatDoor
