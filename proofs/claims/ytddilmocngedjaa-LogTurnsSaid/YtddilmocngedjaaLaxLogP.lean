/- Logs: plain laws of what is scanned. -/
import Derived.Test.YtddilmocngedjaaLaxLogD
import Derived.Test.YtddilmocngedjaaLaxPkLog
namespace Go.Proofs.Ytddilmocngedjaa
set_option linter.unusedVariables false
set_option linter.unusedSimpArgs false
open Go.RowKit
set_option maxRecDepth 100000

theorem openOK_seal (l : List UInt8) : openOK (sealL l) = true ∧ openV (sealL l) = l := by
  have hl := seal_len l
  have hb : bodyL (sealL l) = l := by
    unfold bodyL
    rw [hl, show l.length + 4 - 4 = l.length by omega]
    unfold sealL
    simp
  have ho : openOK (sealL l) = true := by
    unfold openOK
    rw [hb, hl]
    rw [show l.length + 4 - 4 = l.length by omega]
    unfold sealL
    simp
  exact ⟨ho, by unfold openV; rw [if_pos ho, hb]⟩
theorem firG_facts {l : List UInt8} (h : firG l = true) : (rShort l).2.2 = 0 ∧ (rShort l).1 ≤ 16388 ∧ (rShort l).2.1 + (rShort l).1 ≤ l.length ∧ short (rShort l).1 = l.take (rShort l).2.1 ∧ 1 ≤ (rShort l).2.1 := by
  unfold firG at h
  obtain ⟨h1, h2, h3⟩ := of_decide_eq_true h
  obtain ⟨a, b, c⟩ := rShort_reads (l := l) (v := (rShort l).1) (n := (rShort l).2.1) (by rw [← h1])
  refine ⟨h1, h2, h3, b, ?_⟩
  have := short_pos (rShort l).1
  rw [b, List.length_take] at this
  omega
theorem firK_G {l : List UInt8} (h : firK l = true) : firG l = true := by
  unfold firK at h; simp at h; exact h.1
theorem scanN_fuel : ∀ (n m : Nat) (l : List UInt8), l.length < n → l.length < m → scanN n l = scanN m l := by
  intro n
  induction n with
  | zero => intro m l h; omega
  | succ n ih =>
    intro m l h1 h2
    match m, h2 with
    | m + 1, h2 =>
      unfold scanN
      by_cases hk : firK l = true
      · obtain ⟨a, b, c, d, e⟩ := firG_facts (firK_G hk)
        rw [if_pos hk, if_pos hk, ih m (l.drop ((rShort l).2.1 + (rShort l).1)) (by rw [List.length_drop]; omega) (by rw [List.length_drop]; omega)]
      · rw [if_neg hk, if_neg hk]
/-- how many bytes the first frame has -/
def firM (l : List UInt8) : Nat := (rShort l).2.1 + (rShort l).1
theorem scanP_yes {l : List UInt8} (h : firK l = true) : scanP l = (firV l :: (scanP (l.drop (firM l))).1, firM l + (scanP (l.drop (firM l))).2) := by
  obtain ⟨a, b, c, d, e⟩ := firG_facts (firK_G h)
  have hl : (l.drop (firM l)).length < l.length := by unfold firM; rw [List.length_drop]; omega
  unfold scanP
  rw [scanN, if_pos h, scanN_fuel l.length ((l.drop (firM l)).length + 1) (l.drop ((rShort l).2.1 + (rShort l).1)) hl (by unfold firM; omega)]
  rfl
theorem scanP_no {l : List UInt8} (h : firK l = false) : scanP l = ([], 0) := by
  unfold scanP
  rw [scanN, if_neg (by rw [h]; simp)]
theorem scanR_yes {l : List UInt8} (h : firK l = true) : scanR l = firV l :: scanR (l.drop (firM l)) := by unfold scanR; rw [scanP_yes h]
theorem scanG_yes {l : List UInt8} (h : firK l = true) : scanG l = (firM l : Int) + scanG (l.drop (firM l)) := by
  unfold scanG; rw [scanP_yes h]; simp
theorem scanR_no {l : List UInt8} (h : firK l = false) : scanR l = [] := by unfold scanR; rw [scanP_no h]
theorem scanG_no {l : List UInt8} (h : firK l = false) : scanG l = 0 := by unfold scanG; rw [scanP_no h]; rfl
theorem firN_yes {l : List UInt8} (h : firG l = true) : firN l = (firM l : Int) := by unfold firN; rw [if_pos h]; rfl
theorem firM_range {l : List UInt8} (h : firG l = true) : 1 ≤ firM l ∧ firM l ≤ l.length := by
  obtain ⟨a, b, c, d, e⟩ := firG_facts h
  unfold firM; omega
theorem seg_len {l : List UInt8} (h : firG l = true) : (segL l).length = (rShort l).1 := by
  obtain ⟨a, b, c, d, e⟩ := firG_facts h
  unfold segL
  rw [List.length_take, List.length_drop]; omega
/-- the frame of what is told is what stands there, just where the sum is right -/
theorem frame_iff {l : List UInt8} (h : firG l = true) (h4 : 4 ≤ (rShort l).1) :
    (frameL ((l.drop (rShort l).2.1).take ((rShort l).1 - 4)) = l.take (firM l)) ↔ openOK (segL l) = true := by
  obtain ⟨a, b, c, d, e⟩ := firG_facts h
  have hs := seg_len h
  have hr : ((l.drop (rShort l).2.1).take ((rShort l).1 - 4)).length = (rShort l).1 - 4 := by rw [List.length_take, List.length_drop]; omega
  have hb : bodyL (segL l) = (l.drop (rShort l).2.1).take ((rShort l).1 - 4) := by
    unfold bodyL
    rw [hs]
    unfold segL
    rw [List.take_take]
    congr 1
    omega
  have ht : l.take (firM l) = short (rShort l).1 ++ segL l := by
    unfold firM segL
    rw [List.take_add, d]
  have hsp : segL l = (l.drop (rShort l).2.1).take ((rShort l).1 - 4) ++ (segL l).drop ((rShort l).1 - 4) := by
    conv => lhs; rw [← List.take_append_drop ((rShort l).1 - 4) (segL l)]
    congr 1
    unfold segL
    rw [List.take_take]
    congr 1
    omega
  unfold frameL
  rw [hr, show (rShort l).1 - 4 + 4 = (rShort l).1 by omega, ht, List.append_cancel_left_eq]
  unfold sealL openOK
  rw [hb, hs]
  constructor
  · intro hh
    have : (segL l).drop ((rShort l).1 - 4) = tailL (crcI ((l.drop (rShort l).2.1).take ((rShort l).1 - 4))) := by
      rw [← hh, List.drop_append_of_le_length (by omega)]
      rw [List.drop_eq_nil_of_le (by omega), List.nil_append]
    simp [h4, this]
  · intro hh
    have := (of_decide_eq_true hh).2
    rw [← this]
    exact hsp.symm
theorem firK_frame {l : List UInt8} (h : firK l = true) : frameL (firV l) = l.take (firM l) ∧ (firV l).length ≤ 16384 := by
  have hg := firK_G h
  have ho : openOK (segL l) = true := by unfold firK at h; simp at h; exact h.2
  have h4 : 4 ≤ (rShort l).1 := by
    have := (of_decide_eq_true ho).1
    rw [seg_len hg] at this; exact this
  obtain ⟨a, b, c, d, e⟩ := firG_facts hg
  have hv : firV l = (l.drop (rShort l).2.1).take ((rShort l).1 - 4) := by
    unfold firV
    rw [if_pos hg]
    unfold openV
    rw [if_pos ho]
    unfold bodyL
    rw [seg_len hg]
    unfold segL
    rw [List.take_take]
    congr 1
    omega
  rw [hv]
  exact ⟨(frame_iff hg h4).2 ho, by rw [List.length_take, List.length_drop]; omega⟩
theorem scan_sound : ∀ (n : Nat) (l : List UInt8), l.length ≤ n → joinL (scanR l) = l.take (scanG l).toNat ∧ (∀ r ∈ scanR l, r.length ≤ 16384) ∧ 0 ≤ scanG l ∧ scanG l ≤ l.length ∧ (scanR l).length ≤ l.length := by
  intro n
  induction n with
  | zero =>
    intro l h
    have hk : firK l = false := by
      cases hk : firK l with
      | false => rfl
      | true => have := firM_range (firK_G hk); omega
    rw [scanR_no hk, scanG_no hk]
    simp [joinL]
  | succ n ih =>
    intro l h
    cases hk : firK l with
    | false =>
      rw [scanR_no hk, scanG_no hk]
      simp [joinL]
    | true =>
      obtain ⟨f1, f2⟩ := firM_range (firK_G hk)
      obtain ⟨g1, g2⟩ := firK_frame hk
      obtain ⟨i1, i2, i3, i4, i5⟩ := ih (l.drop (firM l)) (by rw [List.length_drop]; omega)
      rw [List.length_drop] at i4 i5
      rw [scanR_yes hk, scanG_yes hk]
      refine ⟨?_, ?_, by omega, by omega, by simp; omega⟩
      · have : joinL (firV l :: scanR (l.drop (firM l))) = frameL (firV l) ++ joinL (scanR (l.drop (firM l))) := by simp [joinL]
        rw [this, g1, i1, show ((firM l : Int) + scanG (l.drop (firM l))).toNat = firM l + (scanG (l.drop (firM l))).toNat by omega, List.take_add]
      · intro r hr
        rcases List.mem_cons.1 hr with rfl | hr
        · exact g2
        · exact i2 r hr
/-- a frame at the beginning of what is cut -/
theorem firK_cut (r rest : List UInt8) (c : Nat) (hr : r.length ≤ 16384) :
    (c < (frameL r).length → firK ((frameL r ++ rest).take c) = false) ∧
    ((frameL r).length ≤ c → firK ((frameL r ++ rest).take c) = true ∧ firV ((frameL r ++ rest).take c) = r ∧ firM ((frameL r ++ rest).take c) = (frameL r).length) := by
  have hfl : (frameL r).length = (short (r.length + 4)).length + (r.length + 4) := by unfold frameL; rw [List.length_append, seal_len]
  have key : ∀ m more, m = short (r.length + 4) ++ more → rShort m = (r.length + 4, (short (r.length + 4)).length, 0) := by
    intro m more e
    rw [e]; exact rShort_short _ _ (by omega)
  refine ⟨fun hc => ?_, fun hc => ?_⟩
  · have hg : firG ((frameL r ++ rest).take c) = false := by
      unfold firG
      by_cases h1 : (short (r.length + 4)).length ≤ c
      · have e : (frameL r ++ rest).take c = short (r.length + 4) ++ (sealL r ++ rest).take (c - (short (r.length + 4)).length) := by
          unfold frameL
          rw [List.append_assoc, List.take_append, List.take_of_length_le h1]
        rw [key _ _ e]
        simp
        omega
      · have e : (frameL r ++ rest).take c = (short (r.length + 4)).take c := by
          unfold frameL
          rw [List.append_assoc, List.take_append, show c - (short (r.length + 4)).length = 0 by omega]
          simp
        rw [e]
        by_cases h0 : (rShort ((short (r.length + 4)).take c)).2.2 = 0
        · exfalso
          obtain ⟨a, b, d⟩ := rShort_reads (l := (short (r.length + 4)).take c) (v := (rShort ((short (r.length + 4)).take c)).1) (n := (rShort ((short (r.length + 4)).take c)).2.1) (by rw [← h0])
          obtain ⟨v, hv⟩ : ∃ v, v = (rShort ((short (r.length + 4)).take c)).1 := ⟨_, rfl⟩
          obtain ⟨k, hk⟩ : ∃ k, k = (rShort ((short (r.length + 4)).take c)).2.1 := ⟨_, rfl⟩
          rw [← hv, ← hk] at b
          rw [← hk] at a
          rw [← hv] at d
          rw [List.length_take] at a
          have e1 : short (r.length + 4) = short v ++ (short (r.length + 4)).drop k := by
            rw [b, List.take_take, Nat.min_eq_left (by omega), List.take_append_drop]
          have e2 := rShort_short v ((short (r.length + 4)).drop k) d
          rw [← e1] at e2
          have e3 := key (short (r.length + 4)) [] (by simp)
          rw [e3] at e2
          have e4 : (short (r.length + 4)).length = (short v).length := by
            have := congrArg (fun p => p.2.1) e2
            simpa using this
          rw [b, List.take_take, List.length_take] at e4
          omega
        · simp [h0]
    unfold firK; rw [hg]; rfl
  · have e : (frameL r ++ rest).take c = short (r.length + 4) ++ (sealL r ++ rest.take (c - (frameL r).length)) := by
      rw [List.take_append, List.take_of_length_le hc]
      unfold frameL
      rw [List.append_assoc]
    obtain ⟨m, hm⟩ : ∃ m, m = (frameL r ++ rest).take c := ⟨_, rfl⟩
    rw [← hm] at e ⊢
    have hk := key m _ e
    have hg : firG m = true := by
      unfold firG
      rw [hk, e]
      simp [seal_len]
      omega
    have hs : segL m = sealL r := by
      unfold segL
      rw [hk, e]
      simp only []
      rw [List.drop_left', List.take_left']
      · rw [seal_len]
      · rfl
    obtain ⟨o1, o2⟩ := openOK_seal r
    refine ⟨by unfold firK; rw [hg, hs, o1]; rfl, by unfold firV; rw [if_pos hg, hs, o2], ?_⟩
    unfold firM
    rw [hk, hfl]
end Go.Proofs.Ytddilmocngedjaa
