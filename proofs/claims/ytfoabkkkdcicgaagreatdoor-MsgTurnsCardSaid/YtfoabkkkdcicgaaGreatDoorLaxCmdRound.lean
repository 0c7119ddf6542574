/- A command that is written is read again. -/
import Derived.Test.YtfoabkkkdcicgaaGreatDoorLaxPkCmdW
namespace Go.Proofs.YtfoabkkkdcicgaaGreatDoor
set_option linter.unusedVariables false
set_option linter.unusedSimpArgs false
open Go.RowKit
set_option maxRecDepth 100000

theorem sh_taken {v m : Int} (more : List UInt8) (h0 : 0 ≤ v) (hm : v ≤ m) (hv : v ≤ 18446744073709551615) :
    shV (short v.toNat ++ more) 0 m = v ∧ shRest (short v.toNat ++ more) 0 m = more ∧ shErr (short v.toNat ++ more) 0 m = 0 := by
  have h := rShort_short v.toNat more (by omega)
  have hm' : ¬ m < ((v.toNat : Nat) : Int) := by omega
  simp [shV, shRest, shErr, h, hm']
  omega
theorem byte_taken {b : Int} (more : List UInt8) (h0 : 0 ≤ b) (h1 : b ≤ 255) : inByteV (encByte b ++ more) 0 = b ∧ tkRest (encByte b ++ more) 0 1 = more ∧ tkErr (encByte b ++ more).length 0 1 = 0 := by
  have := tk_ok (n := (encByte b ++ more).length) (e := 0) (k := 1) (by simp [tkOK, encByte]; omega) _ rfl
  unfold inByteV
  rw [this.1, this.2.1, this.2.2]
  simp [encByte]
  omega
theorem fixed_taken {v : Int} (more : List UInt8) (h0 : 0 ≤ v) (h1 : v ≤ 18446744073709551615) : ((val8 (tkOut (bytesOf v (cap8 8) ++ more) 0 8) : Nat) : Int) = v ∧ tkRest (bytesOf v (cap8 8) ++ more) 0 8 = more ∧ tkErr (bytesOf v (cap8 8) ++ more).length 0 8 = 0 := by
  have e : cap8 8 = 8 := rfl
  rw [e]
  have hl := bytesOf8 v
  have := tk_ok (n := (bytesOf v 8 ++ more).length) (e := 0) (k := 8) (by simp [tkOK, hl]; omega) _ rfl
  rw [this.1, this.2.1, this.2.2]
  have e8 : (8 : Int).toNat = 8 := rfl
  rw [e8, List.take_left' hl, List.drop_left' hl]
  refine ⟨?_, rfl, rfl⟩
  unfold val8
  rw [if_neg (by omega), List.take_of_length_le (by omega), valOf_bytesOf 8 v h0]
  omega
theorem text_taken (s more : List UInt8) {m : Int} (h : (s.length : Int) ≤ m) (hm : m ≤ 1048576) : inTextV (encText s ++ more) 0 m = s ∧ inTextR (encText s ++ more) 0 m = more ∧ inTextE (encText s ++ more) 0 m = 0 := by
  have hm0 : most0 m = m := by unfold most0; rw [if_neg (by omega)]
  obtain ⟨h1, h2, h3⟩ := sh_taken (v := (s.length : Int)) (m := m) (s ++ more) (by omega) (by omega) (by omega)
  have e : encText s ++ more = short ((s.length : Int)).toNat ++ (s ++ more) := by simp [encText]
  unfold inTextV inTextR inTextE
  rw [hm0, e, h1, h2, h3]
  have := tk_ok (n := (s ++ more).length) (e := 0) (k := (s.length : Int)) (by simp [tkOK]; omega) _ rfl
  rw [this.1, this.2.1, this.2.2]
  simp
theorem rightC_facts {c : CmdP} (h : rightC c = true) : okK c.k = true ∧ (hS c.k = true ∨ (c.num = 0 ∧ c.foot = [])) ∧ (hR c.k = true ∨ c.rq = 0) ∧ (hP c.k = true ∨ c.path = []) ∧ (hM c.k = true ∨ c.mode = 0) ∧ (hN c.k = true ∨ c.n = 0) ∧ (hT c.k = true ∨ c.time = 0) ∧
    (hS c.k = false ∨ rightP c.foot = true) ∧ (hP c.k = false ∨ rightP c.path = true) ∧ (hM c.k = false ∨ c.mode = 1 ∨ c.mode = 2) ∧ 0 ≤ c.time ∧ c.time ≤ 1099511627776 := by
  simp only [rightC, Bool.and_eq_true, Bool.or_eq_true, Bool.not_eq_true', decide_eq_true_eq] at h
  obtain ⟨⟨⟨⟨⟨⟨⟨⟨⟨⟨⟨⟨⟨a1, a2⟩, a3⟩, a4⟩, a5⟩, a6⟩, a7⟩, a8⟩, a9⟩, a10⟩, a11⟩, a12⟩, a13⟩, a14⟩ := h
  exact ⟨a1, a2, a3, a4, a5, a6, a7, a8, a10, by rcases a11 with (h | h) | h <;> simp [h], a13, a14⟩
theorem rightC_kind' {c : CmdP} (h : rightC c = true) : 0 ≤ c.k ∧ c.k ≤ 8 := by
  have := (rightC_facts h).1
  unfold okK at this; simp at this; exact this
theorem fields_taken {c : CmdP} (h : rightC c = true) (hn : (0 ≤ c.num ∧ c.num ≤ 18446744073709551615) ∧ (0 ≤ c.rq ∧ c.rq ≤ 18446744073709551615) ∧ (0 ≤ c.n ∧ c.n ≤ 18446744073709551615)) (more : List UInt8) :
    ∃ l, encC c ++ more = encByte c.k ++ l ∧ fC l 0 c.k = c ∧ fR l 0 c.k = more ∧ fE l 0 c.k = 0 := by
  obtain ⟨a1, a2, a3, a4, a5, a6, a7, a8, a9, a10, a11, a12⟩ := rightC_facts h
  have hk := rightC_kind' h
  obtain ⟨k, num, foot, rq, path, mode, n, time⟩ := c
  simp only at *
  have w0 : IntKind.u8.wrap k = k := wrap_u8 hk.1 (by omega)
  have wt : IntKind.u64.wrap time = time := wrap_u64 a11 (by omega)
  obtain ⟨T, hT'⟩ : ∃ T, T = (if hT k then short (IntKind.u64.wrap time).toNat else []) ++ more := ⟨_, rfl⟩
  obtain ⟨N, hN'⟩ : ∃ N, N = (if hN k then short n.toNat else []) ++ T := ⟨_, rfl⟩
  obtain ⟨M, hM'⟩ : ∃ M, M = (if hM k then encByte (IntKind.u8.wrap mode) else []) ++ N := ⟨_, rfl⟩
  obtain ⟨Q, hQ'⟩ : ∃ Q, Q = (if hP k then encText path else []) ++ M := ⟨_, rfl⟩
  obtain ⟨R, hR'⟩ : ∃ R, R = (if hR k then short rq.toNat else []) ++ Q := ⟨_, rfl⟩
  obtain ⟨S, hS'⟩ : ∃ S, S = (if hS k then catL (bytesOf num (cap8 8)) (encText foot) else []) ++ R := ⟨_, rfl⟩
  refine ⟨S, ?_, ?_⟩
  · simp only [encC, catL_eq, w0, List.append_assoc] at *
    simp only [hS', hR', hQ', hM', hN', hT']
  have s2 : f2 S 0 k = (R, 0) ∧ vNum S 0 k = num ∧ vFoot S 0 k = foot := by
    cases hs : hS k
    · simp [hs] at a2 hS'
      subst hS'
      simp [f2, f1, vNum, vFoot, hs, a2]
    · simp [hs] at a8 hS'
      have hl : (foot.length : Int) ≤ 64 := by have := right_len a8; omega
      obtain ⟨b1, b2, b3⟩ := fixed_taken (encText foot ++ R) hn.1.1 hn.1.2
      obtain ⟨b4, b5, b6⟩ := text_taken foot R (m := 64) hl (by omega)
      have e : S = bytesOf num (cap8 8) ++ (encText foot ++ R) := by rw [hS', catL_eq, List.append_assoc]
      have g1 : f1 S 0 k = (encText foot ++ R, 0) := by simp only [f1, hs, if_true, e, b2, b3]
      have g2 : f2 S 0 k = (R, 0) := by simp only [f2, hs, if_true, g1, b5, b6]
      refine ⟨g2, ?_, ?_⟩
      · simp only [vNum, hs, if_true, e]; exact b1
      · simp only [vFoot, hs, if_true, g1]; exact b4
  have s3 : f3 S 0 k = (Q, 0) ∧ vRq S 0 k = rq := by
    cases hs : hR k
    · simp [hs] at a3 hR'
      subst hR'
      simp [f3, vRq, hs, a3, s2.1]
    · simp [hs] at hR'
      obtain ⟨b4, b5, b6⟩ := sh_taken (v := rq) (m := 18446744073709551615) Q hn.2.1.1 (by omega) (by omega)
      simp [f3, vRq, hs, s2.1, hR', b4, b5, b6]
  have s4 : f4 S 0 k = (M, 0) ∧ vPath S 0 k = path := by
    cases hs : hP k
    · simp [hs] at a4 hQ'
      subst hQ'
      simp [f4, vPath, hs, a4, s3.1]
    · simp [hs] at a9 hQ'
      have hl : (path.length : Int) ≤ 64 := by have := right_len a9; omega
      obtain ⟨b4, b5, b6⟩ := text_taken path M (m := 64) hl (by omega)
      simp [f4, vPath, hs, s3.1, hQ', b4, b5, b6]
  have s5 : f5 S 0 k = (N, 0) ∧ vMode S 0 k = mode := by
    cases hs : hM k
    · simp [hs] at a5 hM'
      subst hM'
      simp [f5, vMode, hs, a5, s4.1]
    · simp [hs] at a10 hM'
      have wm : IntKind.u8.wrap mode = mode := wrap_u8 (by omega) (by omega)
      rw [wm] at hM'
      obtain ⟨b4, b5, b6⟩ := byte_taken (b := mode) N (by omega) (by omega)
      rw [← hM'] at b4 b5 b6
      simp only [f5, vMode, hs, s4.1, b4, b5, b6, if_true, and_self]
  have s6 : f6 S 0 k = (T, 0) ∧ vN S 0 k = n := by
    cases hs : hN k
    · simp [hs] at a6 hN'
      subst hN'
      simp [f6, vN, hs, a6, s5.1]
    · simp [hs] at hN'
      obtain ⟨b4, b5, b6⟩ := sh_taken (v := n) (m := 18446744073709551615) T hn.2.2.1 (by omega) (by omega)
      simp [f6, vN, hs, s5.1, hN', b4, b5, b6]
  have s7 : f7 S 0 k = (more, 0) ∧ vTime S 0 k = time := by
    cases hs : hT k
    · simp [hs] at a7 hT'
      subst hT'
      simp [f7, vTime, hs, a7, s6.1]
    · simp [hs] at hT'
      rw [wt] at hT'
      obtain ⟨b4, b5, b6⟩ := sh_taken (v := time) (m := 1099511627776) more a11 a12 (by omega)
      simp [f7, vTime, hs, s6.1, hT', b4, b5, b6]
  simp [fC, fR, fE, s2.2.1, s2.2.2, s3.2, s4.2, s5.2, s6.2, s7.1, s7.2]
theorem take_enc {c : CmdP} (h : rightC c = true) (hn : (0 ≤ c.num ∧ c.num ≤ 18446744073709551615) ∧ (0 ≤ c.rq ∧ c.rq ≤ 18446744073709551615) ∧ (0 ≤ c.n ∧ c.n ≤ 18446744073709551615)) (more : List UInt8) :
    ctC (encC c ++ more) 0 = c ∧ ctR (encC c ++ more) 0 = more ∧ ctE (encC c ++ more) 0 = 0 := by
  obtain ⟨l, e, h1, h2, h3⟩ := fields_taken h hn more
  have hk := rightC_kind' h
  obtain ⟨b1, b2, b3⟩ := byte_taken (b := c.k) l hk.1 (by omega)
  have hko : okK c.k = true := by unfold okK; simp; exact hk
  have e0 : ctK (encC c ++ more) 0 = 0 := by unfold ctK; rw [e, b1, b3, if_pos hko]
  have e1 : ctE (encC c ++ more) 0 = 0 := by
    unfold ctE
    rw [e0, e, b1, b2, h1, if_pos h, h3]
  refine ⟨?_, ?_, e1⟩
  · unfold ctC
    rw [if_pos e1, e0, e, b1, b2, h1]
  · unfold ctR
    rw [e0, e, b1, b2, h2]
/-- of what is no command, a Noop's bytes -/
theorem zC_right : rightC zC = true := by decide +kernel
theorem encC_zero : encC zC = encByte 0 := by decide +kernel
theorem take_encP {c : CmdP} (hn : (0 ≤ c.num ∧ c.num ≤ 18446744073709551615) ∧ (0 ≤ c.rq ∧ c.rq ≤ 18446744073709551615) ∧ (0 ≤ c.n ∧ c.n ≤ 18446744073709551615)) (more : List UInt8) :
    ctC (encP c ++ more) 0 = (if rightC c then c else zC) ∧ ctR (encP c ++ more) 0 = more ∧ ctE (encP c ++ more) 0 = 0 := by
  unfold encP
  cases h : rightC c
  · have := take_enc zC_right ⟨⟨by decide, by decide⟩, ⟨by decide, by decide⟩, by decide, by decide⟩ more
    rw [encC_zero] at this
    simpa using this
  · simpa using take_enc h hn more
end Go.Proofs.YtfoabkkkdcicgaaGreatDoor
