/- Commands' texts: what is shown is read again. The plain law. -/
import Derived.Test.YtpomloangafbkaaGreatDoorLaxPkCmdT
import Derived.Test.YtpomloangafbkaaGreatDoorPathQ
namespace Go.Proofs.YtpomloangafbkaaGreatDoor
set_option linter.unusedVariables false
set_option linter.unusedSimpArgs false
open Go.RowKit
set_option maxRecDepth 100000
/-- a text's words -/
def wordsC (t : List UInt8) : List (List UInt8) := Lib.split t [32]
def restW (t : List UInt8) : List (List UInt8) := (wordsC t).drop 1
def zK (k : Int) : CmdP := ⟨k, 0, [], 0, [], 0, 0, 0⟩
def setC (c : CmdP) (f : List UInt8) : CmdP := ⟨c.k, setNum c.num f, setFoot c.foot f, setRq c.rq f, setPath c.path f, setMode c.mode f, setN c.n f, setTime c.time f⟩
def rdN (t : List UInt8) (i : Nat) : CmdP := ((restW t).take i).foldl setC (zK (kindN ((wordsC t).getD 0 [])))
def allN (t : List UInt8) (i : Nat) : Bool := ((restW t).take i).all setK
/-- the command that a text tells -/
def cR (t : List UInt8) : CmdP := rdN t (restW t).length
def okR (t : List UInt8) : Bool := allN t (restW t).length && rightC (cR t) && decide (showV (cR t) = t)
def readC (t : List UInt8) : CmdP := if okR t then cR t else zC
def readE (t : List UInt8) : Int := if okR t then 0 else 10
theorem rightC_all {c : CmdP} (h : rightC c = true) : okK c.k = true ∧ (hS c.k = true ∨ (c.num = 0 ∧ c.foot = [])) ∧ (hR c.k = true ∨ c.rq = 0) ∧ (hP c.k = true ∨ c.path = []) ∧ (hM c.k = true ∨ c.mode = 0) ∧ (hN c.k = true ∨ c.n = 0) ∧ (hT c.k = true ∨ c.time = 0) ∧
    (hS c.k = false ∨ rightP c.foot = true) ∧ (hP c.k = false ∨ rightP c.path = true) ∧ (hM c.k = false ∨ c.mode = 1 ∨ c.mode = 2) ∧ 0 ≤ c.time ∧ c.time ≤ 1099511627776 := by
  simp only [rightC, Bool.and_eq_true, Bool.or_eq_true, Bool.not_eq_true', decide_eq_true_eq] at h
  obtain ⟨⟨⟨⟨⟨⟨⟨⟨⟨⟨⟨⟨⟨a1, a2⟩, a3⟩, a4⟩, a5⟩, a6⟩, a7⟩, a8⟩, a9⟩, a10⟩, a11⟩, a12⟩, a13⟩, a14⟩ := h
  exact ⟨a1, a2, a3, a4, a5, a6, a7, a8, a10, by rcases a11 with (h | h) | h <;> simp [h], a13, a14⟩
theorem right_kind {c : CmdP} (h : rightC c = true) : 0 ≤ c.k ∧ c.k ≤ 8 := by
  have := (rightC_all h).1
  unfold okK at this; simp at this; exact this
theorem right_lens {c : CmdP} (h : rightC c = true) : c.foot.length ≤ 64 ∧ c.path.length ≤ 64 := by
  obtain ⟨a1, a2, a3, a4, a5, a6, a7, a8, a9, a10, a11, a12⟩ := rightC_all h
  refine ⟨?_, ?_⟩
  · rcases a8 with h8 | h8
    · rcases a2 with h2 | h2
      · rw [h8] at h2; cases h2
      · rw [h2.2]; simp
    · exact right_len h8
  · rcases a9 with h9 | h9
    · rcases a4 with h4 | h4
      · rw [h9] at h4; cases h4
      · rw [h4]; simp
    · exact right_len h9
/-- a path has no blanks -/
theorem path_blank {p : List UInt8} (h : rightP p = true) : ∀ c ∈ p, c ≠ 32 := by
  obtain ⟨l, hl⟩ := (rightP_iff p).1 h
  have key : ∀ l : List (List UInt8), (∀ x ∈ l, okPart x = true) → ∀ c ∈ joinP l, c ≠ 32 := by
    intro l
    induction l with
    | nil => intro _ c hc; simp [joinP_nil] at hc
    | cons x r ih =>
      intro ho c hc
      have hx : ∀ c ∈ x, c ≠ 32 := by
        intro c hc e
        have := ho x (by simp)
        unfold okPart at this
        simp only [Bool.and_eq_true, List.all_eq_true] at this
        have := this.2 c hc
        rw [e] at this
        revert this; decide
      cases r with
      | nil => rw [joinP_one] at hc; exact hx c hc
      | cons y t =>
        rw [joinP_cons] at hc
        rcases List.mem_append.1 hc with hc | hc
        · exact hx c hc
        · rcases List.mem_cons.1 hc with rfl | hc
          · decide
          · exact ih (fun z hz => ho z (by simp only [List.mem_cons] at hz ⊢; exact .inr hz)) c hc
  rw [hl.join]
  exact key l hl.ok
theorem pu_dec {v : Int} (h0 : 0 ≤ v) (h1 : v ≤ 18446744073709551615) : puV (digC v) = v ∧ puK (digC v) = true := by
  obtain ⟨n, rfl⟩ : ∃ n : Nat, v = (n : Int) := ⟨v.toNat, by omega⟩
  have e : Lib.parseUintB 64 (digC (n : Int)) = .ok n := by
    unfold Lib.parseUintB digC
    rw [Int.toNat_natCast, if_neg (dec_ne n)]
    show Lib.parseUintM 18446744073709551615 0 (Lib.decDigits n) = .ok n
    rw [Lib.parseUintM_64]
    have := parse_val (Lib.decDigits n) 0 (dec_dig n) (by rw [valD_dec]; omega)
    rw [valD_dec] at this
    exact this
  unfold puV puK
  rw [e]
  exact ⟨rfl, rfl⟩
theorem cut_word (nm x : List UInt8) (h : ∀ c ∈ nm, c ≠ 61) : fN (nm ++ 61 :: x) = nm ∧ fV (nm ++ 61 :: x) = x ∧ fOK (nm ++ 61 :: x) = true := by
  unfold fN fV fOK
  rw [cut_at nm x 61 h]
  exact ⟨rfl, rfl, rfl⟩
theorem pairN_eq (nm : List UInt8) (v : Int) : pairN nm v = nm ++ 61 :: digC v := by simp [pairN, catL]
theorem dig_blank (v : Int) : ∀ c ∈ digC v, c ≠ 32 := dig_not v.toNat (by decide)
/-- what the words do -/
theorem set_num (c : CmdP) {v : Int} (h0 : 0 ≤ v) (h1 : v ≤ 18446744073709551615) : setC c (pairN [110, 117, 109] v) = { c with num := v } ∧ setK (pairN [110, 117, 109] v) = true := by
  obtain ⟨a, b, d⟩ := cut_word [110, 117, 109] (digC v) (by decide)
  obtain ⟨e, f⟩ := pu_dec h0 h1
  rw [pairN_eq]
  generalize [110, 117, 109] ++ 61 :: digC v = w at a b d ⊢
  exact ⟨by simp [setC, setNum, setFoot, setRq, setPath, setMode, setN, setTime, a, b, e], by simp [setK, a, b, d, f]⟩
theorem set_rq (c : CmdP) {v : Int} (h0 : 0 ≤ v) (h1 : v ≤ 18446744073709551615) : setC c (pairN [114, 101, 113, 117, 101, 115, 116] v) = { c with rq := v } ∧ setK (pairN [114, 101, 113, 117, 101, 115, 116] v) = true := by
  obtain ⟨a, b, d⟩ := cut_word [114, 101, 113, 117, 101, 115, 116] (digC v) (by decide)
  obtain ⟨e, f⟩ := pu_dec h0 h1
  rw [pairN_eq]
  generalize [114, 101, 113, 117, 101, 115, 116] ++ 61 :: digC v = w at a b d ⊢
  exact ⟨by simp [setC, setNum, setFoot, setRq, setPath, setMode, setN, setTime, a, b, e], by simp [setK, a, b, d, f]⟩
theorem set_mode (c : CmdP) {v : Int} (h : v = 1 ∨ v = 2) : setC c (pairN [109, 111, 100, 101] v) = { c with mode := v } ∧ setK (pairN [109, 111, 100, 101] v) = true := by
  obtain ⟨a, b, d⟩ := cut_word [109, 111, 100, 101] (digC v) (by decide)
  obtain ⟨e, f⟩ := pu_dec (v := v) (by omega) (by omega)
  have em : v % 4 = v := by omega
  rw [pairN_eq]
  generalize [109, 111, 100, 101] ++ 61 :: digC v = w at a b d ⊢
  exact ⟨by simp [setC, setNum, setFoot, setRq, setPath, setMode, setN, setTime, a, b, e, em], by simp [setK, a, b, d, f]⟩
theorem set_n (c : CmdP) {v : Int} (h0 : 0 ≤ v) (h1 : v ≤ 18446744073709551615) : setC c (pairN [110] v) = { c with n := v } ∧ setK (pairN [110] v) = true := by
  obtain ⟨a, b, d⟩ := cut_word [110] (digC v) (by decide)
  obtain ⟨e, f⟩ := pu_dec h0 h1
  rw [pairN_eq]
  generalize [110] ++ 61 :: digC v = w at a b d ⊢
  exact ⟨by simp [setC, setNum, setFoot, setRq, setPath, setMode, setN, setTime, a, b, e], by simp [setK, a, b, d, f]⟩
theorem set_time (c : CmdP) {v : Int} (h0 : 0 ≤ v) (h1 : v ≤ 1099511627776) : setC c (pairN [116, 105, 109, 101] v) = { c with time := v } ∧ setK (pairN [116, 105, 109, 101] v) = true := by
  obtain ⟨a, b, d⟩ := cut_word [116, 105, 109, 101] (digC v) (by decide)
  obtain ⟨e, f⟩ := pu_dec (v := v) h0 (by omega)
  have em : min v 1099511627777 = v := by omega
  rw [pairN_eq]
  generalize [116, 105, 109, 101] ++ 61 :: digC v = w at a b d ⊢
  exact ⟨by simp [setC, setNum, setFoot, setRq, setPath, setMode, setN, setTime, a, b, e, em], by simp [setK, a, b, d, f]⟩
theorem set_foot (c : CmdP) (x : List UInt8) : setC c (catL [102, 111, 111, 116, 61] x) = { c with foot := x } ∧ setK (catL [102, 111, 111, 116, 61] x) = true := by
  obtain ⟨a, b, d⟩ := cut_word [102, 111, 111, 116] x (by decide)
  have e : catL [102, 111, 111, 116, 61] x = [102, 111, 111, 116] ++ 61 :: x := rfl
  rw [e]
  generalize [102, 111, 111, 116] ++ 61 :: x = w at a b d ⊢
  exact ⟨by simp [setC, setNum, setFoot, setRq, setPath, setMode, setN, setTime, a, b], by simp [setK, a, d]⟩
theorem set_path (c : CmdP) (x : List UInt8) : setC c (catL [112, 97, 116, 104, 61] x) = { c with path := x } ∧ setK (catL [112, 97, 116, 104, 61] x) = true := by
  obtain ⟨a, b, d⟩ := cut_word [112, 97, 116, 104] x (by decide)
  have e : catL [112, 97, 116, 104, 61] x = [112, 97, 116, 104] ++ 61 :: x := rfl
  rw [e]
  generalize [112, 97, 116, 104] ++ 61 :: x = w at a b d ⊢
  exact ⟨by simp [setC, setNum, setFoot, setRq, setPath, setMode, setN, setTime, a, b], by simp [setK, a, d]⟩
theorem kind_name {k : Int} (h : 0 ≤ k ∧ k ≤ 8) : kindN (nameC k) = k ∧ ∀ c ∈ nameC k, c ≠ 32 := by
  have : k = 0 ∨ k = 1 ∨ k = 2 ∨ k = 3 ∨ k = 4 ∨ k = 5 ∨ k = 6 ∨ k = 7 ∨ k = 8 := by omega
  rcases this with rfl | rfl | rfl | rfl | rfl | rfl | rfl | rfl | rfl <;> exact ⟨by decide, by decide⟩
/-- the words behind the first -/
def tailC (c : CmdP) : List (List UInt8) := (((((if hS c.k then [pairN [110, 117, 109] c.num, catL [102, 111, 111, 116, 61] c.foot] else []) ++ if hR c.k then [pairN [114, 101, 113, 117, 101, 115, 116] c.rq] else []) ++ if hP c.k then [catL [112, 97, 116, 104, 61] c.path] else []) ++ if hM c.k then [pairN [109, 111, 100, 101] c.mode] else []) ++ if hN c.k then [pairN [110] c.n] else []) ++ (if hT c.k then [pairN [116, 105, 109, 101] c.time] else [])
theorem fields_tail (c : CmdP) : fieldsC c = nameC c.k :: tailC c := by
  simp only [fieldsC, tailC, List.cons_append, List.nil_append, List.append_assoc]
theorem pair_blank {nm : List UInt8} (h : ∀ c ∈ nm, c ≠ 32) (v : Int) : ∀ c ∈ pairN nm v, c ≠ 32 := by
  intro c hc
  rw [pairN_eq] at hc
  rcases List.mem_append.1 hc with hc | hc
  · exact h c hc
  · rcases List.mem_cons.1 hc with rfl | hc
    · decide
    · exact dig_blank v c hc
theorem words_blank {c : CmdP} (h : rightC c = true) : ∀ y ∈ nameC c.k :: tailC c, ∀ b ∈ y, b ≠ 32 := by
  obtain ⟨a1, a2, a3, a4, a5, a6, a7, a8, a9, a10, a11, a12⟩ := rightC_all h
  intro y hy
  rcases List.mem_cons.1 hy with rfl | hy
  · exact (kind_name (right_kind h)).2
  · unfold tailC at hy
    simp only [List.mem_append] at hy
    rcases hy with ((((hy | hy) | hy) | hy) | hy) | hy
    · split at hy
      · rename_i hs
        simp only [List.mem_cons, List.not_mem_nil, or_false] at hy
        rcases hy with rfl | rfl
        · exact pair_blank (by decide) _
        · have hf := a8.resolve_left (by rw [hs]; simp)
          intro b hb
          have hb' : b ∈ [102, 111, 111, 116, 61] ++ c.foot := hb
          rcases List.mem_append.1 hb' with hb | hb
          · exact (show ∀ b ∈ ([102, 111, 111, 116, 61] : List UInt8), b ≠ 32 by decide) b hb
          · exact path_blank hf b hb
      · simp at hy
    · split at hy
      · simp at hy; subst hy; exact pair_blank (by decide) _
      · simp at hy
    · split at hy
      · rename_i hs
        simp at hy; subst hy
        have hf := a9.resolve_left (by rw [hs]; simp)
        intro b hb
        have hb' : b ∈ [112, 97, 116, 104, 61] ++ c.path := hb
        rcases List.mem_append.1 hb' with hb | hb
        · exact (show ∀ b ∈ ([112, 97, 116, 104, 61] : List UInt8), b ≠ 32 by decide) b hb
        · exact path_blank hf b hb
      · simp at hy
    · split at hy
      · simp at hy; subst hy; exact pair_blank (by decide) _
      · simp at hy
    · split at hy
      · simp at hy; subst hy; exact pair_blank (by decide) _
      · simp at hy
    · split at hy
      · simp at hy; subst hy; exact pair_blank (by decide) _
      · simp at hy
theorem fold_tail {c : CmdP} (h : rightC c = true) (hn : NumOK c) : (tailC c).foldl setC (zK c.k) = c ∧ (tailC c).all setK = true := by
  obtain ⟨a1, a2, a3, a4, a5, a6, a7, a8, a9, a10, a11, a12⟩ := rightC_all h
  unfold tailC
  simp only [List.foldl_append, List.all_append, Bool.and_eq_true]
  have e1 : (if hS c.k then [pairN [110, 117, 109] c.num, catL [102, 111, 111, 116, 61] c.foot] else []).foldl setC (zK c.k) = { zK c.k with num := c.num, foot := c.foot } ∧ (if hS c.k then [pairN [110, 117, 109] c.num, catL [102, 111, 111, 116, 61] c.foot] else []).all setK = true := by
    cases hs : hS c.k with
    | true =>
      rw [if_pos rfl]
      obtain ⟨p1, p2⟩ := set_num (zK c.k) hn.num.1 hn.num.2
      obtain ⟨p3, p4⟩ := set_foot { zK c.k with num := c.num } c.foot
      exact ⟨by simp only [List.foldl_cons, List.foldl_nil, p1, p3], by simp [p2, p4]⟩
    | false =>
      obtain ⟨q1, q2⟩ := a2.resolve_left (by rw [hs]; simp)
      rw [q1, q2]; exact ⟨rfl, rfl⟩
  obtain ⟨d, hd⟩ : ∃ d : CmdP, d = { zK c.k with num := c.num, foot := c.foot } := ⟨_, rfl⟩
  rw [e1.1, ← hd]
  have e2 : (if hR c.k then [pairN [114, 101, 113, 117, 101, 115, 116] c.rq] else []).foldl setC d = { d with rq := c.rq } ∧ (if hR c.k then [pairN [114, 101, 113, 117, 101, 115, 116] c.rq] else []).all setK = true := by
    cases hs : hR c.k with
    | true =>
      rw [if_pos rfl]
      obtain ⟨p1, p2⟩ := set_rq d hn.rq.1 hn.rq.2
      exact ⟨by simp only [List.foldl_cons, List.foldl_nil, p1], by simp [p2]⟩
    | false =>
      have q1 := a3.resolve_left (by rw [hs]; simp)
      rw [q1, hd]; exact ⟨rfl, rfl⟩
  rw [e2.1]
  have e3 : (if hP c.k then [catL [112, 97, 116, 104, 61] c.path] else []).foldl setC { d with rq := c.rq } = { d with rq := c.rq, path := c.path } ∧ (if hP c.k then [catL [112, 97, 116, 104, 61] c.path] else []).all setK = true := by
    cases hs : hP c.k with
    | true =>
      rw [if_pos rfl]
      obtain ⟨p1, p2⟩ := set_path { d with rq := c.rq } c.path
      exact ⟨by simp only [List.foldl_cons, List.foldl_nil, p1], by simp [p2]⟩
    | false =>
      have q1 := a4.resolve_left (by rw [hs]; simp)
      rw [q1, hd]; exact ⟨rfl, rfl⟩
  rw [e3.1]
  have e4 : (if hM c.k then [pairN [109, 111, 100, 101] c.mode] else []).foldl setC { d with rq := c.rq, path := c.path } = { d with rq := c.rq, path := c.path, mode := c.mode } ∧ (if hM c.k then [pairN [109, 111, 100, 101] c.mode] else []).all setK = true := by
    cases hs : hM c.k with
    | true =>
      rw [if_pos rfl]
      obtain ⟨p1, p2⟩ := set_mode { d with rq := c.rq, path := c.path } (a10.resolve_left (by rw [hs]; simp))
      exact ⟨by simp only [List.foldl_cons, List.foldl_nil, p1], by simp [p2]⟩
    | false =>
      have q1 := a5.resolve_left (by rw [hs]; simp)
      rw [q1, hd]; exact ⟨rfl, rfl⟩
  rw [e4.1]
  have e5 : (if hN c.k then [pairN [110] c.n] else []).foldl setC { d with rq := c.rq, path := c.path, mode := c.mode } = { d with rq := c.rq, path := c.path, mode := c.mode, n := c.n } ∧ (if hN c.k then [pairN [110] c.n] else []).all setK = true := by
    cases hs : hN c.k with
    | true =>
      rw [if_pos rfl]
      obtain ⟨p1, p2⟩ := set_n { d with rq := c.rq, path := c.path, mode := c.mode } hn.n.1 hn.n.2
      exact ⟨by simp only [List.foldl_cons, List.foldl_nil, p1], by simp [p2]⟩
    | false =>
      have q1 := a6.resolve_left (by rw [hs]; simp)
      rw [q1, hd]; exact ⟨rfl, rfl⟩
  rw [e5.1]
  have e6 : (if hT c.k then [pairN [116, 105, 109, 101] c.time] else []).foldl setC { d with rq := c.rq, path := c.path, mode := c.mode, n := c.n } = c ∧ (if hT c.k then [pairN [116, 105, 109, 101] c.time] else []).all setK = true := by
    cases hs : hT c.k with
    | true =>
      rw [if_pos rfl]
      obtain ⟨p1, p2⟩ := set_time { d with rq := c.rq, path := c.path, mode := c.mode, n := c.n } a11 a12
      refine ⟨?_, by simp [p2]⟩
      simp only [List.foldl_cons, List.foldl_nil, p1]
      rw [hd]; rfl
    | false =>
      have q1 := a7.resolve_left (by rw [hs]; simp)
      rw [hd]
      refine ⟨?_, rfl⟩
      obtain ⟨k, num, foot, rq, path, mode, n, time⟩ := c
      simp only at q1
      subst q1; rfl
  exact ⟨e6.1, ⟨⟨⟨⟨⟨e1.2, e2.2⟩, e3.2⟩, e4.2⟩, e5.2⟩, e6.2⟩⟩
/-- what is shown is read again -/
theorem read_shown {c : CmdP} (h : rightC c = true) (hn : NumOK c) : readC (showV c) = c ∧ readE (showV c) = 0 := by
  have es : showV c = Lib.join (nameC c.k :: tailC c) [32] := by unfold showV; rw [if_pos h, fields_tail]
  have ew : wordsC (showV c) = nameC c.k :: tailC c := by unfold wordsC; rw [es]; exact split_join 32 _ _ (words_blank h)
  have er : restW (showV c) = tailC c := by unfold restW; rw [ew]; rfl
  obtain ⟨f1, f2⟩ := fold_tail h hn
  have ec : cR (showV c) = c := by
    unfold cR rdN
    rw [List.take_of_length_le (Nat.le_refl _), er, ew]
    show (tailC c).foldl setC (zK (kindN (nameC c.k))) = c
    rw [(kind_name (right_kind h)).1]
    exact f1
  have ea : allN (showV c) (restW (showV c)).length = true := by
    unfold allN
    rw [List.take_of_length_le (Nat.le_refl _), er]; exact f2
  have ek : okR (showV c) = true := by
    unfold okR
    rw [ea, ec, h]; simp
  unfold readC readE
  rw [if_pos ek, if_pos ek]
  exact ⟨ec, rfl⟩
theorem set_lens {c : CmdP} {L : Nat} (h : c.foot.length ≤ L ∧ c.path.length ≤ L) {f : List UInt8} (hf : f.length ≤ L) : (setC c f).foot.length ≤ L ∧ (setC c f).path.length ≤ L := by
  have hv : (fV f).length ≤ L := Nat.le_trans (cut_len f [61]).2 hf
  unfold setC setFoot setPath
  refine ⟨?_, ?_⟩
  · show (if fN f = [102, 111, 111, 116] then fV f else c.foot).length ≤ L
    split
    · exact hv
    · exact h.1
  · show (if fN f = [112, 97, 116, 104] then fV f else c.path).length ≤ L
    split
    · exact hv
    · exact h.2
theorem fold_lens {L : Nat} : ∀ (l : List (List UInt8)) (c : CmdP), c.foot.length ≤ L ∧ c.path.length ≤ L → (∀ f ∈ l, f.length ≤ L) → (l.foldl setC c).foot.length ≤ L ∧ (l.foldl setC c).path.length ≤ L
  | [], c, h, _ => h
  | f :: l, c, h, hl => fold_lens l (setC c f) (set_lens h (hl f (by simp))) (fun x hx => hl x (by simp [hx]))
theorem word_len (t : List UInt8) : ∀ x ∈ wordsC t, x.length ≤ t.length := fun x hx => splitK_len [32] _ _ x hx
theorem rest_len (t : List UInt8) : ∀ x ∈ restW t, x.length ≤ t.length := fun x hx => word_len t x (List.mem_of_mem_drop hx)
theorem rdN_lens (t : List UInt8) (i : Nat) : (rdN t i).foot.length ≤ t.length ∧ (rdN t i).path.length ≤ t.length :=
  fold_lens _ _ ⟨Nat.zero_le _, Nat.zero_le _⟩ (fun f hf => rest_len t f (List.mem_of_mem_take hf))
theorem rdN_succ {t : List UInt8} {i : Nat} (h : i < (restW t).length) : rdN t (i + 1) = setC (rdN t i) ((restW t).getD i []) ∧ allN t (i + 1) = (allN t i && setK ((restW t).getD i [])) := by
  have e : (restW t).take (i + 1) = (restW t).take i ++ [(restW t).getD i []] := by
    rw [List.take_add_one, List.getElem?_eq_getElem h]
    simp [List.getD, List.getElem?_eq_getElem h]
  unfold rdN allN
  rw [e]
  simp [List.foldl_append]
end Go.Proofs.YtpomloangafbkaaGreatDoor
