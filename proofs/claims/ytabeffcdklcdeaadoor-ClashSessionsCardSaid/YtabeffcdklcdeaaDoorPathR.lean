/- Paths: parents, common parts, the order. Nothing of the program stands here. -/
import Derived.Test.YtabeffcdklcdeaaDoorPathM
import Derived.Test.YtabeffcdklcdeaaDoorPathQ
namespace Go.Proofs.YtabeffcdklcdeaaDoor
set_option linter.unusedVariables false
set_option linter.unusedSimpArgs false
open Go.Lib

/-- how many parts two lists begin with alike -/
def commonN : List (List UInt8) → List (List UInt8) → Nat
  | x :: a, y :: b => if x = y then commonN a b + 1 else 0
  | _, _ => 0
theorem commonN_le : ∀ (a b : List (List UInt8)), commonN a b ≤ a.length ∧ commonN a b ≤ b.length ∧ a.take (commonN a b) = b.take (commonN a b)
  | [], b => by simp [commonN]
  | _ :: _, [] => by simp [commonN]
  | x :: a, y :: b => by
    obtain ⟨h1, h2, h3⟩ := commonN_le a b
    unfold commonN
    split
    · rename_i h; subst h
      simp only [List.length_cons, List.take_succ_cons, h3, and_true]; omega
    · simp
theorem commonN_step : ∀ (a b : List (List UInt8)) (i : Nat), i ≤ commonN a b → i < a.length → i < b.length → (a.getD i [] = b.getD i [] ↔ i < commonN a b)
  | [], b, i, _, h, _ => by simp at h
  | _ :: _, [], i, _, _, h => by simp at h
  | x :: a, y :: b, i, h1, h2, h3 => by
    unfold commonN at h1 ⊢
    cases i with
    | zero =>
      simp only [List.getD_cons_zero]
      split
      · rename_i h; simp [h]
      · rename_i h; simp [h]
    | succ i =>
      split at h1
      · rename_i h
        rw [if_pos h]
        simp only [List.getD_cons_succ]
        rw [commonN_step a b i (by omega) (by simpa using h2) (by simpa using h3)]
        omega
      · omega

/-- the last slash -/
theorem data_get! (s : List UInt8) (i : Nat) (h : i < s.length) : (strB s).data[i]! = s.getD i 0 := by
  simp [strB, List.getD_eq_getElem?_getD, List.getElem?_eq_getElem h, h]
theorem lastSlash_cases (s : List UInt8) : (lastSlash s = -1 ∧ (47 : UInt8) ∉ s) ∨ ∃ (a b : List UInt8), s = a ++ 47 :: b ∧ (47 : UInt8) ∉ b ∧ lastSlash s = a.length := by
  have h := Lib.lastIdx_spec (strB s) 47 (strB s).size
  unfold lastSlash Lib.lastIndexByte
  rw [strB_size] at h ⊢
  have tn : ∀ u : UInt8, ((u.toNat : Int) = 47) ↔ u = 47 := fun u => by
    constructor
    · intro h
      apply UInt8.toNat_inj.1
      have : (47 : UInt8).toNat = 47 := rfl
      omega
    · rintro rfl; rfl
  rcases h with ⟨h1, h2⟩ | ⟨i, h1, h2, h3, h4⟩
  · left
    refine ⟨h1, fun hm => ?_⟩
    obtain ⟨j, hj, e⟩ := List.getElem_of_mem hm
    apply h2 j hj
    rw [data_get! s j hj, tn]
    simp [List.getD_eq_getElem?_getD, List.getElem?_eq_getElem hj, e]
  · right
    rw [data_get! s i h1, tn] at h3
    have e : s = s.take i ++ 47 :: s.drop (i + 1) := by
      have : s.drop i = s.getD i 0 :: s.drop (i + 1) := by
        rw [List.drop_eq_getElem_cons h1]
        simp [List.getD_eq_getElem?_getD, List.getElem?_eq_getElem h1]
      rw [← h3, ← this, List.take_append_drop]
    refine ⟨s.take i, s.drop (i + 1), e, fun hm => ?_, by rw [h2, List.length_take]; omega⟩
    obtain ⟨j, hj, e2⟩ := List.getElem_of_mem hm
    have hj' : i + 1 + j < s.length := by simp at hj; omega
    apply h4 (i + 1 + j) (by omega) hj'
    rw [data_get! s _ hj', tn]
    rw [List.getElem_drop] at e2
    simp [List.getD_eq_getElem?_getD, List.getElem?_eq_getElem hj', e2]
theorem parent_of {p : List UInt8} {l : List (List UInt8)} (h : IsPath p l) : (0 ≤ lastSlash p ↔ 1 < l.length) ∧ (1 < l.length → p.take (lastSlash p).toNat = joinP (l.take (l.length - 1))) := by
  have hs := h.segs
  rcases lastSlash_cases p with ⟨h1, h2⟩ | ⟨a, b, h1, h2, h3⟩
  · rw [segs_plain h2] at hs
    rw [← hs]
    simp [h1]
  · have e : segs p = segs a ++ [b] := by rw [h1, segs_app, segs_plain h2]
    rw [hs] at e
    have hn : 0 < (segs a).length := List.length_pos_iff.2 (segs_ne a)
    have hl : l.length = (segs a).length + 1 := by rw [e]; simp
    refine ⟨⟨fun _ => by omega, fun _ => by omega⟩, fun _ => ?_⟩
    rw [h3, hl, Nat.add_sub_cancel, e]
    rw [List.take_left', joinP_segs]
    · rw [h1]
      simp
    · rfl
theorem joinP_take_le' {l : List (List UInt8)} {i : Nat} : (joinP (l.take i)).length ≤ (joinP l).length := by
  by_cases h1 : l.drop i = []
  · have : l.take i = l := by
      have := List.take_append_drop i l
      rw [h1, List.append_nil] at this; exact this
    rw [this]; omega
  · by_cases h2 : l.take i = []
    · rw [h2, joinP_nil]; simp
    · conv => rhs; rw [← List.take_append_drop i l, joinP_append h2 h1]
      simp
theorem IsPath.take {p : List UInt8} {l : List (List UInt8)} (h : IsPath p l) {k : Nat} (hk : 0 < k) : IsPath (joinP (l.take k)) (l.take k) := by
  refine ⟨fun e => ?_, fun x hx => h.ok x (List.mem_of_mem_take hx), ?_, ?_, rfl⟩
  · have h1 : (l.take k).length = 0 := by rw [e]; rfl
    have h2 := List.length_pos_iff.2 h.ne
    rw [List.length_take] at h1
    omega
  · have := h.few; rw [List.length_take]; omega
  · have := joinP_take_le' (l := l) (i := k)
    have h1 := h.short
    rw [h.join] at h1
    omega

/-- the order of texts -/
theorem less_iff : ∀ (x y : List UInt8), Op.bytesLess x y = decide (compareBytes x y = -1) ∧ (compareBytes x y = 0 ↔ x = y)
  | [], [] => by simp [Op.bytesLess, compareBytes]
  | [], y :: b => by simp [Op.bytesLess, compareBytes]
  | x :: a, [] => by simp [Op.bytesLess, compareBytes]
  | x :: a, y :: b => by
    obtain ⟨h1, h2⟩ := less_iff a b
    unfold Op.bytesLess compareBytes
    by_cases hxy : x < y
    · have hne : x ≠ y := by rintro rfl; exact absurd hxy (UInt8.lt_irrefl _)
      simp [hxy, hne]
    · by_cases hyx : y < x
      · have hne : x ≠ y := by rintro rfl; exact absurd hyx (UInt8.lt_irrefl _)
        simp [hxy, hyx, hne]
      · have he : x = y := by
          apply UInt8.toNat_inj.1
          have a1 := UInt8.not_lt.1 hxy
          have a2 := UInt8.not_lt.1 hyx
          rw [UInt8.le_iff_toNat_le] at a1 a2
          omega
        subst he
        simp [hxy, h1, h2]
theorem cb_range (x y : List UInt8) : compareBytes x y = -1 ∨ compareBytes x y = 0 ∨ compareBytes x y = 1 := by
  have := cmp_range x y
  omega
theorem cb_anti : ∀ (x y : List UInt8), compareBytes x y = -compareBytes y x
  | [], [] => by simp [compareBytes]
  | [], y :: b => by simp [compareBytes]
  | x :: a, [] => by simp [compareBytes]
  | x :: a, y :: b => by
    unfold compareBytes
    by_cases hxy : x < y
    · have hyx : ¬ y < x := fun h => absurd (UInt8.lt_trans hxy h) (UInt8.lt_irrefl _)
      simp [hxy, hyx]
    · by_cases hyx : y < x
      · simp [hxy, hyx]
      · simp only [hxy, hyx, if_false]
        exact cb_anti a b
theorem cb_trans : ∀ (x y z : List UInt8), compareBytes x y ≤ 0 → compareBytes y z ≤ 0 → compareBytes x z ≤ 0
  | [], _, [] => by simp [compareBytes]
  | [], _, _ :: _ => by simp [compareBytes]
  | x :: a, [], z => by simp [compareBytes]
  | x :: a, y :: b, [] => by intro _ h; simp [compareBytes] at h
  | x :: a, y :: b, z :: c => by
    unfold compareBytes
    intro h1 h2
    by_cases hxz : x < z
    · simp [hxz]
    · simp only [hxz, if_false]
      by_cases hxy : x < y
      · by_cases hyz : y < z
        · exact absurd (UInt8.lt_trans hxy hyz) hxz
        · simp only [hyz, if_false] at h2
          by_cases hzy : z < y
          · simp [hzy] at h2
          · have he : y = z := by
              apply UInt8.toNat_inj.1
              have a1 := UInt8.not_lt.1 hyz
              have a2 := UInt8.not_lt.1 hzy
              rw [UInt8.le_iff_toNat_le] at a1 a2
              omega
            subst he
            exact absurd hxy hxz
      · simp only [hxy, if_false] at h1
        by_cases hyx : y < x
        · simp [hyx] at h1
        · simp only [hyx, if_false] at h1
          have he : x = y := by
            apply UInt8.toNat_inj.1
            have a1 := UInt8.not_lt.1 hxy
            have a2 := UInt8.not_lt.1 hyx
            rw [UInt8.le_iff_toNat_le] at a1 a2
            omega
          subst he
          simp only [hxz, if_false] at h2
          by_cases hzx : z < x
          · simp [hzx] at h2
          · simp only [hzx, if_false] at h2 ⊢
            exact cb_trans a b c h1 h2
def cmpS (x y : List UInt8) : Int := if Op.bytesLess x y then -1 else if !(Op.bytesLess x y || x == y) then 1 else 0
theorem cmpS_eq (x y : List UInt8) : cmpS x y = compareBytes x y := by
  obtain ⟨h1, h2⟩ := less_iff x y
  unfold cmpS
  rw [h1]
  rcases cb_range x y with h | h | h
  · simp [h]
  · have := h2.1 h
    subst this
    simp [h]
  · have hne : x ≠ y := fun e => by rw [h2.2 e] at h; cases h
    simp [h, hne]
def cmpL : List (List UInt8) → List (List UInt8) → Int
  | [], [] => 0
  | [], _ :: _ => -1
  | _ :: _, [] => 1
  | x :: a, y :: b => if cmpS x y ≠ 0 then cmpS x y else cmpL a b
theorem cmpL_range : ∀ (a b : List (List UInt8)), -1 ≤ cmpL a b ∧ cmpL a b ≤ 1
  | [], [] => by simp [cmpL]
  | [], _ :: _ => by simp [cmpL]
  | _ :: _, [] => by simp [cmpL]
  | x :: a, y :: b => by
    unfold cmpL
    rw [cmpS_eq]
    have := cmp_range x y
    split
    · exact this
    · exact cmpL_range a b
theorem cmpL_anti : ∀ (a b : List (List UInt8)), cmpL a b = -cmpL b a
  | [], [] => by simp [cmpL]
  | [], _ :: _ => by simp [cmpL]
  | _ :: _, [] => by simp [cmpL]
  | x :: a, y :: b => by
    unfold cmpL
    rw [cmpS_eq, cmpS_eq, cb_anti y x]
    by_cases h : compareBytes x y = 0
    · simp only [h, ne_eq, not_true, if_false, Int.neg_zero]
      exact cmpL_anti a b
    · have h' : ¬ -compareBytes x y = 0 := by omega
      simp [h, h']
theorem cmpL_zero : ∀ (a b : List (List UInt8)), cmpL a b = 0 ↔ a = b
  | [], [] => by simp [cmpL]
  | [], _ :: _ => by simp [cmpL]
  | _ :: _, [] => by simp [cmpL]
  | x :: a, y :: b => by
    unfold cmpL
    rw [cmpS_eq]
    by_cases h : compareBytes x y = 0
    · have := (less_iff x y).2.1 h
      subst this
      simp [h, cmpL_zero a b]
    · have : x ≠ y := fun e => h ((less_iff x y).2.2 e)
      simp [h, this]
theorem cmpL_trans : ∀ (a b c : List (List UInt8)), cmpL a b ≤ 0 → cmpL b c ≤ 0 → cmpL a c ≤ 0
  | [], _, [] => by simp [cmpL]
  | [], _, _ :: _ => by simp [cmpL]
  | x :: a, [], z => by simp [cmpL]
  | x :: a, y :: b, [] => by intro _ h; simp [cmpL] at h
  | x :: a, y :: b, z :: c => by
    unfold cmpL
    rw [cmpS_eq, cmpS_eq, cmpS_eq]
    intro h1 h2
    have t := cb_trans x y z
    by_cases hxy : compareBytes x y = 0
    · have := (less_iff x y).2.1 hxy
      subst this
      simp only [hxy, ne_eq, not_true, if_false] at h1
      by_cases hxz : compareBytes x z = 0
      · simp only [hxz, ne_eq, not_true, if_false] at h2 ⊢
        exact cmpL_trans a b c h1 h2
      · simp only [ne_eq, hxz, not_false_eq_true, if_true] at h2 ⊢
        exact h2
    · simp only [ne_eq, hxy, not_false_eq_true, if_true] at h1
      have h2' : compareBytes y z ≤ 0 := by
        by_cases hyz : compareBytes y z = 0
        · omega
        · simp only [ne_eq, hyz, not_false_eq_true, if_true] at h2; exact h2
      have h3 := t h1 h2'
      by_cases hxz : compareBytes x z = 0
      · -- x = z: then y lies between
        have := (less_iff x z).2.1 hxz
        subst this
        have := cb_anti x y
        omega
      · simp only [ne_eq, hxz, not_false_eq_true, if_true]; exact h3
theorem cmpL_prefix {a b : List (List UInt8)} (h : a <+: b) : cmpL a b ≤ 0 := by
  obtain ⟨t, rfl⟩ := h
  induction a with
  | nil => cases t <;> simp [cmpL]
  | cons x a ih =>
    rw [List.cons_append]
    unfold cmpL
    rw [cmpS_eq, (less_iff x x).2.2 rfl]
    simpa using ih
/-- all below a path stand together -/
theorem cmpL_between : ∀ (a b c : List (List UInt8)), a <+: c → cmpL a b ≤ 0 → cmpL b c ≤ 0 → a <+: b
  | [], b, c, _, _, _ => List.nil_prefix
  | x :: a, [], c, _, h, _ => by simp [cmpL] at h
  | x :: a, y :: b, [], h, _, _ => by
    obtain ⟨t, ht⟩ := h
    simp at ht
  | x :: a, y :: b, z :: c, h, h1, h2 => by
    have hxz : x = z := by
      obtain ⟨t, ht⟩ := h
      simp only [List.cons_append, List.cons.injEq] at ht
      exact ht.1
    have hac : a <+: c := by
      obtain ⟨t, ht⟩ := h
      simp only [List.cons_append, List.cons.injEq] at ht
      exact ⟨t, ht.2⟩
    subst hxz
    unfold cmpL at h1 h2
    rw [cmpS_eq] at h1 h2
    have an := cb_anti x y
    by_cases hxy : compareBytes x y = 0
    · have := (less_iff x y).2.1 hxy
      subst this
      simp only [hxy, ne_eq, not_true, if_false] at h1 h2
      have := cmpL_between a b c hac h1 h2
      obtain ⟨t, ht⟩ := this
      exact ⟨t, by rw [← ht]; rfl⟩
    · have hyx : ¬ compareBytes y x = 0 := by omega
      simp only [ne_eq, hxy, hyx, not_false_eq_true, if_true] at h1 h2
      omega
end Go.Proofs.YtabeffcdklcdeaaDoor
