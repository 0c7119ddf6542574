/- Structs built, boxes made and written: a real world does what the reading by content says. -/
import Derived.Test.YtnhfjdbnkpbbkabLaxK
namespace Go.Proofs.Ytnhfjdbnkpbbkab
set_option linter.unusedVariables false
set_option linter.unusedSimpArgs false
open Go.RowKit

/-- cells by content, and real cells -/
def RL (P : Program) (st : St) (G : Gh) (w : World) (cs : List AV) (us : List Value) : Prop :=
  us.length = cs.length ∧ ∀ (i : Nat) c, cs[i]? = some c → c.one = true ∧ ∃ u, us[i]? = some u ∧ Rep1 P st G w c u

section
variable {P : Program} {n : Nat} {w0 : World} {own : OwnP} {st st' : St} {G G' : Gh} {a : Act} {w w' : World} {o : Oper}

theorem RL.get {cs : List AV} {us : List Value} (h : RL P st G w cs us) {i : Nat} {c : AV} {u : Value} (hc : cs[i]? = some c) (hu : us[i]? = some u) : c.one = true ∧ Rep1 P st G w c u := by
  obtain ⟨h1, u', h2, h3⟩ := h.2 i c hc
  rw [hu] at h2; cases h2
  exact ⟨h1, h3⟩
theorem Rep.rl {v : AV} {r : Value} (h : Rep P st G w v r) (h1 : allOne v.cells = true) : RL P st G w v.cells r.cells.toList ∧ ∀ u ∈ r.cells.toList, u.oneCell' = true := by
  obtain ⟨us, h2, h3, h4, h5⟩ := h.cells h1
  rw [h2]
  exact ⟨⟨h3, h5⟩, h4⟩

theorem splice_get {α : Type} {l vs : List α} {off i : Nat} (h : off + vs.length ≤ l.length) : (l.take off ++ vs ++ l.drop (off + vs.length))[i]? = if off ≤ i ∧ i < off + vs.length then vs[i - off]? else l[i]? := by
  have t1 : (l.take off).length = off := by simp; omega
  rw [List.append_assoc]
  by_cases hi : i < off
  · rw [List.getElem?_append_left (by omega), List.getElem?_take, if_pos hi, if_neg (by omega)]
  · rw [List.getElem?_append_right (by omega), t1]
    by_cases hj : i - off < vs.length
    · rw [List.getElem?_append_left hj, if_pos (by omega)]
    · rw [List.getElem?_append_right (by omega), List.getElem?_drop, if_neg (by omega)]
      congr 1
      omega
theorem set_foldl_get : ∀ (vs : List Value) (off k i : Nat) (cs : Array Value), off + k + vs.length ≤ cs.size →
    ((vs.zipIdx k).foldl (fun (cs : Array Value) (x : Value × Nat) => cs.setIfInBounds (off + x.2) x.1) cs)[i]? = if off + k ≤ i ∧ i < off + k + vs.length then vs[i - (off + k)]? else cs[i]?
  | [], off, k, i, cs, h => by simp; intro _ _; omega
  | v :: vs, off, k, i, cs, h => by
    simp only [List.length_cons] at h ⊢
    rw [List.zipIdx_cons, List.foldl_cons, set_foldl_get vs off (k + 1) i _ (by simp; omega)]
    by_cases h1 : i = off + k
    · subst h1
      rw [if_neg (by omega), if_pos (by omega), Nat.sub_self, List.getElem?_cons_zero, Array.getElem?_setIfInBounds_self_of_lt (by omega)]
    · by_cases h2 : off + k + 1 ≤ i ∧ i < off + k + 1 + vs.length
      · rw [if_pos (by omega), if_pos (by omega)]
        have : i - (off + k) = (i - (off + (k + 1))) + 1 := by omega
        rw [this]
        simp
      · rw [if_neg (by omega), if_neg (by omega)]
        rw [Array.getElem?_setIfInBounds_ne (by omega)]
theorem set_foldl (vs : List Value) (off : Nat) (cs : Array Value) (h : off + vs.length ≤ cs.size) :
    ((vs.zipIdx 0).foldl (fun (cs : Array Value) (x : Value × Nat) => cs.setIfInBounds (off + x.2) x.1) cs).toList = cs.toList.take off ++ vs ++ cs.toList.drop (off + vs.length) := by
  apply List.ext_getElem?
  intro i
  rw [splice_get (by simpa using h), Array.getElem?_toList, set_foldl_get vs off 0 i cs (by omega)]
  simp

theorem RL.splice {cs vs : List AV} {us ws : List Value} (h : RL P st G w cs us) (h' : RL P st G w vs ws) {off : Nat} (hl : off + vs.length ≤ cs.length) : RL P st G w (spliceL cs off vs) (us.take off ++ ws ++ us.drop (off + ws.length)) := by
  have e1 := h.1
  have e2 := h'.1
  refine ⟨by simp [spliceL, e1, e2], fun i c hc => ?_⟩
  unfold spliceL at hc
  rw [splice_get hl] at hc
  rw [splice_get (by omega), e2]
  by_cases hi : off ≤ i ∧ i < off + vs.length
  · rw [if_pos hi] at hc ⊢
    exact h'.2 _ c hc
  · rw [if_neg hi] at hc ⊢
    exact h.2 _ c hc

theorem fill_run {place place' : Nat → Option (Nat × Nat)} (hpl : ∀ i, place i = place' i) : ∀ (parts : List (Nat × AV)) (rparts : List (Nat × Value)) (cs cs' : List AV) (us : Array Value), fillAV place cs parts = some cs' → RL P st G w cs us.toList →
    parts.length = rparts.length → (∀ (i : Nat) q r, parts[i]? = some q → rparts[i]? = some r → q.1 = r.1 ∧ Rep P st G w q.2 r.2 ∧ allOne q.2.cells = true) →
    ∃ vs : Array Value, Instr.fill place' us rparts = some vs ∧ RL P st G w cs' vs.toList
  | [], [], cs, cs', us, h, hr, _, _ => by simp [fillAV] at h; subst h; exact ⟨us, rfl, hr⟩
  | (i, v) :: parts, (i', r) :: rparts, cs, cs', us, h, hr, hl, hp => by
    obtain ⟨rfl, h2, h3⟩ := hp 0 _ _ rfl rfl
    simp only at h2 h3
    simp only [fillAV] at h
    split at h
    · cases h
    · rename_i off size hpi
      split at h
      · rename_i hc
        obtain ⟨rl, hone⟩ := h2.rl h3
        have hrs : r.cells.size = v.cells.length := by rw [← Array.length_toList]; exact rl.1
        have hus : us.size = cs.length := by rw [← Array.length_toList]; exact hr.1
        have hfold := set_foldl r.cells.toList off us (by simp; omega)
        have hs := hr.splice rl hc.2
        obtain ⟨vs, h4, h5⟩ := fill_run hpl parts rparts _ cs' (r.cells.zipIdx.foldl (fun (cs : Array Value) (x : Value × Nat) => cs.setIfInBounds (off + x.2) x.1) us) h
          (by
            have : (r.cells.zipIdx.foldl (fun (cs : Array Value) (x : Value × Nat) => cs.setIfInBounds (off + x.2) x.1) us).toList = us.toList.take off ++ r.cells.toList ++ us.toList.drop (off + r.cells.toList.length) := by
              rw [← Array.foldl_toList, Array.toList_zipIdx]
              simpa using hfold
            rw [this]
            exact hs) (by simpa using hl) (fun i q r h6 h7 => hp (i + 1) q r (by simpa using h6) (by simpa using h7))
        refine ⟨vs, ?_, h5⟩
        unfold Instr.fill
        rw [← hpl, hpi]
        simp only
        have : ¬ ((decide (r.cells.size ≠ size) || decide (off + r.cells.size > us.size)) = true) := by
          simp only [Bool.or_eq_true, decide_eq_true_eq, not_or]
          omega
        rw [if_neg this]
        exact h4
      · cases h
  | [], _ :: _, _, _, _, _, _, hl, _ => by simp at hl
  | _ :: _, [], _, _, _, _, _, hl, _ => by simp at hl
end
end Go.Proofs.Ytnhfjdbnkpbbkab
