/- Paths: the plain functions. Nothing of the program stands here. -/
import Derived.Lib.Split
import Derived.Lib.Join
namespace Go.Proofs.YtddilmocngedjaaDoor
set_option linter.unusedVariables false
set_option linter.unusedSimpArgs false
open Go.Lib

/-- may a letter stand in a part? -/
def okLetter (b : UInt8) : Bool := (decide (97 ≤ b.toNat) && decide (b.toNat ≤ 122)) || (decide (48 ≤ b.toNat) && decide (b.toNat ≤ 57)) || decide (b.toNat = 45) || decide (b.toNat = 95)
def okPart (l : List UInt8) : Bool := !l.isEmpty && l.all okLetter
/-- a text's parts between slashes -/
def segs : List UInt8 → List (List UInt8)
  | [] => [[]]
  | x :: r => if x = 47 then [] :: segs r else (x :: (segs r).headD []) :: (segs r).tail
/-- a part is taken -/
def stepP (out : List (List UInt8)) (p : List UInt8) : Option (List (List UInt8)) :=
  if p = [] ∨ p = [46] then some out
  else if p = [46, 46] then (if out = [] then none else some out.dropLast)
  else if okPart p then some (out ++ [p]) else none
def walkP : List (List UInt8) → List (List UInt8) → Option (List (List UInt8))
  | out, [] => some out
  | out, p :: r => match stepP out p with
    | some o => walkP o r
    | none => none
/-- the signs of a path's parts, with slashes between -/
def joinP (l : List (List UInt8)) : List UInt8 := join l [47]
def partsP (s : List UInt8) : Option (List (List UInt8)) := walkP [] (segs s)
def normE (s : List UInt8) : Int :=
  match partsP s with
  | none => 30
  | some l => if l = [] then 13 else if 8 < l.length then 31 else if 64 < (joinP l).length then 11 else 0
def normV (s : List UInt8) : List UInt8 := if normE s = 0 then joinP ((partsP s).getD []) else []
def rightP (s : List UInt8) : Bool := decide (normE s = 0) && decide (s = normV s)

theorem segs_slash (r : List UInt8) : segs (47 :: r) = [] :: segs r := rfl
theorem segs_other {x : UInt8} {r : List UInt8} (h : x ≠ 47) : segs (x :: r) = (x :: (segs r).headD []) :: (segs r).tail := by
  conv => lhs; unfold segs
  rw [if_neg h]
theorem segs_ne (s : List UInt8) : segs s ≠ [] := by
  cases s with
  | nil => simp [segs]
  | cons x r => unfold segs; split <;> simp
theorem segs_len (s : List UInt8) : (segs s).length ≤ s.length + 1 := by
  induction s with
  | nil => simp [segs]
  | cons x r ih =>
    unfold segs
    split
    · simp; omega
    · have := segs_ne r
      have h : 0 < (segs r).length := List.length_pos_iff.2 this
      simp; omega
theorem segs_none {s : List UInt8} (h : indexByte s 47 = -1) : segs s = [s] := by
  induction s with
  | nil => rfl
  | cons x r ih =>
    unfold indexByte at h
    split at h
    · omega
    · rename_i hx
      split at h
      · rename_i h2
        have h3 := ih (by simpa using h2)
        unfold segs
        rw [if_neg (by simpa using hx), h3]; rfl
      · rename_i h2
        have := indexByte_ge r 47
        have : indexByte r 47 ≠ -1 := by simpa using h2
        omega
theorem segs_hit {s : List UInt8} {i : Nat} (h : indexByte s 47 = (i : Int)) : segs s = s.take i :: segs (s.drop (i + 1)) := by
  induction s generalizing i with
  | nil => simp [indexByte] at h
  | cons x r ih =>
    unfold indexByte at h
    split at h
    · rename_i hx
      obtain rfl : i = 0 := by omega
      have : x = 47 := by simpa using hx
      subst this
      rw [segs_slash]; simp
    · rename_i hx
      split at h
      · omega
      · rename_i h2
        have h2' : indexByte r 47 ≠ -1 := by simpa using h2
        have := indexByte_ge r 47
        obtain ⟨j, rfl⟩ : ∃ j, i = j + 1 := ⟨i - 1, by omega⟩
        have h3 := ih (i := j) (by omega)
        rw [segs_other (by simpa using hx), h3]
        simp
theorem idxByte_lt {s : List UInt8} {c : UInt8} {i : Nat} (h : indexByte s c = (i : Int)) : i < s.length := by
  induction s generalizing i with
  | nil => simp [indexByte] at h
  | cons x r ih =>
    unfold indexByte at h
    split at h
    · simp; omega
    · split at h
      · omega
      · rename_i h2
        have h2' : indexByte r c ≠ -1 := by simpa using h2
        have h3 := indexByte_ge r c
        obtain ⟨j, rfl⟩ : ∃ j, i = j + 1 := ⟨i - 1, by omega⟩
        have := ih (i := j) (by omega)
        simp; omega
theorem segs_elem_len {s p : List UInt8} (h : p ∈ segs s) : p.length ≤ s.length := by
  induction s generalizing p with
  | nil => simp [segs] at h; simp [h]
  | cons x r ih =>
    unfold segs at h
    split at h
    · rcases List.mem_cons.1 h with rfl | h
      · simp
      · have := ih h; simp; omega
    · rcases List.mem_cons.1 h with rfl | h
      · have hne := segs_ne r
        cases hs : segs r with
        | nil => exact absurd hs hne
        | cons a t =>
          have := ih (p := a) (by rw [hs]; simp)
          simp; omega
      · have := ih (List.mem_of_mem_tail h); simp; omega
theorem stepP_len {out o : List (List UInt8)} {p : List UInt8} (h : stepP out p = some o) : o.length ≤ out.length + 1 := by
  unfold stepP at h
  split at h
  · cases h; omega
  · split at h
    · split at h
      · cases h
      · cases h; simp; omega
    · split at h
      · cases h; simp
      · cases h
theorem walkP_append (out : List (List UInt8)) (a b : List (List UInt8)) : walkP out (a ++ b) = (walkP out a).bind fun o => walkP o b := by
  induction a generalizing out with
  | nil => rfl
  | cons p r ih =>
    simp only [List.cons_append, walkP]
    cases stepP out p with
    | none => rfl
    | some o => exact ih o
theorem walkP_snoc (out : List (List UInt8)) (a : List (List UInt8)) (p : List UInt8) : walkP out (a ++ [p]) = (walkP out a).bind fun o => stepP o p := by
  rw [walkP_append]
  cases walkP out a with
  | none => rfl
  | some o =>
    simp only [Option.bind_some, walkP]
    cases stepP o p <;> rfl
theorem walkP_len {out o : List (List UInt8)} : ∀ {a : List (List UInt8)}, walkP out a = some o → o.length ≤ out.length + a.length
  | [], h => by cases h; simp
  | p :: r, h => by
    simp only [walkP] at h
    split at h
    · rename_i o' h'
      have h1 := stepP_len h'
      have h2 := walkP_len h
      simp; omega
    · cases h
end Go.Proofs.YtddilmocngedjaaDoor
