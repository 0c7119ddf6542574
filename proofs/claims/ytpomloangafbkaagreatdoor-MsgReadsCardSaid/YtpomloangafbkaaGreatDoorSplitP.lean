/- A text that was joined is split again; plain laws. -/
import Derived.Test.YtpomloangafbkaaGreatDoorDigP
import Derived.Test.YtpomloangafbkaaGreatDoorStrs
namespace Go.Proofs.YtpomloangafbkaaGreatDoor
set_option linter.unusedVariables false
set_option linter.unusedSimpArgs false
open Go.RowKit

theorem index_none : ∀ (l : List UInt8) (b : UInt8), (∀ c ∈ l, c ≠ b) → Lib.index l [b] = -1
  | [], b, _ => by simp [Lib.index]
  | c :: l, b, h => by
    have hc : c ≠ b := h c (by simp)
    have ih := index_none l b (fun x hx => h x (by simp [hx]))
    unfold Lib.index
    have hp : ([b] : List UInt8).isPrefixOf (c :: l) = false := by
      simp [List.isPrefixOf]; exact fun e => hc e.symm
    rw [hp, ih]
    simp
theorem join_two (x y : List UInt8) (r : List (List UInt8)) (b : UInt8) : Lib.join (x :: y :: r) [b] = x ++ b :: Lib.join (y :: r) [b] := by
  rw [Lib.join_cons, Lib.join_cons]
  simp [Lib.joinTail]
theorem count_none {l : List UInt8} {b : UInt8} (h : ∀ c ∈ l, c ≠ b) : l.count b = 0 := List.count_eq_zero.2 fun hm => h b hm rfl
theorem join_count (b : UInt8) : ∀ (x : List UInt8) (r : List (List UInt8)), (∀ y ∈ x :: r, ∀ c ∈ y, c ≠ b) → (Lib.join (x :: r) [b]).count b = r.length
  | x, [], h => by rw [Lib.join_one]; exact count_none (h x (by simp))
  | x, y :: r, h => by
    rw [join_two, List.count_append, count_none (h x (by simp)), List.count_cons_self, join_count b y r fun z hz => h z (by simp [hz])]
    simp
theorem splitK_join (b : UInt8) : ∀ (r : List (List UInt8)) (x : List UInt8) (k : Nat), r.length ≤ k → (∀ y ∈ x :: r, ∀ c ∈ y, c ≠ b) → Lib.splitK [b] 0 k (Lib.join (x :: r) [b]) = x :: r
  | [], x, k, _, h => by
    rw [Lib.join_one]
    cases k with
    | zero => rfl
    | succ k => unfold Lib.splitK; rw [index_none x b (h x (by simp))]; rfl
  | y :: r, x, k, hk, h => by
    cases k with
    | zero => simp at hk
    | succ k =>
      rw [join_two]
      unfold Lib.splitK
      rw [index_at x _ b (h x (by simp))]
      have hn : ((x.length : Int) == -1) = false := by simp
      rw [hn]
      have e1 : ((x.length : Int)).toNat = x.length := by omega
      rw [e1]
      have e2 : (x ++ b :: Lib.join (y :: r) [b]).drop (x.length + [b].length) = Lib.join (y :: r) [b] := by
        rw [← List.drop_drop]; simp
      rw [e2, splitK_join b r y k (by simpa using hk) fun z hz => h z (by simp [hz])]
      simp
/-- what was joined is split again -/
theorem split_join (b : UInt8) (x : List UInt8) (r : List (List UInt8)) (h : ∀ y ∈ x :: r, ∀ c ∈ y, c ≠ b) : Lib.split (Lib.join (x :: r) [b]) [b] = x :: r := by
  unfold Lib.split
  rw [Lib.count_one, join_count b x r h]
  exact splitK_join b r x _ (Nat.le_refl _) h
theorem itoa_dec {n : Int} (h : 0 ≤ n) : Lib.itoa n = Lib.decDigits n.toNat := by unfold Lib.itoa; rw [if_neg (by omega)]
theorem dig_not (v : Nat) {b : UInt8} (h : b.toNat < 48) : ∀ c ∈ Lib.decDigits v, c ≠ b := by
  intro c hc e
  have := dec_dig _ c hc
  subst e
  exact absurd this.1 (by omega)
theorem dig_not' (v : Nat) {b : UInt8} (h : 57 < b.toNat) : ∀ c ∈ Lib.decDigits v, c ≠ b := by
  intro c hc e
  have := dec_dig _ c hc
  subst e
  exact absurd this.2 (by omega)
theorem atoi_itoa {n : Int} (h0 : 0 ≤ n) (h1 : n ≤ 9223372036854775807) : atoiV (Lib.itoa n) = n := by
  rw [itoa_dec h0, atoi_dec (by omega)]; omega
theorem join_lens (b : UInt8) (n : Nat) : ∀ (x : List UInt8) (r : List (List UInt8)), (∀ y ∈ x :: r, y.length ≤ n) → (Lib.join (x :: r) [b]).length ≤ (n + 1) * (r.length + 1)
  | x, [], h => by rw [Lib.join_one]; have := h x (by simp); simp; omega
  | x, y :: r, h => by
    have h1 := h x (by simp)
    have h2 := join_lens b n y r fun z hz => h z (by simp [hz])
    rw [join_two]
    simp only [List.length_append, List.length_cons] at h2 ⊢
    rw [Nat.mul_add (n + 1) (r.length + 1) 1]
    omega
end Go.Proofs.YtpomloangafbkaaGreatDoor
