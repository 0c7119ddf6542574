/- A function's arguments by content, one by one. -/
import Derived.Test.YtddilmocngedjaaLaxByt
namespace Go.Proofs.Ytddilmocngedjaa
set_option linter.unusedVariables false
set_option linter.unusedSimpArgs false
open Go.RowKit

theorem mixedOrders : Try.prog.follows .mixedOrders = true := by kernel_rfl
theorem one_arg {us : Array Value} {v : AV} {w : World} {S : Nat → Nat → Prop} (hs : us.size = 1) (h : ∀ (i : Nat) x, [v][i]? = some x → ∃ u, us[i]? = some u ∧ RepV w S x u) : ∃ u, us = #[u] ∧ RepV w S v u := by
  obtain ⟨u, h1, h2⟩ := h 0 v rfl
  refine ⟨u, ?_, h2⟩
  apply Array.ext
  · simp [hs]
  · intro i hi hi'
    have : i = 0 := by omega
    subst this
    rw [Array.getElem?_eq_getElem hi] at h1
    cases h1; rfl
theorem two_args {us : Array Value} {v v' : AV} {w : World} {S : Nat → Nat → Prop} (hs : us.size = 2) (h : ∀ (i : Nat) x, [v, v'][i]? = some x → ∃ u, us[i]? = some u ∧ RepV w S x u) : ∃ u u', us = #[u, u'] ∧ RepV w S v u ∧ RepV w S v' u' := by
  obtain ⟨u, h1, h2⟩ := h 0 v rfl
  obtain ⟨u', h3, h4⟩ := h 1 v' rfl
  refine ⟨u, u', ?_, h2, h4⟩
  apply Array.ext
  · simp [hs]
  · intro i hi hi'
    match i with
    | 0 =>
      rw [Array.getElem?_eq_getElem hi] at h1
      cases h1; rfl
    | 1 =>
      rw [Array.getElem?_eq_getElem hi] at h3
      cases h3; rfl
    | i + 2 => omega
theorem k_u64 : IntKind.u64.min = 0 ∧ IntKind.u64.max = 18446744073709551615 := by decide
theorem k_i64 : IntKind.i64.min = -9223372036854775808 ∧ IntKind.i64.max = 9223372036854775807 := by decide
theorem repV_u64 {w : World} {S : Nat → Nat → Prop} {n : Int} {u : Value} (h : RepV w S (.int .u64 n) u) : u = .int .u64 n ∧ 0 ≤ n ∧ n ≤ 18446744073709551615 := by
  have h' : RepP w S (.int .u64 n) u := h
  cases h' with
  | int k n h1 h2 => have := k_u64; exact ⟨rfl, by omega, by omega⟩
theorem repV_i64 {w : World} {S : Nat → Nat → Prop} {n : Int} {u : Value} (h : RepV w S (.int .i64 n) u) : u = .int .i64 n ∧ -9223372036854775808 ≤ n ∧ n ≤ 9223372036854775807 := by
  have h' : RepP w S (.int .i64 n) u := h
  cases h' with
  | int k n h1 h2 => have := k_i64; exact ⟨rfl, by omega, by omega⟩
theorem repV_str {w : World} {S : Nat → Nat → Prop} {l : List UInt8} {u : Value} (h : RepV w S (.str l) u) : u = .string ⟨l.toArray⟩ ∧ l.length ≤ 9223372036854775807 := by
  have h' : RepP w S (.str l) u := h
  cases h' with
  | str l hl => exact ⟨rfl, hl⟩
theorem repV_bool {w : World} {S : Nat → Nat → Prop} {b : Bool} {u : Value} (h : RepV w S (.bool b) u) : u = .bool b := by
  have h' : RepP w S (.bool b) u := h
  cases h' with
  | bool b => rfl
end Go.Proofs.Ytddilmocngedjaa
