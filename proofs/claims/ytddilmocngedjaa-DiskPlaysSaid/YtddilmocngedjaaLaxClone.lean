/- bytes.Clone, by content: a copy of one's own. -/
import Derived.Test.YtddilmocngedjaaLaxNum1
import Derived.Lib.LazyBuf
import Derived.Shelf.Slices.Clone
namespace Go.Proofs.Ytddilmocngedjaa
set_option linter.unusedVariables false
set_option linter.unusedSimpArgs false
open Go.RowKit Go.Lib

set_option maxHeartbeats 2000000 in
set_option maxRecDepth 100000 in
theorem clone_at (ad : Addr) (n c : Nat) (xs : List UInt8) (w : World) (hx : xs.length = n) (hbig : n ≤ 140737488355328) (hc : ∀ j u, (xs.map bv)[j]? = some u → w.cell? (ad.add j) = some u) :
    Calls Try.prog 35 #[.slice (some ad) n c] w fun e w' => ∃ x, e = .returned x ∧ OwnB w' w.heap.size x xs ∧ Below w.heap.size w w' := by
  obtain ⟨i0, hi, hz0, hz1, hz2⟩ := info_parts info_u8
  have t22 := Try.underlying22
  have q22 : ∀ (w : World) (a : Option Addr) (n c n' c' : Nat), (binOp .eql 22 (.slice a n c) (.slice none n' c')).run Try.prog w = .ok (.bool a.isNone) w := fun w a n c n' c' => Go.Lib.run_eql_slice_nil w _ _ a n c n' c' t22
  have A : Aside (∀ j u, (xs.map bv)[j]? = some u → w.cell? (ad.add j) = some u) := hc
  clear hc
  go_enter Try.func35, Try.ntmps35
  go_wp2_with (at_builtin; refine wpList_append_own _ rfl _ _ 22 rfl w.heap.size 5 i0 (.int .u8 0) 1 1 t22 hi hz0 hz1 hz2 rfl (by decide) _ _ _ rfl (World.ownsRow_made w #[] 0 (Nat.le_refl _) (Nat.zero_le _) rfl) ad n c (xs.map bv) rfl ?qc1 ?qc2 ?qc3 ?qc4 ?qc5 ?qc6 ?_)
  case qc1 => simp; omega
  case qc2 =>
    intro j u hj
    exact Lib.cell?_alloc_some _ (A.out j u hj)
  case qc3 => exact bv_one
  case qc4 => unfold maxLen; omega
  case qc5 => omega
  case qc6 => simp
  intro v' w1 hown hgrow hnil
  go_wp2
  go_ret
  refine ⟨v', rfl, ?_, ?_⟩
  · unfold OwnB
    rw [hx]
    simpa using hown
  · exact ((Below.refl _ w).alloc (Nat.le_refl _) _).grown hgrow (by simp) (by intro k hk; simp [Value.ownBlock] at hk; omega)
set_option maxHeartbeats 1000000 in
theorem clone_nil (n c : Nat) (w : World) :
    Calls Try.prog 35 #[.slice none n c] w fun e w' => e = .returned (.slice none 0 0) ∧ w' = w := by
  have t22 := Try.underlying22
  have q22 : ∀ (w : World) (a : Option Addr) (n c n' c' : Nat), (binOp .eql 22 (.slice a n c) (.slice none n' c')).run Try.prog w = .ok (.bool a.isNone) w := fun w a n c n' c' => Go.Lib.run_eql_slice_nil w _ _ a n c n' c' t22
  go_enter Try.func35, Try.ntmps35
  go_wp2
  go_ret
  exact ⟨rfl, rfl⟩
theorem clone_any (l : List UInt8) (A : Option Addr) (c B : Nat) (w : World) (hr : Rd w B A (l.map bv)) (hl : l.length ≤ 140737488355328) :
    Calls Try.prog 35 #[.slice A l.length c] w fun e w' => ∃ x, e = .returned x ∧ OwnB w' w.heap.size x l ∧ Below w.heap.size w w' := by
  cases A with
  | none =>
    have : l = [] := by
      rcases hr with h | ⟨_, _, h, _⟩
      · simpa using h
      · cases h
    subst this
    refine (clone_nil _ c w).mono ?_
    rintro e w' ⟨rfl, rfl⟩
    exact ⟨_, rfl, OwnB.nil _ _, Below.refl _ _⟩
  | some ad =>
    refine clone_at ad l.length c l w rfl hl ?_
    rcases hr with h | ⟨b, off, h, _, hc⟩
    · intro j u hu; rw [h] at hu; simp at hu
    · injection h with h; subst h
      intro j u hu
      have := hc j u hu
      by_cases hj : j = 0
      · subst hj; simpa [Addr.add] using this
      · simpa [Addr.add, hj] using this

def cloneF : Con
  | [.val (.sl xs .no)] => some (isBytes xs ∧ xs.length ≤ 140737488355328, ⟨.sl xs (.row 0 0 5), none, none⟩)
  | [.val (.sl xs .nil)] => some (xs = [], ⟨.sl xs (.row 0 0 5), none, none⟩)
  | _ => none
set_option maxRecDepth 100000 in
theorem meetsClone : Meets Try.prog 35 cloneF := by
  refine meets_row Try.call35 ?_
  intro args q r hF hq
  unfold cloneF at hF
  split at hF
  · rename_i xs
    cases hF
    obtain ⟨hb, hl⟩ := hq
    obtain ⟨l, rfl⟩ := hb.get
    rw [length_bytesAV] at hl
    refine ⟨[.sl (bytesAV l) .no], _, _, rfl, rfl, fun x hx => (by simp at hx; subst hx; rfl), rfl, by rw [ts_u8]; omega, flat_bytes _, ?_⟩
    intro us w S hs h
    obtain ⟨u, rfl, hu⟩ := one_arg hs h
    obtain ⟨A, c, rfl, h1, h2, h3⟩ := repV_bytes hu
    refine (clone_any l A c _ w h3 hl).mono ?_
    rintro e w' ⟨x, rfl, ho, hb⟩
    exact row_bytes ho hb
  · rename_i xs
    cases hF
    subst hq
    refine ⟨[.sl [] .nil], _, _, rfl, rfl, fun x hx => (by simp at hx; subst hx; rfl), rfl, by rw [ts_u8]; omega, fun x hx => (by simp at hx), ?_⟩
    intro us w S hs h
    obtain ⟨u, rfl, hu⟩ := one_arg hs h
    obtain ⟨A, c, rfl, h1, h2, h3⟩ := repV_bytes (l := []) hu
    refine (clone_any [] A c _ w h3 (by simp)).mono ?_
    rintro e w' ⟨x, rfl, ho, hb⟩
    exact row_bytes ho hb
  · cases hF
end Go.Proofs.Ytddilmocngedjaa
