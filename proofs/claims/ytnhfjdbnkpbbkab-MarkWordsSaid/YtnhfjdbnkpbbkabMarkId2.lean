/- Names of instances: plain functions and contracts of package mark's. -/
import Derived.Test.YtnhfjdbnkpbbkabKit
import Derived.Laws.BitsAllLaws
import Derived.Deep.RegionHeld3
namespace Go.Proofs.Ytnhfjdbnkpbbkab
set_option linter.unusedVariables false
open Go.RowKit

abbrev idV (r s : Int) : Value := .agg #[.int .i64 r, .int .i64 s]
def idRight (r s : Int) : Bool := decide (0 ≤ r) && decide (r ≤ 6) && decide (0 ≤ s) && decide (s < 1024)
theorem idRight_yes {r s : Int} (h : 0 ≤ r ∧ r ≤ 6 ∧ 0 ≤ s ∧ s < 1024) : idRight r s = true := by unfold idRight; simp; omega
theorem idRight_no {r s : Int} (h : ¬ (0 ≤ r ∧ r ≤ 6 ∧ 0 ≤ s ∧ s < 1024)) : idRight r s = false := by
  cases hb : idRight r s with
  | false => rfl
  | true => exfalso; unfold idRight at hb; simp at hb; omega
theorem idRight_iff {r s : Int} : idRight r s = true ↔ (0 ≤ r ∧ r ≤ 6 ∧ 0 ≤ s ∧ s < 1024) := by unfold idRight; simp; omega

theorem idRight_any (r s : Int) (w : World) :
    Calls Try.prog 28 #[idV r s] w fun e w' => e = .returned (.bool (idRight r s)) ∧ Below w.heap.size w w' := by
  rcases (show (r < 0 ∨ 6 < r ∨ (0 ≤ r ∧ r ≤ 6 ∧ s < 0) ∨ (0 ≤ r ∧ r ≤ 6 ∧ 1024 ≤ s)) ∨ (0 ≤ r ∧ r ≤ 6 ∧ 0 ≤ s ∧ s < 1024) by omega) with h | h
  · have e := Lib.hid (idRight_no (r := r) (s := s) (by omega))
    rcases h with h | h | ⟨h, h', h''⟩ | ⟨h, h', h''⟩
    all_goals
      go_enter Try.func28, Try.ntmps28
      go_wp2
      go_ret
      exact ⟨by rw [e.out]; first | rfl | exact ret_bool (by simp; omega), (Below.refl _ _).alloc (Nat.le_refl _) _⟩
  · have e := Lib.hid (idRight_yes h)
    obtain ⟨h, h', h'', h3⟩ := h
    go_enter Try.func28, Try.ntmps28
    go_wp2
    go_ret
    exact ⟨by rw [e.out]; first | rfl | exact ret_bool (by simp; omega), (Below.refl _ _).alloc (Nat.le_refl _) _⟩

/-- a name's word -/
def idWord (r s : Int) : Int := if idRight r s then r * 4294967296 + s else 0
theorem word_any (r s : Int) (w : World) :
    Calls Try.prog 30 #[idV r s] w fun e w' => e = .returned (.int .u64 (idWord r s)) ∧ Below w.heap.size w w' := by
  cases h : idRight r s with
  | false =>
    have e : Hid (idWord r s = 0) := by show _ = _; unfold idWord; rw [h]; rfl
    go_enter Try.func30, Try.ntmps30
    go_wp2_with (fail)
    refine (idRight_any _ _ _).mono ?_; rintro e w1 ⟨rfl, hb⟩
    rw [h]
    have hb2 := ((Below.refl w.heap.size w).alloc (Nat.le_refl _) _).trans (hb.mono (by simp))
    go_wp2
    go_ret
    exact ⟨by rw [e.out]; first | rfl | exact ret_bool (by simp; omega), hb2⟩
  | true =>
    have e : Hid (idWord r s = r * 4294967296 + s) := by show _ = _; unfold idWord; rw [h]; rfl
    obtain ⟨h1, h2, h3, h4⟩ := idRight_iff.1 h
    have hbits : bits BinOp.or IntKind.u64 (r * 4294967296) s = r * 4294967296 + s := by
      rw [u64_or _ _ (by omega) (by omega) (by omega) (by omega), nat_join 32 _ _ (by omega) (by omega)]; omega
    go_enter Try.func30, Try.ntmps30
    go_wp2_with (fail)
    refine (idRight_any _ _ _).mono ?_; rintro e w1 ⟨rfl, hb⟩
    rw [h]
    have hb2 := ((Below.refl w.heap.size w).alloc (Nat.le_refl _) _).trans (hb.mono (by simp))
    have B := (Blk.new w 33 #[.int .i64 r, .int .i64 s]).below hb (by simp)
    have c0 := B.cell 0 rfl
    have c1 := B.cell 1 rfl
    clear B hb
    go_wp2
    go_ret
    exact ⟨by rw [e.out]; first | rfl | exact ret_int (by omega), hb2⟩

/-- a word's name, and the error's number -/
def ow (x : Int) : Int × Int × Int := if x / 4294967296 ≤ 6 ∧ x % 4294967296 < 1024 then (x / 4294967296, x % 4294967296, 0) else (0, 0, 12)
theorem ofWord_any (x : Int) (w : World) (h0 : 0 ≤ x) (h1 : x ≤ 18446744073709551615) :
    Calls Try.prog 29 #[.int .u64 x] w fun e w' => e = .returned (.tuple #[idV (ow x).1 (ow x).2.1, .int .i64 (ow x).2.2]) ∧ Below w.heap.size w w' := by
  have hand : bits BinOp.and IntKind.u64 x 4294967295 = x % 4294967296 := by
    rw [u64_and _ _ (by omega) (by omega) (by omega) (by omega)]
    have e : (4294967295 : Int).toNat = 4294967295 := rfl
    rw [e, nat_mask32]; omega
  rcases (show (6 < x / 4294967296 ∨ (x / 4294967296 ≤ 6 ∧ 1024 ≤ x % 4294967296)) ∨ (x / 4294967296 ≤ 6 ∧ x % 4294967296 < 1024) by omega) with h | h
  · have e : Hid (ow x = (0, 0, 12)) := by show _ = _; unfold ow; rw [if_neg (by omega)]
    rcases h with h | ⟨h, h'⟩
    all_goals
      go_enter Try.func29, Try.ntmps29
      go_wp2
      go_returns
      exact ⟨by rw [e.out], (Below.refl _ _).alloc (Nat.le_refl _) _⟩
  · have e : Hid (ow x = (x / 4294967296, x % 4294967296, 0)) := by show _ = _; unfold ow; rw [if_pos h]
    obtain ⟨h, h'⟩ := h
    go_enter Try.func29, Try.ntmps29
    go_wp2
    go_returns
    exact ⟨by rw [e.out], (Below.refl _ _).alloc (Nat.le_refl _) _⟩

/-- the sign of an order -/
def cmpI (a b : Int) : Int := if a < b then -1 else if b < a then 1 else 0
def idCmp (r s r' s' : Int) : Int := if cmpI r r' = 0 then cmpI s s' else cmpI r r'
theorem cmpI_range (a b : Int) : -1 ≤ cmpI a b ∧ cmpI a b ≤ 1 := by unfold cmpI; split; omega; split <;> omega
theorem isNaN_any (a : Int) (w : World) :
    Calls Try.prog 46 #[.int .i64 a] w fun e w' => e = .returned (.bool false) ∧ w = w' := by
  go_enter Try.func46, Try.ntmps46
  go_wp2
  go_ret
  exact ⟨rfl, rfl⟩
theorem compareInt_any (a b : Int) (w : World) :
    Calls Try.prog 41 #[.int .i64 a, .int .i64 b] w fun e w' => e = .returned (.int .i64 (cmpI a b)) ∧ w = w' := by
  rcases (show a < b ∨ b < a ∨ a = b by omega) with h | h | h
  · have e : Hid (cmpI a b = -1) := by show _ = _; unfold cmpI; rw [if_pos h]
    go_enter Try.func41, Try.ntmps41
    go_wp2_with (go_at_call 46; refine (isNaN_any _ _).mono ?_; rintro e w2 ⟨rfl, rfl⟩)
    all_goals
      go_ret
      exact ⟨by rw [e.out]; rfl, rfl⟩
  · have e : Hid (cmpI a b = 1) := by show _ = _; unfold cmpI; rw [if_neg (by omega), if_pos h]
    go_enter Try.func41, Try.ntmps41
    go_wp2_with (go_at_call 46; refine (isNaN_any _ _).mono ?_; rintro e w2 ⟨rfl, rfl⟩)
    all_goals
      go_ret
      exact ⟨by rw [e.out]; rfl, rfl⟩
  · subst h
    have e : Hid (cmpI a a = 0) := by show _ = _; unfold cmpI; rw [if_neg (by omega), if_neg (by omega)]
    go_enter Try.func41, Try.ntmps41
    go_wp2_with (go_at_call 46; refine (isNaN_any _ _).mono ?_; rintro e w2 ⟨rfl, rfl⟩)
    all_goals
      go_ret
      exact ⟨by rw [e.out]; rfl, rfl⟩
theorem cell3 (w : World) (a b c : Array Value) (t t' t'' : TypeId) (i : Nat) (v : Value) (h : c[i]? = some v) :
    (((w.alloc (.cells a t)).alloc (.cells b t')).alloc (.cells c t'')).drew.cell? ⟨w.heap.size + 1 + 1, i, none⟩ = some v := by
  have := (Blk.new ((w.alloc (.cells a t)).alloc (.cells b t')) t'' c).drew.cell i h
  simpa using this
def orI (x y : Int) : Int := if x = 0 then y else x
theorem or2_any (g : Nat) (x y : Int) (w : World) (c0 : w.cell? ⟨g, 0, none⟩ = some (.int .i64 x)) (c1 : w.cell? ⟨g, 1, none⟩ = some (.int .i64 y)) :
    Calls Try.prog 40 #[.slice (some ⟨g, 0, none⟩) 2 2] w fun e w' => e = .returned (.int .i64 (orI x y)) ∧ w = w' := by
  have HO : Hid (orI x y = if x = 0 then y else x) := (rfl : _ = _)
  by_cases hx : x = 0
  · have hx0 : (x != 0) = false := by simp [hx]
    have HO' : Hid (orI x y = y) := by show _ = _; rw [HO.out, if_pos hx]
    clear hx
    by_cases hy : y = 0
    · subst hy
      go_enter Try.func40, Try.ntmps40
      go_wp2
      go_rounds 3
      go_ret
      exact ⟨by rw [HO'.out]; rfl, rfl⟩
    · have hy0 : (y != 0) = true := by simp [hy]
      clear hy
      go_enter Try.func40, Try.ntmps40
      go_wp2
      go_rounds 3
      go_ret
      exact ⟨by rw [HO'.out]; rfl, rfl⟩
  · have hx0 : (x != 0) = true := by simp [hx]
    have HO' : Hid (orI x y = x) := by show _ = _; rw [HO.out, if_neg hx]
    clear hx
    go_enter Try.func40, Try.ntmps40
    go_wp2
    go_rounds 3
    go_ret
    exact ⟨by rw [HO'.out]; rfl, rfl⟩
set_option maxHeartbeats 1000000 in
theorem compareId_any (r s r' s' : Int) (w : World) :
    Calls Try.prog 31 #[idV r s, idV r' s'] w fun e w' => e = .returned (.int .i64 (idCmp r s r' s')) ∧ Below w.heap.size w w' := by
  have hc := cmpI_range r r'
  have hd := cmpI_range s s'
  have HE : Hid (idCmp r s r' s' = orI (cmpI r r') (cmpI s s')) := (rfl : _ = _)
  go_enter Try.func31, Try.ntmps31
  go_wp2_with (fail)
  go_region_held3 (fun w' => w'.cell? ⟨w.heap.size, 0, none⟩ = some (.int .i64 r) ∧ w'.cell? ⟨w.heap.size, 1, none⟩ = some (.int .i64 s) ∧ w'.cell? ⟨w.heap.size + 1, 0, none⟩ = some (.int .i64 r') ∧ w'.cell? ⟨w.heap.size + 1, 1, none⟩ = some (.int .i64 s'))
    (first | go_keep | (simp [go_sem, World.cell?_alloc_past]; done)) (first
    | (go_at_call 41; refine (compareInt_any _ _ _).mono ?_; rintro e w2 ⟨rfl, rfl⟩)
    | (go_at_call 40; refine (or2_any _ (cmpI r r') (cmpI s s') _ ?_ ?_).mono ?_; (refine cell3 _ _ _ _ _ _ _ 0 _ ?_; rfl); (refine cell3 _ _ _ _ _ _ _ 1 _ ?_; rfl); rintro e w2 ⟨rfl, rfl⟩))
  go_wp2
  go_ret
  exact ⟨by rw [HE.out]; rfl, by go_grown⟩
end Go.Proofs.Ytnhfjdbnkpbbkab
