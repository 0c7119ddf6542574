/- MarkWords: the reference's Right, and the law's walk. -/
import Derived.Test.YtnhfjdbnkpbbkabMarkId2
import Derived.Test.YtnhfjdbnkpbbkabAnchor06
import Derived.Deep.RegionHeld3
namespace Go.Proofs.Ytnhfjdbnkpbbkab
set_option linter.unusedVariables false
open Go.RowKit

theorem refIdRight_any (r s : Int) (w : World) :
    Calls Try.prog 27 #[idV r s] w fun e w' => e = .returned (.bool (idRight r s)) ∧ Below w.heap.size w w' := by
  rcases (show (r < 0 ∨ 6 < r ∨ (0 ≤ r ∧ r ≤ 6 ∧ s < 0) ∨ (0 ≤ r ∧ r ≤ 6 ∧ 1024 ≤ s)) ∨ (0 ≤ r ∧ r ≤ 6 ∧ 0 ≤ s ∧ s < 1024) by omega) with h | h
  · have e := Lib.hid (idRight_no (r := r) (s := s) (by omega))
    rcases h with h | h | ⟨h, h', h''⟩ | ⟨h, h', h''⟩
    all_goals
      go_enter Try.func27, Try.ntmps27
      go_wp2
      go_ret
      exact ⟨by rw [e.out]; first | rfl | exact ret_bool (by simp; omega), (Below.refl _ _).alloc (Nat.le_refl _) _⟩
  · have e := Lib.hid (idRight_yes h)
    obtain ⟨h, h', h'', h3⟩ := h
    go_enter Try.func27, Try.ntmps27
    go_wp2
    go_ret
    exact ⟨by rw [e.out]; first | rfl | exact ret_bool (by simp; omega), (Below.refl _ _).alloc (Nat.le_refl _) _⟩

theorem ow_word (r s : Int) (h : idRight r s = true) : ow (r * 4294967296 + s) = (r, s, 0) := by
  obtain ⟨h1, h2, h3, h4⟩ := idRight_iff.1 h
  unfold ow
  have e1 : (r * 4294967296 + s) / 4294967296 = r := by omega
  have e2 : (r * 4294967296 + s) % 4294967296 = s := by omega
  rw [e1, e2, if_pos ⟨h2, h4⟩]

theorem ow_cases (x : Int) : (ow x = (x / 4294967296, x % 4294967296, 0) ∧ x / 4294967296 ≤ 6 ∧ x % 4294967296 < 1024) ∨ (ow x = (0, 0, 12) ∧ (6 < x / 4294967296 ∨ (x / 4294967296 ≤ 6 ∧ 1024 ≤ x % 4294967296))) := by
  unfold ow
  by_cases h : x / 4294967296 ≤ 6 ∧ x % 4294967296 < 1024
  · rw [if_pos h]; exact .inl ⟨rfl, h.1, h.2⟩
  · rw [if_neg h]; exact .inr ⟨rfl, by omega⟩
theorem idCmp_cases (r s r' s' : Int) : (idCmp r s r' s' = -1 ∧ r < r') ∨ (idCmp r s r' s' = -1 ∧ r = r' ∧ s < s') ∨ (idCmp r s r' s' = 1 ∧ r' < r) ∨ (idCmp r s r' s' = 1 ∧ r = r' ∧ s' < s) ∨ (idCmp r s r' s' = 0 ∧ r = r' ∧ s = s') := by
  unfold idCmp cmpI
  repeat' split
  all_goals omega

set_option maxRecDepth 20000 in
set_option maxHeartbeats 3200000 in
theorem words_walk (r s r' s' x : Int) (w : World) (hx0 : 0 ≤ x) (hx1 : x ≤ 18446744073709551615) :
    Calls Try.prog 8 #[idV r s, idV r' s', .int .u64 x] w fun e w' => e = .returned (.bool true) ∧ Below w.heap.size w w' := by
  go_enter Try.func8, Try.ntmps8
  go_wp2_with (fail)
  refine (anchor06 _).mono ?_; rintro e w1 ⟨rfl, rfl⟩
  go_wp2_with (fail)
  obtain ⟨W, hW, Bi, Bo, hb, hs⟩ := box2 w 33 33 #[.int .i64 r, .int .i64 s] #[.int .i64 r', .int .i64 s']
  rw [← hW]
  clear hW
  refine (refIdRight_any _ _ _).mono ?_; rintro e w1 ⟨rfl, hb1⟩
  replace Bi := Bi.below hb1 Bi.lt
  replace Bo := Bo.below hb1 Bo.lt
  replace hb := bel_next hb hb1
  clear hb1 hs
  have ci0 := Bi.cell 0 rfl
  have ci1 := Bi.cell 1 rfl
  go_wp2_with (fail)
  refine (idRight_any _ _ _).mono ?_; rintro e w2 ⟨rfl, hb1⟩
  replace Bi := Bi.below hb1 Bi.lt
  replace Bo := Bo.below hb1 Bo.lt
  replace hb := bel_next hb hb1
  clear hb1 ci0 ci1
  have ci0 := Bi.cell 0 rfl
  have ci1 := Bi.cell 1 rfl
  cases hR : idRight r s with
  | true =>
    have hw1 : Hid (idWord r s = r * 4294967296 + s) := by show _ = _; unfold idWord; rw [hR]; rfl
    have hw2 : Hid (ow (r * 4294967296 + s) = (r, s, 0)) := ow_word r s hR
    obtain ⟨hr0, hr6, hs0, hs1⟩ := idRight_iff.1 hR
    clear hR
    go_wp2_with (fail)
    refine (word_any _ _ _).mono ?_; rintro e w3 ⟨rfl, hb1⟩
    rw [hw1.out]
    replace Bi := Bi.below hb1 Bi.lt
    replace Bo := Bo.below hb1 Bo.lt
    replace hb := bel_next hb hb1
    clear hb1 ci0 ci1
    have ci0 := Bi.cell 0 rfl
    have ci1 := Bi.cell 1 rfl
    go_wp2_with (fail)
    refine (ofWord_any _ _ (by omega) (by omega)).mono ?_; rintro e w4 ⟨rfl, hb1⟩
    rw [hw2.out]
    replace Bi := Bi.below hb1 Bi.lt
    replace Bo := Bo.below hb1 Bo.lt
    replace hb := bel_next hb hb1
    clear hb1 ci0 ci1
    have ci0 := Bi.cell 0 rfl
    have ci1 := Bi.cell 1 rfl
    go_wp2_with (fail)
    obtain ⟨W5, hW, Bj, hb1, _, hs5⟩ := boxOn hb 33 #[.int .i64 r, .int .i64 s]
    rw [← hW]
    clear hW
    replace Bi := Bi.below hb1 Bi.lt
    replace Bo := Bo.below hb1 Bo.lt
    replace hb := bel_next hb hb1
    clear hb1 ci0 ci1
    have ci0 := Bi.cell 0 rfl
    have ci1 := Bi.cell 1 rfl
    have cj0 := Bj.cell 0 rfl
    have cj1 := Bj.cell 1 rfl
    have u1 : IntKind.u64.wrap r = r := by rw [IntKind.wrap_u64]; omega
    have u2 : IntKind.u64.wrap s = s := by rw [IntKind.wrap_u64]; omega
    have u3 : IntKind.u64.wrap (r * 4294967296) = r * 4294967296 := by rw [IntKind.wrap_u64]; omega
    have u4 : IntKind.u64.wrap (r * 4294967296 + s) = r * 4294967296 + s := by rw [IntKind.wrap_u64]; omega
    have hlt1 := Bi.lt
    have hlt2 := Bj.lt
    go_region_held3 (fun w' => w'.cell? ⟨w.heap.size, 0, none⟩ = some (.int .i64 r) ∧ w'.cell? ⟨w.heap.size, 1, none⟩ = some (.int .i64 s) ∧ w'.cell? ⟨w4.heap.size, 0, none⟩ = some (.int .i64 r) ∧ w'.cell? ⟨w4.heap.size, 1, none⟩ = some (.int .i64 s))
      (first | go_keep | (exact ⟨(hb1.cell (by exact hlt1)).trans ci0, (hb1.cell (by exact hlt1)).trans ci1, (hb1.cell (by exact hlt2)).trans cj0, (hb1.cell (by exact hlt2)).trans cj1⟩)) (first
      | (go_at_call 30; refine (word_any _ _ _).mono ?_; rintro e w6 ⟨rfl, hb1⟩; rw [hw1.out]))
    clear u1 u2 u3 u4
    replace Bi := Bi.drew.below hb1 Bi.lt
    replace Bo := Bo.drew.below hb1 Bo.lt
    replace hb := bel_next hb.drew hb1
    clear hb1 ci0 ci1 cj0 cj1 Bj
    have ci0 := Bi.cell 0 rfl
    have ci1 := Bi.cell 1 rfl
    go_wp2_with (fail)
    refine (ofWord_any _ _ hx0 hx1).mono ?_; rintro e w6 ⟨rfl, hb1⟩
    replace Bi := Bi.below hb1 Bi.lt
    replace Bo := Bo.below hb1 Bo.lt
    replace hb := bel_next hb hb1
    clear hb1 ci0 ci1
    have ci0 := Bi.cell 0 rfl
    have ci1 := Bi.cell 1 rfl
    rcases ow_cases x with ⟨hx, hg1, hg2⟩ | ⟨hx, hg⟩
    · rw [hx]
      clear hx
      have hR2 : idRight (x / 4294967296) (x % 4294967296) = true := idRight_yes (by omega)
      have hw3 : idWord (x / 4294967296) (x % 4294967296) = x := by unfold idWord; rw [hR2]; simp only [if_true]; omega
      go_wp2_with (fail)
      obtain ⟨W7, hW, Bj, hb1, _, hs7⟩ := boxOn hb 33 #[.int .i64 (x / 4294967296), .int .i64 (x % 4294967296)]
      rw [← hW]
      clear hW
      replace Bi := Bi.below hb1 Bi.lt
      replace Bo := Bo.below hb1 Bo.lt
      replace hb := bel_next hb hb1
      clear hb1 ci0 ci1
      have ci0 := Bi.cell 0 rfl
      have ci1 := Bi.cell 1 rfl
      refine (word_any _ _ _).mono ?_; rintro e w8 ⟨rfl, hb1⟩
      rw [hw3]
      replace Bj := Bj.below hb1 Bj.lt
      replace Bi := Bi.below hb1 Bi.lt
      replace Bo := Bo.below hb1 Bo.lt
      replace hb := bel_next hb hb1
      clear hb1 ci0 ci1
      have ci0 := Bi.cell 0 rfl
      have ci1 := Bi.cell 1 rfl
      have cj0 := Bj.cell 0 rfl
      have cj1 := Bj.cell 1 rfl
      go_wp2_with (fail)
      refine (idRight_any _ _ _).mono ?_; rintro e w8' ⟨rfl, hb1⟩
      rw [hR2]
      clear cj0 cj1 Bj hw3 hR2
      replace Bi := Bi.below hb1 Bi.lt
      replace Bo := Bo.below hb1 Bo.lt
      replace hb := bel_next hb hb1
      clear hb1 ci0 ci1
      have ci0 := Bi.cell 0 rfl
      have ci1 := Bi.cell 1 rfl
      have co0 := Bo.cell 0 rfl
      have co1 := Bo.cell 1 rfl
      go_wp2_with (fail)
      refine (compareId_any _ _ _ _ _).mono ?_; rintro e w9 ⟨rfl, hb1⟩
      replace Bi := Bi.below hb1 Bi.lt
      replace Bo := Bo.below hb1 Bo.lt
      replace hb := bel_next hb hb1
      clear hb1 ci0 ci1 co0 co1
      have ci0 := Bi.cell 0 rfl
      have ci1 := Bi.cell 1 rfl
      have co0 := Bo.cell 0 rfl
      have co1 := Bo.cell 1 rfl
      rcases idCmp_cases r s r' s' with ⟨hc, h1⟩ | ⟨hc, h1, h2⟩ | ⟨hc, h1⟩ | ⟨hc, h1, h2⟩ | ⟨hc, rfl, rfl⟩
      all_goals
        rw [hc]
        clear hc
        go_wp2
        go_ret
        exact ⟨by first | rfl | exact ret_bool (by simp; omega), hb⟩
    · rw [hx]
      clear hx
      have ai0 := fun o => (Bi.alloc o).cell 0 rfl
      have ai1 := fun o => (Bi.alloc o).cell 1 rfl
      have ao0 := fun o => (Bo.alloc o).cell 0 rfl
      have ao1 := fun o => (Bo.alloc o).cell 1 rfl
      rcases hg with hg | ⟨hg, hg'⟩
      all_goals
        go_wp2_with (fail)
        obtain ⟨W7, hW, Bj, hb1, _, hs7⟩ := boxOn hb 33 #[.int .i64 0, .int .i64 0]
        rw [← hW]
        clear hW
        replace Bi := Bi.below hb1 Bi.lt
        replace Bo := Bo.below hb1 Bo.lt
        replace hb := bel_next hb hb1
        clear hb1 ci0 ci1
        have ci0 := Bi.cell 0 rfl
        have ci1 := Bi.cell 1 rfl
        have cj0 := Bj.cell 0 rfl
        have cj1 := Bj.cell 1 rfl
        refine (compareId_any _ _ _ _ _).mono ?_; rintro e w9 ⟨rfl, hb1⟩
        replace Bi := Bi.below hb1 Bi.lt
        replace Bo := Bo.below hb1 Bo.lt
        replace hb := bel_next hb hb1
        clear hb1 ci0 ci1 cj0 cj1 Bj ai0 ai1 ao0 ao1
        have ci0 := Bi.cell 0 rfl
        have ci1 := Bi.cell 1 rfl
        have co0 := Bo.cell 0 rfl
        have co1 := Bo.cell 1 rfl
        rcases idCmp_cases r s r' s' with ⟨hc, h1⟩ | ⟨hc, h1, h2⟩ | ⟨hc, h1⟩ | ⟨hc, h1, h2⟩ | ⟨hc, rfl, rfl⟩
        all_goals
          rw [hc]
          clear hc
          go_wp2
          go_ret
          exact ⟨by first | rfl | exact ret_bool (by simp; omega), hb⟩
  | false =>
    have hw1 : Hid (idWord r s = 0) := by show _ = _; unfold idWord; rw [hR]; rfl
    clear hR
    go_wp2_with (fail)
    refine (word_any _ _ _).mono ?_; rintro e w3 ⟨rfl, hb1⟩
    rw [hw1.out]
    replace Bi := Bi.below hb1 Bi.lt
    replace Bo := Bo.below hb1 Bo.lt
    replace hb := bel_next hb hb1
    clear hb1 ci0 ci1
    have ci0 := Bi.cell 0 rfl
    have ci1 := Bi.cell 1 rfl
    go_wp2_with (fail)
    refine (ofWord_any _ _ hx0 hx1).mono ?_; rintro e w6 ⟨rfl, hb1⟩
    replace Bi := Bi.below hb1 Bi.lt
    replace Bo := Bo.below hb1 Bo.lt
    replace hb := bel_next hb hb1
    clear hb1 ci0 ci1
    have ci0 := Bi.cell 0 rfl
    have ci1 := Bi.cell 1 rfl
    rcases ow_cases x with ⟨hx, hg1, hg2⟩ | ⟨hx, hg⟩
    · rw [hx]
      clear hx
      have hR2 : idRight (x / 4294967296) (x % 4294967296) = true := idRight_yes (by omega)
      have hw3 : idWord (x / 4294967296) (x % 4294967296) = x := by unfold idWord; rw [hR2]; simp only [if_true]; omega
      go_wp2_with (fail)
      obtain ⟨W7, hW, Bj, hb1, _, hs7⟩ := boxOn hb 33 #[.int .i64 (x / 4294967296), .int .i64 (x % 4294967296)]
      rw [← hW]
      clear hW
      replace Bi := Bi.below hb1 Bi.lt
      replace Bo := Bo.below hb1 Bo.lt
      replace hb := bel_next hb hb1
      clear hb1 ci0 ci1
      have ci0 := Bi.cell 0 rfl
      have ci1 := Bi.cell 1 rfl
      refine (word_any _ _ _).mono ?_; rintro e w8 ⟨rfl, hb1⟩
      rw [hw3]
      replace Bj := Bj.below hb1 Bj.lt
      replace Bi := Bi.below hb1 Bi.lt
      replace Bo := Bo.below hb1 Bo.lt
      replace hb := bel_next hb hb1
      clear hb1 ci0 ci1
      have ci0 := Bi.cell 0 rfl
      have ci1 := Bi.cell 1 rfl
      have cj0 := Bj.cell 0 rfl
      have cj1 := Bj.cell 1 rfl
      go_wp2_with (fail)
      refine (idRight_any _ _ _).mono ?_; rintro e w8' ⟨rfl, hb1⟩
      rw [hR2]
      clear cj0 cj1 Bj hw3 hR2
      replace Bi := Bi.below hb1 Bi.lt
      replace Bo := Bo.below hb1 Bo.lt
      replace hb := bel_next hb hb1
      clear hb1 ci0 ci1
      have ci0 := Bi.cell 0 rfl
      have ci1 := Bi.cell 1 rfl
      have co0 := Bo.cell 0 rfl
      have co1 := Bo.cell 1 rfl
      go_wp2_with (fail)
      refine (compareId_any _ _ _ _ _).mono ?_; rintro e w9 ⟨rfl, hb1⟩
      replace Bi := Bi.below hb1 Bi.lt
      replace Bo := Bo.below hb1 Bo.lt
      replace hb := bel_next hb hb1
      clear hb1 ci0 ci1 co0 co1
      have ci0 := Bi.cell 0 rfl
      have ci1 := Bi.cell 1 rfl
      have co0 := Bo.cell 0 rfl
      have co1 := Bo.cell 1 rfl
      rcases idCmp_cases r s r' s' with ⟨hc, h1⟩ | ⟨hc, h1, h2⟩ | ⟨hc, h1⟩ | ⟨hc, h1, h2⟩ | ⟨hc, rfl, rfl⟩
      all_goals
        rw [hc]
        clear hc
        go_wp2
        go_ret
        exact ⟨by first | rfl | exact ret_bool (by simp; omega), hb⟩
    · rw [hx]
      clear hx
      have ai0 := fun o => (Bi.alloc o).cell 0 rfl
      have ai1 := fun o => (Bi.alloc o).cell 1 rfl
      have ao0 := fun o => (Bo.alloc o).cell 0 rfl
      have ao1 := fun o => (Bo.alloc o).cell 1 rfl
      rcases hg with hg | ⟨hg, hg'⟩
      all_goals
        go_wp2_with (fail)
        obtain ⟨W7, hW, Bj, hb1, _, hs7⟩ := boxOn hb 33 #[.int .i64 0, .int .i64 0]
        rw [← hW]
        clear hW
        replace Bi := Bi.below hb1 Bi.lt
        replace Bo := Bo.below hb1 Bo.lt
        replace hb := bel_next hb hb1
        clear hb1 ci0 ci1
        have ci0 := Bi.cell 0 rfl
        have ci1 := Bi.cell 1 rfl
        have cj0 := Bj.cell 0 rfl
        have cj1 := Bj.cell 1 rfl
        refine (compareId_any _ _ _ _ _).mono ?_; rintro e w9 ⟨rfl, hb1⟩
        replace Bi := Bi.below hb1 Bi.lt
        replace Bo := Bo.below hb1 Bo.lt
        replace hb := bel_next hb hb1
        clear hb1 ci0 ci1 cj0 cj1 Bj ai0 ai1 ao0 ao1
        have ci0 := Bi.cell 0 rfl
        have ci1 := Bi.cell 1 rfl
        have co0 := Bo.cell 0 rfl
        have co1 := Bo.cell 1 rfl
        rcases idCmp_cases r s r' s' with ⟨hc, h1⟩ | ⟨hc, h1, h2⟩ | ⟨hc, h1⟩ | ⟨hc, h1, h2⟩ | ⟨hc, rfl, rfl⟩
        all_goals
          rw [hc]
          clear hc
          go_wp2
          go_ret
          exact ⟨by first | rfl | exact ret_bool (by simp; omega), hb⟩
end Go.Proofs.Ytnhfjdbnkpbbkab
