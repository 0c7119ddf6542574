/- NumBytes: the law's walk. -/
import Derived.Test.YtnhfjdbnkpbbkabAnchor01
import Derived.Test.YtnhfjdbnkpbbkabRefBytes
import Derived.Test.YtnhfjdbnkpbbkabSame
import Derived.Test.YtnhfjdbnkpbbkabLow
namespace Go.Proofs.Ytnhfjdbnkpbbkab
set_option linter.unusedVariables false
open Go.RowKit
theorem OwnB.lit0 (w : World) (base : Nat) (hb : base ≤ w.heap.size) : OwnB (w.alloc (.cells #[] 5)) base (.slice (some ⟨w.heap.size, 0, none⟩) 0 0) [] :=
  World.ownsRow_lit w #[] 0 hb (by unfold maxLen; omega) (by simp)
theorem low_val (v : Int) (n : Nat) (h0 : 0 ≤ v) (h1 : v ≤ 18446744073709551615) (hn : 1 ≤ n) (h8 : n ≤ 8) : v % 256 ^ n = lowOf v (8 * (n : Int)) := by
  unfold lowOf
  by_cases h : n = 8
  · subst h
    rw [if_pos (by omega)]
    have e : (256 : Int) ^ 8 = 18446744073709551616 := by decide +kernel
    rw [e]; omega
  · rw [if_neg (by omega), if_neg (by omega)]
    unfold p2
    have e : (8 * (n : Int)).toNat = 8 * n := by omega
    rw [e, Int.pow_mul]; rfl
set_option maxRecDepth 20000 in
set_option maxHeartbeats 1600000 in
theorem numBytes_walk (v n : Int) (A : Option Addr) (c : Nat) (l : List UInt8) (w : World) (h0 : 0 ≤ v) (h1 : v ≤ 18446744073709551615) (h2 : -9223372036854775808 ≤ n) (h3 : n ≤ 9223372036854775807)
    (hr : Rd w w.heap.size A (l.map bv)) (hlc : l.length ≤ c) (hc : c ≤ 140737488351232) :
    Calls Try.prog 5 #[.int .u64 v, .int .i64 n, .slice A l.length c] w fun e w' => e = .returned (.bool true) ∧ Below w.heap.size w w' := by
  obtain ⟨N, hN⟩ : ∃ N, N = l.length := ⟨_, rfl⟩
  rw [← hN] at hlc ⊢
  have HN := Lib.hid hN
  clear hN
  obtain ⟨K, hK, hK8, hn⟩ : ∃ K : Nat, K = cap8 n ∧ K ≤ 8 ∧ ((n < 0 ∧ K = 0) ∨ (8 < n ∧ K = 8) ∨ (0 ≤ n ∧ n ≤ 8 ∧ n = (K : Int))) := by
    refine ⟨cap8 n, rfl, cap8_le n, ?_⟩
    unfold cap8
    split
    · omega
    · split <;> omega
  have HK := Lib.hid hK
  clear hK
  rcases hn with ⟨hn, rfl⟩ | ⟨hn, rfl⟩ | ⟨hn0, hn8, rfl⟩
  · go_enter Try.func5, Try.ntmps5
    go_wp2_with (fail)
    refine (anchor01 _).mono ?_; rintro e w1 ⟨rfl, hb1⟩
    go_wp2_with (fail)
    refine (numBytes_any v _ _ h0 h1 h2 h3).mono ?_; rintro e w2 ⟨x, rfl, hx, hb2⟩
    rw [← HK.out] at hx
    obtain ⟨A1, n1, c1, rfl, HN1, hr1, hlc1, hcm1⟩ := hx.formH
    go_wp2_with (fail)
    refine (refBytes_n v 0 _ _ (by first | rfl | omega) h0 h1 (by omega)).mono ?_; rintro e w3 ⟨y, rfl, hy, hb3⟩
    obtain ⟨A2, n2, c2, rfl, HN2, hr2, hlc2, hcm2⟩ := hy.formH
    have hr13 := hr1.below hb3 (Nat.le_refl _)
    have hs1 := hb1.size
    have hs2 := hb2.size
    have hs3 := hb3.size
    have hb4 := (hb1.trans (hb2.mono hs1)).trans (hb3.mono (Nat.le_trans hs1 hs2))
    have hn8' : n1 ≤ 8 := by rw [HN1.out, bytesOf_len]; exact hK8
    clear hx hy hb1 hb2 hb3 hr1
    go_wp2_with (fail)
    refine (same_n _ _ _ _ _ _ _ _ _ _ _ HN1.out HN2.out hr13 hr2 (by omega) (by omega)).mono ?_; rintro e w4 ⟨rfl, n4, rfl⟩
    rw [decide_eq_true rfl]
    go_wp2_with (fail)
    refine (read_range _ _ _ _ _ (by omega)).mono ?_; rintro e w5 ⟨rfl, rfl⟩
    go_wp2
    go_ret
    exact ⟨rfl, bel_drewN hb4 _⟩
  · go_enter Try.func5, Try.ntmps5
    go_wp2_with (fail)
    refine (anchor01 _).mono ?_; rintro e w1 ⟨rfl, hb1⟩
    go_wp2_with (fail)
    refine (numBytes_any v _ _ h0 h1 h2 h3).mono ?_; rintro e w2 ⟨x, rfl, hx, hb2⟩
    rw [← HK.out] at hx
    obtain ⟨A1, n1, c1, rfl, HN1, hr1, hlc1, hcm1⟩ := hx.formH
    go_wp2_with (fail)
    refine (refBytes_n v 8 _ _ (by first | rfl | omega) h0 h1 (by omega)).mono ?_; rintro e w3 ⟨y, rfl, hy, hb3⟩
    obtain ⟨A2, n2, c2, rfl, HN2, hr2, hlc2, hcm2⟩ := hy.formH
    have hr13 := hr1.below hb3 (Nat.le_refl _)
    have hs1 := hb1.size
    have hs2 := hb2.size
    have hs3 := hb3.size
    have hb4 := (hb1.trans (hb2.mono hs1)).trans (hb3.mono (Nat.le_trans hs1 hs2))
    have hn8' : n1 ≤ 8 := by rw [HN1.out, bytesOf_len]; exact hK8
    clear hx hy hb1 hb2 hb3 hr1
    go_wp2_with (fail)
    refine (same_n _ _ _ _ _ _ _ _ _ _ _ HN1.out HN2.out hr13 hr2 (by omega) (by omega)).mono ?_; rintro e w4 ⟨rfl, n4, rfl⟩
    rw [decide_eq_true rfl]
    go_wp2_with (fail)
    refine (read_range _ _ _ _ _ (by omega)).mono ?_; rintro e w5 ⟨rfl, rfl⟩
    go_wp2
    go_ret
    exact ⟨rfl, bel_drewN hb4 _⟩
  · by_cases hz : K < 1
    · go_enter Try.func5, Try.ntmps5
      go_wp2_with (fail)
      refine (anchor01 _).mono ?_; rintro e w1 ⟨rfl, hb1⟩
      go_wp2_with (fail)
      refine (numBytes_any v _ _ h0 h1 h2 h3).mono ?_; rintro e w2 ⟨x, rfl, hx, hb2⟩
      rw [← HK.out] at hx
      obtain ⟨A1, n1, c1, rfl, HN1, hr1, hlc1, hcm1⟩ := hx.formH
      go_wp2_with (fail)
      refine (refBytes_n v K _ _ (by first | rfl | omega) h0 h1 (by omega)).mono ?_; rintro e w3 ⟨y, rfl, hy, hb3⟩
      obtain ⟨A2, n2, c2, rfl, HN2, hr2, hlc2, hcm2⟩ := hy.formH
      have hr13 := hr1.below hb3 (Nat.le_refl _)
      have hs1 := hb1.size
      have hs2 := hb2.size
      have hs3 := hb3.size
      have hb4 := (hb1.trans (hb2.mono hs1)).trans (hb3.mono (Nat.le_trans hs1 hs2))
      have hn8' : n1 ≤ 8 := by rw [HN1.out, bytesOf_len]; exact hK8
      clear hx hy hb1 hb2 hb3 hr1
      go_wp2_with (fail)
      refine (same_n _ _ _ _ _ _ _ _ _ _ _ HN1.out HN2.out hr13 hr2 (by omega) (by omega)).mono ?_; rintro e w4 ⟨rfl, n4, rfl⟩
      rw [decide_eq_true rfl]
      go_wp2_with (fail)
      refine (read_range _ _ _ _ _ (by omega)).mono ?_; rintro e w5 ⟨rfl, rfl⟩
      go_wp2
      go_ret
      exact ⟨rfl, bel_drewN hb4 _⟩
    · have hK1 : 1 ≤ K := by omega
      clear hz
      by_cases hNK : N < K
      · go_enter Try.func5, Try.ntmps5
        go_wp2_with (fail)
        refine (anchor01 _).mono ?_; rintro e w1 ⟨rfl, hb1⟩
        go_wp2_with (fail)
        refine (numBytes_any v _ _ h0 h1 h2 h3).mono ?_; rintro e w2 ⟨x, rfl, hx, hb2⟩
        rw [← HK.out] at hx
        obtain ⟨A1, n1, c1, rfl, HN1, hr1, hlc1, hcm1⟩ := hx.formH
        go_wp2_with (fail)
        refine (refBytes_n v K _ _ (by first | rfl | omega) h0 h1 (by omega)).mono ?_; rintro e w3 ⟨y, rfl, hy, hb3⟩
        obtain ⟨A2, n2, c2, rfl, HN2, hr2, hlc2, hcm2⟩ := hy.formH
        have hr13 := hr1.below hb3 (Nat.le_refl _)
        have hs1 := hb1.size
        have hs2 := hb2.size
        have hs3 := hb3.size
        have hb4 := (hb1.trans (hb2.mono hs1)).trans (hb3.mono (Nat.le_trans hs1 hs2))
        have hn8' : n1 ≤ 8 := by rw [HN1.out, bytesOf_len]; exact hK8
        clear hx hy hb1 hb2 hb3 hr1
        go_wp2_with (fail)
        refine (same_n _ _ _ _ _ _ _ _ _ _ _ HN1.out HN2.out hr13 hr2 (by omega) (by omega)).mono ?_; rintro e w4 ⟨rfl, n4, rfl⟩
        rw [decide_eq_true rfl]
        go_wp2_with (fail)
        refine (read_short _ _ K _ _ (by omega) hK8 (by omega)).mono ?_; rintro e w5 ⟨rfl, rfl⟩
        go_wp2
        go_ret
        exact ⟨rfl, bel_drewN hb4 _⟩
      · go_enter Try.func5, Try.ntmps5
        go_wp2_with (fail)
        refine (anchor01 _).mono ?_; rintro e w1 ⟨rfl, hb1⟩
        go_wp2_with (fail)
        refine (numBytes_any v _ _ h0 h1 h2 h3).mono ?_; rintro e w2 ⟨x, rfl, hx, hb2⟩
        rw [← HK.out] at hx
        obtain ⟨A1, n1, c1, rfl, HN1, hr1, hlc1, hcm1⟩ := hx.formH
        go_wp2_with (fail)
        refine (refBytes_n v K _ _ (by first | rfl | omega) h0 h1 (by omega)).mono ?_; rintro e w3 ⟨y, rfl, hy, hb3⟩
        obtain ⟨A2, n2, c2, rfl, HN2, hr2, hlc2, hcm2⟩ := hy.formH
        have hr13 := hr1.below hb3 (Nat.le_refl _)
        have hs1 := hb1.size
        have hs2 := hb2.size
        have hs3 := hb3.size
        have hb4 := (hb1.trans (hb2.mono hs1)).trans (hb3.mono (Nat.le_trans hs1 hs2))
        have hn8' : n1 ≤ 8 := by rw [HN1.out, bytesOf_len]; exact hK8
        clear hx hy hb1 hb2 hb3 hr1
        go_wp2_with (fail)
        refine (same_n _ _ _ _ _ _ _ _ _ _ _ HN1.out HN2.out hr13 hr2 (by omega) (by omega)).mono ?_; rintro e w4 ⟨rfl, n4, rfl⟩
        rw [decide_eq_true rfl]
        have hs4 := hb4.size
        go_wp2_with (first
          | (at_builtin; refine wpList_apB _ rfl (.tmp 69) (.tmp 70) rfl w.heap.size _ [] rfl (OwnB.lit0 _ _ (by simp; omega)) w2.heap.size A1 _ _ (bytesOf v K) rfl ?d1 HN1.out.symm ?d2 ?d3 ?_))
        case d1 => exact (show Rd (w3.drewN n4) _ _ _ from hr13).alloc (by simpa using hs3) _
        case d2 => simp; omega
        case d3 => simp; omega
        intro v1 w5 hown1 hg1 hb5
        have hb05 : Below w.heap.size w w5 := ((bel_drewN hb4 n4).alloc (by simpa using hs4) _).trans hb5
        have hr5 := hr.below hb05 (Nat.le_refl _)
        have hs5 := hb05.size
        try simp only [List.nil_append] at hown1
        clear hg1 hb5 hr13
        go_wp2_with (first
          | (at_builtin; refine wpList_apB _ rfl (.tmp 71) (.tmp 72) rfl w.heap.size _ (bytesOf v K) rfl hown1 w.heap.size A _ _ l rfl hr5 HN.out.symm ?e2 hs5 ?_))
        case e2 => rw [bytesOf_len]; omega
        intro v2 w6 hown2 hg2 hb6
        have hb06 := hb05.trans hb6
        obtain ⟨A3, n3, c3, rfl, HN3, hr6, hlc3, hcm3⟩ := hown2.formH
        have hn3' : n3 = K + N := by rw [HN3.out, List.length_append, bytesOf_len, HN.out]
        have hval : Hid ((valOf ((bytesOf v K ++ l).take K) : Int) = lowOf v (8 * (K : Int))) := by
          show _ = _
          rw [List.take_left' (bytesOf_len v K), valOf_bytesOf K v h0, low_val v K h0 h1 (by omega) hK8]
        have hn3'' : K ≤ n3 := by omega
        clear hg2 hb6 hown1 hown2 hr5 hn3'
        go_wp2_with (fail)
        refine (read_ok _ _ K _ _ _ _ HN3.out hr6 hlc3 hcm3 (by omega) hK8 hn3'').mono ?_; rintro e w7 ⟨rfl, rfl⟩
        rw [hval.out]
        go_wp2_with (fail)
        refine (low_any _ _ _ h0 h1 (by omega) (by omega)).mono ?_; rintro e w8 ⟨rfl, rfl⟩
        go_wp2
        go_ret
        exact ⟨rfl, hb06⟩
end Go.Proofs.Ytnhfjdbnkpbbkab
