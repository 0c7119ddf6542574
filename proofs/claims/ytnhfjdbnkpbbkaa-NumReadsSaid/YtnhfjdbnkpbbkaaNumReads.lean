/- NumReads: the law's walk. -/
import Derived.Test.YtnhfjdbnkpbbkaaNumZigs
import Derived.Test.YtnhfjdbnkpbbkaaReadR
import Derived.Deep.RegionHeld3
namespace Go.Proofs.Ytnhfjdbnkpbbkaa
set_option linter.unusedVariables false
open Go.RowKit

set_option maxRecDepth 20000 in
set_option maxHeartbeats 800000 in
theorem reads_walk (A : Option Addr) (c : Nat) (l : List UInt8) (w : World) (hr : Rd w w.heap.size A (l.map bv)) (hlc : l.length ≤ c) (hc : c ≤ 140737488351232) :
    Calls Try.prog 13 #[.slice A l.length c] w fun e w' => e = .returned (.bool true) ∧ Below w.heap.size w w' := by
  obtain ⟨N, hN⟩ : ∃ N, N = l.length := ⟨_, rfl⟩
  rw [← hN] at hlc ⊢
  obtain ⟨v, n, e, he⟩ : ∃ v n e, rShort l = (v, n, e) := ⟨_, _, _, rfl⟩
  have HN := Lib.hid hN
  have HE := Lib.hid he
  have hv0 : v ≤ 18446744073709551615 := by have := (rShort_range l).1; rw [he] at this; simp at this; omega
  clear hN he
  by_cases h0 : e = 0
  · subst h0
    obtain ⟨hn, hs, _⟩ := rShort_reads HE.out
    have hnN : n ≤ N := by rw [HN.out]; exact hn
    have HS := Lib.hid hs
    clear hn hs
    go_enter Try.func13, Try.ntmps13
    go_wp2_with (fail)
    refine (anchor01 _).mono ?_; rintro e w1 ⟨rfl, hb1⟩
    have hr1 := hr.below hb1 (Nat.le_refl _)
    go_wp2_with (fail)
    refine (readShort_n _ _ _ _ _ _ HN.out hr1 hlc (by omega)).mono ?_; rintro e w7 ⟨rfl, rfl⟩
    rw [HE.out]
    unfold rsVal
    go_wp2_with (fail)
    refine (refReadShort_n _ _ _ _ _ _ HN.out hr1 hlc (by omega)).mono ?_; rintro e w7 ⟨rfl, rfl⟩
    rw [HE.out]
    unfold rsVal
    have hnt : n = (l.take n).length := by rw [List.length_take, Nat.min_eq_left (by rw [← HN.out]; exact hnN)]
    have hrt : Rd w1 w.heap.size A ((l.take n).map bv) := by rw [List.map_take]; exact hr1.take n
    have HT := Lib.hid hnt
    have hsz := hb1.size
    have hvn : ((v : Int)).toNat = v := by simp
    clear hnt hr1 hr
    go_wp2_with (fail)
    have hnc : (n : Int) ≤ (N : Int) := by omega
    have hn0 : (0 : Int) ≤ (n : Int) := by omega
    have hnc2 : (n : Int) ≤ (c : Int) := by omega
    go_region_held3 (fun _ => True) (trivial) (first
      | (go_at_call 39; refine (short_any _ _ (by omega) (by omega)).mono ?_; rintro e w2 ⟨x, rfl, hx, hb2⟩; obtain ⟨A1, n1, c1, rfl, hn1, hr1', hlc1, hcm1⟩ := hx.formN; have HN1 := Lib.hid hn1; clear hn1 hx)
      | (go_at_call 40; refine (same_n (short (v : Int).toNat) (l.take n) _ _ _ _ _ _ w2.heap.size w.heap.size _ HN1.out HT.out hr1' (Rd.below (by exact hrt) hb2 hsz) (by omega) (by omega)).mono ?_; rintro e w4 ⟨rfl, n4, rfl⟩))
    have hd : decide (short v = l.take n) = true := by simp [HS.out]
    have hfin : Below w.heap.size w (w2.drewN n4) := bel_drewN (hb1.drew.trans (hb2.mono hsz)) n4
    go_wp2
    go_ret
    exact ⟨by first | rfl | exact ret_bool hd, hfin⟩
  · have he0 : ((e : Int) != 0) = true := by simp; omega
    clear h0
    go_enter Try.func13, Try.ntmps13
    go_wp2_with (fail)
    refine (anchor01 _).mono ?_; rintro e w1 ⟨rfl, hb1⟩
    have hr1 := hr.below hb1 (Nat.le_refl _)
    go_wp2_with (fail)
    refine (readShort_n _ _ _ _ _ _ HN.out hr1 hlc (by omega)).mono ?_; rintro e w7 ⟨rfl, rfl⟩
    rw [HE.out]
    unfold rsVal
    go_wp2_with (fail)
    refine (refReadShort_n _ _ _ _ _ _ HN.out hr1 hlc (by omega)).mono ?_; rintro e w7 ⟨rfl, rfl⟩
    rw [HE.out]
    unfold rsVal
    go_wp2_with (fail)
    go_quiet (fail)
    go_wp2
    go_ret
    exact ⟨rfl, bel_drewN hb1 _⟩
end Go.Proofs.Ytnhfjdbnkpbbkaa
