/- NumShorts: the law's walk. -/
import Derived.Test.YtnhfjdbnkpbbkaaNumZigs
import Derived.Test.YtnhfjdbnkpbbkaaReadR
import Derived.Test.YtnhfjdbnkpbbkaaRefShort
namespace Go.Proofs.Ytnhfjdbnkpbbkaa
set_option linter.unusedVariables false
open Go.RowKit

theorem OwnB.lit0 (w : World) (base : Nat) (hb : base ≤ w.heap.size) : OwnB (w.alloc (.cells #[] 5)) base (.slice (some ⟨w.heap.size, 0, none⟩) 0 0) [] :=
  World.ownsRow_lit w #[] 0 hb (by unfold maxLen; omega) (by simp)

set_option maxRecDepth 20000 in
set_option maxHeartbeats 800000 in
theorem shorts_walk (v : Int) (A : Option Addr) (c : Nat) (l : List UInt8) (w : World) (h0 : 0 ≤ v) (h1 : v ≤ 18446744073709551615) (hr : Rd w w.heap.size A (l.map bv)) (hlc : l.length ≤ c) (hc : c ≤ 140737488351232) :
    Calls Try.prog 12 #[.int .u64 v, .slice A l.length c] w fun e w' => e = .returned (.bool true) ∧ Below w.heap.size w w' := by
  go_enter Try.func12, Try.ntmps12
  go_wp2_with (fail)
  refine (anchor01 _).mono ?_; rintro e w1 ⟨rfl, hb1⟩
  go_wp2_with (fail)
  refine (short_any v _ h0 h1).mono ?_; rintro e w2 ⟨x, rfl, hx, hb2⟩
  have hlen := short_len64 v.toNat (by omega)
  obtain ⟨A1, c1, rfl, hr1, hlc1, hcm1⟩ := hx.form
  go_wp2_with (fail)
  refine (refShort_any v _ h0 h1).mono ?_; rintro e w3 ⟨y, rfl, hy, hb3⟩
  obtain ⟨A2, c2, rfl, hr2, hlc2, hcm2⟩ := hy.form
  go_wp2_with (fail)
  refine (same_any _ _ _ _ _ _ _ _ _ (hr1.below hb3 (Nat.le_refl _)) hr2 (by omega) (by omega)).mono ?_; rintro e w4 ⟨rfl, n4, rfl⟩
  rw [decide_eq_true rfl]
  have hx3 := hx.below hb3
  have hb03 := (hb1.trans (hb2.mono hb1.size)).trans (hb3.mono (Nat.le_trans hb1.size hb2.size))
  have hr3 : Rd w3 w.heap.size A (l.map bv) := hr.below hb03 (Nat.le_refl _)
  have hs := hb03.size
  have hr13 := hr1.below hb3 (Nat.le_refl _)
  have hs23 := hb3.size
  clear hy hr2 hb1 hr1
  go_wp2_with (first
    | (at_builtin; refine wpList_apB _ rfl (.tmp 24) (.tmp 25) rfl w.heap.size _ [] rfl (OwnB.lit0 _ _ (by simp; omega)) w2.heap.size A1 _ _ (short v.toNat) rfl ?d1 rfl ?d2 ?d3 ?_))
  case d1 => exact (show Rd (w3.drewN n4) _ _ _ from hr13).alloc (by simpa using hs23) _
  case d2 => simp; omega
  case d3 => simp; omega
  intro v1 w5 hown1 hg1 hb5
  have hb05 : Below w.heap.size w w5 := ((bel_drewN hb03 n4).alloc (by simpa using hs) _).trans hb5
  have hr5 := hr.below hb05 (Nat.le_refl _)
  have hs5 := hb05.size
  clear hg1 hb5 hr3 hr13
  go_wp2_with (first
    | (at_builtin; refine wpList_apB _ rfl (.tmp 26) (.tmp 27) rfl w.heap.size _ (short v.toNat) rfl hown1 w.heap.size A _ _ l rfl hr5 rfl ?e2 hs5 ?_))
  case e2 => omega
  intro v2 w6 hown2 hg2 hb6
  have hb06 := hb05.trans hb6
  obtain ⟨A3, n3, c3, rfl, hn3, hr6, hlc3, hcm3⟩ := hown2.formN
  have hval : Hid (rShort (short v.toNat ++ l) = (v.toNat, (short v.toNat).length, 0)) := rShort_short _ _ (by omega)
  have hvv : ((v.toNat : Nat) : Int) = v := by omega
  have HN3 := Lib.hid hn3
  clear hg2 hb6 hown1 hown2 hr5 hn3
  go_wp2_with (fail)
  refine (readShort_n _ _ _ _ _ _ HN3.out hr6 hlc3 hcm3).mono ?_; rintro e w7 ⟨rfl, rfl⟩
  rw [hval.out]
  unfold rsVal
  simp only [hvv]
  clear hvv
  go_wp2
  go_ret
  exact ⟨rfl, hb06⟩
end Go.Proofs.Ytnhfjdbnkpbbkaa
