/- The contract of the reference's Same. -/
import Derived.Test.YtddilmocngedjaaKit
namespace Go.Proofs.Ytddilmocngedjaa
set_option linter.unusedVariables false
open Go.RowKit

theorem same_any (l m : List UInt8) (A A' : Option Addr) (c c' B B' : Nat) (w : World) (hr : Rd w B A (l.map bv)) (hr' : Rd w B' A' (m.map bv)) (hl : l.length ≤ 9223372036854775807) (hm : m.length ≤ 9223372036854775807) :
    Calls Try.prog 19 #[.slice A l.length c, .slice A' m.length c'] w fun e w' => e = .returned (.bool (decide (l = m))) ∧ ∃ n, w' = w.drewN n := by
  by_cases hlen : l.length = m.length
  · go_enter Try.func19, Try.ntmps19
    rw [← hlen]
    have hlen2 : Hid (l.length = m.length) := hlen
    clear hlen hm
    go_wp2
    go_loopw [5] (fun i wr => ∃ k : Nat, k ≤ l.length ∧ i = .int .i64 k ∧ Hid (l.take k = m.take k) ∧ ∃ n, wr = w.drewN n) (fun i _ => l.length - (intOf i).toNat)
    case atStart => exact ⟨0, by omega, rfl, (rfl : _ = _), 0, rfl⟩
    case round =>
      obtain ⟨k, hk, rfl, htk, nd, rfl⟩ := hrel
      by_cases hlt : k < l.length
      · have hltm : k < m.length := by rw [← hlen2.out]; exact hlt
        obtain ⟨b1, o1, rfl, _, hc1⟩ := hr.open_ (by simp; omega)
        obtain ⟨b2, o2, rfl, _, hc2⟩ := hr'.open_ (by simp; omega)
        obtain ⟨X, hX⟩ : ∃ X : Int, X = (l[k].toNat : Int) := ⟨_, rfl⟩
        obtain ⟨Y, hY⟩ : ∃ Y : Int, Y = (m[k].toNat : Int) := ⟨_, rfl⟩
        have d1 : w.cell? ⟨b1, o1 + k, none⟩ = some (.int .u8 X) := by rw [hc1 k (by simp; omega), hX, List.getElem_map]; rfl
        have d2 : w.cell? ⟨b2, o2 + k, none⟩ = some (.int .u8 Y) := by rw [hc2 k (by simp; omega), hY, List.getElem_map]; rfl
        by_cases hxy : X = Y
        · have HN : Hid (l.take (k + 1) = m.take (k + 1)) := by
            show _ = _
            rw [List.take_succ_eq_append_getElem hlt, List.take_succ_eq_append_getElem hltm, htk.out]
            congr 2
            rw [hX, hY] at hxy
            exact UInt8.toNat_inj.1 (by omega)
          subst hxy
          clear hc1 hc2 hX hY hltm
          go_wp2
          go_quiet (fail)
          go_wp2
          go_roundw
          case rel => exact ⟨k + 1, by omega, by go_num, HN, _, rfl⟩
          case measure => simp [intOf]; omega
        · have HF : Hid (decide (l = m) = false) := by
            show _ = _
            simp only [decide_eq_false_iff_not]
            rintro rfl
            exact hxy (hX.trans hY.symm)
          have hne : (X != Y) = true := by simp [hxy]
          clear hc1 hc2 hX hY hltm hxy
          go_wp2
          go_quiet (fail)
          go_wp2
          go_ret
          exact ⟨by rw [HF.out]; rfl, _, by first | rfl | exact World.drewN_drewN _ _ _⟩
      · obtain rfl : k = l.length := by omega
        have HF : Hid (decide (l = m) = true) := by
          show _ = _
          have := htk.out
          rw [List.take_length, hlen2.out, List.take_length] at this
          simp [this]
        clear htk
        go_wp2
        go_ret
        exact ⟨by rw [HF.out]; rfl, _, rfl⟩
  · have HF : Hid (decide (l = m) = false) := by
      show _ = _
      simp only [decide_eq_false_iff_not]
      rintro rfl
      exact hlen rfl
    have hne : (((l.length : Nat) : Int) != ((m.length : Nat) : Int)) = true := by simp; omega
    go_enter Try.func19, Try.ntmps19
    go_wp2
    go_ret
    exact ⟨by rw [HF.out]; rfl, 0, rfl⟩
theorem same_n (l m : List UInt8) (n n' : Nat) (A A' : Option Addr) (c c' B B' : Nat) (w : World) (hn : n = l.length) (hn' : n' = m.length) (hr : Rd w B A (l.map bv)) (hr' : Rd w B' A' (m.map bv)) (hl : n ≤ 9223372036854775807) (hm : n' ≤ 9223372036854775807) :
    Calls Try.prog 19 #[.slice A n c, .slice A' n' c'] w fun e w' => e = .returned (.bool (decide (l = m))) ∧ ∃ n, w' = w.drewN n := by
  subst hn hn'; exact same_any l m A A' c c' B B' w hr hr' hl hm
end Go.Proofs.Ytddilmocngedjaa
