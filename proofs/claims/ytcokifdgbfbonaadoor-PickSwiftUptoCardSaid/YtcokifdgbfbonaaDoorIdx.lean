/- slices.IndexFunc at a set's bound predicate. -/
import Derived.Test.YtcokifdgbfbonaaDoorLacks
namespace Go.Proofs.YtcokifdgbfbonaaDoor
set_option linter.unusedVariables false
set_option linter.unusedSimpArgs false
open Go.RowKit Go.Lib
set_option maxHeartbeats 2000000 in
set_option maxRecDepth 100000 in
theorem idx_any (s : Int) (hs : 0 ≤ s ∧ s ≤ 255) (b off n c : Nat) (f : Nat → Int) (w : World) (hn : n ≤ 100) (hr : ∀ j, j < n → 0 ≤ f j ∧ f j ≤ 100) (hb : b < w.heap.size) (hc : ∀ j, j < n → w.cell? ⟨b, off + j, none⟩ = some (.int .i64 (f j))) :
    Calls Tryd.prog 127 #[.slice (some ⟨b, off, none⟩) n c, .func (.func 87) #[.int .u8 s] #[]] w
      fun e w' => Below w.heap.size w w' ∧ ((e = .returned (.int .i64 (-1)) ∧ ∀ j, j < n → hasS s (f j) = true) ∨ ∃ k, k < n ∧ e = .returned (.int .i64 (k : Int)) ∧ hasS s (f k) = false ∧ ∀ j, j < k → hasS s (f j) = true) := by
  have HC := Lib.hid hc
  have HR := Lib.hid hr
  have HB := Lib.hid hb
  clear hc hr hb
  have enter : ∀ args w, (callFunc 87 args).run Tryd.prog w = .ok (.enter 87 args) w := Tryd.call87
  go_enter Tryd.func127, Tryd.ntmps127
  go_wp2
  go_loopg [4, 5, 8] n (fun gg _ _ s8 wr => ∃ k : Nat, s8 = .int .i64 k ∧ k ≤ n ∧ n - k ≤ gg ∧ Hid (Below w.heap.size w wr) ∧ Hid (∀ j, j < k → hasS s (f j) = true))
  case atStart => exact ⟨0, rfl, by omega, by omega, (Below.refl _ w : _), (fun j hj => absurd hj (Nat.not_lt_zero j) : _)⟩
  case round =>
    obtain ⟨k, rfl, hk, hg, hB, hall⟩ := hrel
    by_cases hlt : k < n
    · have hc1 : wr.cell? ⟨b, off + k, none⟩ = some (.int .i64 (f k)) := by rw [hB.out.cell (p := ⟨b, off + k, none⟩) HB.out]; exact HC.out k hlt
      obtain ⟨x, hx⟩ : ∃ x, x = f k := ⟨_, rfl⟩
      rw [← hx] at hc1
      have hx2 := HR.out k hlt
      rw [← hx] at hx2
      have H := lacks_any s x hs hx2
      have HX := Lib.hid hx
      clear hx
      cases hq : hasS s x with
      | false =>
        simp only [hq, Bool.not_false] at H
        have HQ := Lib.hid hq
        clear hq
        go_wp2_with (go_at_fn 87; refine (H _).mono ?_; rintro e w' ⟨rfl, hb'⟩)
        go_ret
        refine ⟨hB.out.trans (hb'.mono hB.out.size), .inr ⟨k, hlt, rfl, by rw [← HX.out]; exact HQ.out, hall.out⟩⟩
      | true =>
        simp only [hq, Bool.not_true] at H
        have HQ := Lib.hid hq
        clear hq
        go_wp2_with (go_at_fn 87; refine (H _).mono ?_; rintro e w' ⟨rfl, hb'⟩)
        go_roundg (n - (k + 1))
        case measure => omega
        case rel =>
          refine ⟨k + 1, by go_num, by omega, by omega, (hB.out.trans (hb'.mono hB.out.size) : _), ?_⟩
          show ∀ j, j < k + 1 → hasS s (f j) = true
          intro j hj
          by_cases hjk : j < k
          · exact hall.out j hjk
          · obtain rfl : j = k := by omega
            rw [← HX.out]; exact HQ.out
    · obtain rfl : k = n := by omega
      go_wp2
      go_ret
      exact ⟨hB.out, .inl ⟨rfl, hall.out⟩⟩
end Go.Proofs.YtcokifdgbfbonaaDoor
