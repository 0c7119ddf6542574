/- path.Match, last question: is one of the places an end? -/
import Derived.Test.YtddilmocngedjaaDoorMtF
namespace Go.Proofs.YtddilmocngedjaaDoor
set_option linter.unusedVariables false
set_option linter.unusedSimpArgs false
open Go Go.Proofs Go.RowKit Go.Lib
/-- a pattern's row in a box, as it lies in a world -/
def PatAt (w : World) (l : List (List UInt8)) (G b off c : Nat) : Prop :=
  G < w.heap.size ∧ w.cell? ⟨G, 0, none⟩ = some (.slice (some ⟨b, off, none⟩) l.length c) ∧ b < w.heap.size ∧ l.length ≤ 1000 ∧ l.length ≤ c ∧ c ≤ 9223372036854775807 ∧ ∀ (j : Nat) x, l[j]? = some x → w.cell? ⟨b, off + j, none⟩ = some (encS x)
theorem PatAt.below {w w' : World} {l : List (List UInt8)} {G b off c : Nat} (h : PatAt w l G b off c) (hb : Below w.heap.size w w') : PatAt w' l G b off c := by
  obtain ⟨h1, h2, h3, h4, h5, h6, h7⟩ := h
  exact ⟨Nat.lt_of_lt_of_le h1 hb.size, by rw [hb.cell (p := ⟨G, 0, none⟩) h1]; exact h2, Nat.lt_of_lt_of_le h3 hb.size, h4, h5, h6, fun j x hx => by rw [hb.cell (p := ⟨b, off + j, none⟩) h3]; exact h7 j x hx⟩
set_option maxRecDepth 100000 in
theorem pred_any (l : List (List UInt8)) (k G b off c : Nat) (w : World) (hk : k ≤ l.length) (hP : PatAt w l G b off c) :
    Calls Tryd.prog 40 #[.int .i64 (k : Int), .pointer (some ⟨G, 0, none⟩)] w fun e w' => e = .returned (.bool (endsP l k)) ∧ Below w.heap.size w w' := by
  obtain ⟨h1, h2, h3, h4, h5, h6, h7⟩ := hP
  have H := Lib.hid (ends_any l k b off c w hk h4 h5 h6 h3 h7)
  clear h7
  go_enter Tryd.func40, Tryd.ntmps40
  go_wp2_with fail
  refine H.out.mono ?_
  rintro e w1 ⟨rfl, hb1⟩
  go_wp2
  go_ret
  exact ⟨rfl, hb1⟩
set_option maxHeartbeats 2000000 in
set_option maxRecDepth 100000 in
theorem idxI_any (l : List (List UInt8)) (zs : List Nat) (hz : ∀ k ∈ zs, k ≤ l.length) (G b off c : Nat) (w : World) (hP : PatAt w l G b off c) (B o n C : Nat) (hn : n = zs.length) (hn2 : n ≤ 4611686018427387904) (hB : B < w.heap.size) (hc : ∀ (j : Nat) x, zs[j]? = some x → w.cell? ⟨B, o + j, none⟩ = some (.int .i64 (x : Int))) (A : Option Addr) (hA : 0 < n → A = some ⟨B, o, none⟩) :
    Calls Tryd.prog 72 #[.slice A n C, .func (.func 40) #[] #[.pointer (some ⟨G, 0, none⟩)]] w
      fun e w' => Below w.heap.size w w' ∧ ∃ r : Int, e = .returned (.int .i64 r) ∧ decide (0 ≤ r) = zs.any (endsP l) := by
  have HC := Lib.hid hc
  have HB := Lib.hid hB
  have HA := Lib.hid hA
  have HP := Lib.hid hP
  have HZ := Lib.hid hz
  have HN := Lib.hid hn
  clear hc hB hA hP hz hn
  have enter : ∀ args w, (callFunc 40 args).run Tryd.prog w = .ok (.enter 40 args) w := Tryd.call40
  go_enter Tryd.func72, Tryd.ntmps72
  go_wp2
  go_loopg [4, 5, 8] n (fun gg _ _ s8 wr => ∃ k : Nat, s8 = .int .i64 k ∧ k ≤ n ∧ n - k ≤ gg ∧ Hid (Below w.heap.size w wr) ∧ Hid ((zs.take k).any (endsP l) = false))
  case atStart => exact ⟨0, rfl, by omega, by omega, (Below.refl _ w : _), (rfl : _)⟩
  case round =>
    obtain ⟨k, rfl, hk, hg, hB, hall⟩ := hrel
    by_cases hlt : k < n
    · obtain ⟨x, hx⟩ : ∃ x, zs[k]? = some x := ⟨_, List.getElem?_eq_getElem (by rw [← HN.out]; exact hlt)⟩
      obtain rfl := HA.out (by omega)
      have hc1 : wr.cell? ⟨B, o + k, none⟩ = some (.int .i64 (x : Int)) := by rw [hB.out.cell (p := ⟨B, o + k, none⟩) HB.out]; exact HC.out k x hx
      have H := pred_any l x G b off c wr (HZ.out x (List.mem_of_getElem? hx)) (HP.out.below hB.out)
      have HX := Lib.hid hx
      clear hx
      cases hq : endsP l x with
      | true =>
        simp only [hq] at H
        have HQ := Lib.hid hq
        clear hq
        go_wp2_with (go_at_fn 40; refine H.mono ?_; rintro e w' ⟨rfl, hb'⟩)
        go_ret
        refine ⟨hB.out.trans (hb'.mono hB.out.size), _, rfl, ?_⟩
        have : zs.any (endsP l) = true := by
          rw [List.any_eq_true]
          exact ⟨x, List.mem_of_getElem? HX.out, HQ.out⟩
        rw [this]; simp
      | false =>
        simp only [hq] at H
        have HQ := Lib.hid hq
        clear hq
        go_wp2_with (go_at_fn 40; refine H.mono ?_; rintro e w' ⟨rfl, hb'⟩)
        go_roundg (n - (k + 1))
        case measure => omega
        case rel =>
          refine ⟨k + 1, by go_num, by omega, by omega, (hB.out.trans (hb'.mono hB.out.size) : _), ?_⟩
          show (zs.take (k + 1)).any (endsP l) = false
          rw [List.take_add_one, HX.out, List.any_append, hall.out]; simp [HQ.out]
    · obtain rfl : k = n := by omega
      go_wp2
      go_ret
      have h := hall.out
      rw [HN.out, List.take_length] at h
      exact ⟨hB.out, _, rfl, by rw [h]; rfl⟩
theorem containsI_any (u v : Value) (q : Bool) (w : World) (H : Calls Tryd.prog 72 #[u, v] w
      fun e w' => Below w.heap.size w w' ∧ ∃ r : Int, e = .returned (.int .i64 r) ∧ decide (0 ≤ r) = q) :
    Calls Tryd.prog 39 #[u, v] w fun e w' => e = .returned (.bool q) ∧ Below w.heap.size w w' := by
  have HH := Lib.hid H
  clear H
  go_enter Tryd.func39, Tryd.ntmps39
  go_wp2_with fail
  refine HH.out.mono ?_
  rintro e w1 ⟨hb, r, rfl, hr⟩
  have HR := Lib.hid hr
  clear hr
  go_wp2
  go_ret
  exact ⟨by rw [← HR.out]; rfl, hb⟩
end Go.Proofs.YtddilmocngedjaaDoor
