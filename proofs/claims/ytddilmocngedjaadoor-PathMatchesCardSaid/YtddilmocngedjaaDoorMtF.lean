/- path.ends: by hand. -/
import Derived.Test.YtddilmocngedjaaDoorMtC
namespace Go.Proofs.YtddilmocngedjaaDoor
set_option linter.unusedVariables false
set_option linter.unusedSimpArgs false
open Go Go.Proofs Go.RowKit Go.Lib
def starB (x : List UInt8) : Bool := decide (x = [42, 42])
def endsP (l : List (List UInt8)) (k : Nat) : Bool := (l.drop k).all starB
set_option maxRecDepth 100000 in
theorem star_any (x : List UInt8) (w : World) :
    Calls Tryd.prog 74 #[.string (strB x)] w fun e w' => e = .returned (.bool (!starB x)) ∧ Below w.heap.size w w' := by
  have hxd : (strB x).toList = x := by rw [Go.Lib.toList_data, strB_data]
  have hb : starB x = (x == [42, 42]) := by
    unfold starB
    by_cases h : x = [42, 42]
    · simp [h]
    · simp [h]
  rw [hb]
  clear hb
  go_enter Tryd.func74, Tryd.ntmps74
  go_wp2
  go_ret
  exact ⟨rfl, Below.refl _ _⟩
set_option maxHeartbeats 2000000 in
set_option maxRecDepth 100000 in
theorem idxS_any (l : List (List UInt8)) (b off c : Nat) (w : World) (hn : l.length ≤ 1000) (hb : b < w.heap.size) (hc : ∀ j x, l[j]? = some x → w.cell? ⟨b, off + j, none⟩ = some (encS x)) (A : Option Addr) (hA : 0 < l.length → A = some ⟨b, off, none⟩) :
    Calls Tryd.prog 103 #[.slice A l.length c, .func (.func 74) #[] #[]] w
      fun e w' => Below w.heap.size w w' ∧ ∃ r : Int, e = .returned (.int .i64 r) ∧ decide (0 ≤ r) = !(l.all starB) := by
  have HC := Lib.hid hc
  have HB := Lib.hid hb
  have HA := Lib.hid hA
  clear hc hb hA
  have enter : ∀ args w, (callFunc 74 args).run Tryd.prog w = .ok (.enter 74 args) w := Tryd.call74
  go_enter Tryd.func103, Tryd.ntmps103
  go_wp2
  go_loopg [4, 5, 8] l.length (fun gg _ _ s8 wr => ∃ k : Nat, s8 = .int .i64 k ∧ k ≤ l.length ∧ l.length - k ≤ gg ∧ Hid (Below w.heap.size w wr) ∧ Hid ((l.take k).all starB = true))
  case atStart => exact ⟨0, rfl, by omega, by omega, (Below.refl _ w : _), (rfl : _)⟩
  case round =>
    obtain ⟨k, rfl, hk, hg, hB, hall⟩ := hrel
    by_cases hlt : k < l.length
    · obtain ⟨x, hx⟩ : ∃ x, l[k]? = some x := ⟨_, List.getElem?_eq_getElem hlt⟩
      obtain rfl := HA.out (by omega)
      have hc1 : wr.cell? ⟨b, off + k, none⟩ = some (.string (strB x)) := by rw [hB.out.cell (p := ⟨b, off + k, none⟩) HB.out]; exact HC.out k x hx
      have H := star_any x
      have HX := Lib.hid hx
      clear hx
      cases hq : starB x with
      | false =>
        simp only [hq, Bool.not_false] at H
        have HQ := Lib.hid hq
        clear hq
        go_wp2_with (go_at_fn 74; refine (H _).mono ?_; rintro e w' ⟨rfl, hb'⟩)
        go_ret
        refine ⟨hB.out.trans (hb'.mono hB.out.size), _, rfl, ?_⟩
        have : l.all starB = false := by
          rw [List.all_eq_false]
          exact ⟨x, List.mem_of_getElem? HX.out, by rw [HQ.out]; simp⟩
        rw [this]; simp
      | true =>
        simp only [hq, Bool.not_true] at H
        have HQ := Lib.hid hq
        clear hq
        go_wp2_with (go_at_fn 74; refine (H _).mono ?_; rintro e w' ⟨rfl, hb'⟩)
        go_roundg (l.length - (k + 1))
        case measure => omega
        case rel =>
          refine ⟨k + 1, by go_num, by omega, by omega, (hB.out.trans (hb'.mono hB.out.size) : _), ?_⟩
          show (l.take (k + 1)).all starB = true
          rw [List.take_add_one, HX.out, List.all_append, hall.out]; simp [HQ.out]
    · obtain rfl : k = l.length := by omega
      go_wp2
      go_ret
      have h := hall.out
      rw [List.take_length] at h
      exact ⟨hB.out, _, rfl, by rw [h]; rfl⟩
theorem containsS_any (u v : Value) (q : Bool) (w : World) (H : Calls Tryd.prog 103 #[u, v] w
      fun e w' => Below w.heap.size w w' ∧ ∃ r : Int, e = .returned (.int .i64 r) ∧ decide (0 ≤ r) = !q) :
    Calls Tryd.prog 73 #[u, v] w fun e w' => e = .returned (.bool (!q)) ∧ Below w.heap.size w w' := by
  have HH := Lib.hid H
  clear H
  go_enter Tryd.func73, Tryd.ntmps73
  go_wp2_with fail
  refine HH.out.mono ?_
  rintro e w1 ⟨hb, r, rfl, hr⟩
  have HR := Lib.hid hr
  clear hr
  go_wp2
  go_ret
  exact ⟨by rw [← HR.out]; rfl, hb⟩
set_option maxHeartbeats 2000000 in
set_option maxRecDepth 100000 in
theorem ends_any (l : List (List UInt8)) (k b off c : Nat) (w : World) (hk : k ≤ l.length) (hn : l.length ≤ 1000) (hcl : l.length ≤ c) (hcm : c ≤ 9223372036854775807) (hb : b < w.heap.size) (hc : ∀ j x, l[j]? = some x → w.cell? ⟨b, off + j, none⟩ = some (encS x)) :
    Calls Tryd.prog 41 #[.slice (some ⟨b, off, none⟩) l.length c, .int .i64 (k : Int)] w
      fun e w' => e = .returned (.bool (endsP l k)) ∧ Below w.heap.size w w' := by
  have HI := Lib.hid (fun A c' hA => idxS_any (l.drop k) b (off + k) c' w (by simp; omega) hb (fun j x hj => by
    rw [Nat.add_assoc]; rw [List.getElem?_drop] at hj; exact hc (k + j) x hj) A hA)
  clear hc
  unfold endsP
  generalize hq : (l.drop k).all starB = q at *
  have hdl : (l.drop k).length = l.length - k := by simp
  rw [hdl] at HI
  clear hdl hq
  have hcs : c = k ∨ c ≠ k := by omega
  go_enter Tryd.func41, Tryd.ntmps41
  go_wp2_with fail
  all_goals
    refine (containsS_any _ _ q w (HI.out _ _ (by intro h; first | rfl | omega))).mono ?_
    rintro e w1 ⟨rfl, hb1⟩
    go_wp2
    go_ret
    exact ⟨by cases q <;> rfl, hb1⟩
end Go.Proofs.YtddilmocngedjaaDoor
