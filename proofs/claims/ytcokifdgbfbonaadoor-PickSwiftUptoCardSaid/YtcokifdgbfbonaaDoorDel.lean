/- slices.DeleteFunc at a set's bound predicate. -/
import Derived.Test.YtcokifdgbfbonaaDoorIdx
import Derived.Lib.SliceRun
namespace Go.Proofs.YtcokifdgbfbonaaDoor
set_option linter.unusedVariables false
set_option linter.unusedSimpArgs false
open Go.RowKit Go.Lib
def keepS (s : Int) (xs : List Int) : List Int := xs.filter fun x => hasS s x
/-- where a row's cells stand behind j of n -/
def DelInv (s : Int) (g n : Nat) (xs : List Int) (w wr : World) (i j : Nat) : Prop :=
  Below g w wr ∧ i < j ∧ j ≤ n ∧ (keepS s (xs.take j)).length = i ∧ (∀ t, t < n → wr.frozen? ⟨g, t, none⟩ = false) ∧
  (∀ t, t < i → wr.cell? ⟨g, t, none⟩ = some (.int .i64 ((keepS s (xs.take j)).getD t 0))) ∧ (∀ t, i ≤ t → t < n → ∃ z : Int, wr.cell? ⟨g, t, none⟩ = some (.int .i64 z) ∧ (j ≤ t → z = xs.getD t 0))
theorem keepS_succ {s : Int} {xs : List Int} {j : Nat} (hj : j < xs.length) : keepS s (xs.take (j + 1)) = keepS s (xs.take j) ++ (if hasS s (xs.getD j 0) = true then [xs.getD j 0] else []) := by
  unfold keepS
  rw [List.take_add_one, List.getElem?_eq_getElem hj, List.filter_append]
  simp [List.getD_eq_getElem?_getD, hj]
  split <;> simp_all
theorem del_skip {s : Int} {g n : Nat} {xs : List Int} {w wr w' : World} {i j : Nat} (hn : n = xs.length) (h : DelInv s g n xs w wr i j) (hj : j < n) (hk : hasS s (xs.getD j 0) = false) (hb : Below wr.heap.size wr w') (hg : g < wr.heap.size) : DelInv s g n xs w w' i (j + 1) := by
  obtain ⟨h1, h2, h3, h4, h5, h6, h7⟩ := h
  have e := keepS_succ (s := s) (xs := xs) (j := j) (by omega)
  rw [hk] at e
  simp at e
  refine ⟨h1.trans (hb.mono (by omega)), by omega, by omega, by rw [e]; exact h4, fun t ht => ?_, fun t ht => ?_, fun t h1 h2 => ?_⟩
  · rw [hb.frozen (p := ⟨g, t, none⟩) hg]; exact h5 t ht
  · rw [hb.cell (p := ⟨g, t, none⟩) hg, e]; exact h6 t ht
  · obtain ⟨z, hz, hz2⟩ := h7 t h1 h2
    exact ⟨z, by rw [hb.cell (p := ⟨g, t, none⟩) hg]; exact hz, fun h => hz2 (by omega)⟩
theorem del_keep {s : Int} {g n : Nat} {xs : List Int} {w wr w' : World} {i j : Nat} (hn : n = xs.length) (h : DelInv s g n xs w wr i j) (hj : j < n) (hk : hasS s (xs.getD j 0) = true) (hb : Below wr.heap.size wr w') (hg : g < wr.heap.size) : DelInv s g n xs w (w'.setCell ⟨g, i, none⟩ (.int .i64 (xs.getD j 0))) (i + 1) (j + 1) := by
  obtain ⟨h1, h2, h3, h4, h5, h6, h7⟩ := h
  have e := keepS_succ (s := s) (xs := xs) (j := j) (by omega)
  rw [hk] at e
  simp at e
  have oth : ∀ t, t ≠ i → (w'.setCell ⟨g, i, none⟩ (.int .i64 (xs.getD j 0))).cell? ⟨g, t, none⟩ = wr.cell? ⟨g, t, none⟩ := by
    intro t ht
    rw [World.cell?_setCell_other (h := by intro e; injection e with e1 e2; exact ht e2.symm) .., hb.cell (p := ⟨g, t, none⟩) hg]
  obtain ⟨zi, hzi, _⟩ := h7 i (Nat.le_refl _) (by omega)
  have hzi' : w'.cell? ⟨g, i, none⟩ = some (.int .i64 zi) := by rw [hb.cell (p := ⟨g, i, none⟩) hg]; exact hzi
  refine ⟨(h1.trans (hb.mono (by omega))).setCell (p := ⟨g, i, none⟩) (Nat.le_refl _) _, by omega, by omega, by rw [e, List.length_append, h4]; rfl, fun t ht => ?_, fun t ht => ?_, fun t ht1 ht2 => ?_⟩
  · have fz : (w'.setCell ⟨g, i, none⟩ (.int .i64 (xs.getD j 0))).frozen? ⟨g, t, none⟩ = w'.frozen? ⟨g, t, none⟩ := by simp
    rw [fz, hb.frozen (p := ⟨g, t, none⟩) hg]; exact h5 t ht
  · by_cases hti : t = i
    · subst hti
      rw [World.cell?_setCell_same (h := hzi') .., e]
      simp [List.getD_eq_getElem?_getD, List.getElem?_append_right, h4]
    · rw [oth t hti, h6 t (by omega), e]
      simp only [List.getD_eq_getElem?_getD]
      rw [List.getElem?_append_left (by omega)]
  · obtain ⟨z, hz, hz2⟩ := h7 t (by omega) ht2
    exact ⟨z, by rw [oth t (by omega)]; exact hz, fun h => hz2 (by omega)⟩
theorem keepS_all {s : Int} {xs : List Int} {k : Nat} (hk : k ≤ xs.length) (h : ∀ j, j < k → hasS s (xs.getD j 0) = true) : keepS s (xs.take k) = xs.take k := by
  unfold keepS
  rw [List.filter_eq_self]
  intro x hx
  obtain ⟨j, hj, rfl⟩ := List.getElem_of_mem hx
  rw [List.length_take] at hj
  have := h j (by omega)
  rw [List.getD_eq_getElem?_getD, List.getElem?_eq_getElem (by omega)] at this
  rw [List.getElem_take]
  exact this
theorem del_start {s : Int} {g n k : Nat} {xs : List Int} {w w' : World} (hn : n = xs.length) (hk : k < n) (hkl : hasS s (xs.getD k 0) = false) (hall : ∀ j, j < k → hasS s (xs.getD j 0) = true) (hb : Below w.heap.size w w') (hg : g < w.heap.size)
    (hc : ∀ j, j < n → w.cell? ⟨g, j, none⟩ = some (.int .i64 (xs.getD j 0))) (hf : ∀ j, j < n → w.frozen? ⟨g, j, none⟩ = false) : DelInv s g n xs w w' k (k + 1) := by
  have e := keepS_succ (s := s) (xs := xs) (j := k) (by omega)
  rw [hkl, keepS_all (by omega) hall] at e
  simp at e
  refine ⟨hb.mono (by omega), by omega, by omega, by rw [e, List.length_take]; omega, fun t ht => ?_, fun t ht => ?_, fun t h1 h2 => ⟨xs.getD t 0, ?_, fun _ => rfl⟩⟩
  · rw [hb.frozen (p := ⟨g, t, none⟩) hg]; exact hf t ht
  · rw [hb.cell (p := ⟨g, t, none⟩) hg, hc t (by omega), e]
    simp only [List.getD_eq_getElem?_getD]
    rw [List.getElem?_take_of_lt (by omega)]
  · rw [hb.cell (p := ⟨g, t, none⟩) hg]; exact hc t h2
theorem below_setCells {B : Nat} {w : World} {g : Nat} (hg : B ≤ g) : ∀ (vs : List Value) (o : Nat) (wr : World), Below B w wr → Below B w (wr.setCells g o vs)
  | [], o, wr, h => h
  | v :: vs, o, wr, h => below_setCells hg vs (o + 1) (wr.setCell ⟨g, o, none⟩ v) (h.setCell (p := ⟨g, o, none⟩) hg v)
set_option maxHeartbeats 4000000 in
set_option maxRecDepth 100000 in
theorem del_any (s : Int) (hs : 0 ≤ s ∧ s ≤ 255) (g n c : Nat) (xs : List Int) (w : World) (hx : n = xs.length) (hn : n ≤ 100) (hcap : n ≤ c) (hr : ∀ j, j < n → 0 ≤ xs.getD j 0 ∧ xs.getD j 0 ≤ 100) (hg : g < w.heap.size) (hc : ∀ j, j < n → w.cell? ⟨g, j, none⟩ = some (.int .i64 (xs.getD j 0))) (hf : ∀ j, j < n → w.frozen? ⟨g, j, none⟩ = false) :
    Calls Tryd.prog 86 #[.slice (some ⟨g, 0, none⟩) n c, .func (.func 87) #[.int .u8 s] #[]] w
      fun e w' => e = .returned (.slice (some ⟨g, 0, none⟩) (keepS s xs).length c) ∧ Below g w w' ∧ ∀ t, t < (keepS s xs).length → w'.cell? ⟨g, t, none⟩ = some (.int .i64 ((keepS s xs).getD t 0)) := by
  have HI := idx_any s hs g 0 n c (fun j => xs.getD j 0) w hn hr hg (fun j hj => by rw [Nat.zero_add]; exact hc j hj)
  have HX := Lib.hid hx
  have HC := Lib.hid hc
  have HF := Lib.hid hf
  have HR := Lib.hid hr
  have HG := Lib.hid hg
  clear hx hc hf hr hg
  have enter : ∀ args w, (callFunc 87 args).run Tryd.prog w = .ok (.enter 87 args) w := Tryd.call87
  go_enter Tryd.func86, Tryd.ntmps86
  go_wp2_with (go_at_call 127; refine HI.mono ?_; rintro e w' ⟨hb', ⟨rfl, hall⟩ | ⟨k, hk, rfl, hk1, hall⟩⟩)
  · have e : keepS s xs = xs := by
      have := keepS_all (s := s) (xs := xs) (k := xs.length) (Nat.le_refl _) (by rw [← HX.out]; exact hall)
      rwa [List.take_length] at this
    have E := Lib.hid e
    have HB := Lib.hid hb'
    clear e hall hb' HI
    go_wp2
    go_ret
    rw [E.out]
    refine ⟨by rw [HX.out]; rfl, HB.out.mono (Nat.le_of_lt HG.out), fun t ht => ?_⟩
    rw [HB.out.cell (p := ⟨g, t, none⟩) HG.out]
    exact HC.out t (by rw [HX.out]; exact ht)
  · have ST := Lib.hid (del_start HX.out hk hk1 hall hb' HG.out HC.out HF.out)
    have HSZ := Lib.hid hb'.size
    clear hk1 hall HI hb'
    go_wp2
    go_loopg [5, 6, 7] n (fun gg s5 s6 _ wr => ∃ i j : Nat, s5 = .int .i64 i ∧ s6 = .int .i64 j ∧ j ≤ n ∧ n - j ≤ gg ∧ i < j ∧ Hid (g < wr.heap.size) ∧ Hid (DelInv s g n xs w wr i j))
    case atStart => exact ⟨k, k + 1, rfl, by go_num, by omega, by omega, by omega, (Nat.lt_of_lt_of_le HG.out HSZ.out : _), ST⟩
    case round =>
      obtain ⟨i, j, rfl, rfl, hjn, hgg, hij, hgr, hI⟩ := hrel
      by_cases hlt : j < n
      · obtain ⟨zj, cj, ez⟩ := hI.out.2.2.2.2.2.2 j (by omega) hlt
        obtain ⟨zi, ci, _⟩ := hI.out.2.2.2.2.2.2 i (by omega) (by omega)
        have fi := hI.out.2.2.2.2.1 i (by omega)
        have EZ := Lib.hid (ez (Nat.le_refl _))
        have hz := HR.out j hlt
        rw [← EZ.out] at hz
        have H := lacks_any s zj hs hz
        clear ez
        cases hq : hasS s zj with
        | false =>
          simp only [hq, Bool.not_false] at H
          have HQ := Lib.hid hq
          clear hq
          go_wp2_with (go_at_fn 87; refine (H _).mono ?_; rintro e w' ⟨rfl, hb'⟩)
          go_roundg (n - (j + 1))
          case measure => omega
          case rel => exact ⟨i, j + 1, rfl, by go_num, by omega, by omega, by omega, (Nat.lt_of_lt_of_le hgr.out hb'.size : _), (del_skip HX.out hI.out hlt (by rw [← EZ.out]; exact HQ.out) hb' hgr.out : _)⟩
        | true =>
          simp only [hq, Bool.not_true] at H
          have HQ := Lib.hid hq
          clear hq
          go_wp2_with (go_at_fn 87; refine (H _).mono ?_; rintro e w' ⟨rfl, hb'⟩; have ci' := (hb'.cell (p := ⟨g, i, none⟩) hgr.out).trans ci; have fi' := (hb'.frozen (p := ⟨g, i, none⟩) hgr.out).trans fi; have HB' := Lib.hid hb'; clear hb')
          go_roundg (n - (j + 1))
          case measure => omega
          case rel =>
            refine ⟨i + 1, j + 1, by go_num, by go_num, by omega, by omega, by omega, ?_, ?_⟩
            · show _ < _
              simp
              exact Nat.lt_of_lt_of_le hgr.out HB'.out.size
            · have D := del_keep HX.out hI.out hlt (by rw [← EZ.out]; exact HQ.out) HB'.out hgr.out
              rw [← EZ.out] at D
              exact D
      · obtain rfl : j = n := by omega
        have hcl : ∀ ty, (Builtin.clear_ #[64] ty #[.slice (some ⟨g, i, none⟩) (j - i) (c - i)]).run Tryd.prog wr = .ok (.tuple #[]) (wr.setCells g i (List.replicate (j - i) (.int .i64 0))) := fun ty =>
          Lib.run_clear_slice wr _ 3 ty (.int .i64 0) Tryd.underlying64 Tryd.zeroValue3 rfl rfl g i (j - i) (c - i) (by omega)
            (fun t ht => by
              obtain ⟨z, hz, _⟩ := hI.out.2.2.2.2.2.2 (i + t) (by omega) (by omega)
              rw [hz]; rfl)
            (fun t ht => by exact hI.out.2.2.2.2.1 (i + t) (by omega))
        have E := Lib.hid (show keepS s (xs.take j) = keepS s xs from by rw [HX.out, List.take_length])
        go_wp2
        go_ret
        obtain ⟨I1, I2, I3, I4, I5, I6, I7⟩ := hI.out
        rw [E.out] at I4 I6
        refine ⟨by rw [I4]; rfl, below_setCells (Nat.le_refl _) _ _ _ I1, fun t ht => ?_⟩
        rw [World.cell?_setCells_out g _ _ _ _ (by intro _ _; left; show t < i; omega)]
        exact I6 t (by omega)
end Go.Proofs.YtcokifdgbfbonaaDoor
