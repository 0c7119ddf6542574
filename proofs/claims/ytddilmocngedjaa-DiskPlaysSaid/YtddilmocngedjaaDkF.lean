/- The document's Crash: by hand. -/
import Derived.Test.YtddilmocngedjaaDkE
namespace Go.Proofs.Ytddilmocngedjaa
set_option linter.unusedVariables false
set_option linter.unusedSimpArgs false
open Go Go.Proofs Go.RowKit Go.Lib
/-- the document's disk, as a value -/
def refV (sz : Int) (y0 y1 : Value) (r0 r1 ru : Int) (rd : Bool) : Array Value := #[.int .i64 sz, y0, y1, .int .i64 r0, .int .i64 r1, .int .i64 ru, .bool rd]
/-- the document's disk in its box; what is to be kept in another; a third for what comes back -/
def RcAt (w wr : World) (cs : Array Value) (k0 k1 : Int) : Prop :=
  Below w.heap.size w wr ∧ (∃ t, wr.heap[w.heap.size]? = some (.cells cs t (0, 0))) ∧ (∃ t, wr.heap[w.heap.size + 1]? = some (.cells #[.int .i64 k0, .int .i64 k1] t (0, 0))) ∧
    ∃ t, wr.heap[w.heap.size + 2]? = some (.cells #[.int .i64 0, .slice none 0 0, .slice none 0 0, .int .i64 0, .int .i64 0, .int .i64 0, .bool false] t (0, 0))
theorem RcAt.drew {w wr : World} {cs : Array Value} {k0 k1 : Int} (h : RcAt w wr cs k0 k1) : RcAt w wr.drew cs k0 k1 := ⟨h.1.drew, h.2.1, h.2.2.1, h.2.2.2⟩
theorem RcAt.set {w wr : World} {cs : Array Value} {k0 k1 : Int} (h : RcAt w wr cs k0 k1) (i : Nat) (u : Value) : RcAt w (wr.setCell ⟨w.heap.size, i, none⟩ u) (cs.setIfInBounds i u) k0 k1 := by
  obtain ⟨hB, ⟨t1, g1⟩, ⟨t2, g2⟩, ⟨t3, g3⟩⟩ := h
  refine ⟨hB.setCell (p := ⟨w.heap.size, i, none⟩) (Nat.le_refl _) u, ⟨t1, heap_setCell_same wr w.heap.size i cs t1 u g1⟩, ⟨t2, ?_⟩, ⟨t3, ?_⟩⟩
  · rw [Below.heap_setCell wr ⟨w.heap.size, i, none⟩ u _ (by show w.heap.size + 1 ≠ w.heap.size; omega)]; exact g2
  · rw [Below.heap_setCell wr ⟨w.heap.size, i, none⟩ u _ (by show w.heap.size + 2 ≠ w.heap.size; omega)]; exact g3
theorem RcAt.cell {w wr : World} {cs : Array Value} {k0 k1 : Int} (h : RcAt w wr cs k0 k1) (i : Nat) : wr.cell? ⟨w.heap.size, i, none⟩ = cs[i]? := by
  obtain ⟨hB, ⟨t1, g1⟩, _⟩ := h
  exact cell_of_row wr w.heap.size i _ t1 (0, 0) g1
theorem RcAt.kcell {w wr : World} {cs : Array Value} {k0 k1 : Int} (h : RcAt w wr cs k0 k1) (i : Nat) : wr.cell? ⟨w.heap.size + 1, i, none⟩ = (#[Value.int .i64 k0, Value.int .i64 k1] : Array Value)[i]? := by
  obtain ⟨hB, _, ⟨t2, g2⟩, _⟩ := h
  exact cell_of_row wr (w.heap.size + 1) i _ t2 (0, 0) g2
theorem RcAt.frozen {w wr : World} {cs : Array Value} {k0 k1 : Int} (h : RcAt w wr cs k0 k1) (i : Nat) : wr.frozen? ⟨w.heap.size, i, none⟩ = false := by
  obtain ⟨hB, ⟨t1, g1⟩, _⟩ := h
  simp [World.frozen?, g1]
def RcT (w wr : World) (cs : Array Value) : Prop := Below w.heap.size w wr ∧ ∃ t, wr.heap[w.heap.size + 1 + 1]? = some (.cells cs t (0, 0))
theorem RcT.set {w wr : World} {cs : Array Value} (h : RcT w wr cs) (i : Nat) (u : Value) : RcT w (wr.setCell ⟨w.heap.size + 1 + 1, i, none⟩ u) (cs.setIfInBounds i u) := by
  obtain ⟨hB, t3, g3⟩ := h
  exact ⟨hB.setCell (p := ⟨w.heap.size + 1 + 1, i, none⟩) (by show w.heap.size ≤ w.heap.size + 1 + 1; omega) u, t3, heap_setCell_same wr (w.heap.size + 1 + 1) i cs t3 u g3⟩
theorem RcT.cell {w wr : World} {cs : Array Value} (h : RcT w wr cs) (i : Nat) : wr.cell? ⟨w.heap.size + 1 + 1, i, none⟩ = cs[i]? := by
  obtain ⟨hB, t3, g3⟩ := h
  exact cell_of_row wr (w.heap.size + 1 + 1) i _ t3 (0, 0) g3
theorem RcT.frozen {w wr : World} {cs : Array Value} (h : RcT w wr cs) (i : Nat) : wr.frozen? ⟨w.heap.size + 1 + 1, i, none⟩ = false := by
  obtain ⟨hB, t3, g3⟩ := h
  simp [World.frozen?, g3]
def cutN (s : Int) (n : Nat) (k : Int) : Nat := (cutS s n k).toNat
set_option maxHeartbeats 4000000 in
set_option maxRecDepth 100000 in
theorem rcrash_any (sz r0 r1 ru : Int) (rd : Bool) (A0 A1 : Option Addr) (n0 c0 n1 c1 : Nat) (k0 k1 : Int) (w : World) (h1 : 0 ≤ r0) (h2 : r0 ≤ n0) (h3 : 0 ≤ r1) (h4 : r1 ≤ n1) (h5 : n0 ≤ c0) (h6 : n1 ≤ c1) (h7 : n0 ≤ 16777216) (h8 : n1 ≤ 16777216) :
    Calls Try.prog 40 #[.agg (refV sz (.slice A0 n0 c0) (.slice A1 n1 c1) r0 r1 ru rd), .agg #[.int .i64 k0, .int .i64 k1]] w fun e w' => Below w.heap.size w w' ∧
      e = .returned (.agg (refV sz (.slice A0 (cutS r0 n0 k0).toNat c0) (.slice A1 (cutS r1 n1 k1).toNat c1) (cutS r0 n0 k0) (cutS r1 n1 k1) (-1) false)) := by
  have mixed : Try.prog.follows .mixedOrders = true := by kernel_rfl
  unfold refV
  go_enter Try.func40, Try.ntmps40
  go_wp2
  go_loopg [5, 6] 2 (fun gg s5 _ wr => ∃ f : Nat, s5 = .int .i64 (f : Int) ∧ f ≤ 2 ∧ 2 - f ≤ gg ∧ Hid (RcAt w wr (refV sz (.slice A0 (if 0 < f then cutN r0 n0 k0 else n0) c0) (.slice A1 (if 1 < f then cutN r1 n1 k1 else n1) c1) (if 0 < f then cutS r0 n0 k0 else r0) (if 1 < f then cutS r1 n1 k1 else r1) ru rd) k0 k1))
  case atStart =>
    refine ⟨0, rfl, by omega, by omega, ?_⟩
    have hb1 := (Below.refl w.heap.size w).alloc (Nat.le_refl _) (.cells #[.int .i64 sz, .slice A0 n0 c0, .slice A1 n1 c1, .int .i64 r0, .int .i64 r1, .int .i64 ru, .bool rd] 40)
    have hb2 := hb1.alloc (by show _ ≤ (w.heap.push _).size; rw [Array.size_push]; exact Nat.le_succ _) (.cells #[.int .i64 k0, .int .i64 k1] 32)
    have hb3 := hb2.alloc (by show _ ≤ ((w.heap.push _).push _).size; rw [Array.size_push, Array.size_push]; exact Nat.le_add_right _ 2) (.cells #[.int .i64 0, .slice none 0 0, .slice none 0 0, .int .i64 0, .int .i64 0, .int .i64 0, .bool false] 40)
    refine (⟨hb3, ⟨40, ?_⟩, ⟨32, ?_⟩, ⟨40, ?_⟩⟩ : RcAt _ _ _ _ _)
    · rw [if_neg (by decide), if_neg (by decide), if_neg (by decide), if_neg (by decide)]
      simp only [World.alloc, Array.getElem?_push, Array.size_push]
      rw [if_neg (by omega), if_neg (by omega), if_pos trivial]; rfl
    · simp only [World.alloc, Array.getElem?_push, Array.size_push]
      rw [if_neg (by omega), if_pos trivial]
    · simp only [World.alloc, Array.getElem?_push, Array.size_push]
      rw [if_pos trivial]
  case round =>
    obtain ⟨f, rfl, hf, hg, hI⟩ := hrel
    have hf3 : f = 0 ∨ f = 1 ∨ f = 2 := by omega
    rcases hf3 with rfl | rfl | rfl
    · have HI : Hid (RcAt w wr (refV sz (.slice A0 n0 c0) (.slice A1 n1 c1) r0 r1 ru rd) k0 k1) := hI
      clear hI
      generalize wr = wo at *
      go_wp2
      go_loopg [6] (cutS r0 n0 k0 - r0).toNat (fun gg s6 wr => ∃ j : Nat, s6 = .int .i64 (j : Int) ∧ r0 + j ≤ cutS r0 n0 k0 ∧ (cutS r0 n0 k0 - r0).toNat - j ≤ gg ∧ Hid (RcAt w wr (refV sz (.slice A0 n0 c0) (.slice A1 n1 c1) (r0 + j) r1 ru rd) k0 k1))
      case atStart =>
        refine ⟨0, rfl, by unfold cutS; omega, by omega, ?_⟩
        have e : r0 + ((0 : Nat) : Int) = r0 := by omega
        rw [e]
        exact HI
      case round =>
        obtain ⟨j, rfl, hj, hgj, hI⟩ := hrel
        have cc1 : wr.cell? ⟨w.heap.size, 1, none⟩ = some (.slice A0 n0 c0) := hI.out.cell 1
        have cc3 : wr.cell? ⟨w.heap.size, 3, none⟩ = some (.int .i64 (r0 + j)) := hI.out.cell 3
        have ck : wr.cell? ⟨w.heap.size + 1, 0, none⟩ = some (.int .i64 k0) := hI.out.kcell 0
        have z3 := hI.out.frozen 3
        by_cases hlt : r0 + j < cutS r0 n0 k0
        · have hq1 : (j : Int) < k0 := by unfold cutS at hlt; omega
          have hq2 : r0 + j < n0 := by unfold cutS at hlt; omega
          have d1 : decide ((j : Int) < k0) = true := by simpa using hq1
          have d2 : decide (r0 + j < (n0 : Int)) = true := by simpa using hq2
          have HS : Hid (RcAt w (wr.setCell ⟨w.heap.size, 3, none⟩ (.int .i64 (r0 + j + 1))).drew (refV sz (.slice A0 n0 c0) (.slice A1 n1 c1) (r0 + ((j + 1 : Nat) : Int)) r1 ru rd) k0 k1) := by
            have h1 := (hI.out.set 3 (.int .i64 (r0 + j + 1))).drew
            have e : r0 + ((j + 1 : Nat) : Int) = r0 + j + 1 := by omega
            rw [e]; exact h1
          clear hI
          go_wp2_with fail
          go_region_o
          go_wp2
          generalize (wr.setCell ⟨w.heap.size, 3, none⟩ (.int .i64 (r0 + j + 1))).drew = w4 at *
          go_roundg ((cutS r0 n0 k0 - r0).toNat - (j + 1))
          case measure => omega
          case rel => exact ⟨j + 1, by go_num, by omega, by omega, HS⟩
        · have hq : decide ((j : Int) < k0) = false ∨ decide ((j : Int) < k0) = true ∧ decide (r0 + j < (n0 : Int)) = false := by
            unfold cutS at hlt hj
            by_cases h : (j : Int) < k0
            · exact .inr ⟨by simpa using h, by simp; omega⟩
            · exact .inl (by simpa using h)
          have hend : r0 + j = cutS r0 n0 k0 := by omega
          rw [hend] at cc3
          have HE : Hid (RcAt w wr (refV sz (.slice A0 n0 c0) (.slice A1 n1 c1) (cutS r0 n0 k0) r1 ru rd) k0 k1) := by have := hI.out; rw [hend] at this; exact this
          obtain ⟨m, hm⟩ : ∃ m : Nat, cutS r0 n0 k0 = (m : Int) := ⟨(cutS r0 n0 k0).toNat, by unfold cutS; omega⟩
          have hmn : m ≤ n0 := by unfold cutS at hm; omega
          have HMm := Lib.hid hm
          have z1 := hI.out.frozen 1
          rw [hm] at cc3
          have HF : Hid (RcAt w (wr.setCell ⟨w.heap.size, 1, none⟩ (.slice A0 m c0)).drew.drew (refV sz (.slice A0 (if 0 < 1 then cutN r0 n0 k0 else n0) c0) (.slice A1 (if 1 < 1 then cutN r1 n1 k1 else n1) c1) (if 0 < 1 then cutS r0 n0 k0 else r0) (if 1 < 1 then cutS r1 n1 k1 else r1) ru rd) k0 k1) := by
            have h1 := (HE.out.set 1 (.slice A0 m c0)).drew.drew
            have e : cutN r0 n0 k0 = m := by unfold cutN; rw [hm]; simp
            rw [if_pos (by decide), if_neg (by decide), if_pos (by decide), if_neg (by decide), e]
            exact h1
          rw [hend, hm] at hq
          have hq : decide ((j : Int) < k0) = false ∨ decide ((j : Int) < k0) = true ∧ decide (m < n0) = false := by
            rcases hq with h | ⟨h, h'⟩
            · exact .inl h
            · exact .inr ⟨h, by simpa using h'⟩
          clear hI hend
          rcases hq with d1 | ⟨d1, d2⟩
          all_goals
            go_wp2_with fail
            go_region_o
            go_wp2_with fail
            go_region_o
            go_wp2
            generalize (wr.setCell ⟨w.heap.size, 1, none⟩ (.slice A0 m c0)).drew.drew = w5 at *
            go_roundg 1
            case measure => omega
            case rel => exact ⟨1, by go_num, by omega, by omega, HF⟩
    · have HI : Hid (RcAt w wr (refV sz (.slice A0 (cutN r0 n0 k0) c0) (.slice A1 n1 c1) (cutS r0 n0 k0) r1 ru rd) k0 k1) := hI
      clear hI
      generalize wr = wo at *
      go_wp2
      go_loopg [6] (cutS r1 n1 k1 - r1).toNat (fun gg s6 wr => ∃ j : Nat, s6 = .int .i64 (j : Int) ∧ r1 + j ≤ cutS r1 n1 k1 ∧ (cutS r1 n1 k1 - r1).toNat - j ≤ gg ∧ Hid (RcAt w wr (refV sz (.slice A0 (cutN r0 n0 k0) c0) (.slice A1 n1 c1) (cutS r0 n0 k0) (r1 + j) ru rd) k0 k1))
      case atStart =>
        refine ⟨0, rfl, by unfold cutS; omega, by omega, ?_⟩
        have e : r1 + ((0 : Nat) : Int) = r1 := by omega
        rw [e]
        exact HI
      case round =>
        obtain ⟨j, rfl, hj, hgj, hI⟩ := hrel
        have cc1 : wr.cell? ⟨w.heap.size, 2, none⟩ = some (.slice A1 n1 c1) := hI.out.cell 2
        have cc3 : wr.cell? ⟨w.heap.size, 4, none⟩ = some (.int .i64 (r1 + j)) := hI.out.cell 4
        have ck : wr.cell? ⟨w.heap.size + 1, 1, none⟩ = some (.int .i64 k1) := hI.out.kcell 1
        have z3 := hI.out.frozen 4
        by_cases hlt : r1 + j < cutS r1 n1 k1
        · have hq1 : (j : Int) < k1 := by unfold cutS at hlt; omega
          have hq2 : r1 + j < n1 := by unfold cutS at hlt; omega
          have d1 : decide ((j : Int) < k1) = true := by simpa using hq1
          have d2 : decide (r1 + j < (n1 : Int)) = true := by simpa using hq2
          have HS : Hid (RcAt w (wr.setCell ⟨w.heap.size, 4, none⟩ (.int .i64 (r1 + j + 1))).drew (refV sz (.slice A0 (cutN r0 n0 k0) c0) (.slice A1 n1 c1) (cutS r0 n0 k0) (r1 + ((j + 1 : Nat) : Int)) ru rd) k0 k1) := by
            have h1 := (hI.out.set 4 (.int .i64 (r1 + j + 1))).drew
            have e : r1 + ((j + 1 : Nat) : Int) = r1 + j + 1 := by omega
            rw [e]; exact h1
          clear hI
          go_wp2_with fail
          go_region_o
          go_wp2
          generalize (wr.setCell ⟨w.heap.size, 4, none⟩ (.int .i64 (r1 + j + 1))).drew = w4 at *
          go_roundg ((cutS r1 n1 k1 - r1).toNat - (j + 1))
          case measure => omega
          case rel => exact ⟨j + 1, by go_num, by omega, by omega, HS⟩
        · have hq : decide ((j : Int) < k1) = false ∨ decide ((j : Int) < k1) = true ∧ decide (r1 + j < (n1 : Int)) = false := by
            unfold cutS at hlt hj
            by_cases h : (j : Int) < k1
            · exact .inr ⟨by simpa using h, by simp; omega⟩
            · exact .inl (by simpa using h)
          have hend : r1 + j = cutS r1 n1 k1 := by omega
          rw [hend] at cc3
          have HE : Hid (RcAt w wr (refV sz (.slice A0 (cutN r0 n0 k0) c0) (.slice A1 n1 c1) (cutS r0 n0 k0) (cutS r1 n1 k1) ru rd) k0 k1) := by have := hI.out; rw [hend] at this; exact this
          obtain ⟨m, hm⟩ : ∃ m : Nat, cutS r1 n1 k1 = (m : Int) := ⟨(cutS r1 n1 k1).toNat, by unfold cutS; omega⟩
          have hmn : m ≤ n1 := by unfold cutS at hm; omega
          have HMm := Lib.hid hm
          have z1 := hI.out.frozen 2
          rw [hm] at cc3
          have HF : Hid (RcAt w (wr.setCell ⟨w.heap.size, 2, none⟩ (.slice A1 m c1)).drew.drew (refV sz (.slice A0 (if 0 < 2 then cutN r0 n0 k0 else n0) c0) (.slice A1 (if 1 < 2 then cutN r1 n1 k1 else n1) c1) (if 0 < 2 then cutS r0 n0 k0 else r0) (if 1 < 2 then cutS r1 n1 k1 else r1) ru rd) k0 k1) := by
            have h1 := (HE.out.set 2 (.slice A1 m c1)).drew.drew
            have e : cutN r1 n1 k1 = m := by unfold cutN; rw [hm]; simp
            rw [if_pos (by decide), if_pos (by decide), if_pos (by decide), if_pos (by decide), e]
            exact h1
          rw [hend, hm] at hq
          have hq : decide ((j : Int) < k1) = false ∨ decide ((j : Int) < k1) = true ∧ decide (m < n1) = false := by
            rcases hq with h | ⟨h, h'⟩
            · exact .inl h
            · exact .inr ⟨h, by simpa using h'⟩
          clear hI hend
          rcases hq with d1 | ⟨d1, d2⟩
          all_goals
            go_wp2_with fail
            go_region_o
            go_wp2_with fail
            go_region_o
            go_wp2
            generalize (wr.setCell ⟨w.heap.size, 2, none⟩ (.slice A1 m c1)).drew.drew = w5 at *
            go_roundg 0
            case measure => omega
            case rel => exact ⟨2, by go_num, by omega, by omega, HF⟩
    · have HI : Hid (RcAt w wr (refV sz (.slice A0 (cutN r0 n0 k0) c0) (.slice A1 (cutN r1 n1 k1) c1) (cutS r0 n0 k0) (cutS r1 n1 k1) ru rd) k0 k1) := hI
      obtain ⟨a0, ha0⟩ : ∃ a : Nat, cutN r0 n0 k0 = a := ⟨_, rfl⟩
      obtain ⟨a1, ha1⟩ : ∃ a : Nat, cutN r1 n1 k1 = a := ⟨_, rfl⟩
      have z5 := HI.out.frozen 5
      have z6 := HI.out.frozen 6
      have q5 : wr.cell? ⟨w.heap.size, 5, none⟩ = some (.int .i64 ru) := HI.out.cell 5
      have q6 : wr.cell? ⟨w.heap.size, 6, none⟩ = some (.bool rd) := HI.out.cell 6
      obtain ⟨x0, hx0⟩ : ∃ x : Int, cutS r0 n0 k0 = x := ⟨_, rfl⟩
      obtain ⟨x1, hx1⟩ : ∃ x : Int, cutS r1 n1 k1 = x := ⟨_, rfl⟩
      have HX := Lib.hid (And.intro (And.intro ha0 ha1) (And.intro hx0 hx1))
      rw [ha0, ha1, hx0, hx1] at HI
      clear ha0 ha1 hx0 hx1
      have HJ := Lib.hid ((HI.out.set 5 (.int .i64 (-1))).set 6 (.bool false))
      obtain ⟨W0, hW0⟩ : ∃ W, (wr.setCell ⟨w.heap.size, 5, none⟩ (.int .i64 (-1))).setCell ⟨w.heap.size, 6, none⟩ (.bool false) = W := ⟨_, rfl⟩
      rw [hW0] at HJ
      have y0 : W0.cell? ⟨w.heap.size, 0, none⟩ = some (.int .i64 sz) := HJ.out.cell 0
      have y1 : W0.cell? ⟨w.heap.size, 1, none⟩ = some (.slice A0 a0 c0) := HJ.out.cell 1
      have y2 : W0.cell? ⟨w.heap.size, 2, none⟩ = some (.slice A1 a1 c1) := HJ.out.cell 2
      have y3 : W0.cell? ⟨w.heap.size, 3, none⟩ = some (.int .i64 x0) := HJ.out.cell 3
      have y4 : W0.cell? ⟨w.heap.size, 4, none⟩ = some (.int .i64 x1) := HJ.out.cell 4
      have y5 : W0.cell? ⟨w.heap.size, 5, none⟩ = some (.int .i64 (-1)) := HJ.out.cell 5
      have y6 : W0.cell? ⟨w.heap.size, 6, none⟩ = some (.bool false) := HJ.out.cell 6
      have T0 : RcT w W0 #[.int .i64 0, .slice none 0 0, .slice none 0 0, .int .i64 0, .int .i64 0, .int .i64 0, .bool false] := ⟨HJ.out.1, HJ.out.2.2.2⟩
      have t0 : W0.cell? ⟨w.heap.size + 1 + 1, 0, none⟩ = some (.int .i64 0) := T0.cell 0
      have tz0 : W0.frozen? ⟨w.heap.size + 1 + 1, 0, none⟩ = false := T0.frozen 0
      obtain ⟨W1, hW1⟩ : ∃ W, W0.setCell ⟨w.heap.size + 1 + 1, 0, none⟩ (.int .i64 sz) = W := ⟨_, rfl⟩
      have T1 : RcT w W1 #[.int .i64 sz, .slice none 0 0, .slice none 0 0, .int .i64 0, .int .i64 0, .int .i64 0, .bool false] := by rw [← hW1]; exact T0.set 0 _
      have t1 : W1.cell? ⟨w.heap.size + 1 + 1, 1, none⟩ = some (.slice none 0 0) := T1.cell 1
      have tz1 : W1.frozen? ⟨w.heap.size + 1 + 1, 1, none⟩ = false := T1.frozen 1
      obtain ⟨W2, hW2⟩ : ∃ W, W1.setCell ⟨w.heap.size + 1 + 1, 1, none⟩ (.slice A0 a0 c0) = W := ⟨_, rfl⟩
      have T2 : RcT w W2 #[.int .i64 sz, .slice A0 a0 c0, .slice none 0 0, .int .i64 0, .int .i64 0, .int .i64 0, .bool false] := by rw [← hW2]; exact T1.set 1 _
      have t2 : W2.cell? ⟨w.heap.size + 1 + 1, 2, none⟩ = some (.slice none 0 0) := T2.cell 2
      have tz2 : W2.frozen? ⟨w.heap.size + 1 + 1, 2, none⟩ = false := T2.frozen 2
      obtain ⟨W3, hW3⟩ : ∃ W, W2.setCell ⟨w.heap.size + 1 + 1, 2, none⟩ (.slice A1 a1 c1) = W := ⟨_, rfl⟩
      have T3 : RcT w W3 #[.int .i64 sz, .slice A0 a0 c0, .slice A1 a1 c1, .int .i64 0, .int .i64 0, .int .i64 0, .bool false] := by rw [← hW3]; exact T2.set 2 _
      have t3 : W3.cell? ⟨w.heap.size + 1 + 1, 3, none⟩ = some (.int .i64 0) := T3.cell 3
      have tz3 : W3.frozen? ⟨w.heap.size + 1 + 1, 3, none⟩ = false := T3.frozen 3
      obtain ⟨W4, hW4⟩ : ∃ W, W3.setCell ⟨w.heap.size + 1 + 1, 3, none⟩ (.int .i64 x0) = W := ⟨_, rfl⟩
      have T4 : RcT w W4 #[.int .i64 sz, .slice A0 a0 c0, .slice A1 a1 c1, .int .i64 x0, .int .i64 0, .int .i64 0, .bool false] := by rw [← hW4]; exact T3.set 3 _
      have t4 : W4.cell? ⟨w.heap.size + 1 + 1, 4, none⟩ = some (.int .i64 0) := T4.cell 4
      have tz4 : W4.frozen? ⟨w.heap.size + 1 + 1, 4, none⟩ = false := T4.frozen 4
      obtain ⟨W5, hW5⟩ : ∃ W, W4.setCell ⟨w.heap.size + 1 + 1, 4, none⟩ (.int .i64 x1) = W := ⟨_, rfl⟩
      have T5 : RcT w W5 #[.int .i64 sz, .slice A0 a0 c0, .slice A1 a1 c1, .int .i64 x0, .int .i64 x1, .int .i64 0, .bool false] := by rw [← hW5]; exact T4.set 4 _
      have t5 : W5.cell? ⟨w.heap.size + 1 + 1, 5, none⟩ = some (.int .i64 0) := T5.cell 5
      have tz5 : W5.frozen? ⟨w.heap.size + 1 + 1, 5, none⟩ = false := T5.frozen 5
      obtain ⟨W6, hW6⟩ : ∃ W, W5.setCell ⟨w.heap.size + 1 + 1, 5, none⟩ (.int .i64 (-1)) = W := ⟨_, rfl⟩
      have T6 : RcT w W6 #[.int .i64 sz, .slice A0 a0 c0, .slice A1 a1 c1, .int .i64 x0, .int .i64 x1, .int .i64 (-1), .bool false] := by rw [← hW6]; exact T5.set 5 _
      have t6 : W6.cell? ⟨w.heap.size + 1 + 1, 6, none⟩ = some (.bool false) := T6.cell 6
      have tz6 : W6.frozen? ⟨w.heap.size + 1 + 1, 6, none⟩ = false := T6.frozen 6
      obtain ⟨W7, hW7⟩ : ∃ W, W6.setCell ⟨w.heap.size + 1 + 1, 6, none⟩ (.bool false) = W := ⟨_, rfl⟩
      have T7 : RcT w W7 #[.int .i64 sz, .slice A0 a0 c0, .slice A1 a1 c1, .int .i64 x0, .int .i64 x1, .int .i64 (-1), .bool false] := by rw [← hW7]; exact T6.set 6 _
      have e0 : W7.cell? ⟨w.heap.size + 1 + 1, 0, none⟩ = some (.int .i64 sz) := T7.cell 0
      have e1 : W7.cell? ⟨w.heap.size + 1 + 1, 1, none⟩ = some (.slice A0 a0 c0) := T7.cell 1
      have e2 : W7.cell? ⟨w.heap.size + 1 + 1, 2, none⟩ = some (.slice A1 a1 c1) := T7.cell 2
      have e3 : W7.cell? ⟨w.heap.size + 1 + 1, 3, none⟩ = some (.int .i64 x0) := T7.cell 3
      have e4 : W7.cell? ⟨w.heap.size + 1 + 1, 4, none⟩ = some (.int .i64 x1) := T7.cell 4
      have e5 : W7.cell? ⟨w.heap.size + 1 + 1, 5, none⟩ = some (.int .i64 (-1)) := T7.cell 5
      have e6 : W7.cell? ⟨w.heap.size + 1 + 1, 6, none⟩ = some (.bool false) := T7.cell 6
      have HB7 := Lib.hid T7
      clear hI T0 T1 T2 T3 T4 T5 T6 T7 HI HJ
      go_wp2
      try simp only [Exit.inBlock, Exit.then]
      obtain ⟨hB7, t7, g7⟩ := HB7.out
      refine bodyPost_ret (results_cell_row (p := 4) (ty := 40) rfl _ W7 (w.heap.size + 1 + 1) t7 _ (0, 0) _ rfl g7 Try.underlying40 rfl (by kernel_rfl)) rfl ?_
      obtain ⟨⟨b0, b1⟩, g0, g1⟩ := HX.out
      refine ⟨hB7, ?_⟩
      unfold cutN at b0 b1
      rw [b0, b1, g0, g1]
end Go.Proofs.Ytddilmocngedjaa
