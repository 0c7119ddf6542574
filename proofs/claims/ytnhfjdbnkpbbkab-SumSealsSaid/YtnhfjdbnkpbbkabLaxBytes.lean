/- Bytes among a law's arguments, by content. -/
import Derived.Test.YtnhfjdbnkpbbkabLm3
namespace Go.Proofs.Ytnhfjdbnkpbbkab
set_option linter.unusedVariables false
set_option linter.unusedSimpArgs false
open Go.RowKit

theorem stable_vals {P : Program} (l : List AV) (b o : Nat) : stable P (entrySt (vals l)) noGh b o :=
  ⟨fun h => h, fun s cs h => (by rw [vals_boxes] at h; cases h), fun x y tip h => (by rw [vals_rows] at h; cases h)⟩
/-- bytes that lie in old memory -/
theorem rep_bytes {P : Program} {vs : List AV} {w : World} {A : Option Addr} {l : List UInt8} {c : Nat} (hc : l.length ≤ c) (hm : c ≤ maxLen)
    (h : l = [] ∨ ∃ b off, A = some ⟨b, off, none⟩ ∧ ∀ j u, (l.map fun x => Value.int .u8 (x.toNat : Int))[j]? = some u → w.cell? ⟨b, off + j, none⟩ = some u) :
    Rep P (entrySt (vals vs)) noGh w (.sl (l.map byteAV) .no) (.slice A l.length c) := by
  refine Rep.of1 (?_ : RepP w (stable P (entrySt (vals vs)) noGh) (.sl (l.map byteAV) .no) (.slice A l.length c))
  by_cases h0 : l = []
  · subst h0
    exact .slnil _ _ _ hm
  · obtain ⟨b, off, rfl, hcell⟩ := h.resolve_left h0
    have := RepP.sl (w := w) (S := stable P (entrySt (vals vs)) noGh) (l.map byteAV) .no b off c 1 (fun i _ => Value.int .u8 ((l.getD i 0).toNat : Int)) (by simpa using hc) hm
      (fun i x hx => by simp only [List.getElem?_map, Option.map_eq_some_iff] at hx; obtain ⟨y, _, rfl⟩ := hx; rfl)
      (fun i x j d hx hd => by
        simp only [List.getElem?_map, Option.map_eq_some_iff] at hx
        obtain ⟨y, hy, rfl⟩ := hx
        have hj : j = 0 := by
          cases j with
          | zero => rfl
          | succ j => simp [byteAV, AV.cells] at hd
        subst hj
        have hd' : d = byteAV y := by simpa [byteAV, AV.cells] using hd.symm
        refine ⟨stable_vals _ _ _, ?_, by rw [hd']; rfl⟩
        rw [Nat.mul_one, Nat.add_zero]
        exact hcell i _ (by simp [hy]))
      (fun i x j d hx hd => by
        simp only [List.getElem?_map, Option.map_eq_some_iff] at hx
        obtain ⟨y, hy, rfl⟩ := hx
        have hj : j = 0 := by
          cases j with
          | zero => rfl
          | succ j => simp [byteAV, AV.cells] at hd
        subst hj
        have hd' : d = byteAV y := by simpa [byteAV, AV.cells] using hd.symm
        rw [hd']
        have e : l.getD i 0 = y := by simp [hy]
        rw [e]
        have := y.toNat_lt
        have m0 : IntKind.u8.min = 0 := by decide
        have m1 : IntKind.u8.max = 255 := by decide
        exact .int .u8 _ (by rw [m0]; omega) (by rw [m1]; omega))
    simpa using this
end Go.Proofs.Ytnhfjdbnkpbbkab
