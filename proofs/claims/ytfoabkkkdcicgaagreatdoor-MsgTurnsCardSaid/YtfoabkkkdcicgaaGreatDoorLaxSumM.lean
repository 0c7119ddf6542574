/- The sums, by content: contracts out of the walked ones. -/
import Derived.Test.YtfoabkkkdcicgaaGreatDoorLaxClone
import Derived.Test.YtfoabkkkdcicgaaGreatDoorSum
namespace Go.Proofs.YtfoabkkkdcicgaaGreatDoor
set_option linter.unusedVariables false
set_option linter.unusedSimpArgs false
open Go.RowKit

def crcI (l : List UInt8) : Int := ((crc l).toNat : Int)
/-- a message in parts -/
def partL (x : AV) : List UInt8 := bytesL x.theList
def flatL (xs : List AV) : List UInt8 := (xs.map partL).flatten
def isPart (x : AV) : Prop := ∃ l o, x = .sl (bytesAV l) o
def isParts (xs : List AV) : Prop := ∀ x ∈ xs, isPart x

theorem one_argS {us : Array Value} {v : AV} {w : World} {S : Nat → Nat → Prop} (hs : us.size = 1) (h : ∀ (i : Nat) x, [v][i]? = some x → ∃ u, us[i]? = some u ∧ RepV w S x u) : ∃ u, us = #[u] ∧ RepV w S v u := by
  obtain ⟨u, h1, h2⟩ := h 0 v rfl
  refine ⟨u, ?_, h2⟩
  apply Array.ext
  · simp [hs]
  · intro i h3 h4
    have : i = 0 := by simp at h4; exact h4
    subst this
    rw [Array.getElem?_eq_getElem h3] at h1
    simpa using h1
theorem crcRep (w : World) (S : Nat → Nat → Prop) (l : List UInt8) : RepV w S (.int .u32 (crcI l)) (.int .u32 ((crc l).toNat : Int)) := by
  have h := (crc l).isLt
  have m0 : IntKind.u32.min = 0 := by decide
  have m1 : IntKind.u32.max = 4294967295 := by decide
  exact (RepP.int _ _ (by rw [m0]; exact Int.natCast_nonneg _) (by rw [m1]; show ((crc l).toNat : Int) ≤ 4294967295; omega) : RepP w S (.int .u32 (crcI l)) _)
theorem parts_of {w : World} {S : Nat → Nat → Prop} {xs : List AV} {u : Value} (hp : isParts xs) (h : RepP w S (.sl xs .no) u) :
    ∃ A c, u = .slice A xs.length c ∧ xs.length ≤ 9223372036854775807 ∧ RdParts w w.heap.size A (xs.map partL) := by
  have hone : ∀ x ∈ xs, x.cells.length = 1 := fun x hx => by obtain ⟨l, o, rfl⟩ := hp x hx; rfl
  obtain ⟨us, ad, cap, e3, e4, e5⟩ := FL.of (size := 1) h hone
  obtain ⟨ad', cap', e6, e7, e8⟩ := h.form
  rw [e3] at e6
  cases e6
  refine ⟨ad, cap, e3, by unfold maxLen at e8; omega, ?_⟩
  rcases e5 with h0 | ⟨b, off, rfl, hc⟩
  · subst h0
    exact RdParts.nil _ _ _
  · by_cases hx : xs = []
    · subst hx; exact RdParts.nil _ _ _
    have h0 : 0 < xs.length := List.length_pos_iff.2 hx
    have hul : us.length = xs.length := by rw [e4.1, Nat.mul_one]
    have hu0 := hc 0 us[0] (List.getElem?_eq_getElem (by omega))
    refine ⟨us, by simp [hul], .inr ⟨b, off, rfl, World.block_lt_of_cell? w _ hu0, hc⟩, fun i hi => ?_⟩
    have hi' : i < xs.length := by simpa using hi
    obtain ⟨l, o, hl⟩ := hp xs[i] (List.getElem_mem hi')
    obtain ⟨_, f2⟩ := e4.2 i xs[i] (List.getElem?_eq_getElem hi')
    rw [hl] at f2
    obtain ⟨_, u, f3, f4⟩ := f2 0 (.sl (bytesAV l) o) rfl
    rw [Nat.mul_one, Nat.add_zero] at f3
    obtain ⟨A', c', rfl, g1, g2, g3⟩ := rd_of f4
    have hpi : (xs.map partL)[i] = l := by
      rw [List.getElem_map, hl]
      exact bytesL_bytesAV l
    rw [hpi]
    exact ⟨A', c', f3, g3, by omega⟩
def sumOfF : Con
  | [.val (.sl xs .no)] => some (isParts xs, ⟨.int .u32 (crcI (flatL xs)), none, none⟩)
  | _ => none
theorem meetsSumOf : Meets Tryz.prog 77 sumOfF := by
  refine meets_plain Tryz.call77 ?_
  intro args q r hF hq
  unfold sumOfF at hF
  split at hF
  · rename_i xs
    cases hF
    refine ⟨[.sl xs .no], rfl, rfl, fun x hx => (by simp at hx; subst hx; rfl), rfl, rfl, rfl, ?_⟩
    intro us w S hs h
    obtain ⟨u, rfl, hu⟩ := one_argS hs h
    obtain ⟨A, c, rfl, h2, h3⟩ := parts_of hq (hu : RepP w S (.sl xs .no) u)
    refine (of_any (xs.map partL) xs.length c w.heap.size A w (by simp) h3 h2).mono ?_
    rintro e w' ⟨rfl, rfl⟩
    exact ⟨_, rfl, Below.refl _ _, crcRep _ _ _⟩
  · cases hF
end Go.Proofs.YtfoabkkkdcicgaaGreatDoor
