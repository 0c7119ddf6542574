/- Lengths, the greatest and the least, cuts, fields, places: a real world does what the reading by content says. -/
import Derived.Test.YtnhfjdbnkpbbkabLaxG
namespace Go.Proofs.Ytnhfjdbnkpbbkab
set_option linter.unusedVariables false
set_option linter.unusedSimpArgs false
open Go.RowKit

section
variable {P : Program} {n : Nat} {w0 : World} {own : OwnP} {st st' : St} {G G' : Gh} {a : Act} {w w' : World} {o : Oper}

theorem cellsOf_one {v : AV} (hv : ∀ cs, v ≠ .agg cs) : v.cells = [v] := by cases v <;> first | rfl | exact absurd rfl (hv _)
theorem len63 {m : Nat} (h : m ≤ 9223372036854775807) : IntKind.i64.min ≤ (m : Int) ∧ (m : Int) ≤ IntKind.i64.max := by
  have h1 : IntKind.i64.min = -9223372036854775808 := by decide
  have h2 : IntKind.i64.max = 9223372036854775807 := by decide
  omega

/-- the cells of a part -/
theorem rep_part {cs : List AV} {us : Array Value} (hs : us.size = cs.length) (h : ∀ (i : Nat) c, cs[i]? = some c → c.one = true ∧ ∃ u, us[i]? = some u ∧ Rep1 P st G w c u) (off k : Nat) :
    Rep P st G w (.agg ((cs.drop off).take k)) (.agg (us.extract off (off + k))) := by
  refine (⟨us.extract off (off + k), rfl, by simp [hs]; omega, fun i c hc => ?_⟩ : RepA P st G w (.agg ((cs.drop off).take k)) (.agg (us.extract off (off + k))))
  rw [drop_take_get] at hc
  split at hc
  · rename_i hi
    obtain ⟨h1, u, h2, h3⟩ := h _ _ hc
    refine ⟨h1, u, ?_, h3⟩
    obtain ⟨hlt, _⟩ := Array.getElem?_eq_some_iff.1 h2
    rw [Array.getElem?_extract]
    rw [if_pos (by omega)]
    exact h2
  · cases hc

theorem pure_field {x : Operand} {t : TypeId} {f : Nat} {fs : Array Field} {fd : Field} {cs : List AV} (hR : Rel P n w0 own st G a w) (ho : o.op = .field t x f) (ht : P.underlying t = some (.struct fs)) (hf : fs[f]? = some fd)
    (hx : st.ev x = .agg cs) (hl : fd.offset + tsize P fd.type ≤ cs.length) (hu : (P.underlying fd.type).isSome = true) (h1 : tagg P fd.type = true ∨ tsize P fd.type = 1) :
    PureOK P st G w o a (if tagg P fd.type then .agg ((cs.drop fd.offset).take (tsize P fd.type)) else cellAt cs fd.offset) := by
  have e1 := hR.ev x
  rw [hx] at e1
  obtain ⟨us, e2, e3, e4⟩ := (e1 : RepA P st G w (.agg cs) _)
  obtain ⟨d, hd⟩ := Option.isSome_iff_exists.1 hu
  have hs := run_size (P := P) hd w
  by_cases hg : tagg P fd.type = true
  · rw [if_pos hg]
    have hagg : (isAgg fd.type).run P w = .ok true w := by
      unfold isAgg
      rw [Sem.run_bind, run_underlying hd w]
      unfold tagg at hg
      rw [hd] at hg
      cases d <;> simp_all
    exact ⟨_, by simp [execOp, ho, e2, Instr.field, run_underlying ht, hf, asAgg, part, hagg, hs], rep_part e3 e4 _ _⟩
  · rw [if_neg hg]
    have h2 : tsize P fd.type = 1 := h1.resolve_left hg
    have hagg : (isAgg fd.type).run P w = .ok false w := by
      unfold isAgg
      rw [Sem.run_bind, run_underlying hd w]
      unfold tagg at hg
      rw [hd] at hg
      cases d <;> simp_all
    have hlt : fd.offset < cs.length := by omega
    obtain ⟨_, u, h3, h4⟩ := e4 fd.offset cs[fd.offset] (List.getElem?_eq_getElem hlt)
    refine ⟨u, by simp [execOp, ho, e2, Instr.field, run_underlying ht, hf, asAgg, part, hagg, h3], ?_⟩
    unfold cellAt
    rw [List.getElem?_eq_getElem hlt]
    exact Rep.of1 h4

theorem bnd_run {m : Nat} {lo hi mx : Option AV} {lv hv mv : Option Value} {p : Prop} {l h : Nat} (hb : bndAV m lo hi mx = some (p, l, h)) (hp : p)
    (hl : ∀ x, lo = some x → ∃ u, lv = some u ∧ Rep P st G w x u) (hl0 : lo = none → lv = none)
    (hh : ∀ x, hi = some x → ∃ u, hv = some u ∧ Rep P st G w x u) (hh0 : hi = none → hv = none)
    (hm : ∀ x, mx = some x → ∃ u, mv = some u ∧ Rep P st G w x u) (hm0 : mx = none → mv = none) (isS : Bool) (cap : Nat) (hc : m ≤ cap) :
    ∃ c, (Instr.sliceBounds isS m cap lv hv mv).run P w = .ok (l, h, c) w ∧ l ≤ h ∧ h ≤ m ∧ h ≤ c ∧ c ≤ cap := by
  unfold bndAV at hb
  split at hb
  · cases hb
    rw [hl0 rfl, hh0 rfl, hm0 rfl]
    exact ⟨cap, by simp [Instr.sliceBounds], Nat.zero_le _, Nat.le_refl _, hc, Nat.le_refl _⟩
  · cases hb
    obtain ⟨u, rfl, hu⟩ := hl _ rfl
    obtain ⟨rfl, _, _⟩ := hu.inv_int
    rw [hh0 rfl, hm0 rfl]
    refine ⟨cap, ?_, by omega, Nat.le_refl _, hc, Nat.le_refl _⟩
    simp [Instr.sliceBounds, run_sliceBound, hp.1, hp.2]
  · cases hb
    obtain ⟨u, rfl, hu⟩ := hh _ rfl
    obtain ⟨rfl, _, _⟩ := hu.inv_int
    rw [hl0 rfl, hm0 rfl]
    refine ⟨cap, ?_, by omega, by omega, by omega, Nat.le_refl _⟩
    simp only [Instr.sliceBounds, Sem.run_bind, Sem.run_pure, Result.andThen_ok]
    rw [run_sliceBound (P := P) (h0 := hp.1) (h1 := by omega)]
    simp
  · cases hb
    obtain ⟨u, rfl, hu⟩ := hl _ rfl
    obtain ⟨rfl, _, _⟩ := hu.inv_int
    obtain ⟨u, rfl, hu⟩ := hh _ rfl
    obtain ⟨rfl, _, _⟩ := hu.inv_int
    rw [hm0 rfl]
    obtain ⟨q1, q2, q3⟩ := hp
    refine ⟨cap, ?_, by omega, by omega, by omega, Nat.le_refl _⟩
    simp only [Instr.sliceBounds, Sem.run_bind, Sem.run_pure, Result.andThen_ok]
    rw [run_sliceBound (P := P) (h0 := by omega) (h1 := by omega)]
    simp only [Result.andThen_ok]
    rw [run_sliceBound (P := P) (h0 := by omega) (h1 := by omega)]
    simp
  · cases hb
    obtain ⟨u, rfl, hu⟩ := hh _ rfl
    obtain ⟨rfl, _, _⟩ := hu.inv_int
    obtain ⟨u, rfl, hu⟩ := hm _ rfl
    obtain ⟨rfl, _, _⟩ := hu.inv_int
    rw [hl0 rfl]
    obtain ⟨q1, q2, q3⟩ := hp
    refine ⟨_, by
      simp only [Instr.sliceBounds, Sem.run_bind, Sem.run_pure, Result.andThen_ok]
      rw [run_sliceBound (P := P) (h0 := by omega) (h1 := by omega)]
      simp only [Result.andThen_ok]
      rw [run_sliceBound (P := P) (h0 := by omega) (h1 := by omega)]
      simp only [Result.andThen_ok]
      rfl, by omega, by omega, by omega, by omega⟩
  · cases hb

end
end Go.Proofs.Ytnhfjdbnkpbbkab
