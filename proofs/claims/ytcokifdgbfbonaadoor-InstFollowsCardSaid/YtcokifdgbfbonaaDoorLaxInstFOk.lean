/- The conditions hold: a state behind a state behind a state. -/
import Derived.Test.YtcokifdgbfbonaaDoorLaxInstFVc
namespace Go.Proofs.YtcokifdgbfbonaaDoor
set_option linter.unusedVariables false
set_option linter.unusedSimpArgs false
open Go.RowKit
set_option maxRecDepth 100000

theorem eqC_iff {c d : CmdP} : eqC c d = true ↔ c = d := by
  obtain ⟨a1, a2, a3, a4, a5, a6, a7, a8⟩ := c
  obtain ⟨b1, b2, b3, b4, b5, b6, b7, b8⟩ := d
  simp [eqC, cmdL, sameCells, AV.same]
theorem eqA_iff {c d : AttP} : eqA c d = true ↔ c = d := by
  obtain ⟨a1, a2, a3, a4, a5, a6, a7, a8⟩ := c
  obtain ⟨b1, b2, b3, b4, b5, b6, b7, b8⟩ := d
  simp [eqA, attL, sameCells, AV.same]
theorem alikeI_iff {x y : InstP} : alikeI x y = true ↔ x.c = y.c ∧ x.a = y.a := by
  unfold alikeI; rw [Bool.and_eq_true, eqC_iff, eqA_iff]
theorem followsI_iff {x o : InstP} : followsI x o = true ↔ (x.r = o.r ∧ x.sl = o.sl ∧ rightI x = true ∧ rightI o = true ∧ o.bal ≤ x.bal) ∧
    (o.st = 3 → x.st = 3 ∧ alikeI x o = true) ∧ (o.st ≠ 3 → x.st ≠ 3 → (o.vote < x.vote ∨ (x.vote = o.vote ∧ (o.st < x.st ∨ (x.st = o.st ∧ alikeI x o = true ∧ x.same = o.same))))) := by
  unfold followsI
  by_cases h : x.r = o.r ∧ x.sl = o.sl ∧ rightI x = true ∧ rightI o = true ∧ o.bal ≤ x.bal
  · rw [if_pos h]
    by_cases h1 : o.st = 3
    · simp [h1, h]
    · by_cases h2 : x.st = 3
      · simp [h1, h2, h]
      · by_cases h3 : x.vote = o.vote
        · by_cases h4 : x.st = o.st
          · simp [h, h1, h2, h3, h4]
          · simp [h, h1, h2, h3, h4]
        · simp [h, h1, h2, h3]
  · rw [if_neg h]; simp [h]
theorem followsI_trans {x y z : InstP} (h1 : followsI y x = true) (h2 : followsI z y = true) : followsI z x = true ∧ x.bal ≤ z.bal ∧ (x.st = 3 → z.st = 3 ∧ alikeI z x = true) := by
  rw [followsI_iff] at h1 h2
  obtain ⟨⟨a1, a2, a3, a4, a5⟩, a6, a7⟩ := h1
  obtain ⟨⟨b1, b2, b3, b4, b5⟩, b6, b7⟩ := h2
  have t : x.st = 3 → z.st = 3 ∧ alikeI z x = true := fun h => by
    obtain ⟨h3, h4⟩ := a6 h
    obtain ⟨h5, h6⟩ := b6 h3
    rw [alikeI_iff] at h4 h6 ⊢
    exact ⟨h5, h6.1.trans h4.1, h6.2.trans h4.2⟩
  refine ⟨?_, by omega, t⟩
  rw [followsI_iff]
  refine ⟨⟨by omega, by omega, b3, a4, by omega⟩, t, fun hx hz => ?_⟩
  by_cases hy : y.st = 3
  · exact absurd (b6 hy).1 hz
  · have c1 := a7 hx hy
    have c2 := b7 hy hz
    rcases c1 with c1 | ⟨c1, c3⟩ <;> rcases c2 with c2 | ⟨c2, c4⟩
    · left; omega
    · left; omega
    · left; omega
    · right
      refine ⟨by omega, ?_⟩
      rcases c3 with c3 | ⟨c3, c5, c6⟩ <;> rcases c4 with c4 | ⟨c4, c7, c8⟩
      · left; omega
      · left; omega
      · left; omega
      · right
        rw [alikeI_iff] at c5 c7 ⊢
        exact ⟨by omega, ⟨c7.1.trans c5.1, c7.2.trans c5.2⟩, c8.trans c6⟩
theorem encID_len (r s : Int) : (encID r s).length ≤ 11 := by
  have h : 0 ≤ IntKind.u64.wrap s ∧ IntKind.u64.wrap s ≤ 18446744073709551615 := by rw [IntKind.wrap_u64]; omega
  have := short_le10 h.1 h.2
  unfold encID
  rw [catL_length]
  have : (encByte (IntKind.u8.wrap r)).length = 1 := rfl
  omega
theorem encI0_len (r s : Int) {b : Int} (h0 : 0 ≤ b) (h1 : b ≤ 4294967295) : (encI0 r s b).length ≤ 22 := by
  have := encID_len r s
  have := short_le10 (v := b) h0 (by omega)
  unfold encI0
  rw [catL_length, catL_length]
  have : (encByte 0).length = 1 := rfl
  omega
theorem okIput00 : OkIput00 := by
  intro x xs p q hq hb
  refine vcIput00 x xs p q ?_
  obtain ⟨h0, hx, hl⟩ := hq
  have hlen : (bytesL xs).length = xs.length := by simp [bytesL]
  have h1 := encID_len x.r x.sl
  have h2 := short_le10 (v := x.bal) hb.1 (by omega)
  have w0 : IntKind.u8.wrap 0 = 0 := by decide
  simp only [true_and, and_true, forall_eq, eq_self, bytesL_bytesAV, isBytes_bytesAV, length_bytesAV, catL_length, hlen, h0, w0]
  refine ⟨⟨hx, by omega⟩, by omega, by omega, cond_prop (fun _ => ⟨by omega, ?_⟩) fun h => by simp at h⟩
  refine congrArg bytesAV ?_
  simp [encI0, catL_eq]
theorem okIbytes00 : OkIbytes00 := by
  intro x hq hb
  refine vcIbytes00 x ?_
  have h := encI0_len x.r x.sl hb.1 hb.2
  have e : catL [] (encI0 x.r x.sl x.bal) = encI0 x.r x.sl x.bal := rfl
  simp only [true_and, and_true, forall_eq, eq_self, bytesL_bytesAV, isBytes_bytesAV, length_bytesAV, e]
  exact ⟨⟨hq, isBytes_nil, by omega⟩, by omega⟩
theorem okAnchor100 : OkAnchor100 := by
  intro hq
  refine vcAnchor100 ?_
  have e : encI0 1 2 0 = [1, 2, 0, 0] := by decide +kernel
  have e' : encI0 (newI 1 2).r (newI 1 2).sl (newI 1 2).bal = [1, 2, 0, 0] := e
  have e2 : (newI 1 2).st = 0 := rfl
  simp only [true_and, and_true, forall_eq, eq_self, e, e', e2, length_bytesAV]
  have o : ∀ i, i < 4 → okElem 1 (bytesAV [1, 2, 0, 0]) i := fun i h => okElem_bytes h
  have r : ∀ i, i < 4 → okRead [Kd.int .u8] (elemAt (bytesAV [1, 2, 0, 0]) i) 0 := fun i h => okRead_bytes h
  have i0 : rdInt (elemAt (bytesAV [1, 2, 0, 0]) 0) 0 = 1 := rfl
  have i1 : rdInt (elemAt (bytesAV [1, 2, 0, 0]) 1) 0 = 2 := rfl
  have i2 : rdInt (elemAt (bytesAV [1, 2, 0, 0]) 2) 0 = 0 := rfl
  have i3 : rdInt (elemAt (bytesAV [1, 2, 0, 0]) 3) 0 = 0 := rfl
  simp [i0, i1, i2, i3, o, r]
theorem okSmall100 : OkSmall100 := by
  intro x hq
  refine vcSmall100 x ?_
  simp only [true_and, and_true, forall_eq, eq_self]
  refine cond_prop (fun h => ?_) fun h => ?_
  all_goals (unfold smallB; rw [Bool.eq_iff_iff]; simp at h ⊢; omega)
theorem small_small {x : InstP} {m : Nat} (h : (!smallB x m) = false) (hm : m ≤ 200) : smallX x := by
  simp [smallB] at h; unfold smallX; omega
theorem okLawFollows0 : OkLawFollows0 := by
  intro x y z hq
  refine vcLawFollows0 x y z ?_
  obtain ⟨q1, q2, q3⟩ := hq
  simp only [true_and, and_true, forall_eq, eq_self]
  refine ⟨q1, cond_prop (fun _ => trivial) fun h1 => ⟨q2, cond_prop (fun _ => trivial) fun h2 => ⟨q3, cond_prop (fun _ => trivial) fun h3 => ?_⟩⟩⟩
  have p1 := small_small h1 (Nat.le_refl _)
  have p2 := small_small h2 (Nat.le_refl _)
  have p3 := small_small h3 (Nat.le_refl _)
  refine ⟨⟨p2, p1⟩, cond_prop (fun _ => trivial) fun g1 => ⟨⟨p3, p2⟩, cond_prop (fun _ => trivial) fun g2 => ?_⟩⟩
  simp only [Bool.not_eq_false'] at g1 g2
  obtain ⟨t1, t2, t3⟩ := followsI_trans g1 g2
  simp only [t1, p3, p1, decide_eq_true t2, cond_true]
  refine cond_prop (fun h => ?_) fun h => ?_
  · simp at h
    obtain ⟨t4, t5⟩ := t3 h
    simp [t4, t5]
  · simp
end Go.Proofs.YtcokifdgbfbonaaDoor
