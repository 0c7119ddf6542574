/- The conditions hold: names, ballots, attributes in bytes. -/
import Derived.Test.YtcokifdgbfbonaaDoorLaxIoBVc
namespace Go.Proofs.YtcokifdgbfbonaaDoor
set_option linter.unusedVariables false
set_option linter.unusedSimpArgs false
open Go.RowKit
set_option maxRecDepth 100000

theorem tkRest_suf (l : List UInt8) (e k : Int) : tkRest l e k <:+ l := by
  unfold tkRest; split
  · exact List.drop_suffix _ _
  · exact List.suffix_refl _
theorem shRest_suf (l : List UInt8) (e m : Int) : shRest l e m <:+ l := by
  unfold shRest; split
  · exact List.suffix_refl _
  · split
    · exact List.suffix_refl _
    · split
      · exact List.suffix_refl _
      · exact List.drop_suffix _ _
theorem idRest_suf (l : List UInt8) (e : Int) : idRest l e <:+ l := (shRest_suf _ _ _).trans (tkRest_suf _ _ _)
theorem atS_suf (l : List UInt8) (e : Int) : ∀ k, (atS l e k).1 <:+ l
  | 0 => shRest_suf _ _ _
  | k + 1 => (shRest_suf _ _ _).trans (atS_suf l e k)
theorem inByteV_range (l : List UInt8) (e : Int) : 0 ≤ inByteV l e ∧ inByteV l e ≤ 255 := by
  unfold inByteV
  have := ((tkOut l e 1).getD 0 0).toNat_lt
  omega
theorem okTakeID0 : OkTakeID0 := by
  intro xs e hq
  refine vcTakeID0 xs e ?_
  simp only [true_and, and_true, forall_eq, eq_self, bytesL_bytesAV, isBytes_bytesAV]
  have hb := inByteV_range (bytesL xs) e
  have w1 : IntKind.i64.wrap (inByteV (bytesL xs) e) = inByteV (bytesL xs) e := wrap_i64 (by omega) (by omega)
  have w2 : ∀ l e, IntKind.i64.wrap (shV l e 1023) = shV l e 1023 := fun l e => by have := shV_range l e 1023 (by omega); exact wrap_i64 (by omega) (by omega)
  rw [w1]
  simp only [w2]
  have e2 : idErr (bytesL xs) e = shErr (tkRest (bytesL xs) e 1) (idE1 (bytesL xs) e) 1023 := rfl
  refine ⟨hq, cond_prop (fun h => ?_) fun h => ?_⟩
  · have e1 : idE1 (bytesL xs) e = inFail (tkErr (bytesL xs).length e 1) 12 := if_pos (by simpa using h)
    rw [← e1]
    refine cond_prop (fun h' => ?_) fun h' => ?_
    · simp at h'
      exact ⟨rfl, rfl, by unfold idR; rw [e2]; simp [h'], by unfold idS; rw [e2]; simp [h']⟩
    · simp at h'
      exact ⟨rfl, rfl, by unfold idR; rw [e2]; simp [h'], by unfold idS; rw [e2]; simp [h']⟩
  · have e1 : idE1 (bytesL xs) e = tkErr (bytesL xs).length e 1 := if_neg (by simpa using h)
    rw [← e1]
    refine cond_prop (fun h' => ?_) fun h' => ?_
    · simp at h'
      exact ⟨rfl, rfl, by unfold idR; rw [e2]; simp [h'], by unfold idS; rw [e2]; simp [h']⟩
    · simp at h'
      exact ⟨rfl, rfl, by unfold idR; rw [e2]; simp [h'], by unfold idS; rw [e2]; simp [h']⟩
theorem okTakeBal0 : OkTakeBal0 := by
  intro xs e hq
  refine vcTakeBal0 xs e ?_
  simp only [true_and, and_true, forall_eq, eq_self, bytesL_bytesAV, isBytes_bytesAV]
  have hr := shV_range (bytesL xs) e 4294967295 (by omega)
  rw [wrap_u32 hr.1 hr.2]
  refine ⟨hq, cond_prop (fun h => ?_) fun h => ?_⟩
  · simp at h; simp [balE, balV, h]
  · simp at h; simp [balE, balV, h]
theorem okIdPut0 : OkIdPut0 := by
  intro xs p q r n hq
  refine vcIdPut0 xs p q r n ?_
  simp only [true_and, and_true, forall_eq, eq_self, bytesL_bytesAV, isBytes_bytesAV, length_bytesAV]
  obtain ⟨hb, hl⟩ := hq
  have hlen : (bytesL xs).length = xs.length := by simp [bytesL]
  refine ⟨⟨hb, by omega⟩, ?_, by omega, ?_⟩
  · rw [catL_length, hlen]; simp [encByte]; omega
  · rw [catL_assoc]; rfl
theorem okBalPut0 : OkBalPut0 := by
  intro xs p q b hq hb
  refine vcBalPut0 xs p q b ?_
  simp only [true_and, and_true, forall_eq, eq_self, bytesL_bytesAV, isBytes_bytesAV, length_bytesAV]
  rw [wrap_u64 hb.1 (by omega)]
  exact ⟨hq, by omega, rfl⟩
theorem okAttPut0 : OkAttPut0 := by
  intro s d0 d1 d2 d3 d4 d5 d6 xs p q hq
  refine vcAttPut0 s d0 d1 d2 d3 d4 d5 d6 xs p q ?_
  simp only [true_and, and_true, forall_eq, eq_self, bytesL_bytesAV, isBytes_bytesAV, length_bytesAV, catL_length]
  obtain ⟨hb, hl⟩ := hq
  have hlen : (bytesL xs).length = xs.length := by simp [bytesL]
  have sl : ∀ v : Int, (short (IntKind.u64.wrap v).toNat).length ≤ 10 := fun v => by
    have : 0 ≤ IntKind.u64.wrap v ∧ IntKind.u64.wrap v ≤ 18446744073709551615 := by rw [IntKind.wrap_u64]; omega
    exact short_le10 this.1 this.2
  have s0 : (short 0).length ≤ 10 := sl 0
  refine cond_prop (fun h => ?_) fun h => ?_
  · simp only [Bool.not_eq_true'] at h
    refine ⟨⟨hb, by omega⟩, ?_⟩
    repeat' (refine And.intro ?_ ?_)
    all_goals first | omega | simp [zA, h, encA, catL_assoc]
  · simp only [Bool.not_eq_false'] at h
    have hh := h
    simp only [rightA, inLen, Bool.and_eq_true, decide_eq_true_eq] at hh
    have := sl s; have := sl d0; have := sl d1; have := sl d2; have := sl d3; have := sl d4; have := sl d5; have := sl d6
    have w : ∀ v : Int, 0 ≤ v → v ≤ 1073741824 → IntKind.u64.wrap v = v := fun v h0 h1 => wrap_u64 h0 (by omega)
    rw [w s (by omega) (by omega), w d0 (by omega) (by omega), w d1 (by omega) (by omega), w d2 (by omega) (by omega), w d3 (by omega) (by omega), w d4 (by omega) (by omega), w d5 (by omega) (by omega), w d6 (by omega) (by omega)] at *
    refine ⟨⟨hb, by omega⟩, ?_⟩
    repeat' (refine And.intro ?_ ?_)
    all_goals first | omega | simp [zA, h, encA, catL_assoc]
theorem okAttTake0 : OkAttTake0 := by
  intro xs e hq
  refine vcAttTake0 xs e ?_
  have s0 : ∀ l, shRest l e 1073741824 = (atS l e 0).1 := fun l => rfl
  have t0 : ∀ l, shErr l e 1073741824 = (atS l e 0).2 := fun l => rfl
  have s1 : ∀ l k, shRest (atS l e k).1 (atS l e k).2 1024 = (atS l e (k + 1)).1 := fun l k => rfl
  have t1 : ∀ l k, shErr (atS l e k).1 (atS l e k).2 1024 = (atS l e (k + 1)).2 := fun l k => rfl
  have v1 : ∀ l k, shV (atS l e k).1 (atS l e k).2 1024 = atV l e k := fun l k => rfl
  have w2 : ∀ l k, IntKind.i64.wrap (atV l e k) = atV l e k := fun l k => by have := shV_range (atS l e k).1 (atS l e k).2 1024 (by omega); exact wrap_i64 (by unfold atV; omega) (by unfold atV; omega)
  have w3 : ∀ l, IntKind.i64.wrap (shV l e 1073741824) = shV l e 1073741824 := fun l => by have := shV_range l e 1073741824 (by omega); exact wrap_i64 (by omega) (by omega)
  simp only [true_and, and_true, forall_eq, eq_self, bytesL_bytesAV, isBytes_bytesAV, s0, t0, s1, t1, v1, w2, w3, Nat.reduceAdd]
  refine ⟨hq, ?_⟩
  refine ⟨by omega, by omega, by omega, by omega, by omega, by omega, by omega, ?_⟩
  refine cond_prop (fun h => ?_) fun h => ?_
  · simp at h; simp [atZ, h]
  · simp at h; simp [atZ, h]
end Go.Proofs.YtcokifdgbfbonaaDoor
