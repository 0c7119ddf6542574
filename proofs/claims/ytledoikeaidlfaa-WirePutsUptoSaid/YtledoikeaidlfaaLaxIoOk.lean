/- The conditions hold: names, ballots, attributes in bytes, and their reference. -/
import Derived.Test.YtledoikeaidlfaaLaxIoVc
namespace Go.Proofs.Ytledoikeaidlfaa
set_option linter.unusedVariables false
set_option linter.unusedSimpArgs false
open Go.RowKit
set_option maxRecDepth 100000

theorem tkRest_suf (l : List UInt8) (e k : Int) : tkRest l e k <:+ l := by
  unfold tkRest; split
  · exact List.drop_suffix _ _
  · exact List.suffix_refl _
theorem shRest_suf (l : List UInt8) (e m : Int) : shRest l e m <:+ l := by
  unfold shRest; split
  · exact List.suffix_refl _
  · split
    · exact List.suffix_refl _
    · split
      · exact List.suffix_refl _
      · exact List.drop_suffix _ _
theorem idRest_suf (l : List UInt8) (e : Int) : idRest l e <:+ l := (shRest_suf _ _ _).trans (tkRest_suf _ _ _)
theorem atS_suf (l : List UInt8) (e : Int) : ∀ k, (atS l e k).1 <:+ l
  | 0 => shRest_suf _ _ _
  | k + 1 => (shRest_suf _ _ _).trans (atS_suf l e k)
theorem refL_suf (l : List UInt8) (a : Int) : refL l a <:+ l := List.drop_suffix _ _
theorem refL_refAt {l r : List UInt8} (h : r <:+ l) : refL l (refAt l r) = r := by
  obtain ⟨p, rfl⟩ := h
  simp [refL, refAt]
theorem refAt_range {l r : List UInt8} (h : r <:+ l) : 0 ≤ refAt l r ∧ refAt l r ≤ (l.length : Int) := by
  unfold refAt; omega
theorem refAt_self {l : List UInt8} {a : Int} (h0 : 0 ≤ a) (h1 : a ≤ l.length) : refAt l (refL l a) = a := by
  simp [refL, refAt]; omega
theorem refL_length {l : List UInt8} {a : Int} (h0 : 0 ≤ a) (h1 : a ≤ l.length) : ((refL l a).length : Int) = l.length - a := by
  simp [refL]; omega
theorem refL_drop {l : List UInt8} {a : Int} (h0 : 0 ≤ a) (k : Nat) : refAt l ((refL l a).drop k) = if a.toNat + k ≤ l.length then a + k else l.length := by
  simp [refL, refAt, List.drop_drop]
  split <;> omega
theorem inByteV_range (l : List UInt8) (e : Int) : 0 ≤ inByteV l e ∧ inByteV l e ≤ 255 := by
  unfold inByteV
  have := ((tkOut l e 1).getD 0 0).toNat_lt
  omega
theorem and7 {b : Int} (h0 : 0 ≤ b) (h1 : b ≤ 4294967295) : intBits .and .u32 b 7 = b % 8 := by
  obtain ⟨n, rfl⟩ : ∃ n : Nat, b = n := ⟨b.toNat, by omega⟩
  have e1 : (BitVec.ofInt 32 (n : Int) &&& BitVec.ofInt 32 7).toNat = n % 8 := by
    rw [BitVec.toNat_and]
    have : (BitVec.ofInt 32 (n : Int)).toNat = n := by
      rw [BitVec.toNat_ofInt]; omega
    rw [this]
    have h7 : (BitVec.ofInt 32 7).toNat = 2 ^ 3 - 1 := by decide
    rw [h7, Nat.and_two_pow_sub_one_eq_mod]
  show IntKind.u32.wrap ((BitVec.ofInt 32 (n : Int) &&& BitVec.ofInt 32 7).toNat : Int) = _
  rw [e1, IntKind.wrap_u32]
  omega
theorem wrap_u32 {n : Int} (h0 : 0 ≤ n) (h1 : n ≤ 4294967295) : IntKind.u32.wrap n = n := by rw [IntKind.wrap_u32]; omega

theorem okIdRight0 : OkIdRight0 := by
  intro r n hq
  refine vcIdRight0 r n ?_
  simp only [true_and, and_true, forall_eq, eq_self]
  refine cond_prop (fun h => cond_prop (fun h' => cond_prop (fun h'' => ?_) fun h'' => ?_) fun h' => ?_) fun h => ?_
  all_goals
    simp [rightId] at *
    first | omega | (rw [Bool.eq_iff_iff]; simp; omega)
theorem okBalRound0 : OkBalRound0 := by
  intro b hq hb
  refine vcBalRound0 b ?_
  simp only [true_and, and_true, forall_eq, eq_self]
  refine ⟨by omega, ?_⟩
  rw [Int.fdiv_eq_ediv_of_nonneg _ (by omega), wrap_i64 (by omega) (by omega)]
theorem okBalRep0 : OkBalRep0 := by
  intro b hq hb
  refine vcBalRep0 b ?_
  simp only [true_and, and_true, forall_eq, eq_self]
  rw [and7 hb.1 hb.2, wrap_i64 (by omega) (by omega)]
theorem okBalRight0 : OkBalRight0 := by
  intro b hq hb
  refine vcBalRight0 b ?_
  simp only [true_and, and_true, forall_eq, eq_self]
  refine cond_prop (fun h => ?_) fun h => cond_prop (fun h' => cond_prop (fun h'' => ?_) fun h'' => ?_) fun h' => ?_
  all_goals
    simp [balOK] at *
    first | omega | (rw [Bool.eq_iff_iff]; simp; omega)
theorem okTakeID0 : OkTakeID0 := by
  intro xs e hq
  refine vcTakeID0 xs e ?_
  simp only [true_and, and_true, forall_eq, eq_self, bytesL_bytesAV, isBytes_bytesAV]
  have hb := inByteV_range (bytesL xs) e
  have w1 : IntKind.i64.wrap (inByteV (bytesL xs) e) = inByteV (bytesL xs) e := wrap_i64 (by omega) (by omega)
  have w2 : ∀ l e, IntKind.i64.wrap (shV l e 1023) = shV l e 1023 := fun l e => by have := shV_range l e 1023 (by omega); exact wrap_i64 (by omega) (by omega)
  rw [w1]
  simp only [w2]
  have e2 : idErr (bytesL xs) e = shErr (tkRest (bytesL xs) e 1) (idE1 (bytesL xs) e) 1023 := rfl
  refine ⟨hq, cond_prop (fun h => ?_) fun h => ?_⟩
  · have e1 : idE1 (bytesL xs) e = inFail (tkErr (bytesL xs).length e 1) 12 := if_pos (by simpa using h)
    rw [← e1]
    refine cond_prop (fun h' => ?_) fun h' => ?_
    · simp at h'
      exact ⟨rfl, rfl, by unfold idR; rw [e2]; simp [h'], by unfold idS; rw [e2]; simp [h']⟩
    · simp at h'
      exact ⟨rfl, rfl, by unfold idR; rw [e2]; simp [h'], by unfold idS; rw [e2]; simp [h']⟩
  · have e1 : idE1 (bytesL xs) e = tkErr (bytesL xs).length e 1 := if_neg (by simpa using h)
    rw [← e1]
    refine cond_prop (fun h' => ?_) fun h' => ?_
    · simp at h'
      exact ⟨rfl, rfl, by unfold idR; rw [e2]; simp [h'], by unfold idS; rw [e2]; simp [h']⟩
    · simp at h'
      exact ⟨rfl, rfl, by unfold idR; rw [e2]; simp [h'], by unfold idS; rw [e2]; simp [h']⟩
theorem okTakeBal0 : OkTakeBal0 := by
  intro xs e hq
  refine vcTakeBal0 xs e ?_
  simp only [true_and, and_true, forall_eq, eq_self, bytesL_bytesAV, isBytes_bytesAV]
  have hr := shV_range (bytesL xs) e 4294967295 (by omega)
  rw [wrap_u32 hr.1 hr.2]
  refine ⟨hq, cond_prop (fun h => ?_) fun h => ?_⟩
  · simp at h; simp [balE, balV, h]
  · simp at h; simp [balE, balV, h]
theorem okIdPut0 : OkIdPut0 := by
  intro xs p q r n hq
  refine vcIdPut0 xs p q r n ?_
  simp only [true_and, and_true, forall_eq, eq_self, bytesL_bytesAV, isBytes_bytesAV, length_bytesAV]
  obtain ⟨hb, hl⟩ := hq
  have hlen : (bytesL xs).length = xs.length := by simp [bytesL]
  refine ⟨⟨hb, by omega⟩, ?_, by omega, ?_⟩
  · rw [catL_length, hlen]; simp [encByte]; omega
  · rw [catL_assoc]; rfl
theorem okBalPut0 : OkBalPut0 := by
  intro xs p q b hq hb
  refine vcBalPut0 xs p q b ?_
  simp only [true_and, and_true, forall_eq, eq_self, bytesL_bytesAV, isBytes_bytesAV, length_bytesAV]
  rw [wrap_u64 hb.1 (by omega)]
  exact ⟨hq, by omega, rfl⟩
theorem okAttRight0 : OkAttRight0 := by
  intro s d0 d1 d2 d3 d4 d5 d6 hq
  refine vcAttRight0 s d0 d1 d2 d3 d4 d5 d6 ?_
  simp only [true_and, and_true, forall_eq, eq_self]
  simp only [rightA, inLen]
  repeat' (first | (refine ⟨by omega, ?_⟩) | (refine cond_prop (fun h => ?_) fun h => ?_))
  all_goals simp only [decide_eq_true_eq, decide_eq_false_iff_not] at *
  all_goals (rw [Bool.eq_iff_iff]; simp only [Bool.and_eq_true, decide_eq_true_eq, Bool.false_eq_true, iff_false]; omega)
theorem okAttPut0 : OkAttPut0 := by
  intro s d0 d1 d2 d3 d4 d5 d6 xs p q hq
  refine vcAttPut0 s d0 d1 d2 d3 d4 d5 d6 xs p q ?_
  simp only [true_and, and_true, forall_eq, eq_self, bytesL_bytesAV, isBytes_bytesAV, length_bytesAV, catL_length]
  obtain ⟨hb, hl⟩ := hq
  have hlen : (bytesL xs).length = xs.length := by simp [bytesL]
  have sl : ∀ v : Int, (short (IntKind.u64.wrap v).toNat).length ≤ 10 := fun v => by
    have : 0 ≤ IntKind.u64.wrap v ∧ IntKind.u64.wrap v ≤ 18446744073709551615 := by rw [IntKind.wrap_u64]; omega
    exact short_le10 this.1 this.2
  have s0 : (short 0).length ≤ 10 := sl 0
  refine cond_prop (fun h => ?_) fun h => ?_
  · simp only [Bool.not_eq_true'] at h
    refine ⟨⟨hb, by omega⟩, ?_⟩
    repeat' (refine And.intro ?_ ?_)
    all_goals first | omega | simp [zA, h, encA, catL_assoc]
  · simp only [Bool.not_eq_false'] at h
    have hh := h
    simp only [rightA, inLen, Bool.and_eq_true, decide_eq_true_eq] at hh
    have := sl s; have := sl d0; have := sl d1; have := sl d2; have := sl d3; have := sl d4; have := sl d5; have := sl d6
    have w : ∀ v : Int, 0 ≤ v → v ≤ 1073741824 → IntKind.u64.wrap v = v := fun v h0 h1 => wrap_u64 h0 (by omega)
    rw [w s (by omega) (by omega), w d0 (by omega) (by omega), w d1 (by omega) (by omega), w d2 (by omega) (by omega), w d3 (by omega) (by omega), w d4 (by omega) (by omega), w d5 (by omega) (by omega), w d6 (by omega) (by omega)] at *
    refine ⟨⟨hb, by omega⟩, ?_⟩
    repeat' (refine And.intro ?_ ?_)
    all_goals first | omega | simp [zA, h, encA, catL_assoc]
theorem okAttTake0 : OkAttTake0 := by
  intro xs e hq
  refine vcAttTake0 xs e ?_
  have s0 : ∀ l, shRest l e 1073741824 = (atS l e 0).1 := fun l => rfl
  have t0 : ∀ l, shErr l e 1073741824 = (atS l e 0).2 := fun l => rfl
  have s1 : ∀ l k, shRest (atS l e k).1 (atS l e k).2 1024 = (atS l e (k + 1)).1 := fun l k => rfl
  have t1 : ∀ l k, shErr (atS l e k).1 (atS l e k).2 1024 = (atS l e (k + 1)).2 := fun l k => rfl
  have v1 : ∀ l k, shV (atS l e k).1 (atS l e k).2 1024 = atV l e k := fun l k => rfl
  have w2 : ∀ l k, IntKind.i64.wrap (atV l e k) = atV l e k := fun l k => by have := shV_range (atS l e k).1 (atS l e k).2 1024 (by omega); exact wrap_i64 (by unfold atV; omega) (by unfold atV; omega)
  have w3 : ∀ l, IntKind.i64.wrap (shV l e 1073741824) = shV l e 1073741824 := fun l => by have := shV_range l e 1073741824 (by omega); exact wrap_i64 (by omega) (by omega)
  simp only [true_and, and_true, forall_eq, eq_self, bytesL_bytesAV, isBytes_bytesAV, s0, t0, s1, t1, v1, w2, w3, Nat.reduceAdd]
  refine ⟨hq, ?_⟩
  refine ⟨by omega, by omega, by omega, by omega, by omega, by omega, by omega, ?_⟩
  refine cond_prop (fun h => ?_) fun h => ?_
  · simp at h; simp [atZ, h]
  · simp at h; simp [atZ, h]
theorem okRefBad0 : OkRefBad0 := by
  intro xs at' e c hq
  refine vcRefBad0 xs at' e c ?_
  simp only [true_and, and_true, forall_eq, eq_self]
  refine cond_prop (fun h => ?_) fun h => ?_
  · simp at h; simp [inFail, h]
  · simp at h; simp [inFail, h]
theorem okRefByte0 : OkRefByte0 := by
  intro xs at' e hq h0
  refine vcRefByte0 xs at' e ?_
  simp only [true_and, and_true, forall_eq, eq_self, bytesL_bytesAV, isBytes_bytesAV]
  obtain ⟨hb, h1, h2⟩ := hq
  obtain ⟨l, rfl⟩ := hb.get
  simp only [bytesL_bytesAV, length_bytesAV, rdInt_bytes] at h0 h2 ⊢
  have hl := refL_length h1 h2
  refine cond_prop (fun h => ?_) fun h => cond_prop (fun h' => ?_) fun h' => ?_
  · have := tk_fail (n := (refL l at').length) (e := e) (k := 1) (by simp [tkOK] at h ⊢; omega) _ rfl
    rw [this.1, this.2.1, refAt_self h1 h2]
    exact ⟨rfl, rfl, by simp [inByteV, this.2.2]⟩
  · have := tk_fail (n := (refL l at').length) (e := e) (k := 1) (by simp [tkOK] at h' ⊢; omega) _ rfl
    rw [this.1, this.2.1, refAt_self h1 h2]
    exact ⟨rfl, rfl, by simp [inByteV, this.2.2]⟩
  · simp at h h'
    have := tk_ok (n := (refL l at').length) (e := e) (k := 1) (by simp [tkOK, h]; omega) _ rfl
    rw [this.1, this.2.1, wrap_i64 (by omega) (by omega)]
    refine ⟨⟨h1, h', okElem_bytes (by omega)⟩, okRead_bytes (by omega), ?_, rfl, ?_⟩
    · have := refL_drop (l := l) (a := at') h1 1
      rw [if_pos (by omega)] at this
      exact this
    · unfold inByteV
      rw [this.2.2]
      simp [refL, List.getElem?_take]
theorem okRefShort0 : OkRefShort0 := by
  intro xs at' e m hq h0
  refine vcRefShort0 xs at' e m ?_
  simp only [true_and, and_true, forall_eq, eq_self, bytesL_bytesAV, isBytes_bytesAV]
  obtain ⟨hb, h1, h2⟩ := hq
  obtain ⟨l, rfl⟩ := hb.get
  simp only [bytesL_bytesAV, length_bytesAV, cutL_bytes, isBytes_bytesAV, cutL_from] at h0 h2 ⊢
  have hL : l.drop at'.toNat = refL l at' := rfl
  rw [hL]
  obtain ⟨L, hLe⟩ : ∃ L, L = refL l at' := ⟨_, rfl⟩
  have hself := refAt_self h1 h2
  refine cond_prop (fun h => ?_) fun h => ⟨⟨⟨h1, h2⟩, okWidth_bytes l⟩, by simp, cond_prop (fun h' => ?_) fun h' => cond_prop (fun h'' => ?_) fun h'' => ?_⟩
  · simp at h; simp [shRest, shErr, shV, h, hself]
  · simp at h h'; simp [shRest, shErr, shV, h, h', inFail, hself]
  · simp at h h' h''; simp [shRest, shErr, shV, h, h', h'', inFail, hself]
  · simp at h h' h''
    have hm : ¬ m < ((rShort (refL l at')).1 : Int) := by omega
    have hr := rShort_reads (l := refL l at') (v := (rShort (refL l at')).1) (n := (rShort (refL l at')).2.1) (by rw [← h'])
    have hl := refL_length h1 h2
    have := refL_drop (l := l) (a := at') h1 (rShort (refL l at')).2.1
    rw [if_pos (by omega)] at this
    rw [wrap_i64 (by omega) (by omega)]
    simp [shRest, shErr, shV, h, h', hm, this]
theorem okRefEnd0 : OkRefEnd0 := by
  intro xs at' e hq
  refine vcRefEnd0 xs at' e ?_
  simp only [true_and, and_true, forall_eq, eq_self, bytesL_bytesAV, isBytes_bytesAV]
  obtain ⟨hb, h1, h2⟩ := hq
  obtain ⟨l, rfl⟩ := hb.get
  simp only [bytesL_bytesAV, length_bytesAV] at h2 ⊢
  have hl := refL_length h1 h2
  refine cond_prop (fun h => cond_prop (fun h' => ?_) fun h' => ?_) fun h => ?_
  · simp at h h'; simp [inEnd, inLeft, h, hl]; omega
  · simp at h h'
    have : ¬ (0 < (l.length : Int) - at') := by omega
    simp only [inEnd, inLeft, h, hl, ne_eq, not_true_eq_false, if_false]
    rw [if_neg this]
  · simp at h; simp [inEnd, inLeft, h]
theorem okRefBal0 : OkRefBal0 := by
  intro b hq hb
  refine vcRefBal0 b ?_
  simp only [true_and, and_true, forall_eq, eq_self]
  have e1 : b.tdiv 8 = b / 8 := Int.tdiv_eq_ediv_of_nonneg hb.1
  have e2 : b.tmod 8 = b % 8 := Int.tmod_eq_emod_of_nonneg hb.1
  rw [e1, e2, wrap_u32 (by omega) (by omega)]
  refine ⟨by omega, by omega, cond_prop (fun h => ?_) fun h => cond_prop (fun h' => ?_) fun h' => ?_⟩
  all_goals
    simp [balOK] at *
    first | omega | (rw [Bool.eq_iff_iff]; simp; omega)
theorem okRefTakeID0 : OkRefTakeID0 := by
  intro xs at' e hq
  refine vcRefTakeID0 xs at' e ?_
  have hb := inByteV_range (refL (bytesL xs) at') e
  have w1 : IntKind.i64.wrap (inByteV (refL (bytesL xs) at') e) = inByteV (refL (bytesL xs) at') e := wrap_i64 (by omega) (by omega)
  have w2 : ∀ l e, IntKind.i64.wrap (shV l e 1023) = shV l e 1023 := fun l e => by have := shV_range l e 1023 (by omega); exact wrap_i64 (by omega) (by omega)
  have hs : tkRest (refL (bytesL xs) at') e 1 <:+ bytesL xs := (tkRest_suf _ _ _).trans (refL_suf _ _)
  have hlen : (bytesL xs).length = xs.length := by simp [bytesL]
  have hr := refAt_range hs
  rw [hlen] at hr
  have he := refL_refAt hs
  simp only [true_and, and_true, forall_eq, eq_self, bytesL_bytesAV, isBytes_bytesAV, w1, w2, he]
  have e2 : idErr (refL (bytesL xs) at') e = shErr (tkRest (refL (bytesL xs) at') e 1) (idE1 (refL (bytesL xs) at') e) 1023 := rfl
  have e3 : idRest (refL (bytesL xs) at') e = shRest (tkRest (refL (bytesL xs) at') e 1) (idE1 (refL (bytesL xs) at') e) 1023 := rfl
  rw [e3]
  have fin : ∀ c, c = idE1 (refL (bytesL xs) at') e → (isBytes xs ∧ 0 ≤ refAt (bytesL xs) (tkRest (refL (bytesL xs) at') e 1) ∧ refAt (bytesL xs) (tkRest (refL (bytesL xs) at') e 1) ≤ xs.length) ∧
      (shErr (tkRest (refL (bytesL xs) at') e 1) c 1023 ≠ 0 → (refAt (bytesL xs) (shRest (tkRest (refL (bytesL xs) at') e 1) (idE1 (refL (bytesL xs) at') e) 1023) = refAt (bytesL xs) (shRest (tkRest (refL (bytesL xs) at') e 1) c 1023) ∧ idErr (refL (bytesL xs) at') e = shErr (tkRest (refL (bytesL xs) at') e 1) c 1023 ∧ idR (refL (bytesL xs) at') e = 0 ∧ idS (refL (bytesL xs) at') e = 0)) ∧
      (shErr (tkRest (refL (bytesL xs) at') e 1) c 1023 = 0 → (refAt (bytesL xs) (shRest (tkRest (refL (bytesL xs) at') e 1) (idE1 (refL (bytesL xs) at') e) 1023) = refAt (bytesL xs) (shRest (tkRest (refL (bytesL xs) at') e 1) c 1023) ∧ idErr (refL (bytesL xs) at') e = shErr (tkRest (refL (bytesL xs) at') e 1) c 1023 ∧ idR (refL (bytesL xs) at') e = inByteV (refL (bytesL xs) at') e ∧ idS (refL (bytesL xs) at') e = shV (tkRest (refL (bytesL xs) at') e 1) c 1023)) := by
    rintro c rfl
    refine ⟨⟨hq.1, hr⟩, fun h' => ⟨rfl, rfl, by unfold idR; rw [e2]; simp [h'], by unfold idS; rw [e2]; simp [h']⟩, fun h' => ⟨rfl, rfl, by unfold idR; rw [e2]; simp [h'], by unfold idS; rw [e2]; simp [h']⟩⟩
  refine ⟨hq, cond_prop (fun h => cond_prop (fun h' => ?_) fun h' => ?_) fun h => ?_⟩
  · obtain ⟨f1, f2, f3⟩ := fin 12 (by simp at h h'; unfold idE1; rw [if_pos h, h']; simp [inFail])
    exact ⟨f1, cond_prop (fun g => f2 (by simpa using g)) fun g => f3 (by simpa using g)⟩
  · obtain ⟨f1, f2, f3⟩ := fin (tkErr (refL (bytesL xs) at').length e 1) (by simp at h h'; unfold idE1; rw [if_pos h]; simp [inFail, h'])
    exact ⟨f1, cond_prop (fun g => f2 (by simpa using g)) fun g => f3 (by simpa using g)⟩
  · obtain ⟨f1, f2, f3⟩ := fin (tkErr (refL (bytesL xs) at').length e 1) (by simp at h; unfold idE1; rw [if_neg (by omega)])
    exact ⟨f1, cond_prop (fun g => f2 (by simpa using g)) fun g => f3 (by simpa using g)⟩
theorem okRefTakeBal0 : OkRefTakeBal0 := by
  intro xs at' e hq
  refine vcRefTakeBal0 xs at' e ?_
  simp only [true_and, and_true, forall_eq, eq_self, bytesL_bytesAV, isBytes_bytesAV]
  have hr := shV_range (refL (bytesL xs) at') e 4294967295 (by omega)
  rw [wrap_u32 hr.1 hr.2]
  have z : shErr (refL (bytesL xs) at') e 4294967295 ≠ 0 → shV (refL (bytesL xs) at') e 4294967295 = 0 := by
    unfold shErr shV
    split
    · simp
    · split
      · simp
      · split
        · simp
        · simp
  have b0 : balOK 0 = true := by decide
  refine ⟨hq, cond_prop (fun h => cond_prop (fun h' => ?_) fun h' => cond_prop (fun h'' => ?_) fun h'' => ?_) fun h => cond_prop (fun h' => ?_) fun h' => ?_⟩
  · simp at h h'; simp [balE, balV, h, h', inFail]
  · simp at h h''; exact absurd h h''
  · simp at h h'; simp [balE, balV, h, h']
  · simp at h; simp [balE, balV, z h, b0]
  · simp at h h'; exact absurd h' h
theorem okRefARight0 : OkRefARight0 := by
  intro s d0 d1 d2 d3 d4 d5 d6 hq
  refine vcRefARight0 s d0 d1 d2 d3 d4 d5 d6 ?_
  simp only [true_and, and_true, forall_eq, eq_self]
  simp only [rightA, inLen]
  repeat' (first | (refine ⟨by omega, ?_⟩) | (refine cond_prop (fun h => ?_) fun h => ?_))
  all_goals simp only [decide_eq_true_eq, decide_eq_false_iff_not] at *
  all_goals (rw [Bool.eq_iff_iff]; simp only [Bool.and_eq_true, decide_eq_true_eq, Bool.false_eq_true, iff_false]; omega)
theorem okRefATake0 : OkRefATake0 := by
  intro xs at' e hq
  refine vcRefATake0 xs at' e ?_
  have s0 : ∀ l, shRest l e 1073741824 = (atS l e 0).1 := fun l => rfl
  have t0 : ∀ l, shErr l e 1073741824 = (atS l e 0).2 := fun l => rfl
  have s1 : ∀ l k, shRest (atS l e k).1 (atS l e k).2 1024 = (atS l e (k + 1)).1 := fun l k => rfl
  have t1 : ∀ l k, shErr (atS l e k).1 (atS l e k).2 1024 = (atS l e (k + 1)).2 := fun l k => rfl
  have v1 : ∀ l k, shV (atS l e k).1 (atS l e k).2 1024 = atV l e k := fun l k => rfl
  have w2 : ∀ l k, IntKind.i64.wrap (atV l e k) = atV l e k := fun l k => by have := shV_range (atS l e k).1 (atS l e k).2 1024 (by omega); exact wrap_i64 (by unfold atV; omega) (by unfold atV; omega)
  have w3 : ∀ l, IntKind.i64.wrap (shV l e 1073741824) = shV l e 1073741824 := fun l => by have := shV_range l e 1073741824 (by omega); exact wrap_i64 (by omega) (by omega)
  have hs : ∀ k, (atS (refL (bytesL xs) at') e k).1 <:+ bytesL xs := fun k => (atS_suf _ _ _).trans (refL_suf _ _)
  have hlen : (bytesL xs).length = xs.length := by simp [bytesL]
  have hr := fun k => refAt_range (hs k)
  simp only [hlen] at hr
  have he := fun k => refL_refAt (hs k)
  simp only [true_and, and_true, forall_eq, eq_self, bytesL_bytesAV, isBytes_bytesAV, s0, t0, he, s1, t1, v1, w2, w3, Nat.reduceAdd]
  refine ⟨hq, ⟨hq.1, hr 0⟩, by omega, ⟨hq.1, hr 1⟩, by omega, ⟨hq.1, hr 2⟩, by omega, ⟨hq.1, hr 3⟩, by omega, ⟨hq.1, hr 4⟩, by omega, ⟨hq.1, hr 5⟩, by omega, ⟨hq.1, hr 6⟩, by omega, ?_⟩
  refine cond_prop (fun h => ?_) fun h => ?_
  · simp at h; simp [atZ, h]
  · simp at h; simp [atZ, h]
end Go.Proofs.Ytledoikeaidlfaa
