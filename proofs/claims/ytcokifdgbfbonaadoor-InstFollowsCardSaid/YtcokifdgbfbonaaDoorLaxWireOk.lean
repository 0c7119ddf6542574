/- The conditions of wire's code hold. -/
import Derived.Test.YtcokifdgbfbonaaDoorLaxWireVc
namespace Go.Proofs.YtcokifdgbfbonaaDoor
set_option linter.unusedVariables false
set_option linter.unusedSimpArgs false
open Go.RowKit

theorem cutL_to {α : Type} (l : List α) (k : Nat) : cutL l 0 k = l.take k := by simp [cutL]
theorem cutL_from {α : Type} (l : List α) (k : Nat) : cutL l k l.length = l.drop k := by simp [cutL]
theorem catL_cons (l : List UInt8) (b : UInt8) : catL (bytesAV l) [byteAV b] = bytesAV (catL l [b]) := by simp [catL, bytesAV]
theorem catL_bytes' (l m : List UInt8) : catL (bytesAV l) (bytesAV m) = bytesAV (catL l m) := by simp [catL, bytesAV]
theorem catL_assoc {α : Type} (l m k : List α) : catL (catL l m) k = catL l (catL m k) := by simp [catL]
theorem short_le10 {v : Int} (h0 : 0 ≤ v) (h1 : v ≤ 18446744073709551615) : (short v.toNat).length ≤ 10 := short_len64 _ (by omega)

theorem okInFail0 : OkInFail0 := by
  intro xs e c hq
  refine vcInFail0 xs e c ?_
  simp only [true_and, and_true, forall_eq, eq_self]
  refine cond_prop (fun h => ?_) fun h => ?_
  · simp [inFail] at h ⊢; omega
  · simp [inFail] at h ⊢; omega
theorem tk_fail {n : Nat} {e k : Int} (h : tkOK n e k = false) (l : List UInt8) (hl : l.length = n) : tkRest l e k = l ∧ tkErr n e k = inFail e 20 ∧ tkOut l e k = [] := by
  subst hl
  simp [tkRest, tkErr, tkOut, h]
theorem tk_ok {n : Nat} {e k : Int} (h : tkOK n e k = true) (l : List UInt8) (hl : l.length = n) : tkRest l e k = l.drop k.toNat ∧ tkErr n e k = e ∧ tkOut l e k = l.take k.toNat := by
  subst hl
  simp [tkRest, tkErr, tkOut, h]
theorem okTake0 : OkTake0 := by
  intro xs e k hq
  refine vcTake0 xs e k ?_
  simp only [true_and, and_true, forall_eq, eq_self]
  obtain ⟨hb, hk⟩ := hq
  obtain ⟨l, rfl⟩ := hb.get
  simp only [bytesL_bytesAV, length_bytesAV, cutL_bytes]
  refine cond_prop (fun h => ?_) fun h => cond_prop (fun h' => ?_) fun h' => ?_
  · have := tk_fail (n := l.length) (e := e) (k := k) (by simp [tkOK] at h ⊢; omega) l rfl
    rw [this.1, this.2.1, this.2.2]; exact ⟨rfl, rfl, rfl⟩
  · have := tk_fail (n := l.length) (e := e) (k := k) (by simp [tkOK] at h' ⊢; omega) l rfl
    rw [this.1, this.2.1, this.2.2]; exact ⟨rfl, rfl, rfl⟩
  · have := tk_ok (n := l.length) (e := e) (k := k) (by simp [tkOK] at h h' ⊢; omega) l rfl
    rw [this.1, this.2.1, this.2.2]
    simp at h'
    rw [cutL_from, cutL_to]
    exact ⟨⟨⟨hk, by omega, h'⟩, okWidth_bytes l⟩, ⟨⟨hk, h'⟩, okWidth_bytes l⟩, rfl, rfl, rfl⟩
theorem okInByte0 : OkInByte0 := by
  intro xs e hq
  refine vcInByte0 xs e ?_
  simp only [true_and, and_true, forall_eq, eq_self]
  obtain ⟨l, rfl⟩ := hq.get
  simp only [bytesL_bytesAV, length_bytesAV, rdInt_bytes]
  refine ⟨⟨isBytes_bytesAV l, by omega⟩, cond_prop (fun h => ?_) fun h => ?_⟩
  · have : tkOut l e 1 = [] := by simpa using h
    simp [inByteV, this]
  · have : 0 < (tkOut l e 1).length := by
      simp at h
      exact List.length_pos_iff.2 h
    exact ⟨⟨by omega, by omega, okElem_bytes this⟩, okRead_bytes this, rfl⟩
theorem okInTruth0 : OkInTruth0 := by
  intro xs e hq
  refine vcInTruth0 xs e ?_
  simp only [true_and, and_true, forall_eq, eq_self]
  refine ⟨hq, cond_prop (fun h => cond_prop (fun h' => ?_) fun h' => ?_) fun h => cond_prop (fun h' => ?_) fun h' => ?_⟩
  all_goals
    simp only [decide_eq_true_eq, decide_eq_false_iff_not, beq_iff_eq, beq_eq_false_iff_ne, ne_eq] at h h'
    simp [inTruthE, inTruthV, h, h']
theorem okInShort0 : OkInShort0 := by
  intro xs e m hq
  refine vcInShort0 xs e m ?_
  simp only [true_and, and_true, forall_eq, eq_self]
  obtain ⟨l, rfl⟩ := hq.get
  simp only [bytesL_bytesAV, length_bytesAV]
  refine cond_prop (fun h => ?_) fun h => ⟨hq, cond_prop (fun h' => ?_) fun h' => cond_prop (fun h'' => ?_) fun h'' => ?_⟩
  · simp at h; simp [shRest, shErr, shV, h]
  · simp at h h'; simp [shRest, shErr, shV, h, h', inFail]
  · simp at h h' h''; simp [shRest, shErr, shV, h, h', h'', inFail]
  · simp at h h' h''
    have hr := rShort_reads (l := l) (v := (rShort l).1) (n := (rShort l).2.1) (by rw [← h'])
    have hok : tkOK l.length e ((rShort l).2.1 : Int) = true := by simp [tkOK, h]; exact hr.1
    have := tk_ok hok l rfl
    rw [this.1, this.2.1]
    have hm : ¬ m < ((rShort l).1 : Int) := by omega
    refine ⟨⟨hq, by omega⟩, ?_⟩
    simp [shRest, shErr, shV, h, h', hm]
theorem okInFixed0 : OkInFixed0 := by
  intro xs e hq
  refine vcInFixed0 xs e ?_
  simp only [true_and, and_true, forall_eq, eq_self]
  simp only [bytesL_bytesAV]
  exact ⟨⟨hq, by omega⟩, isBytes_bytesAV _, trivial⟩
theorem shV_range (l : List UInt8) (e m : Int) (hm : 0 ≤ m) : 0 ≤ shV l e m ∧ shV l e m ≤ m := by
  unfold shV
  split
  · omega
  · split
    · omega
    · split <;> omega
theorem okInText0 : OkInText0 := by
  intro xs e m hq hm
  refine vcInText0 xs e m ?_
  simp only [true_and, and_true, forall_eq, eq_self]
  have e1 : IntKind.u64.wrap (if m < 0 then 0 else m) = most0 m := by
    unfold most0
    split
    · rfl
    · rw [wrap_u64 (by omega) (by omega)]
  have h0 : 0 ≤ most0 m ∧ most0 m ≤ 9223372036854775807 := by unfold most0; split <;> omega
  have hr := shV_range (bytesL xs) e (most0 m) h0.1
  have e2 : IntKind.i64.wrap (shV (bytesL xs) e (most0 m)) = shV (bytesL xs) e (most0 m) := wrap_i64 (by omega) (by omega)
  simp only [e1, e2, bytesL_bytesAV]
  exact ⟨hq, ⟨isBytes_bytesAV _, hr.1⟩, isBytes_bytesAV _, rfl, rfl, rfl⟩
theorem okInFailed0 : OkInFailed0 := by
  intro xs e hq
  refine vcInFailed0 xs e ?_
  simp only [true_and, and_true, forall_eq, eq_self]
  rw [Bool.eq_iff_iff]; simp
theorem okInLeft0 : OkInLeft0 := by
  intro xs e hq
  refine vcInLeft0 xs e ?_
  simp only [true_and, and_true, forall_eq, eq_self]
  obtain ⟨l, rfl⟩ := hq.get
  simp only [bytesL_bytesAV, length_bytesAV]
  refine cond_prop (fun h => ?_) fun h => ?_
  · simp at h; simp [inLeft, h]
  · simp at h; simp [inLeft, h]
theorem okInEnd0 : OkInEnd0 := by
  intro xs e hq
  refine vcInEnd0 xs e ?_
  simp only [true_and, and_true, forall_eq, eq_self]
  refine ⟨hq, cond_prop (fun h => ?_) fun h => ?_⟩
  · simp at h; simp [inEnd, h]
  · simp at h
    have : ¬ 0 < inLeft (bytesL xs) e := by omega
    simp [inEnd, this]
theorem okNewIn0 : OkNewIn0 := by
  intro xs hq
  refine vcNewIn0 xs ?_
  simp only [true_and, and_true, forall_eq, eq_self]
  exact hq
theorem okOutByte1 : OkOutByte1 := by
  intro xs p q b hq hb
  refine vcOutByte1 xs p q b ?_
  simp only [true_and, and_true, forall_eq, eq_self]
  obtain ⟨hq, hl⟩ := hq
  obtain ⟨l, rfl⟩ := hq.get
  rw [byte_int hb.1 hb.2]
  simp only [bytesL_bytesAV, length_bytesAV, catL_cons, catL_length] at hl ⊢
  exact ⟨⟨by omega, by omega, okWidth_bytes l, okWidth_cons rfl (okWidth_nil 1)⟩, by omega, rfl, by simp⟩
theorem okOutTruth1 : OkOutTruth1 := by
  intro xs p q b hq
  refine vcOutTruth1 xs p q b ?_
  simp only [true_and, and_true, forall_eq, eq_self]
  cases b
  · exact ⟨hq, by omega, rfl⟩
  · exact ⟨hq, by omega, rfl⟩
theorem okOutShort1 : OkOutShort1 := by
  intro xs p q v hq hv
  refine vcOutShort1 xs p q v ?_
  simp only [true_and, and_true, forall_eq, eq_self, length_bytesAV]
  obtain ⟨hq, hl⟩ := hq
  obtain ⟨l, rfl⟩ := hq.get
  have := short_le10 hv.1 hv.2
  simp only [bytesL_bytesAV, length_bytesAV, catL_bytes', catL_length] at hl ⊢
  exact ⟨⟨by omega, by omega, okWidth_bytes _, okWidth_bytes _⟩, by omega, trivial, trivial⟩
theorem bytesOf8 (v : Int) : (bytesOf v 8).length = 8 := bytesOf_len v 8
theorem okOutFixed1 : OkOutFixed1 := by
  intro xs p q v hq
  refine vcOutFixed1 xs p q v ?_
  simp only [true_and, and_true, forall_eq, eq_self, length_bytesAV]
  obtain ⟨hq, hl⟩ := hq
  obtain ⟨l, rfl⟩ := hq.get
  have e8 : cap8 8 = 8 := rfl
  simp only [bytesL_bytesAV, length_bytesAV, catL_bytes', catL_length, bytesOf8, e8] at hl ⊢
  exact ⟨⟨by omega, by omega, okWidth_bytes _, okWidth_bytes _⟩, by omega, trivial, trivial⟩
theorem okOutText1 : OkOutText1 := by
  intro xs p q s hq
  refine vcOutText1 xs p q s ?_
  obtain ⟨hq, hl⟩ := hq
  obtain ⟨l, rfl⟩ := hq.get
  have e1 : IntKind.u64.wrap (s.length : Int) = s.length := wrap_u64 (by omega) (by omega)
  have := short_le10 (v := (s.length : Int)) (by omega) (by omega)
  rw [e1]
  simp only [true_and, and_true, forall_eq, eq_self, length_bytesAV, bytesL_bytesAV, catL_bytes', catL_length, Int.toNat_natCast] at this hl ⊢
  refine ⟨⟨hq, by omega⟩, ⟨by omega, by omega, okWidth_bytes _, okWidth_bytes _⟩, by omega, ?_⟩
  rw [catL_assoc]; rfl
theorem okOutBytes1 : OkOutBytes1 := by
  intro xs p q hq
  refine vcOutBytes1 xs p q ?_
  simp only [true_and, and_true, forall_eq, eq_self]
  exact ⟨hq, by omega⟩
end Go.Proofs.YtcokifdgbfbonaaDoor
