/- The conditions of WirePuts hold. -/
import Derived.Test.YtledoikeaidlfaaLaxPutsVc
namespace Go.Proofs.Ytledoikeaidlfaa
set_option linter.unusedVariables false
set_option linter.unusedSimpArgs false
open Go.RowKit
set_option maxRecDepth 100000

theorem okSame0 : OkSame0 := by
  intro xs ys hq
  refine vcSame0 xs ys ?_
  obtain ⟨hb, hl, rfl⟩ := hq
  obtain ⟨l, rfl⟩ := hb.get
  simp only [true_and, and_true, forall_eq, eq_self, bytesL_bytesAV, isBytes_bytesAV, length_bytesAV] at hl ⊢
  refine cond_prop (fun h => by simp at h) fun _ => ⟨⟨(0 : Nat), rfl, Nat.zero_le _⟩, fun i hi => cond_prop (fun h => ?_) fun _ => trivial⟩
  have h' : i < l.length := by simpa using h
  have oe : okElem 1 (bytesAV l) ((i : Int)).toNat := okElem_bytes (by omega)
  have ore : okRead [Kd.int .u8] (elemAt (bytesAV l) ((i : Int)).toNat) 0 := okRead_bytes (by omega)
  refine ⟨⟨by omega, by omega, oe⟩, ore, ⟨by omega, by omega, oe⟩, ore, cond_prop (fun h => by simp at h) fun _ => ⟨i + 1, ?_, h', by omega⟩⟩
  rw [wrap_i64 (by omega) (by omega)]; rfl
theorem OpsB.get {ops : List AV} (ho : OpsB ops) {i : Nat} (hi : i < ops.length) :
    (0 ≤ rdInt (elemAt ops i) 1 ∧ rdInt (elemAt ops i) 1 ≤ 18446744073709551615) ∧ (rdStr (elemAt ops i) 2).length ≤ 1048576 ∧ okElem 3 ops i ∧ okRead [Kd.int IntKind.i64, Kd.int IntKind.u64, Kd.str] (elemAt ops i) 0 := by
  have hc := HasTy.elem ho hi
  have h1 : HasTy 1048576 (.int .u64) (.int .u64 (rdInt (elemAt ops i) 1)) := (hc.eta (j := 1) (ty := .int .u64) rfl).2
  have h2 : HasTy 1048576 .str (.str (rdStr (elemAt ops i) 2)) := (hc.eta (j := 2) (ty := .str) rfl).2
  have h3 := h1.intR
  have m0 : IntKind.u64.min = 0 := by decide
  have m1 : IntKind.u64.max = 18446744073709551615 := by decide
  refine ⟨⟨by omega, by omega⟩, ?_, HasTy.okElem (l := [.int .i64, .int .u64, .str]) ho hi, CellsTy.okRead (l := [.int .i64, .int .u64, .str]) hc rfl⟩
  cases h2 with
  | str l h => exact h
theorem encAt_len {ops : List AV} (ho : OpsB ops) {i : Nat} (hi : i < ops.length) : (encAt ops i).length ≤ 1048586 := by
  obtain ⟨hn, hs, _, _⟩ := ho.get hi
  have h1 := short_le10 hn.1 hn.2
  have h2 := short_le10 (v := ((rdStr (elemAt ops i) 2).length : Int)) (by omega) (by omega)
  unfold encAt encOp
  repeat' split
  all_goals first | (simp [encByte]; done) | (simp [encTruth]; done) | omega | (rw [show cap8 8 = 8 from rfl, bytesOf8]; omega) | (simp [encText] at h2 ⊢; omega) | simp
theorem encN_len {ops : List AV} (ho : OpsB ops) : ∀ i, i ≤ ops.length → (encN ops i).length ≤ i * 1048586
  | 0, _ => by simp [encN]
  | i + 1, h => by
    have h1 := encN_len ho i (by omega)
    have h2 := encAt_len ho (i := i) (by omega)
    show (catL (encN ops i) (encAt ops i)).length ≤ _
    rw [catL_length]; omega
theorem restN_step {ops : List AV} {i : Nat} (hi : i < ops.length) : restN ops i = encAt ops i ++ restN ops (i + 1) := by
  unfold restN
  rw [List.drop_eq_getElem_cons (by simpa using hi)]
  simp
theorem restN_end (ops : List AV) : restN ops ops.length = [] := by
  unfold restN
  rw [List.drop_of_length_le (by simp)]; rfl
theorem encN_rest {ops : List AV} : ∀ i, i ≤ ops.length → encN ops i ++ restN ops i = restN ops 0
  | 0, _ => rfl
  | i + 1, h => by
    have h1 := encN_rest (ops := ops) i (by omega)
    rw [restN_step (by omega), ← List.append_assoc] at h1
    exact h1
theorem encN_all (ops : List AV) : encN ops ops.length = restN ops 0 := by
  have := encN_rest (ops := ops) ops.length (Nat.le_refl _)
  rwa [restN_end, List.append_nil] at this
theorem sh_taken {v m : Int} (more : List UInt8) (h0 : 0 ≤ v) (hm : v ≤ m) (hv : v ≤ 18446744073709551615) :
    shV (short v.toNat ++ more) 0 m = v ∧ shRest (short v.toNat ++ more) 0 m = more ∧ shErr (short v.toNat ++ more) 0 m = 0 := by
  have h := rShort_short v.toNat more (by omega)
  have hm' : ¬ m < ((v.toNat : Nat) : Int) := by omega
  simp [shV, shRest, shErr, h, hm']
  omega
theorem byte_taken {b : Int} (more : List UInt8) (h0 : 0 ≤ b) (h1 : b ≤ 255) : inByteV (encByte b ++ more) 0 = b ∧ tkRest (encByte b ++ more) 0 1 = more ∧ tkErr (encByte b ++ more).length 0 1 = 0 := by
  have := tk_ok (n := (encByte b ++ more).length) (e := 0) (k := 1) (by simp [tkOK, encByte]; omega) _ rfl
  unfold inByteV
  rw [this.1, this.2.1, this.2.2]
  simp [encByte]
  omega
theorem truth_taken (b : Bool) (more : List UInt8) : inTruthV (encTruth b ++ more) 0 = b ∧ tkRest (encTruth b ++ more) 0 1 = more ∧ inTruthE (encTruth b ++ more) 0 = 0 := by
  have := tk_ok (n := (encTruth b ++ more).length) (e := 0) (k := 1) (by simp [tkOK, encTruth]; omega) _ rfl
  have hv : inByteV (encTruth b ++ more) 0 = if b then 1 else 0 := by
    unfold inByteV
    rw [this.2.2]
    cases b <;> simp [encTruth]
  have he : inTruthE (encTruth b ++ more) 0 = 0 := by
    unfold inTruthE
    rw [hv, this.2.1]
    cases b <;> simp
  unfold inTruthV
  rw [he, hv, this.1]
  cases b <;> simp [encTruth]
theorem fixed_taken {v : Int} (more : List UInt8) (h0 : 0 ≤ v) (h1 : v ≤ 18446744073709551615) : ((val8 (tkOut (bytesOf v (cap8 8) ++ more) 0 8) : Nat) : Int) = v ∧ tkRest (bytesOf v (cap8 8) ++ more) 0 8 = more ∧ tkErr (bytesOf v (cap8 8) ++ more).length 0 8 = 0 := by
  have e : cap8 8 = 8 := rfl
  rw [e]
  have hl := bytesOf8 v
  have := tk_ok (n := (bytesOf v 8 ++ more).length) (e := 0) (k := 8) (by simp [tkOK, hl]; omega) _ rfl
  rw [this.1, this.2.1, this.2.2]
  have e8 : (8 : Int).toNat = 8 := rfl
  rw [e8, List.take_left' hl, List.drop_left' hl]
  refine ⟨?_, rfl, rfl⟩
  unfold val8
  rw [if_neg (by omega), List.take_of_length_le (by omega), valOf_bytesOf 8 v h0]
  omega
theorem text_taken (s more : List UInt8) (h : s.length ≤ 1048576) : inTextV (encText s ++ more) 0 s.length = s ∧ inTextR (encText s ++ more) 0 s.length = more ∧ inTextE (encText s ++ more) 0 s.length = 0 := by
  have hm : most0 (s.length : Int) = s.length := by unfold most0; rw [if_neg (by omega)]
  obtain ⟨h1, h2, h3⟩ := sh_taken (v := (s.length : Int)) (m := (s.length : Int)) (s ++ more) (by omega) (by omega) (by omega)
  have e : encText s ++ more = short ((s.length : Int)).toNat ++ (s ++ more) := by simp [encText]
  unfold inTextV inTextR inTextE
  rw [hm, e, h1, h2, h3]
  have := tk_ok (n := (s ++ more).length) (e := 0) (k := (s.length : Int)) (by simp [tkOK]; omega) _ rfl
  rw [this.1, this.2.1, this.2.2]
  simp
theorem put_end {ops : List AV} {i : Nat} {l : List UInt8} (ho : OpsB ops) (hi : i < ops.length) (hl : l = encAt ops i) :
    ∃ v6 : Nat, (AV.int IntKind.i64 (IntKind.i64.wrap (↑i + 1)) = AV.int IntKind.i64 ↑v6 ∧ some [AV.sl (bytesAV (catL (encN ops i) l)) (Own.row 17 0 5)] = some [AV.sl (bytesAV (encN ops v6)) (Own.row 17 0 5)] ∧
      (catL (encN ops i) l).length = (encN ops v6).length) ∧ v6 ≤ ops.length ∧ ops.length - v6 < ops.length - i := by
  have := ho.len
  subst hl
  refine ⟨i + 1, ⟨?_, rfl, rfl⟩, hi, by omega⟩
  rw [wrap_i64 (by omega) (by omega)]; rfl
theorem get_end {ops : List AV} {i : Nat} {l : List UInt8} {e : Int} (ho : OpsB ops) (hi : i < ops.length) (hl : l = restN ops (i + 1)) (he : e = 0) :
    ∃ v20 : Nat, (AV.int IntKind.i64 (IntKind.i64.wrap (↑i + 1)) = AV.int IntKind.i64 ↑v20 ∧ some [AV.sl (bytesAV l) Own.no, AV.int IntKind.i64 e] = some [AV.sl (bytesAV (restN ops v20)) Own.no, AV.int IntKind.i64 0]) ∧
      v20 ≤ ops.length ∧ ops.length - v20 < ops.length - i := by
  have := ho.len
  subst hl he
  refine ⟨i + 1, ⟨?_, rfl⟩, hi, by omega⟩
  rw [wrap_i64 (by omega) (by omega)]; rfl
theorem okLawPuts0 : OkLawPuts0 := by
  intro ops ho
  refine vcLawPuts0 ops ?_
  have hlen := ho.len
  simp only [true_and, and_true, forall_eq, eq_self, bytesL_bytesAV, isBytes_bytesAV, length_bytesAV]
  refine cond_prop (fun _ => trivial) fun hs => ?_
  have h60 : ops.length ≤ 60 := by simp at hs; omega
  refine ⟨⟨(0 : Nat), ⟨rfl, rfl, rfl⟩, Nat.zero_le _⟩, fun i hi => cond_prop (fun h => ?_) fun h => ?_⟩
  · have h' : i < ops.length := by simpa using h
    obtain ⟨hn, hst, oe, ore⟩ := ho.get h'
    have hN := encN_len ho i hi
    have ti : ((i : Int)).toNat = i := by omega
    rw [ti]
    refine ⟨⟨by omega, by omega, oe⟩, ore, cond_prop (fun g => ⟨by omega, put_end ho h' ?_⟩) fun g1 => cond_prop (fun g => ⟨by omega, by omega, put_end ho h' ?_⟩) fun g2 => cond_prop (fun g => ⟨by omega, put_end ho h' ?_⟩) fun g3 => cond_prop (fun g => ⟨by omega, put_end ho h' ?_⟩) fun g4 => cond_prop (fun g => ⟨by omega, put_end ho h' ?_⟩) fun g5 => ?_⟩
    · simp at g; simp [encAt, encOp, g]
    · simp at g; simp [encAt, encOp, g]
    · simp at g; simp [encAt, encOp, g]
    · simp at g; simp [encAt, encOp, g]
    · simp at g; simp [encAt, encOp, g]
    · simp at g1 g2 g3 g4 g5
      have e : encAt ops i = [] := by simp [encAt, encOp, g1, g2, g3, g4, g5]
      have := put_end ho h' (l := []) e.symm
      have e2 : catL (encN ops i) [] = encN ops i := by simp [catL]
      rw [e2] at this
      exact this
  · have h' : i = ops.length := by simp at h; omega
    subst h'
    have hN := encN_len ho _ (Nat.le_refl _)
    refine ⟨by omega, by omega, ⟨(0 : Nat), ⟨⟨rfl, rfl⟩, ⟨rfl, ?_⟩, rfl⟩, Nat.zero_le _⟩, fun i hi => cond_prop (fun h => ?_) fun h => ?_⟩
    · rw [encN_all]
    · have h' : i < ops.length := by simpa using h
      obtain ⟨hn, hst, oe, ore⟩ := ho.get h'
      have ti : ((i : Int)).toNat = i := by omega
      rw [ti, restN_step h']
      refine ⟨⟨by omega, by omega, oe⟩, ore, cond_prop (fun g => ?_) fun g1 => cond_prop (fun g => ⟨by omega, ?_⟩) fun g2 => cond_prop (fun g => ?_) fun g3 => cond_prop (fun g => ?_) fun g4 => cond_prop (fun g => ?_) fun g5 => ?_⟩
      · simp at g
        have e : encAt ops i = encByte (IntKind.u8.wrap (rdInt (elemAt ops i) 1)) := by simp [encAt, encOp, g]
        rw [e]
        obtain ⟨t1, t2, t3⟩ := byte_taken (b := IntKind.u8.wrap (rdInt (elemAt ops i) 1)) (restN ops (i + 1)) (by rw [IntKind.wrap_u8]; omega) (by rw [IntKind.wrap_u8]; omega)
        exact cond_prop (fun k => by rw [t1] at k; simp at k) fun _ => get_end ho h' t2 t3
      · simp at g
        have e : encAt ops i = encTruth ((rdInt (elemAt ops i) 1).tmod 2 == 1) := by simp [encAt, encOp, g]
        rw [e]
        obtain ⟨t1, t2, t3⟩ := truth_taken ((rdInt (elemAt ops i) 1).tmod 2 == 1) (restN ops (i + 1))
        exact cond_prop (fun k => by rw [t1] at k; simp at k) fun _ => get_end ho h' t2 t3
      · simp at g
        have e : encAt ops i = short (rdInt (elemAt ops i) 1).toNat := by simp [encAt, encOp, g]
        rw [e]
        obtain ⟨t1, t2, t3⟩ := sh_taken (v := rdInt (elemAt ops i) 1) (m := 18446744073709551615) (restN ops (i + 1)) hn.1 hn.2 hn.2
        exact cond_prop (fun k => by rw [t1] at k; simp at k) fun _ => get_end ho h' t2 t3
      · simp at g
        have e : encAt ops i = bytesOf (rdInt (elemAt ops i) 1) (cap8 8) := by simp [encAt, encOp, g]
        rw [e]
        obtain ⟨t1, t2, t3⟩ := fixed_taken (v := rdInt (elemAt ops i) 1) (restN ops (i + 1)) hn.1 hn.2
        exact cond_prop (fun k => by rw [t1] at k; simp at k) fun _ => get_end ho h' t2 t3
      · simp at g
        have e : encAt ops i = encText (rdStr (elemAt ops i) 2) := by simp [encAt, encOp, g]
        rw [e]
        obtain ⟨t1, t2, t3⟩ := text_taken (rdStr (elemAt ops i) 2) (restN ops (i + 1)) hst
        exact cond_prop (fun k => by rw [t1] at k; simp at k) fun _ => get_end ho h' t2 t3
      · simp at g1 g2 g3 g4 g5
        have e : encAt ops i = [] := by simp [encAt, encOp, g1, g2, g3, g4, g5]
        rw [e]
        exact get_end ho h' rfl rfl
    · have h' : i = ops.length := by simp at h; omega
      subst h'
      rw [restN_end]
      exact cond_prop (fun _ => ⟨by omega, by omega⟩) fun k => by simp [inEnd, inLeft] at k
end Go.Proofs.Ytledoikeaidlfaa
