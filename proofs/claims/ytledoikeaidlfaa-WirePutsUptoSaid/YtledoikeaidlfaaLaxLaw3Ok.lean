/- The conditions of WireTakes hold. -/
import Derived.Test.YtledoikeaidlfaaLaxLaw3Vc
namespace Go.Proofs.Ytledoikeaidlfaa
set_option linter.unusedVariables false
set_option linter.unusedSimpArgs false
open Go.RowKit
set_option maxRecDepth 100000

theorem okRefTruth0 : OkRefTruth0 := by
  intro xs at' e hq
  refine vcRefTruth0 xs at' e ?_
  simp only [true_and, and_true, forall_eq, eq_self, bytesL_bytesAV, isBytes_bytesAV]
  refine ⟨hq, cond_prop (fun h => ?_) fun h => cond_prop (fun h' => ?_) fun h' => ?_⟩
  · simp at h
    have e1 : inTruthE (refL (bytesL xs) at') e = inFail (tkErr (refL (bytesL xs) at').length e 1) 10 := by unfold inTruthE; rw [if_pos h]
    refine ⟨e1, ?_⟩
    unfold inTruthV
    have : ¬ (inByteV (refL (bytesL xs) at') e = 1) := by omega
    simp [this]
  · simp at h h'
    have hn : ¬ 1 < inByteV (refL (bytesL xs) at') e := by omega
    have hd : decide (1 < inByteV (refL (bytesL xs) at') e) = false := by simp [hn]
    refine ⟨?_, ?_⟩
    · unfold inTruthE; rw [if_neg hn]
    · unfold inTruthV inTruthE; rw [if_neg hn]; simp [h']
  · simp at h h'
    have hn : ¬ 1 < inByteV (refL (bytesL xs) at') e := by omega
    refine ⟨?_, ?_⟩
    · unfold inTruthE; rw [if_neg hn]
    · unfold inTruthV inTruthE; rw [if_neg hn]; simp [h']
theorem fix_step {v a : Nat} (hv : v < 72057594037927936) (ha : a < 256) : IntKind.u64.wrap (IntKind.u64.wrap ((v : Int) * 256) + IntKind.u64.wrap (a : Int)) = ((v * 256 + a : Nat) : Int) := by
  rw [IntKind.wrap_u64, IntKind.wrap_u64, IntKind.wrap_u64]; omega
theorem okRefFixed0 : OkRefFixed0 := by
  intro xs at' e hq h0
  refine vcRefFixed0 xs at' e ?_
  simp only [true_and, and_true, forall_eq, eq_self, bytesL_bytesAV, isBytes_bytesAV]
  obtain ⟨hb, h1, h2⟩ := hq
  obtain ⟨l, rfl⟩ := hb.get
  simp only [bytesL_bytesAV, length_bytesAV, rdInt_bytes] at h0 h2 ⊢
  have hl := refL_length h1 h2
  have v0 : val8 [] = 0 := by simp [val8]
  refine cond_prop (fun h => ?_) fun h => cond_prop (fun h' => ?_) fun h' => ?_
  · have := tk_fail (n := (refL l at').length) (e := e) (k := 8) (by simp [tkOK] at h ⊢; omega) _ rfl
    rw [this.1, this.2.1, this.2.2, refAt_self h1 h2, v0]
    exact ⟨rfl, rfl, rfl⟩
  · rw [wrap_i64 (by omega) (by omega)] at h'
    have := tk_fail (n := (refL l at').length) (e := e) (k := 8) (by simp [tkOK] at h' ⊢; omega) _ rfl
    rw [this.1, this.2.1, this.2.2, refAt_self h1 h2, v0]
    exact ⟨rfl, rfl, rfl⟩
  · rw [wrap_i64 (by omega) (by omega)] at h'
    simp at h h'
    have := tk_ok (n := (refL l at').length) (e := e) (k := 8) (by simp [tkOK, h]; omega) _ rfl
    rw [this.1, this.2.1, this.2.2]
    have wk : ∀ k : Int, 0 ≤ k → k ≤ 8 → IntKind.i64.wrap (at' + k) = at' + k := fun k h3 h4 => wrap_i64 (by omega) (by omega)
    rw [wk 0 (by omega) (by omega), wk 1 (by omega) (by omega), wk 2 (by omega) (by omega), wk 3 (by omega) (by omega), wk 4 (by omega) (by omega), wk 5 (by omega) (by omega), wk 6 (by omega) (by omega), wk 7 (by omega) (by omega), wk 8 (by omega) (by omega)]
    obtain ⟨n, rfl⟩ : ∃ n : Nat, at' = n := ⟨at'.toNat, by omega⟩
    have get : ∀ k : Nat, l.getD ((n : Int) + (k : Int)).toNat 0 = (refL l n).getD k 0 := by
      intro k
      have : ((n : Int) + (k : Int)).toNat = n + k := by omega
      rw [this]
      simp [refL, List.getD]
    have g0 := get 0; have g1 := get 1; have g2 := get 2; have g3 := get 3; have g4 := get 4; have g5 := get 5; have g6 := get 6; have g7 := get 7
    simp only [Int.natCast_zero, Int.natCast_one] at g0 g1
    have h8 : 8 ≤ (refL l n).length := by omega
    have hdrop := refL_drop (l := l) (a := (n : Int)) h1 8
    rw [if_pos (by omega)] at hdrop
    have oe : ∀ k : Int, 0 ≤ k → k < 8 → okElem 1 (bytesAV l) ((n : Int) + k).toNat := fun k h3 h4 => okElem_bytes (by omega)
    have ore : ∀ k : Int, 0 ≤ k → k < 8 → okRead [Kd.int .u8] (elemAt (bytesAV l) ((n : Int) + k).toNat) 0 := fun k h3 h4 => okRead_bytes (by omega)
    have d8 : (8 : Int).toNat = 8 := rfl
    rw [d8, hdrop]
    refine ⟨⟨by omega, by omega, oe 0 (by omega) (by omega)⟩, ore 0 (by omega) (by omega), ⟨by omega, by omega, oe 1 (by omega) (by omega)⟩, ore 1 (by omega) (by omega), ⟨by omega, by omega, oe 2 (by omega) (by omega)⟩, ore 2 (by omega) (by omega), ⟨by omega, by omega, oe 3 (by omega) (by omega)⟩, ore 3 (by omega) (by omega),
      ⟨by omega, by omega, oe 4 (by omega) (by omega)⟩, ore 4 (by omega) (by omega), ⟨by omega, by omega, oe 5 (by omega) (by omega)⟩, ore 5 (by omega) (by omega), ⟨by omega, by omega, oe 6 (by omega) (by omega)⟩, ore 6 (by omega) (by omega), ⟨by omega, by omega, oe 7 (by omega) (by omega)⟩, ore 7 (by omega) (by omega), rfl, rfl, ?_⟩
    rw [g0, g1]
    have g2' : l.getD ((n : Int) + 2).toNat 0 = (refL l n).getD 2 0 := g2
    have g3' : l.getD ((n : Int) + 3).toNat 0 = (refL l n).getD 3 0 := g3
    have g4' : l.getD ((n : Int) + 4).toNat 0 = (refL l n).getD 4 0 := g4
    have g5' : l.getD ((n : Int) + 5).toNat 0 = (refL l n).getD 5 0 := g5
    have g6' : l.getD ((n : Int) + 6).toNat 0 = (refL l n).getD 6 0 := g6
    have g7' : l.getD ((n : Int) + 7).toNat 0 = (refL l n).getD 7 0 := g7
    rw [g2', g3', g4', g5', g6', g7']
    clear g0 g1 g2 g3 g4 g5 g6 g7 g2' g3' g4' g5' g6' g7' get oe ore hdrop this wk hl
    generalize refL l n = L at h8
    match L, h8 with
    | a0 :: a1 :: a2 :: a3 :: a4 :: a5 :: a6 :: a7 :: r, _ =>
      have b0 := a0.toNat_lt; have b1 := a1.toNat_lt; have b2 := a2.toNat_lt; have b3 := a3.toNat_lt; have b4 := a4.toNat_lt; have b5 := a5.toNat_lt; have b6 := a6.toNat_lt; have b7 := a7.toNat_lt
      simp only [List.getD_cons_zero, List.getD_cons_succ]
      have s0 : IntKind.u64.wrap (IntKind.u64.wrap 0 + IntKind.u64.wrap (a0.toNat : Int)) = ((a0.toNat : Nat) : Int) := by rw [IntKind.wrap_u64, IntKind.wrap_u64, IntKind.wrap_u64]; omega
      have s0' : IntKind.u64.wrap (0 + IntKind.u64.wrap (a0.toNat : Int)) = ((a0.toNat : Nat) : Int) := by rw [IntKind.wrap_u64, IntKind.wrap_u64]; omega
      first | rw [s0'] | rw [s0]
      rw [fix_step (by omega) b1, fix_step (by omega) b2, fix_step (by omega) b3, fix_step (by omega) b4, fix_step (by omega) b5, fix_step (by omega) b6, fix_step (by omega) b7]
      simp [val8, valOf]
theorem textFin {l : List UInt8} {at' e M : Int} (h1 : 0 ≤ at') (h2 : at' ≤ l.length) (h0 : l.length ≤ 9223372036854775807) (hM0 : 0 ≤ M) (hM1 : M ≤ 9223372036854775807) {m : Int} (hM : most0 m = M) :
    (shErr (refL l at') e M ≠ 0 ∨ (((shRest (refL l at') e M).length : Int) < shV (refL l at') e M) → inTextR (refL l at') e m = shRest (refL l at') e M ∧ inTextE (refL l at') e m = inFail (shErr (refL l at') e M) 20 ∧ inTextV (refL l at') e m = []) ∧
    (shErr (refL l at') e M = 0 → ¬ (((shRest (refL l at') e M).length : Int) < shV (refL l at') e M) →
      inTextR (refL l at') e m = (shRest (refL l at') e M).drop (shV (refL l at') e M).toNat ∧ inTextE (refL l at') e m = shErr (refL l at') e M ∧ inTextV (refL l at') e m = (shRest (refL l at') e M).take (shV (refL l at') e M).toNat) := by
  unfold inTextR inTextE inTextV
  rw [hM]
  refine ⟨fun h => ?_, fun h h' => ?_⟩
  · exact tk_fail (by simp [tkOK]; omega) _ rfl
  · exact tk_ok (by simp [tkOK, h]; omega) _ rfl
theorem okRefText0 : OkRefText0 := by
  intro xs at' e m hq h0 hm
  refine vcRefText0 xs at' e m ?_
  obtain ⟨hb, h1, h2⟩ := hq
  obtain ⟨l, rfl⟩ := hb.get
  simp only [true_and, and_true, forall_eq, eq_self, bytesL_bytesAV, isBytes_bytesAV, length_bytesAV, cutL_bytes] at h0 h2 ⊢
  have main : ∀ M, most0 m = M → 0 ≤ M → M ≤ 9223372036854775807 → (True ∧ 0 ≤ at' ∧ at' ≤ (l.length : Int)) ∧
      (shErr (refL l at') e M ≠ 0 → refAt l (inTextR (refL l at') e m) = refAt l (shRest (refL l at') e M) ∧ inTextE (refL l at') e m = inFail (shErr (refL l at') e M) 20 ∧ inTextV (refL l at') e m = []) ∧
      (shErr (refL l at') e M = 0 → IntKind.u64.wrap (IntKind.i64.wrap ((l.length : Int) - refAt l (shRest (refL l at') e M))) < shV (refL l at') e M → refAt l (inTextR (refL l at') e m) = refAt l (shRest (refL l at') e M) ∧ inTextE (refL l at') e m = inFail (shErr (refL l at') e M) 20 ∧ inTextV (refL l at') e m = []) ∧
      (shErr (refL l at') e M = 0 → ¬ IntKind.u64.wrap (IntKind.i64.wrap ((l.length : Int) - refAt l (shRest (refL l at') e M))) < shV (refL l at') e M →
        ((0 ≤ refAt l (shRest (refL l at') e M) ∧ refAt l (shRest (refL l at') e M) ≤ IntKind.i64.wrap (refAt l (shRest (refL l at') e M) + IntKind.i64.wrap (shV (refL l at') e M)) ∧ IntKind.i64.wrap (refAt l (shRest (refL l at') e M) + IntKind.i64.wrap (shV (refL l at') e M)) ≤ (l.length : Int)) ∧ okWidth 1 (bytesAV l)) ∧
        refAt l (inTextR (refL l at') e m) = IntKind.i64.wrap (refAt l (shRest (refL l at') e M) + IntKind.i64.wrap (shV (refL l at') e M)) ∧ inTextE (refL l at') e m = shErr (refL l at') e M ∧
          inTextV (refL l at') e m = cutL l (refAt l (shRest (refL l at') e M)).toNat (IntKind.i64.wrap (refAt l (shRest (refL l at') e M) + IntKind.i64.wrap (shV (refL l at') e M))).toNat) := by
    intro M hM h3 h4
    obtain ⟨f1, f2⟩ := textFin (l := l) (at' := at') (e := e) h1 h2 h0 h3 h4 hM
    have hv := shV_range (refL l at') e M h3
    have hsuf : shRest (refL l at') e M <:+ l := (shRest_suf _ _ _).trans (refL_suf _ _)
    obtain ⟨V, hV⟩ : ∃ V, V = shV (refL l at') e M := ⟨_, rfl⟩
    obtain ⟨E, hE⟩ : ∃ E, E = shErr (refL l at') e M := ⟨_, rfl⟩
    obtain ⟨R, hR⟩ : ∃ R, R = shRest (refL l at') e M := ⟨_, rfl⟩
    rw [← hV, ← hE, ← hR] at f1 f2
    rw [← hV] at hv
    rw [← hR] at hsuf
    rw [← hV, ← hE, ← hR]
    obtain ⟨p, rfl⟩ := hsuf
    have ha : refAt (p ++ R) R = p.length := by simp [refAt]
    have hlen : ((p ++ R).length : Int) = p.length + R.length := by simp
    have e1 : IntKind.u64.wrap (IntKind.i64.wrap (((p ++ R).length : Int) - refAt (p ++ R) R)) = R.length := by
      rw [ha, hlen, wrap_i64 (by omega) (by omega), wrap_u64 (by omega) (by omega)]; omega
    rw [e1]
    refine ⟨⟨trivial, h1, h2⟩, fun g => ?_, fun g g' => ?_, fun g g' => ?_⟩
    · obtain ⟨k1, k2, k3⟩ := f1 (.inl g)
      rw [k1]; exact ⟨rfl, k2, k3⟩
    · obtain ⟨k1, k2, k3⟩ := f1 (.inr g')
      rw [k1]; exact ⟨rfl, k2, k3⟩
    · obtain ⟨k1, k2, k3⟩ := f2 g g'
      rw [wrap_i64 (n := V) (by omega) (by omega), ha, wrap_i64 (by omega) (by omega), k1, k2, k3]
      refine ⟨⟨⟨by omega, by omega, by omega⟩, okWidth_bytes _⟩, ?_, rfl, ?_⟩
      · simp [refAt]; omega
      · unfold cutL
        rw [List.drop_take]
        have t1 : ((p.length : Int)).toNat = p.length := by omega
        have t2 : ((p.length : Int) + V).toNat - p.length = V.toNat := by omega
        rw [t1, t2]
        simp
  refine cond_prop (fun h => ?_) fun h => ?_
  · simp at h
    obtain ⟨m1, m2, m3, m4⟩ := main 0 (by unfold most0; rw [if_pos h]) (by omega) (by omega)
    exact ⟨⟨h1, h2⟩, cond_prop (fun g => m2 (by simpa using g)) fun g => cond_prop (fun g' => m3 (by simpa using g) (by simpa using g')) fun g' => m4 (by simpa using g) (by simpa using g')⟩
  · simp at h
    rw [wrap_u64 h (by omega)]
    obtain ⟨m1, m2, m3, m4⟩ := main m (by unfold most0; rw [if_neg (by omega)]) h hm.2
    exact ⟨⟨h1, h2⟩, cond_prop (fun g => m2 (by simpa using g)) fun g => cond_prop (fun g' => m3 (by simpa using g) (by simpa using g')) fun g' => m4 (by simpa using g) (by simpa using g')⟩
theorem okAnchor30 : OkAnchor30 := by
  intro hq
  refine vcAnchor30 ?_
  have e : catL (catL ([] : List UInt8) (encTruth true)) (encText [97, 98]) = [1, 2, 97, 98] := by
    have s2 : Go.Proofs.Ytledoikeaidlfaa.short 2 = [2] := by rw [Go.Proofs.Ytledoikeaidlfaa.short, if_pos (by omega)]; rfl
    simp [encText, encTruth, catL, s2]
  have n0 : isBytes [] := rfl
  have b0 : bytesL [] = [] := rfl
  have e' : catL (catL ([] : List UInt8) (encTruth true)) (encText [{ toBitVec := { toFin := ⟨97, by decide⟩ } }, { toBitVec := { toFin := ⟨98, by decide⟩ } }]) = [1, 2, 97, 98] := e
  have t1 : (catL ([] : List UInt8) (encTruth true)).length = 1 := rfl
  simp only [true_and, and_true, forall_eq, eq_self, bytesL_bytesAV, isBytes_bytesAV, length_bytesAV, n0, b0, e', rdInt_bytes, t1]
  have b1 : okWidth 1 (bytesAV [1, 2, 97, 98]) := okWidth_bytes _
  refine ⟨by omega, by omega, by simp, ?_⟩
  exact ⟨⟨by omega, by simp, okElem_bytes (by simp)⟩, okRead_bytes (by simp), ⟨by omega, by simp, okElem_bytes (by simp)⟩, okRead_bytes (by simp), ⟨by omega, by simp, okElem_bytes (by simp)⟩, okRead_bytes (by simp), ⟨by omega, by simp, okElem_bytes (by simp)⟩, okRead_bytes (by simp), rfl⟩
theorem opRest_suf (l : List UInt8) (e k n : Int) : opRest l e k n <:+ l := by
  unfold opRest
  repeat' split
  all_goals first | exact tkRest_suf _ _ _ | exact shRest_suf _ _ _ | exact List.suffix_refl _ | exact (tkRest_suf _ _ _).trans (shRest_suf _ _ _)
theorem okOpTake0 : OkOpTake0 := by
  intro xs e ys at' e' kind n tx hq hn
  refine vcOpTake0 xs e ys at' e' kind n tx ?_
  obtain ⟨hb, h1, h2, rfl, rfl⟩ := hq
  have ht : n.tmod 1000 = n % 1000 := Int.tmod_eq_emod_of_nonneg hn.1
  have hw : IntKind.i64.wrap (n % 1000) = n % 1000 := wrap_i64 (by omega) (by omega)
  simp only [true_and, and_true, forall_eq, eq_self, bytesL_bytesAV, isBytes_bytesAV, ht, hw]
  have hlen : (bytesL ys).length = ys.length := by simp [bytesL]
  have hs : refAt (bytesL ys) (refL (bytesL ys) at') = at' := refAt_self h1 (by rw [hlen]; exact h2)
  refine ⟨by omega, cond_prop (fun h => ?_) fun g1 => cond_prop (fun h => ?_) fun g2 => cond_prop (fun h => ?_) fun g3 => cond_prop (fun h => ?_) fun g4 => cond_prop (fun h => ?_) fun g5 => cond_prop (fun h => cond_prop (fun h' => ?_) fun h' => ?_) fun g6 => ?_⟩
  · simp at h; subst h
    exact ⟨⟨hb, h1, h2⟩, rfl, rfl, rfl, rfl, by simp⟩
  · simp at h; subst h
    exact ⟨⟨hb, h1, h2⟩, rfl, rfl, rfl, rfl, by simp⟩
  · simp at h; subst h
    exact ⟨⟨hb, h1, h2⟩, rfl, rfl, rfl, rfl, by simp⟩
  · simp at h; subst h
    exact ⟨⟨hb, h1, h2⟩, rfl, rfl, rfl, rfl, by simp⟩
  · simp at h; subst h
    exact ⟨⟨hb, h1, h2⟩, rfl, rfl, rfl, rfl, by simp⟩
  · simp at h h'; subst h
    refine ⟨rfl, rfl, hs, ?_⟩
    simp [opErr, inFail, h']
  · simp at h h'; subst h
    refine ⟨rfl, rfl, hs, ?_⟩
    simp [opErr, inFail, h']
  · simp at g1 g2 g3 g4 g5 g6
    have e1 : opRest (refL (bytesL ys) at') e' kind n = refL (bytesL ys) at' := by simp [opRest, g1, g2, g3, g4, g5]
    have e2 : opErr (refL (bytesL ys) at') e' kind n = e' := by simp [opErr, g1, g2, g3, g4, g5, g6]
    rw [e1, e2]
    exact ⟨rfl, rfl, hs, rfl⟩
theorem okLawTakes0 : OkLawTakes0 := by
  intro xs ops hq
  refine vcLawTakes0 xs ops ?_
  obtain ⟨hb, hx, ho⟩ := hq
  have hlen : (bytesL xs).length = xs.length := by simp [bytesL]
  obtain ⟨l, rfl⟩ := hb.get
  simp only [true_and, and_true, forall_eq, eq_self, bytesL_bytesAV, isBytes_bytesAV, length_bytesAV] at hx ⊢
  refine cond_prop (fun h => trivial) fun h => ⟨hx, ⟨(0, l, 0), ?_⟩, ?_⟩
  · refine ⟨⟨rfl, rfl, ?_⟩, Nat.zero_le _, [], rfl⟩
    simp [refAt]
  rintro ⟨i, rest, e⟩ ⟨hi, hs⟩
  have hs' : rest <:+ l := hs
  have hr := refAt_range hs'
  have he := refL_refAt hs'
  simp only at hi
  simp only [he, bytesL_bytesAV, isBytes_bytesAV, true_and, and_true, eq_self, forall_eq]
  have hs2 := (opRest_suf rest e (rdInt (elemAt ops ((i : Int)).toNat) 0) (rdInt (elemAt ops ((i : Int)).toNat) 1)).trans hs'
  generalize opRest rest e (rdInt (elemAt ops ((i : Int)).toNat) 0) (rdInt (elemAt ops ((i : Int)).toNat) 1) = r' at hs2
  generalize opErr rest e (rdInt (elemAt ops ((i : Int)).toNat) 0) (rdInt (elemAt ops ((i : Int)).toNat) 1) = e'
  have hr2 := refAt_range hs2
  have he2 := refL_refAt hs2
  have hl2 : (l.length : Int) - refAt l r' = r'.length := by obtain ⟨p, rfl⟩ := hs2; simp [refAt]; omega
  have hrl : r'.length ≤ l.length := hs2.length_le
  simp only [he2]
  have go : i < ops.length → ∃ v34 : Nat × List UInt8 × Int, (AV.int IntKind.i64 (IntKind.i64.wrap (↑i + 1)) = AV.int IntKind.i64 ↑v34.fst ∧
      some [AV.sl (bytesAV r') Own.no, AV.int IntKind.i64 e'] = some [AV.sl (bytesAV v34.snd.fst) Own.no, AV.int IntKind.i64 v34.snd.snd] ∧
      some [AV.sl (bytesAV l) Own.no, AV.int IntKind.i64 (refAt l r'), AV.int IntKind.i64 e'] = some [AV.sl (bytesAV l) Own.no, AV.int IntKind.i64 (refAt l v34.snd.fst), AV.int IntKind.i64 v34.snd.snd]) ∧
      (v34.fst ≤ ops.length ∧ ∃ v35, List.append v35 v34.snd.fst = l) ∧ ops.length - v34.fst < ops.length - i := by
    intro g
    refine ⟨(i + 1, r', e'), ⟨?_, rfl, rfl⟩, ⟨g, hs2⟩, ?_⟩
    · have := ho.len
      rw [wrap_i64 (by omega) (by omega)]; rfl
    · show ops.length - (i + 1) < ops.length - i
      omega
  refine cond_prop (fun g => ?_) fun g => trivial
  have g' : i < ops.length := by simpa using g
  have oe : okElem 3 ops ((i : Int)).toNat := HasTy.okElem (l := [.int .i64, .int .u64, .str]) ho (by omega)
  have ore : okRead [Kd.int IntKind.i64, Kd.int IntKind.u64, Kd.str] (elemAt ops ((i : Int)).toNat) 0 := CellsTy.okRead (l := [.int .i64, .int .u64, .str]) (HasTy.elem ho (by omega)) rfl
  refine ⟨⟨by omega, by omega, oe⟩, ore, hr, cond_prop (fun h1 => ?_) fun h1 => ?_⟩
  · have h1' : e' ≠ 0 := by simpa using h1
    refine cond_prop (fun h2 => ?_) fun h2 => ⟨hr2, cond_prop (fun h3 => ?_) fun h3 => cond_prop (fun h4 => ?_) fun h4 => go g'⟩
    · simp [inLeft, h1'] at h2
    · simp at h3
    · simp [h1'] at h4
  · have h1' : e' = 0 := by simpa using h1
    refine cond_prop (fun h2 => ?_) fun h2 => ⟨hr2, cond_prop (fun h3 => ?_) fun h3 => cond_prop (fun h4 => ?_) fun h4 => go g'⟩
    · rw [hl2, wrap_i64 (by omega) (by omega)] at h2
      simp [inLeft, h1'] at h2
    · simp at h3
    · simp [h1'] at h4
end Go.Proofs.Ytledoikeaidlfaa
