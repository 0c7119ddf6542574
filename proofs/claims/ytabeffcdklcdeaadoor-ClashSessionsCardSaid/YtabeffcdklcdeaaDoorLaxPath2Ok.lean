/- The conditions of parents, orders and joins of paths hold. -/
import Derived.Test.YtabeffcdklcdeaaDoorLaxPath2Vc
namespace Go.Proofs.YtabeffcdklcdeaaDoor
set_option linter.unusedVariables false
set_option linter.unusedSimpArgs false
open Go.RowKit
set_option maxRecDepth 100000

theorem IsPath.partsV {p : List UInt8} {l : List (List UInt8)} (h : IsPath p l) : partsV p = l := by
  show (if rightP p then Go.Proofs.YtabeffcdklcdeaaDoor.segs p else []) = l
  rw [if_pos h.right]; exact h.segs
theorem partsV_cases (p : List UInt8) : (rightP p = false ∧ partsV p = []) ∨ IsPath p (partsV p) := by
  cases h : rightP p with
  | false => left; exact ⟨rfl, by show (if rightP p then Go.Proofs.YtabeffcdklcdeaaDoor.segs p else []) = []; rw [h]; rfl⟩
  | true =>
    right
    obtain ⟨l, hl⟩ := (rightP_iff p).1 h
    rw [hl.partsV]; exact hl
theorem partsV_len (p : List UInt8) : (partsV p).length ≤ 8 := by
  rcases partsV_cases p with ⟨_, h⟩ | h
  · rw [h]; simp
  · exact h.few
theorem cutL_zero {α : Type} (l : List α) (n : Nat) : cutL l 0 n = l.take n := by simp [cutL]
theorem above_path {p q : List UInt8} {a b : List (List UInt8)} (ha : IsPath p a) (hb : IsPath q b) : aboveP p q = true ↔ a <+: b := by
  rw [← above_iff ha hb]
  unfold aboveP
  rw [ha.right, hb.right]
  simp
theorem above_take {p : List UInt8} {l : List (List UInt8)} (h : IsPath p l) {k : Nat} (hk : 0 < k) : aboveP (joinP (l.take k)) p = true :=
  (above_path (h.take hk) h).2 (List.take_prefix k l)
theorem joinV_len (p : List UInt8) (k : Nat) : (joinP ((partsV p).take k)).length ≤ 64 := by
  rcases partsV_cases p with ⟨_, h⟩ | h
  · rw [h]; simp [joinP_nil]
  · have h1 := joinP_take_le' (l := partsV p) (i := k)
    rw [← h.join] at h1
    have := h.short
    omega
theorem strs_back {l : List (List UInt8)} {i : Nat} : strsL (cutL (strsAV l) 0 i) = l.take i := by
  rw [cutL_strs, strsL_strsAV, cutL_zero]
theorem isStrs_cut {l : List (List UInt8)} {i : Nat} : isStrs (cutL (strsAV l) 0 i) := by rw [cutL_strs]; exact isStrs_strsAV _

theorem okIsNaN0 : OkIsNaN0 := by
  intro x hq
  refine vcIsNaN0 x ?_
  simp
theorem okCmpStr0 : OkCmpStr0 := by
  intro x y hq
  refine vcCmpStr0 x y ?_
  simp only [true_and, and_true, forall_eq, eq_self]
  unfold cmpS
  refine cond_prop (fun h => by rw [if_pos h]) fun h => cond_prop (fun h2 => by rw [if_neg (by simp [h]), if_pos h2]) fun h2 => by rw [if_neg (by simp [h]), if_neg (by simp [h2])]
theorem cmpL_step : ∀ (a b : List (List UInt8)) (i : Nat), a.take i = b.take i → i < a.length → (b.length ≤ i → cmpL a b = 1) ∧ (i < b.length → cmpS (a.getD i []) (b.getD i []) ≠ 0 → cmpL a b = cmpS (a.getD i []) (b.getD i []))
  | [], b, i, _, h => by simp at h
  | x :: a, [], i, _, h => by
    refine ⟨fun _ => rfl, fun h => by simp at h⟩
  | x :: a, y :: b, 0, _, h => by
    refine ⟨fun h => by simp at h, fun _ h => ?_⟩
    simp only [List.getD_cons_zero] at h ⊢
    unfold cmpL
    rw [if_pos h]
  | x :: a, y :: b, i + 1, ht, h => by
    simp only [List.take_succ_cons, List.cons.injEq] at ht
    obtain ⟨rfl, ht⟩ := ht
    have e : cmpL (x :: a) (x :: b) = cmpL a b := by
      conv => lhs; unfold cmpL
      rw [cmpS_eq, (less_iff x x).2.2 rfl]; rfl
    rw [e]
    have := cmpL_step a b i ht (by simpa using h)
    simpa using this
theorem cmpL_end : ∀ (a b : List (List UInt8)), b.take a.length = a → (a.length < b.length → cmpL a b = -1) ∧ (¬ a.length < b.length → cmpL a b = 0)
  | [], [], _ => by simp [cmpL]
  | [], _ :: _, _ => by simp [cmpL]
  | x :: a, [], h => by simp at h
  | x :: a, y :: b, h => by
    simp only [List.length_cons, List.take_succ_cons, List.cons.injEq] at h
    obtain ⟨rfl, h⟩ := h
    have e : cmpL (y :: a) (y :: b) = cmpL a b := by
      conv => lhs; unfold cmpL
      rw [cmpS_eq, (less_iff y y).2.2 rfl]; rfl
    rw [e]
    have := cmpL_end a b h
    simpa using this
theorem okCmpSl0 : OkCmpSl0 := by
  intro xs ys hq
  refine vcCmpSl0 xs ys ?_
  obtain ⟨hx, hy, hn, hm⟩ := hq
  obtain ⟨a, rfl⟩ := hx.get
  obtain ⟨b, rfl⟩ := hy.get
  simp only [length_strsAV] at hn hm
  simp only [true_and, and_true, forall_eq, eq_self, length_strsAV, strsL_strsAV]
  refine ⟨⟨(0 : Nat), rfl, by omega, by omega, by simp⟩, ?_⟩
  rintro i ⟨h1, h2, ht⟩
  refine cond_prop (fun h => ?_) fun h => ?_
  · have hlt : i < a.length := by simpa using h
    have st := cmpL_step a b i ht hlt
    rw [show ((i : Int)).toNat = i from by omega, rdStr_strs hlt]
    refine ⟨⟨by omega, by omega, okElem_strs hlt⟩, okRead_strs hlt, cond_prop (fun h3 => st.1 (by simpa using h3)) fun h3 => ?_⟩
    have hlt2 : i < b.length := by simpa using h3
    rw [rdStr_strs hlt2]
    refine ⟨⟨by omega, by omega, okElem_strs hlt2⟩, okRead_strs hlt2, cond_prop (fun h4 => st.2 hlt2 (by simpa using h4)) fun h4 => ⟨(i + 1 : Nat), ?_, ⟨by omega, by omega, ?_⟩, by omega⟩⟩
    · rw [wrap_i64 (by omega) (by omega)]; rfl
    · have h5 : cmpS (a.getD i []) (b.getD i []) = 0 := by simpa using h4
      rw [cmpS_eq] at h5
      have he := (less_iff _ _).2.1 h5
      rw [List.take_succ_eq_append_getElem hlt, List.take_succ_eq_append_getElem hlt2, ht]
      simp [List.getD_eq_getElem?_getD, List.getElem?_eq_getElem hlt, List.getElem?_eq_getElem hlt2] at he
      rw [he]
  · have hi : i = a.length := by simp at h; omega
    subst hi
    rw [List.take_of_length_le (Nat.le_refl _)] at ht
    have e := cmpL_end a b ht.symm
    exact cond_prop (fun h3 => e.1 (by simpa using h3)) fun h3 => e.2 (by simpa using h3)
theorem okComparep0 : OkComparep0 := by
  intro p q hq
  refine vcComparep0 p q ?_
  have l1 := partsV_len p
  have l2 := partsV_len q
  simp only [true_and, and_true, forall_eq, eq_self, length_strsAV, strsL_strsAV, isStrs_strsAV]
  unfold compareP
  refine ⟨by omega, by omega, cond_prop (fun h => ?_) fun h => cond_prop (fun h2 => ?_) fun h2 => ⟨by omega, ?_⟩⟩
  · have : (partsV p).length = 0 := by simpa using h
    rw [if_pos (.inl this)]
  · have : (partsV q).length = 0 := by simpa using h2
    rw [if_pos (.inr this)]
  · have h' : ¬ (partsV p).length = 0 := by simpa using h
    have h2' : ¬ (partsV q).length = 0 := by simpa using h2
    rw [if_neg (by omega)]
theorem lastSlash_le (p : List UInt8) : lastSlash p ≤ p.length := by
  rcases lastSlash_cases p with ⟨h, _⟩ | ⟨a, b, h1, _, h2⟩
  · omega
  · rw [h2, h1, List.length_append, List.length_cons]; omega
theorem okParent0 : OkParent0 := by
  intro p hq
  refine vcParent0 p ?_
  simp only [true_and, and_true, forall_eq, eq_self]
  have hl := lastSlash_le p
  refine ⟨by omega, cond_prop (fun h => ?_) fun h => ⟨by omega, cond_prop (fun h2 => ?_) fun h2 => ⟨⟨?_, hl⟩, ?_⟩⟩⟩
  · have h' : ¬ 0 ≤ lastSlash p := by simp at h; omega
    simp [parentV, parentOK, h']
  · have h' : rightP p = false := by simpa using h2
    simp [parentV, parentOK, h']
  · simp at h; omega
  · have h' : 0 ≤ lastSlash p := by simp at h; omega
    have h2' : rightP p = true := by simpa using h2
    have e : parentOK p = true := by simp [parentOK, h', h2']
    refine ⟨?_, e⟩
    unfold parentV
    rw [if_pos e, cutL_zero]
theorem okCommon0 : OkCommon0 := by
  intro p q hq
  refine vcCommon0 p q ?_
  have l1 := partsV_len p
  have l2 := partsV_len q
  obtain ⟨c1, c2, c3⟩ := commonN_le (partsV p) (partsV q)
  simp only [true_and, and_true, forall_eq, eq_self, length_strsAV, strsL_strsAV, strs_back, isStrs_cut]
  refine ⟨by omega, by omega, ⟨(0 : Nat), rfl, by omega⟩, fun i hi => cond_prop (fun h => ?_) fun h => ?_⟩
  · have hlt : i < (partsV p).length ∧ i < (partsV q).length := by
      simp only [decide_eq_true_eq] at h
      split at h <;> omega
    have st := commonN_step (partsV p) (partsV q) i hi hlt.1 hlt.2
    rw [show ((i : Int)).toNat = i from by omega, rdStr_strs hlt.1, rdStr_strs hlt.2]
    refine ⟨⟨by omega, by omega, okElem_strs hlt.1⟩, okRead_strs hlt.1, ⟨by omega, by omega, okElem_strs hlt.2⟩, okRead_strs hlt.2, cond_prop (fun h3 => ?_) fun h3 => ?_⟩
    · have := st.1 (by simpa using h3)
      exact ⟨(i + 1 : Nat), by rw [wrap_i64 (by omega) (by omega)]; rfl, by omega, by omega⟩
    · have h4 : ¬ i < commonN (partsV p) (partsV q) := fun h5 => by
        have := st.2 h5
        simp only [beq_eq_false_iff_ne] at h3
        exact h3 this
      have e : commonN (partsV p) (partsV q) = i := by omega
      have jl := joinV_len p i
      have cl : (cutL (strsAV (partsV p)) 0 i).length ≤ 8 := by rw [cutL_zero, List.length_take, length_strsAV]; omega
      rw [e]
      exact ⟨⟨⟨by omega, by omega⟩, okWidth_strs _⟩, ⟨by omega, by omega⟩, rfl, by simp⟩
  · have e : commonN (partsV p) (partsV q) = i := by
      simp only [decide_eq_false_iff_not] at h
      split at h <;> omega
    have jl := joinV_len p i
    rw [show ((i : Int)).toNat = i from by omega]
    have cl : (cutL (strsAV (partsV p)) 0 i).length ≤ 8 := by rw [cutL_zero, List.length_take, length_strsAV]; omega
    rw [e]
    exact ⟨⟨⟨by omega, by omega⟩, okWidth_strs _⟩, ⟨by omega, by omega⟩, rfl, by simp⟩
theorem okDepth0 : OkDepth0 := by
  intro p hq
  refine vcDepth0 p ?_
  simp only [true_and, and_true, forall_eq, eq_self, length_strsAV]
  omega

theorem rightP_parts {p : List UInt8} (h : rightP p = true) : IsPath p (partsV p) := by
  rcases partsV_cases p with ⟨h2, _⟩ | h2
  · rw [h] at h2; cases h2
  · exact h2
theorem compareP_anti (p q : List UInt8) : compareP p q = -compareP q p := by
  unfold compareP
  by_cases h : (partsV p).length = 0 ∨ (partsV q).length = 0
  · rw [if_pos h, if_pos h.symm]; exact cb_anti p q
  · rw [if_neg h, if_neg fun h2 => h h2.symm]; exact cmpL_anti _ _
theorem compareP_range (p q : List UInt8) : -1 ≤ compareP p q ∧ compareP p q ≤ 1 := by
  unfold compareP
  split
  · have := cb_range p q; omega
  · exact cmpL_range _ _
theorem partsV_ne {p : List UInt8} (h : ¬ (partsV p).length = 0) : IsPath p (partsV p) := by
  rcases partsV_cases p with ⟨_, h2⟩ | h2
  · rw [h2] at h; simp at h
  · exact h2
theorem compareP_zero (p q : List UInt8) : compareP p q = 0 ↔ p = q := by
  unfold compareP
  by_cases h : (partsV p).length = 0 ∨ (partsV q).length = 0
  · rw [if_pos h]; exact (less_iff p q).2
  · rw [if_neg h, cmpL_zero]
    have hp := partsV_ne fun e => h (.inl e)
    have hq := partsV_ne fun e => h (.inr e)
    constructor
    · intro e; rw [hp.join, hq.join, e]
    · rintro rfl; rfl
theorem compareP_right {p q : List UInt8} (hp : rightP p = true) (hq : rightP q = true) : compareP p q = cmpL (partsV p) (partsV q) := by
  have h1 := List.length_pos_iff.2 (rightP_parts hp).ne
  have h2 := List.length_pos_iff.2 (rightP_parts hq).ne
  unfold compareP
  rw [if_neg (by omega)]
theorem above_right {p q : List UInt8} (h : aboveP p q = true) : rightP p = true ∧ rightP q = true := by
  unfold aboveP at h
  simp only [Bool.and_eq_true] at h
  exact h.1
theorem compareP_above {p q : List UInt8} (h : aboveP p q = true) : compareP p q ≤ 0 := by
  obtain ⟨h1, h2⟩ := above_right h
  rw [compareP_right h1 h2]
  exact cmpL_prefix ((above_path (rightP_parts h1) (rightP_parts h2)).1 h)
theorem cif {b : Bool} {X Y : Prop} : (bif b then X else Y) ↔ (b = true → X) ∧ (b = false → Y) := by cases b <;> simp
theorem okLawOrder0 : OkLawOrder0 := by
  intro p q r hq
  refine vcLawOrder0 p q r ?_
  simp only [true_and, and_true, forall_eq, eq_self]
  refine cond_prop (fun h => trivial) fun h => cond_prop (fun h => trivial) fun h2 => cond_prop (fun h => trivial) fun h3 => ?_
  have h' : p.length ≤ 100 := by simp at h; omega
  have h2' : q.length ≤ 100 := by simp at h2; omega
  have h3' : r.length ≤ 100 := by simp at h3; omega
  have b1 : p.length ≤ 1000000 := by omega
  have b2 : q.length ≤ 1000000 := by omega
  have b3 : r.length ≤ 1000000 := by omega
  have a1 : p.length ≤ 900000 := by omega
  have a2 : q.length ≤ 900000 := by omega
  have a3 : r.length ≤ 900000 := by omega
  have rg := compareP_range p q
  have an := compareP_anti p q
  have z := compareP_zero p q
  have ab := @compareP_above p q
  have w : IntKind.i64.wrap (0 - compareP q p) = compareP p q := by rw [wrap_i64 (by omega) (by omega)]; omega
  have z2 : (compareP p q == 0) = (p == q) := by rw [Bool.eq_iff_iff]; simp [z]
  have z3 : (!((p == q) == (p == q))) = false := by simp
  rw [w, z2]
  have T : rightP p = true → rightP q = true → rightP r = true → (compareP p q ≤ 0 → compareP q r ≤ 0 → compareP p r ≤ 0) ∧ (aboveP p r = true → compareP p q ≤ 0 → compareP q r ≤ 0 → aboveP p q = true) := by
    intro r1 r2 r3
    rw [compareP_right r1 r2, compareP_right r2 r3, compareP_right r1 r3, above_path (rightP_parts r1) (rightP_parts r3), above_path (rightP_parts r1) (rightP_parts r2)]
    exact ⟨cmpL_trans _ _ _, fun a b c => cmpL_between _ _ _ a b c⟩
  simp only [b1, b2, b3, a1, a2, a3, true_and, bne_self_eq_false, cond_false, cif, decide_eq_true_eq, decide_eq_false_iff_not, Bool.not_eq_true', Bool.not_eq_false', imp_true_iff, and_true]
  refine ⟨fun e => ?_, fun _ => ⟨fun _ => ?_, fun _ => ⟨fun _ => ?_, fun _ => ⟨fun e => ⟨fun _ => ?_, fun _ r1 r2 r3 => ?_⟩, fun e r1 r2 r3 => ?_⟩⟩⟩⟩
  · simp at e
  · omega
  · omega
  · have := ab e; omega
  all_goals
    obtain ⟨t1, t2⟩ := T r1 r2 r3
    refine ⟨fun g1 => ⟨fun g2 => ⟨fun g3 => ?_, fun g3 g4 g5 g6 => ?_⟩, fun g2 g3 g4 g5 => ?_⟩, fun g1 g2 g3 g4 => ?_⟩
    · have := t1 g1 g2; omega
    · exact (t2 g4 (by omega) (by omega)).symm
    · omega
    · omega

theorem norm_same {s t : List UInt8} (h : partsP s = partsP t) : normE s = normE t ∧ normV s = normV t := by
  have e : normE s = normE t := by unfold normE; rw [h]
  refine ⟨e, ?_⟩
  unfold normV
  rw [e, h]
theorem parts_long {p q : List UInt8} {a b : List (List UInt8)} (hp : IsPath p a) (hq : IsPath q b) : partsP (catL (catL (catL p [47, 47, 46, 47]) q) [47]) = some (a ++ b) := by
  have e : catL (catL (catL p [47, 47, 46, 47]) q) [47] = p ++ 47 :: (47 :: ([46] ++ 47 :: (q ++ [47]))) := by simp [catL]
  unfold partsP
  rw [e, segs_app, segs_slash, segs_app, segs_snoc_slash, hp.segs, hq.segs, segs_plain (x := [46]) (by decide), walkP_append, walkP_ok hp.ok]
  simp only [List.nil_append, Option.bind_some, List.cons_append, walkP]
  have s1 : ∀ o : List (List UInt8), stepP o [] = some o := fun o => by simp [stepP]
  have s2 : ∀ o : List (List UInt8), stepP o [46] = some o := fun o => by simp [stepP]
  rw [s1]
  simp only
  rw [s2]
  simp only
  rw [walkP_append, walkP_ok hq.ok]
  simp only [Option.bind_some, walkP]
  rw [s1]
theorem join_two {p q : List UInt8} {a b : List (List UInt8)} (hp : IsPath p a) (hq : IsPath q b) : catL (catL p [47]) q = joinP (a ++ b) := by
  rw [joinP_append hp.ne hq.ne, ← hp.join, ← hq.join]; simp [catL]
theorem parts_two {p q : List UInt8} {a b : List (List UInt8)} (hp : IsPath p a) (hq : IsPath q b) : partsP (catL (catL p [47]) q) = some (a ++ b) := by
  rw [join_two hp hq]
  exact partsP_join (by simp [hp.ne]) fun x hx => by
    rcases List.mem_append.1 hx with h | h
    · exact hp.ok x h
    · exact hq.ok x h
theorem right_two {p q : List UInt8} {a b : List (List UInt8)} (hp : IsPath p a) (hq : IsPath q b) (h : normE (catL (catL p [47]) q) = 0) : rightP (catL (catL p [47]) q) = true := by
  unfold rightP
  have e : normV (catL (catL p [47]) q) = catL (catL p [47]) q := by
    conv => lhs; unfold normV
    rw [if_pos h, parts_two hp hq, Option.getD_some, join_two hp hq]
  rw [h, e]; simp
theorem parts_up {n : List UInt8} {l : List (List UInt8)} (h : IsPath n l) (hl : 1 < l.length) : normV (catL n [47, 46, 46]) = parentV n ∧ parentOK n = true := by
  have e : catL n [47, 46, 46] = n ++ 47 :: [46, 46] := by simp [catL]
  have hp : partsP (catL n [47, 46, 46]) = some l.dropLast := by
    unfold partsP
    rw [e, segs_app, h.segs, segs_plain (x := [46, 46]) (by decide), walkP_append, walkP_ok h.ok]
    have hne := h.ne
    simp only [List.nil_append, Option.bind_some, walkP]
    simp [stepP, hne]
  have ht := h.take (k := l.length - 1) (by omega)
  rw [List.dropLast_eq_take] at hp
  have e2 := norm_same (hp.trans ht.parts.symm)
  have e3 := normE_right ht.right
  obtain ⟨q1, q2⟩ := parent_of h
  have ok : parentOK n = true := by
    simp [parentOK, q1.2 hl, h.right]
  refine ⟨?_, ok⟩
  rw [e2.2, e3.2]
  unfold parentV
  rw [if_pos ok, q2 hl]
theorem okLawJoins0 : OkLawJoins0 := by
  intro p q hq
  refine vcLawJoins0 p q ?_
  simp only [true_and, and_true, forall_eq, eq_self]
  refine cond_prop (fun h => trivial) fun h => cond_prop (fun h => trivial) fun h2 => ?_
  have h' : p.length ≤ 100 := by simp at h; omega
  have h2' : q.length ≤ 100 := by simp at h2; omega
  refine ⟨by omega, cond_prop (fun h => trivial) fun r1 => ⟨by omega, cond_prop (fun h => trivial) fun r2 => ?_⟩⟩
  have hp := rightP_parts (p := p) (by simpa using r1)
  have hr := rightP_parts (p := q) (by simpa using r2)
  have b1 := hp.few
  have b2 := hr.few
  have n1 := List.length_pos_iff.2 hp.ne
  have n2 := List.length_pos_iff.2 hr.ne
  have same := norm_same ((parts_long hp hr).trans (parts_two hp hr).symm)
  have jt := join_two hp hr
  rw [same.1, same.2]
  have c1 : (catL (catL p [47]) q).length = p.length + q.length + 1 := by simp [catL]; omega
  have c2 : (catL (catL (catL p [47, 47, 46, 47]) q) [47]).length = p.length + q.length + 5 := by simp [catL]; omega
  have c3 : (catL (catL p [47, 47, 46, 47]) q).length = p.length + q.length + 4 := by simp [catL]; omega
  have c4 : (catL p [47, 47, 46, 47]).length = p.length + 4 := by simp [catL]
  have c5 : (catL p [47]).length = p.length + 1 := by simp [catL]
  have nv := normV_len (catL (catL p [47]) q)
  have c6 : (catL (normV (catL (catL p [47]) q)) [47, 46, 46]).length ≤ 67 := by rw [catL_length]; simp only [List.length_cons, List.length_nil]; omega
  refine ⟨by omega, by omega, by omega, by omega, by omega, by omega, by omega, cond_prop (fun h => ?_) fun h => ?_⟩
  · have hn : normE (catL (catL p [47]) q) ≠ 0 := fun e => by rw [right_two hp hr e] at h; cases h
    refine cond_prop (fun h => ?_) fun h => ?_
    · unfold normV; rw [if_neg hn]; simp
    · simp at h; exact absurd h hn
  · have hrr : rightP (catL (catL p [47]) q) = true := by simpa using h
    have hn : IsPath (catL (catL p [47]) q) (partsV p ++ partsV q) := by
      have h1 := rightP_parts hrr
      have : partsV (catL (catL p [47]) q) = partsV p ++ partsV q := by
        have := h1.parts.symm.trans (parts_two hp hr)
        simpa using this
      rw [this] at h1; exact h1
    have e0 := normE_right hrr
    rw [e0.2] at nv c6
    rw [e0.1, e0.2]
    have up := parts_up hn (by simp; omega)
    have ab : aboveP p (catL (catL p [47]) q) = true := (above_path hp hn).2 (List.prefix_append _ _)
    refine ⟨by omega, by omega, by omega, cond_prop (fun _ => ⟨by omega, by omega, cond_prop (fun _ => ⟨⟨by omega, by omega⟩, ?_⟩) fun h => by simp at h⟩) fun h => by simp at h⟩
    rw [ab, up.2, up.1]
    simp only [cond_true, beq_self_eq_true]
    refine ⟨by omega, by omega, by omega, ?_⟩
    rw [hn.partsV, wrap_i64 (by omega) (by omega)]
    simp

theorem parent_facts (p : List UInt8) : parentOK p = decide (1 < (partsV p).length) ∧ (parentOK p = false → parentV p = []) ∧ (parentOK p = true → parentV p = joinP ((partsV p).take ((partsV p).length - 1)) ∧ aboveP (parentV p) p = true) := by
  refine ⟨?_, fun h => by unfold parentV; rw [if_neg (by simp [h])], fun h => ?_⟩
  · rcases partsV_cases p with ⟨h1, h2⟩ | h1
    · rw [h2]; simp [parentOK, h1]
    · have := (parent_of h1).1
      simp [parentOK, h1.right, this]
  · have hr : rightP p = true := by
      unfold parentOK at h
      simp only [Bool.and_eq_true] at h
      exact h.2
    have h1 := rightP_parts hr
    obtain ⟨q1, q2⟩ := parent_of h1
    have h0 : 0 ≤ lastSlash p := by
      unfold parentOK at h
      simp only [Bool.and_eq_true, decide_eq_true_eq] at h
      exact h.1
    have hl := q1.1 h0
    have e : parentV p = joinP ((partsV p).take ((partsV p).length - 1)) := by
      unfold parentV
      rw [if_pos h, q2 hl]
    exact ⟨e, by rw [e]; exact above_take h1 (by omega)⟩
theorem above_common {p q : List UInt8} (h : 0 < commonN (partsV p) (partsV q)) : aboveP (joinP ((partsV p).take (commonN (partsV p) (partsV q)))) p = true ∧ aboveP (joinP ((partsV p).take (commonN (partsV p) (partsV q)))) q = true := by
  obtain ⟨c1, c2, c3⟩ := commonN_le (partsV p) (partsV q)
  have hp := partsV_ne (p := p) (by omega)
  have hq := partsV_ne (p := q) (by omega)
  refine ⟨above_take hp h, ?_⟩
  rw [c3]
  exact above_take hq h
theorem parents_loop (p q : List UInt8) (h' : p.length ≤ 100) (h2' : q.length ≤ 100) : ∀ (v10 : Nat), v10 ≤ commonN (partsV p) (partsV q) →
    bif decide ((v10 : Int) < ((partsV p).length : Int)) then
      bif decide ((v10 : Int) < ((partsV q).length : Int)) then
        (0 ≤ (v10 : Int) ∧ (v10 : Int) < ((partsV p).length : Int) ∧ okElem 1 (strsAV (partsV p)) (v10 : Int).toNat) ∧
          okRead [Kd.str] (elemAt (strsAV (partsV p)) (v10 : Int).toNat) 0 ∧
            (0 ≤ (v10 : Int) ∧ (v10 : Int) < ((partsV q).length : Int) ∧ okElem 1 (strsAV (partsV q)) (v10 : Int).toNat) ∧
              okRead [Kd.str] (elemAt (strsAV (partsV q)) (v10 : Int).toNat) 0 ∧
                bif rdStr (elemAt (strsAV (partsV p)) (v10 : Int).toNat) 0 == rdStr (elemAt (strsAV (partsV q)) (v10 : Int).toNat) 0 then
                  ∃ v12 : Nat, AV.int IntKind.i64 (IntKind.i64.wrap ((v10 : Int) + 1)) = AV.int IntKind.i64 v12 ∧ v12 ≤ commonN (partsV p) (partsV q) ∧ (partsV p).length - v12 < (partsV p).length - v10
                else
      (bif decide (0 < commonN (partsV p) (partsV q)) == decide (0 < (v10 : Int)) then
        ((0 ≤ (v10 : Int) ∧ (v10 : Int) ≤ ((partsV p).length : Int)) ∧ okWidth 1 (strsAV (partsV p))) ∧
        ((joinP (List.take (v10 : Int).toNat (partsV p))).length ≤ 9223372036854775807 ∧ (cutL (strsAV (partsV p)) 0 (v10 : Int).toNat).length ≤ 9223372036854775807) ∧
          (bif joinP (List.take (commonN (partsV p) (partsV q)) (partsV p)) == joinP (List.take (v10 : Int).toNat (partsV p)) then
            (bif !decide (0 < commonN (partsV p) (partsV q)) then True
            else
              ((joinP (List.take (commonN (partsV p) (partsV q)) (partsV p))).length ≤ 1000000 ∧ p.length ≤ 1000000) ∧
                (bif aboveP (joinP (List.take (commonN (partsV p) (partsV q)) (partsV p))) p then
                  ((joinP (List.take (commonN (partsV p) (partsV q)) (partsV p))).length ≤ 1000000 ∧ q.length ≤ 1000000) ∧
                    true = aboveP (joinP (List.take (commonN (partsV p) (partsV q)) (partsV p))) q
                else true = false))
          else true = false)
      else true = false)
      else
      (bif decide (0 < commonN (partsV p) (partsV q)) == decide (0 < (v10 : Int)) then
        ((0 ≤ (v10 : Int) ∧ (v10 : Int) ≤ ((partsV p).length : Int)) ∧ okWidth 1 (strsAV (partsV p))) ∧
        ((joinP (List.take (v10 : Int).toNat (partsV p))).length ≤ 9223372036854775807 ∧ (cutL (strsAV (partsV p)) 0 (v10 : Int).toNat).length ≤ 9223372036854775807) ∧
          (bif joinP (List.take (commonN (partsV p) (partsV q)) (partsV p)) == joinP (List.take (v10 : Int).toNat (partsV p)) then
            (bif !decide (0 < commonN (partsV p) (partsV q)) then True
            else
              ((joinP (List.take (commonN (partsV p) (partsV q)) (partsV p))).length ≤ 1000000 ∧ p.length ≤ 1000000) ∧
                (bif aboveP (joinP (List.take (commonN (partsV p) (partsV q)) (partsV p))) p then
                  ((joinP (List.take (commonN (partsV p) (partsV q)) (partsV p))).length ≤ 1000000 ∧ q.length ≤ 1000000) ∧
                    true = aboveP (joinP (List.take (commonN (partsV p) (partsV q)) (partsV p))) q
                else true = false))
          else true = false)
      else true = false)
    else
      (bif decide (0 < commonN (partsV p) (partsV q)) == decide (0 < (v10 : Int)) then
        ((0 ≤ (v10 : Int) ∧ (v10 : Int) ≤ ((partsV p).length : Int)) ∧ okWidth 1 (strsAV (partsV p))) ∧
        ((joinP (List.take (v10 : Int).toNat (partsV p))).length ≤ 9223372036854775807 ∧ (cutL (strsAV (partsV p)) 0 (v10 : Int).toNat).length ≤ 9223372036854775807) ∧
          (bif joinP (List.take (commonN (partsV p) (partsV q)) (partsV p)) == joinP (List.take (v10 : Int).toNat (partsV p)) then
            (bif !decide (0 < commonN (partsV p) (partsV q)) then True
            else
              ((joinP (List.take (commonN (partsV p) (partsV q)) (partsV p))).length ≤ 1000000 ∧ p.length ≤ 1000000) ∧
                (bif aboveP (joinP (List.take (commonN (partsV p) (partsV q)) (partsV p))) p then
                  ((joinP (List.take (commonN (partsV p) (partsV q)) (partsV p))).length ≤ 1000000 ∧ q.length ≤ 1000000) ∧
                    true = aboveP (joinP (List.take (commonN (partsV p) (partsV q)) (partsV p))) q
                else true = false))
          else true = false)
      else true = false) := by
  intro i hi
  have l1 := partsV_len p
  have l2 := partsV_len q
  obtain ⟨c1, c2, c3⟩ := commonN_le (partsV p) (partsV q)
  rw [show ((i : Int)).toNat = i from by omega]
  have j1 := joinV_len p i
  have j2 := joinV_len p (commonN (partsV p) (partsV q))
  have cl : (cutL (strsAV (partsV p)) 0 i).length ≤ 8 := by rw [cutL_zero, List.length_take, length_strsAV]; omega
  refine cond_prop (fun h3 => cond_prop (fun h4 => ?_) fun h4 => ?_) fun h3 => ?_
  · have hlt : i < (partsV p).length := by simpa using h3
    have hlt2 : i < (partsV q).length := by simpa using h4
    have st := commonN_step (partsV p) (partsV q) i hi hlt hlt2
    rw [rdStr_strs hlt, rdStr_strs hlt2]
    refine ⟨⟨by omega, by omega, okElem_strs hlt⟩, okRead_strs hlt, ⟨by omega, by omega, okElem_strs hlt2⟩, okRead_strs hlt2, cond_prop (fun h5 => ?_) fun h5 => ?_⟩
    · have := st.1 (by simpa using h5)
      exact ⟨i + 1, by rw [wrap_i64 (by omega) (by omega)]; rfl, by omega, by omega⟩
    · have h6 : ¬ i < commonN (partsV p) (partsV q) := fun h7 => by
        have := st.2 h7
        simp only [beq_eq_false_iff_ne] at h5
        exact h5 this
      have e : commonN (partsV p) (partsV q) = i := by omega
      refine cond_prop (fun _ => ⟨⟨⟨by omega, by omega⟩, okWidth_strs _⟩, ⟨by omega, by omega⟩, cond_prop (fun _ => cond_prop (fun _ => trivial) fun h8 => ⟨⟨by omega, by omega⟩, ?_⟩) fun h8 => ?_⟩) fun h8 => ?_
      · have hc : 0 < commonN (partsV p) (partsV q) := by simpa using h8
        rw [(above_common hc).1, (above_common hc).2]
        exact ⟨⟨by omega, by omega⟩, rfl⟩
      · rw [e] at h8; simp at h8
      · rw [e] at h8; simp at h8
  · have e : commonN (partsV p) (partsV q) = i := by simp at h4; omega
    refine cond_prop (fun _ => ⟨⟨⟨by omega, by omega⟩, okWidth_strs _⟩, ⟨by omega, by omega⟩, cond_prop (fun _ => cond_prop (fun _ => trivial) fun h8 => ⟨⟨by omega, by omega⟩, ?_⟩) fun h8 => ?_⟩) fun h8 => ?_
    · have hc : 0 < commonN (partsV p) (partsV q) := by simpa using h8
      rw [(above_common hc).1, (above_common hc).2]
      exact ⟨⟨by omega, by omega⟩, rfl⟩
    · rw [e] at h8; simp at h8
    · rw [e] at h8; simp at h8
  · have e : commonN (partsV p) (partsV q) = i := by simp at h3; omega
    refine cond_prop (fun _ => ⟨⟨⟨by omega, by omega⟩, okWidth_strs _⟩, ⟨by omega, by omega⟩, cond_prop (fun _ => cond_prop (fun _ => trivial) fun h8 => ⟨⟨by omega, by omega⟩, ?_⟩) fun h8 => ?_⟩) fun h8 => ?_
    · have hc : 0 < commonN (partsV p) (partsV q) := by simpa using h8
      rw [(above_common hc).1, (above_common hc).2]
      exact ⟨⟨by omega, by omega⟩, rfl⟩
    · rw [e] at h8; simp at h8
    · rw [e] at h8; simp at h8
theorem okLawParents0 : OkLawParents0 := by
  intro p q hq
  refine vcLawParents0 p q ?_
  simp only [true_and, and_true, forall_eq, eq_self, length_strsAV, strsL_strsAV, strs_back, isStrs_cut]
  refine cond_prop (fun h => trivial) fun h => cond_prop (fun h => trivial) fun h2 => ?_
  have h' : p.length ≤ 100 := by simp at h; omega
  have h2' : q.length ≤ 100 := by simp at h2; omega
  obtain ⟨f1, f2, f3⟩ := parent_facts p
  have l1 := partsV_len p
  have l2 := partsV_len q
  obtain ⟨c1, c2, c3⟩ := commonN_le (partsV p) (partsV q)
  have jl := joinV_len p
  have e1 : decide ((1 : Int) < ((partsV p).length : Int)) = parentOK p := by
    rw [f1]; congr 1; simp only [eq_iff_iff]; omega
  rw [e1]
  refine ⟨by omega, by omega, cond_prop (fun h => by simp at h) fun _ => ?_⟩
  have ex : ∀ i : Nat, i = commonN (partsV p) (partsV q) → ((partsV p).take i = (partsV p).take (commonN (partsV p) (partsV q))) := fun i h => by rw [h]
  cases hk : parentOK p with
  | true =>
    obtain ⟨f4, f5⟩ := f3 hk
    rw [hk] at f1
    have hl : 1 < (partsV p).length := by simpa using f1.symm
    have w1 : IntKind.i64.wrap (((partsV p).length : Int) - 1) = ((partsV p).length : Int) - 1 := wrap_i64 (by omega) (by omega)
    have w2 : (((partsV p).length : Int) - 1).toNat = (partsV p).length - 1 := by omega
    rw [w1, w2, ← f4, f5]
    simp only [cond_true, Bool.not_true, cond_false, beq_self_eq_true]
    have j1 := jl ((partsV p).length - 1)
    rw [← f4] at j1
    have cl : (cutL (strsAV (partsV p)) 0 ((partsV p).length - 1)).length ≤ 8 := by rw [cutL_zero, List.length_take, length_strsAV]; omega
    refine ⟨⟨⟨by omega, by omega⟩, okWidth_strs _⟩, ⟨by omega, by omega⟩, ⟨by omega, by omega⟩, ⟨by omega, by omega⟩, by omega, ⟨(0 : Nat), rfl, by omega⟩, ?_⟩
    exact parents_loop p q h' h2'
  | false =>
    rw [f2 hk]
    simp only [cond_true, Bool.not_true, cond_false, beq_self_eq_true, Bool.not_false]
    refine ⟨⟨by omega, by omega⟩, by omega, ⟨(0 : Nat), rfl, by omega⟩, ?_⟩
    exact parents_loop p q h' h2'
end Go.Proofs.YtabeffcdklcdeaaDoor
