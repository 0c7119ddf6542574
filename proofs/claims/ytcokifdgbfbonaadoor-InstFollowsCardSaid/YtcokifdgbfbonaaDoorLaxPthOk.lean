/- The conditions of paths hold. -/
import Derived.Test.YtcokifdgbfbonaaDoorLaxPthVc
namespace Go.Proofs.YtcokifdgbfbonaaDoor
set_option linter.unusedVariables false
set_option linter.unusedSimpArgs false
open Go.RowKit
set_option maxRecDepth 100000

theorem okWidth_strs (l : List (List UInt8)) : okWidth 1 (strsAV l) := by
  intro x hx
  obtain ⟨y, _, rfl⟩ := List.mem_map.1 hx
  rfl
theorem elemAt_strs {l : List (List UInt8)} {i : Nat} (h : i < l.length) : elemAt (strsAV l) i = .str (l.getD i []) := by
  simp [elemAt, cellAt, strsAV, List.getD_eq_getElem?_getD, List.getElem?_eq_getElem h]
theorem okElem_strs {l : List (List UInt8)} {i : Nat} (h : i < l.length) : okElem 1 (strsAV l) i := by
  unfold okElem; rw [elemAt_strs h]; rfl
theorem okRead_strs {l : List (List UInt8)} {i : Nat} (h : i < l.length) : okRead [.str] (elemAt (strsAV l) i) 0 := by
  rw [elemAt_strs h]
  intro j kd hj
  match j, hj with
  | 0, hj => simp at hj; subst hj; rfl
  | j + 1, hj => simp at hj
theorem rdStr_strs {l : List (List UInt8)} {i : Nat} (h : i < l.length) : rdStr (elemAt (strsAV l) i) 0 = l.getD i [] := by
  rw [elemAt_strs h]; rfl
theorem cutL_strs (l : List (List UInt8)) (a b : Nat) : cutL (strsAV l) a b = strsAV (cutL l a b) := by simp [cutL, strsAV, List.map_take, List.map_drop]
theorem catL_strs (l m : List (List UInt8)) : catL (strsAV l) (strsAV m) = strsAV (l ++ m) := by simp [catL, strsAV]
theorem partsO_len (s : List UInt8) : (partsO s).length ≤ s.length + 1 := by
  unfold partsO
  cases h : partsP s with
  | none => simp
  | some l =>
    have h1 := walkP_len h
    have h2 := segs_len s
    simp at h1 ⊢
    omega
theorem joinP_len {l : List (List UInt8)} {n : Nat} (h : ∀ x ∈ l, x.length ≤ n) : (joinP l).length ≤ l.length * (n + 1) := by
  induction l with
  | nil => simp [joinP_nil]
  | cons x r ih =>
    have h1 := h x (by simp)
    have h2 := ih fun y hy => h y (by simp [hy])
    cases r with
    | nil => rw [joinP_one]; simp; omega
    | cons y t =>
      rw [joinP_cons]
      simp only [List.length_append, List.length_cons] at h2 ⊢
      rw [Nat.add_mul, Nat.one_mul]
      omega
theorem joinO_len {s : List UInt8} (h : s.length ≤ 1000000) : (joinP (partsO s)).length ≤ 140737488355328 := by
  have h1 := partsO_len s
  have h2 : (joinP (partsO s)).length ≤ (partsO s).length * (s.length + 1) := joinP_len fun x hx => by
    unfold partsO at hx
    cases hp : partsP s with
    | none => rw [hp] at hx; simp at hx
    | some l => rw [hp] at hx; exact partsP_mem hp x hx
  have h3 : (partsO s).length * (s.length + 1) ≤ 1000001 * 1000001 := Nat.mul_le_mul (by omega) (by omega)
  omega
/-- what the walk says, and what is made of it -/
theorem norm_cases (s : List UInt8) : (walkE s ≠ 0 → normE s = walkE s ∧ normV s = []) ∧ (walkE s = 0 → ((partsO s).length = 0 → normE s = 13 ∧ normV s = []) ∧
    ((partsO s).length ≠ 0 → (8 < (partsO s).length → normE s = 31 ∧ normV s = []) ∧ (¬ 8 < (partsO s).length → (64 < (joinP (partsO s)).length → normE s = 11 ∧ normV s = []) ∧ (¬ 64 < (joinP (partsO s)).length → normE s = 0 ∧ normV s = joinP (partsO s))))) := by
  have hv : normE s ≠ 0 → normV s = [] := fun h => by unfold normV; rw [if_neg h]
  cases hp : partsP s with
  | none =>
    have e1 : walkE s = 30 := by simp [walkE, hp]
    have e2 : normE s = 30 := by simp [normE, hp]
    refine ⟨fun _ => ⟨by rw [e1, e2], hv (by rw [e2]; decide)⟩, fun h => by rw [e1] at h; cases h⟩
  | some l =>
    have e1 : walkE s = 0 := by simp [walkE, hp]
    have e2 : partsO s = l := by simp [partsO, hp]
    rw [e2]
    refine ⟨fun h => absurd e1 h, fun _ => ⟨fun h => ?_, fun h => ⟨fun h8 => ?_, fun h8 => ⟨fun h64 => ?_, fun h64 => ?_⟩⟩⟩⟩
    · have : normE s = 13 := by
        have hl : l = [] := List.length_eq_zero_iff.1 h
        simp [normE, hp, hl]
      exact ⟨this, hv (by rw [this]; decide)⟩
    all_goals have hl : l ≠ [] := fun e => h (by rw [e]; rfl)
    · have : normE s = 31 := by unfold normE; rw [hp]; simp only; rw [if_neg hl, if_pos h8]
      exact ⟨this, hv (by rw [this]; decide)⟩
    · have : normE s = 11 := by unfold normE; rw [hp]; simp only; rw [if_neg hl, if_neg h8, if_pos h64]
      exact ⟨this, hv (by rw [this]; decide)⟩
    · have : normE s = 0 := by unfold normE; rw [hp]; simp only; rw [if_neg hl, if_neg h8, if_neg h64]
      exact ⟨this, by unfold normV; rw [if_pos this, hp]; rfl⟩
theorem okNormal0 : OkNormal0 := by
  intro s hq
  refine vcNormal0 s ?_
  obtain ⟨h1, h2⟩ := norm_cases s
  have h3 := partsO_len s
  have h4 := joinO_len hq
  simp only [true_and, and_true, forall_eq, eq_self, length_strsAV, strsL_strsAV, isStrs_strsAV]
  refine ⟨hq, cond_prop (fun h => ?_) fun h => ?_⟩
  · have h' : walkE s ≠ 0 := by simpa using h
    exact ⟨(h1 h').2, (h1 h').1⟩
  have h' : walkE s = 0 := by simpa using h
  obtain ⟨h5, h6⟩ := h2 h'
  refine cond_prop (fun h => ?_) fun h => ?_
  · have := h5 (by simpa using h); exact ⟨this.2, this.1⟩
  obtain ⟨h7, h8⟩ := h6 (by simpa using h)
  refine cond_prop (fun h => ?_) fun h => ?_
  · have := h7 (by simp at h; omega); exact ⟨this.2, this.1⟩
  obtain ⟨h9, h10⟩ := h8 (by simp at h; omega)
  refine ⟨⟨h4, by omega⟩, cond_prop (fun h => ?_) fun h => ?_⟩
  · have := h9 (by simp at h; omega); exact ⟨this.2, this.1⟩
  · have := h10 (by simp at h; omega); exact ⟨this.2, this.1⟩
theorem okRefNormal0 : OkRefNormal0 := by
  intro s hq
  refine vcRefNormal0 s ?_
  obtain ⟨h1, h2⟩ := norm_cases s
  have h3 := partsO_len s
  have h4 := joinO_len (s := s) (by omega)
  simp only [true_and, and_true, forall_eq, eq_self, length_strsAV, strsL_strsAV, isStrs_strsAV]
  refine ⟨hq, cond_prop (fun h => ?_) fun h => ?_⟩
  · have h' : walkE s ≠ 0 := by simpa using h
    exact ⟨(h1 h').2, (h1 h').1⟩
  have h' : walkE s = 0 := by simpa using h
  obtain ⟨h5, h6⟩ := h2 h'
  refine cond_prop (fun h => ?_) fun h => ?_
  · have := h5 (by simpa using h); exact ⟨this.2, this.1⟩
  obtain ⟨h7, h8⟩ := h6 (by simpa using h)
  refine cond_prop (fun h => ?_) fun h => ?_
  · have := h7 (by simp at h; omega); exact ⟨this.2, this.1⟩
  obtain ⟨h9, h10⟩ := h8 (by simp at h; omega)
  refine ⟨⟨by omega, by omega⟩, cond_prop (fun h => ?_) fun h => ?_⟩
  · have := h9 (by simp at h; omega); exact ⟨this.2, this.1⟩
  · have := h10 (by simp at h; omega); exact ⟨⟨by omega, by omega⟩, this.2, this.1⟩
theorem rightP_eq (s : List UInt8) : (normE s = 0 → rightP s = decide (s = normV s)) ∧ (normE s ≠ 0 → rightP s = false) := by
  unfold rightP
  refine ⟨fun h => by simp [h], fun h => by simp [h]⟩
theorem okRight0 : OkRight0 := by
  intro s hq
  refine vcRight0 s ?_
  simp only [true_and, and_true, forall_eq, eq_self]
  refine ⟨hq, cond_prop (fun h => ?_) fun h => ?_⟩
  · rw [(rightP_eq s).1 (by simpa using h)]
    by_cases h2 : s = normV s
    · rw [← h2]; simp
    · rw [decide_eq_false h2, beq_eq_false_iff_ne.2 h2]
  · exact (rightP_eq s).2 (by simpa using h)
theorem okRefRight0 : OkRefRight0 := by
  intro s hq
  refine vcRefRight0 s ?_
  simp only [true_and, and_true, forall_eq, eq_self]
  refine ⟨hq, cond_prop (fun h => ?_) fun h => ?_⟩
  · rw [(rightP_eq s).1 (by simpa using h)]
    by_cases h2 : s = normV s
    · rw [← h2]; simp
    · rw [decide_eq_false h2, beq_eq_false_iff_ne.2 fun e => h2 e.symm]
  · exact (rightP_eq s).2 (by simpa using h)
theorem okRefLetter0 : OkRefLetter0 := by
  intro b hq
  refine vcRefLetter0 b ?_
  simp only [true_and, and_true, forall_eq, eq_self]
  have e : ∀ x : Bool, okRune b = x ↔ (((decide (97 ≤ b) && decide (b ≤ 122)) || (decide (48 ≤ b) && decide (b ≤ 57)) || decide (b = 45) || decide (b = 95)) = x) := fun x => Iff.rfl
  refine cond_prop (fun h1 => cond_prop (fun h2 => ?_) fun h2 => cond_prop (fun h3 => cond_prop (fun h4 => ?_) fun h4 => cond_prop (fun h5 => ?_) fun h5 => ?_) fun h3 => cond_prop (fun h5 => ?_) fun h5 => ?_) fun h1 => cond_prop (fun h3 => cond_prop (fun h4 => ?_) fun h4 => cond_prop (fun h5 => ?_) fun h5 => ?_) fun h3 => cond_prop (fun h5 => ?_) fun h5 => ?_
  all_goals rw [e, Bool.eq_iff_iff]
  all_goals simp at *
  all_goals omega
theorem takeO_eq {o : List (List UInt8)} {p : List UInt8} {r : Option (List (List UInt8))} (h : stepP o p = r) : takeO o p = r.getD [] ∧ takeE o p = if r = none then 30 else 0 := by
  unfold takeO takeE
  rw [h]; exact ⟨rfl, rfl⟩
theorem okRefTake0 : OkRefTake0 := by
  intro xs p hq
  refine vcRefTake0 xs p ?_
  obtain ⟨hs, hx, hp⟩ := hq
  obtain ⟨o, rfl⟩ := hs.get
  simp only [length_strsAV] at hx
  simp only [true_and, and_true, forall_eq, eq_self, length_strsAV, strsL_strsAV, isStrs_strsAV, okWidth_strs, cutL_strs]
  refine cond_prop (fun h => ?_) fun h0 => cond_prop (fun h => ?_) fun h1 => cond_prop (fun h2 => cond_prop (fun h3 => ?_) fun h3 => ?_) fun h2 => ?_
  · obtain ⟨a, b⟩ := takeO_eq (show stepP o p = some o by simp [stepP, eq_of_beq h])
    exact ⟨by rw [a]; rfl, by rw [b]; rfl⟩
  · obtain ⟨a, b⟩ := takeO_eq (show stepP o p = some o by simp [stepP, eq_of_beq h])
    exact ⟨by rw [a]; rfl, by rw [b]; rfl⟩
  · have ho : o = [] := by
      have : o.length = 0 := by simpa using h3
      exact List.length_eq_zero_iff.1 this
    obtain ⟨a, b⟩ := takeO_eq (show stepP o p = none by simp [stepP, eq_of_beq h2, ho])
    exact ⟨by rw [a]; rfl, by rw [b]; rfl⟩
  · have ho : o.length ≠ 0 := by simpa using h3
    have ho' : o ≠ [] := fun e => ho (by rw [e]; rfl)
    obtain ⟨a, b⟩ := takeO_eq (show stepP o p = some o.dropLast by simp [stepP, eq_of_beq h2, ho'])
    rw [wrap_i64 (by omega) (by omega)]
    refine ⟨⟨by omega, by omega⟩, ?_, by rw [b]; rfl⟩
    rw [a]
    congr 1
    rw [List.dropLast_eq_take]
    simp only [cutL, Option.getD_some, List.drop_zero]
    congr 1
    omega
  · have n0 : p ≠ [] := by simpa using h0
    have n1 : p ≠ [46] := by simpa using h1
    have n2 : p ≠ [46, 46] := by simpa using h2
    refine ⟨⟨(0 : Nat), rfl, by omega, by simp⟩, fun i hi => cond_prop (fun h => ?_) fun h => ?_⟩
    · have hlt : i < p.length := by simpa using h
      have hg : p.getD i 0 = p[i] := by simp [List.getD_eq_getElem?_getD, List.getElem?_eq_getElem hlt]
      rw [show ((i : Int)).toNat = i from by omega, okRune_byte, hg]
      refine ⟨⟨by omega, by omega⟩, cond_prop (fun h => ?_) fun h => ⟨(i + 1 : Nat), ?_, ⟨by omega, ?_⟩, by omega⟩⟩
      · have hf : okLetter p[i] = false := by simpa using h
        have hpf : okPart p = false := by
          unfold okPart
          rw [Bool.and_eq_false_iff]; right
          rw [List.all_eq_false]
          exact ⟨p[i], List.getElem_mem hlt, by simp [hf]⟩
        obtain ⟨a, b⟩ := takeO_eq (show stepP o p = none by simp [stepP, n0, n1, n2, hpf])
        exact ⟨by rw [a]; rfl, by rw [b]; rfl⟩
      · rw [wrap_i64 (by omega) (by omega)]; rfl
      · have hf : okLetter p[i] = true := by simpa using h
        rw [List.take_succ_eq_append_getElem hlt, List.all_append, hi.2]
        simp [hf]
    · have hge : ¬ i < p.length := by simpa using h
      have hpt : okPart p = true := by
        have := hi.2
        rw [List.take_of_length_le (by omega)] at this
        unfold okPart
        rw [this]
        cases p with
        | nil => exact absurd rfl n0
        | cons x r => rfl
      obtain ⟨a, b⟩ := takeO_eq (show stepP o p = some (o ++ [p]) by simp [stepP, n0, n1, n2, hpt])
      refine ⟨⟨by omega, by omega⟩, ⟨by omega, by omega, okWidth_strs [p]⟩, ?_, by rw [b]; rfl⟩
      rw [a]
      exact (catL_strs o [p]).symm
theorem mid_start (s : List UInt8) : midP s 0 [] [] := .inl ⟨by omega, [], rfl, rfl⟩
theorem take_snoc {s : List UInt8} {i : Nat} (h : i < s.length) : s.take (i + 1) = s.take i ++ [s.getD i 0] := by
  rw [List.take_succ_eq_append_getElem h]
  simp [List.getD_eq_getElem?_getD, List.getElem?_eq_getElem h]
theorem mid_letter {s : List UInt8} {i : Nat} {l : List (List UInt8)} {p : List UInt8} (h : midP s i l p) (hi : i < s.length) (hc : s.getD i 0 ≠ 47) : midP s (i + 1) l (p ++ [s.getD i 0]) := by
  rcases h with ⟨_, init, h1, h2⟩ | ⟨h1, _⟩
  · exact .inl ⟨by omega, init, by rw [take_snoc hi]; exact segs_snoc hc h1, h2⟩
  · omega
theorem mid_slash {s : List UInt8} {i : Nat} {l : List (List UInt8)} {p : List UInt8} (h : midP s i l p) (hi : i < s.length) (hc : s.getD i 0 = 47) :
    (stepP l p = none → partsP s = none) ∧ ∀ o, stepP l p = some o → midP s (i + 1) o [] := by
  rcases h with ⟨_, init, h1, h2⟩ | ⟨h1, _⟩
  · have e : segs (s.take (i + 1)) = segs (s.take i) ++ [[]] := by rw [take_snoc hi, hc, segs_snoc_slash]
    have e2 : s = s.take i ++ 47 :: s.drop (i + 1) := by
      rw [← hc]
      have : s.drop i = s.getD i 0 :: s.drop (i + 1) := by
        rw [List.drop_eq_getElem_cons hi]
        simp [List.getD_eq_getElem?_getD, List.getElem?_eq_getElem hi]
      rw [← this, List.take_append_drop]
    refine ⟨fun hn => ?_, fun o ho => .inl ⟨by omega, init ++ [p], by rw [e, h1], ?_⟩⟩
    · unfold partsP
      conv => lhs; rw [e2]
      rw [segs_app, h1, walkP_append, walkP_snoc, h2]
      simp [hn]
    · rw [walkP_snoc, h2]; exact ho
  · omega
theorem mid_end {s : List UInt8} {l : List (List UInt8)} {p : List UInt8} (h : midP s s.length l p) : partsP s = stepP l p := by
  rcases h with ⟨_, init, h1, h2⟩ | ⟨h1, _⟩
  · rw [List.take_length] at h1
    unfold partsP
    rw [h1, walkP_snoc, h2]; rfl
  · omega
theorem mid_len {s : List UInt8} {i : Nat} {l : List (List UInt8)} {p : List UInt8} (h : midP s i l p) : l.length ≤ s.length + 1 ∧ p.length ≤ s.length := by
  rcases h with ⟨h0, init, h1, h2⟩ | ⟨h1, h2, h3⟩
  · have a1 := walkP_len h2
    have a2 := segs_len (s.take i)
    rw [h1] at a2
    have a3 : p ∈ segs (s.take i) := by rw [h1]; simp
    have a4 := segs_elem_len a3
    simp at a1 a2 a4
    omega
  · have a1 := walkP_len h2
    have a2 := segs_len s
    subst h3
    simp at a1 ⊢
    omega
theorem okRefParts0 : OkRefParts0 := by
  intro s hq
  refine vcRefParts0 s ?_
  simp only [true_and, and_true, forall_eq, eq_self, length_strsAV, strsL_strsAV, isStrs_strsAV]
  refine ⟨⟨(0, [], []), ⟨rfl, rfl, rfl⟩, mid_start s⟩, ?_⟩
  rintro ⟨i, l, p⟩ hm
  have hlen := mid_len hm
  simp only at hm hlen ⊢
  rw [show ((i : Int)).toNat = i from by omega]
  refine cond_prop (fun h => cond_prop (fun h2 => ⟨⟨by omega, by simpa using h2⟩, cond_prop (fun h3 => ?_) fun h3 => ?_⟩) fun h2 => ?_) fun h => ?_
  · have hlt : i < s.length := by simpa using h2
    have hc : s.getD i 0 ≠ 47 := by
      intro e
      rw [e] at h3; revert h3; decide
    have w1 : IntKind.i64.wrap ((i : Int) + 1) = (i : Int) + 1 := wrap_i64 (by omega) (by omega)
    rw [w1]
    have ec : cutL s i ((i : Int) + 1).toNat = [s.getD i 0] := by
      rw [show ((i : Int) + 1).toNat = i + 1 from by omega]
      unfold cutL
      rw [take_snoc hlt, List.drop_append_of_le_length (by simp; omega)]
      have : (s.take i).drop i = [] := List.drop_eq_nil_of_le (by rw [List.length_take]; omega)
      rw [this]; rfl
    rw [ec]
    refine ⟨⟨by omega, by omega, by omega⟩, by simp; omega, (i + 1, l, p ++ [s.getD i 0]), ⟨rfl, rfl, rfl⟩, mid_letter hm hlt hc, by simp only; omega⟩
  · have hlt : i < s.length := by simpa using h2
    have hc : s.getD i 0 = 47 := by
      apply UInt8.toNat_inj.1
      have : ((s.getD i 0).toNat : Int) = 47 := by simpa using h3
      have h47 : (47 : UInt8).toNat = 47 := rfl
      omega
    have w1 : IntKind.i64.wrap ((i : Int) + 1) = (i : Int) + 1 := wrap_i64 (by omega) (by omega)
    rw [w1]
    obtain ⟨m1, m2⟩ := mid_slash hm hlt hc
    refine ⟨⟨by omega, by omega⟩, cond_prop (fun h4 => ?_) fun h4 => ?_⟩
    · have h5 : takeE l p ≠ 0 := by simpa using h4
      have h6 : stepP l p = none := by
        cases hs : stepP l p with
        | none => rfl
        | some o => exact absurd (by simp [takeE, hs]) h5
      have h7 := m1 h6
      exact ⟨by simp [partsO, h7, strsAV], by simp [walkE, h7, takeE, h6]⟩
    · have h5 : takeE l p = 0 := by simpa using h4
      cases hs : stepP l p with
      | none => simp [takeE, hs] at h5
      | some o =>
        refine ⟨(i + 1, o, []), ⟨by simp [takeO, hs], rfl, rfl⟩, m2 o hs, by simp only; omega⟩
  · have hi : i = s.length := by simp at h h2; omega
    subst hi
    have w1 : IntKind.i64.wrap ((s.length : Int) + 1) = (s.length : Int) + 1 := wrap_i64 (by omega) (by omega)
    rw [w1]
    have m1 := mid_end hm
    refine ⟨⟨by omega, by omega⟩, cond_prop (fun h4 => ?_) fun h4 => ?_⟩
    · have h5 : takeE l p ≠ 0 := by simpa using h4
      have h6 : stepP l p = none := by
        cases hs : stepP l p with
        | none => rfl
        | some o => exact absurd (by simp [takeE, hs]) h5
      rw [h6] at m1
      exact ⟨by simp [partsO, m1, strsAV], by simp [walkE, m1, takeE, h6]⟩
    · have h5 : takeE l p = 0 := by simpa using h4
      cases hs : stepP l p with
      | none => simp [takeE, hs] at h5
      | some o =>
        refine ⟨(s.length + 1, o, []), ⟨by simp [takeO, hs], rfl, rfl⟩, .inr ⟨rfl, by rw [m1, hs], rfl⟩, by simp only; omega⟩
  · have hi : s.length < i := by simp at h; omega
    rcases hm with ⟨h0, _⟩ | ⟨h1, h2, h3⟩
    · omega
    · exact ⟨by simp [partsO, h2], by simp [walkE, h2]⟩
theorem joinP_snoc {l : List (List UInt8)} {i : Nat} (h : i < l.length) : joinP (l.take (i + 1)) = (if i = 0 then [] else joinP (l.take i) ++ [47]) ++ l.getD i [] := by
  have e : l.take (i + 1) = l.take i ++ [l.getD i []] := by
    rw [List.take_succ_eq_append_getElem h]
    simp [List.getD_eq_getElem?_getD, List.getElem?_eq_getElem h]
  rw [e]
  by_cases hi : i = 0
  · subst hi; simp [joinP_one]
  · rw [if_neg hi, joinP_append (fun e => by have : (l.take i).length = 0 := by rw [e]; rfl
                                             rw [List.length_take] at this; omega) (by simp), joinP_one]
    simp
theorem joinP_take_le {l : List (List UInt8)} {i : Nat} : (joinP (l.take i)).length ≤ (joinP l).length := by
  by_cases h1 : l.drop i = []
  · have : l.take i = l := by
      have := List.take_append_drop i l
      rw [h1, List.append_nil] at this; exact this
    rw [this]; omega
  · by_cases h2 : l.take i = []
    · rw [h2, joinP_nil]; simp
    · conv => rhs; rw [← List.take_append_drop i l, joinP_append h2 h1]
      simp
theorem okRefJoin0 : OkRefJoin0 := by
  intro xs hq
  refine vcRefJoin0 xs ?_
  obtain ⟨hb, hl, hn⟩ := hq
  obtain ⟨l, rfl⟩ := hb.get
  simp only [strsL_strsAV, length_strsAV] at hl hn
  simp only [true_and, and_true, forall_eq, eq_self, length_strsAV, strsL_strsAV, isStrs_strsAV]
  refine ⟨⟨(0 : Nat), ⟨rfl, rfl⟩, by omega⟩, fun i hi => cond_prop (fun h => ?_) fun h => ?_⟩
  · have hlt : i < l.length := by simpa using h
    rw [show ((i : Int)).toNat = i from by omega, rdStr_strs hlt]
    have js := joinP_snoc hlt
    have jl := joinP_take_le (l := l) (i := i + 1)
    rw [js] at jl
    have w1 : IntKind.i64.wrap ((i : Int) + 1) = (i : Int) + 1 := wrap_i64 (by omega) (by omega)
    rw [w1]
    refine cond_prop (fun h2 => ?_) fun h2 => ?_
    · have h0 : ¬ i = 0 := by simp at h2; omega
      rw [if_neg h0] at js jl
      simp only [List.length_append, List.length_cons, List.length_nil] at jl
      refine ⟨by omega, ⟨by omega, by omega, okElem_strs hlt⟩, okRead_strs hlt, by rw [catL_length]; simp only [List.length_cons, List.length_nil]; omega, (i + 1 : Nat), ⟨?_, rfl⟩, by omega, by omega⟩
      rw [js]; rfl
    · have h0 : i = 0 := by simp at h2; omega
      rw [if_pos h0] at js jl
      simp only [List.length_append, List.length_nil] at jl
      refine ⟨⟨by omega, by omega, okElem_strs hlt⟩, okRead_strs hlt, by subst h0; rw [List.take_zero, joinP_nil]; simp only [List.length_nil]; omega, (i + 1 : Nat), ⟨?_, rfl⟩, by omega, by omega⟩
      rw [js]; subst h0; rfl
  · have hge : ¬ i < l.length := by simpa using h
    rw [List.take_of_length_le (by omega)]
theorem prefix_iff_take {a b : List (List UInt8)} (h : a.length ≤ b.length) : a.isPrefixOf b = decide (a = b.take a.length) := by
  rw [Bool.eq_iff_iff]
  simp only [List.isPrefixOf_iff_prefix, decide_eq_true_eq]
  exact List.prefix_iff_eq_take
end Go.Proofs.YtcokifdgbfbonaaDoor
