/- What a replica that votes is bound to: plain laws. -/
import Derived.Test.YtddilmocngedjaaDoorLaxPkVoteL
namespace Go.Proofs.YtddilmocngedjaaDoor
set_option linter.unusedVariables false
set_option linter.unusedSimpArgs false
open Go.RowKit
/-- a list's element that is a message, or attributes -/
def msgV (e : AV) : MsgP := ⟨rdInt e 0, rdInt e 1, rdInt e 2, rdInt e 3, rdInt e 4, rdInt e 5, rdBool e 6, ⟨rdInt e 7, rdInt e 8, rdInt e 9, rdInt e 10, rdInt e 11, rdBool e 12, ⟨rdInt e 13, rdInt e 14, rdStr e 15, rdInt e 16, rdStr e 17, rdInt e 18, rdInt e 19, rdInt e 20⟩, ⟨rdInt e 21, rdInt e 22, rdInt e 23, rdInt e 24, rdInt e 25, rdInt e 26, rdInt e 27, rdInt e 28⟩⟩⟩
def msgKs : List Kd := [.int .i64, .int .i64, .int .i64, .int .i64, .int .i64, .int .u32, .bool, .int .i64, .int .i64, .int .i64, .int .u32, .int .u32, .bool, .int .i64, .int .u64, .str, .int .u64, .str, .int .i64, .int .u64, .int .i64, .int .i64, .int .i64, .int .i64, .int .i64, .int .i64, .int .i64, .int .i64, .int .i64]
def isMsgs (ms : List AV) : Prop := ∀ i, i < ms.length → okElem 29 ms i ∧ okRead msgKs (elemAt ms i) 0 ∧ maxX (msgV (elemAt ms i)).x
def attKs : List Kd := [.int .i64, .int .i64, .int .i64, .int .i64, .int .i64, .int .i64, .int .i64, .int .i64]
def attV (e : AV) : AttP := ⟨rdInt e 0, rdInt e 1, rdInt e 2, rdInt e 3, rdInt e 4, rdInt e 5, rdInt e 6, rdInt e 7⟩
def isAtts (ats : List AV) : Prop := ∀ i, i < ats.length → okElem 8 ats i ∧ okRead attKs (elemAt ats i) 0
/-- an array of six messages -/
def msgs6 (f : Nat → MsgP) : List AV := msgL (f 0) ++ msgL (f 1) ++ msgL (f 2) ++ msgL (f 3) ++ msgL (f 4) ++ msgL (f 5)
structure VoS where
  i : Nat
  x : InstP
  se : Nat → MsgP
  to : Nat → MsgP
/-- what has been told binds the state -/
def bound (b : Int) (v : VoS) : Prop :=
  maxX v.x ∧ (∀ k, maxX (v.se k).x) ∧ (∀ k, maxX (v.to k).x) ∧ v.x.vote ≤ v.x.bal ∧
  ((v.to 4).k ≠ 0 → v.x.st = 3 ∨ b < v.x.bal ∨ (v.x.st = 2 ∧ v.x.vote = b ∧ alikeI (v.to 4).x v.x = true)) ∧
  ((v.to 2).k ≠ 0 → v.x.st = 3 ∨ b < v.x.bal ∨ (v.x.st = 2 ∧ v.x.vote = b) ∨ (v.x.st = 1 ∧ v.x.vote = b ∧ alikeI (v.to 2).x v.x = true))
def mAt (ms : List AV) (i : Nat) : MsgP := msgV (elemAt ms i)
theorem eqC_iff {c d : CmdP} : eqC c d = true ↔ c = d := by
  obtain ⟨a1, a2, a3, a4, a5, a6, a7, a8⟩ := c
  obtain ⟨b1, b2, b3, b4, b5, b6, b7, b8⟩ := d
  simp [eqC, cmdL, sameCells, AV.same]
theorem eqA_iff {c d : AttP} : eqA c d = true ↔ c = d := by
  obtain ⟨a1, a2, a3, a4, a5, a6, a7, a8⟩ := c
  obtain ⟨b1, b2, b3, b4, b5, b6, b7, b8⟩ := d
  simp [eqA, attL, sameCells, AV.same]
theorem alike_self (x : InstP) : alikeI x x = true := by
  unfold alikeI
  rw [Bool.and_eq_true, eqC_iff, eqA_iff]
  exact ⟨rfl, rfl⟩
/-- what becomes of a state: nothing, or a vote by the message's ballot -/
theorem vote_cases {x : InstP} {m : MsgP} {a : AttP} :
    voteX x m a = x ∨ (voteX x m a).st = 3 ∨
    ((x.bal ≤ m.b ∧ x.st ≠ 3) ∧ ((m.k = 1 ∧ ¬ (x.st ≠ 0 ∧ x.vote = m.b) ∧ (voteX x m a).st = 1 ∧ (voteX x m a).bal = m.b ∧ (voteX x m a).vote = m.b) ∨
      (m.k = 3 ∧ ¬ (x.st = 2 ∧ x.vote = m.b) ∧ (voteX x m a).st = 2 ∧ (voteX x m a).bal = m.b ∧ (voteX x m a).vote = m.b) ∨
      (m.k ≠ 1 ∧ m.k ≠ 3 ∧ voteX x m a = { x with bal := m.b }))) := by
  unfold voteX
  by_cases hv : votes x m = false
  · rw [if_pos hv]; exact .inl rfl
  rw [if_neg hv]
  have hv' : votes x m = true := by simpa using hv
  obtain ⟨hr, -, -, -⟩ := votes_iff.1 hv'
  by_cases h5 : m.k = 5
  · rw [if_pos h5]
    right; left
    unfold commitX
    split
    · assumption
    · have := (rightM_ask hr (by unfold asksK; simp [h5])).2.1
      show m.x.st = 3
      rw [this, h5]; rfl
  rw [if_neg h5]
  by_cases h3 : x.st = 3
  · rw [if_pos h3]; exact .inl rfl
  rw [if_neg h3]
  by_cases hb : m.b < x.bal
  · rw [if_pos hb]; exact .inl rfl
  rw [if_neg hb]
  by_cases h1 : m.k = 1
  · rw [if_pos h1]
    unfold preX
    by_cases hp : x.st ≠ 0 ∧ x.vote = m.b
    · rw [if_pos hp]; exact .inl rfl
    · rw [if_neg hp]
      exact .inr (.inr ⟨⟨by omega, h3⟩, .inl ⟨h1, hp, rfl, rfl, rfl⟩⟩)
  rw [if_neg h1]
  by_cases hk : m.k = 3
  · rw [if_pos hk]
    unfold acceptX
    by_cases hp : x.st = 2 ∧ x.vote = m.b
    · rw [if_pos hp]; exact .inl rfl
    · rw [if_neg hp]
      have := (rightM_ask hr (by unfold asksK; simp [hk])).2.1
      refine .inr (.inr ⟨⟨by omega, h3⟩, .inr (.inl ⟨hk, hp, ?_, ?_, ?_⟩)⟩)
      · rw [this, hk]; rfl
      · rw [this]; rfl
      · rw [this]; rfl
  rw [if_neg hk]
  exact .inr (.inr ⟨⟨by omega, h3⟩, .inr (.inr ⟨h1, hk, rfl⟩)⟩)
/-- the ballot that was voted by is no greater than the promised one -/
theorem vote_le {x : InstP} {m : MsgP} {a : AttP} (h : x.vote ≤ x.bal) : (voteX x m a).vote ≤ (voteX x m a).bal := by
  by_cases hv : votes x m = false
  · have : voteX x m a = x := if_pos hv
    rw [this]; exact h
  have hv' : votes x m = true := by simpa using hv
  obtain ⟨hr, -, -, -⟩ := votes_iff.1 hv'
  by_cases h5 : m.k = 5
  · have e : voteX x m a = commitX x m := by unfold voteX; rw [if_neg hv, if_pos h5]
    rw [e]
    unfold commitX
    split
    · exact h
    · have h2 := (rightM_ask hr (by unfold asksK; simp [h5])).2.1
      have h3 : m.x.vote = m.b := by rw [h2]; rfl
      show m.x.vote ≤ mx x.bal m.b
      rw [h3]; exact le_mx2 _ _
  rcases vote_cases (x := x) (m := m) (a := a) with e | e | ⟨⟨e1, e2⟩, e3⟩
  · rw [e]; exact h
  · have e2 : voteX x m a = x ∨ (voteX x m a).vote ≤ (voteX x m a).bal := by
      unfold voteX at e ⊢
      rw [if_neg hv, if_neg h5] at e ⊢
      by_cases h3 : x.st = 3
      · rw [if_pos h3]; exact .inl rfl
      rw [if_neg h3] at e ⊢
      by_cases hb : m.b < x.bal
      · rw [if_pos hb]; exact .inl rfl
      rw [if_neg hb] at e ⊢
      by_cases h1 : m.k = 1
      · rw [if_pos h1] at e ⊢
        unfold preX at e ⊢
        by_cases hp : x.st ≠ 0 ∧ x.vote = m.b
        · rw [if_pos hp]; exact .inl rfl
        · rw [if_neg hp] at e; simp at e
      rw [if_neg h1] at e ⊢
      by_cases hk : m.k = 3
      · rw [if_pos hk] at e ⊢
        unfold acceptX at e ⊢
        by_cases hp : x.st = 2 ∧ x.vote = m.b
        · rw [if_pos hp]; exact .inl rfl
        · rw [if_neg hp] at e
          have := (rightM_ask hr (by unfold asksK; simp [hk])).2.1
          rw [this, hk] at e
          have e' : statusK 3 = 3 := e
          exact absurd e' (by decide)
      rw [if_neg hk] at e
      exact absurd e h3
    rcases e2 with e2 | e2
    · rw [e2]; exact h
    · exact e2
  · rcases e3 with ⟨_, _, _, h2, h3⟩ | ⟨_, _, _, h2, h3⟩ | ⟨_, _, h2⟩
    · omega
    · omega
    · rw [h2]; show x.vote ≤ m.b; omega
theorem vote_max {x : InstP} {m : MsgP} {a : AttP} (h : maxX x) (hm : smallX m.x) : maxX (voteX x m a) := by
  have hm' : maxX m.x := by unfold smallX at hm; exact ⟨by omega, by omega⟩
  unfold voteX preX commitX acceptX
  repeat' split
  all_goals first | exact h | exact hm'
/-- what binds goes on to bind -/
theorem bound_vote {b : Int} {i j : Nat} {x : InstP} {se to : Nat → MsgP} {m : MsgP} {a : AttP} (h : bound b ⟨i, x, se, to⟩) (hm : smallX m.x) : bound b ⟨j, voteX x m a, se, to⟩ := by
  obtain ⟨h1, h2, h3, h4, h5, h6⟩ := h
  simp only at h1 h2 h3 h4 h5 h6
  have hv := vote_cases (x := x) (m := m) (a := a)
  refine ⟨vote_max h1 hm, h2, h3, vote_le h4, fun hk => ?_, fun hk => ?_⟩
  · show (voteX x m a).st = 3 ∨ b < (voteX x m a).bal ∨ ((voteX x m a).st = 2 ∧ (voteX x m a).vote = b ∧ alikeI (to 4).x (voteX x m a) = true)
    have h7 := h5 hk
    rcases hv with e | e | ⟨⟨e1, e2⟩, e3⟩
    · rw [e]; exact h7
    · exact .inl e
    · rcases e3 with ⟨k1, n1, s1, b1, v1⟩ | ⟨k1, n1, s1, b1, v1⟩ | ⟨k1, k2, ee⟩
      · rcases h7 with h7 | h7 | ⟨h7, h8, h9⟩
        · exact absurd h7 e2
        · right; left; omega
        · right; left
          have : ¬ x.vote = m.b := fun hh => n1 ⟨by omega, hh⟩
          omega
      · rcases h7 with h7 | h7 | ⟨h7, h8, h9⟩
        · exact absurd h7 e2
        · right; left; omega
        · right; left
          have : ¬ x.vote = m.b := fun hh => n1 ⟨h7, hh⟩
          omega
      · rw [ee]
        rcases h7 with h7 | h7 | ⟨h7, h8, h9⟩
        · exact absurd h7 e2
        · right; left; show b < m.b; omega
        · right; right; exact ⟨h7, h8, h9⟩
  · show (voteX x m a).st = 3 ∨ b < (voteX x m a).bal ∨ ((voteX x m a).st = 2 ∧ (voteX x m a).vote = b) ∨ ((voteX x m a).st = 1 ∧ (voteX x m a).vote = b ∧ alikeI (to 2).x (voteX x m a) = true)
    have h7 := h6 hk
    rcases hv with e | e | ⟨⟨e1, e2⟩, e3⟩
    · rw [e]; exact h7
    · exact .inl e
    · rcases e3 with ⟨k1, n1, s1, b1, v1⟩ | ⟨k1, n1, s1, b1, v1⟩ | ⟨k1, k2, ee⟩
      · right; left
        rcases h7 with h7 | h7 | ⟨h7, h8⟩ | ⟨h7, h8, h9⟩
        · exact absurd h7 e2
        · omega
        · have : ¬ x.vote = m.b := fun hh => n1 ⟨by omega, hh⟩
          omega
        · have : ¬ x.vote = m.b := fun hh => n1 ⟨by omega, hh⟩
          omega
      · rcases h7 with h7 | h7 | ⟨h7, h8⟩ | ⟨h7, h8, h9⟩
        · exact absurd h7 e2
        · right; left; omega
        · right; left
          have : ¬ x.vote = m.b := fun hh => n1 ⟨h7, hh⟩
          omega
        · rcases Int.lt_or_eq_of_le (show b ≤ m.b by omega) with h | h
          · right; left; omega
          · right; right; left; exact ⟨s1, by omega⟩
      · rw [ee]
        rcases h7 with h7 | h7 | ⟨h7, h8⟩ | ⟨h7, h8, h9⟩
        · exact absurd h7 e2
        · right; left; show b < m.b; omega
        · right; right; left; exact ⟨h7, h8⟩
        · right; right; right; exact ⟨h7, h8, h9⟩
/-- what is told with a yes -/
theorem vote_yes {x : InstP} {m : MsgP} {a : AttP} (ht : voteT x m = true) (ho : (voteR x m a).ok = true) :
    voteR x m a = replyM m true (voteX x m a) ∧ rightM m = true ∧ x.st ≠ 3 ∧ ¬ m.b < x.bal ∧ (m.k = 1 → preOK x m = true) := by
  by_cases hv : votes x m = false
  · have : voteT x m = false := by unfold voteT; rw [if_pos hv]
    rw [this] at ht; cases ht
  have hv' : votes x m = true := by simpa using hv
  obtain ⟨hr, -, -, -⟩ := votes_iff.1 hv'
  by_cases h5 : m.k = 5
  · have : voteT x m = false := by unfold voteT; rw [if_neg hv, if_pos h5]
    rw [this] at ht; cases ht
  have e : voteR x m a = if x.st = 3 then askM 5 m.dst m.src m.b x else if m.b < x.bal then replyM m false x else if voteT x m then replyM m true (voteX x m a) else zM := by
    unfold voteR; rw [if_neg hv, if_neg h5]
  rw [e] at ho
  by_cases h3 : x.st = 3
  · rw [if_pos h3] at ho; cases ho
  rw [if_neg h3] at e ho
  by_cases hb : m.b < x.bal
  · rw [if_pos hb] at ho; cases ho
  rw [if_neg hb, if_pos ht] at e
  refine ⟨e, hr, h3, hb, fun h1 => ?_⟩
  unfold voteT at ht
  rw [if_neg hv, if_neg h5, if_neg h3, if_neg hb, if_pos h1] at ht
  exact ht
theorem reply_k {m : MsgP} {x : InstP} (hr : rightM m = true) : (replyM m true x).k = m.k + 1 ∧ 1 ≤ m.k ∧ m.k ≤ 7 := by
  have h : 1 ≤ m.k ∧ m.k ≤ 7 := by
    unfold rightM at hr
    split at hr
    · rename_i hc; exact ⟨hc.1, hc.2.1⟩
    · cases hr
  exact ⟨wrap_i64 (by omega) (by omega), h⟩
/-- of what is told with a yes by the ballot the first binds -/
theorem bound_told {b : Int} {i j : Nat} {x : InstP} {se to : Nat → MsgP} {m : MsgP} {a : AttP} {q : Nat} (h : bound b ⟨i, x, se, to⟩) (hm : smallX m.x) (ht : voteT x m = true) (ho : (voteR x m a).ok = true) (hb : (voteR x m a).b = b)
    (hq : (q = 2 ∧ (voteR x m a).k = 2) ∨ (q = 4 ∧ (voteR x m a).k = 4)) :
    ((to q).k ≠ 0 → alikeI (to q).x (voteR x m a).x = true) ∧ bound b ⟨j, voteX x m a, se, fun t => if t = q then voteR x m a else to t⟩ := by
  obtain ⟨e, hr, h3, hlt, hp⟩ := vote_yes ht ho
  have hbv := bound_vote (j := j) (a := a) h hm
  obtain ⟨g1, g2, g3, g4, g5, g6⟩ := hbv
  obtain ⟨h1, h2, h4, h5, h6, h7⟩ := h
  simp only at h1 h2 h4 h5 h6 h7 g1 g2 g3 g4 g5 g6
  obtain ⟨r1, r2, r3⟩ := reply_k (x := voteX x m a) hr
  have hx : (voteR x m a).x = voteX x m a := by rw [e]; rfl
  have hmb : m.b = b := by rw [e] at hb; exact hb
  have hk : (voteR x m a).k = m.k + 1 := by rw [e]; exact r1
  have hv := vote_cases (x := x) (m := m) (a := a)
  have hmax : ∀ k, maxX ((fun t => if t = q then voteR x m a else to t) k).x := by
    intro k
    show maxX (if k = q then voteR x m a else to k).x
    split
    · rw [hx]; exact g1
    · exact g3 k
  rcases hq with ⟨rfl, hq⟩ | ⟨rfl, hq⟩
  · have hk1 : m.k = 1 := by omega
    have hpre := hp hk1
    have st1 : (x.st ≠ 0 ∧ x.vote = m.b → x.st = 1 ∧ voteX x m a = x) := by
      intro hh
      unfold preOK at hpre
      rw [if_pos hh] at hpre
      refine ⟨by simpa using hpre, ?_⟩
      rcases hv with e' | e' | ⟨_, e'⟩
      · exact e'
      · exfalso
        have : (voteX x m a).st = 3 := e'
        have hvv : votes x m = true := by
          by_cases hv : votes x m = false
          · have : voteT x m = false := by unfold voteT; rw [if_pos hv]
            rw [this] at ht; cases ht
          · simpa using hv
        have : voteX x m a = preX x m a := by
          unfold voteX
          rw [if_neg (by rw [hvv]; decide), if_neg (by omega), if_neg h3, if_neg hlt, if_pos hk1]
        rw [this] at e'
        unfold preX at e'
        rw [if_pos hh] at e'
        exact h3 e'
      · rcases e' with ⟨_, n, _⟩ | ⟨n, _⟩ | ⟨n, _⟩
        · exact absurd hh n
        · omega
        · omega
    have new1 : (voteX x m a).st = 1 ∧ (voteX x m a).vote = b := by
      by_cases hh : x.st ≠ 0 ∧ x.vote = m.b
      · obtain ⟨a1, a2⟩ := st1 hh
        rw [a2]; exact ⟨a1, by omega⟩
      · have hvv : votes x m = true := by
          by_cases hv : votes x m = false
          · have : voteT x m = false := by unfold voteT; rw [if_pos hv]
            rw [this] at ht; cases ht
          · simpa using hv
        have : voteX x m a = preX x m a := by
          unfold voteX
          rw [if_neg (by rw [hvv]; decide), if_neg (by omega), if_neg h3, if_neg hlt, if_pos hk1]
        rw [this]
        unfold preX
        rw [if_neg hh]
        exact ⟨rfl, hmb⟩
    refine ⟨fun hne => ?_, ⟨g1, g2, hmax, g4, fun hk => ?_, fun hk => ?_⟩⟩
    · rw [hx]
      rcases h7 hne with h | h | ⟨h, h'⟩ | ⟨h, h', h''⟩
      · exact absurd h h3
      · omega
      · have := st1 ⟨by omega, by omega⟩
        omega
      · rw [(st1 ⟨by omega, by omega⟩).2]; exact h''
    · exact g5 hk
    · show (voteX x m a).st = 3 ∨ b < (voteX x m a).bal ∨ ((voteX x m a).st = 2 ∧ (voteX x m a).vote = b) ∨ ((voteX x m a).st = 1 ∧ (voteX x m a).vote = b ∧ alikeI (voteR x m a).x (voteX x m a) = true)
      exact .inr (.inr (.inr ⟨new1.1, new1.2, by rw [hx]; exact alike_self _⟩))
  · have hk3 : m.k = 3 := by omega
    have hvv : votes x m = true := by
      by_cases hv : votes x m = false
      · have : voteT x m = false := by unfold voteT; rw [if_pos hv]
        rw [this] at ht; cases ht
      · simpa using hv
    have ea : voteX x m a = acceptX x m := by
      unfold voteX
      rw [if_neg (by rw [hvv]; decide), if_neg (by omega), if_neg h3, if_neg hlt, if_neg (by omega), if_pos hk3]
    have st2 : (x.st = 2 ∧ x.vote = m.b → voteX x m a = x) := by
      intro hh
      rw [ea]; unfold acceptX; rw [if_pos hh]
    have new2 : (voteX x m a).st = 2 ∧ (voteX x m a).vote = b := by
      by_cases hh : x.st = 2 ∧ x.vote = m.b
      · rw [st2 hh]; exact ⟨hh.1, by omega⟩
      · rw [ea]; unfold acceptX; rw [if_neg hh]
        have := (rightM_ask hr (by unfold asksK; simp [hk3])).2.1
        rw [this, hk3]
        exact ⟨rfl, hmb⟩
    refine ⟨fun hne => ?_, ⟨g1, g2, hmax, g4, fun hk => ?_, fun hk => ?_⟩⟩
    · rw [hx]
      rcases h6 hne with h | h | ⟨h, h', h''⟩
      · exact absurd h h3
      · omega
      · rw [st2 ⟨h, by omega⟩]; exact h''
    · show (voteX x m a).st = 3 ∨ b < (voteX x m a).bal ∨ ((voteX x m a).st = 2 ∧ (voteX x m a).vote = b ∧ alikeI (voteR x m a).x (voteX x m a) = true)
      exact .inr (.inr ⟨new2.1, new2.2, by rw [hx]; exact alike_self _⟩)
    · exact g6 hk
end Go.Proofs.YtddilmocngedjaaDoor
