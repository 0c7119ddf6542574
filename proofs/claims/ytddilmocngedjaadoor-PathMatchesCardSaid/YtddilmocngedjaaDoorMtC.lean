/- path.next: the places reached from a place by a part. -/
import Derived.Test.YtddilmocngedjaaDoorMtB
namespace Go.Proofs.YtddilmocngedjaaDoor
set_option linter.unusedVariables false
set_option linter.unusedSimpArgs false
open Go Go.Proofs Go.RowKit Go.Lib
def nextQ : List (List UInt8) → Nat → List UInt8 → List Nat
  | [], _, _ => []
  | p :: r, at', x => if p = [42, 42] then nextQ r (at' + 1) x ++ [at'] else if p = [42] ∨ p = x then [at' + 1] else []
def nextP (l : List (List UInt8)) (at' : Nat) (x : List UInt8) : List Nat := nextQ (l.drop at') at' x
def encN (n : Nat) : Value := .int .i64 (n : Int)
theorem nextP_none {l : List (List UInt8)} {k : Nat} {x : List UInt8} (h : l.length ≤ k) : nextP l k x = [] := by
  unfold nextP; rw [List.drop_of_length_le h]; rfl
theorem nextP_at {l : List (List UInt8)} {k : Nat} {x p : List UInt8} (h : l[k]? = some p) : nextP l k x = if p = [42, 42] then nextP l (k + 1) x ++ [k] else if p = [42] ∨ p = x then [k + 1] else [] := by
  unfold nextP
  have hk := (List.getElem?_eq_some_iff.1 h).1
  have e : l[k] = p := by simpa [List.getElem?_eq_getElem hk] using h
  rw [List.drop_eq_getElem_cons hk, e, nextQ]
theorem nextQ_len : ∀ (l : List (List UInt8)) (k : Nat) (x : List UInt8), (nextQ l k x).length ≤ l.length
  | [], k, x => by simp [nextQ]
  | p :: r, k, x => by
    have := nextQ_len r (k + 1) x
    unfold nextQ
    split
    · simp; omega
    · split <;> simp
theorem info_int : (Tryd.prog.info? 3).map (fun i => (i.zero, i.size, i.bytes)) = some (some (.int .i64 0), 1, 8) := by kernel_rfl
set_option maxHeartbeats 4000000 in
set_option maxRecDepth 100000 in
theorem next_any (l : List (List UInt8)) (x : List UInt8) (hl : l.length ≤ 1000) : ∀ (m k : Nat), l.length - k ≤ m → k ≤ l.length → ∀ (w : World) (b off c : Nat), (∀ i y, l[i]? = some y → w.cell? ⟨b, off + i, none⟩ = some (encS y)) → b < w.heap.size →
    Calls Tryd.prog 36 #[.slice (some ⟨b, off, none⟩) l.length c, .int .i64 (k : Int), .string (strB x)] w fun e w' => ∃ v, e = .returned v ∧ Below w.heap.size w w' ∧ w'.ownsRow w.heap.size 3 1 v (nextP l k x).length ((nextP l k x).map encN) := by
  have mixed : Tryd.prog.follows .mixedOrders = true := by kernel_rfl
  obtain ⟨i0, hi, hz0, hz1, hz2⟩ := info_parts info_int
  have t22 := Tryd.underlying31
  have hxd : (strB x).toList = x := by rw [Go.Lib.toList_data, strB_data]
  intro m
  induction m with
  | zero =>
    intro k hm hk w b off c hc hb
    obtain rfl : k = l.length := by omega
    have e : nextP l l.length x = [] := nextP_none (Nat.le_refl _)
    rw [e]
    clear hc
    go_enter Tryd.func36, Tryd.ntmps36
    go_wp2
    go_ret
    exact ⟨_, rfl, Below.refl _ _, World.ownsRow_nil _ _ _ _⟩
  | succ m ih =>
    intro k hm hk w b off c hc hb
    by_cases hlt : k < l.length
    · obtain ⟨p, hp⟩ : ∃ p, l[k]? = some p := ⟨_, List.getElem?_eq_getElem hlt⟩
      have ci : w.cell? ⟨b, off + k, none⟩ = some (.string (strB p)) := hc k p hp
      have e := nextP_at (x := x) hp
      have hpd : (strB p).toList = p := by rw [Go.Lib.toList_data, strB_data]
      by_cases h1 : p = [42, 42]
      · rw [if_pos h1] at e
        have IH := ih (k + 1) (by omega) (by omega) w b off c hc hb
        rw [Int.natCast_add] at IH
        have IH := Lib.hid IH
        rw [e]
        have hN : (nextP l (k + 1) x).length ≤ 1000 := by
          have := nextQ_len (l.drop (k + 1)) (k + 1) x
          unfold nextP; simp at this; omega
        clear ih hc e hp
        subst h1
        generalize nextP l (k + 1) x = N at *
        go_enter Tryd.func36, Tryd.ntmps36
        go_wp2_with fail
        refine IH.out.mono ?_
        rintro e w1 ⟨v, rfl, hb1, ho⟩
        have hal := fun o => ho.alloc o
        have HS := Lib.hid hb1.size
        go_wp2_with (at_builtin; refine wpList_append_own _ rfl _ _ 31 rfl w.heap.size 3 i0 (.int .i64 0) 1 8 t22 hi hz0 hz1 hz2 rfl (by decide) _ N.length (N.map encN) rfl (hal _) ⟨w1.heap.size, 0, none⟩ 1 1 [.int .i64 (k : Int)] rfl ?qc1 ?qc2 ?qc3 ?qc4 ?qc5 ?qc6 ?_)
        case qc1 => rfl
        case qc2 =>
          intro j u hj
          match j, hj with
          | 0, hj =>
            obtain rfl : Value.int .i64 (k : Int) = u := by simpa using hj
            simp [Addr.add]
          | j + 1, hj => simp at hj
        case qc3 => intro u hu; simp at hu; subst hu; rfl
        case qc4 => unfold maxLen; omega
        case qc5 => omega
        case qc6 => have := HS.out; simp; omega
        intro v' w2 hown hgrow hnil
        have e : N.map encN ++ [.int .i64 (k : Int)] = (N ++ [k]).map encN := by simp [encN]
        have e1 : N.length + 1 = (N ++ [k]).length := by simp
        rw [e, e1] at hown
        have HO := Lib.hid hown
        have HB : Hid (Below w.heap.size w w2) := (hb1.alloc HS.out _).grown hgrow (by have := HS.out; simp; omega) (by intro q hq; exact (ho.lt q hq).1)
        clear hown hgrow hnil hal e e1 ho
        go_wp2
        go_ret
        exact ⟨_, rfl, HB.out, HO.out⟩
      · rw [if_neg h1] at e
        have q1 : (p == [42, 42]) = false := by simpa using h1
        have HO := Lib.hid (World.ownsRow_lit (base := w.heap.size) (e := 3) (size := 1) w #[.int .i64 ((k : Int) + 1)] 1 (Nat.le_refl _) (by unfold maxLen; omega) rfl)
        by_cases h2 : p = [42]
        · rw [if_pos (.inl h2)] at e
          have q2 : (p == [42]) = true := by simpa using h2
          rw [e]
          clear ih hc e hp h1 h2
          go_enter Tryd.func36, Tryd.ntmps36
          go_wp2
          go_ret
          exact ⟨_, rfl, (Below.refl _ w).alloc (Nat.le_refl _) _, HO.out⟩
        · have q2 : (p == [42]) = false := by simpa using h2
          by_cases h3 : p = x
          · rw [if_pos (.inr h3)] at e
            have q3 : (p == x) = true := by simpa using h3
            rw [e]
            clear ih hc e hp h1 h2 h3
            go_enter Tryd.func36, Tryd.ntmps36
            go_wp2
            go_ret
            exact ⟨_, rfl, (Below.refl _ w).alloc (Nat.le_refl _) _, HO.out⟩
          · rw [if_neg (by rintro (h | h); exact h2 h; exact h3 h)] at e
            have q3 : (p == x) = false := by simpa using h3
            rw [e]
            clear ih hc e hp h1 h2 h3
            go_enter Tryd.func36, Tryd.ntmps36
            go_wp2
            go_ret
            exact ⟨_, rfl, Below.refl _ w, World.ownsRow_nil _ _ _ _⟩
    · obtain rfl : k = l.length := by omega
      have e : nextP l l.length x = [] := nextP_none (Nat.le_refl _)
      rw [e]
      clear hc ih
      go_enter Tryd.func36, Tryd.ntmps36
      go_wp2
      go_ret
      exact ⟨_, rfl, Below.refl _ _, World.ownsRow_nil _ _ _ _⟩
end Go.Proofs.YtddilmocngedjaaDoor
