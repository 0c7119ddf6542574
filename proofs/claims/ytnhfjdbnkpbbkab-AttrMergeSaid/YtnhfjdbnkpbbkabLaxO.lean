/- append: the frame's state follows. -/
import Derived.Test.YtnhfjdbnkpbbkabLaxN
import Derived.Deep.Upon
namespace Go.Proofs.Ytnhfjdbnkpbbkab
set_option linter.unusedVariables false
set_option linter.unusedSimpArgs false
open Go.RowKit

/-- elements by content, and their real cells in a row -/
def FL (w : World) (S : Nat → Nat → Prop) (size : Nat) (xs : List AV) (us : List Value) : Prop :=
  us.length = xs.length * size ∧ ∀ (i : Nat) x, xs[i]? = some x → x.cells.length = size ∧ ∀ (j : Nat) c, x.cells[j]? = some c → c.one = true ∧ ∃ u, us[i * size + j]? = some u ∧ RepP w S c u

section
variable {P : Program} {n : Nat} {w0 : World} {own : OwnP} {st st' : St} {G G' : Gh} {a : Act} {w w' : World} {o : Oper} {S S' : Nat → Nat → Prop} {size : Nat}

theorem idx_lt {i j m size : Nat} (hi : i < m) (hj : j < size) : i * size + j < m * size := by
  calc i * size + j < i * size + size := by omega
    _ = (i + 1) * size := by rw [Nat.add_mul, Nat.one_mul]
    _ ≤ m * size := Nat.mul_le_mul_right _ hi

theorem FL.mono {xs : List AV} {us : List Value} (h : FL w S size xs us) (hk : ∀ b o u, S b o → w.cell? ⟨b, o, none⟩ = some u → S' b o ∧ w'.cell? ⟨b, o, none⟩ = some u) : FL w' S' size xs us :=
  ⟨h.1, fun i x hx => ⟨(h.2 i x hx).1, fun j c hc => by
    obtain ⟨h1, u, h2, h3⟩ := (h.2 i x hx).2 j c hc
    exact ⟨h1, u, h2, h3.mono hk⟩⟩⟩
theorem FL.nil : FL w S size [] [] := ⟨by simp, fun i x h => by simp at h⟩
theorem FL.append {xs ys : List AV} {us vs : List Value} (h : FL w S size xs us) (h' : FL w S size ys vs) : FL w S size (xs ++ ys) (us ++ vs) := by
  refine ⟨by simp [h.1, h'.1, Nat.add_mul], fun i x hx => ?_⟩
  by_cases hi : i < xs.length
  · rw [List.getElem?_append_left hi] at hx
    refine ⟨(h.2 i x hx).1, fun j c hc => ?_⟩
    obtain ⟨h1, u, h2, h3⟩ := (h.2 i x hx).2 j c hc
    exact ⟨h1, u, by rw [List.getElem?_append_left (List.getElem?_eq_some_iff.1 h2).1]; exact h2, h3⟩
  · rw [List.getElem?_append_right (by omega)] at hx
    refine ⟨(h'.2 _ x hx).1, fun j c hc => ?_⟩
    obtain ⟨h1, u, h2, h3⟩ := (h'.2 _ x hx).2 j c hc
    refine ⟨h1, u, ?_, h3⟩
    have e : i * size + j = us.length + ((i - xs.length) * size + j) := by
      rw [h.1, Nat.sub_mul]
      have := Nat.mul_le_mul_right size (Nat.le_of_not_lt hi)
      omega
    rw [e, List.getElem?_append_right (by omega), Nat.add_sub_cancel_left]
    exact h2

theorem FL.of {xs : List AV} {ow : Own} {r : Value} (h : RepP w S (.sl xs ow) r) (hz : ∀ z ∈ xs, z.cells.length = size) : ∃ us ad cap, r = .slice ad xs.length cap ∧ FL w S size xs us ∧
    (xs = [] ∨ ∃ b off, ad = some ⟨b, off, none⟩ ∧ ∀ k u, us[k]? = some u → w.cell? ⟨b, off + k, none⟩ = some u) := by
  cases h with
  | slnil _ ad cap h => exact ⟨[], ad, cap, rfl, FL.nil, .inl rfl⟩
  | sl _ _ b off cap size' us hc hm hsz hS hr =>
    by_cases hx : xs = []
    · subst hx; exact ⟨[], _, cap, rfl, FL.nil, .inl rfl⟩
    · have h0 : 0 < xs.length := List.length_pos_iff.2 hx
      have hs : size' = size := by
        rw [← hsz 0 xs[0] (List.getElem?_eq_getElem h0)]
        exact hz _ (List.getElem_mem h0)
      subst hs
      have get : ∀ i j, i < xs.length → j < size' → ((List.range (xs.length * size')).map fun q => us (q / size') (q % size'))[i * size' + j]? = some (us i j) := by
        intro i j hi hj
        have h1 := idx_lt hi hj
        have e1 : (i * size' + j) / size' = i := by
          rw [Nat.mul_comm, Nat.mul_add_div (by omega)]
          rw [Nat.div_eq_of_lt hj, Nat.add_zero]
        have e2 : (i * size' + j) % size' = j := by
          rw [Nat.mul_comm, Nat.mul_add_mod]
          exact Nat.mod_eq_of_lt hj
        simp [h1, e1, e2]
      refine ⟨(List.range (xs.length * size')).map fun q => us (q / size') (q % size'), _, cap, rfl, ⟨by simp, fun i x hx' => ⟨hsz i x hx', fun j c hc' => ?_⟩⟩, .inr ⟨b, off, rfl, fun k u hk => ?_⟩⟩
      · have hi := (List.getElem?_eq_some_iff.1 hx').1
        have hj : j < size' := by rw [← hsz i x hx']; exact (List.getElem?_eq_some_iff.1 hc').1
        exact ⟨(hS i x j c hx' hc').2.2, us i j, get i j hi hj, hr i x j c hx' hc'⟩
      · have hk1 : k < xs.length * size' := by simpa using (List.getElem?_eq_some_iff.1 hk).1
        have hsp : 0 < size' := by
          rcases Nat.eq_zero_or_pos size' with h | h
          · subst h; omega
          · exact h
        have hi : k / size' < xs.length := by rw [Nat.div_lt_iff_lt_mul hsp]; exact hk1
        have hj : k % size' < size' := Nat.mod_lt _ hsp
        have hxi := List.getElem?_eq_getElem hi
        have hcl := hsz _ _ hxi
        have hcj := List.getElem?_eq_getElem (l := xs[k / size'].cells) (i := k % size') (by rw [hcl]; exact hj)
        have h2 := (hS _ _ _ _ hxi hcj).2.1
        have e : k / size' * size' + k % size' = k := by rw [Nat.mul_comm]; exact Nat.div_add_mod k size'
        rw [Nat.add_assoc, e] at h2
        have h3 := get _ _ hi hj
        rw [e, hk] at h3
        cases h3
        exact h2

theorem FL.row {e : Nat} {v : Value} {zs : List AV} {us : List Value} {m : Nat} (hown : w.ownsRow 0 e size v m us) (hm : zs.length = m) (h : FL w S size zs us) (hS : ∀ g o, v.ownBlock = some g → o < m * size → S g o) : RepP w S (.sl zs .no) v := by
  subst hm
  rcases hown.2 with ⟨rfl, h0⟩ | ⟨g, cap, cur, rfl, _, h1, h2, h3, h4, h5⟩
  · have : zs = [] := List.eq_nil_of_length_eq_zero h0
    subst this
    exact .slnil _ _ _ (by unfold maxLen; omega)
  · refine .sl zs .no g 0 cap size (fun i j => us.getD (i * size + j) undef) h2 h3 (fun i x hx => (h.2 i x hx).1) (fun i x j c hx hc => ?_) (fun i x j c hx hc => ?_)
    · obtain ⟨q1, u, q2, q3⟩ := (h.2 i x hx).2 j c hc
      have hi := (List.getElem?_eq_some_iff.1 hx).1
      have hj : j < size := by rw [← (h.2 i x hx).1]; exact (List.getElem?_eq_some_iff.1 hc).1
      have hlt := idx_lt hi hj
      rw [Nat.zero_add]
      refine ⟨hS g _ rfl hlt, ?_, q1⟩
      have := hown.cells (g := g) rfl _ _ q2
      rw [Addr.add_mid, Nat.zero_add] at this
      rw [this]
      simp [List.getD, q2]
    · obtain ⟨q1, u, q2, q3⟩ := (h.2 i x hx).2 j c hc
      simpa [List.getD, q2] using q3

/-- append onto a row of the frame's own, out of whatever source -/
theorem run_append_av (w : World) (t tx ty e : TypeId) (i : TypeInfo) (z : Value) (ht : P.underlying t = some (.slice e)) (hi : P.info? e = some i) (hz : i.zero = some z) (hzs : z.cells.size = i.size)
    (v : Value) (m : Nat) (olds : List Value) (hown : w.ownsRow 0 e i.size v m olds) (x : Value) (k : Nat) (news : List Value) (hs : Src P i.size tx x k news w)
    (h63 : m + k ≤ maxLen) (hbytes : (m + k) * i.bytes ≤ 140737488355328) :
    ∃ v' w', (Builtin.append_ #[t, tx] ty #[v, x]).run P w = .ok v' w' ∧ w'.ownsRow 0 e i.size v' (m + k) (olds ++ news) ∧ w.grownBy w' v.ownBlock ∧ (v'.ownBlock = v.ownBlock ∨ v'.ownBlock = some w.heap.size ∧ w.grownBy w' none) ∧ (k = 0 → v' = v) := by
  have hsmall : m + k ≤ 9223372036854775807 := by simp only [maxLen] at h63; omega
  have hlen : (olds ++ news).length = (m + k) * i.size := by rw [List.length_append, hown.1, hs.newsLen, Nat.add_mul]
  have grown : ∀ (old : Nat), old < m + k → ∀ (row : Option Nat),
      (w.drew.alloc (.cells ((olds ++ news).toArray ++ Builtin.zeroCells z.cells (grownCap w (m + k) old e - (m + k))) e)).ownsRow 0 e i.size
        (.slice (some ⟨w.heap.size, 0, none⟩) (m + k) (grownCap w (m + k) old e)) (m + k) (olds ++ news) ∧
      w.grownBy (w.drew.alloc (.cells ((olds ++ news).toArray ++ Builtin.zeroCells z.cells (grownCap w (m + k) old e - (m + k))) e)) row := by
    intro old ho row
    have hge := grownCap_ge w (m + k) old e
    have hcm : grownCap w (m + k) old e ≤ maxLen := grownCap_le_maxLen w (m + k) old e h63
    refine ⟨⟨hlen, .inr ⟨w.heap.size, _, _, rfl, Nat.zero_le _, heap_alloc_new w.drew _, hge, hcm, ?_, ?_⟩⟩, ⟨rfl, rfl, rfl, by simp, fun k hk _ => heap_alloc_old w.drew _ hk⟩⟩
    · simp only [Array.size_append, List.size_toArray, size_zeroCells, hzs, hlen, ← Nat.add_mul]
      congr 1
      omega
    · simp only [Array.toList_append]
      rw [← hlen]
      exact List.take_left
  by_cases hk0 : k = 0
  · subst hk0
    have hn : news = [] := List.eq_nil_of_length_eq_zero (by simpa using hs.newsLen)
    subst hn
    refine ⟨v, w, ?_, by simpa using hown, ⟨rfl, rfl, rfl, Nat.le_refl _, fun _ _ _ => rfl⟩, .inl rfl, fun _ => rfl⟩
    rcases hown.2 with ⟨rfl, _⟩ | ⟨g, cap, cur, rfl, _, _, h2, _⟩
    · exact run_append_nothing w t tx ty e i ht hi none 0 0 (Nat.le_refl _) x hs
    · exact run_append_nothing w t tx ty e i ht hi _ m cap h2 x hs
  · rcases hown.2 with ⟨rfl, h0⟩ | ⟨g, cap, cur, rfl, hbg, hg, hnc, hcm, hcs, htake⟩
    · subst h0
      have hx : olds = [] := List.eq_nil_of_length_eq_zero (by simpa using hown.1)
      subst hx
      have hr := run_append_grow_src (P := P) w t tx ty e i z ht hi hz none 0 0 [] (run_firstCells_none w.drew i.size 0 0 0) x k news hs (by omega) (by omega) (growslice_fits (by omega) hbytes)
      have hgr := grown 0 (by omega) (Value.ownBlock (.slice none 0 0))
      exact ⟨_, _, hr, hgr.1, hgr.2, .inr ⟨rfl, (grown _ (by omega) none).2⟩, fun h => absurd h hk0⟩
    · by_cases hroom : m + k ≤ cap
      · have hfit : m * i.size + news.length ≤ cur.size := by rw [hs.newsLen, hcs, ← Nat.add_mul]; exact Nat.mul_le_mul_right _ hroom
        have hst := run_storeCells_at P g (m * i.size) e news 0 cur w hg (by simpa using hfit) hs.one
        simp only [Nat.add_zero] at hst
        have hr : (Builtin.append_ #[t, tx] ty #[.slice (some ⟨g, 0, none⟩) m cap, x]).run P w = .ok (.slice (some ⟨g, 0, none⟩) (m + k) cap) (w.setRow g (cur.toList.take (m * i.size) ++ news ++ cur.toList.drop (m * i.size + news.length)).toArray) := by
          rcases hs.kind with ⟨e', hk⟩ | hk <;> simp [Builtin.append_, run_underlying ht, run_underlying hk, sizeOf, typeInfo, hi, hs.len, hroom, hs.cells, Addr.add_lit, hst]
        refine ⟨_, _, hr, ⟨hlen, .inr ⟨g, cap, _, rfl, hbg, setRow_heap w g cur _ e _ hg, hroom, hcm, ?_, ?_⟩⟩, ⟨rfl, rfl, rfl, by simp, fun k _ hk => setRow_other w g k _ (fun e => hk (by simp [Value.ownBlock, e]))⟩, .inl rfl, fun h => absurd h hk0⟩
        · simp only [List.size_toArray, List.length_append, List.length_take, List.length_drop, Array.length_toList]
          omega
        · rw [htake, ← hlen]
          exact List.take_left
      · have holds : ∀ j u, olds[j]? = some u → w.drew.cell? ((⟨g, 0, none⟩ : Addr).add j) = some u := fun j u h => hown.cells (g := g) rfl j u h
        have hr := run_append_grow_src (P := P) w t tx ty e i z ht hi hz (some ⟨g, 0, none⟩) m cap olds (run_firstCells_some w.drew i.size m ⟨g, 0, none⟩ m cap olds hown.1 holds) x k news hs (by omega) (by omega) (growslice_fits (by omega) hbytes)
        have hgr := grown cap (by omega) (Value.ownBlock (.slice (some ⟨g, 0, none⟩) m cap))
        exact ⟨_, _, hr, hgr.1, hgr.2, .inr ⟨rfl, (grown _ (by omega) none).2⟩, fun h => absurd h hk0⟩
end
end Go.Proofs.Ytnhfjdbnkpbbkab
