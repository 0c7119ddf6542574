/- Calls by content whose results lie apart from the disk; what a step makes of a disk, and of the document's. -/
import Derived.Test.YtddilmocngedjaaDkF
import Derived.Test.YtddilmocngedjaaLaxPkDiskP
import Derived.Test.YtddilmocngedjaaLaxPkDiskL
namespace Go.Proofs.Ytddilmocngedjaa
set_option linter.unusedVariables false
set_option linter.unusedSimpArgs false
open Go Go.Proofs Go.RowKit Go.Lib
def badGh (bad : Nat → Nat → Prop) : Gh := ⟨fun _ => 0, fun _ _ => .slice none 0 0, fun _ _ => 0, bad⟩
theorem bareCell_repP {P : Program} {st : St} {G : Gh} {w : World} {c : AV} {u : Value} (h : Rep1 P st G w c u) (hb : c.bareCell = true) : RepP w (stable P st G) c u := by
  cases c with
  | sl xs ow => cases ow with
    | no => exact h
    | _ => cases hb
  | ptr _ _ => cases hb
  | vec _ _ _ _ => cases hb
  | eptr _ _ => cases hb
  | tup _ => cases hb
  | agg _ => cases hb
  | _ => exact h
theorem bare_repV1 {P : Program} {st : St} {G : Gh} {w : World} {v : AV} {u : Value} (h : RepA P st G w v u) (hb : v.cells.all AV.bareCell = true) : RepV1 w (stable P st G) v u := by
  rw [List.all_eq_true] at hb
  by_cases hv : ∃ cs, v = .agg cs
  · obtain ⟨cs, rfl⟩ := hv
    obtain ⟨us, h1, h2, h3⟩ := h
    exact ⟨us, h1, h2, fun i c hc => by obtain ⟨h4, u, h5, h6⟩ := h3 i c hc; exact ⟨h4, u, h5, bareCell_repP h6 (hb c (List.mem_of_getElem? hc))⟩⟩
  · have hv' : ∀ cs, v ≠ .agg cs := fun cs e => hv ⟨cs, e⟩
    rw [RepA_eq hv'] at h
    rw [RepV1_eq hv']
    exact bareCell_repP h (hb v (by rw [cellsOf_one hv']; simp))
theorem bare_repV {P : Program} {st : St} {G : Gh} {w : World} {v : AV} {u : Value} (h : Rep P st G w v u) (hb : v.bareAll = true) : RepV w (stable P st G) v u := by
  by_cases hv : ∃ cs, v = .tup cs
  · obtain ⟨vs, rfl⟩ := hv
    simp only [AV.bareAll, List.all_eq_true] at hb
    obtain ⟨us, h1, h2, h3⟩ := h
    exact ⟨us, h1, h2, fun i c hc => by
      obtain ⟨u, h5, h6⟩ := h3 i c hc
      exact ⟨u, h5, bare_repV1 h6 (by rw [List.all_eq_true]; exact hb c (List.mem_of_getElem? hc))⟩⟩
  · have hv' : ∀ cs, v ≠ .tup cs := fun cs e => hv ⟨cs, e⟩
    rw [Rep_eq hv'] at h
    rw [RepV_eq hv']
    refine bare_repV1 h ?_
    unfold AV.bareAll at hb
    split at hb
    · exact absurd rfl (hv' _)
    · exact hb
theorem plain_call {P : Program} {f : Nat} {F : Con} (hM : Meets P f F) {l : List AV} {us : Array Value} {w : World} {q : Prop} {val : AV} (bad : Nat → Nat → Prop) (hbad : ∀ b o, bad b o → b < w.heap.size)
    (hF : F (vals l) = some (q, ⟨val, none, none⟩)) (hq : q) (hv : val.bareAll = true) (hl : ∀ v ∈ l, v.bareAll = true) (hs : us.size = l.length)
    (h : ∀ (i : Nat) v, l[i]? = some v → ∃ u, us[i]? = some u ∧ RepV w (fun b o => ¬ bad b o) v u) :
    Calls P f us w fun e w' => ∃ v, e = .returned v ∧ Below w.heap.size w w' ∧ RepV w' (fun b o => ¬ bad b o) val v := by
  have hc : Came P (vals l) us w (badGh bad) noOwn := by
    refine ⟨by simp [vals, hs], ⟨fun s cs h => (by rw [vals_boxes] at h; cases h), fun s cs s' cs' h => (by rw [vals_boxes] at h; cases h), fun x y tip h => (by rw [vals_rows] at h; cases h), fun x y tip x' y' tip' g h => (by rw [vals_rows] at h; cases h), fun s cs x y tip h => (by rw [vals_boxes] at h; cases h)⟩, fun i => ?_, ⟨fun s cs h => (by rw [vals_boxes] at h; cases h), fun x y tip g h => (by rw [vals_rows] at h; cases h), fun b t h => (by cases h)⟩, hbad, fun x y tip g o h => (by rw [vals_rows] at h; cases h)⟩
    have e : (entrySt (vals l)).tmps i = match l[i]? with | some v => v | none => .skip := by
      simp only [entrySt, vals_get]
      cases l[i]? <;> rfl
    rw [e]
    cases hv : l[i]? with
    | none =>
      have : l.length ≤ i := by
        rcases Nat.lt_or_ge i l.length with h | h
        · rw [List.getElem?_eq_getElem h] at hv; cases hv
        · exact h
      have : us.getD i undef = undef := by simp [Array.getD_eq_getD_getElem?, hs, this]
      rw [this]
      exact rep_skip
    | some v =>
      obtain ⟨u, h1, h2⟩ := h i v hv
      have : us.getD i undef = u := by simp [Array.getD_eq_getD_getElem?, h1]
      rw [this]
      refine bare_rep (RepV.mono h2 fun b o u hb hu => ⟨⟨hb, fun s cs h => (by rw [vals_boxes] at h; cases h), fun x y tip h => (by rw [vals_rows] at h; cases h)⟩, hu⟩) (hl v (List.mem_of_getElem? hv))
  refine (hM.calls (vals l) us w (badGh bad) noOwn 0 none q ⟨val, none, none⟩ hF hq hc rfl (fun i s h => by cases h)).mono ?_
  rintro e w' ⟨GX, v, rfl, hB⟩
  refine ⟨v, rfl, ⟨hB.pres.os, hB.pres.tape, hB.pres.output, hB.pres.size, fun b hb => hB.pres.block b hb rfl⟩, ?_⟩
  have hv' : Rep P (exitSt 0 none ⟨val, none, none⟩) GX w' val v := by have := hB.val; rwa [ret_bare hv] at this
  refine RepV.mono (bare_repV hv' hv) fun b o u hb hu => ⟨?_, hu⟩
  have := hb.1
  rw [hB.bad] at this
  exact this
/-- a bytes' beginning -/
theorem bytes_cut {w : World} {S : Nat → Nat → Prop} {l : List UInt8} {A : Option Addr} {n c k : Nat} (h : RepP w S (.sl (bytesAV l) .no) (.slice A n c)) (hk : k ≤ n) : RepP w S (.sl (bytesAV (l.take k)) .no) (.slice A k c) := by
  generalize hx : bytesAV l = xs at h
  cases h with
  | slnil _ a cap h0 =>
    obtain rfl : k = 0 := by omega
    have : l.take 0 = [] := by simp
    rw [this]
    exact RepP.slnil _ _ _ h0
  | sl _ _ b off cap size us hc hm hsz hS hr =>
    subst hx
    have hlen : (bytesAV (l.take k)).length = k := by
      rw [bytesAV_len, List.length_take]; rw [bytesAV_len] at hk; omega
    have hget : ∀ i x, (bytesAV (l.take k))[i]? = some x → (bytesAV l)[i]? = some x := fun i x hi => by
      have e : bytesAV (l.take k) = (bytesAV l).take k := by simp [bytesAV, List.map_take]
      rw [e, List.getElem?_take] at hi
      split at hi
      · exact hi
      · cases hi
    have := RepP.sl (w := w) (S := S) (bytesAV (l.take k)) .no b off c size us (by rw [hlen]; omega) hm (fun i x hi => hsz i x (hget i x hi)) (fun i x j cc hi hj => hS i x j cc (hget i x hi) hj) (fun i x j cc hi hj => hr i x j cc (hget i x hi) hj)
    rw [hlen] at this
    exact this
def DV.good (d : DV) : Prop := dkOK d.sz (bytesAV d.x0) d.s0 (bytesAV d.x1) d.s1 d.ar d.un
theorem DV.good.fine {d : DV} (h : d.good) : d.fine := by
  obtain ⟨h1, h2, _, _, h5, h6, h7, h8, h9, _⟩ := h
  rw [bytesAV_len] at h5 h7
  rw [bytesAV_len] at h5 h9
  refine ⟨h6, h7, h8, h9, by omega, by omega⟩
/-- the document's disk, of the same content -/
def refA (d : DV) : List AV := [.int .i64 d.sz, .sl (bytesAV d.x0) .no, .sl (bytesAV d.x1) .no, .int .i64 d.s0, .int .i64 d.s1, .int .i64 (limD d.ar d.un), .bool d.dn]
def DV.after (d : DV) (k f n : Int) (ys : List AV) : DV :=
  ⟨d.sz, bytesL (pX 0 k f n ys d.sz (bytesAV d.x0) d.s0 (bytesAV d.x1) d.s1 d.ar d.un d.dn), pS 0 k f n ys d.sz (bytesAV d.x0) d.s0 (bytesAV d.x1) d.s1 d.ar d.un d.dn,
    bytesL (pX 1 k f n ys d.sz (bytesAV d.x0) d.s0 (bytesAV d.x1) d.s1 d.ar d.un d.dn), pS 1 k f n ys d.sz (bytesAV d.x0) d.s0 (bytesAV d.x1) d.s1 d.ar d.un d.dn, pA k d.ar, pU k f n ys d.sz (bytesAV d.x0) d.s0 (bytesAV d.x1) d.s1 d.ar d.un d.dn, pD k f n ys d.sz (bytesAV d.x0) d.s0 (bytesAV d.x1) d.s1 d.ar d.un d.dn⟩
theorem after_bytes {d : DV} (hd : d.good) {k f n : Int} {ys : List AV} (hy : isBytes ys) (hn : n ≤ 9223372036854775807) (g : Int) (hg : g = 0 ∨ g = 1) :
    isBytes (pX g k f n ys d.sz (bytesAV d.x0) d.s0 (bytesAV d.x1) d.s1 d.ar d.un d.dn) := by
  have h := dk_step (k := k) (f := f) (dn := d.dn) hd hy hn
  rcases hg with rfl | rfl
  · exact h.2.2.1
  · exact h.2.2.2.1
theorem after_good {d : DV} (hd : d.good) {k f n : Int} {ys : List AV} (hy : isBytes ys) (hn : n ≤ 9223372036854775807) : (d.after k f n ys).good := by
  have h := dk_step (k := k) (f := f) (dn := d.dn) hd hy hn
  have b0 : bytesAV (bytesL (pX 0 k f n ys d.sz (bytesAV d.x0) d.s0 (bytesAV d.x1) d.s1 d.ar d.un d.dn)) = _ := (after_bytes hd hy hn 0 (.inl rfl)).symm
  have b1 : bytesAV (bytesL (pX 1 k f n ys d.sz (bytesAV d.x0) d.s0 (bytesAV d.x1) d.s1 d.ar d.un d.dn)) = _ := (after_bytes hd hy hn 1 (.inr rfl)).symm
  unfold DV.good DV.after
  simp only
  rw [b0, b1]
  exact h
theorem unit_lim {ar : Bool} {un : Int} : unitK true (limD ar un) = unitK ar un := by
  unfold unitK limD
  cases ar <;> simp
theorem rUn_lim {ar : Bool} {un : Int} (h : ar = true → 0 ≤ un ∧ un ≤ 9223372036854775807) : rUn (limD ar un) = limD ar (unU ar un) := by
  cases ar with
  | false => rfl
  | true =>
    obtain ⟨h1, h2⟩ := h rfl
    show rUn un = unU true un
    unfold rUn unU unitK decU
    by_cases h0 : un = 0
    · subst h0; rfl
    · rw [if_pos (by omega)]
      have e : (un == 0) = false := by simpa using h0
      rw [e, wrap_i64 (by omega) (by omega)]; rfl
theorem rN_lim {ar : Bool} {un : Int} (h : ar = true → 0 ≤ un ∧ un ≤ 9223372036854775807) : ∀ (m : Nat), (ar = true → (m : Int) ≤ un) → rN (limD ar un) m = limD ar (unK un m)
  | 0, _ => rfl
  | m + 1, hm => by
    have ih := rN_lim h m (fun e => by have := hm e; omega)
    show rUn (rN (limD ar un) m) = _
    rw [ih]
    cases ar with
    | false => rfl
    | true =>
      have h0 := hm rfl
      obtain ⟨h1, h2⟩ := h rfl
      show rUn (unK un m) = decU (unK un m)
      rw [unK_eq h1 h2 m (by omega)]
      unfold rUn decU
      rw [if_pos (by omega), wrap_i64 (by omega) (by omega)]
theorem sy_lim {go ar : Bool} {un : Int} (h : ar = true → 0 ≤ un ∧ un ≤ 9223372036854775807) : (if go then rUn (limD ar un) else limD ar un) = limD ar (syU go ar un) := by
  unfold syU
  cases go with
  | false => rfl
  | true => simp only [if_true]; rw [rUn_lim h]
end Go.Proofs.Ytddilmocngedjaa
