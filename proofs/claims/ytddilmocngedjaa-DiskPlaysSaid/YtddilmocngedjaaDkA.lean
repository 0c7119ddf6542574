/- A disk in a real world, and how it is handed to a contract by content. -/
import Derived.Test.YtddilmocngedjaaLaxPkDisk
namespace Go.Proofs.Ytddilmocngedjaa
set_option linter.unusedVariables false
set_option linter.unusedSimpArgs false
open Go Go.Proofs Go.RowKit Go.Lib
theorem byteRow_rep {w : World} {S : Nat → Nat → Prop} {base : Nat} {v : Value} {l : List UInt8} (h : w.ownsRow base 5 1 v l.length (l.map bv)) (hS : ∀ g o, v.ownBlock = some g → o < l.length → S g o) : RepP w S (.sl (bytesAV l) .no) v := by
  rcases h.2 with ⟨rfl, h0⟩ | ⟨g, cap, cur, rfl, hb, hg, h1, h2, h3, h4⟩
  · obtain rfl : l = [] := List.length_eq_zero_iff.1 h0
    exact RepP.slnil .no none 0 (by unfold maxLen; omega)
  · have hlen : (bytesAV l).length = l.length := by simp [bytesAV]
    have := RepP.sl (w := w) (S := S) (bytesAV l) .no g 0 cap 1 (fun i j => bv (l.getD i 0)) (by rw [hlen]; exact h1) h2
      (fun i x hx => by
        simp only [bytesAV, List.getElem?_map, Option.map_eq_some_iff] at hx
        obtain ⟨y, _, rfl⟩ := hx; rfl)
      (fun i x j c hx hj => by
        simp only [bytesAV, List.getElem?_map, Option.map_eq_some_iff] at hx
        obtain ⟨y, hy, rfl⟩ := hx
        have hi := (List.getElem?_eq_some_iff.1 hy).1
        have e0 : l.getD i 0 = y := by simp [List.getD_eq_getElem?_getD, hy]
        match j, hj with
        | 0, hj =>
          simp [AV.cells, byteAV] at hj; subst hj
          refine ⟨hS _ _ rfl (by omega), ?_, rfl⟩
          have hc := World.ownsRow.cellAt h i (by omega)
          rw [List.getElem?_map, hy] at hc
          simp only [e0]; simpa using hc
        | j + 1, hj => simp [AV.cells, byteAV] at hj)
      (fun i x j c hx hj => by
        simp only [bytesAV, List.getElem?_map, Option.map_eq_some_iff] at hx
        obtain ⟨y, hy, rfl⟩ := hx
        have e0 : l.getD i 0 = y := by simp [List.getD_eq_getElem?_getD, hy]
        match j, hj with
        | 0, hj =>
          simp [AV.cells, byteAV] at hj; subst hj
          simp only [e0]
          have := y.toNat_lt
          exact RepP.int .u8 (y.toNat : Int) (by simp [IntKind.min, IntKind.signed]; try omega) (by simp [IntKind.max, IntKind.signed, IntKind.bits]; try omega)
        | j + 1, hj => simp [AV.cells, byteAV] at hj)
    rw [hlen] at this
    exact this
structure DV where
  sz : Int
  x0 : List UInt8
  s0 : Int
  x1 : List UInt8
  s1 : Int
  ar : Bool
  un : Int
  dn : Bool
def DV.av (d : DV) : List AV := [.int .i64 d.sz, .sl (bytesAV d.x0) (.row 0 0 5), .int .i64 d.s0, .sl (bytesAV d.x1) (.row 0 0 5), .int .i64 d.s1, .bool d.ar, .int .i64 d.un, .bool d.dn]
def DV.vals (d : DV) (v0 v1 : Value) : List Value := [.int .i64 d.sz, v0, .int .i64 d.s0, v1, .int .i64 d.s1, .bool d.ar, .int .i64 d.un, .bool d.dn]
def i64ok (n : Int) : Prop := -9223372036854775808 ≤ n ∧ n ≤ 9223372036854775807
/-- the disk d lies in block D, its rows are v0 and v1 -/
structure DiskAt (w : World) (D : Nat) (d : DV) (v0 v1 : Value) : Prop where
  box : ∃ us t, w.heap[D]? = some (.cells us t (0, 0)) ∧ 8 ≤ us.size ∧ ∀ (i : Nat) u, (d.vals v0 v1)[i]? = some u → us[i]? = some u
  r0 : w.ownsRow 0 5 1 v0 d.x0.length (d.x0.map bv)
  r1 : w.ownsRow 0 5 1 v1 d.x1.length (d.x1.map bv)
  a0 : v0.ownBlock ≠ some D
  a1 : v1.ownBlock ≠ some D
  a2 : ∀ g, v0.ownBlock = some g → v1.ownBlock ≠ some g
  ok : i64ok d.sz ∧ i64ok d.s0 ∧ i64ok d.s1 ∧ i64ok d.un
def ghD (D : Nat) (v0 v1 : Value) : Gh := ⟨fun _ => D, fun _ b => if b = 1 then v0 else v1, fun _ _ => 5, fun _ _ => False⟩
def ownD (D : Nat) (n0 n1 : Nat) (v0 v1 : Value) : OwnP := ⟨fun g => if g = D then some 0 else if v0.ownBlock = some g then some n0 else if v1.ownBlock = some g then some n1 else none, fun _ => none, fun _ _ => False⟩
theorem tsize_u8 : tsize Try.prog 5 = 1 := by kernel_rfl
theorem disk_rows (d : DV) (l : List AV) (x y : Nat) : (entrySt (.box d.av :: vals l)).rows x y = if x = 1000 ∧ y = 3 then .live (bytesAV d.x1).length else if x = 1000 ∧ y = 1 then .live (bytesAV d.x0).length else .free := by
  simp only [entrySt, boxOf, DV.av, retRows, rowOf, updRows, List.append_nil, List.nil_append, List.cons_append, upd2]
  by_cases h1 : x = 1000 ∧ y = 3
  · obtain ⟨rfl, rfl⟩ := h1; rfl
  · by_cases h2 : x = 1000 ∧ y = 1
    · obtain ⟨rfl, rfl⟩ := h2; rfl
    · rw [if_neg h1, if_neg h2]
      have e1 : (x == 1000 && y == 3) = false := by simpa using fun h h' => h1 ⟨h, h'⟩
      have e2 : (x == 1000 && y == 1) = false := by simpa using fun h h' => h2 ⟨h, h'⟩
      simp [e1, e2]
theorem disk_boxes (d : DV) (l : List AV) (s : Nat) : (entrySt (.box d.av :: vals l)).boxes s = if s = 0 then some (retCells 1000 0 d.av) else none := by
  cases s with
  | zero => rfl
  | succ s =>
    show (match (vals l)[s]? with | some (.box cs) => some (retCells 1000 0 cs) | _ => none) = _
    rw [vals_get]
    cases l[s]? <;> simp
theorem bytesAV_len (l : List UInt8) : (bytesAV l).length = l.length := by simp [bytesAV]
section
variable {w : World} {D : Nat} {d : DV} {v0 v1 : Value} (h : DiskAt w D d v0 v1) (l : List AV)
include h
omit h in
theorem disk_stable {g o : Nat} (h1 : g ≠ D) (h2 : v0.ownBlock = some g → o < d.x0.length) (h3 : v1.ownBlock = some g → o < d.x1.length) : stable Try.prog (entrySt (.box d.av :: vals l)) (ghD D v0 v1) g o := by
  refine ⟨fun h => h, fun s cs hs _ he => h1 he.symm, fun a c tip hr ho => ?_⟩
  rw [disk_rows, bytesAV_len, bytesAV_len] at hr
  show o < tip * tsize Try.prog 5
  rw [tsize_u8, Nat.mul_one]
  split at hr
  · rename_i hx
    cases hr
    obtain ⟨rfl, rfl⟩ := hx
    exact h3 ho
  · split at hr
    · rename_i hx
      cases hr
      obtain ⟨rfl, rfl⟩ := hx
      exact h2 ho
    · cases hr
omit h in
theorem disk_row_at {x y tip : Nat} (hr : (entrySt (.box d.av :: vals l)).rows x y = .live tip) : (x = 1000 ∧ y = 3 ∧ tip = d.x1.length) ∨ (x = 1000 ∧ y = 1 ∧ tip = d.x0.length) := by
  rw [disk_rows, bytesAV_len, bytesAV_len] at hr
  split at hr
  · rename_i hx
    cases hr
    exact .inl ⟨hx.1, hx.2, rfl⟩
  · split at hr
    · rename_i hx
      cases hr
      exact .inr ⟨hx.1, hx.2, rfl⟩
    · cases hr
theorem came_disk (us : Array Value) (hs : us.size = l.length + 1) (hu0 : us[0]? = some (.pointer (some ⟨D, 0, none⟩)))
    (hu : ∀ (i : Nat) v, l[i]? = some v → ∃ u, us[i + 1]? = some u ∧ Rep Try.prog (entrySt (.box d.av :: vals l)) (ghD D v0 v1) w v u) : Came Try.prog (.box d.av :: vals l) us w (ghD D v0 v1) (ownD D d.x0.length d.x1.length v0 v1) := by
  have i64 : ∀ n, i64ok n → ∀ S, RepP w S (.int .i64 n) (.int .i64 n) := fun n hn S => RepP.int .i64 n (by have := hn.1; simp [IntKind.min, IntKind.signed, IntKind.bits]; omega) (by have := hn.2; simp [IntKind.max, IntKind.signed, IntKind.bits]; omega)
  obtain ⟨o1, o2, o3, o4⟩ := h.ok
  refine ⟨by simp [vals, hs], ⟨?_, ?_, ?_, ?_, ?_⟩, ?_, ⟨?_, ?_, ?_⟩, fun b o hb => hb.elim, fun x y tip g o _ _ hb => hb⟩
  · intro s cs hc
    rw [disk_boxes] at hc
    split at hc
    · cases hc
      obtain ⟨us, t, ht, h8, hus⟩ := h.box
      refine ⟨us, t, ht, by simpa [DV.av, retCells] using h8, fun i c hi => ?_⟩
      match i, hi with
      | 0, hi => obtain rfl := (Option.some.inj hi).symm; exact ⟨rfl, _, hus 0 _ rfl, i64 _ o1 _⟩
      | 1, hi =>
        obtain rfl := (Option.some.inj hi).symm
        refine ⟨rfl, _, hus 1 _ rfl, byteRow_rep h.r0 (fun g o hg ho => disk_stable l (fun e => h.a0 (e ▸ hg)) (fun _ => ho) (fun h' => absurd h' (h.a2 g hg))), ?_⟩
        rw [disk_rows]
        exact ⟨rfl, Nat.le_refl _, fun _ => rfl⟩
      | 2, hi => obtain rfl := (Option.some.inj hi).symm; exact ⟨rfl, _, hus 2 _ rfl, i64 _ o2 _⟩
      | 3, hi =>
        obtain rfl := (Option.some.inj hi).symm
        refine ⟨rfl, _, hus 3 _ rfl, byteRow_rep h.r1 (fun g o hg ho => disk_stable l (fun e => h.a1 (e ▸ hg)) (fun h' => absurd hg (h.a2 g h')) (fun _ => ho)), ?_⟩
        rw [disk_rows]
        exact ⟨rfl, Nat.le_refl _, fun _ => rfl⟩
      | 4, hi => obtain rfl := (Option.some.inj hi).symm; exact ⟨rfl, _, hus 4 _ rfl, i64 _ o3 _⟩
      | 5, hi => obtain rfl := (Option.some.inj hi).symm; exact ⟨rfl, _, hus 5 _ rfl, RepP.bool _⟩
      | 6, hi => obtain rfl := (Option.some.inj hi).symm; exact ⟨rfl, _, hus 6 _ rfl, i64 _ o4 _⟩
      | 7, hi => obtain rfl := (Option.some.inj hi).symm; exact ⟨rfl, _, hus 7 _ rfl, RepP.bool _⟩
      | i + 8, hi => simp [DV.av, retCells] at hi
    · cases hc
  · intro s cs s' cs' h1 h2 _
    rw [disk_boxes] at h1 h2
    by_cases e1 : s = 0 <;> by_cases e2 : s' = 0
    · rw [e1, e2]
    · rw [if_neg e2] at h2; cases h2
    · rw [if_neg e1] at h1; cases h1
    · rw [if_neg e1] at h1; cases h1
  · intro x y tip hr
    refine ⟨by show 0 < tsize Try.prog 5; rw [tsize_u8]; decide, ?_⟩
    show ∃ us, w.ownsRow 0 5 (tsize Try.prog 5) _ tip us
    rw [tsize_u8]
    rcases disk_row_at l hr with ⟨rfl, rfl, rfl⟩ | ⟨rfl, rfl, rfl⟩
    · exact ⟨_, h.r1⟩
    · exact ⟨_, h.r0⟩
  · intro x y tip x' y' tip' g hr hr' hg hg'
    rcases disk_row_at l hr with ⟨rfl, rfl, rfl⟩ | ⟨rfl, rfl, rfl⟩ <;> rcases disk_row_at l hr' with ⟨rfl, rfl, rfl⟩ | ⟨rfl, rfl, rfl⟩
    · exact ⟨rfl, rfl⟩
    · exact absurd hg (h.a2 g hg')
    · exact absurd hg' (h.a2 g hg)
    · exact ⟨rfl, rfl⟩
  · intro s cs x y tip hs hr
    rcases disk_row_at l hr with ⟨rfl, rfl, rfl⟩ | ⟨rfl, rfl, rfl⟩
    · exact h.a1
    · exact h.a0
  · intro i
    cases i with
    | zero =>
      have e : us.getD 0 undef = .pointer (some ⟨D, 0, none⟩) := by simp [Array.getD_eq_getD_getElem?, hu0]
      rw [e]
      exact ⟨⟨_, rfl⟩, rfl⟩
    | succ i =>
      cases hl : l[i]? with
      | some v =>
        obtain ⟨u, h1, h2⟩ := hu i v hl
        have e : (entrySt (.box d.av :: vals l)).tmps (i + 1) = v := by simp [entrySt, vals_get, hl]
        rw [e]
        have e2 : us.getD (i + 1) undef = u := by simp [Array.getD_eq_getD_getElem?, h1]
        rw [e2]
        exact h2
      | none =>
        have e : (entrySt (.box d.av :: vals l)).tmps (i + 1) = .skip := by simp [entrySt, vals_get, hl]
        rw [e]
        have hi : us.size ≤ i + 1 := by have := List.getElem?_eq_none_iff.1 hl; omega
        have e2 : us.getD (i + 1) undef = undef := by simp [Array.getD_eq_getD_getElem?, Array.getElem?_eq_none hi]
        rw [e2]
        exact RepP.skip
  · intro s cs hs
    show (if D = D then some 0 else _) = some 0
    rw [if_pos rfl]
  · intro x y tip g hr hg
    show (if g = D then some 0 else if v0.ownBlock = some g then some d.x0.length else if v1.ownBlock = some g then some d.x1.length else none) = some (tip * tsize Try.prog 5)
    rw [tsize_u8, Nat.mul_one]
    rcases disk_row_at l hr with ⟨rfl, rfl, rfl⟩ | ⟨rfl, rfl, rfl⟩
    · have hg' : v1.ownBlock = some g := hg
      rw [if_neg (fun e : g = D => h.a1 (e ▸ hg')), if_neg (fun e : v0.ownBlock = some g => h.a2 g e hg'), if_pos hg']
    · have hg' : v0.ownBlock = some g := hg
      rw [if_neg (fun e : g = D => h.a0 (e ▸ hg')), if_pos hg']
  · intro b t hb
    have hb' : (if b = D then some 0 else if v0.ownBlock = some b then some d.x0.length else if v1.ownBlock = some b then some d.x1.length else none) = some t := hb
    split at hb'
    · rename_i e
      exact .inl ⟨0, _, rfl, e.symm⟩
    · split at hb'
      · rename_i e
        exact .inr ⟨1000, 1, _, by rw [disk_rows]; rfl, e⟩
      · split at hb'
        · rename_i e
          exact .inr ⟨1000, 3, _, by rw [disk_rows]; rfl, e⟩
        · cases hb'
end
/-- all but the disk's blocks is as it was; the rows lie where they lay, or in new blocks -/
structure Touch (w : World) (D : Nat) (v0 v1 : Value) (w' : World) (v0' v1' : Value) : Prop where
  os : w'.os = w.os
  tape : w'.tape = w.tape
  output : w'.output = w.output
  size : w.heap.size ≤ w'.heap.size
  block : ∀ b, b < w.heap.size → b ≠ D → v0.ownBlock ≠ some b → v1.ownBlock ≠ some b → w'.heap[b]? = w.heap[b]?
  row : ∀ g, v0'.ownBlock = some g ∨ v1'.ownBlock = some g → w.heap.size ≤ g ∨ v0.ownBlock = some g ∨ v1.ownBlock = some g
theorem own_bytes {w : World} {S : Nat → Nat → Prop} {v : Value} {x : List UInt8} {us : List Value} (hr : RepP w S (.sl (bytesAV x) .no) v) (ho : w.ownsRow 0 5 1 v x.length us) : w.ownsRow 0 5 1 v x.length (x.map bv) := by
  have hu : us = x.map bv := by
    have hl : us.length = x.length := by have := ho.1; omega
    rcases ho.2 with ⟨rfl, h0⟩ | ⟨g, cap, cur, rfl, hb, hg, h1, h2, h3, h4⟩
    · have h1 : x = [] := List.length_eq_zero_iff.1 h0
      have h2 : us = [] := List.length_eq_zero_iff.1 (by omega)
      rw [h1, h2]; rfl
    · obtain ⟨A, c, e, hc1, hc2, hrd⟩ := rd_of hr
      have ec : A = some ⟨g, 0, none⟩ := by cases e; rfl
      subst ec
      apply List.ext_getElem?
      intro i
      by_cases hi : i < x.length
      · have hc := World.ownsRow.cellAt ho i (by omega)
        rw [← hc]
        rcases hrd with hn | ⟨b, off, e1, _, h5⟩
        · have h0 : x = [] := by simpa using hn
          subst h0
          exact absurd hi (Nat.not_lt_zero _)
        · cases e1
          have hx : (x.map bv)[i]? = some (bv x[i]) := by simp [List.getElem?_eq_getElem hi]
          rw [hx]
          have := h5 i _ hx
          rwa [Nat.zero_add] at this
      · rw [List.getElem?_eq_none (by omega), List.getElem?_eq_none (by simp; omega)]
  rw [← hu]; exact ho
theorem exit_rows (d' : DV) (val : AV) (hv : val.cellsT.all (fun c => (rowOf c).isNone) = true) (x y : Nat) : (exitSt 1 (some (0, 0)) ⟨val, some d'.av, none⟩).rows x y = if x = 1 ∧ y = 3 then .live (bytesAV d'.x1).length else if x = 1 ∧ y = 1 then .live (bytesAV d'.x0).length else .free := by
  have hn : ∀ (n : Nat) (l : List AV), l.all (fun c => (rowOf c).isNone) = true → retRows 1 n l = [] := by
    intro n l
    induction l generalizing n with
    | nil => intro _; rfl
    | cons c l ih =>
      intro h
      simp only [List.all_cons, Bool.and_eq_true] at h
      unfold retRows
      rw [ih _ h.2]
      cases hc : rowOf c with
      | none => rfl
      | some t => rw [hc] at h; cases h.1
  simp only [exitSt, Res.outs, Option.getD_some, Option.getD_none, List.append_nil, DV.av, List.cons_append, List.nil_append, retRows, rowOf, hn _ _ hv, updRows, upd2]
  by_cases h1 : x = 1 ∧ y = 3
  · obtain ⟨rfl, rfl⟩ := h1; rfl
  · by_cases h2 : x = 1 ∧ y = 1
    · obtain ⟨rfl, rfl⟩ := h2; rfl
    · rw [if_neg h1, if_neg h2]
      have e1 : (x == 1 && y == 3) = false := by simpa using fun h h' => h1 ⟨h, h'⟩
      have e2 : (x == 1 && y == 1) = false := by simpa using fun h h' => h2 ⟨h, h'⟩
      simp [e1, e2]
theorem disk_back {w w' : World} {D : Nat} {d d' : DV} {v0 v1 v : Value} {GX : Gh} {val : AV} (hv : val.cellsT.all (fun c => (rowOf c).isNone) = true)
    (hB : Back Try.prog w (ownD D d.x0.length d.x1.length v0 v1) (ghD D v0 v1) 1 (some (0, 0)) ⟨val, some d'.av, none⟩ GX v w') :
    ∃ v0' v1', DiskAt w' D d' v0' v1' ∧ Touch w D v0 v1 w' v0' v1' ∧ Rep Try.prog (exitSt 1 (some (0, 0)) ⟨val, some d'.av, none⟩) GX w' (retVal (some (0, 0)) 1 8 val) v := by
  have hbx : GX.bx 0 = D := hB.bx 0 0 rfl
  have hboxes : (exitSt 1 (some (0, 0)) ⟨val, some d'.av, none⟩).boxes 0 = some (retCells 1 0 d'.av) := rfl
  have rows := exit_rows d' val hv
  have r1 : (exitSt 1 (some (0, 0)) ⟨val, some d'.av, none⟩).rows 1 1 = .live d'.x0.length := by rw [rows, if_neg (by omega), if_pos ⟨rfl, rfl⟩, bytesAV_len]
  have r3 : (exitSt 1 (some (0, 0)) ⟨val, some d'.av, none⟩).rows 1 3 = .live d'.x1.length := by rw [rows, if_pos ⟨rfl, rfl⟩, bytesAV_len]
  obtain ⟨us, t, ht, h8, hus⟩ := hB.mem.box 0 _ hboxes
  rw [hbx] at ht
  have i64 : ∀ {S : Nat → Nat → Prop} {n : Int} {u : Value}, RepP w' S (.int .i64 n) u → u = .int .i64 n ∧ i64ok n := by
    intro S n u h
    cases h with
    | int k n h1 h2 => exact ⟨rfl, by simp [IntKind.min, IntKind.signed, IntKind.bits] at h1; omega, by simp [IntKind.max, IntKind.signed, IntKind.bits] at h2; omega⟩
  obtain ⟨_, u0, e0, p0⟩ := hus 0 _ rfl
  obtain ⟨_, u1, e1, p1⟩ := hus 1 _ rfl
  obtain ⟨_, u2, e2, p2⟩ := hus 2 _ rfl
  obtain ⟨_, u3, e3, p3⟩ := hus 3 _ rfl
  obtain ⟨_, u4, e4, p4⟩ := hus 4 _ rfl
  obtain ⟨_, u5, e5, p5⟩ := hus 5 _ rfl
  obtain ⟨_, u6, e6, p6⟩ := hus 6 _ rfl
  obtain ⟨_, u7, e7, p7⟩ := hus 7 _ rfl
  obtain ⟨rfl, k0⟩ := i64 p0
  obtain ⟨rfl, k2⟩ := i64 p2
  obtain ⟨rfl, k4⟩ := i64 p4
  obtain ⟨rfl, k6⟩ := i64 p6
  obtain rfl : u5 = .bool d'.ar := by cases (p5 : RepP _ _ (.bool d'.ar) u5); rfl
  obtain rfl : u7 = .bool d'.dn := by cases (p7 : RepP _ _ (.bool d'.dn) u7); rfl
  obtain ⟨q1, q1'⟩ := (p1 : RepP _ _ (.sl (bytesAV d'.x0) .no) u1 ∧ _)
  obtain ⟨q3, q3'⟩ := (p3 : RepP _ _ (.sl (bytesAV d'.x1) .no) u3 ∧ _)
  rw [r1] at q1'
  rw [r3] at q3'
  have v1e : u1 = GX.cv 1 1 := q1'.2.2 (bytesAV_len _)
  have v3e : u3 = GX.cv 1 3 := q3'.2.2 (bytesAV_len _)
  have t1 : GX.et 1 1 = 5 := q1'.1.symm
  have t3 : GX.et 1 3 = 5 := q3'.1.symm
  obtain ⟨_, z1, o1⟩ := hB.mem.row 1 1 _ r1
  obtain ⟨_, z3, o3⟩ := hB.mem.row 1 3 _ r3
  rw [t1, tsize_u8, ← v1e] at o1
  rw [t3, tsize_u8, ← v3e] at o3
  have b0 : u1.ownBlock ≠ some D := by have := hB.mem.brow 0 _ 1 1 _ hboxes r1; rw [← v1e, hbx] at this; exact this
  have b1 : u3.ownBlock ≠ some D := by have := hB.mem.brow 0 _ 1 3 _ hboxes r3; rw [← v3e, hbx] at this; exact this
  refine ⟨u1, u3, ⟨⟨us, t, ht, h8, ?_⟩, own_bytes q1 o1, own_bytes q3 o3, b0, b1, ?_, k0, k2, k4, k6⟩, ⟨hB.pres.os, hB.pres.tape, hB.pres.output, hB.pres.size, ?_, ?_⟩, hB.val⟩
  · intro i u hu
    match i, hu with
    | 0, hu => obtain rfl := (Option.some.inj hu).symm; exact e0
    | 1, hu => obtain rfl := (Option.some.inj hu).symm; exact e1
    | 2, hu => obtain rfl := (Option.some.inj hu).symm; exact e2
    | 3, hu => obtain rfl := (Option.some.inj hu).symm; exact e3
    | 4, hu => obtain rfl := (Option.some.inj hu).symm; exact e4
    | 5, hu => obtain rfl := (Option.some.inj hu).symm; exact e5
    | 6, hu => obtain rfl := (Option.some.inj hu).symm; exact e6
    | 7, hu => obtain rfl := (Option.some.inj hu).symm; exact e7
    | i + 8, hu => simp [DV.vals] at hu
  · intro g hg hg'
    have := hB.mem.rinj 1 1 _ 1 3 _ g r1 r3 (by rw [← v1e]; exact hg) (by rw [← v3e]; exact hg')
    omega
  · intro b hb h1 h2 h3
    refine hB.pres.block b hb ?_
    show (if b = D then some 0 else if v0.ownBlock = some b then some d.x0.length else if v1.ownBlock = some b then some d.x1.length else none) = none
    rw [if_neg h1, if_neg h2, if_neg h3]
  · intro g hg
    have key : ∀ t, (ownD D d.x0.length d.x1.length v0 v1) g = some t → g ≠ D → v0.ownBlock = some g ∨ v1.ownBlock = some g := by
      intro t ht hne
      have ht' : (if g = D then some 0 else if v0.ownBlock = some g then some d.x0.length else if v1.ownBlock = some g then some d.x1.length else none) = some t := ht
      rw [if_neg hne] at ht'
      split at ht'
      · rename_i h; exact .inl h
      · split at ht'
        · rename_i h; exact .inr h
        · cases ht'
    rcases hg with hg | hg
    · rcases hB.orow 1 1 _ g r1 (by rw [← v1e]; exact hg) with h | ⟨t, h, _⟩
      · exact .inl h
      · exact .inr (key t h (fun e => b0 (e ▸ hg)))
    · rcases hB.orow 1 3 _ g r3 (by rw [← v3e]; exact hg) with h | ⟨t, h, _⟩
      · exact .inl h
      · exact .inr (key t h (fun e => b1 (e ▸ hg)))
end Go.Proofs.Ytddilmocngedjaa
