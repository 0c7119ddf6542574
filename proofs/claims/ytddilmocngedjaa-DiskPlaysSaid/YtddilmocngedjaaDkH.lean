/- A step's memory: the disk, the document's disk as a value, and the step's own boxes. -/
import Derived.Test.YtddilmocngedjaaDkG
namespace Go.Proofs.Ytddilmocngedjaa
set_option linter.unusedVariables false
set_option linter.unusedSimpArgs false
open Go Go.Proofs Go.RowKit Go.Lib
/-- cells that lie apart from a disk, and from some blocks -/
def Apart (D : Nat) (v0 v1 : Value) (L : List Nat) (g o : Nat) : Prop := g ≠ D ∧ v0.ownBlock ≠ some g ∧ v1.ownBlock ≠ some g ∧ g ∉ L
def refC (d : DV) (A0 A1 : Option Addr) (c0 c1 : Nat) : Array Value := refV d.sz (.slice A0 d.x0.length c0) (.slice A1 d.x1.length c1) d.s0 d.s1 (limD d.ar d.un) d.dn
theorem bytes_slice {w : World} {S : Nat → Nat → Prop} {l : List UInt8} {v : Value} (h : RepP w S (.sl (bytesAV l) .no) v) : ∃ A c, v = .slice A l.length c ∧ l.length ≤ c ∧ c ≤ maxLen := by
  generalize hx : bytesAV l = xs at h
  have hl : xs.length = l.length := by rw [← hx, bytesAV_len]
  cases h with
  | slnil _ a cap h0 => exact ⟨a, cap, by rw [← hl]; rfl, by rw [← hl]; exact Nat.zero_le _, h0⟩
  | sl _ _ b off cap size us hc hm hsz hS hr => exact ⟨_, cap, by rw [← hl], by omega, hm⟩
theorem ref_open {w : World} {S : Nat → Nat → Prop} {d : DV} {v : Value} (h : RepV1 w S (.agg (refA d)) v) : ∃ A0 A1 c0 c1, v = .agg (refC d A0 A1 c0 c1) ∧ d.x0.length ≤ c0 ∧ d.x1.length ≤ c1 ∧
    RepP w S (.sl (bytesAV d.x0) .no) (.slice A0 d.x0.length c0) ∧ RepP w S (.sl (bytesAV d.x1) .no) (.slice A1 d.x1.length c1) := by
  obtain ⟨us, rfl, hs, hc⟩ := h
  obtain ⟨_, u0, e0, p0⟩ := hc 0 _ rfl
  obtain ⟨_, u1, e1, p1⟩ := hc 1 _ rfl
  obtain ⟨_, u2, e2, p2⟩ := hc 2 _ rfl
  obtain ⟨_, u3, e3, p3⟩ := hc 3 _ rfl
  obtain ⟨_, u4, e4, p4⟩ := hc 4 _ rfl
  obtain ⟨_, u5, e5, p5⟩ := hc 5 _ rfl
  obtain ⟨_, u6, e6, p6⟩ := hc 6 _ rfl
  obtain ⟨A0, c0, rfl, l0, _⟩ := bytes_slice p1
  obtain ⟨A1, c1, rfl, l1, _⟩ := bytes_slice p2
  refine ⟨A0, A1, c0, c1, ?_, l0, l1, p1, p2⟩
  congr 1
  have hs : us.size = 7 := hs
  apply Array.ext_getElem?
  intro i
  match i with
  | 0 => rw [e0]; cases p0; rfl
  | 1 => rw [e1]; rfl
  | 2 => rw [e2]; rfl
  | 3 => rw [e3]; cases p3; rfl
  | 4 => rw [e4]; cases p4; rfl
  | 5 => rw [e5]; cases p5; rfl
  | 6 => rw [e6]; cases p6; rfl
  | i + 7 => rw [Array.getElem?_eq_none (by omega), Array.getElem?_eq_none (by show 7 ≤ i + 7; omega)]
theorem ref_close {w : World} {S : Nat → Nat → Prop} {d : DV} {A0 A1 : Option Addr} {c0 c1 : Nat} (o : i64ok d.sz ∧ i64ok d.s0 ∧ i64ok d.s1 ∧ i64ok (limD d.ar d.un)) (p1 : RepP w S (.sl (bytesAV d.x0) .no) (.slice A0 d.x0.length c0)) (p2 : RepP w S (.sl (bytesAV d.x1) .no) (.slice A1 d.x1.length c1)) :
    RepV1 w S (.agg (refA d)) (.agg (refC d A0 A1 c0 c1)) := by
  have i64 : ∀ n, i64ok n → RepP w S (.int .i64 n) (.int .i64 n) := fun n hn => RepP.int .i64 n (by have := hn.1; simp [IntKind.min, IntKind.signed, IntKind.bits]; omega) (by have := hn.2; simp [IntKind.max, IntKind.signed, IntKind.bits]; omega)
  obtain ⟨o1, o2, o3, o4⟩ := o
  refine ⟨_, rfl, rfl, fun i c hc => ?_⟩
  match i, hc with
  | 0, hc => obtain rfl := (Option.some.inj hc).symm; exact ⟨rfl, _, rfl, i64 _ o1⟩
  | 1, hc => obtain rfl := (Option.some.inj hc).symm; exact ⟨rfl, _, rfl, p1⟩
  | 2, hc => obtain rfl := (Option.some.inj hc).symm; exact ⟨rfl, _, rfl, p2⟩
  | 3, hc => obtain rfl := (Option.some.inj hc).symm; exact ⟨rfl, _, rfl, i64 _ o2⟩
  | 4, hc => obtain rfl := (Option.some.inj hc).symm; exact ⟨rfl, _, rfl, i64 _ o3⟩
  | 5, hc => obtain rfl := (Option.some.inj hc).symm; exact ⟨rfl, _, rfl, i64 _ o4⟩
  | 6, hc => obtain rfl := (Option.some.inj hc).symm; exact ⟨rfl, _, rfl, RepP.bool _⟩
  | i + 7, hc => simp [refA] at hc
theorem cell_lt {w : World} {g o : Nat} {u : Value} (h : w.cell? ⟨g, o, none⟩ = some u) : g < w.heap.size := by
  rcases Nat.lt_or_ge g w.heap.size with hlt | hge
  · exact hlt
  · have : w.heap[g]? = none := Array.getElem?_eq_none hge
    simp [World.cell?, this] at h
theorem cell_same {w w' : World} {g o : Nat} (h : w'.heap[g]? = w.heap[g]?) : w'.cell? ⟨g, o, none⟩ = w.cell? ⟨g, o, none⟩ := by
  simp [World.cell?, h]
theorem DiskAt.rows_lt {w : World} {D : Nat} {d : DV} {v0 v1 : Value} (h : DiskAt w D d v0 v1) {g : Nat} (hg : v0.ownBlock = some g ∨ v1.ownBlock = some g) : g < w.heap.size := by
  rcases hg with hg | hg
  · exact (h.r0.lt _ hg).2
  · exact (h.r1.lt _ hg).2
theorem DiskAt.far {w : World} {D : Nat} {d : DV} {v0 v1 : Value} (h : DiskAt w D d v0 v1) {g i : Nat} {u : Value} (h1 : g ≠ D) (h2 : v0.ownBlock ≠ some g) (h3 : v1.ownBlock ≠ some g) : DiskAt (w.setCell ⟨g, i, none⟩ u) D d v0 v1 := by
  obtain ⟨us, t, ht, h8, hus⟩ := h.box
  exact ⟨⟨us, t, (Below.heap_setCell w ⟨g, i, none⟩ u D (Ne.symm h1)).trans ht, h8, hus⟩, own_other h.r0 h2, own_other h.r1 h3, h.a0, h.a1, h.a2, h.ok⟩
theorem Touch.past {w w' w'' : World} {D : Nat} {v0 v1 v0' v1' : Value} (h : Touch w D v0 v1 w' v0' v1') (hb : Below w.heap.size w' w'') (hs : w'.heap.size ≤ w''.heap.size) : Touch w D v0 v1 w'' v0' v1' :=
  ⟨hb.os.trans h.os, hb.tape.trans h.tape, hb.output.trans h.output, Nat.le_trans h.size hs, fun b h0 h1 h2 h3 => (hb.block b h0).trans (h.block b h0 h1 h2 h3), h.row⟩
/-- what was apart from the disk is as it was, and still apart -/
theorem Touch.rep {w w' : World} {D : Nat} {v0 v1 v0' v1' : Value} (h : Touch w D v0 v1 w' v0' v1') {L : List Nat} {b o : Nat} {u : Value} (hb : Apart D v0 v1 L b o) (hu : w.cell? ⟨b, o, none⟩ = some u) : Apart D v0' v1' L b o ∧ w'.cell? ⟨b, o, none⟩ = some u := by
  have hlt := cell_lt hu
  refine ⟨⟨hb.1, fun e => ?_, fun e => ?_, hb.2.2.2⟩, (cell_same (h.block b hlt hb.1 hb.2.1 hb.2.2.1)).trans hu⟩
  · rcases h.row b (.inl e) with h1 | h1 | h1
    · omega
    · exact hb.2.1 h1
    · exact hb.2.2.1 h1
  · rcases h.row b (.inr e) with h1 | h1 | h1
    · omega
    · exact hb.2.1 h1
    · exact hb.2.2.1 h1
/-- a step's world: w as it began, the step's three boxes from w's end on -/
structure StepAt (w W : World) (D : Nat) (d : DV) (v0 v1 v0' v1' : Value) (L : List Nat) (dx : DV) (xv : Value) (cs0 cs1 cs2 : Array Value) : Prop where
  at' : DiskAt W D d v0' v1'
  touch : Touch w D v0 v1 W v0' v1'
  ref : RepV1 W (Apart D v0' v1' (w.heap.size :: (w.heap.size + 1) :: (w.heap.size + 1 + 1) :: L)) (.agg (refA dx)) xv
  b0 : Blk W w.heap.size 40 cs0
  b1 : Blk W (w.heap.size + 1) 37 cs1
  b2 : Blk W (w.heap.size + 1 + 1) 40 cs2
  n0 : w.heap.size ≠ D ∧ v0'.ownBlock ≠ some w.heap.size ∧ v1'.ownBlock ≠ some w.heap.size
  n1 : w.heap.size + 1 ≠ D ∧ v0'.ownBlock ≠ some (w.heap.size + 1) ∧ v1'.ownBlock ≠ some (w.heap.size + 1)
  n2 : w.heap.size + 1 + 1 ≠ D ∧ v0'.ownBlock ≠ some (w.heap.size + 1 + 1) ∧ v1'.ownBlock ≠ some (w.heap.size + 1 + 1)
section
variable {w W : World} {D : Nat} {d : DV} {v0 v1 v0' v1' : Value} {L : List Nat} {dx : DV} {xv : Value} {cs0 cs1 cs2 : Array Value}
theorem StepAt.set0 (h : StepAt w W D d v0 v1 v0' v1' L dx xv cs0 cs1 cs2) (i : Nat) (u : Value) : StepAt w (W.setCell ⟨w.heap.size, i, none⟩ u) D d v0 v1 v0' v1' L dx xv (cs0.setIfInBounds i u) cs1 cs2 := by
  refine ⟨h.at'.far h.n0.1 h.n0.2.1 h.n0.2.2, h.touch.past ((Below.refl _ _).setCell (p := ⟨w.heap.size, i, none⟩) (Nat.le_refl _) u) (by rw [Sort.setCell_eq]; simp [Sort.mapBlock]), ?_, h.b0.put i u, h.b1.far (by show w.heap.size + 1 ≠ w.heap.size; omega) u, h.b2.far (by show w.heap.size + 1 + 1 ≠ w.heap.size; omega) u, h.n0, h.n1, h.n2⟩
  refine h.ref.mono fun b o u' hb hu => ⟨hb, (cell_same (Below.heap_setCell W ⟨w.heap.size, i, none⟩ u b ?_)).trans hu⟩
  rintro rfl
  exact hb.2.2.2 (by simp)
theorem StepAt.set2 (h : StepAt w W D d v0 v1 v0' v1' L dx xv cs0 cs1 cs2) (i : Nat) (u : Value) : StepAt w (W.setCell ⟨w.heap.size + 1 + 1, i, none⟩ u) D d v0 v1 v0' v1' L dx xv cs0 cs1 (cs2.setIfInBounds i u) := by
  refine ⟨h.at'.far h.n2.1 h.n2.2.1 h.n2.2.2, h.touch.past ((Below.refl _ _).setCell (p := ⟨w.heap.size + 1 + 1, i, none⟩) (by show w.heap.size ≤ w.heap.size + 1 + 1; omega) u) (by rw [Sort.setCell_eq]; simp [Sort.mapBlock]), ?_, h.b0.far (by show w.heap.size ≠ w.heap.size + 1 + 1; omega) u, h.b1.far (by show w.heap.size + 1 ≠ w.heap.size + 1 + 1; omega) u, h.b2.put i u, h.n0, h.n1, h.n2⟩
  refine h.ref.mono fun b o u' hb hu => ⟨hb, (cell_same (Below.heap_setCell W ⟨w.heap.size + 1 + 1, i, none⟩ u b ?_)).trans hu⟩
  rintro rfl
  exact hb.2.2.2 (by simp)
/-- the step begins -/
theorem StepAt.start (h : DiskAt w D d v0 v1) (hx : RepV1 w (Apart D v0 v1 L) (.agg (refA dx)) xv) (hb : Below w.heap.size w W) (b0 : Blk W w.heap.size 40 cs0) (b1 : Blk W (w.heap.size + 1) 37 cs1) (b2 : Blk W (w.heap.size + 1 + 1) 40 cs2) :
    StepAt w W D d v0 v1 v0 v1 L dx xv cs0 cs1 cs2 := by
  have hl := h.lt
  have hr := @DiskAt.rows_lt _ _ _ _ _ h
  refine ⟨h.below hb, Touch.of_below hb, hx.mono fun b o u hbo hu => ?_, b0, b1, b2, ⟨by omega, fun e => ?_, fun e => ?_⟩, ⟨by omega, fun e => ?_, fun e => ?_⟩, ⟨by omega, fun e => ?_, fun e => ?_⟩⟩
  · have hlt := cell_lt hu
    refine ⟨⟨hbo.1, hbo.2.1, hbo.2.2.1, ?_⟩, (cell_same (hb.block b hlt)).trans hu⟩
    intro hm
    simp only [List.mem_cons] at hm
    rcases hm with e | e | e | e
    · omega
    · omega
    · omega
    · exact hbo.2.2.2 e
  · have := hr (.inl e); omega
  · have := hr (.inr e); omega
  · have := hr (.inl e); omega
  · have := hr (.inr e); omega
  · have := hr (.inl e); omega
  · have := hr (.inr e); omega
/-- behind a call on the disk -/
theorem StepAt.disk {W' : World} {d' : DV} {v0'' v1'' : Value} (h : StepAt w W D d v0 v1 v0' v1' L dx xv cs0 cs1 cs2) (h1 : DiskAt W' D d' v0'' v1'') (ht : Touch W D v0' v1' W' v0'' v1'') : StepAt w W' D d' v0 v1 v0'' v1'' L dx xv cs0 cs1 cs2 := by
  have far : ∀ g, g < W.heap.size → (g ≠ D ∧ v0'.ownBlock ≠ some g ∧ v1'.ownBlock ≠ some g) → g ≠ D ∧ v0''.ownBlock ≠ some g ∧ v1''.ownBlock ≠ some g := fun g hg hn => by
    refine ⟨hn.1, fun e => ?_, fun e => ?_⟩
    · rcases ht.row g (.inl e) with h4 | h4 | h4
      · omega
      · exact hn.2.1 h4
      · exact hn.2.2 h4
    · rcases ht.row g (.inr e) with h4 | h4 | h4
      · omega
      · exact hn.2.1 h4
      · exact hn.2.2 h4
  exact ⟨h1, h.touch.trans ht, h.ref.mono fun b o u hb hu => ht.rep hb hu, (ht.block _ h.b0.lt h.n0.1 h.n0.2.1 h.n0.2.2).trans h.b0, (ht.block _ h.b1.lt h.n1.1 h.n1.2.1 h.n1.2.2).trans h.b1, (ht.block _ h.b2.lt h.n2.1 h.n2.2.1 h.n2.2.2).trans h.b2,
    far _ h.b0.lt h.n0, far _ h.b1.lt h.n1, far _ h.b2.lt h.n2⟩
/-- what a call of the document's must leave alone -/
def StepBad (w W : World) (D : Nat) (v0 v1 : Value) (L : List Nat) (g o : Nat) : Prop := g < W.heap.size ∧ ¬ Apart D v0 v1 (w.heap.size :: (w.heap.size + 1) :: (w.heap.size + 1 + 1) :: L) g o
theorem StepAt.good_rep (h : StepAt w W D d v0 v1 v0' v1' L dx xv cs0 cs1 cs2) {v : AV} {u : Value} (hv : RepV1 W (Apart D v0' v1' (w.heap.size :: (w.heap.size + 1) :: (w.heap.size + 1 + 1) :: L)) v u) : RepV1 W (fun b o => ¬ StepBad w W D v0' v1' L b o) v u :=
  hv.mono fun b o u hb hu => ⟨fun hn => hn.2 hb, hu⟩
/-- behind a call of the document's -/
theorem StepAt.call {W' : World} {dy : DV} {yv : Value} (h : StepAt w W D d v0 v1 v0' v1' L dx xv cs0 cs1 cs2) (hL : ∀ x ∈ L, x < W.heap.size) (hb : Below W.heap.size W W') (hv : RepV1 W' (fun b o => ¬ StepBad w W D v0' v1' L b o) (.agg (refA dy)) yv) : StepAt w W' D d v0 v1 v0' v1' L dy yv cs0 cs1 cs2 := by
  refine ⟨h.at'.below hb, h.touch.past (hb.mono h.touch.size) hb.size, hv.mono fun b o u hn hu => ⟨?_, hu⟩, h.b0.below hb h.b0.lt, h.b1.below hb h.b1.lt, h.b2.below hb h.b2.lt, h.n0, h.n1, h.n2⟩
  by_cases hlt : b < W.heap.size
  · exact Classical.byContradiction fun hc => hn ⟨hlt, hc⟩
  · refine ⟨fun e => ?_, fun e => ?_, fun e => ?_, fun hm => ?_⟩
    · have := h.at'.lt; omega
    · have := h.at'.rows_lt (.inl e); omega
    · have := h.at'.rows_lt (.inr e); omega
    · have b0 := h.b0.lt
      have b1 := h.b1.lt
      have b2 := h.b2.lt
      simp only [List.mem_cons] at hm
      rcases hm with e | e | e | e
      · omega
      · omega
      · omega
      · have := hL b e; omega
end
theorem results_cell_row_tmp {P : Program} {fn : Func} {p u : Tmp} {ty : TypeId} (h : fn.results = #[.cell p ty, .tmp u]) (tmps : Array Value) (w : World) (g : Nat) (t : TypeId) (cs : Array Value) (fr : Nat × Nat) (d : TypeDesc)
    (hp : tmps.getD p undef = .pointer (some ⟨g, 0, none⟩)) (hg : w.heap[g]? = some (.cells cs t fr))
    (hu : P.underlying ty = some d) (hd : (match d with | .struct _ | .array _ _ => true | _ => false) = true) (hi : (P.info? ty).map (·.size) = some cs.size) :
    (results fn tmps).run P w = .ok (.tuple #[.agg cs, tmps.getD u undef]) w := by
  rw [results_cell_tmp h, hp]
  simp [asAddr, run_loadVar_row w g t ty cs fr d hg hu hd hi]
end Go.Proofs.Ytddilmocngedjaa
