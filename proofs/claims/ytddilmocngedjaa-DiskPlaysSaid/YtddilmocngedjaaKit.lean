/- Words of this seat's proofs on memory: a slice's cells as a list (`Rd`), a row of the call's own bytes (`OwnB`), append onto it. Nothing of the program's meaning is said here. -/
import Derived.Test.YtddilmocngedjaaRows
import Derived.WalkKit
import Derived.ProofKit
import Derived.Handy
import Derived.Lib.Hide
import Derived.Maps.AppendAt
import Derived.Laws.OwnMore
import Derived.WalkSpells
import Derived.WalkLawsBesides
import Derived.Deep.QuietTactic
import Derived.BigQuiet
namespace Go.Proofs.Ytddilmocngedjaa
set_option linter.unusedVariables false
open Go.RowKit

theorem own_knob : ownKnob Try.prog.godebug = none := by kernel_rfl
theorem laid_out : laidOutB Try.prog = true := by kernel_rfl

theorem add_block (a : Addr) (n : Nat) : (a.add n).block = a.block := by unfold Addr.add; split <;> rfl
theorem add_add (a : Addr) (i j : Nat) : (a.add i).add j = a.add (i + j) := by
  unfold Addr.add
  by_cases hi : i = 0 <;> by_cases hj : j = 0 <;> simp [hi, hj, Nat.add_assoc]

theorem bel_drewN {B : Nat} {a w : World} (h : Below B a w) (n : Nat) : Below B a (w.drewN n) := ⟨h.os, h.tape, h.output, h.size, h.block⟩
theorem ret_int {k : IntKind} {a b : Int} (h : a = b) : Ending.returned (.int k a) = Ending.returned (.int k b) := by rw [h]
theorem ret_bool {a b : Bool} (h : a = b) : Ending.returned (.bool a) = Ending.returned (.bool b) := by rw [h]

/-- Block g is just the cells cs. -/
def Blk (w : World) (g : Nat) (t : TypeId) (cs : Array Value) : Prop := w.heap[g]? = some (.cells cs t (0, 0))
section
variable {w w' : World} {g : Nat} {t : TypeId} {cs : Array Value}
theorem Blk.lt (h : Blk w g t cs) : g < w.heap.size := by
  unfold Blk at h
  rcases Nat.lt_or_ge g w.heap.size with hlt | hge
  · exact hlt
  · rw [Array.getElem?_eq_none hge] at h; cases h
theorem Blk.cell (h : Blk w g t cs) (i : Nat) {v : Value} (hv : cs[i]? = some v) : w.cell? ⟨g, i, none⟩ = some v := (cell_of_row w g i cs t (0, 0) h).trans hv
theorem Blk.free (h : Blk w g t cs) (i : Nat) : w.frozen? ⟨g, i, none⟩ = false := by
  unfold Blk at h
  simp [World.frozen?, h]
theorem Blk.new (w : World) (t : TypeId) (cs : Array Value) : Blk (w.alloc (.cells cs t)) w.heap.size t cs := heap_alloc_new w _
theorem Blk.drew (h : Blk w g t cs) : Blk w.drew g t cs := h
theorem Blk.drewN (h : Blk w g t cs) (n : Nat) : Blk (w.drewN n) g t cs := h
theorem Blk.alloc (h : Blk w g t cs) (o : Obj) : Blk (w.alloc o) g t cs := (Below.heap_alloc w o g h.lt).trans h
theorem Blk.put (h : Blk w g t cs) (i : Nat) (u : Value) : Blk (w.setCell ⟨g, i, none⟩ u) g t (cs.setIfInBounds i u) := by
  unfold Blk at h ⊢
  simp [World.setCell, Array.getElem?_modify, h]
theorem Blk.far (h : Blk w g t cs) {p : Addr} (hp : g ≠ p.block) (u : Value) : Blk (w.setCell p u) g t cs := (Below.heap_setCell w p u g hp).trans h
theorem Blk.below {B : Nat} (h : Blk w g t cs) (hb : Below B w w') (hg : g < B) : Blk w' g t cs := (hb.block g hg).trans h
end

theorem box1 (w : World) (t : TypeId) (cs : Array Value) : ∃ W, W = w.alloc (.cells cs t) ∧ Blk W w.heap.size t cs ∧ Below w.heap.size w W ∧ w.heap.size < W.heap.size :=
  ⟨_, rfl, Blk.new _ _ _, (Below.refl _ _).alloc (Nat.le_refl _) _, by simp⟩
theorem box2 (w : World) (t t' : TypeId) (cs cs' : Array Value) : ∃ W, W = (w.alloc (.cells cs t)).alloc (.cells cs' t') ∧ Blk W w.heap.size t cs ∧ Blk W (w.heap.size + 1) t' cs' ∧ Below w.heap.size w W ∧ w.heap.size + 1 < W.heap.size :=
  ⟨_, rfl, (Blk.new _ _ _).alloc _, by simpa using Blk.new (w.alloc (.cells cs t)) t' cs', ((Below.refl _ _).alloc (Nat.le_refl _) _).alloc (by simp) _, by simp⟩
theorem box3 (w : World) (t t' t'' : TypeId) (cs cs' cs'' : Array Value) : ∃ W, W = ((w.alloc (.cells cs t)).alloc (.cells cs' t')).alloc (.cells cs'' t'') ∧ Blk W w.heap.size t cs ∧ Blk W (w.heap.size + 1) t' cs' ∧ Blk W (w.heap.size + 1 + 1) t'' cs'' ∧
    Below w.heap.size w W ∧ w.heap.size + 1 + 1 < W.heap.size :=
  ⟨_, rfl, ((Blk.new _ _ _).alloc _).alloc _, (show Blk ((w.alloc (.cells cs t)).alloc (.cells cs' t')) (w.heap.size + 1) t' cs' by simpa using Blk.new (w.alloc (.cells cs t)) t' cs').alloc _, by simpa using Blk.new ((w.alloc (.cells cs t)).alloc (.cells cs' t')) t'' cs'',
    (((Below.refl _ _).alloc (Nat.le_refl _) _).alloc (by simp) _).alloc (by simp; omega) _, by simp⟩
/-- one more block, of one's own, in a world that is known by what lies in it -/
theorem boxOn {w W : World} (hb : Below w.heap.size w W) (t : TypeId) (cs : Array Value) : ∃ W', W' = W.alloc (.cells cs t) ∧ Blk W' W.heap.size t cs ∧ Below W.heap.size W W' ∧ Below w.heap.size w W' ∧ W.heap.size < W'.heap.size :=
  ⟨_, rfl, Blk.new _ _ _, (Below.refl _ _).alloc (Nat.le_refl _) _, hb.alloc hb.size _, by simp⟩
theorem cell_past {w : World} {a : Addr} {v : Value} (o : Obj) (h : w.cell? a = some v) : (w.alloc o).cell? a = some v := by
  have hlt : a.block < w.heap.size := World.block_lt_of_cell? w _ h
  rw [World.cell?_alloc_lt w o a hlt]; exact h
theorem cell_drew {w : World} {a : Addr} {v : Value} (h : w.cell? a = some v) : w.drew.cell? a = some v := h
theorem cell_last1 (w : World) (cs : Array Value) (t : TypeId) (i : Nat) (v : Value) (h : cs[i]? = some v) : (w.alloc (.cells cs t)).cell? ⟨w.heap.size, i, none⟩ = some v := (Blk.new w t cs).cell i h
theorem cell_last2 (w : World) (o : Obj) (cs : Array Value) (t : TypeId) (i : Nat) (v : Value) (h : cs[i]? = some v) : ((w.alloc o).alloc (.cells cs t)).cell? ⟨w.heap.size + 1, i, none⟩ = some v := by
  simpa using (Blk.new (w.alloc o) t cs).cell i h
theorem cell_last3 (w : World) (o o' : Obj) (cs : Array Value) (t : TypeId) (i : Nat) (v : Value) (h : cs[i]? = some v) : (((w.alloc o).alloc o').alloc (.cells cs t)).cell? ⟨w.heap.size + 1 + 1, i, none⟩ = some v := by
  simpa using (Blk.new ((w.alloc o).alloc o') t cs).cell i h
theorem cell_last4 (w : World) (o o' o'' : Obj) (cs : Array Value) (t : TypeId) (i : Nat) (v : Value) (h : cs[i]? = some v) : ((((w.alloc o).alloc o').alloc o'').alloc (.cells cs t)).cell? ⟨w.heap.size + 1 + 1 + 1, i, none⟩ = some v := by
  simpa using (Blk.new (((w.alloc o).alloc o').alloc o'') t cs).cell i h
theorem bel_next {w W W' : World} (hb : Below w.heap.size w W) (h : Below W.heap.size W W') : Below w.heap.size w W' := hb.trans (h.mono hb.size)

/-- A byte's cell. -/
def bv (b : UInt8) : Value := .int .u8 (b.toNat : Int)
theorem bv_one {l : List UInt8} : ∀ u ∈ l.map bv, u.oneCell' = true := by
  intro u hu
  obtain ⟨b, _, rfl⟩ := List.mem_map.1 hu
  rfl

/-- The address A (none is fine where there is no cell) leads to the cells xs, in a block below B. -/
def Rd (w : World) (B : Nat) (A : Option Addr) (xs : List Value) : Prop :=
  xs = [] ∨ ∃ b off, A = some ⟨b, off, none⟩ ∧ b < B ∧ ∀ j u, xs[j]? = some u → w.cell? ⟨b, off + j, none⟩ = some u

section
variable {w w' : World} {B B' : Nat} {A : Option Addr} {xs : List Value}
theorem Rd.nil : Rd w B A [] := .inl rfl
/-- Where there is a cell the address is known, and every cell. -/
theorem Rd.open_ (h : Rd w B A xs) (hk : 0 < xs.length) : ∃ b off, A = some ⟨b, off, none⟩ ∧ b < B ∧ ∀ k (hk : k < xs.length), w.cell? ⟨b, off + k, none⟩ = some xs[k] := by
  rcases h with rfl | ⟨b, off, e, hb, hc⟩
  · simp at hk
  · exact ⟨b, off, e, hb, fun k hk => hc k _ (List.getElem?_eq_getElem hk)⟩
theorem Rd.keep (h : Rd w B A xs) (hk : ∀ p : Addr, p.block < B → w'.cell? p = w.cell? p) : Rd w' B A xs := by
  rcases h with rfl | ⟨b, off, e, hb, hc⟩
  · exact .inl rfl
  · exact .inr ⟨b, off, e, hb, fun j u hu => (hk _ hb).trans (hc j u hu)⟩
theorem Rd.more (h : Rd w B A xs) (hB : B ≤ B') : Rd w B' A xs := by
  rcases h with rfl | ⟨b, off, e, hb, hc⟩
  · exact .inl rfl
  · exact .inr ⟨b, off, e, by omega, hc⟩
theorem Rd.below (h : Rd w B A xs) {C : Nat} (hb : Below C w w') (hBC : B ≤ C) : Rd w' B A xs := h.keep fun _ hp => hb.cell (by omega)
theorem Rd.drew (h : Rd w B A xs) : Rd w.drew B A xs := h
theorem Rd.alloc (h : Rd w B A xs) (hB : B ≤ w.heap.size) (o : Obj) : Rd (w.alloc o) B A xs := h.keep fun p hp => World.cell?_alloc_lt w o p (by omega)
theorem Rd.cut (h : Rd w B A xs) {k n cap : Nat} (hn : xs.length = n) (hk : k ≤ n) (hc : n ≤ cap) :
    Rd w B (if cap = k then A else A.map (·.add k)) (xs.drop k) := by
  by_cases he : k = n
  · left; apply List.drop_eq_nil_of_le; omega
  · rcases h with rfl | ⟨b, off, rfl, hb, hcell⟩
    · simp at hn; omega
    · right
      rw [if_neg (by omega)]
      refine ⟨b, off + k, by by_cases h0 : k = 0 <;> simp [Addr.add, h0], hb, fun j u hu => ?_⟩
      rw [Nat.add_assoc]
      exact hcell _ u (by rw [← hu, List.getElem?_drop])
theorem Rd.take (h : Rd w B A xs) (k : Nat) : Rd w B A (xs.take k) := by
  rcases h with rfl | ⟨b, off, rfl, hb, hc⟩
  · left; simp
  · right
    refine ⟨b, off, rfl, hb, fun j u hu => hc j u ?_⟩
    rw [List.getElem?_take] at hu
    split at hu
    · exact hu
    · cases hu
theorem Rd.of_addr {ad : Addr} (hb : ad.block < B) (hc : ∀ j u, xs[j]? = some u → w.cell? (ad.add j) = some u) : Rd w B (some ad) xs := by
  rcases Nat.eq_zero_or_pos xs.length with h0 | h0
  · left; exact List.eq_nil_of_length_eq_zero h0
  · right
    obtain ⟨b, off, spot⟩ := ad
    have h1 := hc 0 _ (List.getElem?_eq_getElem h0)
    have hs : spot = none := by simpa [Addr.add] using World.cell?_spot h1
    subst hs
    refine ⟨b, off, rfl, hb, fun j u hu => ?_⟩
    have := hc j u hu
    by_cases hj : j = 0
    · subst hj; simpa [Addr.add] using this
    · simpa [Addr.add, hj] using this
theorem Rd.of_blk {g : Nat} {t : TypeId} {cs : Array Value} (h : Blk w g t cs) (hl : cs.toList = xs) (hB : g < B) : Rd w B (some ⟨g, 0, none⟩) xs := by
  subst hl
  refine .inr ⟨g, 0, rfl, hB, fun j u hu => ?_⟩
  rw [Nat.zero_add]
  exact h.cell j (by simpa using hu)
theorem Rd.of_own {base size n c : Nat} {e : TypeId} (h : w.ownsRow base e size (.slice A n c) n xs) : Rd w w.heap.size A xs := by
  rcases h.2 with ⟨hv, rfl⟩ | ⟨g, cap, cur, hv, h1, h2, h3⟩
  · exact .inl (List.eq_nil_of_length_eq_zero (by simpa using h.1))
  · injection hv with hA _ _
    subst hA
    exact Rd.of_addr (h.lt g rfl).2 (h.cells (g := g) rfl)
end

/-- The slice value v is a row of the call's own (blocks from base on), with the bytes l. -/
def OwnB (w : World) (base : Nat) (v : Value) (l : List UInt8) : Prop := w.ownsRow base 5 1 v l.length (l.map bv)

theorem info_u8 : (Try.prog.info? 5).map (fun i => (i.zero, i.size, i.bytes)) = some (some (.int .u8 0), 1, 1) := by kernel_rfl

section
variable {w w' : World} {base B : Nat} {v : Value} {l : List UInt8}
theorem OwnB.nil (w : World) (base : Nat) : OwnB w base (.slice none 0 0) [] := World.ownsRow_nil _ _ _ _
theorem OwnB.form (h : OwnB w base v l) : ∃ A c, v = .slice A l.length c ∧ Rd w w.heap.size A (l.map bv) ∧ l.length ≤ c ∧ c ≤ maxLen := by
  rcases h.2 with ⟨hv, hl⟩ | ⟨g, cap, cur, hv, h1, h2, h3⟩
  · have : l = [] := by simpa using hl
    subst this
    exact ⟨none, 0, hv, .inl rfl, by simp, by unfold maxLen; omega⟩
  · subst hv
    exact ⟨_, _, rfl, Rd.of_own h, h3.1, h3.2.1⟩
theorem OwnB.formN (h : OwnB w base v l) : ∃ A n c, v = .slice A n c ∧ n = l.length ∧ Rd w w.heap.size A (l.map bv) ∧ n ≤ c ∧ c ≤ 9223372036854775807 := by
  obtain ⟨A, c, rfl, h1, h2, h3⟩ := h.form
  exact ⟨A, _, c, rfl, rfl, h1, h2, by unfold maxLen at h3; omega⟩
theorem OwnB.formH (h : OwnB w base v l) : ∃ A n c, v = .slice A n c ∧ Hid (n = l.length) ∧ Rd w w.heap.size A (l.map bv) ∧ n ≤ c ∧ c ≤ 9223372036854775807 := h.formN
theorem OwnB.kept (h : OwnB w base v l) {row : Option Nat} (hg : w.grownBy w' row) (hne : v.ownBlock = none ∨ v.ownBlock ≠ row) : OwnB w' base v l := World.ownsRow.kept h hg hne
theorem OwnB.alloc (h : OwnB w base v l) (o : Obj) : OwnB (w.alloc o) base v l := World.ownsRow.alloc h o
theorem OwnB.drew (h : OwnB w base v l) : OwnB w.drew base v l := World.ownsRow.drew h
theorem grownBy_of_below (h : Below w.heap.size w w') (row : Option Nat) : w.grownBy w' row := ⟨h.os, h.tape, h.output, h.size, fun k hk _ => h.block k hk⟩
theorem OwnB.below (h : OwnB w base v l) (hb : Below w.heap.size w w') : OwnB w' base v l := by
  by_cases hn : v.ownBlock = none
  · exact h.kept (grownBy_of_below hb none) (.inl hn)
  · exact h.kept (grownBy_of_below hb none) (.inr hn)
theorem OwnB.lower (h : OwnB w base v l) {b : Nat} (hb : b ≤ base) : OwnB w b v l := by
  unfold OwnB World.ownsRow at h ⊢
  refine ⟨h.1, ?_⟩
  rcases h.2 with h0 | ⟨g, cap, cur, hv, h1, h2, h3⟩
  · exact .inl h0
  · exact .inr ⟨g, cap, cur, hv, by omega, h2, h3⟩
theorem Rd.one (w : World) (x : Value) (t : TypeId) : Rd (w.alloc (.cells #[x] t)) (w.heap.size + 1) (some ⟨w.heap.size, 0, none⟩) [x] :=
  Rd.of_addr (by simp) fun j u hu => cell_one_new w x t j u hu
theorem OwnB.below_base {w : World} {base : Nat} {v : Value} {l : List UInt8} (h : OwnB w base v l) {w' : World} (hg : w.grownBy w' v.ownBlock) (hbase : base ≤ w.heap.size) : Below base w w' :=
  (Below.refl _ _).grown hg hbase fun k hk => (World.ownsRow.lt h k hk).1

/-- append onto a row of the call's own bytes, whatever the source. -/
theorem run_apB (w : World) (ty : TypeId) (base : Nat) (v : Value) (l : List UInt8) (hown : OwnB w base v l) (B : Nat) (A : Option Addr) (m c : Nat) (l2 : List UInt8)
    (hr : Rd w B A (l2.map bv)) (hm : l2.length = m) (hlen : l.length + m ≤ 140737488355328) (hbase : base ≤ w.heap.size) :
    ∃ v' w', (Builtin.append_ #[22, 22] ty #[v, .slice A m c]).run Try.prog w = .ok v' w' ∧ OwnB w' base v' (l ++ l2) ∧ w.grownBy w' v.ownBlock ∧ (v'.ownBlock = v.ownBlock ∨ v'.ownBlock = some w.heap.size) := by
  obtain ⟨i0, hi0, hz0, hz1, hz2⟩ := info_parts info_u8
  have hnone : A = none → m = 0 := by
    rintro rfl
    rcases hr with h | ⟨_, _, h, _⟩
    · have := congrArg List.length h; simp at this; subst this; simpa using hm.symm
    · cases h
  cases A with
  | none =>
    have h0 := hnone rfl
    subst h0
    have hl2 : l2 = [] := List.eq_nil_of_length_eq_zero hm
    subst hl2
    refine ⟨v, w, ?_, by simpa using hown, World.grownBy.refl w _, .inl rfl⟩
    rcases hown.2 with ⟨rfl, _⟩ | ⟨g, cap, cur, rfl, _, _, hnc, _⟩
    · simp [Builtin.append_, run_underlying Try.underlying22, sizeOf, typeInfo, hi0, Builtin.lenOf, Builtin.firstCells]
    · simp [Builtin.append_, run_underlying Try.underlying22, sizeOf, typeInfo, hi0, Builtin.lenOf, Builtin.firstCells, hnc, storeCells]
  | some ad =>
    have hcells : ∀ j u, (l2.map bv)[j]? = some u → w.cell? (ad.add j) = some u := by
      rcases hr with h | ⟨b, off, h, _, hc⟩
      · intro j u hu; rw [h] at hu; simp at hu
      · injection h with h; subst h
        intro j u hu
        have := hc j u hu
        by_cases hj : j = 0
        · subst hj; simpa [Addr.add] using this
        · simpa [Addr.add, hj] using this
    obtain ⟨v', w', hrun, h2, h3, _, h5⟩ := run_append_own_at (P := Try.prog) w base 22 ty 5 i0 (.int .u8 0) 1 1 Try.underlying22 hi0 hz0 hz1 hz2 rfl (by omega) v l.length (l.map bv) hown ad m c (l2.map bv)
      (by simp [hm]) hcells bv_one (by unfold maxLen; omega) (by omega) hbase
    refine ⟨v', w', hrun, ?_, h3, h5⟩
    unfold OwnB
    rw [List.length_append, List.map_append, hm]
    exact h2

theorem wpList_apB {ops : Array Oper} {rest : List Oper} {o : Oper} {a : Act} {Q : Exit → Act → World → Prop} (w : World) (hgd : o.guard = none) (s x : Operand)
    (ho : o.op = .call { callee := .builtin .append, args := #[s, x], argTypes := #[22, 22] })
    (base : Nat) (v : Value) (l : List UInt8) (hs : a.eval s = v) (hown : OwnB w base v l) (B : Nat) (A : Option Addr) (m c : Nat) (l2 : List UInt8) (hx : a.eval x = .slice A m c)
    (hr : Rd w B A (l2.map bv)) (hm : l2.length = m) (hlen : l.length + m ≤ 140737488355328) (hbase : base ≤ w.heap.size)
    (h : ∀ v' w', OwnB w' base v' (l ++ l2) → w.grownBy w' v.ownBlock → Below base w w' → wpList Try.prog ops Q rest (a.put o.dst v') w') : wpList Try.prog ops Q (o :: rest) a w := by
  refine wpList_plain hgd fun _ hK => ?_
  obtain ⟨v', w', hrun, h2, h3, _⟩ := run_apB w o.type base v l hown B A m c l2 hr hm hlen hbase
  unfold Oper.wp execOp
  simp only [ho, resolve, invoke, builtin, Sem.run_bind, Sem.run_pure, Result.andThen_ok, List.map_toArray, List.map_cons, List.map_nil, hs, hx, hrun]
  exact hK _ _ (h v' w' h2 h3 (hown.below_base h3 hbase))
end
end Go.Proofs.Ytddilmocngedjaa
