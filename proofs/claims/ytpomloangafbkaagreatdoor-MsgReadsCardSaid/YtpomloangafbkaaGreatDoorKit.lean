/- Words of this seat's proofs on memory: a slice's cells as a list (`Rd`), a row of the call's own bytes (`OwnB`), append onto it. Nothing of the program's meaning is said here. -/
import Derived.Test.YtpomloangafbkaaGreatDoorRows
import Derived.WalkKit
import Derived.ProofKit
import Derived.Handy
import Derived.Lib.Hide
import Derived.Maps.AppendAt
import Derived.Laws.OwnMore
import Derived.WalkSpells
import Derived.WalkLawsBesides
import Derived.Deep.QuietTactic
import Derived.BigQuiet
namespace Go.Proofs.YtpomloangafbkaaGreatDoor
set_option linter.unusedVariables false
open Go.RowKit

theorem own_knob : ownKnob Tryz.prog.godebug = none := by kernel_rfl
theorem laid_out : laidOutB Tryz.prog = true := by kernel_rfl

theorem add_add (a : Addr) (i j : Nat) : (a.add i).add j = a.add (i + j) := by
  unfold Addr.add
  by_cases hi : i = 0 <;> by_cases hj : j = 0 <;> simp [hi, hj, Nat.add_assoc]

theorem ret_int {k : IntKind} {a b : Int} (h : a = b) : Ending.returned (.int k a) = Ending.returned (.int k b) := by rw [h]
/-- Block g is just the cells cs. -/
def Blk (w : World) (g : Nat) (t : TypeId) (cs : Array Value) : Prop := w.heap[g]? = some (.cells cs t (0, 0))
section
variable {w w' : World} {g : Nat} {t : TypeId} {cs : Array Value}
theorem Blk.lt (h : Blk w g t cs) : g < w.heap.size := by
  unfold Blk at h
  rcases Nat.lt_or_ge g w.heap.size with hlt | hge
  · exact hlt
  · rw [Array.getElem?_eq_none hge] at h; cases h
theorem Blk.cell (h : Blk w g t cs) (i : Nat) {v : Value} (hv : cs[i]? = some v) : w.cell? ⟨g, i, none⟩ = some v := (cell_of_row w g i cs t (0, 0) h).trans hv
theorem Blk.free (h : Blk w g t cs) (i : Nat) : w.frozen? ⟨g, i, none⟩ = false := by
  unfold Blk at h
  simp [World.frozen?, h]
theorem Blk.new (w : World) (t : TypeId) (cs : Array Value) : Blk (w.alloc (.cells cs t)) w.heap.size t cs := heap_alloc_new w _
theorem Blk.drew (h : Blk w g t cs) : Blk w.drew g t cs := h
theorem Blk.drewN (h : Blk w g t cs) (n : Nat) : Blk (w.drewN n) g t cs := h
theorem Blk.alloc (h : Blk w g t cs) (o : Obj) : Blk (w.alloc o) g t cs := (Below.heap_alloc w o g h.lt).trans h
theorem Blk.put (h : Blk w g t cs) (i : Nat) (u : Value) : Blk (w.setCell ⟨g, i, none⟩ u) g t (cs.setIfInBounds i u) := by
  unfold Blk at h ⊢
  simp [World.setCell, Array.getElem?_modify, h]
theorem Blk.below {B : Nat} (h : Blk w g t cs) (hb : Below B w w') (hg : g < B) : Blk w' g t cs := (hb.block g hg).trans h
end

/-- A byte's cell. -/
def bv (b : UInt8) : Value := .int .u8 (b.toNat : Int)
theorem bv_one {l : List UInt8} : ∀ u ∈ l.map bv, u.oneCell' = true := by
  intro u hu
  obtain ⟨b, _, rfl⟩ := List.mem_map.1 hu
  rfl

/-- The address A (none is fine where there is no cell) leads to the cells xs, in a block below B. -/
def Rd (w : World) (B : Nat) (A : Option Addr) (xs : List Value) : Prop :=
  xs = [] ∨ ∃ b off, A = some ⟨b, off, none⟩ ∧ b < B ∧ ∀ j u, xs[j]? = some u → w.cell? ⟨b, off + j, none⟩ = some u

section
variable {w w' : World} {B B' : Nat} {A : Option Addr} {xs : List Value}
theorem Rd.nil : Rd w B A [] := .inl rfl
/-- Where there is a cell the address is known, and every cell. -/
theorem Rd.open_ (h : Rd w B A xs) (hk : 0 < xs.length) : ∃ b off, A = some ⟨b, off, none⟩ ∧ b < B ∧ ∀ k (hk : k < xs.length), w.cell? ⟨b, off + k, none⟩ = some xs[k] := by
  rcases h with rfl | ⟨b, off, e, hb, hc⟩
  · simp at hk
  · exact ⟨b, off, e, hb, fun k hk => hc k _ (List.getElem?_eq_getElem hk)⟩
theorem Rd.keep (h : Rd w B A xs) (hk : ∀ p : Addr, p.block < B → w'.cell? p = w.cell? p) : Rd w' B A xs := by
  rcases h with rfl | ⟨b, off, e, hb, hc⟩
  · exact .inl rfl
  · exact .inr ⟨b, off, e, hb, fun j u hu => (hk _ hb).trans (hc j u hu)⟩
theorem Rd.more (h : Rd w B A xs) (hB : B ≤ B') : Rd w B' A xs := by
  rcases h with rfl | ⟨b, off, e, hb, hc⟩
  · exact .inl rfl
  · exact .inr ⟨b, off, e, by omega, hc⟩
theorem Rd.below (h : Rd w B A xs) {C : Nat} (hb : Below C w w') (hBC : B ≤ C) : Rd w' B A xs := h.keep fun _ hp => hb.cell (by omega)
theorem Rd.drew (h : Rd w B A xs) : Rd w.drew B A xs := h
theorem Rd.alloc (h : Rd w B A xs) (hB : B ≤ w.heap.size) (o : Obj) : Rd (w.alloc o) B A xs := h.keep fun p hp => World.cell?_alloc_lt w o p (by omega)
theorem Rd.cut (h : Rd w B A xs) {k n cap : Nat} (hn : xs.length = n) (hk : k ≤ n) (hc : n ≤ cap) :
    Rd w B (if cap = k then A else A.map (·.add k)) (xs.drop k) := by
  by_cases he : k = n
  · left; apply List.drop_eq_nil_of_le; omega
  · rcases h with rfl | ⟨b, off, rfl, hb, hcell⟩
    · simp at hn; omega
    · right
      rw [if_neg (by omega)]
      refine ⟨b, off + k, by by_cases h0 : k = 0 <;> simp [Addr.add, h0], hb, fun j u hu => ?_⟩
      rw [Nat.add_assoc]
      exact hcell _ u (by rw [← hu, List.getElem?_drop])
theorem Rd.take (h : Rd w B A xs) (k : Nat) : Rd w B A (xs.take k) := by
  rcases h with rfl | ⟨b, off, rfl, hb, hc⟩
  · left; simp
  · right
    refine ⟨b, off, rfl, hb, fun j u hu => hc j u ?_⟩
    rw [List.getElem?_take] at hu
    split at hu
    · exact hu
    · cases hu
theorem Rd.of_addr {ad : Addr} (hb : ad.block < B) (hc : ∀ j u, xs[j]? = some u → w.cell? (ad.add j) = some u) : Rd w B (some ad) xs := by
  rcases Nat.eq_zero_or_pos xs.length with h0 | h0
  · left; exact List.eq_nil_of_length_eq_zero h0
  · right
    obtain ⟨b, off, spot⟩ := ad
    have h1 := hc 0 _ (List.getElem?_eq_getElem h0)
    have hs : spot = none := by simpa [Addr.add] using World.cell?_spot h1
    subst hs
    refine ⟨b, off, rfl, hb, fun j u hu => ?_⟩
    have := hc j u hu
    by_cases hj : j = 0
    · subst hj; simpa [Addr.add] using this
    · simpa [Addr.add, hj] using this
theorem Rd.of_own {base size n c : Nat} {e : TypeId} (h : w.ownsRow base e size (.slice A n c) n xs) : Rd w w.heap.size A xs := by
  rcases h.2 with ⟨hv, rfl⟩ | ⟨g, cap, cur, hv, h1, h2, h3⟩
  · exact .inl (List.eq_nil_of_length_eq_zero (by simpa using h.1))
  · injection hv with hA _ _
    subst hA
    exact Rd.of_addr (h.lt g rfl).2 (h.cells (g := g) rfl)
end

/-- The slice value v is a row of the call's own (blocks from base on), with the bytes l. -/
def OwnB (w : World) (base : Nat) (v : Value) (l : List UInt8) : Prop := w.ownsRow base 5 1 v l.length (l.map bv)

theorem info_u8 : (Tryz.prog.info? 5).map (fun i => (i.zero, i.size, i.bytes)) = some (some (.int .u8 0), 1, 1) := by kernel_rfl

section
variable {w w' : World} {base B : Nat} {v : Value} {l : List UInt8}
theorem OwnB.nil (w : World) (base : Nat) : OwnB w base (.slice none 0 0) [] := World.ownsRow_nil _ _ _ _
theorem OwnB.form (h : OwnB w base v l) : ∃ A c, v = .slice A l.length c ∧ Rd w w.heap.size A (l.map bv) ∧ l.length ≤ c ∧ c ≤ maxLen := by
  rcases h.2 with ⟨hv, hl⟩ | ⟨g, cap, cur, hv, h1, h2, h3⟩
  · have : l = [] := by simpa using hl
    subst this
    exact ⟨none, 0, hv, .inl rfl, by simp, by unfold maxLen; omega⟩
  · subst hv
    exact ⟨_, _, rfl, Rd.of_own h, h3.1, h3.2.1⟩
theorem OwnB.kept (h : OwnB w base v l) {row : Option Nat} (hg : w.grownBy w' row) (hne : v.ownBlock = none ∨ v.ownBlock ≠ row) : OwnB w' base v l := World.ownsRow.kept h hg hne
theorem OwnB.alloc (h : OwnB w base v l) (o : Obj) : OwnB (w.alloc o) base v l := World.ownsRow.alloc h o
theorem OwnB.drew (h : OwnB w base v l) : OwnB w.drew base v l := World.ownsRow.drew h
theorem grownBy_of_below (h : Below w.heap.size w w') (row : Option Nat) : w.grownBy w' row := ⟨h.os, h.tape, h.output, h.size, fun k hk _ => h.block k hk⟩
theorem OwnB.below (h : OwnB w base v l) (hb : Below w.heap.size w w') : OwnB w' base v l := by
  by_cases hn : v.ownBlock = none
  · exact h.kept (grownBy_of_below hb none) (.inl hn)
  · exact h.kept (grownBy_of_below hb none) (.inr hn)
theorem Rd.one (w : World) (x : Value) (t : TypeId) : Rd (w.alloc (.cells #[x] t)) (w.heap.size + 1) (some ⟨w.heap.size, 0, none⟩) [x] :=
  Rd.of_addr (by simp) fun j u hu => cell_one_new w x t j u hu
end
end Go.Proofs.YtpomloangafbkaaGreatDoor
