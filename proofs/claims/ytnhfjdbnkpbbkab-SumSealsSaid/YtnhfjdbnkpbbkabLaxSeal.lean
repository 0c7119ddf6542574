/- SumSeals: the sums, the clone and the tail as contracts by content (the texts of LaxNum, LaxClone and LaxSum that this seat's functions bear). -/
import Derived.Test.YtnhfjdbnkpbbkabLaxByt
import Derived.Test.YtnhfjdbnkpbbkabRev
import Derived.Test.YtnhfjdbnkpbbkabSum
import Derived.Lib.LazyBuf
import Derived.Shelf.Slices.Clone
namespace Go.Proofs.Ytnhfjdbnkpbbkab
set_option linter.unusedVariables false
set_option linter.unusedSimpArgs false
open Go.RowKit Go.Lib

theorem mixedOrders : Try.prog.follows .mixedOrders = true := by kernel_rfl
theorem ts_u8 : tsize Try.prog 5 = 1 := by kernel_rfl

theorem row_bytes {w w' : World} {S : Nat → Nat → Prop} {x : Value} {l : List UInt8} (h : OwnB w' w.heap.size x l) (hb : Below w.heap.size w w') :
    ∃ v, Ending.returned x = .returned v ∧ Below w.heap.size w w' ∧ ∃ zs, w'.ownsRow w.heap.size 5 (tsize Try.prog 5) v (bytesAV l).length zs ∧ FL w' (More S w) (tsize Try.prog 5) (bytesAV l) zs := by
  rw [ts_u8, length_bytesAV]
  exact ⟨x, rfl, hb, _, h, FL_bytes l⟩
theorem flat_bytes (l : List UInt8) : ∀ x ∈ bytesAV l, x.cells.all AV.flatCell = true := by
  intro x hx
  obtain ⟨b, _, rfl⟩ := List.mem_map.1 hx
  rfl
theorem one_arg {us : Array Value} {v : AV} {w : World} {S : Nat → Nat → Prop} (hs : us.size = 1) (h : ∀ (i : Nat) x, [v][i]? = some x → ∃ u, us[i]? = some u ∧ RepV w S x u) : ∃ u, us = #[u] ∧ RepV w S v u := by
  obtain ⟨u, h1, h2⟩ := h 0 v rfl
  refine ⟨u, ?_, h2⟩
  apply Array.ext
  · simp [hs]
  · intro i hi hi'
    have : i = 0 := by omega
    subst this
    rw [Array.getElem?_eq_getElem hi] at h1
    cases h1; rfl
theorem two_args {us : Array Value} {v v' : AV} {w : World} {S : Nat → Nat → Prop} (hs : us.size = 2) (h : ∀ (i : Nat) x, [v, v'][i]? = some x → ∃ u, us[i]? = some u ∧ RepV w S x u) : ∃ u u', us = #[u, u'] ∧ RepV w S v u ∧ RepV w S v' u' := by
  obtain ⟨u, h1, h2⟩ := h 0 v rfl
  obtain ⟨u', h3, h4⟩ := h 1 v' rfl
  refine ⟨u, u', ?_, h2, h4⟩
  apply Array.ext
  · simp [hs]
  · intro i hi hi'
    match i with
    | 0 =>
      rw [Array.getElem?_eq_getElem hi] at h1
      cases h1; rfl
    | 1 =>
      rw [Array.getElem?_eq_getElem hi] at h3
      cases h3; rfl
    | i + 2 => omega
theorem k_u64 : IntKind.u64.min = 0 ∧ IntKind.u64.max = 18446744073709551615 := by decide
theorem k_i64 : IntKind.i64.min = -9223372036854775808 ∧ IntKind.i64.max = 9223372036854775807 := by decide
theorem repV_u64 {w : World} {S : Nat → Nat → Prop} {n : Int} {u : Value} (h : RepV w S (.int .u64 n) u) : u = .int .u64 n ∧ 0 ≤ n ∧ n ≤ 18446744073709551615 := by
  have h' : RepP w S (.int .u64 n) u := h
  cases h' with
  | int k n h1 h2 => have := k_u64; exact ⟨rfl, by omega, by omega⟩
theorem repV_i64 {w : World} {S : Nat → Nat → Prop} {n : Int} {u : Value} (h : RepV w S (.int .i64 n) u) : u = .int .i64 n ∧ -9223372036854775808 ≤ n ∧ n ≤ 9223372036854775807 := by
  have h' : RepP w S (.int .i64 n) u := h
  cases h' with
  | int k n h1 h2 => have := k_i64; exact ⟨rfl, by omega, by omega⟩
theorem repV_bytes {w : World} {S : Nat → Nat → Prop} {l : List UInt8} {o : Own} {u : Value} (h : RepV w S (.sl (bytesAV l) o) u) : ∃ A c, u = .slice A l.length c ∧ l.length ≤ c ∧ c ≤ 9223372036854775807 ∧ Rd w w.heap.size A (l.map bv) := rd_of (h : RepP w S (.sl (bytesAV l) o) u)
set_option maxHeartbeats 2000000 in
set_option maxRecDepth 100000 in
theorem clone_at (ad : Addr) (n c : Nat) (xs : List UInt8) (w : World) (hx : xs.length = n) (hbig : n ≤ 140737488355328) (hc : ∀ j u, (xs.map bv)[j]? = some u → w.cell? (ad.add j) = some u) :
    Calls Try.prog 36 #[.slice (some ad) n c] w fun e w' => ∃ x, e = .returned x ∧ OwnB w' w.heap.size x xs ∧ Below w.heap.size w w' := by
  obtain ⟨i0, hi, hz0, hz1, hz2⟩ := info_parts info_u8
  have t22 := Try.underlying37
  have q22 : ∀ (w : World) (a : Option Addr) (n c n' c' : Nat), (binOp .eql 37 (.slice a n c) (.slice none n' c')).run Try.prog w = .ok (.bool a.isNone) w := fun w a n c n' c' => Go.Lib.run_eql_slice_nil w _ _ a n c n' c' t22
  have A : Aside (∀ j u, (xs.map bv)[j]? = some u → w.cell? (ad.add j) = some u) := hc
  clear hc
  go_enter Try.func36, Try.ntmps36
  go_wp2_with (at_builtin; refine wpList_append_own _ rfl _ _ 37 rfl w.heap.size 5 i0 (.int .u8 0) 1 1 t22 hi hz0 hz1 hz2 rfl (by decide) _ _ _ rfl (World.ownsRow_made w #[] 0 (Nat.le_refl _) (Nat.zero_le _) rfl) ad n c (xs.map bv) rfl ?qc1 ?qc2 ?qc3 ?qc4 ?qc5 ?qc6 ?_)
  case qc1 => simp; omega
  case qc2 =>
    intro j u hj
    exact Lib.cell?_alloc_some _ (A.out j u hj)
  case qc3 => exact bv_one
  case qc4 => unfold maxLen; omega
  case qc5 => omega
  case qc6 => simp
  intro v' w1 hown hgrow hnil
  go_wp2
  go_ret
  refine ⟨v', rfl, ?_, ?_⟩
  · unfold OwnB
    rw [hx]
    simpa using hown
  · exact ((Below.refl _ w).alloc (Nat.le_refl _) _).grown hgrow (by simp) (by intro k hk; simp [Value.ownBlock] at hk; omega)
set_option maxHeartbeats 1000000 in
theorem clone_nil (n c : Nat) (w : World) :
    Calls Try.prog 36 #[.slice none n c] w fun e w' => e = .returned (.slice none 0 0) ∧ w' = w := by
  have t22 := Try.underlying37
  have q22 : ∀ (w : World) (a : Option Addr) (n c n' c' : Nat), (binOp .eql 37 (.slice a n c) (.slice none n' c')).run Try.prog w = .ok (.bool a.isNone) w := fun w a n c n' c' => Go.Lib.run_eql_slice_nil w _ _ a n c n' c' t22
  go_enter Try.func36, Try.ntmps36
  go_wp2
  go_ret
  exact ⟨rfl, rfl⟩
theorem clone_any (l : List UInt8) (A : Option Addr) (c B : Nat) (w : World) (hr : Rd w B A (l.map bv)) (hl : l.length ≤ 140737488355328) :
    Calls Try.prog 36 #[.slice A l.length c] w fun e w' => ∃ x, e = .returned x ∧ OwnB w' w.heap.size x l ∧ Below w.heap.size w w' := by
  cases A with
  | none =>
    have : l = [] := by
      rcases hr with h | ⟨_, _, h, _⟩
      · simpa using h
      · cases h
    subst this
    refine (clone_nil _ c w).mono ?_
    rintro e w' ⟨rfl, rfl⟩
    exact ⟨_, rfl, OwnB.nil _ _, Below.refl _ _⟩
  | some ad =>
    refine clone_at ad l.length c l w rfl hl ?_
    rcases hr with h | ⟨b, off, h, _, hc⟩
    · intro j u hu; rw [h] at hu; simp at hu
    · injection h with h; subst h
      intro j u hu
      have := hc j u hu
      by_cases hj : j = 0
      · subst hj; simpa [Addr.add] using this
      · simpa [Addr.add, hj] using this

def cloneF : Con
  | [.val (.sl xs .no)] => some (isBytes xs ∧ xs.length ≤ 140737488355328, ⟨.sl xs (.row 0 0 5), none, none⟩)
  | [.val (.sl xs .nil)] => some (xs = [], ⟨.sl xs (.row 0 0 5), none, none⟩)
  | _ => none
theorem meetsClone : Meets Try.prog 36 cloneF := by
  refine meets_row Try.call36 ?_
  intro args q r hF hq
  unfold cloneF at hF
  split at hF
  · rename_i xs
    cases hF
    obtain ⟨hb, hl⟩ := hq
    obtain ⟨l, rfl⟩ := hb.get
    rw [length_bytesAV] at hl
    refine ⟨[.sl (bytesAV l) .no], _, _, rfl, rfl, fun x hx => (by simp at hx; subst hx; rfl), rfl, by rw [ts_u8]; omega, flat_bytes _, ?_⟩
    intro us w S hs h
    obtain ⟨u, rfl, hu⟩ := one_arg hs h
    obtain ⟨A, c, rfl, h1, h2, h3⟩ := repV_bytes hu
    refine (clone_any l A c _ w h3 hl).mono ?_
    rintro e w' ⟨x, rfl, ho, hb⟩
    exact row_bytes ho hb
  · rename_i xs
    cases hF
    subst hq
    refine ⟨[.sl [] .nil], _, _, rfl, rfl, fun x hx => (by simp at hx; subst hx; rfl), rfl, by rw [ts_u8]; omega, fun x hx => (by simp at hx), ?_⟩
    intro us w S hs h
    obtain ⟨u, rfl, hu⟩ := one_arg hs h
    obtain ⟨A, c, rfl, h1, h2, h3⟩ := repV_bytes (l := []) hu
    refine (clone_any [] A c _ w h3 (by simp)).mono ?_
    rintro e w' ⟨x, rfl, ho, hb⟩
    exact row_bytes ho hb
  · cases hF
def crcI (l : List UInt8) : Int := ((crc l).toNat : Int)
/-- a message in parts -/
def partL (x : AV) : List UInt8 := bytesL x.theList
def flatL (xs : List AV) : List UInt8 := (xs.map partL).flatten
def isPart (x : AV) : Prop := ∃ l o, x = .sl (bytesAV l) o
def isParts (xs : List AV) : Prop := ∀ x ∈ xs, isPart x

theorem one_argS {us : Array Value} {v : AV} {w : World} {S : Nat → Nat → Prop} (hs : us.size = 1) (h : ∀ (i : Nat) x, [v][i]? = some x → ∃ u, us[i]? = some u ∧ RepV w S x u) : ∃ u, us = #[u] ∧ RepV w S v u := by
  obtain ⟨u, h1, h2⟩ := h 0 v rfl
  refine ⟨u, ?_, h2⟩
  apply Array.ext
  · simp [hs]
  · intro i h3 h4
    have : i = 0 := by simp at h4; exact h4
    subst this
    rw [Array.getElem?_eq_getElem h3] at h1
    simpa using h1
theorem crcRep (w : World) (S : Nat → Nat → Prop) (l : List UInt8) : RepV w S (.int .u32 (crcI l)) (.int .u32 ((crc l).toNat : Int)) := by
  have h := (crc l).isLt
  have m0 : IntKind.u32.min = 0 := by decide
  have m1 : IntKind.u32.max = 4294967295 := by decide
  exact (RepP.int _ _ (by rw [m0]; exact Int.natCast_nonneg _) (by rw [m1]; show ((crc l).toNat : Int) ≤ 4294967295; omega) : RepP w S (.int .u32 (crcI l)) _)
def anchor2F : Con
  | [] => some (True, ⟨.bool true, none, none⟩)
  | _ => none
theorem meetsAnchor2 : Meets Try.prog 23 anchor2F := by
  refine meets_plain Try.call23 ?_
  intro args q r hF hq
  unfold anchor2F at hF
  split at hF
  · cases hF
    refine ⟨[], rfl, rfl, fun x hx => (by cases hx), rfl, rfl, rfl, ?_⟩
    intro us w S hs h
    obtain rfl : us = #[] := by
      have : us.size = 0 := by simpa using hs
      exact Array.eq_empty_of_size_eq_zero this
    refine (anchor02 w).mono ?_
    rintro e w' ⟨rfl, hb⟩
    exact ⟨_, rfl, hb, (RepP.bool true : RepP _ _ _ _)⟩
  · cases hF
theorem parts_of {w : World} {S : Nat → Nat → Prop} {xs : List AV} {u : Value} (hp : isParts xs) (h : RepP w S (.sl xs .no) u) :
    ∃ A c, u = .slice A xs.length c ∧ xs.length ≤ 9223372036854775807 ∧ RdParts w w.heap.size A (xs.map partL) := by
  have hone : ∀ x ∈ xs, x.cells.length = 1 := fun x hx => by obtain ⟨l, o, rfl⟩ := hp x hx; rfl
  obtain ⟨us, ad, cap, e3, e4, e5⟩ := FL.of (size := 1) h hone
  obtain ⟨ad', cap', e6, e7, e8⟩ := h.form
  rw [e3] at e6
  cases e6
  refine ⟨ad, cap, e3, by unfold maxLen at e8; omega, ?_⟩
  rcases e5 with h0 | ⟨b, off, rfl, hc⟩
  · subst h0
    exact RdParts.nil _ _ _
  · by_cases hx : xs = []
    · subst hx; exact RdParts.nil _ _ _
    have h0 : 0 < xs.length := List.length_pos_iff.2 hx
    have hul : us.length = xs.length := by rw [e4.1, Nat.mul_one]
    have hu0 := hc 0 us[0] (List.getElem?_eq_getElem (by omega))
    refine ⟨us, by simp [hul], .inr ⟨b, off, rfl, World.block_lt_of_cell? w _ hu0, hc⟩, fun i hi => ?_⟩
    have hi' : i < xs.length := by simpa using hi
    obtain ⟨l, o, hl⟩ := hp xs[i] (List.getElem_mem hi')
    obtain ⟨_, f2⟩ := e4.2 i xs[i] (List.getElem?_eq_getElem hi')
    rw [hl] at f2
    obtain ⟨_, u, f3, f4⟩ := f2 0 (.sl (bytesAV l) o) rfl
    rw [Nat.mul_one, Nat.add_zero] at f3
    obtain ⟨A', c', rfl, g1, g2, g3⟩ := rd_of f4
    have hpi : (xs.map partL)[i] = l := by
      rw [List.getElem_map, hl]
      exact bytesL_bytesAV l
    rw [hpi]
    exact ⟨A', c', f3, g3, by omega⟩
def sumOfF : Con
  | [.val (.sl xs .no)] => some (isParts xs, ⟨.int .u32 (crcI (flatL xs)), none, none⟩)
  | _ => none
theorem meetsSumOf : Meets Try.prog 35 sumOfF := by
  refine meets_plain Try.call35 ?_
  intro args q r hF hq
  unfold sumOfF at hF
  split at hF
  · rename_i xs
    cases hF
    refine ⟨[.sl xs .no], rfl, rfl, fun x hx => (by simp at hx; subst hx; rfl), rfl, rfl, rfl, ?_⟩
    intro us w S hs h
    obtain ⟨u, rfl, hu⟩ := one_argS hs h
    obtain ⟨A, c, rfl, h2, h3⟩ := parts_of hq (hu : RepP w S (.sl xs .no) u)
    refine (of_any (xs.map partL) xs.length c w.heap.size A w (by simp) h3 h2).mono ?_
    rintro e w' ⟨rfl, rfl⟩
    exact ⟨_, rfl, Below.refl _ _, crcRep _ _ _⟩
  · cases hF
def tailF : Con
  | [.val (.int .u32 v)] => some (True, ⟨.sl (bytesAV (tailL v)) (.row 0 0 5), none, none⟩)
  | _ => none
theorem repV_u32 {w : World} {S : Nat → Nat → Prop} {n : Int} {u : Value} (h : RepV w S (.int .u32 n) u) : u = .int .u32 n ∧ 0 ≤ n ∧ n ≤ 4294967295 := by
  have h' : RepP w S (.int .u32 n) u := h
  have m0 : IntKind.u32.min = 0 := by decide
  have m1 : IntKind.u32.max = 4294967295 := by decide
  cases h' with
  | int k n h1 h2 => exact ⟨rfl, by omega, by omega⟩
theorem meetsTail : Meets Try.prog 37 tailF := by
  refine meets_row Try.call37 ?_
  intro args q r hF hq
  unfold tailF at hF
  split at hF
  · rename_i v
    cases hF
    refine ⟨[.int .u32 v], _, _, rfl, rfl, fun x hx => (by simp at hx; subst hx; rfl), rfl, by rw [ts_u8]; omega, flat_bytes _, ?_⟩
    intro us w S hs h
    obtain ⟨u, rfl, hu⟩ := one_arg hs h
    obtain ⟨rfl, h0, h1⟩ := repV_u32 hu
    refine (tail_any v h0 h1 w).mono ?_
    rintro e w' ⟨x, rfl, ho, hb⟩
    exact row_bytes ho hb
  · cases hF
end Go.Proofs.Ytnhfjdbnkpbbkab
