/- strings.SplitSeq at a slash: the iterator yields the text's parts. -/
import Derived.Test.YtddilmocngedjaaDoorShelf
import Derived.Test.YtddilmocngedjaaDoorSeq
import Derived.Test.YtddilmocngedjaaDoorPathP
import Derived.RangeFuncCalls
import Derived.RangeFuncLeaves
import Derived.OwnWalkIn
import Derived.TacticsInMore
import Derived.LoopNIn
import Derived.LoopIn
namespace Go.Proofs.YtddilmocngedjaaDoor
set_option linter.unusedVariables false
set_option linter.unusedSimpArgs false
open Go Go.Proofs Go.RowKit Go.Lib

attribute [local go_sem] Oper.semAt_some

/-- three boxes stay as they are -/
def Keep3 (b : Nat) (W W' : World) : Prop := W'.heap[b]? = W.heap[b]? ∧ W'.heap[b + 1]? = W.heap[b + 1]? ∧ W'.heap[b + 2]? = W.heap[b + 2]?
theorem Keep3.trans {b : Nat} {A B C : World} (h : Keep3 b A B) (k : Keep3 b B C) : Keep3 b A C := ⟨k.1.trans h.1, k.2.1.trans h.2.1, k.2.2.trans h.2.2⟩

def strB (l : List UInt8) : ByteArray := ⟨l.toArray⟩

theorem strB_size (l : List UInt8) : (strB l).size = l.length := by simp [strB, ByteArray.size]
theorem strB_data (l : List UInt8) : (strB l).data.toList = l := by simp [strB]
theorem strB_of (s : ByteArray) : strB s.data.toList = s := by
  cases s; simp [strB]
theorem strB_cut (l : List UInt8) (a b : Nat) : (strB l).extract a b = strB ((l.take b).drop a) := by
  rw [← strB_of ((strB l).extract a b)]
  congr 1
  rw [extract_data, strB_data, List.drop_take]
/-- how long the text in a box is -/
def boxLen (w : World) (b : Nat) : Nat :=
  match w.cell? ⟨b, 0, none⟩ with
  | some (.string s) => s.size
  | _ => 0
theorem boxLen_of {w : World} {b : Nat} {s : ByteArray} (h : w.cell? ⟨b, 0, none⟩ = some (.string s)) : boxLen w b = s.size := by unfold boxLen; rw [h]

set_option maxHeartbeats 4000000 in
set_option maxRecDepth 100000 in
theorem seq1 (l b : Nat) (s : List UInt8) (hs : s.length ≤ 1000000) (J Jx : List (List UInt8) → World → Prop) (W : World)
    (h0 : Boxed W b 9 (.string (strB s))) (h1 : Boxed W (b + 1) 9 (.string ⟨#[47]⟩)) (h2 : Boxed W (b + 2) 3 (.int .i64 0))
    (hJ : Bides W.heap.size b J)
    (hY : ∀ pre x W1, J pre W1 → pre ++ [x] <+: segs s → YieldAt Fence.wide 1 Tryd.prog l #[.string (strB x)] W1 fun e W' =>
      (e = .returned (.bool true) ∧ J (pre ++ [x]) W' ∧ Keep3 b W1 W') ∨ (e = .returned (.bool false) ∧ Jx (pre ++ [x]) W')) (hJ0 : J [] W) :
    CallsIn Fence.wide 2 Tryd.prog 118 #[.func (.yield l) #[] #[], .pointer (some ⟨b + 1, 0, none⟩), .pointer (some ⟨b, 0, none⟩), .pointer (some ⟨b + 2, 0, none⟩)] W fun e W' =>
      (∃ v, e = .returned v) ∧ (J (segs s) W' ∨ ∃ pre, pre <+: segs s ∧ Jx pre W') := by
  refine callsIn_of_wp Tryd.func118 rfl trivial ?_ rfl
  simp only [Tryd.ntmps118, List.size_toArray, List.length_cons, List.length_nil, Nat.reduceAdd, Nat.reduceSub, Array.replicate_succ, Array.replicate_zero, List.push_toArray, List.append_toArray, List.nil_append, List.cons_append]
  have c0 := h0.cell
  have c1 := h1.cell
  have c2 := h2.cell
  gi_wp2
  clear c0 c1 c2
  gi_loopw [] (fun wr => ∃ (pre : List (List UInt8)) (rest : List UInt8), Hid (segs s = pre ++ segs rest) ∧ rest.length ≤ s.length ∧ Boxed wr b 9 (.string (strB rest)) ∧ Boxed wr (b + 1) 9 (.string ⟨#[47]⟩) ∧ Boxed wr (b + 2) 3 (.int .i64 0) ∧ J pre wr)
    (fun wr => boxLen wr b)
  case atStart => exact ⟨[], s, (rfl : _ = _), Nat.le_refl _, h0, h1, h2, hJ0⟩
  case round =>
    obtain ⟨pre, rest, hpr, hrl, b0, b1, b2, hj⟩ := hrel
    have c0 := b0.cell
    have c1 := b1.cell
    have c2 := b2.cell
    have hix : ∀ m w, CallsIn Fence.wide m Tryd.prog 110 #[.string (strB rest), .string ⟨#[47]⟩] w fun e w' => e = .returned (.int .i64 (Lib.indexByte rest 47)) ∧ w' = w := fun m w => by
      have := Tryd.strings_Index_one (strB rest) 47 w
      rw [strB_data] at this
      exact callsIn_wide.2 this
    have hge := Lib.indexByte_ge rest 47
    by_cases hm : Lib.indexByte rest 47 = -1
    · rw [hm] at hix
      obtain ⟨fn, tmps, assign, body, hy, hR⟩ := hY pre rest wr hj (by rw [hpr.out, segs_none hm]; exact List.prefix_refl _)
      clear hge
      have hm2 := Lib.hid hm
      clear hm
      gi_wp2_with (refine ⟨trivial, ?_⟩; gi_at_call 110; refine (hix _ _).mono ?_; rintro e w' ⟨rfl, rfl⟩)
      refine hR.mono ?_
      rintro e W3 (⟨rfl, hJ3, hk3⟩ | ⟨rfl, hJx3⟩)
      · gi_wp2
        go_end0
        refine ⟨⟨_, rfl⟩, .inl ?_⟩
        rw [hpr.out, segs_none hm2.out]; exact hJ3
      · gi_wp2
        go_end0
        exact ⟨⟨_, rfl⟩, .inr ⟨_, by rw [hpr.out, segs_none hm2.out]; exact List.prefix_refl _, hJx3⟩⟩
    · obtain ⟨i, hi⟩ : ∃ i : Nat, Lib.indexByte rest 47 = i := ⟨(Lib.indexByte rest 47).toNat, by omega⟩
      have hsg := segs_hit hi
      have hil : i < rest.length := idxByte_lt hi
      rw [hi] at hix
      have hseg : segs s = pre ++ rest.take i :: segs (rest.drop (i + 1)) := by rw [hpr.out, hsg]
      obtain ⟨fn, tmps, assign, body, hy, hR⟩ := hY pre (rest.take i) wr hj (by rw [hseg]; exact ⟨segs (rest.drop (i + 1)), by simp⟩)
      have e1 : strB (rest.take i) = (strB rest).extract 0 i := by rw [strB_cut]; simp
      rw [e1] at hy
      have hsz2 : i ≤ (strB rest).size := by rw [strB_size]; omega
      have hsz3 : i + 1 ≤ (strB rest).size := by rw [strB_size]; omega
      have hw1 : wrap64 ((i : Int) + 1) = (i : Int) + 1 := by unfold wrap64; omega
      have hw0 : wrap64 (i : Int) = (i : Int) := by unfold wrap64; omega
      clear hge hm hi hsg e1
      have hseg2 := Lib.hid hseg
      clear hseg
      gi_wp2_with (refine ⟨trivial, ?_⟩; gi_at_call 110; refine (hix _ _).mono ?_; rintro e w' ⟨rfl, rfl⟩)
      refine hR.mono ?_
      rintro e W3 (⟨rfl, hJ3, hk3⟩ | ⟨rfl, hJx3⟩)
      · have b0' : Boxed W3 b 9 (.string (strB rest)) := hk3.1.trans b0
        have b1' : Boxed W3 (b + 1) 9 (.string ⟨#[47]⟩) := hk3.2.1.trans b1
        have b2' : Boxed W3 (b + 2) 3 (.int .i64 0) := hk3.2.2.trans b2
        have d0 := b0'.cell
        have f0 := b0'.frozen
        have d1 := b1'.cell
        have d2 := b2'.cell
        clear c0 c1 c2 hix hy
        gi_wp2
        have e2 : (strB rest).extract (i + 1) (strB rest).size = strB (rest.drop (i + 1)) := by rw [strB_cut, strB_size]; simp
        rw [e2]
        refine ⟨⟨pre ++ [rest.take i], rest.drop (i + 1), ?_, by simp; omega, b0'.set _, b1'.kept (grownBy_setCell' W3 b _) (by simp), b2'.kept (grownBy_setCell' W3 b _) (by simp), hJ.box _ hJ3⟩, ?_⟩
        · show _ = _
          rw [hseg2.out]; simp
        · rw [boxLen_of (b0'.set _).cell, boxLen_of b0.cell, strB_size, strB_size]
          simp; omega
      · gi_wp2
        refine bodyPost_ret (results_none rfl _ _ _) rfl ?_
        exact ⟨⟨_, rfl⟩, .inr ⟨_, by rw [hseg2.out]; exact ⟨segs (rest.drop (i + 1)), by simp⟩, hJx3⟩⟩

/-- the iterator's word -/
theorem seq_yields (b : Nat) (s : List UInt8) (hs : s.length ≤ 1000000) (w : World) (hb : b + 2 < w.heap.size)
    (h0 : Boxed w b 9 (.string (strB s))) (h1 : Boxed w (b + 1) 9 (.string ⟨#[47]⟩)) (h2 : Boxed w (b + 2) 3 (.int .i64 0)) :
    Yields Fence.wide 2 Tryd.prog 118 #[.pointer (some ⟨b + 1, 0, none⟩), .pointer (some ⟨b, 0, none⟩), .pointer (some ⟨b + 2, 0, none⟩)] (fun x => .string (strB x)) (Keep3 b) b (segs s) w :=
  fun l J Jx W hW hJ hJx hY hJ0 => seq1 l b s hs J Jx W ((hW.block b (by omega)).trans h0) ((hW.block (b + 1) (by omega)).trans h1) ((hW.block (b + 2) (by omega)).trans h2) hJ hY hJ0

/-- strings.SplitSeq: three boxes, and the iterator over them -/
theorem splitSeq_any (s : List UInt8) (w : World) :
    Calls Tryd.prog 84 #[.string (strB s), .string ⟨#[47]⟩] w fun e w' =>
      e = .returned (.func (.func 118) #[] #[.pointer (some ⟨w.heap.size + 1, 0, none⟩), .pointer (some ⟨w.heap.size, 0, none⟩), .pointer (some ⟨w.heap.size + 2, 0, none⟩)]) ∧
      w' = ((w.alloc (.cells #[.string (strB s)] 9)).alloc (.cells #[.string ⟨#[47]⟩] 9)).alloc (.cells #[.int .i64 0] 3) := by
  go_enter Tryd.func84, Tryd.ntmps84
  go_wp2
  go_ret
  exact ⟨rfl, rfl⟩
end Go.Proofs.YtddilmocngedjaaDoor
