/- The operations on numbers, truths, texts and cells: a real world does what the reading by content says. -/
import Derived.Test.YtnhfjdbnkpbbkabLaxD
namespace Go.Proofs.Ytnhfjdbnkpbbkab
set_option linter.unusedVariables false
set_option linter.unusedSimpArgs false
open Go.RowKit

def PureOK (P : Program) (st : St) (G : Gh) (w : World) (o : Oper) (a : Act) (x : AV) : Prop :=
  ∃ v, (execOp a.eval o).run P w = .ok (.value v) w ∧ Rep P st G w x v

section
variable {P : Program} {n : Nat} {w0 : World} {own : OwnP} {st st' : St} {G G' : Gh} {a : Act} {w w' : World} {o : Oper}

theorem info_of_under {t : TypeId} {d : TypeDesc} (h : P.underlying t = some d) : ∃ i, P.info? t = some i := info_of_underlying h
theorem run_size {t : TypeId} {d : TypeDesc} (h : P.underlying t = some d) (w : World) : (sizeOf t).run P w = .ok (tsize P t) w := by
  obtain ⟨i, hi⟩ := info_of_underlying h
  exact run_sizeOf w hi
theorem run_size_pos {t : TypeId} (h : tsize P t ≠ 0) (w : World) : (sizeOf t).run P w = .ok (tsize P t) w := by
  unfold tsize Program.cellsOf at h
  cases hi : P.info? t with
  | none => simp [hi] at h
  | some i => exact run_sizeOf w hi

theorem pure_move {x : Operand} (hR : Rel P n w0 own st G a w) (ho : o.op = .move x) : PureOK P st G w o a (st.ev x) :=
  ⟨a.eval x, by simp [execOp, ho], hR.ev x⟩
theorem pure_assign {x : Operand} (hR : Rel P n w0 own st G a w) (ho : o.op = .assign x) : PureOK P st G w o a (st.ev x) :=
  ⟨a.eval x, by simp [execOp, ho], hR.ev x⟩

theorem rep_pick {c : Bool} {x y : AV} {u v : Value} (hx : Rep P st G w x u) (hy : Rep P st G w y v) : Rep P st G w (pickAV c x y) (if c then u else v) := by
  rw [pickAV_eq]
  cases c
  · exact hy
  · exact hx
theorem pure_pick {c x y : Operand} {b : Bool} (hR : Rel P n w0 own st G a w) (ho : o.op = .pick c x y) (hc : st.ev c = .bool b) : PureOK P st G w o a (pickAV b (st.ev x) (st.ev y)) := by
  have h1 := hR.ev c
  rw [hc] at h1
  have h2 := h1.inv_bool
  exact ⟨_, by simp [execOp, ho, h2, asBool], rep_pick (hR.ev x) (hR.ev y)⟩

theorem pure_nilCheck {x : Operand} (hR : Rel P n w0 own st G a w) (ho : o.op = .nilCheck x) {y : AV} (hx : st.ev x = y) (hy : (∃ s off, y = .ptr s off) ∨ ∃ z j, y = .eptr z j) : PureOK P st G w o a y := by
  have h1 := hR.ev x
  rw [hx] at h1
  refine ⟨a.eval x, ?_, h1⟩
  rcases hy with ⟨s, off, rfl⟩ | ⟨z, j, rfl⟩
  · obtain ⟨_, h2⟩ := h1.inv_ptr
    simp [execOp, ho, h2]
  · obtain ⟨b, off, h2, _⟩ := (h1 : Rep1 P st G w (.eptr z j) _)
    simp [execOp, ho, h2]

theorem pure_extract {x : Operand} {i : Nat} {vs : List AV} {v : AV} (hR : Rel P n w0 own st G a w) (ho : o.op = .extract x i) (hx : st.ev x = .tup vs) (hv : vs[i]? = some v) : PureOK P st G w o a v := by
  have h1 := hR.ev x
  rw [hx] at h1
  obtain ⟨us, h2, h3, h4⟩ := (h1 : Rep P st G w (.tup vs) _)
  obtain ⟨u, h5, h6⟩ := h4 i v hv
  exact ⟨u, by simp [execOp, ho, h2, Instr.extract, h5], Rep.ofA h6⟩

theorem pure_fieldAddr {x : Operand} {t : TypeId} {f : Nat} {fs : Array Field} {fd : Field} {y z : AV} (hR : Rel P n w0 own st G a w) (ho : o.op = .fieldAddr t x f) (ht : P.underlying t = some (.struct fs)) (hf : fs[f]? = some fd)
    (h0 : tsize P fd.type ≠ 0) (hx : st.ev x = y) (hy : (∃ s off, y = .ptr s off ∧ z = .ptr s (off + fd.offset)) ∨ ∃ q j, y = .eptr q j ∧ z = .eptr q (j + fd.offset)) : PureOK P st G w o a z := by
  have h1 := hR.ev x
  rw [hx] at h1
  have hs := run_size_pos (P := P) h0 w
  have hadd : ∀ b off k, (⟨b, off, none⟩ : Addr).add k = ⟨b, off + k, none⟩ := fun b off k => Addr.add_mid b off k
  rcases hy with ⟨s, off, rfl, rfl⟩ | ⟨q, j, rfl, rfl⟩
  · obtain ⟨hb, h2⟩ := h1.inv_ptr
    exact ⟨.pointer (some ⟨G.bx s, off + fd.offset, none⟩), by simp [execOp, ho, h2, Instr.fieldAt, run_underlying ht, hf, Instr.sureAddr, fieldPlace, hs, h0, hadd], ⟨hb, rfl⟩⟩
  · obtain ⟨b, off, h2, h3⟩ := (h1 : Rep1 P st G w (.eptr q j) _)
    exact ⟨.pointer (some ⟨b, off + j + fd.offset, none⟩), by simp [execOp, ho, h2, Instr.fieldAt, run_underlying ht, hf, Instr.sureAddr, fieldPlace, hs, h0, hadd], ⟨b, off, by rw [Nat.add_assoc], h3⟩⟩

theorem pure_int {k : IntKind} {i : Int} (h : (execOp a.eval o).run P w = .ok (.value (.int k i)) w) (h1 : k.min ≤ i) (h2 : i ≤ k.max) : PureOK P st G w o a (.int k i) := ⟨_, h, rep_int h1 h2⟩
theorem pure_bool {b : Bool} (h : (execOp a.eval o).run P w = .ok (.value (.bool b)) w) : PureOK P st G w o a (.bool b) := ⟨_, h, rep_bool b⟩

theorem bitsK_pos (k : IntKind) : 0 < k.bits := by cases k <;> decide
theorem fdiv_holds {k : IntKind} {i : Int} (m : Nat) (h1 : k.min ≤ i) (h2 : i ≤ k.max) : k.min ≤ i.fdiv (2 ^ m) ∧ i.fdiv (2 ^ m) ≤ k.max := by
  have hp : (0 : Int) < 2 ^ m := Int.pow_pos (by decide)
  rw [Int.fdiv_eq_ediv_of_nonneg _ (Int.le_of_lt hp)]
  have hmin : k.min ≤ 0 := by cases k <;> decide
  have hmax : 0 ≤ k.max := by cases k <;> decide
  have hp1 : (1 : Int) ≤ 2 ^ m := hp
  constructor
  · rw [Int.le_ediv_iff_mul_le hp]
    calc k.min * 2 ^ m ≤ k.min * 1 := Int.mul_le_mul_of_nonpos_left hmin hp1
      _ = k.min := Int.mul_one _
      _ ≤ i := h1
  · rcases Int.lt_or_le i 0 with hi | hi
    · have := Int.ediv_neg_of_neg_of_pos hi hp
      omega
    · have := Int.ediv_le_self (2 ^ m) hi
      omega
theorem tmod_holds {k : IntKind} {i j : Int} (h1 : k.min ≤ i) (h2 : i ≤ k.max) : k.min ≤ i.tmod j ∧ i.tmod j ≤ k.max := by
  have hmin : k.min ≤ 0 := by cases k <;> decide
  have hmax : 0 ≤ k.max := by cases k <;> decide
  rcases Int.le_total 0 i with hi | hi
  · have a1 := Int.tmod_nonneg j hi
    have a2 : i.tmod j ≤ i := by
      have := Int.natAbs_tmod i j; have := Nat.mod_le i.natAbs j.natAbs
      omega
    omega
  · have a1 : i.tmod j ≤ 0 := by
      have := Int.tmod_nonneg (a := -i) j (by omega)
      rw [Int.neg_tmod] at this
      omega
    have a2 : i ≤ i.tmod j := by
      have := Int.natAbs_tmod i j; have := Nat.mod_le i.natAbs j.natAbs
      omega
    omega

theorem toList_mk (l : List UInt8) : (⟨l.toArray⟩ : ByteArray).toList = l := by
  rw [ByteArray.toList_eq]
theorem append_mk (x y : List UInt8) : (⟨x.toArray⟩ : ByteArray) ++ ⟨y.toArray⟩ = ⟨(x ++ y).toArray⟩ := by
  apply ByteArray.ext
  simp
theorem size_mk (x : List UInt8) : (⟨x.toArray⟩ : ByteArray).size = x.length := by simp [ByteArray.size]
end
end Go.Proofs.Ytnhfjdbnkpbbkab
