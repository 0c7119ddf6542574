/- Operators, conversions, cuts, fields and places: a real world does what the reading by content says. -/
import Derived.Test.YtnhfjdbnkpbbkabLaxF
namespace Go.Proofs.Ytnhfjdbnkpbbkab
set_option linter.unusedVariables false
set_option linter.unusedSimpArgs false
open Go.RowKit

section
variable {P : Program} {n : Nat} {w0 : World} {own : OwnP} {st st' : St} {G G' : Gh} {a : Act} {w w' : World} {o : Oper}

theorem run_bin {op : BinOp} {xT yT : TypeId} {x y : Operand} (ho : o.op = .binOp op xT x y yT) {r : Value} (h1 : (eqGuard op xT x y (a.eval x) (a.eval y)).run P w = .ok () w) (h2 : (binOp op xT (a.eval x) (a.eval y)).run P w = .ok r w) :
    (execOp a.eval o).run P w = .ok (.value r) w := by
  simp [execOp, ho, h1, h2]
theorem guard_int {op : BinOp} {xT : TypeId} {x y : Operand} {k k' : IntKind} {i j : Int} : (eqGuard op xT x y (.int k i) (.int k' j)).run P w = .ok () w := by
  unfold eqGuard; split <;> rfl
theorem guard_str {op : BinOp} {xT : TypeId} {x y : Operand} {i j : ByteArray} : (eqGuard op xT x y (.string i) (.string j)).run P w = .ok () w := by
  unfold eqGuard; split <;> rfl
theorem guard_bool {op : BinOp} {xT : TypeId} {x y : Operand} {i j : Bool} : (eqGuard op xT x y (.bool i) (.bool j)).run P w = .ok () w := by
  unfold eqGuard; split <;> rfl
theorem guard_agg {op : BinOp} {xT : TypeId} {x y : Operand} {i j : Array Value} (h : P.eqGuardType P.depth xT = false) : (eqGuard op xT x y (.agg i) (.agg j)).run P w = .ok () w := by
  unfold eqGuard; split <;> first | rfl | simp [h]

theorem str_add {x y : List UInt8} (h : x.length + y.length ≤ 9223372036854775807) : (Op.stringOp .add ⟨x.toArray⟩ ⟨y.toArray⟩).run P w = .ok (.string ⟨(x ++ y).toArray⟩) w := by
  have h1 : ¬ (((⟨x.toArray⟩ : ByteArray).size + (⟨y.toArray⟩ : ByteArray).size : Nat) : Int) > IntKind.i64.max := by
    rw [size_mk, size_mk]
    have : IntKind.i64.max = 9223372036854775807 := by decide
    omega
  simp only [Op.stringOp, h1, if_false, append_mk]
  rfl
theorem byte_get {l : List UInt8} {j : Nat} (h : j < l.length) : (⟨l.toArray⟩ : ByteArray)[j]? = some (l.getD j 0) := by
  have h1 : j < (⟨l.toArray⟩ : ByteArray).size := by rw [size_mk]; exact h
  rw [getElem?_pos (⟨l.toArray⟩ : ByteArray) j h1]
  have : (⟨l.toArray⟩ : ByteArray)[j] = l[j] := rfl
  rw [this]
  simp [h]

theorem pure_bin {op : BinOp} {xT yT : TypeId} {x y : Operand} {p : Prop} {v : AV} (hR : Rel P n w0 own st G a w) (ho : o.op = .binOp op xT x y yT) (he : abin P op xT (st.ev x) (st.ev y) = some (p, v)) (hp : p) : PureOK P st G w o a v := by
  have hx := hR.ev x
  have hy := hR.ev y
  generalize st.ev x = X at *
  generalize st.ev y = Y at *
  generalize hu : a.eval x = u at *
  generalize hv : a.eval y = z at *
  have R : ∀ {r : Value}, (eqGuard op xT x y u z).run P w = .ok () w → (binOp op xT u z).run P w = .ok r w → (execOp a.eval o).run P w = .ok (.value r) w := by
    intro r h1 h2
    exact run_bin ho (by rw [hu, hv]; exact h1) (by rw [hu, hv]; exact h2)
  unfold abin at he
  split at he
  -- shifts
  · cases he
    obtain ⟨rfl, b1, b2⟩ := hx.inv_int
    obtain ⟨rfl, _, _⟩ := hy.inv_int
    exact pure_int (R guard_int (by simp [binOp, Op.shift, Int.not_lt.2 hp])) (min_max_holds _ _).1 (min_max_holds _ _).2
  · cases he
    obtain ⟨rfl, b1, b2⟩ := hx.inv_int
    obtain ⟨rfl, _, _⟩ := hy.inv_int
    exact pure_int (R guard_int (by simp [binOp, Op.shift, Int.not_lt.2 hp])) (fdiv_holds _ b1 b2).1 (fdiv_holds _ b1 b2).2
  all_goals try
    (obtain ⟨rfl, b1, b2⟩ := hx.inv_int
     obtain ⟨rfl, b3, b4⟩ := hy.inv_int
     split at he
     · rename_i hk; subst hk
       cases he
       first
         | exact pure_int (R guard_int (by simp [binOp, Op.intArith]; rfl)) (min_max_holds _ _).1 (min_max_holds _ _).2
         | exact pure_int (R guard_int (by simp [binOp, Op.intDiv, hp] <;> rfl)) (min_max_holds _ _).1 (min_max_holds _ _).2
         | exact pure_int (R guard_int (by simp [binOp, Op.intDiv, hp])) (tmod_holds b1 b2).1 (tmod_holds b1 b2).2
         | exact pure_int (R guard_int (by simp [binOp, Op.intBits, intBits]; rfl)) (min_max_holds _ _).1 (min_max_holds _ _).2
         | exact pure_bool (R guard_int (by simp [binOp, Op.intCmp]))
     · cases he)
  · obtain ⟨rfl, b1⟩ := hx.inv_str
    obtain ⟨rfl, b3⟩ := hy.inv_str
    cases he
    exact ⟨_, R guard_str (by simp only [binOp]; exact str_add hp), rep_str (by simpa using hp)⟩
  · obtain ⟨rfl, b1⟩ := hx.inv_str
    obtain ⟨rfl, b3⟩ := hy.inv_str
    cases he
    exact pure_bool (R guard_str (by simp [binOp, Op.stringOp, toList_mk]))
  · obtain ⟨rfl, b1⟩ := hx.inv_str
    obtain ⟨rfl, b3⟩ := hy.inv_str
    cases he
    exact pure_bool (R guard_str (by simp [binOp, Op.stringOp, toList_mk]))
  · have h1 := hx.inv_bool
    have h2 := hy.inv_bool
    subst h1 h2
    split at he
    · rename_i hb
      cases he
      exact pure_bool (R guard_bool (by simp [binOp, run_equal_bool (P := P) w xT _ _ hb]))
    · cases he
  · have h1 := hx.inv_bool
    have h2 := hy.inv_bool
    subst h1 h2
    split at he
    · rename_i hb
      cases he
      exact pure_bool (R guard_bool (by simp [binOp, run_equal_bool (P := P) w xT _ _ hb]))
    · cases he
  · simp only [Option.map_eq_some_iff] at he
    obtain ⟨r, h1, h2⟩ := he
    cases h2
    obtain ⟨e1, e2, xs, ys, rfl, rfl⟩ := run_aggEq hx hy h1
    exact pure_bool (R (guard_agg e2) (by simp [binOp, e1]))
  · simp only [Option.map_eq_some_iff] at he
    obtain ⟨r, h1, h2⟩ := he
    cases h2
    obtain ⟨e1, e2, xs, ys, rfl, rfl⟩ := run_aggEq hx hy h1
    exact pure_bool (R (guard_agg e2) (by simp [binOp, e1]))
  · cases he

theorem pure_un {op : UnOp} {xT : TypeId} {x : Operand} {p : Prop} {v : AV} (hR : Rel P n w0 own st G a w) (ho : o.op = .unOp op xT x) (he : aun op (st.ev x) = some (p, v)) : PureOK P st G w o a v := by
  have hx := hR.ev x
  generalize st.ev x = X at *
  generalize hu : a.eval x = u at *
  unfold aun at he
  split at he
  · obtain ⟨rfl, b1, b2⟩ := hx.inv_int
    cases he
    exact pure_int (by simp [execOp, ho, hu, Op.unary, Op.intArith]) (min_max_holds _ _).1 (min_max_holds _ _).2
  · obtain ⟨rfl, b1, b2⟩ := hx.inv_int
    cases he
    exact pure_int (by simp [execOp, ho, hu, Op.unary, Op.intBits, intBits]) (min_max_holds _ _).1 (min_max_holds _ _).2
  · have := hx.inv_bool
    subst this
    cases he
    exact pure_bool (by simp [execOp, ho, hu, Op.unary])
  · cases he

theorem pure_convInt {x : Operand} {s t : TypeId} {d : TypeDesc} {k k' : IntKind} {i : Int} (hR : Rel P n w0 own st G a w) (ho : o.op = .convert s t x) (hs : P.underlying s = some d) (ht : P.underlying t = some (.int k)) (hx : st.ev x = .int k' i) :
    PureOK P st G w o a (.int k (k.wrap i)) := by
  have h1 := hR.ev x
  rw [hx] at h1
  obtain ⟨h2, _, _⟩ := h1.inv_int
  exact pure_int (by simp [execOp, ho, h2, convert, run_underlying hs, run_underlying ht, Conv.intToInt]) (min_max_holds _ _).1 (min_max_holds _ _).2
theorem pure_convStr {x : Operand} {s t : TypeId} {l : List UInt8} (hR : Rel P n w0 own st G a w) (ho : o.op = .convert s t x) (hs : P.underlying s = some .string) (ht : P.underlying t = some .string) (hx : st.ev x = .str l) :
    PureOK P st G w o a (.str l) := by
  have h1 := hR.ev x
  rw [hx] at h1
  obtain ⟨h2, h3⟩ := h1.inv_str
  exact ⟨_, by simp [execOp, ho, h2, convert, run_underlying hs, run_underlying ht], rep_str h3⟩

theorem pure_index {x i : Operand} {t : TypeId} {l : List UInt8} {k : IntKind} {j : Int} (hR : Rel P n w0 own st G a w) (ho : o.op = .index t x i) (ht : P.underlying t = some .string) (hx : st.ev x = .str l) (hi : st.ev i = .int k j)
    (h0 : 0 ≤ j) (h1 : j < l.length) : PureOK P st G w o a (byteAV (l.getD j.toNat 0)) := by
  have e1 := hR.ev x
  have e2 := hR.ev i
  rw [hx] at e1
  rw [hi] at e2
  obtain ⟨e3, _⟩ := e1.inv_str
  obtain ⟨e4, _, _⟩ := e2.inv_int
  have hlt : j.toNat < l.length := by omega
  have hg := byte_get hlt
  refine ⟨.int .u8 ((l.getD j.toNat 0).toNat : Int), ?_, ?_⟩
  · simp [execOp, ho, e3, e4, Instr.index, asIntOf, run_underlying ht, h0, hg]
  · have hb : (l.getD j.toNat 0).toNat < 256 := (l.getD j.toNat 0).toNat_lt
    refine rep_int ?_ ?_
    · have : IntKind.u8.min = 0 := by decide
      omega
    · have : IntKind.u8.max = 255 := by decide
      omega
end
end Go.Proofs.Ytnhfjdbnkpbbkab
