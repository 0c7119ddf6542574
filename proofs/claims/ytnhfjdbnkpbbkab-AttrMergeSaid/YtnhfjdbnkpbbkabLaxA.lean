/- A reading of the program's memory by content: what values are, without addresses (AV), a frame's state (St), and what one operation does to it (eff). Nothing is proved of the program here. -/
import Derived.WalkKit
import Derived.ProofKit
import Derived.Handy
import Derived.Maps.AppendAt
import Derived.Laws.OwnMore
import Derived.Orders
import Derived.DeepKeys
namespace Go.Proofs.Ytnhfjdbnkpbbkab
set_option linter.unusedVariables false
set_option linter.unusedSimpArgs false
open Go.RowKit

/-- who may append to a slice's row -/
inductive Own where
  | no
  | nil
  | row (a b e : Nat)
deriving DecidableEq

/-- a value by its content -/
inductive AV where
  | skip
  | any
  | bool (b : Bool)
  | int (k : IntKind) (n : Int)
  | str (l : List UInt8)
  | sl (xs : List AV) (o : Own)
  | agg (cs : List AV)
  | tup (vs : List AV)
  | ptr (s off : Nat)
  | eptr (x : AV) (j : Nat)
  | nilptr
  | fn (f : Nat) (caps : List AV)
  | nilfn

/-- the cells of a value -/
def AV.cells : AV → List AV
  | .agg cs => cs
  | v => [v]
def AV.theInt : AV → Int
  | .int _ n => n
  | _ => 0
def AV.theBool : AV → Bool
  | .bool b => b
  | _ => false
def AV.theStr : AV → List UInt8
  | .str l => l
  | _ => []
def AV.theList : AV → List AV
  | .sl xs _ => xs
  | _ => []
/-- a value that lies in one cell -/
def AV.one : AV → Bool
  | .agg _ => false
  | .tup _ => false
  | .skip => false
  | .any => false
  | _ => true
/-- one cell of a list, if it is there -/
def cellAt (cs : List AV) (i : Nat) : AV := (cs[i]?).getD .any

def tsize (P : Program) (t : TypeId) : Nat := P.cellsOf t
def tagg (P : Program) (t : TypeId) : Bool :=
  match P.underlying t with
  | some (.struct _) => true
  | some (.array _ _) => true
  | _ => false

/-- a constant -/
def ofVal1 : Value → AV
  | .bool b => .bool b
  | .int k n => if k.min ≤ n ∧ n ≤ k.max then .int k n else .any
  | .string s => if s.data.toList.length ≤ 9223372036854775807 then .str s.data.toList else .any
  | .pointer none => .nilptr
  | .slice none 0 0 => .sl [] .nil
  | .nilFunc => .nilfn
  | _ => .any
def ofVal : Value → AV
  | .agg cs => if (cs.toList.map ofVal1).all AV.one then .agg (cs.toList.map ofVal1) else .any
  | .tuple vs => if vs.size = 0 then .skip else .any
  | .func (.func f) a b => if a.size = 0 then (if b.size = 0 then .fn f [] else .any) else .any
  | v => ofVal1 v

/-- what is known of a row's owner -/
inductive RowSt where
  | free
  | dead
  | live (tip : Nat)

/-- a frame's state -/
structure St where
  tmps : Nat → AV
  boxes : Nat → Option (List AV)
  rows : Nat → Nat → RowSt

def St.ev (st : St) : Operand → AV
  | .tmp t => st.tmps t
  | .const v => ofVal v
  | .global _ => .any
  | .func f => .fn f []

def upd {α : Type} (f : Nat → α) (k : Nat) (v : α) : Nat → α := fun x => bif x == k then v else f x
def upd2 {α : Type} (f : Nat → Nat → α) (k : Nat × Nat) (v : α) : Nat → Nat → α := fun x y => bif (x == k.1 && y == k.2) then v else f x y

/-- what an operation does -/
structure Eff where
  obl : Prop
  val : AV
  boxes : List (Nat × List AV)
  rows : List ((Nat × Nat) × RowSt)

/-- where an operation looks, and writes: boxes that it reads, boxes that it writes, rows -/
structure Foot where
  rd : List Nat
  wr : List Nat
  nm : List Nat

def updAll (f : Nat → Option (List AV)) : List (Nat × List AV) → Nat → Option (List AV)
  | [] => f
  | (k, c) :: r => updAll (upd f k (some c)) r
def updRows (f : Nat → Nat → RowSt) : List ((Nat × Nat) × RowSt) → Nat → Nat → RowSt
  | [] => f
  | (k, c) :: r => updRows (upd2 f k c) r

def St.put (st : St) (dst : Option Tmp) (v : AV) : St :=
  match dst with
  | some d => { st with tmps := upd st.tmps d v }
  | none => st
def Eff.app (E : Eff) (dst : Option Tmp) (st : St) : St :=
  { tmps := (match dst with | some d => upd st.tmps d E.val | none => st.tmps), boxes := updAll st.boxes E.boxes, rows := updRows st.rows E.rows }

/-- a value, as a type says: a single cell -/
def eta1 (P : Program) (t : TypeId) (x : AV) : AV :=
  match P.underlying t with
  | some (.int k) => .int k x.theInt
  | some .bool => .bool x.theBool
  | some .string => .str x.theStr
  | some (.slice _) => .sl x.theList .no
  | _ => match x with
    | .sl xs _ => .sl xs .no
    | v => v

/-- the types of a type's cells -/
def leaves (P : Program) : Nat → TypeId → List TypeId
  | 0, t => [t]
  | n + 1, t =>
    match P.underlying t with
    | some (.struct fs) => fs.toList.flatMap fun f => leaves P n f.type
    | some (.array m e) => (List.replicate m (leaves P n e)).flatten
    | _ => [t]
def etaL (P : Program) (cs : List AV) (off : Nat) : List TypeId → List AV
  | [] => []
  | t :: r => eta1 P t (cellAt cs off) :: etaL P cs (off + 1) r
/-- what is read of cells at a type -/
def readAt (P : Program) (t : TypeId) (cs : List AV) (off : Nat) : AV :=
  if tagg P t then .agg (etaL P cs off (leaves P 8 t)) else eta1 P t (cellAt cs off)

def boolOf (p : Prop) [Decidable p] : AV := .bool (decide p)

def intBits (op : BinOp) (k : IntKind) (x y : Int) : Int :=
  let a := BitVec.ofInt k.bits x
  let b := BitVec.ofInt k.bits y
  match op with
  | .and => k.wrap (a &&& b).toNat
  | .or => k.wrap (a ||| b).toNat
  | .xor => k.wrap (a ^^^ b).toNat
  | .andNot => k.wrap (a &&& ~~~b).toNat
  | _ => 0

/-- two lists of plain cells are the same -/
def AV.same : AV → AV → Bool
  | .bool a, .bool b => a == b
  | .int _ a, .int _ b => a == b
  | .str a, .str b => a == b
  | _, _ => false
def sameCells : List AV → List AV → Bool
  | [], [] => true
  | a :: x, b :: y => a.same b && sameCells x y
  | _, _ => false

/-- the leaves of a value's cells, as a type tells them -/
def mapO {α β : Type} (f : α → Option β) : List α → Option (List β)
  | [] => some []
  | x :: r => match f x, mapO f r with
    | some y, some s => some (y :: s)
    | _, _ => none
def avLits (P : Program) : Nat → TypeId → List AV → Option (List AV)
  | 0, _, _ => none
  | d + 1, t, cs =>
    match P.underlying t, cs with
    | some .bool, [.bool b] => some [.bool b]
    | some (.int q), [.int q' n] => if q' = q then some [.int q n] else none
    | some .string, [.str s] => some [.str s]
    | some (.array n e), cs => if cs.length = P.cellsOf t then (mapO (fun i => avLits P d e ((cs.drop (i * P.cellsOf e)).take (P.cellsOf e))) (List.range n)).map List.flatten else none
    | some (.struct fs), cs => if cs.length = P.cellsOf t then (mapO (fun (f : Field) => avLits P d f.type ((cs.drop f.offset).take (P.cellsOf f.type))) fs.toList).map List.flatten else none
    | _, _ => none
def aggEq (P : Program) (t : TypeId) (a b : List AV) : Option Bool :=
  if P.keyTypeAt 8 t = true ∧ tagg P t = true ∧ a.length = tsize P t ∧ b.length = tsize P t then
    match avLits P 8 t a, avLits P 8 t b with
    | some x, some y => some (sameCells x y)
    | _, _ => none
  else none

def abin (P : Program) (op : BinOp) (xT : TypeId) (x y : AV) : Option (Prop × AV) :=
  match op, x, y with
  | .shl, .int k a, .int _ b => some (0 ≤ b, .int k (k.wrap (a * 2 ^ (min b.toNat k.bits))))
  | .shr, .int k a, .int _ b => some (0 ≤ b, .int k (a.fdiv (2 ^ (min b.toNat k.bits))))
  | .add, .int k a, .int k' b => if k = k' then some (True, .int k (k.wrap (a + b))) else none
  | .sub, .int k a, .int k' b => if k = k' then some (True, .int k (k.wrap (a - b))) else none
  | .mul, .int k a, .int k' b => if k = k' then some (True, .int k (k.wrap (a * b))) else none
  | .quo, .int k a, .int k' b => if k = k' then some (b ≠ 0, .int k (k.wrap (a.tdiv b))) else none
  | .rem, .int k a, .int k' b => if k = k' then some (b ≠ 0, .int k (a.tmod b)) else none
  | .and, .int k a, .int k' b => if k = k' then some (True, .int k (intBits .and k a b)) else none
  | .or, .int k a, .int k' b => if k = k' then some (True, .int k (intBits .or k a b)) else none
  | .xor, .int k a, .int k' b => if k = k' then some (True, .int k (intBits .xor k a b)) else none
  | .andNot, .int k a, .int k' b => if k = k' then some (True, .int k (intBits .andNot k a b)) else none
  | .eql, .int k a, .int k' b => if k = k' then some (True, .bool (a == b)) else none
  | .neq, .int k a, .int k' b => if k = k' then some (True, .bool (a != b)) else none
  | .lss, .int k a, .int k' b => if k = k' then some (True, .bool (decide (a < b))) else none
  | .leq, .int k a, .int k' b => if k = k' then some (True, .bool (decide (a ≤ b))) else none
  | .gtr, .int k a, .int k' b => if k = k' then some (True, .bool (decide (b < a))) else none
  | .geq, .int k a, .int k' b => if k = k' then some (True, .bool (decide (b ≤ a))) else none
  | .add, .str a, .str b => some (a.length + b.length ≤ 9223372036854775807, .str (a ++ b))
  | .eql, .str a, .str b => some (True, .bool (a == b))
  | .neq, .str a, .str b => some (True, .bool (!(a == b)))
  | .eql, .bool a, .bool b => match P.underlying xT with | some .bool => some (True, .bool (a == b)) | _ => none
  | .neq, .bool a, .bool b => match P.underlying xT with | some .bool => some (True, .bool (!(a == b))) | _ => none
  | .eql, .agg a, .agg b => (aggEq P xT a b).map fun r => (True, .bool r)
  | .neq, .agg a, .agg b => (aggEq P xT a b).map fun r => (True, .bool (!r))
  | _, _, _ => none

def aun (op : UnOp) (x : AV) : Option (Prop × AV) :=
  match op, x with
  | .neg, .int k n => some (True, .int k (k.wrap (0 - n)))
  | .xor, .int k n => some (True, .int k (intBits .xor k (if k.signed then -1 else k.max) n))
  | .not, .bool b => some (True, .bool (!b))
  | _, _ => none

def AV.byte : AV → UInt8
  | .int _ n => UInt8.ofNat n.toNat
  | _ => 0
def byteAV (b : UInt8) : AV := .int .u8 (b.toNat : Int)
def AV.isByte : AV → Bool
  | .int .u8 _ => true
  | _ => false

def amax (x y : AV) : Option AV :=
  match x, y with
  | .int k a, .int k' b => if k = k' then some (.int k (if b > a then b else a)) else none
  | _, _ => none
def amin (x y : AV) : Option AV :=
  match x, y with
  | .int k a, .int k' b => if k = k' then some (.int k (if b < a then b else a)) else none
  | _, _ => none
def foldAV (f : AV → AV → Option AV) : AV → List AV → Option AV
  | a, [] => some a
  | a, b :: r => match f a b with | some c => foldAV f c r | none => none

/-- a pick between two values: into the value, where its kind is known -/
def pickAV (c : Bool) (x y : AV) : AV :=
  match x, y with
  | .bool a, .bool b => .bool (cond c a b)
  | .int k a, .int k' b => if k = k' then .int k (cond c a b) else cond c x y
  | .str a, .str b => .str (cond c a b)
  | .sl a .no, .sl b .no => .sl (cond c a b) .no
  | _, _ => cond c x y
theorem pickAV_eq (c : Bool) (x y : AV) : pickAV c x y = cond c x y := by
  unfold pickAV
  split
  · cases c <;> rfl
  · split
    · rename_i h; subst h; cases c <;> rfl
    · rfl
  · cases c <;> rfl
  · cases c <;> rfl
  · rfl
/-- the cell at a place -/
def pickFrom (j : Nat) : List AV → Nat → AV
  | [], _ => .any
  | [c], _ => c
  | c :: d :: r, off => pickAV (Nat.beq off j) c (pickFrom (j + 1) (d :: r) off)
theorem pickFrom_eq : ∀ (cs : List AV) (j off : Nat), j ≤ off → off < j + cs.length → pickFrom j cs off = cellAt cs (off - j)
  | [], j, off, h1, h2 => by simp at h2; omega
  | [c], j, off, h1, h2 => by
    simp at h2
    have : off - j = 0 := by omega
    rw [this]; rfl
  | c :: d :: r, j, off, h1, h2 => by
    simp only [pickFrom]
    rw [pickAV_eq]
    by_cases h : off = j
    · subst h
      simp [cellAt]
    · have hb : Nat.beq off j = false := by
        cases hq : Nat.beq off j with
        | false => rfl
        | true => exact absurd (Nat.eq_of_beq_eq_true hq) h
      rw [hb]
      simp only [cond_false]
      rw [pickFrom_eq (d :: r) (j + 1) off (by omega) (by simp at h2 ⊢; omega)]
      unfold cellAt
      rw [show off - j = (off - (j + 1)) + 1 from by omega, List.getElem?_cons_succ]
def subAV (cs : List AV) (off n : Nat) : List AV := (List.range n).map fun k => pickFrom 0 cs (off + k)
theorem subAV_eq (cs : List AV) (off n : Nat) (h : off + n ≤ cs.length) : subAV cs off n = (cs.drop off).take n := by
  apply List.ext_getElem?
  intro i
  unfold subAV
  simp only [List.getElem?_map, List.getElem?_take, List.getElem?_drop]
  by_cases hi : i < n
  · rw [if_pos hi, List.getElem?_range hi]
    simp only [Option.map_some]
    rw [pickFrom_eq cs 0 (off + i) (by omega) (by omega)]
    unfold cellAt
    rw [Nat.sub_zero, List.getElem?_eq_getElem (by omega)]
    rfl
  · rw [if_neg hi, List.getElem?_eq_none (by simp; omega)]
    rfl
def putAt (j off k : Nat) : List AV → AV → AV
  | [], c => c
  | v :: vs, c => pickAV (Nat.beq (off + k) j) v (putAt j off (k + 1) vs c)
def spliceFrom (j : Nat) : List AV → Nat → List AV → List AV
  | [], _, _ => []
  | c :: r, off, vs => putAt j off 0 vs c :: spliceFrom (j + 1) r off vs
theorem putAt_eq : ∀ (vs : List AV) (j off k : Nat) (c : AV), putAt j off k vs c = if off + k ≤ j ∧ j < off + k + vs.length then cellAt vs (j - (off + k)) else c
  | [], j, off, k, c => by simp [putAt]; intro h1 h2; omega
  | v :: vs, j, off, k, c => by
    simp only [putAt]
    rw [pickAV_eq, putAt_eq vs j off (k + 1) c]
    by_cases h : off + k = j
    · subst h
      simp [cellAt]
    · have hb : Nat.beq (off + k) j = false := by
        cases hq : Nat.beq (off + k) j with
        | false => rfl
        | true => exact absurd (Nat.eq_of_beq_eq_true hq) h
      rw [hb]
      simp only [cond_false, List.length_cons]
      by_cases h1 : off + (k + 1) ≤ j ∧ j < off + (k + 1) + vs.length
      · rw [if_pos h1, if_pos (by omega)]
        unfold cellAt
        rw [show j - (off + k) = (j - (off + (k + 1))) + 1 from by omega, List.getElem?_cons_succ]
      · rw [if_neg h1, if_neg (by omega)]
theorem spliceFrom_get : ∀ (cs : List AV) (j off : Nat) (vs : List AV) (i : Nat), (spliceFrom j cs off vs)[i]? = (cs[i]?).map (putAt (j + i) off 0 vs)
  | [], j, off, vs, i => by simp [spliceFrom]
  | c :: cs, j, off, vs, 0 => by simp [spliceFrom]
  | c :: cs, j, off, vs, i + 1 => by
    simp only [spliceFrom, List.getElem?_cons_succ]
    rw [spliceFrom_get cs (j + 1) off vs i, show j + 1 + i = j + (i + 1) from by omega]

/-- parts into cells -/
def spliceL (cs : List AV) (off : Nat) (vs : List AV) : List AV := cs.take off ++ vs ++ cs.drop (off + vs.length)
theorem splice_eq (cs : List AV) (off : Nat) (vs : List AV) (h : off + vs.length ≤ cs.length) : spliceFrom 0 cs off vs = spliceL cs off vs := by
  apply List.ext_getElem?
  intro i
  rw [spliceFrom_get, Nat.zero_add]
  unfold spliceL
  have hl : (cs.take off).length = off := by simp; omega
  rw [List.append_assoc]
  rcases Nat.lt_or_ge i off with h1 | h1
  · rw [List.getElem?_append_left (by omega), List.getElem?_take, if_pos h1]
    cases hc : cs[i]? with
    | none => rfl
    | some c => simp only [Option.map_some]; rw [putAt_eq, if_neg (by omega)]
  · rw [List.getElem?_append_right (by omega), hl]
    rcases Nat.lt_or_ge i (off + vs.length) with h2 | h2
    · rw [List.getElem?_append_left (by omega), List.getElem?_eq_getElem (by omega : i < cs.length)]
      simp only [Option.map_some]
      rw [putAt_eq, if_pos (by omega)]
      unfold cellAt
      rw [Nat.add_zero, List.getElem?_eq_getElem (by omega)]
      rfl
    · rw [List.getElem?_append_right (by omega), List.getElem?_drop, show off + vs.length + (i - off - vs.length) = i from by omega]
      cases hc : cs[i]? with
      | none => rfl
      | some c => simp only [Option.map_some]; rw [putAt_eq, if_neg (by omega)]
def fillAV (place : Nat → Option (Nat × Nat)) (cs : List AV) : List (Nat × AV) → Option (List AV)
  | [] => some cs
  | (i, v) :: r =>
    match place i with
    | none => none
    | some (off, size) => if v.cells.length = size ∧ off + v.cells.length ≤ cs.length then fillAV place (spliceL cs off v.cells) r else none

def zeroAV (P : Program) (t : TypeId) : Option AV :=
  match P.info? t with
  | some i => i.zero.map ofVal
  | none => none

def allOne (cs : List AV) : Bool := cs.all AV.one

end Go.Proofs.Ytnhfjdbnkpbbkab
