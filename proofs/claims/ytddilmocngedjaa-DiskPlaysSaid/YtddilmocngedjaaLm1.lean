/- Reading a program by content: the framework, part Lm1. -/
import Derived.WalkKit
import Derived.ProofKit
import Derived.Handy
import Derived.Maps.AppendAt
import Derived.Laws.OwnMore
import Derived.Orders
import Derived.DeepKeys
import Derived.Deep.MidRow
import Derived.Lib.SliceRun
/- A reading of the program's memory by content: what values are, without addresses (AV), a frame's state (St), and what one operation does to it (eff). Nothing is proved of the program here. -/
namespace Go.Proofs.Ytddilmocngedjaa
set_option linter.unusedVariables false
set_option linter.unusedSimpArgs false
open Go.RowKit

inductive Own where
  | no
  | nil
  | row (a b e : Nat)
deriving DecidableEq

inductive AV where
  | skip
  | any
  | bool (b : Bool)
  | int (k : IntKind) (n : Int)
  | str (l : List UInt8)
  | sl (xs : List AV) (o : Own)
  | agg (cs : List AV)
  | tup (vs : List AV)
  | ptr (s off : Nat)
  | eptr (x : AV) (j : Nat)
  | nilptr
  | fn (f : Nat) (caps : List AV)
  | nilfn
  | vec (s off n : Nat) (p : Bool)

def AV.cells : AV → List AV
  | .agg cs => cs
  | v => [v]
def AV.theInt : AV → Int
  | .int _ n => n
  | _ => 0
def AV.theBool : AV → Bool
  | .bool b => b
  | _ => false
def AV.theStr : AV → List UInt8
  | .str l => l
  | _ => []
def AV.theList : AV → List AV
  | .sl xs _ => xs
  | _ => []
def AV.one : AV → Bool
  | .agg _ => false
  | .tup _ => false
  | .skip => false
  | .any => false
  | _ => true
def cellAt (cs : List AV) (i : Nat) : AV := (cs[i]?).getD .any

def tsize (P : Program) (t : TypeId) : Nat := P.cellsOf t
def tagg (P : Program) (t : TypeId) : Bool :=
  match P.underlying t with
  | some (.struct _) => true
  | some (.array _ _) => true
  | _ => false

def ofVal1 : Value → AV
  | .bool b => .bool b
  | .int k n => if k.min ≤ n ∧ n ≤ k.max then .int k n else .any
  | .string s => if s.data.toList.length ≤ 9223372036854775807 then .str s.data.toList else .any
  | .pointer none => .nilptr
  | .slice none 0 0 => .sl [] .nil
  | .nilFunc => .nilfn
  | _ => .any
def ofVal : Value → AV
  | .agg cs => if (cs.toList.map ofVal1).all AV.one then .agg (cs.toList.map ofVal1) else .any
  | .tuple vs => if vs.size = 0 then .skip else .any
  | .func (.func f) a b => if a.size = 0 then (if b.size = 0 then .fn f [] else .any) else .any
  | v => ofVal1 v

inductive RowSt where
  | free
  | dead
  | live (tip : Nat)

structure St where
  tmps : Nat → AV
  boxes : Nat → Option (List AV)
  rows : Nat → Nat → RowSt

def St.ev (st : St) : Operand → AV
  | .tmp t => st.tmps t
  | .const v => ofVal v
  | .global _ => .any
  | .func f => .fn f []

def upd {α : Type} (f : Nat → α) (k : Nat) (v : α) : Nat → α := fun x => bif x == k then v else f x
def upd2 {α : Type} (f : Nat → Nat → α) (k : Nat × Nat) (v : α) : Nat → Nat → α := fun x y => bif (x == k.1 && y == k.2) then v else f x y

structure Eff where
  obl : Prop
  val : AV
  boxes : List (Nat × List AV)
  rows : List ((Nat × Nat) × RowSt)

structure Foot where
  rd : List Nat
  wr : List Nat
  nm : List Nat

def updAll (f : Nat → Option (List AV)) : List (Nat × List AV) → Nat → Option (List AV)
  | [] => f
  | (k, c) :: r => updAll (upd f k (some c)) r
def updRows (f : Nat → Nat → RowSt) : List ((Nat × Nat) × RowSt) → Nat → Nat → RowSt
  | [] => f
  | (k, c) :: r => updRows (upd2 f k c) r

def St.put (st : St) (dst : Option Tmp) (v : AV) : St :=
  match dst with
  | some d => { st with tmps := upd st.tmps d v }
  | none => st
def Eff.app (E : Eff) (dst : Option Tmp) (st : St) : St :=
  { tmps := (match dst with | some d => upd st.tmps d E.val | none => st.tmps), boxes := updAll st.boxes E.boxes, rows := updRows st.rows E.rows }

def leaves (P : Program) : Nat → TypeId → List TypeId
  | 0, t => [t]
  | n + 1, t =>
    match P.underlying t with
    | some (.struct fs) => fs.toList.flatMap fun f => leaves P n f.type
    | some (.array m e) => (List.replicate m (leaves P n e)).flatten
    | _ => [t]
inductive Kd where
  | int (k : IntKind)
  | bool
  | str
  | sl
  | oth
def leafKd (P : Program) (t : TypeId) : Kd :=
  match P.underlying t with
  | some (.int k) => .int k
  | some .bool => .bool
  | some .string => .str
  | some (.slice _) => .sl
  | _ => .oth
def kdsOf (P : Program) (t : TypeId) : List Kd := (leaves P 8 t).map (leafKd P)
def rdInt (x : AV) (j : Nat) : Int := (cellAt x.cells j).theInt
def rdBool (x : AV) (j : Nat) : Bool := (cellAt x.cells j).theBool
def rdStr (x : AV) (j : Nat) : List UInt8 := (cellAt x.cells j).theStr
def rdList (x : AV) (j : Nat) : List AV := (cellAt x.cells j).theList
def rdOth (x : AV) (j : Nat) : AV := match cellAt x.cells j with | .sl xs _ => .sl xs .no | v => v
def etaK (kd : Kd) (x : AV) (j : Nat) : AV :=
  match kd with
  | .int k => .int k (rdInt x j)
  | .bool => .bool (rdBool x j)
  | .str => .str (rdStr x j)
  | .sl => .sl (rdList x j) .no
  | .oth => rdOth x j
def etaKs (x : AV) : List Kd → Nat → List AV
  | [], _ => []
  | kd :: r, j => etaK kd x j :: etaKs x r (j + 1)
def okRead (ks : List Kd) (x : AV) (j : Nat) : Prop := ∀ (i : Nat) kd, ks[i]? = some kd → x.cells[j + i]? = some (etaK kd x (j + i))
def readK (P : Program) (t : TypeId) (x : AV) (j : Nat) : AV :=
  if tagg P t then .agg (etaKs x (kdsOf P t) j) else match kdsOf P t with | [kd] => etaK kd x j | _ => .any
def elemAt (xs : List AV) (i : Nat) : AV := cellAt xs i
def catL {α : Type} (xs ys : List α) : List α := xs ++ ys
def cutL {α : Type} (xs : List α) (i j : Nat) : List α := (xs.take j).drop i
def okElem (n : Nat) (xs : List AV) (i : Nat) : Prop := (elemAt xs i).cells.length = n
def okWidth (n : Nat) (xs : List AV) : Prop := ∀ x ∈ xs, x.cells.length = n

def boolOf (p : Prop) [Decidable p] : AV := .bool (decide p)

def intBits (op : BinOp) (k : IntKind) (x y : Int) : Int :=
  let a := BitVec.ofInt k.bits x
  let b := BitVec.ofInt k.bits y
  match op with
  | .and => k.wrap (a &&& b).toNat
  | .or => k.wrap (a ||| b).toNat
  | .xor => k.wrap (a ^^^ b).toNat
  | .andNot => k.wrap (a &&& ~~~b).toNat
  | _ => 0

def AV.same : AV → AV → Bool
  | .bool a, .bool b => a == b
  | .int _ a, .int _ b => a == b
  | .str a, .str b => a == b
  | _, _ => false
def sameCells : List AV → List AV → Bool
  | [], [] => true
  | a :: x, b :: y => a.same b && sameCells x y
  | _, _ => false

def putL (cs : List AV) (i : Nat) (c : AV) : List AV := cs.take i ++ [c] ++ cs.drop (i + 1)
def mapO {α β : Type} (f : α → Option β) : List α → Option (List β)
  | [] => some []
  | x :: r => match f x, mapO f r with
    | some y, some s => some (y :: s)
    | _, _ => none
def avLits (P : Program) : Nat → TypeId → List AV → Option (List AV)
  | 0, _, _ => none
  | d + 1, t, cs =>
    match P.underlying t, cs with
    | some .bool, [.bool b] => some [.bool b]
    | some (.int q), [.int q' n] => if q' = q then some [.int q n] else none
    | some .string, [.str s] => some [.str s]
    | some (.array n e), cs => if cs.length = P.cellsOf t then (mapO (fun i => avLits P d e ((cs.drop (i * P.cellsOf e)).take (P.cellsOf e))) (List.range n)).map List.flatten else none
    | some (.struct fs), cs => if cs.length = P.cellsOf t then (mapO (fun (f : Field) => avLits P d f.type ((cs.drop f.offset).take (P.cellsOf f.type))) fs.toList).map List.flatten else none
    | _, _ => none
def aggEq (P : Program) (t : TypeId) (a b : List AV) : Option Bool :=
  if P.keyTypeAt 8 t = true ∧ tagg P t = true ∧ a.length = tsize P t ∧ b.length = tsize P t then
    match avLits P 8 t a, avLits P 8 t b with
    | some x, some y => some (sameCells x y)
    | _, _ => none
  else none

def abin (P : Program) (op : BinOp) (xT : TypeId) (x y : AV) : Option (Prop × AV) :=
  match op, x, y with
  | .shl, .int k a, .int _ b => some (0 ≤ b, .int k (k.wrap (a * 2 ^ (min b.toNat k.bits))))
  | .shr, .int k a, .int _ b => some (0 ≤ b, .int k (a.fdiv (2 ^ (min b.toNat k.bits))))
  | .add, .int k a, .int k' b => if k = k' then some (True, .int k (k.wrap (a + b))) else none
  | .sub, .int k a, .int k' b => if k = k' then some (True, .int k (k.wrap (a - b))) else none
  | .mul, .int k a, .int k' b => if k = k' then some (True, .int k (k.wrap (a * b))) else none
  | .quo, .int k a, .int k' b => if k = k' then some (b ≠ 0, .int k (k.wrap (a.tdiv b))) else none
  | .rem, .int k a, .int k' b => if k = k' then some (b ≠ 0, .int k (a.tmod b)) else none
  | .and, .int k a, .int k' b => if k = k' then some (True, .int k (intBits .and k a b)) else none
  | .or, .int k a, .int k' b => if k = k' then some (True, .int k (intBits .or k a b)) else none
  | .xor, .int k a, .int k' b => if k = k' then some (True, .int k (intBits .xor k a b)) else none
  | .andNot, .int k a, .int k' b => if k = k' then some (True, .int k (intBits .andNot k a b)) else none
  | .eql, .int k a, .int k' b => if k = k' then some (True, .bool (a == b)) else none
  | .neq, .int k a, .int k' b => if k = k' then some (True, .bool (a != b)) else none
  | .lss, .int k a, .int k' b => if k = k' then some (True, .bool (decide (a < b))) else none
  | .leq, .int k a, .int k' b => if k = k' then some (True, .bool (decide (a ≤ b))) else none
  | .gtr, .int k a, .int k' b => if k = k' then some (True, .bool (decide (b < a))) else none
  | .geq, .int k a, .int k' b => if k = k' then some (True, .bool (decide (b ≤ a))) else none
  | .add, .str a, .str b => some (a.length + b.length ≤ 9223372036854775807, .str (catL a b))
  | .eql, .str a, .str b => some (True, .bool (a == b))
  | .neq, .str a, .str b => some (True, .bool (!(a == b)))
  | .lss, .str a, .str b => some (True, .bool (Op.bytesLess a b))
  | .leq, .str a, .str b => some (True, .bool (Op.bytesLess a b || a == b))
  | .gtr, .str a, .str b => some (True, .bool (!(Op.bytesLess a b || a == b)))
  | .geq, .str a, .str b => some (True, .bool (!Op.bytesLess a b))
  | .eql, .ptr _ _, .nilptr => match P.underlying xT with | some (.pointer _) => some (True, .bool false) | _ => none
  | .neq, .ptr _ _, .nilptr => match P.underlying xT with | some (.pointer _) => some (True, .bool true) | _ => none
  | .eql, .nilptr, .nilptr => match P.underlying xT with | some (.pointer _) => some (True, .bool true) | _ => none
  | .neq, .nilptr, .nilptr => match P.underlying xT with | some (.pointer _) => some (True, .bool false) | _ => none
  | .eql, .sl xs _, .sl [] .nil => match P.underlying xT with | some (.slice _) => some (xs ≠ [], .bool false) | _ => none
  | .eql, .bool a, .bool b => match P.underlying xT with | some .bool => some (True, .bool (a == b)) | _ => none
  | .neq, .bool a, .bool b => match P.underlying xT with | some .bool => some (True, .bool (!(a == b))) | _ => none
  | .eql, .agg a, .agg b => (aggEq P xT a b).map fun r => (True, .bool r)
  | .neq, .agg a, .agg b => (aggEq P xT a b).map fun r => (True, .bool (!r))
  | _, _, _ => none

def aun (op : UnOp) (x : AV) : Option (Prop × AV) :=
  match op, x with
  | .neg, .int k n => some (True, .int k (k.wrap (0 - n)))
  | .xor, .int k n => some (True, .int k (intBits .xor k (if k.signed then -1 else k.max) n))
  | .not, .bool b => some (True, .bool (!b))
  | _, _ => none

def AV.byte : AV → UInt8
  | .int _ n => UInt8.ofNat n.toNat
  | _ => 0
def byteAV (b : UInt8) : AV := .int .u8 (b.toNat : Int)
def bytesAV (l : List UInt8) : List AV := l.map byteAV
def bytesL (xs : List AV) : List UInt8 := xs.map AV.byte
def isBytes (xs : List AV) : Prop := xs = bytesAV (bytesL xs)
def AV.isByte : AV → Bool
  | .int .u8 _ => true
  | _ => false

def amax (x y : AV) : Option AV :=
  match x, y with
  | .int k a, .int k' b => if k = k' then some (.int k (if b > a then b else a)) else none
  | _, _ => none
def amin (x y : AV) : Option AV :=
  match x, y with
  | .int k a, .int k' b => if k = k' then some (.int k (if b < a then b else a)) else none
  | _, _ => none
def foldAV (f : AV → AV → Option AV) : AV → List AV → Option AV
  | a, [] => some a
  | a, b :: r => match f a b with | some c => foldAV f c r | none => none

def pickAV (c : Bool) (x y : AV) : AV :=
  match x, y with
  | .bool a, .bool b => .bool (cond c a b)
  | .int k a, .int k' b => if k = k' then .int k (cond c a b) else cond c x y
  | .str a, .str b => .str (cond c a b)
  | .sl a .no, .sl b .no => .sl (cond c a b) .no
  | _, _ => cond c x y
theorem pickAV_eq (c : Bool) (x y : AV) : pickAV c x y = cond c x y := by
  unfold pickAV
  split
  · cases c <;> rfl
  · split
    · rename_i h; subst h; cases c <;> rfl
    · rfl
  · cases c <;> rfl
  · cases c <;> rfl
  · rfl
def pickFrom (j : Nat) : List AV → Nat → AV
  | [], _ => .any
  | [c], _ => c
  | c :: d :: r, off => pickAV (Nat.beq off j) c (pickFrom (j + 1) (d :: r) off)
theorem pickFrom_eq : ∀ (cs : List AV) (j off : Nat), j ≤ off → off < j + cs.length → pickFrom j cs off = cellAt cs (off - j)
  | [], j, off, h1, h2 => by simp at h2; omega
  | [c], j, off, h1, h2 => by
    simp at h2
    have : off - j = 0 := by omega
    rw [this]; rfl
  | c :: d :: r, j, off, h1, h2 => by
    simp only [pickFrom]
    rw [pickAV_eq]
    by_cases h : off = j
    · subst h
      simp [cellAt]
    · have hb : Nat.beq off j = false := by
        cases hq : Nat.beq off j with
        | false => rfl
        | true => exact absurd (Nat.eq_of_beq_eq_true hq) h
      rw [hb]
      simp only [cond_false]
      rw [pickFrom_eq (d :: r) (j + 1) off (by omega) (by simp at h2 ⊢; omega)]
      unfold cellAt
      rw [show off - j = (off - (j + 1)) + 1 from by omega, List.getElem?_cons_succ]
def subAV (cs : List AV) (off n : Nat) : List AV := (List.range n).map fun k => pickFrom 0 cs (off + k)
theorem subAV_eq (cs : List AV) (off n : Nat) (h : off + n ≤ cs.length) : subAV cs off n = (cs.drop off).take n := by
  apply List.ext_getElem?
  intro i
  unfold subAV
  simp only [List.getElem?_map, List.getElem?_take, List.getElem?_drop]
  by_cases hi : i < n
  · rw [if_pos hi, List.getElem?_range hi]
    simp only [Option.map_some]
    rw [pickFrom_eq cs 0 (off + i) (by omega) (by omega)]
    unfold cellAt
    rw [Nat.sub_zero, List.getElem?_eq_getElem (by omega)]
    rfl
  · rw [if_neg hi, List.getElem?_eq_none (by simp; omega)]
    rfl
def putAt (j off k : Nat) : List AV → AV → AV
  | [], c => c
  | v :: vs, c => pickAV (Nat.beq (off + k) j) v (putAt j off (k + 1) vs c)
def spliceFrom (j : Nat) : List AV → Nat → List AV → List AV
  | [], _, _ => []
  | c :: r, off, vs => putAt j off 0 vs c :: spliceFrom (j + 1) r off vs
theorem putAt_eq : ∀ (vs : List AV) (j off k : Nat) (c : AV), putAt j off k vs c = if off + k ≤ j ∧ j < off + k + vs.length then cellAt vs (j - (off + k)) else c
  | [], j, off, k, c => by simp [putAt]; intro h1 h2; omega
  | v :: vs, j, off, k, c => by
    simp only [putAt]
    rw [pickAV_eq, putAt_eq vs j off (k + 1) c]
    by_cases h : off + k = j
    · subst h
      simp [cellAt]
    · have hb : Nat.beq (off + k) j = false := by
        cases hq : Nat.beq (off + k) j with
        | false => rfl
        | true => exact absurd (Nat.eq_of_beq_eq_true hq) h
      rw [hb]
      simp only [cond_false, List.length_cons]
      by_cases h1 : off + (k + 1) ≤ j ∧ j < off + (k + 1) + vs.length
      · rw [if_pos h1, if_pos (by omega)]
        unfold cellAt
        rw [show j - (off + k) = (j - (off + (k + 1))) + 1 from by omega, List.getElem?_cons_succ]
      · rw [if_neg h1, if_neg (by omega)]
theorem spliceFrom_get : ∀ (cs : List AV) (j off : Nat) (vs : List AV) (i : Nat), (spliceFrom j cs off vs)[i]? = (cs[i]?).map (putAt (j + i) off 0 vs)
  | [], j, off, vs, i => by simp [spliceFrom]
  | c :: cs, j, off, vs, 0 => by simp [spliceFrom]
  | c :: cs, j, off, vs, i + 1 => by
    simp only [spliceFrom, List.getElem?_cons_succ]
    rw [spliceFrom_get cs (j + 1) off vs i, show j + 1 + i = j + (i + 1) from by omega]

def spliceL (cs : List AV) (off : Nat) (vs : List AV) : List AV := cs.take off ++ vs ++ cs.drop (off + vs.length)
theorem splice_eq (cs : List AV) (off : Nat) (vs : List AV) (h : off + vs.length ≤ cs.length) : spliceFrom 0 cs off vs = spliceL cs off vs := by
  apply List.ext_getElem?
  intro i
  rw [spliceFrom_get, Nat.zero_add]
  unfold spliceL
  have hl : (cs.take off).length = off := by simp; omega
  rw [List.append_assoc]
  rcases Nat.lt_or_ge i off with h1 | h1
  · rw [List.getElem?_append_left (by omega), List.getElem?_take, if_pos h1]
    cases hc : cs[i]? with
    | none => rfl
    | some c => simp only [Option.map_some]; rw [putAt_eq, if_neg (by omega)]
  · rw [List.getElem?_append_right (by omega), hl]
    rcases Nat.lt_or_ge i (off + vs.length) with h2 | h2
    · rw [List.getElem?_append_left (by omega), List.getElem?_eq_getElem (by omega : i < cs.length)]
      simp only [Option.map_some]
      rw [putAt_eq, if_pos (by omega)]
      unfold cellAt
      rw [Nat.add_zero, List.getElem?_eq_getElem (by omega)]
      rfl
    · rw [List.getElem?_append_right (by omega), List.getElem?_drop, show off + vs.length + (i - off - vs.length) = i from by omega]
      cases hc : cs[i]? with
      | none => rfl
      | some c => simp only [Option.map_some]; rw [putAt_eq, if_neg (by omega)]
def fillAV (place : Nat → Option (Nat × Nat)) (cs : List AV) : List (Nat × AV) → Option (List AV)
  | [] => some cs
  | (i, v) :: r =>
    match place i with
    | none => none
    | some (off, size) => if v.cells.length = size ∧ off + v.cells.length ≤ cs.length then fillAV place (spliceL cs off v.cells) r else none

def zeroAV (P : Program) (t : TypeId) : Option AV :=
  match P.info? t with
  | some i => i.zero.map ofVal
  | none => none

def allOne (cs : List AV) : Bool := cs.all AV.one

end Go.Proofs.Ytddilmocngedjaa
/- What each operation does, by content (eff), and the verification condition of a function's code (awp). Nothing is proved of the program here. -/
namespace Go.Proofs.Ytddilmocngedjaa
set_option linter.unusedVariables false
set_option linter.unusedSimpArgs false
open Go.RowKit

inductive Arg where
  | val (v : AV)
  | box (cells : List AV)
structure Res where
  val : AV
  box : Option (List AV)
  new : Option (List AV)
abbrev Con := List Arg → Option (Prop × Res)

def AV.dropCell : AV → AV
  | .sl xs (.row _ _ _) => .sl xs .no
  | v => v
def AV.drop : AV → AV
  | .agg cs => .agg (cs.map AV.dropCell)
  | v => v.dropCell
def AV.plainCell : AV → Bool
  | .ptr _ _ => false
  | .eptr _ _ => false
  | .tup _ => false
  | .any => false
  | .skip => false
  | .agg _ => false
  | .fn _ cs => cs.isEmpty
  | .vec _ _ _ _ => false
  | _ => true
def AV.plain (v : AV) : Bool := v.cells.all AV.plainCell

def passCells (R : Nat → Nat → RowSt) : List AV → Prop × List AV × List ((Nat × Nat) × RowSt)
  | [] => (True, [], [])
  | .sl xs (.row a b e) :: r =>
    match R a b with
    | .live tip =>
      let q := passCells (upd2 R (a, b) .dead) r
      (tip = xs.length ∧ q.1, .sl xs (.row a b e) :: q.2.1, ((a, b), .dead) :: q.2.2)
    | _ =>
      let q := passCells R r
      (q.1, .sl xs .no :: q.2.1, q.2.2)
  | c :: r =>
    let q := passCells R r
    (q.1, c :: q.2.1, q.2.2)

def cellNames : List AV → List Nat
  | [] => []
  | .sl _ (.row a _ _) :: r => a :: cellNames r
  | _ :: r => cellNames r

def findPtr : Nat → List AV → List (Nat × Nat × Nat)
  | _, [] => []
  | i, .ptr s off :: r => (i, s, off) :: findPtr (i + 1) r
  | i, _ :: r => findPtr (i + 1) r
def allPlain (k : Nat) : Nat → List AV → Bool
  | _, [] => true
  | i, v :: r => (i == k || v.plain) && allPlain k (i + 1) r
def argsOf (k : Nat) (cs : List AV) : Nat → List AV → List Arg
  | _, [] => []
  | i, v :: r => (if i = k then .box cs else .val v.drop) :: argsOf k cs (i + 1) r

structure Passed where
  obl : Prop
  args : List Arg
  rows : List ((Nat × Nat) × RowSt)
  site : Option (Nat × Nat)

def passArgs (B : Nat → Option (List AV)) (R : Nat → Nat → RowSt) (vs : List AV) : Option Passed :=
  match findPtr 0 vs with
  | [] => if allPlain vs.length 0 vs then some ⟨True, argsOf vs.length [] 0 vs, [], none⟩ else none
  | [(i, s, off)] => match B s with
    | some cs =>
      if (off = 0 ∧ cs.isEmpty = false) ∧ allPlain i 0 vs = true ∧ cs.all AV.plainCell = true then
        let q := passCells R cs
        some ⟨q.1, argsOf i q.2.1 0 vs, q.2.2, some (i, s)⟩
      else none
    | none => none
  | _ => none

def retCell (d n : Nat) : AV → AV
  | .sl xs (.row _ _ e) => .sl xs (.row d n e)
  | c => c
def retCells (d : Nat) : Nat → List AV → List AV
  | _, [] => []
  | n, c :: r => retCell d n c :: retCells d (n + 1) r
def rowOf : AV → Option (Nat × Nat)
  | .sl xs (.row _ _ e) => some (xs.length, e)
  | _ => none
def rowName : AV → Option (Nat × Nat)
  | .sl _ (.row a b _) => some (a, b)
  | _ => none
def retRows (d : Nat) : Nat → List AV → List ((Nat × Nat) × RowSt)
  | _, [] => []
  | n, c :: r => (match rowOf c with | some t => [((d, n), .live t.1)] | none => []) ++ retRows d (n + 1) r
def retPtr (site : Option (Nat × Nat)) (d : Nat) (a : Nat) : Nat :=
  match site with
  | some (i, s) => if a = i then s else d
  | none => d
def retVal1 (site : Option (Nat × Nat)) (d n : Nat) : AV → AV
  | .ptr a off => .ptr (retPtr site d a) off
  | .vec a off m p => .vec (retPtr site d a) off m p
  | .agg cs => .agg (retCells d n cs)
  | c => retCell d n c
def retVals (site : Option (Nat × Nat)) (d : Nat) : Nat → List AV → List AV
  | _, [] => []
  | n, c :: r => retVal1 site d n c :: retVals site d (n + c.cells.length) r
def retVal (site : Option (Nat × Nat)) (d n : Nat) : AV → AV
  | .tup vs => .tup (retVals site d n vs)
  | v => retVal1 site d n v
def AV.cellsT : AV → List AV
  | .tup vs => vs.flatMap AV.cells
  | v => v.cells
def Res.outs (r : Res) : List AV := r.box.getD [] ++ r.new.getD [] ++ r.val.cellsT

def AV.isVec : AV → Bool
  | .vec _ _ _ _ => true
  | .tup (.vec _ _ _ _ :: _) => true
  | _ => false
def newC (v : AV) (d k : Nat) (cs : List AV) : List AV :=
  match v.isVec with
  | true => (match cs with | [.sl xs .no] => xs | cs => retCells d k cs)
  | false => retCells d k cs
def allFree (R : Nat → Nat → RowSt) (d : Nat) : Nat → List AV → Bool
  | _, [] => true
  | n, c :: r => (match rowOf c with | some _ => (match R d n with | .free => true | _ => false) | none => true) && allFree R d (n + 1) r

def siteΓ (Γ : Nat → Option Con) (d f : Nat) : Option Con :=
  bif Nat.blt f 4096 then (match Γ (f + 4096 * (d + 1)) with | some F => some F | none => Γ f) else none
def effCall (Γ : Nat → Option Con) (d : Nat) (f : Nat) (vs : List AV) (st : St) : Option (Foot × Eff) :=
  match siteΓ Γ d f, passArgs st.boxes st.rows vs with
  | some F, some p =>
    match F p.args with
    | some (q, r) =>
      let bl := (r.box.getD []).length
      let nl := (r.new.getD []).length
      let bs := (match p.site, r.box with | some (_, s), some cs => [(s, retCells d 0 cs)] | _, _ => [])
      let ns := (match r.new with | some cs => [(d, newC r.val d bl cs)] | none => [])
      if p.site.isSome = r.box.isSome ∧ allFree st.rows d 0 r.outs = true ∧ (st.boxes d).isNone = true then
        some (⟨[], d :: (findPtr 0 vs).map (fun x => x.2.1), d :: (findPtr 0 vs).flatMap (fun x => cellNames ((st.boxes x.2.1).getD []))⟩,
          ⟨p.obl ∧ q, retVal p.site d (bl + nl) r.val, bs ++ ns, p.rows ++ retRows d 0 r.outs⟩)
      else none
    | none => none
  | _, _ => none

def pureE (v : AV) : Option (Foot × Eff) := some (⟨[], [], []⟩, ⟨True, v, [], []⟩)
def oblE (p : Prop) (v : AV) : Option (Foot × Eff) := some (⟨[], [], []⟩, ⟨p, v, [], []⟩)

def isStrT (P : Program) (t : TypeId) : Bool := match P.underlying t with | some .string => true | _ => false

def bndAV (n : Nat) (lo hi mx : Option AV) : Option (Prop × Nat × Nat) :=
  match lo, hi, mx with
  | none, none, none => some (True, 0, n)
  | some (.int _ l), none, none => some (0 ≤ l ∧ l ≤ n, l.toNat, n)
  | none, some (.int _ h), none => some (0 ≤ h ∧ h ≤ n, 0, h.toNat)
  | some (.int _ l), some (.int _ h), none => some (0 ≤ l ∧ l ≤ h ∧ h ≤ n, l.toNat, h.toNat)
  | none, some (.int _ h), some (.int _ m) => some (0 ≤ h ∧ h ≤ m ∧ m ≤ n, 0, h.toNat)
  | _, _, _ => none

def effLen (P : Program) (t : TypeId) (v : AV) : Option AV :=
  match P.underlying t with
  | some .string => match v with | .str l => some (.int .i64 l.length) | _ => none
  | some (.slice _) => match v with | .sl xs _ => some (.int .i64 xs.length) | .vec _ _ m false => some (.int .i64 m) | _ => none
  | some (.array n _) => if n ≤ 9223372036854775807 then some (.int .i64 n) else none
  | _ => none

def srcOf (P : Program) (t : TypeId) (y : AV) : Option (List AV) :=
  match y with
  | .sl ys _ => match P.underlying t with | some (.slice _) => some ys | _ => none
  | .str l => if isStrT P t then some (bytesAV l) else none
  | _ => none

def strFits (P : Program) (e : TypeId) : AV → Bool
  | .str _ => tsize P e == 1
  | _ => true
def effAppend (P : Program) (d : Nat) (t u : TypeId) (xs : List AV) (o : Own) (y : AV) (st : St) : Option (Foot × Eff) :=
  match P.underlying t with
  | some (.slice e) =>
    match srcOf P u y with
    | some ys =>
      if strFits P e y = true ∧ 0 < tsize P e ∧ ((P.info? e).bind (·.zero)).isSome = true ∧ (zeroAV P e).map (·.cells.length) = some (tsize P e) ∧ (zeroAV P e).map (fun z => allOne z.cells) = some true then
        match o with
        | .nil => match st.rows d 0 with
          | .free => some (⟨[], [], [d]⟩, ⟨ys.length * P.bytesOf e ≤ 140737488355328 ∧ ys.length ≤ 9223372036854775807 ∧ okWidth (tsize P e) ys, .sl ys (.row d 0 e), [], [((d, 0), .live ys.length)]⟩)
          | _ => none
        | .row a b e' => match st.rows a b with
          | .live tip => if e' = e then some (⟨[], [], [a]⟩, ⟨tip = xs.length ∧ (xs.length + ys.length) * P.bytesOf e ≤ 140737488355328 ∧ xs.length + ys.length ≤ 9223372036854775807 ∧ okWidth (tsize P e) xs ∧ okWidth (tsize P e) ys, .sl (catL xs ys) (.row a b e), [], [((a, b), .live (xs.length + ys.length))]⟩) else none
          | _ => none
        | .no => none
      else none
    | none => none
  | _ => none

def effBuiltin (P : Program) (d : Nat) (b : Builtin) (ts : Array TypeId) (vs : List AV) (st : St) : Option (Foot × Eff) :=
  match b, vs with
  | .len, [v] => match ts[0]? with
    | some t => (effLen P t v).bind pureE
    | none => none
  | .max, v :: r => (foldAV amax v r).bind pureE
  | .min, v :: r => (foldAV amin v r).bind pureE
  | .append, [.sl xs o, y] => match ts.toList with
    | [t, u] => effAppend P d t u xs o y st
    | _ => none
  | _, _ => none

def nilCell (P : Program) (d j : Nat) (t : TypeId) : AV → AV
  | .sl xs .nil => match P.underlying t with
    | some (.slice el) => if 0 < tsize P el then .sl xs (.row d j el) else .sl xs .nil
    | _ => .sl xs .nil
  | c => c
def nilCells (P : Program) (d : Nat) : Nat → List TypeId → List AV → List AV
  | j, t :: ts, c :: cs => nilCell P d j t c :: nilCells P d (j + 1) ts cs
  | _, _, cs => cs
def nilRow1 (P : Program) (d j : Nat) (t : TypeId) : AV → List ((Nat × Nat) × RowSt)
  | .sl _ .nil => match P.underlying t with
    | some (.slice el) => if 0 < tsize P el then [((d, j), .live 0)] else []
    | _ => []
  | _ => []
def nilRows (P : Program) (d : Nat) : Nat → List TypeId → List AV → List ((Nat × Nat) × RowSt)
  | j, t :: ts, c :: cs => nilRow1 P d j t c ++ nilRows P d (j + 1) ts cs
  | _, _, _ => []
def freeAll (R : Nat → Nat → RowSt) (d : Nat) : Nat → List AV → Bool
  | _, [] => true
  | n, _ :: r => (match R d n with | .free => true | _ => false) && freeAll R d (n + 1) r

def vecOf : List AV → Option Nat
  | [] => none
  | .vec s _ _ false :: _ => some s
  | _ :: r => vecOf r
def thaw (s : Nat) (cs : List AV) : AV → AV
  | .vec s' off m false => bif (Nat.beq s' s && Nat.beq off 0) then .sl (cutL cs 0 m) .no else .vec s' off m false
  | v => v
def vecFits (s n : Nat) : List AV → Prop
  | [] => True
  | .vec s' _ m false :: r => (bif Nat.beq s' s then m ≤ n else True) ∧ vecFits s n r
  | _ :: r => vecFits s n r
def effFrz (q : Nat) (k : St → List AV → Option (Foot × Eff)) (vs : List AV) (st : St) : Option (Foot × Eff) :=
  match st.boxes q with
  | some cs => match k { tmps := st.tmps, boxes := upd st.boxes q (some []), rows := st.rows } (vs.map (thaw q cs)) with
    | some (ft, E) => some (⟨ft.rd, q :: ft.wr, ft.nm⟩, ⟨E.obl ∧ isBytes cs ∧ vecFits q cs.length vs, E.val, (q, []) :: E.boxes, E.rows⟩)
    | none => none
  | none => none

def isU8 (P : Program) (t : TypeId) : Bool := match P.underlying t with | some (.int .u8) => true | _ => false
def eff (Γ : Nat → Option Con) (P : Program) (o : Oper) (st : St) : Option (Foot × Eff) :=
  let ρ := st.ev
  match o.op with
  | .move x => pureE (ρ x)
  | .assign x => pureE (ρ x)
  | .pick c a b => match ρ c with
    | .bool c => match ρ a, ρ b with
      | .skip, y => oblE (c = false) y
      | x, .skip => oblE (c = true) x
      | x, y => pureE (pickAV c x y)
    | _ => none
  | .alloc e => match o.dst, zeroAV P e with
    | some d, some z => if z.cells.length = tsize P e ∧ allOne z.cells = true ∧ (st.boxes d).isNone = true ∧ freeAll st.rows d 0 z.cells = true then some (⟨[], [d], [d]⟩, ⟨True, .ptr d 0, [(d, nilCells P d 0 (leaves P 8 e) z.cells)], nilRows P d 0 (leaves P 8 e) z.cells⟩) else none
    | _, _ => none
  | .box e v => match o.dst with
    | some d => if allOne (ρ v).cells = true ∧ (st.boxes d).isNone = true ∧ freeAll st.rows d 0 (ρ v).cells = true then some (⟨[], [d], [d]⟩, ⟨True, .ptr d 0, [(d, nilCells P d 0 (leaves P 8 e) (ρ v).cells)], nilRows P d 0 (leaves P 8 e) (ρ v).cells⟩) else none
    | none => none
  | .build t parts => match P.underlying t, zeroAV P t with
    | some (.struct fs), some z => match fillAV (fun i => (fs[i]?).map fun f => (f.offset, tsize P f.type)) z.cells (parts.toList.map fun q => (q.1, ρ q.2)) with
      | some cs => if allOne z.cells = true ∧ allOne cs = true ∧ fs.toList.all (fun f => (P.info? f.type).isSome) = true ∧ parts.toList.all (fun q => allOne (ρ q.2).cells) = true then pureE (.agg cs) else none
      | none => none
    | some (.array _ e), some z => match fillAV (fun i => some (i * tsize P e, tsize P e)) z.cells (parts.toList.map fun q => (q.1, ρ q.2)) with
      | some cs => if allOne z.cells = true ∧ allOne cs = true ∧ (P.info? e).isSome = true ∧ parts.toList.all (fun q => allOne (ρ q.2).cells) = true then pureE (.agg cs) else none
      | none => none
    | _, _ => none
  | .load t a => match ρ a with
    | .ptr s off => match st.boxes s with
      | some cs => if (P.underlying t).isSome = true ∧ (tagg P t = true ∨ tsize P t = 1) then
          some (⟨[s], [], []⟩, ⟨decide (off + tsize P t ≤ cs.length) = true, if tagg P t then .agg (subAV cs off (tsize P t)) else pickFrom 0 cs off, [], []⟩) else none
      | none => none
    | .vec s off m1 true => match st.boxes s with
      | some cs => if isU8 P t = true ∧ tsize P t = 1 ∧ m1 = 1 then some (⟨[s], [], []⟩, ⟨off < cs.length ∧ isBytes cs, .int .u8 (rdInt (elemAt cs off) 0), [], []⟩) else none
      | none => none
    | .eptr x j => if (kdsOf P t).length = tsize P t ∧ (P.underlying t).isSome = true ∧ (tagg P t = true ∨ tsize P t = 1) then oblE (okRead (kdsOf P t) x j) (readK P t x j) else none
    | _ => none
  | .store t a v => match ρ a with
    | .ptr s off => match st.boxes s with
      | some cs => if (ρ v).cells.length = tsize P t ∧ allOne (ρ v).cells = true ∧ tsize P t ≠ 0 then
          some (⟨[], [s], []⟩, ⟨decide (off + tsize P t ≤ cs.length) = true, .skip, [(s, spliceFrom 0 cs off (ρ v).cells)], []⟩) else none
      | none => none
    | .vec s off m1 true => match st.boxes s, ρ v with
      | some cs, .int .u8 m => if tsize P t = 1 ∧ m1 = 1 then some (⟨[], [s], []⟩, ⟨off < cs.length, .skip, [(s, putL cs off (.int .u8 m))], []⟩) else none
      | _, _ => none
    | _ => none
  | .nilCheck x => match ρ x with
    | .ptr s off => pureE (.ptr s off)
    | .eptr y j => pureE (.eptr y j)
    | .vec s off m true => if m = 1 then pureE (.vec s off m true) else none
    | _ => none
  | .binOp op xT x y _ => match abin P op xT (ρ x) (ρ y) with
    | some (p, v) => oblE p v
    | none => none
  | .unOp op _ x => match aun op (ρ x) with
    | some (p, v) => oblE p v
    | none => none
  | .convert s t x => match P.underlying s, P.underlying t, ρ x with
    | some _, some (.int k), .int _ n => pureE (.int k (k.wrap n))
    | some .string, some .string, .str l => pureE (.str l)
    | some (.slice e), some .string, .sl xs _ => match P.underlying e with
      | some (.int .u8) => oblE (isBytes xs) (.str (bytesL xs))
      | _ => none
    | _, _, _ => none
  | .slice t x lo hi mx => match P.underlying t, ρ x with
    | some .string, .str l => match mx with
      | none => match bndAV l.length (lo.map ρ) (hi.map ρ) none with
        | some (p, a, b) => oblE p (.str (cutL l a b))
        | none => none
      | some _ => none
    | some (.slice e), .sl xs _ => if (P.underlying e).isNone then none else match bndAV xs.length (lo.map ρ) (hi.map ρ) (mx.map ρ) with
      | some (p, a, b) => oblE (p ∧ okWidth (tsize P e) xs) (.sl (cutL xs a b) .no)
      | none => none
    | _, _ => none
  | .fieldAddr t x f => match P.underlying t with
    | some (.struct fs) => match fs[f]? with
      | some fd => if tsize P fd.type = 0 then none else match ρ x with
        | .ptr s off => pureE (.ptr s (off + fd.offset))
        | .eptr y j => pureE (.eptr y (j + fd.offset))
        | _ => none
      | none => none
    | _ => none
  | .field t x f => match P.underlying t with
    | some (.struct fs) => match fs[f]?, ρ x with
      | some fd, .agg cs => if fd.offset + tsize P fd.type ≤ cs.length ∧ (P.underlying fd.type).isSome = true ∧ (tagg P fd.type = true ∨ tsize P fd.type = 1) then
          pureE (if tagg P fd.type then .agg ((cs.drop fd.offset).take (tsize P fd.type)) else cellAt cs fd.offset) else none
      | _, _ => none
    | _ => none
  | .indexAddr t x i => match P.underlying t, ρ x, ρ i with
    | some (.array n e), .ptr s off, .int _ i => if (P.underlying e).isNone then none else oblE (0 ≤ i ∧ i < n) (.ptr s (off + i.toNat * tsize P e))
    | some (.array n e), .eptr y j, .int _ i => if (P.underlying e).isNone then none else oblE (0 ≤ i ∧ i < n) (.eptr y (j + i.toNat * tsize P e))
    | some (.slice e), .vec s off m false, .int _ i => if (P.underlying e).isNone ∨ tsize P e ≠ 1 then none else oblE (0 ≤ i ∧ i < m) (.vec s (off + i.toNat) 1 true)
    | some (.slice e), .sl xs _, .int _ i => if (P.underlying e).isNone then none else oblE (0 ≤ i ∧ i < xs.length ∧ okElem (tsize P e) xs i.toNat) (.eptr (elemAt xs i.toNat) 0)
    | _, _, _ => none
  | .index t x i => match P.underlying t, ρ x, ρ i with
    | some .string, .str l, .int _ i => oblE (0 ≤ i ∧ i < l.length) (byteAV (l.getD i.toNat 0))
    | some (.array m e), .agg cs, .int _ i => if 16 < cs.length ∧ tagg P e = true ∧ (P.underlying e).isSome = true ∧ (kdsOf P e).length = tsize P e then oblE (0 ≤ i ∧ i < m ∧ i.toNat * tsize P e + tsize P e ≤ cs.length ∧ okRead (kdsOf P e) (.agg cs) (i.toNat * tsize P e)) (.agg (etaKs (.agg cs) (kdsOf P e) (i.toNat * tsize P e))) else if (P.underlying e).isSome = true ∧ (tagg P e = true ∨ tsize P e = 1) then oblE (0 ≤ i ∧ i < m ∧ i.toNat * tsize P e + tsize P e ≤ cs.length) (if tagg P e then .agg (subAV cs (i.toNat * tsize P e) (tsize P e)) else pickFrom 0 cs (i.toNat * tsize P e)) else none
    | _, _, _ => none
  | .extract x i => match ρ x with
    | .tup vs => match vs[i]? with | some v => pureE v | none => none
    | _ => none
  | .buildSlice t len parts => match o.dst, P.underlying t with
    | some d, some (.slice e) => match zeroAV P e, st.rows d 0 with
      | some z, .free =>
        if parts.toList.all (fun q => (ρ q.2).plain && allOne (ρ q.2).cells && decide ((ρ q.2).cells.length = tsize P e)) = true ∧ allOne z.cells = true ∧ z.cells.length = tsize P e ∧ tsize P e ≠ 0 ∧ 0 ≤ len ∧ len * tsize P e ≤ 16777216 ∧ parts.toList.map (·.1) = List.range len then
          some (⟨[], [], [d]⟩, ⟨True, .sl (parts.toList.map fun q => (ρ q.2).drop) (.row d 0 e), [], [((d, 0), .live len)]⟩)
        else none
      | _, _ => none
    | _, _ => none
  | .call c => match o.dst, c.callee with
    | some d, .builtin .append => match vecOf (c.args.toList.map ρ) with
      | none => effBuiltin P d .append c.argTypes (c.args.toList.map ρ) st
      | some q => effFrz q (fun st vs => effBuiltin P d .append c.argTypes vs st) (c.args.toList.map ρ) st
    | some d, .builtin b => effBuiltin P d b c.argTypes (c.args.toList.map ρ) st
    | some d, .value f => match ρ f with
      | .fn f [] => match vecOf (c.args.toList.map ρ) with
        | none => effCall Γ d f (c.args.toList.map ρ) st
        | some q => effFrz q (fun st vs => effCall Γ d f vs st) (c.args.toList.map ρ) st
      | .vec s off m true => match m, vecOf (c.args.toList.map ρ) with
        | g + 2, none => effCall Γ d g (c.args.toList.map ρ ++ [.ptr s off]) st
        | _, _ => none
      | _ => none
    | _, _ => none
  | .makeFunc (.func g) first captured => match first.toList, captured.toList with
    | [], [x] => match ρ x with
      | .ptr s off => pureE (.vec s off (g + 2) true)
      | _ => none
    | _, _ => none
  | _ => none

def guardOf (ops : Array Oper) (st : St) (g : Nat) : AV :=
  match (ops[g]?).bind (·.dst) with
  | some d => st.tmps d
  | none => .skip

def fixG (ops : Array Oper) (st : St) (g : Nat) (b : Bool) : St :=
  match (ops[g]?).bind (·.dst) with
  | some d => { st with tmps := upd st.tmps d (.bool b) }
  | none => st
theorem fixG_eq {ops : Array Oper} {st : St} {g : Nat} {b : Bool} (h : guardOf ops st g = .bool b) : fixG ops st g b = st := by
  unfold guardOf at h
  unfold fixG
  split
  · rename_i d hd
    rw [hd] at h
    simp only at h
    have : upd st.tmps d (.bool b) = st.tmps := by
      funext x
      unfold upd
      by_cases hx : x = d
      · subst hx; simp [h]
      · have : (x == d) = false := by simpa using hx
        rw [this]; rfl
    rw [this]
  · rfl
def genC (c : AV) (K : AV → Prop) : Prop :=
  match c with
  | .int k n => ∀ m : Int, m = n → K (.int k m)
  | .str l => ∀ m : List UInt8, m = l → K (.str m)
  | .sl xs .no => ∀ ys : List AV, ys = xs → K (.sl ys .no)
  | .sl xs (.row a b e) => ∀ ys : List AV, ys = xs → K (.sl ys (.row a b e))
  | v => K v
def genL : List AV → (List AV → Prop) → Prop
  | [], K => K []
  | c :: r, K => genC c fun c' => genL r fun r' => K (c' :: r')
def genV1 (v : AV) (K : AV → Prop) : Prop :=
  match v with
  | .agg cs => genL cs fun cs' => K (.agg cs')
  | v => genC v K
def genVs : List AV → (List AV → Prop) → Prop
  | [], K => K []
  | v :: r, K => genV1 v fun v' => genVs r fun r' => K (v' :: r')
def genV (v : AV) (K : AV → Prop) : Prop :=
  match v with
  | .tup vs => genVs vs fun vs' => K (.tup vs')
  | v => genV1 v K
def genB : List (Nat × List AV) → (List (Nat × List AV) → Prop) → Prop
  | [], K => K []
  | (s, cs) :: r, K => genL cs fun cs' => genB r fun r' => K ((s, cs') :: r')
def genR : List ((Nat × Nat) × RowSt) → (List ((Nat × Nat) × RowSt) → Prop) → Prop
  | [], K => K []
  | (q, .live t) :: r, K => ∀ m : Nat, m = t → genR r fun r' => K ((q, .live m) :: r')
  | (q, x) :: r, K => genR r fun r' => K ((q, x) :: r')
def genE (E : Eff) (K : Eff → Prop) : Prop := genV E.val fun v => genB E.boxes fun bs => genR E.rows fun rs => K ⟨True, v, bs, rs⟩
theorem genC_spec {c : AV} {K : AV → Prop} (h : genC c K) : K c := by
  unfold genC at h
  split at h
  · exact h _ rfl
  · exact h _ rfl
  · exact h _ rfl
  · exact h _ rfl
  · exact h
theorem genL_spec : ∀ {cs : List AV} {K : List AV → Prop}, genL cs K → K cs
  | [], K, h => h
  | c :: r, K, h => genL_spec (K := fun r' => K (c :: r')) (genC_spec (K := fun c' => genL r fun r' => K (c' :: r')) h)
theorem genV1_spec {v : AV} {K : AV → Prop} (h : genV1 v K) : K v := by
  unfold genV1 at h
  split at h
  · rename_i cs
    exact genL_spec (K := fun cs' => K (.agg cs')) h
  · exact genC_spec h
theorem genVs_spec : ∀ {vs : List AV} {K : List AV → Prop}, genVs vs K → K vs
  | [], K, h => h
  | c :: r, K, h => genVs_spec (K := fun r' => K (c :: r')) (genV1_spec (K := fun v' => genVs r fun r' => K (v' :: r')) h)
theorem genV_spec {v : AV} {K : AV → Prop} (h : genV v K) : K v := by
  unfold genV at h
  split at h
  · rename_i vs
    exact genVs_spec (K := fun vs' => K (.tup vs')) h
  · exact genV1_spec h
theorem genB_spec : ∀ {bs : List (Nat × List AV)} {K : List (Nat × List AV) → Prop}, genB bs K → K bs
  | [], K, h => h
  | (s, cs) :: r, K, h => genB_spec (K := fun r' => K ((s, cs) :: r')) (genL_spec (K := fun cs' => genB r fun r' => K ((s, cs') :: r')) h)
theorem genR_spec : ∀ {rs : List ((Nat × Nat) × RowSt)} {K : List ((Nat × Nat) × RowSt) → Prop}, genR rs K → K rs
  | [], K, h => h
  | (q, .live t) :: r, K, h => genR_spec (K := fun r' => K ((q, .live t) :: r')) (h t rfl)
  | (q, .free) :: r, K, h => genR_spec (K := fun r' => K ((q, .free) :: r')) h
  | (q, .dead) :: r, K, h => genR_spec (K := fun r' => K ((q, .dead) :: r')) h
theorem genE_spec {E : Eff} {K : Eff → Prop} (h : genE E K) : K ⟨True, E.val, E.boxes, E.rows⟩ :=
  genR_spec (K := fun rs => K ⟨True, E.val, E.boxes, rs⟩) (genB_spec (K := fun bs => genR E.rows fun rs => K ⟨True, E.val, bs, rs⟩) (genV_spec (K := fun v => genB E.boxes fun bs => genR E.rows fun rs => K ⟨True, v, bs, rs⟩) h))
def keepCalls : List Nat := [
  42,
  54,
  1000000]
def keepSites : List (Nat × Nat) := [
  (10, 23),
  (32, 39),
  (1000000, 0)]
def isCall (o : Oper) : Bool :=
  match o.op with
  | .call c => (match c.callee with | .value (.func f) => !(keepCalls.contains f) && !(match o.dst with | some d => keepSites.any (fun x => Nat.beq x.1 f && Nat.beq x.2 d) | none => false) | .value _ => true | _ => false)
  | _ => false
def runE (o : Oper) (st : St) (ft : Foot) (E : Eff) (K : Foot → St → Prop) : Prop :=
  E.obl ∧ (match isCall o with
    | true => genE E fun E' => K ft (E'.app o.dst st)
    | false => K ft (E.app o.dst st))
theorem runE_spec {o : Oper} {st : St} {ft : Foot} {E : Eff} {K : Foot → St → Prop} (h : runE o st ft E K) : E.obl ∧ K ft (E.app o.dst st) := by
  refine ⟨h.1, ?_⟩
  have h2 := h.2
  split at h2
  · exact genE_spec h2
  · exact h2
def opB (Γ : Nat → Option Con) (P : Program) (o : Oper) (st : St) (b want : Bool) (K : Foot → St → Prop) : Prop :=
  match b, want with
  | true, true => match eff Γ P o st with
    | some (ft, E) => runE o st ft E K
    | none => False
  | false, false => match eff Γ P o st with
    | some (ft, E) => runE o st ft E K
    | none => False
  | _, _ => K ⟨[], [], []⟩ (st.put o.dst .skip)
def opK (Γ : Nat → Option Con) (P : Program) (ops : Array Oper) (o : Oper) (st : St) (K : Foot → St → Prop) : Prop :=
  match o.guard with
  | none => match eff Γ P o st with
    | some (ft, E) => runE o st ft E K
    | none => False
  | some (g, want) => match guardOf ops st g with
    | .bool b => match b with
      | true => opB Γ P o (fixG ops st g true) true want K
      | false => opB Γ P o (fixG ops st g false) false want K
    | .skip => K ⟨[], [], []⟩ (st.put o.dst .skip)
    | _ => False

def runK (Γ : Nat → Option Con) (P : Program) (ops : Array Oper) : List Oper → St → List Foot → (List Foot → St → Prop) → Prop
  | [], st, fs, K => K fs st
  | o :: r, st, fs, K => opK Γ P ops o st fun ft st' => runK Γ P ops r st' (fs ++ [ft]) K

def meet (a b : List Nat) : Bool := a.any fun x => b.any fun y => x == y
def clash (f g : Foot) : Bool := meet f.wr g.wr || meet f.wr g.rd || meet f.rd g.wr || meet f.nm g.nm

end Go.Proofs.Ytddilmocngedjaa
/- When a value's content fits a real value in a real world (Rep), a frame's state a real frame (Rel); what keeps it. Nothing is said of the program here. -/
namespace Go.Proofs.Ytddilmocngedjaa
set_option linter.unusedVariables false
set_option linter.unusedSimpArgs false
open Go.RowKit

structure Gh where
  bx : Nat → Nat
  cv : Nat → Nat → Value
  et : Nat → Nat → Nat
  bad : Nat → Nat → Prop

inductive RepP (w : World) (S : Nat → Nat → Prop) : AV → Value → Prop
  | any (v : Value) : RepP w S .any v
  | skip : RepP w S .skip undef
  | bool (b : Bool) : RepP w S (.bool b) (.bool b)
  | int (k : IntKind) (n : Int) (h1 : k.min ≤ n) (h2 : n ≤ k.max) : RepP w S (.int k n) (.int k n)
  | str (l : List UInt8) (h : l.length ≤ 9223372036854775807) : RepP w S (.str l) (.string ⟨l.toArray⟩)
  | nilptr : RepP w S .nilptr (.pointer none)
  | nilfn : RepP w S .nilfn .nilFunc
  | fn (f : Nat) : RepP w S (.fn f []) (.func (.func f) #[] #[])
  | slnil (o : Own) (a : Option Addr) (cap : Nat) (h : cap ≤ maxLen) : RepP w S (.sl [] o) (.slice a 0 cap)
  | sl (xs : List AV) (o : Own) (b off cap size : Nat) (us : Nat → Nat → Value) (hc : xs.length ≤ cap) (hm : cap ≤ maxLen)
      (hsz : ∀ (i : Nat) (x : AV), xs[i]? = some x → x.cells.length = size)
      (hS : ∀ (i : Nat) (x : AV) (j : Nat) (c : AV), xs[i]? = some x → x.cells[j]? = some c → S b (off + i * size + j) ∧ w.cell? ⟨b, off + i * size + j, none⟩ = some (us i j) ∧ c.one = true)
      (hr : ∀ (i : Nat) (x : AV) (j : Nat) (c : AV), xs[i]? = some x → x.cells[j]? = some c → RepP w S c (us i j)) : RepP w S (.sl xs o) (.slice (some ⟨b, off, none⟩) xs.length cap)

theorem RepP.mono {w w' : World} {S S' : Nat → Nat → Prop} {v : AV} {r : Value} (h : RepP w S v r)
    (hk : ∀ b o u, S b o → w.cell? ⟨b, o, none⟩ = some u → S' b o ∧ w'.cell? ⟨b, o, none⟩ = some u) : RepP w' S' v r := by
  induction h with
  | any v => exact .any v
  | skip => exact .skip
  | bool b => exact .bool b
  | int k n h1 h2 => exact .int k n h1 h2
  | str l h => exact .str l h
  | nilptr => exact .nilptr
  | nilfn => exact .nilfn
  | fn f => exact .fn f
  | slnil o a cap h => exact .slnil o a cap h
  | sl xs o b off cap size us hc hm hsz hS hr ih =>
    exact .sl xs o b off cap size us hc hm hsz (fun i x j c h1 h2 => ⟨(hk _ _ _ (hS i x j c h1 h2).1 (hS i x j c h1 h2).2.1).1, (hk _ _ _ (hS i x j c h1 h2).1 (hS i x j c h1 h2).2.1).2, (hS i x j c h1 h2).2.2⟩) ih

theorem RepP.own {w : World} {S : Nat → Nat → Prop} {xs : List AV} {o o' : Own} {r : Value} (h : RepP w S (.sl xs o) r) : RepP w S (.sl xs o') r := by
  cases h with
  | slnil _ a cap h => exact .slnil _ a cap h
  | sl _ _ b off cap size us hc hm hsz hS hr => exact .sl xs o' b off cap size us hc hm hsz hS hr

def stable (P : Program) (st : St) (G : Gh) (b o : Nat) : Prop :=
  ¬ G.bad b o ∧ (∀ s cs, st.boxes s = some cs → cs ≠ [] → G.bx s ≠ b) ∧
  (∀ a c tip, st.rows a c = .live tip → (G.cv a c).ownBlock = some b → o < tip * tsize P (G.et a c))

def Rep1 (P : Program) (st : St) (G : Gh) (w : World) : AV → Value → Prop
  | .ptr s off, r => (∃ cs, st.boxes s = some cs) ∧ r = .pointer (some ⟨G.bx s, off, none⟩)
  | .vec s off m p, r => (∃ cs, st.boxes s = some cs) ∧ ((p = true → m = 1) → ∀ o, ¬ G.bad (G.bx s) o) ∧ (match p with
    | true => (m = 1 ∧ r = .pointer (some ⟨G.bx s, off, none⟩)) ∨ ∃ f, m = f + 2 ∧ r = .func (.func f) #[] #[.pointer (some ⟨G.bx s, off, none⟩)]
    | false => ∃ cap, m ≤ cap ∧ cap ≤ maxLen ∧ r = .slice (some ⟨G.bx s, off, none⟩) m cap)
  | .sl xs (.row a b e), r => RepP w (stable P st G) (.sl xs .no) r ∧
    (match st.rows a b with
     | .free => False
     | .dead => True
     | .live tip => e = G.et a b ∧ xs.length ≤ tip ∧ (xs.length = tip → r = G.cv a b))
  | .sl xs .nil, r => xs = [] ∧ r = .slice none 0 0
  | .eptr x j, r => ∃ b off, r = .pointer (some ⟨b, off + j, none⟩) ∧ ∀ (i : Nat) (c : AV), x.cells[i]? = some c → c.one = true ∧ stable P st G b (off + i) ∧ ∃ u, w.cell? ⟨b, off + i, none⟩ = some u ∧ RepP w (stable P st G) c u
  | .agg _, _ => False
  | .tup _, _ => False
  | v, r => RepP w (stable P st G) v r

def RepA (P : Program) (st : St) (G : Gh) (w : World) : AV → Value → Prop
  | .agg cs, r => ∃ us : Array Value, r = .agg us ∧ us.size = cs.length ∧ ∀ (i : Nat) c, cs[i]? = some c → c.one = true ∧ ∃ u, us[i]? = some u ∧ Rep1 P st G w c u
  | v, r => Rep1 P st G w v r

def Rep (P : Program) (st : St) (G : Gh) (w : World) : AV → Value → Prop
  | .tup vs, r => ∃ us : Array Value, r = .tuple us ∧ us.size = vs.length ∧ ∀ (i : Nat) c, vs[i]? = some c → ∃ u, us[i]? = some u ∧ RepA P st G w c u
  | v, r => RepA P st G w v r

structure Mem (P : Program) (st : St) (G : Gh) (w : World) : Prop where
  box : ∀ s cs, st.boxes s = some cs → ∃ us t, w.heap[G.bx s]? = some (.cells us t (0, 0)) ∧ cs.length ≤ us.size ∧ ∀ (i : Nat) c, cs[i]? = some c → c.one = true ∧ ∃ u, us[i]? = some u ∧ Rep1 P st G w c u
  inj : ∀ s cs s' cs', st.boxes s = some cs → st.boxes s' = some cs' → G.bx s = G.bx s' → s = s'
  row : ∀ a b tip, st.rows a b = .live tip → 0 < tsize P (G.et a b) ∧ ∃ us, w.ownsRow 0 (G.et a b) (tsize P (G.et a b)) (G.cv a b) tip us
  rinj : ∀ a b tip a' b' tip' g, st.rows a b = .live tip → st.rows a' b' = .live tip' → (G.cv a b).ownBlock = some g → (G.cv a' b').ownBlock = some g → a = a' ∧ b = b'
  brow : ∀ s cs a b tip, st.boxes s = some cs → st.rows a b = .live tip → (G.cv a b).ownBlock ≠ some (G.bx s)

structure OwnP where
  of : Nat → Option Nat
  pin : Nat → Option Nat
  bad : Nat → Nat → Prop
instance : CoeFun OwnP (fun _ => Nat → Option Nat) := ⟨OwnP.of⟩
structure Pres (w0 : World) (own : OwnP) (w : World) : Prop where
  os : w.os = w0.os
  tape : w.tape = w0.tape
  output : w.output = w0.output
  size : w0.heap.size ≤ w.heap.size
  block : ∀ b, b < w0.heap.size → own b = none → w.heap[b]? = w0.heap[b]?
  cell : ∀ b t, b < w0.heap.size → own b = some t → ∀ o u, o < t → w0.cell? ⟨b, o, none⟩ = some u → w.cell? ⟨b, o, none⟩ = some u

theorem Pres.refl (w : World) (own : OwnP) : Pres w own w := ⟨rfl, rfl, rfl, Nat.le_refl _, fun _ _ _ => rfl, fun _ _ _ _ _ _ _ h => h⟩

structure Rel (P : Program) (n : Nat) (w0 : World) (own : OwnP) (st : St) (G : Gh) (a : Act) (w : World) : Prop where
  size : a.tmps.size = n
  defers : a.defers = []
  tmps : ∀ t, Rep P st G w (st.tmps t) (a.tmps.getD t undef)
  mem : Mem P st G w
  pres : Pres w0 own w
  obox : ∀ s cs, st.boxes s = some cs → w0.heap.size ≤ G.bx s ∨ own (G.bx s) = some 0
  orow : ∀ a b tip g, st.rows a b = .live tip → (G.cv a b).ownBlock = some g → w0.heap.size ≤ g ∨ ∃ t, own g = some t ∧ t ≤ tip * tsize P (G.et a b)
  bad : ∀ b o, G.bad b o → b < w0.heap.size
  rbad : ∀ a b tip g o, st.rows a b = .live tip → (G.cv a b).ownBlock = some g → ¬ G.bad g o
  pin : ∀ s b, own.pin s = some b → (∃ cs, st.boxes s = some cs) ∧ G.bx s = b
  same : G.bad = own.bad

structure Kp (P : Program) (st : St) (G : Gh) (w : World) (st' : St) (G' : Gh) (w' : World) : Prop where
  cell : ∀ b o u, stable P st G b o → w.cell? ⟨b, o, none⟩ = some u → stable P st' G' b o ∧ w'.cell? ⟨b, o, none⟩ = some u
  box : ∀ s cs, st.boxes s = some cs → (∃ cs', st'.boxes s = some cs') ∧ G'.bx s = G.bx s
  row : ∀ a b, st.rows a b ≠ .free → st'.rows a b ≠ .free ∧ ∀ tip', st'.rows a b = .live tip' → ∃ tip, st.rows a b = .live tip ∧ G'.et a b = G.et a b ∧ tip ≤ tip' ∧ (tip = tip' → G'.cv a b = G.cv a b)
  bad : ∀ b o, G'.bad b o → G.bad b o

section
variable {P : Program} {st st' st'' : St} {G G' G'' : Gh} {w w' w'' : World}
theorem Kp.refl : Kp P st G w st G w := ⟨fun _ _ _ h1 h2 => ⟨h1, h2⟩, fun s cs h => ⟨⟨cs, h⟩, rfl⟩, fun a b h => ⟨h, fun tip h' => ⟨tip, h', rfl, Nat.le_refl _, fun _ => rfl⟩⟩, fun _ _ h => h⟩
theorem Rep1.keep (k : Kp P st G w st' G' w') {v : AV} {r : Value} (h : Rep1 P st G w v r) : Rep1 P st' G' w' v r := by
  cases v with
  | ptr s off =>
    obtain ⟨⟨cs, h1⟩, h2⟩ := h
    obtain ⟨h3, h4⟩ := k.box s cs h1
    exact ⟨h3, by rw [h4]; exact h2⟩
  | vec s off m p =>
    obtain ⟨⟨cs, h1⟩, hb, h2⟩ := h
    obtain ⟨h3, h4⟩ := k.box s cs h1
    exact ⟨h3, by rw [h4]; exact fun hp o ho => hb hp o (k.bad _ _ ho), by rw [h4]; exact h2⟩
  | sl xs o =>
    cases o with
    | no => exact RepP.mono h k.cell
    | nil => exact h
    | row a b e =>
      obtain ⟨h1, h2⟩ := h
      refine ⟨RepP.mono h1 k.cell, ?_⟩
      have hf : st.rows a b ≠ .free := by intro hh; rw [hh] at h2; exact h2
      obtain ⟨k1, k2⟩ := k.row a b hf
      cases hr : st'.rows a b with
      | free => exact k1 hr
      | dead => trivial
      | live tip' =>
        obtain ⟨tip, e1, e2, e3, e4⟩ := k2 tip' hr
        rw [e1] at h2
        obtain ⟨f1, f2, f3⟩ := h2
        exact ⟨by rw [e2]; exact f1, by omega, fun hx => by rw [e4 (by omega)]; exact f3 (by omega)⟩
  | eptr x j =>
    obtain ⟨b, off, h1, h2⟩ := h
    exact ⟨b, off, h1, fun i c hc => by
      obtain ⟨h0, h3, u, h4, h5⟩ := h2 i c hc
      exact ⟨h0, (k.cell _ _ _ h3 h4).1, u, (k.cell _ _ _ h3 h4).2, h5.mono k.cell⟩⟩
  | agg _ => exact h
  | tup _ => exact h
  | skip => exact RepP.mono h k.cell
  | any => exact RepP.mono h k.cell
  | bool _ => exact RepP.mono h k.cell
  | int _ _ => exact RepP.mono h k.cell
  | str _ => exact RepP.mono h k.cell
  | nilptr => exact RepP.mono h k.cell
  | fn _ _ => exact RepP.mono h k.cell
  | nilfn => exact RepP.mono h k.cell
theorem RepA_eq {v : AV} {r : Value} (hv : ∀ cs, v ≠ .agg cs) : RepA P st G w v r = Rep1 P st G w v r := by
  cases v <;> first | rfl | exact absurd rfl (hv _)
theorem Rep_eq {v : AV} {r : Value} (hv : ∀ cs, v ≠ .tup cs) : Rep P st G w v r = RepA P st G w v r := by
  cases v <;> first | rfl | exact absurd rfl (hv _)
theorem RepA.keep (k : Kp P st G w st' G' w') {v : AV} {r : Value} (h : RepA P st G w v r) : RepA P st' G' w' v r := by
  by_cases hv : ∃ cs, v = .agg cs
  · obtain ⟨cs, rfl⟩ := hv
    obtain ⟨us, h1, h2, h3⟩ := h
    exact ⟨us, h1, h2, fun i c hc => by obtain ⟨h0, u, h4, h5⟩ := h3 i c hc; exact ⟨h0, u, h4, h5.keep k⟩⟩
  · have hv' : ∀ cs, v ≠ .agg cs := fun cs e => hv ⟨cs, e⟩
    rw [RepA_eq hv'] at h ⊢
    exact h.keep k
theorem Rep.keep (k : Kp P st G w st' G' w') {v : AV} {r : Value} (h : Rep P st G w v r) : Rep P st' G' w' v r := by
  by_cases hv : ∃ cs, v = .tup cs
  · obtain ⟨cs, rfl⟩ := hv
    obtain ⟨us, h1, h2, h3⟩ := h
    exact ⟨us, h1, h2, fun i c hc => by obtain ⟨u, h4, h5⟩ := h3 i c hc; exact ⟨u, h4, h5.keep k⟩⟩
  · have hv' : ∀ cs, v ≠ .tup cs := fun cs e => hv ⟨cs, e⟩
    rw [Rep_eq hv'] at h ⊢
    exact h.keep k

theorem Rep.ofA {v : AV} {r : Value} (h : RepA P st G w v r) : Rep P st G w v r := by
  rw [Rep_eq]; exact h
  rintro cs rfl; exact (h : False).elim
theorem Rep.of1 {v : AV} {r : Value} (h : Rep1 P st G w v r) : Rep P st G w v r := by
  refine Rep.ofA ?_
  rw [RepA_eq]; exact h
  rintro cs rfl; exact (h : False).elim
theorem Rep.toA {v : AV} {r : Value} (h : Rep P st G w v r) (hv : ∀ cs, v ≠ .tup cs) : RepA P st G w v r := by rw [Rep_eq hv] at h; exact h
theorem Rep.to1 {v : AV} {r : Value} (h : Rep P st G w v r) (hv : ∀ cs, v ≠ .tup cs) (hv' : ∀ cs, v ≠ .agg cs) : Rep1 P st G w v r := by rw [Rep_eq hv, RepA_eq hv'] at h; exact h
theorem Rep1.one {v : AV} {r : Value} (h : Rep1 P st G w v r) (h1 : v.one = true) : r.oneCell' = true ∧ r.cells = #[r] := by
  cases v with
  | ptr s off => obtain ⟨_, rfl⟩ := h; exact ⟨rfl, rfl⟩
  | vec s off m p =>
    obtain ⟨_, _, h⟩ := h
    cases p with
    | true => rcases h with ⟨_, rfl⟩ | ⟨f, _, rfl⟩ <;> exact ⟨rfl, rfl⟩
    | false => obtain ⟨cap, _, _, rfl⟩ := h; exact ⟨rfl, rfl⟩
  | sl xs o =>
    cases o with
    | nil => obtain ⟨_, rfl⟩ := h; exact ⟨rfl, rfl⟩
    | no => cases h <;> exact ⟨rfl, rfl⟩
    | row a b e => obtain ⟨h, _⟩ := h; cases h <;> exact ⟨rfl, rfl⟩
  | eptr x j => obtain ⟨b, off, rfl, _⟩ := h; exact ⟨rfl, rfl⟩
  | skip => simp [AV.one] at h1
  | any => simp [AV.one] at h1
  | agg _ => exact h.elim
  | tup _ => exact h.elim
  | bool _ => cases h; exact ⟨rfl, rfl⟩
  | int _ _ => cases h; exact ⟨rfl, rfl⟩
  | str _ => cases h; exact ⟨rfl, rfl⟩
  | nilptr => cases h; exact ⟨rfl, rfl⟩
  | fn _ _ => cases h; exact ⟨rfl, rfl⟩
  | nilfn => cases h; exact ⟨rfl, rfl⟩

theorem Rep.cells {v : AV} {r : Value} (h : Rep P st G w v r) (h1 : allOne v.cells = true) : ∃ us : List Value, r.cells = us.toArray ∧ us.length = v.cells.length ∧ (∀ u ∈ us, u.oneCell' = true) ∧
    ∀ (i : Nat) c, v.cells[i]? = some c → c.one = true ∧ ∃ u, us[i]? = some u ∧ Rep1 P st G w c u := by
  unfold allOne at h1
  rw [List.all_eq_true] at h1
  by_cases hv : ∃ cs, v = .agg cs
  · obtain ⟨cs, rfl⟩ := hv
    obtain ⟨us, rfl, h2, h3⟩ := (h : RepA P st G w (.agg cs) r)
    refine ⟨us.toList, by simp [Value.cells], by simpa [AV.cells] using h2, ?_, ?_⟩
    · intro u hu
      obtain ⟨i, hi, rfl⟩ := List.getElem_of_mem hu
      have hi' : i < cs.length := by simpa [h2] using hi
      obtain ⟨h0, u', h4, h5⟩ := h3 i cs[i] (List.getElem?_eq_getElem hi')
      have : us[i]? = some us.toList[i] := by simp at hi; simp [hi]
      rw [this] at h4; cases h4
      exact (h5.one h0).1
    · intro i c hc
      obtain ⟨h0, u, h4, h5⟩ := h3 i c hc
      exact ⟨h0, u, by simpa using h4, h5⟩
  · have hv' : ∀ cs, v ≠ .agg cs := fun cs e => hv ⟨cs, e⟩
    have hc : v.cells = [v] := by cases v <;> first | rfl | exact absurd rfl (hv' _)
    rw [hc] at h1 ⊢
    have h0 : v.one = true := h1 v (by simp)
    have hv2 : ∀ cs, v ≠ .tup cs := by rintro cs rfl; simp [AV.one] at h0
    have h' := h.to1 hv2 hv'
    obtain ⟨e1, e2⟩ := h'.one h0
    refine ⟨[r], by rw [e2], rfl, by simpa using e1, ?_⟩
    intro i c hc
    match i, hc with
    | 0, hc => simp at hc; subst hc; exact ⟨h0, r, rfl, h'⟩
end

end Go.Proofs.Ytddilmocngedjaa
/- One operation in a real world does what its reading by content says: the operations that touch no memory of their own. -/
namespace Go.Proofs.Ytddilmocngedjaa
set_option linter.unusedVariables false
set_option linter.unusedSimpArgs false
open Go.RowKit

section
variable {P : Program} {n : Nat} {w0 : World} {own : OwnP} {st st' : St} {G G' : Gh} {a : Act} {w w' : World}

theorem wp_value {o : Oper} {K : Act → World → Prop} {Q : Exit → Act → World → Prop} {v : Value} (h : (execOp a.eval o).run P w = .ok (.value v) w') (hk : K (a.put o.dst v) w') : o.wp P a w K Q := by
  unfold Oper.wp; rw [h]; exact hk

theorem repP_to1 {v : AV} {r : Value} (h : RepP w (stable P st G) v r) (hv : ∀ xs, v ≠ .sl xs .nil) (hr : ∀ xs x y e, v ≠ .sl xs (.row x y e)) : Rep1 P st G w v r := by
  cases v with
  | sl xs o =>
    cases o with
    | no => exact h
    | nil => exact absurd rfl (hv _)
    | row x y e => exact absurd rfl (hr _ _ _ _)
  | ptr _ _ => cases h
  | vec _ _ _ _ => cases h
  | eptr _ _ => cases h
  | agg _ => cases h
  | tup _ => cases h
  | _ => exact h

theorem rep_any (v : Value) : Rep P st G w .any v := RepP.any v
theorem rep_skip : Rep P st G w .skip undef := RepP.skip
theorem rep_bool (b : Bool) : Rep P st G w (.bool b) (.bool b) := RepP.bool b
theorem rep_int {k : IntKind} {i : Int} (h1 : k.min ≤ i) (h2 : i ≤ k.max) : Rep P st G w (.int k i) (.int k i) := RepP.int k i h1 h2
theorem rep_str {l : List UInt8} (h : l.length ≤ 9223372036854775807) : Rep P st G w (.str l) (.string ⟨l.toArray⟩) := RepP.str l h
theorem Rep.inv_bool {b : Bool} {r : Value} (h : Rep P st G w (.bool b) r) : r = .bool b := by cases (h : RepP w _ (.bool b) r); rfl
theorem Rep.inv_int {k : IntKind} {i : Int} {r : Value} (h : Rep P st G w (.int k i) r) : r = .int k i ∧ k.min ≤ i ∧ i ≤ k.max := by cases (h : RepP w _ (.int k i) r); exact ⟨rfl, ‹_›, ‹_›⟩
theorem Rep.inv_str {l : List UInt8} {r : Value} (h : Rep P st G w (.str l) r) : r = .string ⟨l.toArray⟩ ∧ l.length ≤ 9223372036854775807 := by cases (h : RepP w _ (.str l) r); exact ⟨rfl, ‹_›⟩
theorem Rep.inv_skip {r : Value} (h : Rep P st G w .skip r) : r = undef := by cases (h : RepP w _ .skip r); rfl
theorem Rep.inv_ptr {s off : Nat} {r : Value} (h : Rep P st G w (.ptr s off) r) : (∃ cs, st.boxes s = some cs) ∧ r = .pointer (some ⟨G.bx s, off, none⟩) := h
theorem Rep.inv_fn {f : Nat} {r : Value} (h : Rep P st G w (.fn f []) r) : r = .func (.func f) #[] #[] := by cases (h : RepP w _ (.fn f []) r); rfl
theorem Rep.inv_sl {xs : List AV} {o : Own} {r : Value} (h : Rep P st G w (.sl xs o) r) : RepP w (stable P st G) (.sl xs .no) r := by
  cases o with
  | no => exact h
  | nil => obtain ⟨rfl, rfl⟩ := (h : Rep1 P st G w (.sl xs .nil) r); exact .slnil _ _ _ (by unfold maxLen; omega)
  | row x y e => exact (h : Rep1 P st G w (.sl xs (.row x y e)) r).1
theorem rep_sl {xs : List AV} {r : Value} (h : RepP w (stable P st G) (.sl xs .no) r) : Rep P st G w (.sl xs .no) r := h
theorem RepP.form {S : Nat → Nat → Prop} {xs : List AV} {o : Own} {r : Value} (h : RepP w S (.sl xs o) r) : ∃ ad cap, r = .slice ad xs.length cap ∧ xs.length ≤ cap ∧ cap ≤ maxLen := by
  cases h with
  | slnil _ ad cap h => exact ⟨ad, cap, rfl, Nat.zero_le _, h⟩
  | sl _ _ b off cap size us hc hm _ _ _ => exact ⟨_, cap, rfl, hc, hm⟩

theorem min_max_holds (k : IntKind) (i : Int) : k.min ≤ k.wrap i ∧ k.wrap i ≤ k.max := by
  cases k <;> simp [IntKind.min, IntKind.max, IntKind.wrap, IntKind.bits, IntKind.signed] <;> (try split) <;> omega

theorem rep_ofVal1 (v : Value) : Rep1 P st G w (ofVal1 v) v := by
  unfold ofVal1
  split
  · exact RepP.bool _
  · split
    · rename_i h; exact RepP.int _ _ h.1 h.2
    · exact RepP.any _
  · rename_i s
    split
    · rename_i h
      exact (RepP.str s.data.toList h : RepP w (stable P st G) _ _)
    · exact RepP.any _
  · exact RepP.nilptr
  · exact ⟨rfl, rfl⟩
  · exact RepP.nilfn
  · exact RepP.any _

theorem rep_ofVal (v : Value) : Rep P st G w (ofVal v) v := by
  unfold ofVal
  split
  · rename_i cs
    split
    · rename_i h
      refine (⟨cs, rfl, by simp, fun i c hc => ?_⟩ : RepA P st G w (.agg (cs.toList.map ofVal1)) (.agg cs))
      simp only [List.getElem?_map, Option.map_eq_some_iff] at hc
      obtain ⟨x, hx, rfl⟩ := hc
      refine ⟨?_, x, by simpa using hx, rep_ofVal1 x⟩
      rw [List.all_eq_true] at h
      exact h _ (List.mem_map_of_mem (List.mem_of_getElem? hx))
    · exact rep_any _
  · split
    · rename_i vs h
      have : vs = #[] := by simpa using h
      subst this
      exact rep_skip
    · exact rep_any _
  · rename_i f x y
    split
    · rename_i hx
      split
      · rename_i hy
        have e1 : x = #[] := by simpa using hx
        have e2 : y = #[] := by simpa using hy
        subst e1 e2
        exact RepP.fn f
      · exact rep_any _
    · exact rep_any _
  · exact Rep.of1 (rep_ofVal1 v)

theorem Rel.ev (hR : Rel P n w0 own st G a w) (x : Operand) : Rep P st G w (st.ev x) (a.eval x) := by
  cases x with
  | tmp t => exact hR.tmps t
  | const v => exact rep_ofVal v
  | global g => exact rep_any _
  | func f => exact RepP.fn f

theorem Rel.step (hR : Rel P n w0 own st G a w) {E : Eff} {dst : Option Tmp} (hd : ∀ d, dst = some d → d < n) (hk : Kp P st G w (E.app dst st) G' w') {v : Value}
    (hv : dst ≠ none → Rep P (E.app dst st) G' w' E.val v) (hm : Mem P (E.app dst st) G' w') (hp : Pres w0 own w')
    (hob : ∀ s cs, (E.app dst st).boxes s = some cs → w0.heap.size ≤ G'.bx s ∨ own (G'.bx s) = some 0)
    (hor : ∀ x y tip g, (E.app dst st).rows x y = .live tip → (G'.cv x y).ownBlock = some g → w0.heap.size ≤ g ∨ ∃ t, own g = some t ∧ t ≤ tip * tsize P (G'.et x y))
    (hbd : G'.bad = G.bad) (hrb : ∀ x y tip g o, (E.app dst st).rows x y = .live tip → (G'.cv x y).ownBlock = some g → ¬ G.bad g o) :
    Rel P n w0 own (E.app dst st) G' (a.put dst v) w' := by
  refine ⟨?_, ?_, ?_, hm, hp, hob, hor, by rw [hbd]; exact hR.bad, by rw [hbd]; exact hrb, fun s b h => (by obtain ⟨⟨cs, h1⟩, h2⟩ := hR.pin s b h; obtain ⟨h3, h4⟩ := hk.box s cs h1; exact ⟨h3, h4.trans h2⟩), hbd.trans hR.same⟩
  · cases dst <;> simp [Act.put, hR.size]
  · cases dst <;> simp [Act.put, hR.defers]
  · intro t
    cases dst with
    | none => exact (hR.tmps t).keep hk
    | some d =>
      have hlt : d < a.tmps.size := by rw [hR.size]; exact hd d rfl
      by_cases ht : t = d
      · subst ht
        have e1 : (E.app (some t) st).tmps t = E.val := by simp [Eff.app, upd]
        have e2 : (a.put (some t) v).tmps.getD t undef = v := by simp [Act.put, Array.getD_eq_getD_getElem?, hlt]
        rw [e1, e2]; exact hv (by simp)
      · have e1 : (E.app (some d) st).tmps t = st.tmps t := by (have hb : (t == d) = false := by simpa using ht); simp [Eff.app, upd, hb]
        have e2 : (a.put (some d) v).tmps.getD t undef = a.tmps.getD t undef := by simp [Act.put, Array.getD_eq_getD_getElem?, Array.getElem?_setIfInBounds_ne (Ne.symm ht)]
        rw [e1, e2]; exact (hR.tmps t).keep hk

theorem Kp.tmps (f : Nat → AV) : Kp P st G w { tmps := f, boxes := st.boxes, rows := st.rows } G w :=
  ⟨fun _ _ _ h1 h2 => ⟨h1, h2⟩, fun s cs h => ⟨⟨cs, h⟩, rfl⟩, fun a b h => ⟨h, fun tip h' => ⟨tip, h', rfl, Nat.le_refl _, fun _ => rfl⟩⟩, fun _ _ h => h⟩
theorem Mem.tmps (hm : Mem P st G w) (f : Nat → AV) : Mem P { tmps := f, boxes := st.boxes, rows := st.rows } G w :=
  ⟨fun s cs h => by
    obtain ⟨us, t, h1, h2, h3⟩ := hm.box s cs h
    exact ⟨us, t, h1, h2, fun i c hc => by obtain ⟨h4, u, h5, h6⟩ := h3 i c hc; exact ⟨h4, u, h5, h6.keep (Kp.tmps f)⟩⟩, hm.inj, hm.row, hm.rinj, hm.brow⟩

theorem Rel.pure (hR : Rel P n w0 own st G a w) {dst : Option Tmp} (hd : ∀ d, dst = some d → d < n) {p : Prop} {x : AV} {v : Value} (hv : Rep P st G w x v) :
    Rel P n w0 own ((⟨p, x, [], []⟩ : Eff).app dst st) G (a.put dst v) w :=
  hR.step hd (Kp.tmps _) (fun _ => hv.keep (Kp.tmps _)) (hR.mem.tmps _) hR.pres hR.obox hR.orow rfl hR.rbad

end
end Go.Proofs.Ytddilmocngedjaa
/- The operations on numbers, truths, texts and cells: a real world does what the reading by content says. -/
namespace Go.Proofs.Ytddilmocngedjaa
set_option linter.unusedVariables false
set_option linter.unusedSimpArgs false
open Go.RowKit

def PureOK (P : Program) (st : St) (G : Gh) (w : World) (o : Oper) (a : Act) (x : AV) : Prop :=
  ∃ v, (execOp a.eval o).run P w = .ok (.value v) w ∧ Rep P st G w x v

section
variable {P : Program} {n : Nat} {w0 : World} {own : OwnP} {st st' : St} {G G' : Gh} {a : Act} {w w' : World} {o : Oper}

theorem info_of_under {t : TypeId} {d : TypeDesc} (h : P.underlying t = some d) : ∃ i, P.info? t = some i := info_of_underlying h
theorem run_size {t : TypeId} {d : TypeDesc} (h : P.underlying t = some d) (w : World) : (sizeOf t).run P w = .ok (tsize P t) w := by
  obtain ⟨i, hi⟩ := info_of_underlying h
  exact run_sizeOf w hi
theorem run_size_pos {t : TypeId} (h : tsize P t ≠ 0) (w : World) : (sizeOf t).run P w = .ok (tsize P t) w := by
  unfold tsize Program.cellsOf at h
  cases hi : P.info? t with
  | none => simp [hi] at h
  | some i => exact run_sizeOf w hi

theorem pure_move {x : Operand} (hR : Rel P n w0 own st G a w) (ho : o.op = .move x) : PureOK P st G w o a (st.ev x) :=
  ⟨a.eval x, by simp [execOp, ho], hR.ev x⟩
theorem pure_assign {x : Operand} (hR : Rel P n w0 own st G a w) (ho : o.op = .assign x) : PureOK P st G w o a (st.ev x) :=
  ⟨a.eval x, by simp [execOp, ho], hR.ev x⟩

theorem rep_pick {c : Bool} {x y : AV} {u v : Value} (hx : Rep P st G w x u) (hy : Rep P st G w y v) : Rep P st G w (pickAV c x y) (if c then u else v) := by
  rw [pickAV_eq]
  cases c
  · exact hy
  · exact hx
theorem pure_pick {c x y : Operand} {b : Bool} (hR : Rel P n w0 own st G a w) (ho : o.op = .pick c x y) (hc : st.ev c = .bool b) : PureOK P st G w o a (pickAV b (st.ev x) (st.ev y)) := by
  have h1 := hR.ev c
  rw [hc] at h1
  have h2 := h1.inv_bool
  exact ⟨_, by simp [execOp, ho, h2, asBool], rep_pick (hR.ev x) (hR.ev y)⟩

theorem pure_nilCheck {x : Operand} (hR : Rel P n w0 own st G a w) (ho : o.op = .nilCheck x) {y : AV} (hx : st.ev x = y) (hy : (∃ s off, y = .ptr s off) ∨ ∃ z j, y = .eptr z j) : PureOK P st G w o a y := by
  have h1 := hR.ev x
  rw [hx] at h1
  refine ⟨a.eval x, ?_, h1⟩
  rcases hy with ⟨s, off, rfl⟩ | ⟨z, j, rfl⟩
  · obtain ⟨_, h2⟩ := h1.inv_ptr
    simp [execOp, ho, h2]
  · obtain ⟨b, off, h2, _⟩ := (h1 : Rep1 P st G w (.eptr z j) _)
    simp [execOp, ho, h2]

theorem pure_extract {x : Operand} {i : Nat} {vs : List AV} {v : AV} (hR : Rel P n w0 own st G a w) (ho : o.op = .extract x i) (hx : st.ev x = .tup vs) (hv : vs[i]? = some v) : PureOK P st G w o a v := by
  have h1 := hR.ev x
  rw [hx] at h1
  obtain ⟨us, h2, h3, h4⟩ := (h1 : Rep P st G w (.tup vs) _)
  obtain ⟨u, h5, h6⟩ := h4 i v hv
  exact ⟨u, by simp [execOp, ho, h2, Instr.extract, h5], Rep.ofA h6⟩

theorem pure_fieldAddr {x : Operand} {t : TypeId} {f : Nat} {fs : Array Field} {fd : Field} {y z : AV} (hR : Rel P n w0 own st G a w) (ho : o.op = .fieldAddr t x f) (ht : P.underlying t = some (.struct fs)) (hf : fs[f]? = some fd)
    (h0 : tsize P fd.type ≠ 0) (hx : st.ev x = y) (hy : (∃ s off, y = .ptr s off ∧ z = .ptr s (off + fd.offset)) ∨ ∃ q j, y = .eptr q j ∧ z = .eptr q (j + fd.offset)) : PureOK P st G w o a z := by
  have h1 := hR.ev x
  rw [hx] at h1
  have hs := run_size_pos (P := P) h0 w
  have hadd : ∀ b off k, (⟨b, off, none⟩ : Addr).add k = ⟨b, off + k, none⟩ := fun b off k => Addr.add_mid b off k
  rcases hy with ⟨s, off, rfl, rfl⟩ | ⟨q, j, rfl, rfl⟩
  · obtain ⟨hb, h2⟩ := h1.inv_ptr
    exact ⟨.pointer (some ⟨G.bx s, off + fd.offset, none⟩), by simp [execOp, ho, h2, Instr.fieldAt, run_underlying ht, hf, Instr.sureAddr, fieldPlace, hs, h0, hadd], ⟨hb, rfl⟩⟩
  · obtain ⟨b, off, h2, h3⟩ := (h1 : Rep1 P st G w (.eptr q j) _)
    exact ⟨.pointer (some ⟨b, off + j + fd.offset, none⟩), by simp [execOp, ho, h2, Instr.fieldAt, run_underlying ht, hf, Instr.sureAddr, fieldPlace, hs, h0, hadd], ⟨b, off, by rw [Nat.add_assoc], h3⟩⟩

theorem pure_int {k : IntKind} {i : Int} (h : (execOp a.eval o).run P w = .ok (.value (.int k i)) w) (h1 : k.min ≤ i) (h2 : i ≤ k.max) : PureOK P st G w o a (.int k i) := ⟨_, h, rep_int h1 h2⟩
theorem pure_bool {b : Bool} (h : (execOp a.eval o).run P w = .ok (.value (.bool b)) w) : PureOK P st G w o a (.bool b) := ⟨_, h, rep_bool b⟩

theorem bitsK_pos (k : IntKind) : 0 < k.bits := by cases k <;> decide
theorem fdiv_holds {k : IntKind} {i : Int} (m : Nat) (h1 : k.min ≤ i) (h2 : i ≤ k.max) : k.min ≤ i.fdiv (2 ^ m) ∧ i.fdiv (2 ^ m) ≤ k.max := by
  have hp : (0 : Int) < 2 ^ m := Int.pow_pos (by decide)
  rw [Int.fdiv_eq_ediv_of_nonneg _ (Int.le_of_lt hp)]
  have hmin : k.min ≤ 0 := by cases k <;> decide
  have hmax : 0 ≤ k.max := by cases k <;> decide
  have hp1 : (1 : Int) ≤ 2 ^ m := hp
  constructor
  · rw [Int.le_ediv_iff_mul_le hp]
    calc k.min * 2 ^ m ≤ k.min * 1 := Int.mul_le_mul_of_nonpos_left hmin hp1
      _ = k.min := Int.mul_one _
      _ ≤ i := h1
  · rcases Int.lt_or_le i 0 with hi | hi
    · have := Int.ediv_neg_of_neg_of_pos hi hp
      omega
    · have := Int.ediv_le_self (2 ^ m) hi
      omega
theorem tmod_holds {k : IntKind} {i j : Int} (h1 : k.min ≤ i) (h2 : i ≤ k.max) : k.min ≤ i.tmod j ∧ i.tmod j ≤ k.max := by
  have hmin : k.min ≤ 0 := by cases k <;> decide
  have hmax : 0 ≤ k.max := by cases k <;> decide
  rcases Int.le_total 0 i with hi | hi
  · have a1 := Int.tmod_nonneg j hi
    have a2 : i.tmod j ≤ i := by
      have := Int.natAbs_tmod i j; have := Nat.mod_le i.natAbs j.natAbs
      omega
    omega
  · have a1 : i.tmod j ≤ 0 := by
      have := Int.tmod_nonneg (a := -i) j (by omega)
      rw [Int.neg_tmod] at this
      omega
    have a2 : i ≤ i.tmod j := by
      have := Int.natAbs_tmod i j; have := Nat.mod_le i.natAbs j.natAbs
      omega
    omega

theorem toList_mk (l : List UInt8) : (⟨l.toArray⟩ : ByteArray).toList = l := by
  rw [ByteArray.toList_eq]
theorem append_mk (x y : List UInt8) : (⟨x.toArray⟩ : ByteArray) ++ ⟨y.toArray⟩ = ⟨(x ++ y).toArray⟩ := by
  apply ByteArray.ext
  simp
theorem size_mk (x : List UInt8) : (⟨x.toArray⟩ : ByteArray).size = x.length := by simp [ByteArray.size]
end
end Go.Proofs.Ytddilmocngedjaa
/- Two operands: a real world does what the reading by content says. -/
namespace Go.Proofs.Ytddilmocngedjaa
set_option linter.unusedVariables false
set_option linter.unusedSimpArgs false
open Go.RowKit

section
variable {P : Program} {n : Nat} {w0 : World} {own : OwnP} {st st' : St} {G G' : Gh} {a : Act} {w w' : World} {o : Oper}

theorem keyType_guard : ∀ (m : Nat) (t : TypeId), P.keyTypeAt m t = true → ∀ d, m ≤ d → P.eqGuardType d t = false
  | 0, t, h => by simp [Program.keyTypeAt] at h
  | m + 1, t, h => by
    intro d hd
    obtain ⟨d, rfl⟩ : ∃ d', d = d' + 1 := ⟨d - 1, by omega⟩
    unfold Program.keyTypeAt at h
    unfold Program.eqGuardType
    cases hu : P.underlying t with
    | none => simp [hu] at h
    | some k =>
      cases k with
      | struct fs =>
        simp only [hu, Bool.and_eq_true] at h
        have h1 := h.1.1
        simp only [Array.all_eq_true] at h1
        simp only [Array.any_eq_false]
        intro i hi
        have := h1 i hi
        simp only [Bool.and_eq_true] at this
        simp only [Bool.and_eq_true, not_and]
        intro _
        have h2 := keyType_guard m _ this.2 d (by omega)
        simp [h2]
      | array n e => simp only [hu] at h; exact keyType_guard m e h d (by omega)
      | interface ms => simp [hu] at h
      | _ => rfl

theorem depth_big : 8 ≤ P.depth := by unfold Program.depth Made.depth; omega

def litOf : AV → Lit
  | .bool b => .bool b
  | .int k n => .int k n
  | .str l => .string l
  | _ => .bool false

theorem drop_take_get {α : Type} {l : List α} {o k i : Nat} : ((l.drop o).take k)[i]? = if i < k then l[o + i]? else none := by
  rw [List.getElem?_take]; split <;> simp [List.getElem?_drop]

theorem avLits_key (d : Nat) : ∀ (t : TypeId) (cs : List AV) (us : List Value) (la : List AV), P.keyTypeAt d t = true → avLits P d t cs = some la → us.length = cs.length → (∀ (i : Nat) c u, cs[i]? = some c → us[i]? = some u → Rep1 P st G w c u) →
    P.keyLits d t us = some (la.map litOf) ∧ ∀ x ∈ la, (∃ b, x = .bool b) ∨ (∃ k i, x = .int k i) ∨ ∃ l, x = .str l := by
  induction d with
  | zero => intro t cs us la _ h; simp [avLits] at h
  | succ d ih =>
    intro t cs us la hkt h hl hr
    have chunk : ∀ o k, ((us.drop o).take k).length = ((cs.drop o).take k).length := by intro o k; simp [hl]
    have hchunk : ∀ o k, ∀ (i : Nat) c u, ((cs.drop o).take k)[i]? = some c → ((us.drop o).take k)[i]? = some u → Rep1 P st G w c u := by
      intro o k i c u h1 h2
      rw [drop_take_get] at h1 h2
      split at h1
      · simp_all; exact hr _ c u h1 h2
      · cases h1
    have hmap : ∀ {α : Type} (f : α → TypeId × Nat × Nat) (l : List α) (ss : List (List AV)), (∀ x ∈ l, P.keyTypeAt d (f x).1 = true) → mapO (fun x => avLits P d (f x).1 ((cs.drop (f x).2.1).take (f x).2.2)) l = some ss →
        l.mapM (fun x => P.keyLits d (f x).1 ((us.drop (f x).2.1).take (f x).2.2)) = some (ss.map (·.map litOf)) ∧ ∀ s ∈ ss, ∀ x ∈ s, (∃ b, x = .bool b) ∨ (∃ k i, x = .int k i) ∨ ∃ l, x = .str l := by
      intro α f l
      induction l with
      | nil => intro ss _ h; simp [mapO] at h; subst h; simp
      | cons x l ihl =>
        intro ss hka h
        simp only [mapO] at h
        split at h
        · rename_i y s h1 h2
          cases h
          obtain ⟨e1, e2⟩ := ih _ _ _ _ (hka x (by simp)) h1 (chunk _ _) (hchunk _ _)
          obtain ⟨e3, e4⟩ := ihl _ (fun y hy => hka y (by simp [hy])) h2
          refine ⟨by rw [List.mapM_cons, e1, e3]; rfl, ?_⟩
          intro q hq
          rcases List.mem_cons.1 hq with rfl | hq
          · exact e2
          · exact e4 q hq
        · cases h
    unfold avLits at h
    unfold Program.keyLits
    unfold Program.keyTypeAt at hkt
    split at h
    · rename_i b hu
      cases h
      obtain ⟨u, hu1⟩ : ∃ u, us = [u] := by match us, hl with | [u], _ => exact ⟨u, rfl⟩
      subst hu1
      have := hr 0 _ u rfl rfl
      cases (this : RepP w _ (.bool b) u)
      rw [hu]
      exact ⟨rfl, by simp⟩
    · rename_i q q' i hu
      split at h
      · rename_i hq; subst hq
        cases h
        obtain ⟨u, hu1⟩ : ∃ u, us = [u] := by match us, hl with | [u], _ => exact ⟨u, rfl⟩
        subst hu1
        have := hr 0 _ u rfl rfl
        cases (this : RepP w _ (.int q' i) u)
        rename_i h1 h2
        rw [hu]
        have hwf : (Lit.int q' i).wf = true := by simp [Lit.wf, h1, h2]
        simp [hwf, litOf]
      · cases h
    · rename_i s hu
      cases h
      obtain ⟨u, hu1⟩ : ∃ u, us = [u] := by match us, hl with | [u], _ => exact ⟨u, rfl⟩
      subst hu1
      have := hr 0 _ u rfl rfl
      cases (this : RepP w _ (.str s) u)
      rename_i h1
      rw [hu]
      have : (⟨s.toArray⟩ : ByteArray).size ≤ maxLen := by rw [size_mk]; unfold maxLen; omega
      simp [this, litOf]
    · rename_i n' e hu
      split at h
      · rename_i hc
        rw [hu]
        simp only [Option.map_eq_some_iff] at h
        obtain ⟨ss, h1, rfl⟩ := h
        obtain ⟨e1, e2⟩ := hmap (fun i => (e, i * P.cellsOf e, P.cellsOf e)) _ _ (fun _ _ => by simpa [hu] using hkt) h1
        simp only [hl, hc, if_true, e1, Option.map_some, List.map_flatten]
        refine ⟨by first | rfl | simp, ?_⟩
        intro x hx
        obtain ⟨s, hs, hxs⟩ := List.mem_flatten.1 hx
        exact e2 s hs x hxs
      · cases h
    · rename_i fs hu
      split at h
      · rename_i hc
        rw [hu]
        simp only [Option.map_eq_some_iff] at h
        obtain ⟨ss, h1, rfl⟩ := h
        simp only [hu, Bool.and_eq_true] at hkt
        have hk1 := hkt.1.1
        have hall : ∀ f ∈ fs.toList, (f.name != "_") = true ∧ P.keyTypeAt d f.type = true := by
          intro f hf
          rw [Array.all_eq_true] at hk1
          obtain ⟨i, hi, rfl⟩ := List.getElem_of_mem hf
          have := hk1 i (by simpa using hi)
          simpa using this
        have hnm : fs.all (·.name != "_") = true := by
          rw [Array.all_eq_true]
          intro i hi
          exact (hall fs[i] (by simp)).1
        obtain ⟨e1, e2⟩ := hmap (fun (f : Field) => (f.type, f.offset, P.cellsOf f.type)) _ _ (fun f hf => (hall f hf).2) h1
        simp only [hl, hc, hnm, and_self, if_true, e1, Option.map_some, List.map_flatten]
        refine ⟨by first | rfl | simp, ?_⟩
        intro x hx
        obtain ⟨s, hs, hxs⟩ := List.mem_flatten.1 hx
        exact e2 s hs x hxs
      · cases h
    · cases h

theorem same_lits : ∀ (x y : List AV), (∀ q ∈ x, (∃ b, q = .bool b) ∨ (∃ k i, q = .int k i) ∨ ∃ l, q = .str l) → (∀ q ∈ y, (∃ b, q = .bool b) ∨ (∃ k i, q = .int k i) ∨ ∃ l, q = .str l) →
    Alike (x.map litOf) (y.map litOf) → (sameCells x y = true ↔ x.map litOf = y.map litOf)
  | [], [], _, _, _ => by simp [sameCells]
  | a :: x, b :: y, hx, hy, hk => by
    have ih := same_lits x y (fun q hq => hx q (by simp [hq])) (fun q hq => hy q (by simp [hq])) hk.2
    have h1 : a.same b = true ↔ litOf a = litOf b := by
      have := hk.1
      rcases hx a (by simp) with ⟨p, rfl⟩ | ⟨k, i, rfl⟩ | ⟨l, rfl⟩ <;> rcases hy b (by simp) with ⟨p', rfl⟩ | ⟨k', i', rfl⟩ | ⟨l', rfl⟩ <;> simp_all [AV.same, litOf, Lit.sameKind]
      try (rintro rfl; assumption)
    simp only [sameCells, Bool.and_eq_true, List.map_cons, List.cons.injEq, h1, ih]
  | [], _ :: _, _, _, hk => hk.elim
  | _ :: _, [], _, _, hk => hk.elim

theorem run_aggEq {t : TypeId} {x y : List AV} {u v : Value} {r : Bool} (hx : Rep P st G w (.agg x) u) (hy : Rep P st G w (.agg y) v) (h : aggEq P t x y = some r) :
    (Op.equal t u v).run P w = .ok r w ∧ P.eqGuardType P.depth t = false ∧ ∃ xs ys, u = .agg xs ∧ v = .agg ys := by
  unfold aggEq at h
  split at h
  · rename_i hk0
    obtain ⟨hk, hag, hla, hlb⟩ := hk0
    split at h
    · rename_i la lb h1 h2
      cases h
      obtain ⟨us, rfl, hu1, hu2⟩ := (hx : RepA P st G w (.agg x) u)
      obtain ⟨vs, rfl, hv1, hv2⟩ := (hy : RepA P st G w (.agg y) v)
      obtain ⟨a1, a2⟩ := avLits_key (w := w) (G := G) (st := st) 8 t x us.toList la hk h1 (by simpa using hu1) (fun i c q hc hq => by
        obtain ⟨_, q', h3, h4⟩ := hu2 i c hc
        simp only [Array.getElem?_toList] at hq
        rw [hq] at h3; cases h3; exact h4)
      obtain ⟨b1, b2⟩ := avLits_key (w := w) (G := G) (st := st) 8 t y vs.toList lb hk h2 (by simpa using hv1) (fun i c q hc hq => by
        obtain ⟨_, q', h3, h4⟩ := hv2 i c hc
        simp only [Array.getElem?_toList] at hq
        rw [hq] at h3; cases h3; exact h4)
      have hform : ∀ (zs : Array Value), zs.size = tsize P t → (Value.agg zs).formed P t = true := by
        intro zs hz
        unfold tagg at hag
        unfold tsize at hz
        simp only [Value.formed]
        split at hag
        · rename_i hu; rw [hu]; simp [hz]
        · rename_i hu; rw [hu]; simp [hz]
        · cases hag
      obtain ⟨q, hq, hiff⟩ := run_equalIn_deep (P := P) 9992 8 t hk w 8 8 (.agg us) (.agg vs) _ _ (hform _ (hu1.trans hla)) (hform _ (hv1.trans hlb)) a1 b1
      refine ⟨?_, keyType_guard 8 t hk _ depth_big, us, vs, rfl, rfl⟩
      have : q = sameCells la lb := by
        have := same_lits la lb a2 b2 (keyLits_alike a1 b1)
        rw [Bool.eq_iff_iff, hiff, this]
      rw [← this]
      exact hq
    · cases h
  · cases h
end
end Go.Proofs.Ytddilmocngedjaa
/- Operators, conversions, cuts, fields and places: a real world does what the reading by content says. -/
namespace Go.Proofs.Ytddilmocngedjaa
set_option linter.unusedVariables false
set_option linter.unusedSimpArgs false
open Go.RowKit

section
variable {P : Program} {n : Nat} {w0 : World} {own : OwnP} {st st' : St} {G G' : Gh} {a : Act} {w w' : World} {o : Oper}

theorem run_bin {op : BinOp} {xT yT : TypeId} {x y : Operand} (ho : o.op = .binOp op xT x y yT) {r : Value} (h1 : (eqGuard op xT x y (a.eval x) (a.eval y)).run P w = .ok () w) (h2 : (binOp op xT (a.eval x) (a.eval y)).run P w = .ok r w) :
    (execOp a.eval o).run P w = .ok (.value r) w := by
  simp [execOp, ho, h1, h2]
theorem guard_int {op : BinOp} {xT : TypeId} {x y : Operand} {k k' : IntKind} {i j : Int} : (eqGuard op xT x y (.int k i) (.int k' j)).run P w = .ok () w := by
  unfold eqGuard; split <;> rfl
theorem guard_str {op : BinOp} {xT : TypeId} {x y : Operand} {i j : ByteArray} : (eqGuard op xT x y (.string i) (.string j)).run P w = .ok () w := by
  unfold eqGuard; split <;> rfl
theorem guard_bool {op : BinOp} {xT : TypeId} {x y : Operand} {i j : Bool} : (eqGuard op xT x y (.bool i) (.bool j)).run P w = .ok () w := by
  unfold eqGuard; split <;> rfl
theorem guard_agg {op : BinOp} {xT : TypeId} {x y : Operand} {i j : Array Value} (h : P.eqGuardType P.depth xT = false) : (eqGuard op xT x y (.agg i) (.agg j)).run P w = .ok () w := by
  unfold eqGuard; split <;> first | rfl | simp [h]

theorem guard_ptr {op : BinOp} {xT : TypeId} {x y : Operand} {i j : Option Addr} : (eqGuard op xT x y (.pointer i) (.pointer j)).run P w = .ok () w := by
  unfold eqGuard; split <;> rfl
theorem Rep.inv_nilp {r : Value} (h : Rep P st G w .nilptr r) : r = .pointer none := by cases (h : RepP w _ .nilptr r); rfl
theorem ptr_type {t e : TypeId} (h : P.underlying t = some (.pointer e)) : P.underlying t = some (.pointer (P.pointee t)) := by
  rw [h]; simp [Program.pointee, h]
theorem str_add {x y : List UInt8} (h : x.length + y.length ≤ 9223372036854775807) : (Op.stringOp .add ⟨x.toArray⟩ ⟨y.toArray⟩).run P w = .ok (.string ⟨(x ++ y).toArray⟩) w := by
  have h1 : ¬ (((⟨x.toArray⟩ : ByteArray).size + (⟨y.toArray⟩ : ByteArray).size : Nat) : Int) > IntKind.i64.max := by
    rw [size_mk, size_mk]
    have : IntKind.i64.max = 9223372036854775807 := by decide
    omega
  simp only [Op.stringOp, h1, if_false, append_mk]
  rfl
theorem byte_get {l : List UInt8} {j : Nat} (h : j < l.length) : (⟨l.toArray⟩ : ByteArray)[j]? = some (l.getD j 0) := by
  have h1 : j < (⟨l.toArray⟩ : ByteArray).size := by rw [size_mk]; exact h
  rw [getElem?_pos (⟨l.toArray⟩ : ByteArray) j h1]
  have : (⟨l.toArray⟩ : ByteArray)[j] = l[j] := rfl
  rw [this]
  simp [h]

theorem guard_sl {op : BinOp} {xT : TypeId} {x y : Operand} {A B : Option Addr} {n m c d : Nat} : (eqGuard op xT x y (.slice A n c) (.slice B m d)).run P w = .ok () w := by
  unfold eqGuard; split <;> rfl
theorem Rep.inv_slne {xs : List AV} {o : Own} {r : Value} (h : Rep P st G w (.sl xs o) r) (hne : xs ≠ []) : ∃ A c, r = .slice (some A) xs.length c := by
  have h' := h.inv_sl
  cases h' with
  | slnil _ a cap h => exact absurd rfl hne
  | sl _ _ b off cap size us hc hm hsz hS hr => exact ⟨_, _, rfl⟩
theorem Rep.inv_slnil {r : Value} (h : Rep P st G w (.sl [] .nil) r) : r = .slice none 0 0 := by
  have h1 : ([] : List AV) = [] ∧ r = .slice none 0 0 := h
  exact h1.2
theorem pure_bin {op : BinOp} {xT yT : TypeId} {x y : Operand} {p : Prop} {v : AV} (hR : Rel P n w0 own st G a w) (ho : o.op = .binOp op xT x y yT) (he : abin P op xT (st.ev x) (st.ev y) = some (p, v)) (hp : p) : PureOK P st G w o a v := by
  have hx := hR.ev x
  have hy := hR.ev y
  generalize st.ev x = X at *
  generalize st.ev y = Y at *
  generalize hu : a.eval x = u at *
  generalize hv : a.eval y = z at *
  have R : ∀ {r : Value}, (eqGuard op xT x y u z).run P w = .ok () w → (binOp op xT u z).run P w = .ok r w → (execOp a.eval o).run P w = .ok (.value r) w := by
    intro r h1 h2
    exact run_bin ho (by rw [hu, hv]; exact h1) (by rw [hu, hv]; exact h2)
  unfold abin at he
  split at he
  -- shifts
  · cases he
    obtain ⟨rfl, b1, b2⟩ := hx.inv_int
    obtain ⟨rfl, _, _⟩ := hy.inv_int
    exact pure_int (R guard_int (by simp [binOp, Op.shift, Int.not_lt.2 hp])) (min_max_holds _ _).1 (min_max_holds _ _).2
  · cases he
    obtain ⟨rfl, b1, b2⟩ := hx.inv_int
    obtain ⟨rfl, _, _⟩ := hy.inv_int
    exact pure_int (R guard_int (by simp [binOp, Op.shift, Int.not_lt.2 hp])) (fdiv_holds _ b1 b2).1 (fdiv_holds _ b1 b2).2
  all_goals try
    (obtain ⟨rfl, b1, b2⟩ := hx.inv_int
     obtain ⟨rfl, b3, b4⟩ := hy.inv_int
     split at he
     · rename_i hk; subst hk
       cases he
       first
         | exact pure_int (R guard_int (by simp [binOp, Op.intArith]; rfl)) (min_max_holds _ _).1 (min_max_holds _ _).2
         | exact pure_int (R guard_int (by simp [binOp, Op.intDiv, hp] <;> rfl)) (min_max_holds _ _).1 (min_max_holds _ _).2
         | exact pure_int (R guard_int (by simp [binOp, Op.intDiv, hp])) (tmod_holds b1 b2).1 (tmod_holds b1 b2).2
         | exact pure_int (R guard_int (by simp [binOp, Op.intBits, intBits]; rfl)) (min_max_holds _ _).1 (min_max_holds _ _).2
         | exact pure_bool (R guard_int (by simp [binOp, Op.intCmp]))
     · cases he)
  · obtain ⟨rfl, b1⟩ := hx.inv_str
    obtain ⟨rfl, b3⟩ := hy.inv_str
    cases he
    exact ⟨_, R guard_str (by simp only [binOp]; exact str_add hp), rep_str (by simpa [catL] using hp)⟩
  · obtain ⟨rfl, b1⟩ := hx.inv_str
    obtain ⟨rfl, b3⟩ := hy.inv_str
    cases he
    exact pure_bool (R guard_str (by simp [binOp, Op.stringOp, toList_mk]))
  · obtain ⟨rfl, b1⟩ := hx.inv_str
    obtain ⟨rfl, b3⟩ := hy.inv_str
    cases he
    exact pure_bool (R guard_str (by simp [binOp, Op.stringOp, toList_mk]))
  iterate 4
    · obtain ⟨rfl, b1⟩ := hx.inv_str
      obtain ⟨rfl, b3⟩ := hy.inv_str
      cases he
      exact pure_bool (R guard_str (by simp [binOp, Op.stringOp, toList_mk]))
  · obtain ⟨_, rfl⟩ := hx.inv_ptr
    obtain rfl := hy.inv_nilp
    split at he
    · rename_i ht
      have ht := ptr_type ht
      cases he
      exact pure_bool (R guard_ptr (run_eql_pointer_nil w xT _ ht))
    · cases he
  · obtain ⟨_, rfl⟩ := hx.inv_ptr
    obtain rfl := hy.inv_nilp
    split at he
    · rename_i ht
      have ht := ptr_type ht
      cases he
      exact pure_bool (R guard_ptr (run_neq_pointer_nil w xT _ ht))
    · cases he
  · obtain rfl := hx.inv_nilp
    obtain rfl := hy.inv_nilp
    split at he
    · rename_i ht
      have ht := ptr_type ht
      cases he
      exact pure_bool (R guard_ptr (run_eql_pointer_nil w xT _ ht))
    · cases he
  · obtain rfl := hx.inv_nilp
    obtain rfl := hy.inv_nilp
    split at he
    · rename_i ht
      have ht := ptr_type ht
      cases he
      exact pure_bool (R guard_ptr (run_neq_pointer_nil w xT _ ht))
    · cases he
  · obtain rfl := hy.inv_slnil
    split at he
    · rename_i ht
      cases he
      obtain ⟨A, c, rfl⟩ := hx.inv_slne hp
      exact pure_bool (R guard_sl (by rw [Go.Lib.run_eql_slice_nil w xT _ (some A) _ c 0 0 ht]; rfl))
    · cases he
  · have h1 := hx.inv_bool
    have h2 := hy.inv_bool
    subst h1 h2
    split at he
    · rename_i hb
      cases he
      exact pure_bool (R guard_bool (by simp [binOp, run_equal_bool (P := P) w xT _ _ hb]))
    · cases he
  · have h1 := hx.inv_bool
    have h2 := hy.inv_bool
    subst h1 h2
    split at he
    · rename_i hb
      cases he
      exact pure_bool (R guard_bool (by simp [binOp, run_equal_bool (P := P) w xT _ _ hb]))
    · cases he
  · simp only [Option.map_eq_some_iff] at he
    obtain ⟨r, h1, h2⟩ := he
    cases h2
    obtain ⟨e1, e2, xs, ys, rfl, rfl⟩ := run_aggEq hx hy h1
    exact pure_bool (R (guard_agg e2) (by simp [binOp, e1]))
  · simp only [Option.map_eq_some_iff] at he
    obtain ⟨r, h1, h2⟩ := he
    cases h2
    obtain ⟨e1, e2, xs, ys, rfl, rfl⟩ := run_aggEq hx hy h1
    exact pure_bool (R (guard_agg e2) (by simp [binOp, e1]))
  · cases he

theorem pure_un {op : UnOp} {xT : TypeId} {x : Operand} {p : Prop} {v : AV} (hR : Rel P n w0 own st G a w) (ho : o.op = .unOp op xT x) (he : aun op (st.ev x) = some (p, v)) : PureOK P st G w o a v := by
  have hx := hR.ev x
  generalize st.ev x = X at *
  generalize hu : a.eval x = u at *
  unfold aun at he
  split at he
  · obtain ⟨rfl, b1, b2⟩ := hx.inv_int
    cases he
    exact pure_int (by simp [execOp, ho, hu, Op.unary, Op.intArith]) (min_max_holds _ _).1 (min_max_holds _ _).2
  · obtain ⟨rfl, b1, b2⟩ := hx.inv_int
    cases he
    exact pure_int (by simp [execOp, ho, hu, Op.unary, Op.intBits, intBits]) (min_max_holds _ _).1 (min_max_holds _ _).2
  · have := hx.inv_bool
    subst this
    cases he
    exact pure_bool (by simp [execOp, ho, hu, Op.unary])
  · cases he

theorem pure_convInt {x : Operand} {s t : TypeId} {d : TypeDesc} {k k' : IntKind} {i : Int} (hR : Rel P n w0 own st G a w) (ho : o.op = .convert s t x) (hs : P.underlying s = some d) (ht : P.underlying t = some (.int k)) (hx : st.ev x = .int k' i) :
    PureOK P st G w o a (.int k (k.wrap i)) := by
  have h1 := hR.ev x
  rw [hx] at h1
  obtain ⟨h2, _, _⟩ := h1.inv_int
  exact pure_int (by simp [execOp, ho, h2, convert, run_underlying hs, run_underlying ht, Conv.intToInt]) (min_max_holds _ _).1 (min_max_holds _ _).2
theorem pure_convStr {x : Operand} {s t : TypeId} {l : List UInt8} (hR : Rel P n w0 own st G a w) (ho : o.op = .convert s t x) (hs : P.underlying s = some .string) (ht : P.underlying t = some .string) (hx : st.ev x = .str l) :
    PureOK P st G w o a (.str l) := by
  have h1 := hR.ev x
  rw [hx] at h1
  obtain ⟨h2, h3⟩ := h1.inv_str
  exact ⟨_, by simp [execOp, ho, h2, convert, run_underlying hs, run_underlying ht], rep_str h3⟩

theorem pure_index {x i : Operand} {t : TypeId} {l : List UInt8} {k : IntKind} {j : Int} (hR : Rel P n w0 own st G a w) (ho : o.op = .index t x i) (ht : P.underlying t = some .string) (hx : st.ev x = .str l) (hi : st.ev i = .int k j)
    (h0 : 0 ≤ j) (h1 : j < l.length) : PureOK P st G w o a (byteAV (l.getD j.toNat 0)) := by
  have e1 := hR.ev x
  have e2 := hR.ev i
  rw [hx] at e1
  rw [hi] at e2
  obtain ⟨e3, _⟩ := e1.inv_str
  obtain ⟨e4, _, _⟩ := e2.inv_int
  have hlt : j.toNat < l.length := by omega
  have hg := byte_get hlt
  refine ⟨.int .u8 ((l.getD j.toNat 0).toNat : Int), ?_, ?_⟩
  · simp [execOp, ho, e3, e4, Instr.index, asIntOf, run_underlying ht, h0, hg]
  · have hb : (l.getD j.toNat 0).toNat < 256 := (l.getD j.toNat 0).toNat_lt
    refine rep_int ?_ ?_
    · have : IntKind.u8.min = 0 := by decide
      omega
    · have : IntKind.u8.max = 255 := by decide
      omega
end
end Go.Proofs.Ytddilmocngedjaa
/- Lengths, the greatest and the least, cuts, fields, places: a real world does what the reading by content says. -/
namespace Go.Proofs.Ytddilmocngedjaa
set_option linter.unusedVariables false
set_option linter.unusedSimpArgs false
open Go.RowKit

section
variable {P : Program} {n : Nat} {w0 : World} {own : OwnP} {st st' : St} {G G' : Gh} {a : Act} {w w' : World} {o : Oper}

theorem cellsOf_one {v : AV} (hv : ∀ cs, v ≠ .agg cs) : v.cells = [v] := by cases v <;> first | rfl | exact absurd rfl (hv _)
theorem len63 {m : Nat} (h : m ≤ 9223372036854775807) : IntKind.i64.min ≤ (m : Int) ∧ (m : Int) ≤ IntKind.i64.max := by
  have h1 : IntKind.i64.min = -9223372036854775808 := by decide
  have h2 : IntKind.i64.max = 9223372036854775807 := by decide
  omega

theorem rep_part {cs : List AV} {us : Array Value} (hs : us.size = cs.length) (h : ∀ (i : Nat) c, cs[i]? = some c → c.one = true ∧ ∃ u, us[i]? = some u ∧ Rep1 P st G w c u) (off k : Nat) :
    Rep P st G w (.agg ((cs.drop off).take k)) (.agg (us.extract off (off + k))) := by
  refine (⟨us.extract off (off + k), rfl, by simp [hs]; omega, fun i c hc => ?_⟩ : RepA P st G w (.agg ((cs.drop off).take k)) (.agg (us.extract off (off + k))))
  rw [drop_take_get] at hc
  split at hc
  · rename_i hi
    obtain ⟨h1, u, h2, h3⟩ := h _ _ hc
    refine ⟨h1, u, ?_, h3⟩
    obtain ⟨hlt, _⟩ := Array.getElem?_eq_some_iff.1 h2
    rw [Array.getElem?_extract]
    rw [if_pos (by omega)]
    exact h2
  · cases hc

theorem rep_part' {cs : List AV} {us : Array Value} {off k : Nat} (hs : cs.length ≤ us.size) (hf : off + k ≤ cs.length) (h : ∀ (i : Nat) c, cs[i]? = some c → c.one = true ∧ ∃ u, us[i]? = some u ∧ Rep1 P st G w c u) :
    Rep P st G w (.agg ((cs.drop off).take k)) (.agg (us.extract off (off + k))) := by
  refine (⟨us.extract off (off + k), rfl, by simp; omega, fun i c hc => ?_⟩ : RepA P st G w (.agg ((cs.drop off).take k)) (.agg (us.extract off (off + k))))
  rw [drop_take_get] at hc
  split at hc
  · rename_i hi
    obtain ⟨h1, u, h2, h3⟩ := h _ _ hc
    refine ⟨h1, u, ?_, h3⟩
    obtain ⟨hlt, _⟩ := Array.getElem?_eq_some_iff.1 h2
    rw [Array.getElem?_extract]
    rw [if_pos (by omega)]
    exact h2
  · cases hc

theorem pure_field {x : Operand} {t : TypeId} {f : Nat} {fs : Array Field} {fd : Field} {cs : List AV} (hR : Rel P n w0 own st G a w) (ho : o.op = .field t x f) (ht : P.underlying t = some (.struct fs)) (hf : fs[f]? = some fd)
    (hx : st.ev x = .agg cs) (hl : fd.offset + tsize P fd.type ≤ cs.length) (hu : (P.underlying fd.type).isSome = true) (h1 : tagg P fd.type = true ∨ tsize P fd.type = 1) :
    PureOK P st G w o a (if tagg P fd.type then .agg ((cs.drop fd.offset).take (tsize P fd.type)) else cellAt cs fd.offset) := by
  have e1 := hR.ev x
  rw [hx] at e1
  obtain ⟨us, e2, e3, e4⟩ := (e1 : RepA P st G w (.agg cs) _)
  obtain ⟨d, hd⟩ := Option.isSome_iff_exists.1 hu
  have hs := run_size (P := P) hd w
  by_cases hg : tagg P fd.type = true
  · rw [if_pos hg]
    have hagg : (isAgg fd.type).run P w = .ok true w := by
      unfold isAgg
      rw [Sem.run_bind, run_underlying hd w]
      unfold tagg at hg
      rw [hd] at hg
      cases d <;> simp_all
    exact ⟨_, by simp [execOp, ho, e2, Instr.field, run_underlying ht, hf, asAgg, part, hagg, hs], rep_part e3 e4 _ _⟩
  · rw [if_neg hg]
    have h2 : tsize P fd.type = 1 := h1.resolve_left hg
    have hagg : (isAgg fd.type).run P w = .ok false w := by
      unfold isAgg
      rw [Sem.run_bind, run_underlying hd w]
      unfold tagg at hg
      rw [hd] at hg
      cases d <;> simp_all
    have hlt : fd.offset < cs.length := by omega
    obtain ⟨_, u, h3, h4⟩ := e4 fd.offset cs[fd.offset] (List.getElem?_eq_getElem hlt)
    refine ⟨u, by simp [execOp, ho, e2, Instr.field, run_underlying ht, hf, asAgg, part, hagg, h3], ?_⟩
    unfold cellAt
    rw [List.getElem?_eq_getElem hlt]
    exact Rep.of1 h4

theorem bnd_run {m : Nat} {lo hi mx : Option AV} {lv hv mv : Option Value} {p : Prop} {l h : Nat} (hb : bndAV m lo hi mx = some (p, l, h)) (hp : p)
    (hl : ∀ x, lo = some x → ∃ u, lv = some u ∧ Rep P st G w x u) (hl0 : lo = none → lv = none)
    (hh : ∀ x, hi = some x → ∃ u, hv = some u ∧ Rep P st G w x u) (hh0 : hi = none → hv = none)
    (hm : ∀ x, mx = some x → ∃ u, mv = some u ∧ Rep P st G w x u) (hm0 : mx = none → mv = none) (isS : Bool) (cap : Nat) (hc : m ≤ cap) :
    ∃ c, (Instr.sliceBounds isS m cap lv hv mv).run P w = .ok (l, h, c) w ∧ l ≤ h ∧ h ≤ m ∧ h ≤ c ∧ c ≤ cap := by
  unfold bndAV at hb
  split at hb
  · cases hb
    rw [hl0 rfl, hh0 rfl, hm0 rfl]
    exact ⟨cap, by simp [Instr.sliceBounds], Nat.zero_le _, Nat.le_refl _, hc, Nat.le_refl _⟩
  · cases hb
    obtain ⟨u, rfl, hu⟩ := hl _ rfl
    obtain ⟨rfl, _, _⟩ := hu.inv_int
    rw [hh0 rfl, hm0 rfl]
    refine ⟨cap, ?_, by omega, Nat.le_refl _, hc, Nat.le_refl _⟩
    simp [Instr.sliceBounds, run_sliceBound, hp.1, hp.2]
  · cases hb
    obtain ⟨u, rfl, hu⟩ := hh _ rfl
    obtain ⟨rfl, _, _⟩ := hu.inv_int
    rw [hl0 rfl, hm0 rfl]
    refine ⟨cap, ?_, by omega, by omega, by omega, Nat.le_refl _⟩
    simp only [Instr.sliceBounds, Sem.run_bind, Sem.run_pure, Result.andThen_ok]
    rw [run_sliceBound (P := P) (h0 := hp.1) (h1 := by omega)]
    simp
  · cases hb
    obtain ⟨u, rfl, hu⟩ := hl _ rfl
    obtain ⟨rfl, _, _⟩ := hu.inv_int
    obtain ⟨u, rfl, hu⟩ := hh _ rfl
    obtain ⟨rfl, _, _⟩ := hu.inv_int
    rw [hm0 rfl]
    obtain ⟨q1, q2, q3⟩ := hp
    refine ⟨cap, ?_, by omega, by omega, by omega, Nat.le_refl _⟩
    simp only [Instr.sliceBounds, Sem.run_bind, Sem.run_pure, Result.andThen_ok]
    rw [run_sliceBound (P := P) (h0 := by omega) (h1 := by omega)]
    simp only [Result.andThen_ok]
    rw [run_sliceBound (P := P) (h0 := by omega) (h1 := by omega)]
    simp
  · cases hb
    obtain ⟨u, rfl, hu⟩ := hh _ rfl
    obtain ⟨rfl, _, _⟩ := hu.inv_int
    obtain ⟨u, rfl, hu⟩ := hm _ rfl
    obtain ⟨rfl, _, _⟩ := hu.inv_int
    rw [hl0 rfl]
    obtain ⟨q1, q2, q3⟩ := hp
    refine ⟨_, by
      simp only [Instr.sliceBounds, Sem.run_bind, Sem.run_pure, Result.andThen_ok]
      rw [run_sliceBound (P := P) (h0 := by omega) (h1 := by omega)]
      simp only [Result.andThen_ok]
      rw [run_sliceBound (P := P) (h0 := by omega) (h1 := by omega)]
      simp only [Result.andThen_ok]
      rfl, by omega, by omega, by omega, by omega⟩
  · cases hb

end
end Go.Proofs.Ytddilmocngedjaa
/- Cuts of texts and of slices, places in arrays and slices, lengths, the greatest and the least, reads: a real world does what the reading by content says. -/
namespace Go.Proofs.Ytddilmocngedjaa
set_option linter.unusedVariables false
set_option linter.unusedSimpArgs false
open Go.RowKit

section
variable {P : Program} {n : Nat} {w0 : World} {own : OwnP} {st st' : St} {G G' : Gh} {a : Act} {w w' : World} {o : Oper}

theorem opt_ev (hR : Rel P n w0 own st G a w) (x : Option Operand) : (∀ y, x.map st.ev = some y → ∃ u, x.map a.eval = some u ∧ Rep P st G w y u) ∧ (x.map st.ev = none → x.map a.eval = none) := by
  cases x with
  | none => exact ⟨by simp, fun _ => rfl⟩
  | some x => exact ⟨fun y hy => by cases hy; exact ⟨_, rfl, hR.ev x⟩, by simp⟩

theorem extract_mk (l : List UInt8) (i j : Nat) : (⟨l.toArray⟩ : ByteArray).extract i j = ⟨((l.take j).drop i).toArray⟩ := by
  apply ByteArray.ext
  rw [ByteArray.data_extract]
  simp [List.extract_eq_take_drop, List.drop_take]

theorem pure_sliceStr {x : Operand} {lo hi : Option Operand} {t : TypeId} {l : List UInt8} {p : Prop} {i j : Nat} (hR : Rel P n w0 own st G a w) (ho : o.op = .slice t x lo hi none) (ht : P.underlying t = some .string) (hx : st.ev x = .str l)
    (hb : bndAV l.length (lo.map st.ev) (hi.map st.ev) none = some (p, i, j)) (hp : p) : PureOK P st G w o a (.str ((l.take j).drop i)) := by
  have e1 := hR.ev x
  rw [hx] at e1
  obtain ⟨e2, e3⟩ := e1.inv_str
  obtain ⟨c, e4, e5, e6, _⟩ := bnd_run (P := P) (w := w) hb hp (opt_ev hR lo).1 (opt_ev hR lo).2 (opt_ev hR hi).1 (opt_ev hR hi).2 (mv := none) (by simp) (by simp) false l.length (Nat.le_refl _)
  refine ⟨.string ((⟨l.toArray⟩ : ByteArray).extract i j), ?_, ?_⟩
  · simp [execOp, ho, e2, Instr.sliceAt, Instr.slice, run_underlying ht, size_mk, e4]
  · rw [extract_mk]
    exact rep_str (by simp; omega)

theorem pure_slice {x : Operand} {lo hi mx : Option Operand} {t e : TypeId} {xs : List AV} {ow : Own} {p : Prop} {i j : Nat} (hR : Rel P n w0 own st G a w) (ho : o.op = .slice t x lo hi mx) (ht : P.underlying t = some (.slice e)) (hx : st.ev x = .sl xs ow)
    (hb : bndAV xs.length (lo.map st.ev) (hi.map st.ev) (mx.map st.ev) = some (p, i, j)) (hp : p) (hsz : ∀ y ∈ xs, y.cells.length = tsize P e) (he : (P.underlying e).isSome = true) : PureOK P st G w o a (.sl ((xs.take j).drop i) .no) := by
  have e1 := hR.ev x
  rw [hx] at e1
  have e2 := e1.inv_sl
  obtain ⟨ad, cap, e3, e4, e5⟩ := e2.form
  obtain ⟨c, e6, e7, e8, e9, e10⟩ := bnd_run (P := P) (w := w) hb hp (opt_ev hR lo).1 (opt_ev hR lo).2 (opt_ev hR hi).1 (opt_ev hR hi).2 (opt_ev hR mx).1 (opt_ev hR mx).2 true cap e4
  obtain ⟨d, hd⟩ := Option.isSome_iff_exists.1 he
  have hs := run_size (P := P) hd w
  refine ⟨.slice (if c = i then ad else ad.map (·.add (i * tsize P e))) (j - i) (c - i), ?_, ?_⟩
  · simp [execOp, ho, e3, Instr.sliceAt, Instr.slice, run_underlying ht, e6, hs]
  · have hlen : ((xs.take j).drop i).length = j - i := by simp; omega
    rw [e3] at e2
    by_cases hn : j - i = 0
    · have : (xs.take j).drop i = [] := List.eq_nil_of_length_eq_zero (by omega)
      rw [this, hn]
      exact rep_sl (.slnil _ _ _ (by omega))
    · have hci : c ≠ i := by omega
      rw [if_neg hci]
      refine rep_sl ?_
      generalize hq : Value.slice ad xs.length cap = q at e2
      cases e2 with
      | slnil => simp at e8; omega
      | sl _ _ b off cap' size us hc hm hsz' hS hr =>
        injection hq with h1 h2 h3
        subst h1 h3
        have hsize : size = tsize P e := by
          have h0 : 0 < xs.length := by omega
          rw [← hsz' 0 xs[0] (List.getElem?_eq_getElem h0)]
          exact hsz _ (List.getElem_mem h0)
        subst hsize
        have key := RepP.sl (w := w) (S := stable P st G) ((xs.take j).drop i) .no b (off + i * tsize P e) (c - i) (tsize P e) (fun k m => us (i + k) m) (by rw [hlen]; omega) (by omega)
          (fun k y hk => by
            rw [List.getElem?_drop, List.getElem?_take] at hk
            split at hk
            · exact hsz' _ _ hk
            · cases hk)
          (fun k y m c' hk hm' => by
            rw [List.getElem?_drop, List.getElem?_take] at hk
            split at hk
            · have := hS _ _ _ _ hk hm'
              rw [Nat.add_mul, ← Nat.add_assoc off] at this
              exact this
            · cases hk)
          (fun k y m c' hk hm' => by
            rw [List.getElem?_drop, List.getElem?_take] at hk
            split at hk
            · exact hr _ _ _ _ hk hm'
            · cases hk)
        rw [hlen] at key
        have hadd : (some (⟨b, off, none⟩ : Addr)).map (·.add (i * tsize P e)) = some ⟨b, off + i * tsize P e, none⟩ := by simp [Addr.add_mid]
        rw [hadd]
        exact key

theorem pure_indexArr {x i : Operand} {t e : TypeId} {m : Nat} {cs : List AV} {k : IntKind} {j : Int} (hR : Rel P n w0 own st G a w) (ho : o.op = .index t x i) (ht : P.underlying t = some (.array m e)) (hx : st.ev x = .agg cs) (hi : st.ev i = .int k j)
    (h0 : 0 ≤ j) (h1 : j < m) (hl : j.toNat * tsize P e + tsize P e ≤ cs.length) (hu : (P.underlying e).isSome = true) (h2 : tagg P e = true ∨ tsize P e = 1) :
    PureOK P st G w o a (if tagg P e then .agg (subAV cs (j.toNat * tsize P e) (tsize P e)) else pickFrom 0 cs (j.toNat * tsize P e)) := by
  have e1 := hR.ev x
  rw [hx] at e1
  have e2 := hR.ev i
  rw [hi] at e2
  obtain ⟨e5, _, _⟩ := e2.inv_int
  obtain ⟨us, e6, e3, e4⟩ := (e1 : RepA P st G w (.agg cs) _)
  obtain ⟨d, hd⟩ := Option.isSome_iff_exists.1 hu
  have hs := run_size (P := P) hd w
  by_cases hg : tagg P e = true
  · rw [if_pos hg, subAV_eq _ _ _ hl]
    have hagg : (isAgg e).run P w = .ok true w := by
      unfold isAgg
      rw [Sem.run_bind, run_underlying hd w]
      unfold tagg at hg
      rw [hd] at hg
      cases d <;> simp_all
    exact ⟨_, by simp [execOp, ho, e6, e5, Instr.index, asIntOf, run_underlying ht, h0, h1, part, hagg, hs], rep_part e3 e4 _ _⟩
  · rw [if_neg hg]
    have h3 : tsize P e = 1 := h2.resolve_left hg
    have hagg : (isAgg e).run P w = .ok false w := by
      unfold isAgg
      rw [Sem.run_bind, run_underlying hd w]
      unfold tagg at hg
      rw [hd] at hg
      cases d <;> simp_all
    have hlt : j.toNat * tsize P e < cs.length := by omega
    obtain ⟨_, u, h4, h5⟩ := e4 (j.toNat * tsize P e) cs[j.toNat * tsize P e] (List.getElem?_eq_getElem hlt)
    rw [pickFrom_eq _ 0 _ (Nat.zero_le _) (by omega), Nat.sub_zero]
    refine ⟨u, by simp [execOp, ho, e6, e5, Instr.index, asIntOf, run_underlying ht, h0, h1, part, hagg, hs, h4], ?_⟩
    unfold cellAt
    rw [List.getElem?_eq_getElem hlt]
    exact Rep.of1 h5
theorem pure_indexPtr {x i : Operand} {t e : TypeId} {m s off : Nat} {k : IntKind} {j : Int} (hR : Rel P n w0 own st G a w) (ho : o.op = .indexAddr t x i) (ht : P.underlying t = some (.array m e)) (hx : st.ev x = .ptr s off) (hi : st.ev i = .int k j)
    (h0 : 0 ≤ j) (h1 : j < m) (he : (P.underlying e).isSome = true) : PureOK P st G w o a (.ptr s (off + j.toNat * tsize P e)) := by
  have e1 := hR.ev x
  have e2 := hR.ev i
  rw [hx] at e1
  rw [hi] at e2
  obtain ⟨e3, e4⟩ := e1.inv_ptr
  obtain ⟨e5, _, _⟩ := e2.inv_int
  obtain ⟨d, hd⟩ := Option.isSome_iff_exists.1 he
  have hs := run_size (P := P) hd w
  exact ⟨.pointer (some ⟨G.bx s, off + j.toNat * tsize P e, none⟩), by simp [execOp, ho, e4, e5, Instr.indexAt, asIntOf, run_underlying ht, Instr.sureAddr, h0, h1, hs, Addr.add_mid], ⟨e3, rfl⟩⟩
theorem pure_indexEptr {x i : Operand} {t e : TypeId} {m q : Nat} {z : AV} {k : IntKind} {j : Int} (hR : Rel P n w0 own st G a w) (ho : o.op = .indexAddr t x i) (ht : P.underlying t = some (.array m e)) (hx : st.ev x = .eptr z q) (hi : st.ev i = .int k j)
    (h0 : 0 ≤ j) (h1 : j < m) (he : (P.underlying e).isSome = true) : PureOK P st G w o a (.eptr z (q + j.toNat * tsize P e)) := by
  have e1 := hR.ev x
  have e2 := hR.ev i
  rw [hx] at e1
  rw [hi] at e2
  obtain ⟨b, off, e4, e6⟩ := (e1 : Rep1 P st G w (.eptr z q) _)
  obtain ⟨e5, _, _⟩ := e2.inv_int
  obtain ⟨d, hd⟩ := Option.isSome_iff_exists.1 he
  have hs := run_size (P := P) hd w
  exact ⟨.pointer (some ⟨b, off + q + j.toNat * tsize P e, none⟩), by simp [execOp, ho, e4, e5, Instr.indexAt, asIntOf, run_underlying ht, Instr.sureAddr, h0, h1, hs, Addr.add_mid], ⟨b, off, by rw [Nat.add_assoc], e6⟩⟩
theorem pure_indexSl {x i : Operand} {t e : TypeId} {xs : List AV} {ow : Own} {k : IntKind} {j : Int} (hR : Rel P n w0 own st G a w) (ho : o.op = .indexAddr t x i) (ht : P.underlying t = some (.slice e)) (hx : st.ev x = .sl xs ow) (hi : st.ev i = .int k j)
    (h0 : 0 ≤ j) (h1 : j < xs.length) (hz : (cellAt xs j.toNat).cells.length = tsize P e) (he : (P.underlying e).isSome = true) : PureOK P st G w o a (.eptr (cellAt xs j.toNat) 0) := by
  have e1 := hR.ev x
  have e2 := hR.ev i
  rw [hx] at e1
  rw [hi] at e2
  have e3 := e1.inv_sl
  obtain ⟨e5, _, _⟩ := e2.inv_int
  obtain ⟨d, hd⟩ := Option.isSome_iff_exists.1 he
  have hs := run_size (P := P) hd w
  generalize hq : a.eval x = q at e3
  cases e3 with
  | slnil => simp at h1; omega
  | sl _ _ b off cap size us hc hm hsz hS hr =>
    have hj : j.toNat < xs.length := by omega
    have hg : cellAt xs j.toNat = xs[j.toNat] := by unfold cellAt; simp [hj]
    have hz' := hsz _ _ (List.getElem?_eq_getElem hj)
    rw [← hg, hz] at hz'
    refine ⟨.pointer (some ⟨b, off + j.toNat * tsize P e, none⟩), by simp [execOp, ho, hq, e5, Instr.indexAt, asIntOf, run_underlying ht, h0, h1, hs, Addr.add_mid], ⟨b, off + j.toNat * tsize P e, rfl, fun m c hmc => ?_⟩⟩
    rw [hg] at hmc
    have h2 := hS _ _ m c (List.getElem?_eq_getElem hj) hmc
    rw [← hz'] at h2
    exact ⟨h2.2.2, h2.1, _, h2.2.1, hr _ _ m c (List.getElem?_eq_getElem hj) hmc⟩
end
end Go.Proofs.Ytddilmocngedjaa
/- Lengths, the greatest and the least, structs, reads: a real world does what the reading by content says. -/
namespace Go.Proofs.Ytddilmocngedjaa
set_option linter.unusedVariables false
set_option linter.unusedSimpArgs false
open Go.RowKit

section
variable {P : Program} {n : Nat} {w0 : World} {own : OwnP} {st st' : St} {G G' : Gh} {a : Act} {w w' : World} {o : Oper}

theorem run_builtin {c : Call} {b : Builtin} (ho : o.op = .call c) (hc : c.callee = .builtin b) :
    (execOp a.eval o).run P w = (builtin b c.argTypes o.type (c.args.map fun | .const _ => true | _ => false) (c.args.map a.eval)).run P w := by
  simp [execOp, ho, resolve, hc, invoke]
  rfl

theorem pure_len {c : Call} {x : Operand} {t : TypeId} {v : AV} (hR : Rel P n w0 own st G a w) (ho : o.op = .call c) (hc : c.callee = .builtin .len) (hargs : c.args.toList = [x]) (ht : c.argTypes[0]? = some t) (he : effLen P t (st.ev x) = some v) :
    PureOK P st G w o a v := by
  have e1 := hR.ev x
  have ha : c.args = #[x] := by
    apply Array.ext'
    simpa using hargs
  have run := run_builtin (P := P) (w := w) (a := a) ho hc
  rw [ha] at run
  unfold effLen at he
  split at he
  · rename_i hu
    split at he
    · rename_i l hx
      cases he
      rw [hx] at e1
      obtain ⟨e2, e3⟩ := e1.inv_str
      exact pure_int (by rw [run]; simp [builtin, Builtin.len_, ht, e2, run_underlying hu, size_mk, goInt]) (len63 e3).1 (len63 e3).2
    · cases he
  · rename_i hu
    split at he
    · rename_i xs ow hx
      cases he
      rw [hx] at e1
      obtain ⟨ad, cap, e2, e3, e4⟩ := e1.inv_sl.form
      have e5 : xs.length ≤ 9223372036854775807 := by unfold maxLen at e4; omega
      exact pure_int (by rw [run]; simp [builtin, Builtin.len_, ht, e2, run_underlying hu, goInt]) (len63 e5).1 (len63 e5).2
    · rename_i s off m hx
      cases he
      rw [hx] at e1
      obtain ⟨_, _, cap, e2, e3, e4⟩ := (e1 : Rep1 P st G w (.vec s off m false) _)
      have e5 : m ≤ 9223372036854775807 := by unfold maxLen at e3; omega
      exact pure_int (by rw [run]; simp [builtin, Builtin.len_, ht, e4, run_underlying hu, goInt]) (len63 e5).1 (len63 e5).2
    · cases he
  · rename_i m hu
    split at he
    · rename_i hm
      cases he
      exact pure_int (by rw [run]; simp [builtin, Builtin.len_, ht, run_underlying hu, goInt]) (len63 hm).1 (len63 hm).2
    · cases he
  · cases he

theorem fold_run {f : AV → AV → Option AV} {g : Value → Value → Sem Value} (hfg : ∀ x y z u v, f x y = some z → Rep P st G w x u → Rep P st G w y v → ∃ r, (g u v).run P w = .ok r w ∧ Rep P st G w z r) :
    ∀ (ys : List AV) (vs : List Value) (x z : AV) (u : Value), foldAV f x ys = some z → Rep P st G w x u → ys.length = vs.length → (∀ (i : Nat) y v, ys[i]? = some y → vs[i]? = some v → Rep P st G w y v) →
      ∃ r, (vs.foldlM g u).run P w = .ok r w ∧ Rep P st G w z r
  | [], [], x, z, u, h, hx, _, _ => by simp [foldAV] at h; subst h; exact ⟨u, by simp, hx⟩
  | y :: ys, v :: vs, x, z, u, h, hx, hl, hr => by
    simp only [foldAV] at h
    split at h
    · rename_i c hc
      obtain ⟨r, h1, h2⟩ := hfg _ _ _ _ _ hc hx (hr 0 y v rfl rfl)
      obtain ⟨r', h3, h4⟩ := fold_run hfg ys vs c z r h h2 (by simpa using hl) (fun i y v h5 h6 => hr (i + 1) y v (by simpa using h5) (by simpa using h6))
      exact ⟨r', by simp [List.foldlM_cons, h1, h3], h4⟩
    · cases h
  | [], _ :: _, _, _, _, _, _, hl, _ => by simp at hl
  | _ :: _, [], _, _, _, _, _, hl, _ => by simp at hl

theorem rep_ite {k : IntKind} {c : Prop} [Decidable c] {i j : Int} (h1 : k.min ≤ i ∧ i ≤ k.max) (h2 : k.min ≤ j ∧ j ≤ k.max) : Rep P st G w (.int k (if c then i else j)) (.int k (if c then i else j)) := by
  split
  · exact rep_int h1.1 h1.2
  · exact rep_int h2.1 h2.2

theorem max2_run (x y z : AV) (u v : Value) (h : amax x y = some z) (hx : Rep P st G w x u) (hy : Rep P st G w y v) : ∃ r, (Builtin.max2 u v).run P w = .ok r w ∧ Rep P st G w z r := by
  unfold amax at h
  split at h
  · rename_i k i k' j
    split at h
    · rename_i hk; subst hk
      cases h
      obtain ⟨rfl, b⟩ := hx.inv_int
      obtain ⟨rfl, b'⟩ := hy.inv_int
      exact ⟨.int k (if j > i then j else i), by simp [Builtin.max2], rep_ite b' b⟩
    · cases h
  · cases h
theorem min2_run (x y z : AV) (u v : Value) (h : amin x y = some z) (hx : Rep P st G w x u) (hy : Rep P st G w y v) : ∃ r, (Builtin.min2 u v).run P w = .ok r w ∧ Rep P st G w z r := by
  unfold amin at h
  split at h
  · rename_i k i k' j
    split at h
    · rename_i hk; subst hk
      cases h
      obtain ⟨rfl, b⟩ := hx.inv_int
      obtain ⟨rfl, b'⟩ := hy.inv_int
      exact ⟨.int k (if j < i then j else i), by simp [Builtin.min2], rep_ite b' b⟩
    · cases h
  · cases h

theorem args_rep (hR : Rel P n w0 own st G a w) (l : List Operand) : ∀ (i : Nat) y v, (l.map st.ev)[i]? = some y → (l.map a.eval)[i]? = some v → Rep P st G w y v := by
  intro i y v h1 h2
  simp only [List.getElem?_map, Option.map_eq_some_iff] at h1 h2
  obtain ⟨x, hx, rfl⟩ := h1
  obtain ⟨x', hx', rfl⟩ := h2
  rw [hx] at hx'; cases hx'
  exact hR.ev x

theorem pure_max {c : Call} {x : AV} {r : List AV} {z : AV} (hR : Rel P n w0 own st G a w) (ho : o.op = .call c) (hc : c.callee = .builtin .max) (hargs : c.args.toList.map st.ev = x :: r) (he : foldAV amax x r = some z) : PureOK P st G w o a z := by
  obtain ⟨y, ys, hy⟩ : ∃ y ys, c.args.toList = y :: ys := by
    cases hq : c.args.toList with
    | nil => rw [hq] at hargs; simp at hargs
    | cons y ys => exact ⟨y, ys, rfl⟩
  rw [hy] at hargs
  simp only [List.map_cons, List.cons.injEq] at hargs
  obtain ⟨rfl, rfl⟩ := hargs
  obtain ⟨q, h1, h2⟩ := fold_run (P := P) (st := st) (G := G) (w := w) (f := amax) (g := Builtin.max2) max2_run (ys.map st.ev) (ys.map a.eval) (st.ev y) z (a.eval y) he (hR.ev y) (by simp) (args_rep hR ys)
  refine ⟨q, ?_, h2⟩
  rw [run_builtin ho hc]
  simp [builtin, Builtin.max_, hy, h1]
theorem pure_min {c : Call} {x : AV} {r : List AV} {z : AV} (hR : Rel P n w0 own st G a w) (ho : o.op = .call c) (hc : c.callee = .builtin .min) (hargs : c.args.toList.map st.ev = x :: r) (he : foldAV amin x r = some z) : PureOK P st G w o a z := by
  obtain ⟨y, ys, hy⟩ : ∃ y ys, c.args.toList = y :: ys := by
    cases hq : c.args.toList with
    | nil => rw [hq] at hargs; simp at hargs
    | cons y ys => exact ⟨y, ys, rfl⟩
  rw [hy] at hargs
  simp only [List.map_cons, List.cons.injEq] at hargs
  obtain ⟨rfl, rfl⟩ := hargs
  obtain ⟨q, h1, h2⟩ := fold_run (P := P) (st := st) (G := G) (w := w) (f := amin) (g := Builtin.min2) min2_run (ys.map st.ev) (ys.map a.eval) (st.ev y) z (a.eval y) he (hR.ev y) (by simp) (args_rep hR ys)
  refine ⟨q, ?_, h2⟩
  rw [run_builtin ho hc]
  simp [builtin, Builtin.min_, hy, h1]

theorem run_read {x : Operand} {t : TypeId} (ho : o.op = .load t x) {b off : Nat} (hx : a.eval x = .pointer (some ⟨b, off, none⟩)) (us : Nat → Value) (hu : (P.underlying t).isSome = true) (h1 : tagg P t = true ∨ tsize P t = 1)
    (hc : ∀ k, k < tsize P t → w.cell? ⟨b, off + k, none⟩ = some (us k)) :
    (execOp a.eval o).run P w = .ok (.value (if tagg P t then .agg ((List.range (tsize P t)).map us).toArray else us 0)) w := by
  obtain ⟨d, hd⟩ := Option.isSome_iff_exists.1 hu
  obtain ⟨i, hi⟩ := info_of_underlying hd
  by_cases hg : tagg P t = true
  · have hrow : d.isRow = true := by
      unfold tagg at hg
      rw [hd] at hg
      cases d <;> simp_all
    have hcs : w.rangeAt b off ((List.range (tsize P t)).map us) := by
      intro j v hv
      simp only [List.getElem?_map, Option.map_eq_some_iff] at hv
      obtain ⟨k, hk, rfl⟩ := hv
      obtain ⟨hlt, rfl⟩ := List.getElem?_eq_some_iff.1 hk
      simp only [List.getElem_range] at *
      exact hc _ (by simpa using hlt)
    have hsz : (P.info? t).map (·.size) = some ((List.range (tsize P t)).map us).length := by
      simp [hi, tsize, Program.cellsOf]
    simp [execOp, ho, hx, hg, run_loadAt_mid w b off t _ d hcs hd hrow hsz]
  · have h2 : tsize P t = 1 := h1.resolve_left hg
    have hagg : (isAgg t).run P w = .ok false w := by
      unfold isAgg
      rw [Sem.run_bind, run_underlying hd w]
      unfold tagg at hg
      rw [hd] at hg
      cases d <;> simp_all
    have hc0 := hc 0 (by omega)
    simp only [Nat.add_zero] at hc0
    simp [execOp, ho, hx, hg, Instr.loadAt, Instr.sureAddr, loadVar, hagg, hc0]

theorem pure_loadPtr {x : Operand} {t : TypeId} {s off : Nat} {cs : List AV} (hR : Rel P n w0 own st G a w) (ho : o.op = .load t x) (e2 : a.eval x = .pointer (some ⟨G.bx s, off, none⟩)) (hb : st.boxes s = some cs) (hl : off + tsize P t ≤ cs.length)
    (hu : (P.underlying t).isSome = true) (h1 : tagg P t = true ∨ tsize P t = 1) : PureOK P st G w o a (if tagg P t then .agg ((cs.drop off).take (tsize P t)) else cellAt cs off) := by
  obtain ⟨us, tt, h2, h3, h4⟩ := hR.mem.box s cs hb
  have hcell : ∀ k, k < tsize P t → w.cell? ⟨G.bx s, off + k, none⟩ = some (us.getD (off + k) undef) := by
    intro k hk
    have hlt : off + k < us.size := by omega
    simp [World.cell?, h2, hlt]
  refine ⟨_, run_read ho e2 (fun k => us.getD (off + k) undef) hu h1 hcell, ?_⟩
  by_cases hg : tagg P t = true
  · rw [if_pos hg, if_pos hg]
    have := rep_part' (P := P) (st := st) (G := G) (w := w) h3 hl h4
    have he : us.extract off (off + tsize P t) = ((List.range (tsize P t)).map fun k => us.getD (off + k) undef).toArray := by
      apply Array.ext
      · simp; omega
      · intro i hi1 hi2
        simp at hi1 hi2 ⊢
        rw [getElem?_pos _ _ (by omega)]
        rfl
    rw [he] at this
    exact this
  · rw [if_neg hg, if_neg hg]
    have h5 : tsize P t = 1 := h1.resolve_left hg
    have hlt : off < cs.length := by omega
    obtain ⟨_, u, h6, h7⟩ := h4 off cs[off] (List.getElem?_eq_getElem hlt)
    unfold cellAt
    rw [List.getElem?_eq_getElem hlt]
    have : us.getD (off + 0) undef = u := by simp [h6]
    simp only [this, Option.getD_some]
    exact Rep.of1 h7
end
end Go.Proofs.Ytddilmocngedjaa
/- Reads of elements, structs built, boxes made: a real world does what the reading by content says. -/
namespace Go.Proofs.Ytddilmocngedjaa
set_option linter.unusedVariables false
set_option linter.unusedSimpArgs false
open Go.RowKit

section
variable {P : Program} {n : Nat} {w0 : World} {own : OwnP} {st st' : St} {G G' : Gh} {a : Act} {w w' : World} {o : Oper}

theorem cell_past' {w : World} {x : Addr} {v : Value} {ob : Obj} (h : w.cell? x = some v) : (w.alloc ob).cell? x = some v := by
  have hlt : x.block < w.heap.size := World.block_lt_of_cell? w _ h
  rw [World.cell?_alloc_lt w ob x hlt]; exact h
theorem cellAt_some {cs : List AV} {i : Nat} (h : i < cs.length) : cs[i]? = some (cellAt cs i) := by unfold cellAt; simp [h]

theorem etaKs_get (x : AV) : ∀ (l : List Kd) (off i : Nat), (etaKs x l off)[i]? = (l[i]?).map fun t => etaK t x (off + i)
  | [], off, i => by simp [etaKs]
  | t :: l, off, 0 => by simp [etaKs]
  | t :: l, off, i + 1 => by
    simp only [etaKs, List.getElem?_cons_succ]
    rw [etaKs_get x l (off + 1) i]
    congr 2
    funext t
    congr 1
    omega
theorem etaKs_length (x : AV) : ∀ (l : List Kd) (o : Nat), (etaKs x l o).length = l.length
  | [], o => rfl
  | t :: l, o => by simp [etaKs, etaKs_length x l]
theorem etaK_ok (q : Kd) (z : AV) (j : Nat) : (∀ xs, etaK q z j ≠ .sl xs .nil) ∧ ∀ xs x y e, etaK q z j ≠ .sl xs (.row x y e) := by
  cases q <;> try (simp [etaK]; done)
  simp only [etaK, rdOth]
  split <;> simp_all

theorem etaKs_agg {ks : List Kd} {cs : List AV} {j n : Nat} (h : okRead ks (.agg cs) j) (hn : ks.length = n) : etaKs (.agg cs) ks j = (cs.drop j).take n := by
  apply List.ext_getElem?
  intro i
  rw [etaKs_get, List.getElem?_take, List.getElem?_drop]
  by_cases hi : i < n
  · rw [if_pos hi]
    have hk : ks[i]? = some ks[i] := List.getElem?_eq_getElem (by omega)
    rw [hk, Option.map_some]
    exact (h i _ hk).symm
  · rw [if_neg hi, List.getElem?_eq_none (by omega)]; rfl
theorem pure_loadEptr {x : Operand} {t : TypeId} {y : AV} {j : Nat} (hR : Rel P n w0 own st G a w) (ho : o.op = .load t x) (hx : st.ev x = .eptr y j) (hlv : (kdsOf P t).length = tsize P t)
    (hu : (P.underlying t).isSome = true) (h1 : tagg P t = true ∨ tsize P t = 1) (hp : okRead (kdsOf P t) y j) :
    PureOK P st G w o a (readK P t y j) := by
  have e1 := hR.ev x
  rw [hx] at e1
  obtain ⟨b, off, e2, e3⟩ := (e1 : Rep1 P st G w (.eptr y j) _)
  have hex : ∀ k, ∃ u, ∀ kd, (kdsOf P t)[k]? = some kd → w.cell? ⟨b, off + j + k, none⟩ = some u ∧ RepP w (stable P st G) (etaK kd y (j + k)) u ∧ (etaK kd y (j + k)).one = true := by
    intro k
    cases hk : (kdsOf P t)[k]? with
    | none => exact ⟨undef, fun kd h => by cases h⟩
    | some kd =>
      obtain ⟨h0, h2, u, h3, h4⟩ := e3 _ _ (hp k kd hk)
      exact ⟨u, fun kd' h => by cases h; exact ⟨by rw [Nat.add_assoc]; exact h3, h4, h0⟩⟩
  have ⟨us, hus⟩ : ∃ us : Nat → Value, ∀ k kd, (kdsOf P t)[k]? = some kd → w.cell? ⟨b, off + j + k, none⟩ = some (us k) ∧ RepP w (stable P st G) (etaK kd y (j + k)) (us k) ∧ (etaK kd y (j + k)).one = true :=
    ⟨fun k => Classical.choose (hex k), fun k kd hk => Classical.choose_spec (hex k) kd hk⟩
  refine ⟨_, run_read ho e2 us hu h1 (fun k hk => (hus k _ (List.getElem?_eq_getElem (by omega))).1), ?_⟩
  by_cases hg : tagg P t = true
  · rw [if_pos hg]
    have hr : readK P t y j = .agg (etaKs y (kdsOf P t) j) := by unfold readK; rw [if_pos hg]
    rw [hr]
    have hlen : (etaKs y (kdsOf P t) j).length = tsize P t := by rw [etaKs_length, hlv]
    refine (⟨((List.range (tsize P t)).map us).toArray, rfl, by simp [hlen], fun i c hc => ?_⟩ : RepA P st G w (.agg (etaKs y (kdsOf P t) j)) (.agg ((List.range (tsize P t)).map us).toArray))
    have hi : i < tsize P t := by rw [← hlen]; exact (List.getElem?_eq_some_iff.1 hc).1
    rw [etaKs_get] at hc
    simp only [Option.map_eq_some_iff] at hc
    obtain ⟨q, hq, rfl⟩ := hc
    obtain ⟨_, h3, h4⟩ := hus i q hq
    exact ⟨h4, us i, by simp [hi], repP_to1 h3 (etaK_ok _ _ _).1 (etaK_ok _ _ _).2⟩
  · rw [if_neg hg]
    have h5 : tsize P t = 1 := h1.resolve_left hg
    obtain ⟨kd, hkd⟩ : ∃ kd, kdsOf P t = [kd] := by
      rw [h5] at hlv
      match hq : kdsOf P t, hlv with
      | [kd], _ => exact ⟨kd, rfl⟩
    have hr : readK P t y j = etaK kd y j := by unfold readK; rw [if_neg hg, hkd]
    rw [hr]
    obtain ⟨_, h3, h4⟩ := hus 0 kd (by rw [hkd]; rfl)
    exact Rep.of1 (repP_to1 h3 (etaK_ok _ _ _).1 (etaK_ok _ _ _).2)

theorem Rel.newBox (hR : Rel P n w0 own st G a w) {d : Tmp} (hd : d < n) {cs : List AV} {us : List Value} (t : TypeId) (hl : us.length = cs.length) (hf : st.boxes d = none)
    (hr : ∀ (i : Nat) c, cs[i]? = some c → c.one = true ∧ ∃ u, us[i]? = some u ∧ Rep1 P st G w c u) {p : Prop} :
    ∃ G', Rel P n w0 own ((⟨p, .ptr d 0, [(d, cs)], []⟩ : Eff).app (some d) st) G' (a.put (some d) (.pointer (some ⟨w.heap.size, 0, none⟩))) (w.alloc (.cells us.toArray t)) := by
  obtain ⟨G', hG'⟩ : ∃ G' : Gh, G' = { G with bx := upd G.bx d w.heap.size } := ⟨_, rfl⟩
  refine ⟨G', ?_⟩
  have hbx : ∀ s cs, st.boxes s = some cs → G'.bx s = G.bx s ∧ s ≠ d := by
    intro s cs h
    have hne : s ≠ d := by rintro rfl; rw [hf] at h; cases h
    have hb : (s == d) = false := by simpa using hne
    exact ⟨by rw [hG']; simp [upd, hb], hne⟩
  have hbd : G'.bx d = w.heap.size := by rw [hG']; simp [upd]
  have hlt : ∀ s cs, st.boxes s = some cs → G.bx s < w.heap.size := by
    intro s cs h
    obtain ⟨_, _, h1, _⟩ := hR.mem.box s cs h
    exact (Array.getElem?_eq_some_iff.1 h1).1
  have hnew : ∀ s, ((⟨p, .ptr d 0, [(d, cs)], []⟩ : Eff).app (some d) st).boxes s = if s = d then some cs else st.boxes s := by
    intro s
    simp only [Eff.app, updAll, upd]
    by_cases h : s = d
    · simp [h]
    · have hb : (s == d) = false := by simpa using h
      simp [h, hb]
  have hrl : ∀ x y tip g, st.rows x y = .live tip → (G.cv x y).ownBlock = some g → g < w.heap.size := by
    intro x y tip g h1 h2
    obtain ⟨_, us, h3⟩ := hR.mem.row x y tip h1
    exact (h3.lt g h2).2
  have hk : Kp P st G w ((⟨p, .ptr d 0, [(d, cs)], []⟩ : Eff).app (some d) st) G' (w.alloc (.cells us.toArray t)) := by
    refine ⟨?_, ?_, ?_, fun _ _ h => by rw [hG'] at h; exact h⟩
    · intro b o u ⟨s0, s1, s2⟩ hc
      have hb : b < w.heap.size := World.block_lt_of_cell? w _ hc
      refine ⟨⟨by rw [hG']; exact s0, ?_, ?_⟩, cell_past' hc⟩
      · intro s cs' hs
        rw [hnew] at hs
        split at hs
        · rename_i e; subst e; rw [hbd]; omega
        · rw [(hbx s cs' hs).1]; exact s1 s cs' hs
      · intro x y tip h1 h2
        rw [hG'] at h2 ⊢
        exact s2 x y tip h1 h2
    · intro s cs' hs
      refine ⟨?_, (hbx s cs' hs).1⟩
      rw [hnew]
      rw [if_neg (hbx s cs' hs).2]
      exact ⟨cs', hs⟩
    · intro x y h
      rw [hG']
      exact ⟨h, fun tip h' => ⟨tip, h', rfl, Nat.le_refl _, fun _ => rfl⟩⟩
  have hcv : G'.cv = G.cv := by rw [hG']
  have het : G'.et = G.et := by rw [hG']
  refine hR.step (by rintro _ ⟨⟩; exact hd) hk (fun _ => ?_) ?_ ?_ ?_ ?_ (by rw [hG']) (by rw [hcv]; exact hR.rbad)
  · exact ⟨⟨cs, by rw [hnew, if_pos rfl]⟩, by rw [hbd]⟩
  · refine ⟨?_, ?_, ?_, ?_, ?_⟩
    · intro s cs' hs
      rw [hnew] at hs
      split at hs
      · rename_i e; subst e; cases hs
        rw [hbd]
        refine ⟨us.toArray, t, heap_alloc_new w _, by simp [hl], fun i c hc => ?_⟩
        obtain ⟨h1, u, h2, h3⟩ := hr i c hc
        exact ⟨h1, u, by simpa using h2, h3.keep hk⟩
      · obtain ⟨vs, t', h1, h2, h3⟩ := hR.mem.box s cs' hs
        rw [(hbx s cs' hs).1]
        refine ⟨vs, t', by rw [heap_alloc_old w _ (hlt s cs' hs)]; exact h1, h2, fun i c hc => ?_⟩
        obtain ⟨h4, u, h5, h6⟩ := h3 i c hc
        exact ⟨h4, u, h5, h6.keep hk⟩
    · intro s c1 s' c2 h1 h2 he
      rw [hnew] at h1 h2
      split at h1 <;> split at h2
      · simp_all
      · rename_i e1 e2; subst e1; rw [hbd, (hbx s' c2 h2).1] at he; have := hlt s' c2 h2; omega
      · rename_i e1 e2; subst e2; rw [hbd, (hbx s c1 h1).1] at he; have := hlt s c1 h1; omega
      · rw [(hbx s c1 h1).1, (hbx s' c2 h2).1] at he; exact hR.mem.inj s c1 s' c2 h1 h2 he
    · intro x y tip h
      rw [hcv, het]
      obtain ⟨h1, vs, h2⟩ := hR.mem.row x y tip h
      exact ⟨h1, vs, h2.alloc _⟩
    · intro x y tip x' y' tip' g h1 h2
      rw [hcv]
      exact hR.mem.rinj x y tip x' y' tip' g h1 h2
    · intro s cs' x y tip h1 h2
      rw [hcv]
      rw [hnew] at h1
      split at h1
      · rename_i e; subst e
        rw [hbd]
        intro hc
        have := hrl x y tip _ h2 hc
        omega
      · rw [(hbx s cs' h1).1]; exact hR.mem.brow s cs' x y tip h1 h2
  · have hp := hR.pres
    exact ⟨hp.os, hp.tape, hp.output, by simp; have := hp.size; omega, fun b hb ho => by rw [heap_alloc_old w _ (by have := hp.size; omega)]; exact hp.block b hb ho,
      fun b t hb ho q u hq hc => cell_past' (hp.cell b t hb ho q u hq hc)⟩
  · intro s cs' hs
    rw [hnew] at hs
    split at hs
    · rename_i e; subst e; rw [hbd]; exact .inl hR.pres.size
    · rw [(hbx s cs' hs).1]; exact hR.obox s cs' hs
  · intro x y tip g h1 h2
    rw [hcv] at h2
    rw [het]
    exact hR.orow x y tip g h1 h2

theorem freeAll_get (R : Nat → Nat → RowSt) (d : Nat) : ∀ (cs : List AV) (k : Nat), freeAll R d k cs = true → ∀ y, k ≤ y → y < k + cs.length → R d y = .free
  | [], k, _, y, h1, h2 => by simp at h2; omega
  | c :: cs, k, h, y, h1, h2 => by
    simp only [freeAll, Bool.and_eq_true] at h
    by_cases hy : y = k
    · subst hy
      have := h.1
      split at this
      · assumption
      · cases this
    · exact freeAll_get R d cs (k + 1) h.2 y (by omega) (by simp at h2; omega)

theorem Rel.nilRow (hR : Rel P n w0 own st G a w) {s j aa bb e : Nat} {cs xs : List AV} (hb : st.boxes s = some cs) (hc : cs[j]? = some (.sl xs .nil)) (hf : st.rows aa bb = .free) (hp : 0 < tsize P e) :
    ∃ G', Rel P n w0 own { tmps := st.tmps, boxes := upd st.boxes s (some (cs.set j (.sl xs (.row aa bb e)))), rows := upd2 st.rows (aa, bb) (.live 0) } G' a w := by
  obtain ⟨G', hG'⟩ : ∃ G' : Gh, G' = ⟨G.bx, fun x y => if x = aa ∧ y = bb then .slice none 0 0 else G.cv x y, fun x y => if x = aa ∧ y = bb then e else G.et x y, G.bad⟩ := ⟨_, rfl⟩
  obtain ⟨st', hst'⟩ : ∃ s', s' = ({ tmps := st.tmps, boxes := upd st.boxes s (some (cs.set j (.sl xs (.row aa bb e)))), rows := upd2 st.rows (aa, bb) (.live 0) } : St) := ⟨_, rfl⟩
  refine ⟨G', ?_⟩
  rw [← hst']
  have hbx : ∀ x c, st'.boxes x = some c → ∃ c0, st.boxes x = some c0 ∧ ((x = s ∧ c0 = cs ∧ c = cs.set j (.sl xs (.row aa bb e))) ∨ c = c0) := by
    intro x c h
    rw [hst'] at h
    simp only [upd] at h
    by_cases hx : x = s
    · subst hx
      simp at h
      exact ⟨cs, hb, .inl ⟨rfl, rfl, h.symm⟩⟩
    · have hh : (x == s) = false := by simpa using hx
      simp only [hh, cond_false] at h
      exact ⟨c, h, .inr rfl⟩
  have hbx2 : ∀ x c, st.boxes x = some c → ∃ c', st'.boxes x = some c' := by
    intro x c h
    rw [hst']
    simp only [upd]
    by_cases hx : x = s
    · subst hx; exact ⟨_, by simp; rfl⟩
    · have hh : (x == s) = false := by simpa using hx
      simp only [hh, cond_false]
      exact ⟨c, h⟩
  have hrw : ∀ x y, st'.rows x y = if x = aa ∧ y = bb then .live 0 else st.rows x y := by
    intro x y
    rw [hst']
    simp only [upd2]
    by_cases h : x = aa ∧ y = bb
    · obtain ⟨rfl, rfl⟩ := h; simp
    · have : (x == aa && y == bb) = false := by
        rw [Bool.and_eq_false_iff]
        by_cases h1 : x = aa
        · right; simp; intro h2; exact h ⟨h1, h2⟩
        · left; simpa using h1
      simp [this, h]
  have hold : ∀ x y, ¬ (x = aa ∧ y = bb) → G'.cv x y = G.cv x y ∧ G'.et x y = G.et x y := by
    intro x y h; rw [hG']; simp only; rw [if_neg h, if_neg h]; exact ⟨rfl, rfl⟩
  have hnew : G'.cv aa bb = .slice none 0 0 ∧ G'.et aa bb = e := by rw [hG']; simp
  have hlv : ∀ {x y tip g}, st'.rows x y = .live tip → (G'.cv x y).ownBlock = some g → st.rows x y = .live tip ∧ G'.cv x y = G.cv x y ∧ G'.et x y = G.et x y := by
    intro x y tip g h h'
    rw [hrw] at h
    split at h
    · rename_i hh
      obtain ⟨rfl, rfl⟩ := hh
      rw [hnew.1] at h'
      simp [Value.ownBlock] at h'
    · rename_i hh
      exact ⟨h, hold x y hh⟩
  have hGb : G'.bx = G.bx := by rw [hG']
  have hk : Kp P st G w st' G' w := by
    refine ⟨fun b o u hs hcell => ⟨⟨by rw [hG']; exact hs.1, fun x c h => ?_, fun x y tip h h' => ?_⟩, hcell⟩, fun x c h => ⟨hbx2 x c h, by rw [hGb]⟩, fun x y h => ?_, fun _ _ h => by rw [hG'] at h; exact h⟩
    · obtain ⟨c0, h0, h1⟩ := hbx x c h
      rw [hGb]
      intro hne
      refine hs.2.1 x c0 h0 ?_
      rcases h1 with ⟨_, rfl, rfl⟩ | rfl
      · rintro rfl; exact hne rfl
      · exact hne
    · obtain ⟨h1, h2, h3⟩ := hlv h h'
      rw [h2] at h'
      rw [h3]
      exact hs.2.2 x y tip h1 h'
    · have hne : ¬ (x = aa ∧ y = bb) := by rintro ⟨rfl, rfl⟩; exact h hf
      rw [hrw, if_neg hne]
      exact ⟨h, fun tip h' => ⟨tip, h', (hold x y hne).2, Nat.le_refl _, fun _ => (hold x y hne).1⟩⟩
  have hmem : Mem P st' G' w := by
    refine ⟨fun x c h => ?_, fun x c x' c' h h' he => ?_, fun x y tip h => ?_, fun x y tip x' y' tip' g h h' hg hg' => ?_, fun x c y z tip h h' hg => ?_⟩
    · obtain ⟨c0, h0, h1⟩ := hbx x c h
      obtain ⟨us, t, q1, q2, q3⟩ := hR.mem.box x c0 h0
      rw [hGb]
      rcases h1 with ⟨rfl, rfl, rfl⟩ | rfl
      · refine ⟨us, t, q1, by simpa using q2, fun i c hi => ?_⟩
        rw [List.getElem?_set] at hi
        split at hi
        · rename_i hji
          subst hji
          split at hi
          · cases hi
            obtain ⟨_, u, q5, q6⟩ := q3 j _ hc
            obtain ⟨rfl, rfl⟩ := (q6 : Rep1 P st G w (.sl xs .nil) u)
            refine ⟨rfl, _, q5, (⟨.slnil _ _ _ (by unfold maxLen; omega), ?_⟩ : Rep1 P st' G' w (.sl [] (.row aa bb e)) _)⟩
            rw [hrw, if_pos ⟨rfl, rfl⟩]
            exact ⟨hnew.2.symm, Nat.le_refl _, fun _ => hnew.1.symm⟩
          · cases hi
        · obtain ⟨q4, u, q5, q6⟩ := q3 i c hi
          exact ⟨q4, u, q5, q6.keep hk⟩
      · exact ⟨us, t, q1, q2, fun i c hi => by obtain ⟨q4, u, q5, q6⟩ := q3 i c hi; exact ⟨q4, u, q5, q6.keep hk⟩⟩
    · obtain ⟨c0, h0, _⟩ := hbx x c h
      obtain ⟨c0', h0', _⟩ := hbx x' c' h'
      rw [hGb] at he
      exact hR.mem.inj x c0 x' c0' h0 h0' he
    · rw [hrw] at h
      split at h
      · rename_i hh
        obtain ⟨rfl, rfl⟩ := hh
        cases h
        rw [hnew.1, hnew.2]
        exact ⟨hp, [], World.ownsRow_nil _ _ _ _⟩
      · rename_i hh
        rw [(hold x y hh).1, (hold x y hh).2]
        exact hR.mem.row x y tip h
    · obtain ⟨h1, h2, _⟩ := hlv h hg
      obtain ⟨h1', h2', _⟩ := hlv h' hg'
      rw [h2] at hg
      rw [h2'] at hg'
      exact hR.mem.rinj x y tip x' y' tip' g h1 h1' hg hg'
    · obtain ⟨c0, h0, _⟩ := hbx x c h
      rw [hGb] at hg
      obtain ⟨h1, h2, _⟩ := hlv h' hg
      rw [h2] at hg
      exact hR.mem.brow x c0 y z tip h0 h1 hg
  refine ⟨hR.size, hR.defers, fun t => ?_, hmem, hR.pres, fun x c h => ?_, fun x y tip g h h' => ?_, by rw [hG']; exact hR.bad, fun x y tip g o h h' => ?_, fun x b h => ?_, by rw [hG']; exact hR.same⟩
  · have := (hR.tmps t).keep hk
    rw [hst'] at this ⊢
    exact this
  · obtain ⟨c0, h0, _⟩ := hbx x c h
    rw [hGb]; exact hR.obox x c0 h0
  · obtain ⟨h1, h2, h3⟩ := hlv h h'
    rw [h2] at h'
    rw [h3]
    exact hR.orow x y tip g h1 h'
  · obtain ⟨h1, h2, h3⟩ := hlv h h'
    rw [h2] at h'
    have := hR.rbad x y tip g o h1 h'
    rw [hG']; exact this
  · obtain ⟨⟨c, h1⟩, h2⟩ := hR.pin x b h
    exact ⟨hbx2 x c h1, by rw [hGb]; exact h2⟩

theorem nilCell_cases (P : Program) (d j : Nat) (t : TypeId) (c : AV) : (nilCell P d j t c = c ∧ nilRow1 P d j t c = []) ∨ ∃ xs el, c = .sl xs .nil ∧ 0 < tsize P el ∧ nilCell P d j t c = .sl xs (.row d j el) ∧ nilRow1 P d j t c = [((d, j), .live 0)] := by
  unfold nilCell nilRow1
  split
  · rename_i xs
    cases hu : P.underlying t with
    | none => exact .inl ⟨rfl, rfl⟩
    | some q =>
      cases q with
      | slice el =>
        by_cases hp : 0 < tsize P el
        · right
          exact ⟨xs, el, rfl, hp, by simp [hp], by simp [hp]⟩
        · left
          exact ⟨by simp [hp], by simp [hp]⟩
      | _ => exact .inl ⟨rfl, rfl⟩
  · rename_i c hc
    left
    refine ⟨rfl, ?_⟩
    cases c with
    | sl xs ow => cases ow <;> first | rfl | exact absurd rfl (hc _)
    | _ => rfl
theorem upd_self {α : Type} (f : Nat → α) (k : Nat) (v : α) (h : f k = v) : upd f k v = f := by
  funext x
  unfold upd
  by_cases hx : x = k
  · subst hx; simp [h]
  · have hh : (x == k) = false := by simpa using hx
    simp [hh]
theorem upd_twice {α : Type} (f : Nat → α) (k : Nat) (v v' : α) : upd (upd f k v) k v' = upd f k v' := by
  funext x
  unfold upd
  cases hx : x == k <;> rfl
theorem Rel.nils {d : Nat} : ∀ (cs : List AV) (ts : List TypeId) (pre : List AV) (st : St) (G : Gh), Rel P n w0 own st G a w → st.boxes d = some (pre ++ cs) → (∀ y, pre.length ≤ y → y < pre.length + cs.length → st.rows d y = .free) →
    ∃ G', Rel P n w0 own { tmps := st.tmps, boxes := upd st.boxes d (some (pre ++ nilCells P d pre.length ts cs)), rows := updRows st.rows (nilRows P d pre.length ts cs) } G' a w
  | [], ts, pre, st, G, hR, hb, _ => by
    refine ⟨G, ?_⟩
    have e1 : nilCells P d pre.length ts [] = [] := by cases ts <;> rfl
    have e2 : nilRows P d pre.length ts [] = [] := by cases ts <;> rfl
    rw [e1, e2, upd_self _ _ _ hb]
    exact hR
  | c :: cs, [], pre, st, G, hR, hb, _ => by
    refine ⟨G, ?_⟩
    show Rel P n w0 own { tmps := st.tmps, boxes := upd st.boxes d (some (pre ++ c :: cs)), rows := st.rows } G a w
    rw [upd_self _ _ _ hb]
    exact hR
  | c :: cs, t :: ts, pre, st, G, hR, hb, hf => by
    simp only [nilCells, nilRows]
    have hlen : (pre ++ [nilCell P d pre.length t c]).length = pre.length + 1 := by simp
    rcases nilCell_cases P d pre.length t c with ⟨h1, h2⟩ | ⟨xs, el, rfl, hp, h1, h2⟩
    · rw [h1, h2, List.nil_append]
      rw [h1] at hlen
      obtain ⟨G', hR'⟩ := Rel.nils (d := d) cs ts (pre ++ [c]) st G hR (by simpa using hb) (fun y h3 h4 => hf y (by simp at h3; omega) (by simp at h3 h4 ⊢; omega))
      rw [hlen] at hR'
      exact ⟨G', by simpa using hR'⟩
    · rw [h1, h2]
      rw [h1] at hlen
      obtain ⟨G1, hR1⟩ := hR.nilRow (xs := xs) (aa := d) (bb := pre.length) (j := pre.length) hb (by simp) (hf _ (Nat.le_refl _) (by simp)) hp
      have e0 : (pre ++ AV.sl xs .nil :: cs).set pre.length (.sl xs (.row d pre.length el)) = (pre ++ [.sl xs (.row d pre.length el)]) ++ cs := by simp
      rw [e0] at hR1
      obtain ⟨G', hR'⟩ := Rel.nils (d := d) cs ts (pre ++ [.sl xs (.row d pre.length el)]) _ G1 hR1 (by simp [upd]) (fun y h3 h4 => by
        simp only [upd2]
        have : (y == pre.length) = false := by simp at h3 ⊢; omega
        simp only [this, Bool.and_false, cond_false]
        exact hf y (by simp at h3; omega) (by simp at h3 h4 ⊢; omega))
      rw [hlen] at hR'
      refine ⟨G', ?_⟩
      simp only [upd_twice] at hR'
      simpa [updRows] using hR'
theorem Rel.newBox' (hR : Rel P n w0 own st G a w) {d : Tmp} (hd : d < n) {cs : List AV} {us : List Value} (t : TypeId) (ts : List TypeId) (hl : us.length = cs.length) (hf : st.boxes d = none) (hfr : freeAll st.rows d 0 cs = true)
    (hr : ∀ (i : Nat) c, cs[i]? = some c → c.one = true ∧ ∃ u, us[i]? = some u ∧ Rep1 P st G w c u) {p : Prop} :
    ∃ G', Rel P n w0 own ((⟨p, .ptr d 0, [(d, nilCells P d 0 ts cs)], nilRows P d 0 ts cs⟩ : Eff).app (some d) st) G' (a.put (some d) (.pointer (some ⟨w.heap.size, 0, none⟩))) (w.alloc (.cells us.toArray t)) := by
  obtain ⟨G1, hR1⟩ := hR.newBox hd t hl hf hr (p := p)
  obtain ⟨G2, hR2⟩ := Rel.nils (d := d) cs ts [] _ G1 hR1 (by simp [Eff.app, updAll, upd]) (fun y h1 h2 => by
    simp only [Eff.app, updRows]
    exact freeAll_get _ _ cs 0 hfr y (Nat.zero_le _) (by simpa using h2))
  refine ⟨G2, ?_⟩
  simp only [Eff.app, updAll, updRows, upd_twice, List.length_nil, List.nil_append] at hR2 ⊢
  exact hR2
end
end Go.Proofs.Ytddilmocngedjaa
