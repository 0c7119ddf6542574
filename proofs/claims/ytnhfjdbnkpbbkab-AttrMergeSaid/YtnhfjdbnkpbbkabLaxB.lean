/- What each operation does, by content (eff), and the verification condition of a function's code (awp). Nothing is proved of the program here. -/
import Derived.Test.YtnhfjdbnkpbbkabLaxA
namespace Go.Proofs.Ytnhfjdbnkpbbkab
set_option linter.unusedVariables false
set_option linter.unusedSimpArgs false
open Go.RowKit

/-- what a function is given: values, and a box behind a pointer -/
inductive Arg where
  | val (v : AV)
  | box (cells : List AV)
/-- what it gives back: its value, the box that it was given, and a new one -/
structure Res where
  val : AV
  box : Option (List AV)
  new : Option (List AV)
abbrev Con := List Arg → Option (Prop × Res)

/-- a value without its owner -/
def AV.dropCell : AV → AV
  | .sl xs (.row _ _ _) => .sl xs .no
  | v => v
def AV.drop : AV → AV
  | .agg cs => .agg (cs.map AV.dropCell)
  | v => v.dropCell
/-- may a value be handed to a function as it is? -/
def AV.plainCell : AV → Bool
  | .ptr _ _ => false
  | .eptr _ _ => false
  | .tup _ => false
  | .any => false
  | .skip => false
  | .agg _ => false
  | .fn _ cs => cs.isEmpty
  | _ => true
def AV.plain (v : AV) : Bool := v.cells.all AV.plainCell

/-- a box's cells, handed over: rows go with them -/
def passCells (R : Nat → Nat → RowSt) : List AV → Prop × List AV × List ((Nat × Nat) × RowSt)
  | [] => (True, [], [])
  | .sl xs (.row a b e) :: r =>
    match R a b with
    | .live tip =>
      let q := passCells (upd2 R (a, b) .dead) r
      (tip = xs.length ∧ q.1, .sl xs (.row a b e) :: q.2.1, ((a, b), .dead) :: q.2.2)
    | _ =>
      let q := passCells R r
      (q.1, .sl xs .no :: q.2.1, q.2.2)
  | c :: r =>
    let q := passCells R r
    (q.1, c :: q.2.1, q.2.2)

/-- the rows' names in cells -/
def cellNames : List AV → List Nat
  | [] => []
  | .sl _ (.row a _ _) :: r => a :: cellNames r
  | _ :: r => cellNames r

/-- the pointers among values: place, box, offset -/
def findPtr : Nat → List AV → List (Nat × Nat × Nat)
  | _, [] => []
  | i, .ptr s off :: r => (i, s, off) :: findPtr (i + 1) r
  | i, _ :: r => findPtr (i + 1) r
def allPlain (k : Nat) : Nat → List AV → Bool
  | _, [] => true
  | i, v :: r => (i == k || v.plain) && allPlain k (i + 1) r
def argsOf (k : Nat) (cs : List AV) : Nat → List AV → List Arg
  | _, [] => []
  | i, v :: r => (if i = k then .box cs else .val v.drop) :: argsOf k cs (i + 1) r

structure Passed where
  obl : Prop
  args : List Arg
  rows : List ((Nat × Nat) × RowSt)
  site : Option (Nat × Nat)

def passArgs (B : Nat → Option (List AV)) (R : Nat → Nat → RowSt) (vs : List AV) : Option Passed :=
  match findPtr 0 vs with
  | [] => if allPlain vs.length 0 vs then some ⟨True, argsOf vs.length [] 0 vs, [], none⟩ else none
  | [(i, s, 0)] => match B s with
    | some cs =>
      if allPlain i 0 vs = true ∧ cs.all AV.plainCell = true then
        let q := passCells R cs
        some ⟨q.1, argsOf i q.2.1 0 vs, q.2.2, some (i, s)⟩
      else none
    | none => none
  | _ => none

/-- a cell that comes back: its row gets a new name -/
def retCell (d n : Nat) : AV → AV
  | .sl xs (.row _ _ e) => .sl xs (.row d n e)
  | c => c
def retCells (d : Nat) : Nat → List AV → List AV
  | _, [] => []
  | n, c :: r => retCell d n c :: retCells d (n + 1) r
/-- the row of a cell: its length, its elements' type; its name -/
def rowOf : AV → Option (Nat × Nat)
  | .sl xs (.row _ _ e) => some (xs.length, e)
  | _ => none
def rowName : AV → Option (Nat × Nat)
  | .sl _ (.row a b _) => some (a, b)
  | _ => none
def retRows (d : Nat) : Nat → List AV → List ((Nat × Nat) × RowSt)
  | _, [] => []
  | n, c :: r => (match rowOf c with | some t => [((d, n), .live t.1)] | none => []) ++ retRows d (n + 1) r
/-- a pointer that comes back -/
def retPtr (site : Option (Nat × Nat)) (d : Nat) (a : Nat) : Nat :=
  match site with
  | some (i, s) => if a = i then s else d
  | none => d
def retVal1 (site : Option (Nat × Nat)) (d n : Nat) : AV → AV
  | .ptr a off => .ptr (retPtr site d a) off
  | .agg cs => .agg (retCells d n cs)
  | c => retCell d n c
def retVals (site : Option (Nat × Nat)) (d : Nat) : Nat → List AV → List AV
  | _, [] => []
  | n, c :: r => retVal1 site d n c :: retVals site d (n + c.cells.length) r
def retVal (site : Option (Nat × Nat)) (d n : Nat) : AV → AV
  | .tup vs => .tup (retVals site d n vs)
  | v => retVal1 site d n v
/-- the cells of a result -/
def AV.cellsT : AV → List AV
  | .tup vs => vs.flatMap AV.cells
  | v => v.cells
/-- all cells that a function gives back -/
def Res.outs (r : Res) : List AV := r.box.getD [] ++ r.new.getD [] ++ r.val.cellsT

def allFree (R : Nat → Nat → RowSt) (d : Nat) : Nat → List AV → Bool
  | _, [] => true
  | n, c :: r => (match rowOf c with | some _ => (match R d n with | .free => true | _ => false) | none => true) && allFree R d (n + 1) r

def effCall (Γ : Nat → Option Con) (d : Nat) (f : Nat) (vs : List AV) (st : St) : Option (Foot × Eff) :=
  match Γ f, passArgs st.boxes st.rows vs with
  | some F, some p =>
    match F p.args with
    | some (q, r) =>
      let bl := (r.box.getD []).length
      let nl := (r.new.getD []).length
      let bs := (match p.site, r.box with | some (_, s), some cs => [(s, retCells d 0 cs)] | _, _ => [])
      let ns := (match r.new with | some cs => [(d, retCells d bl cs)] | none => [])
      if p.site.isSome = r.box.isSome ∧ allFree st.rows d 0 r.outs = true ∧ (st.boxes d).isNone = true then
        some (⟨[], d :: (findPtr 0 vs).map (fun x => x.2.1), d :: (findPtr 0 vs).flatMap (fun x => cellNames ((st.boxes x.2.1).getD []))⟩,
          ⟨p.obl ∧ q, retVal p.site d (bl + nl) r.val, bs ++ ns, p.rows ++ retRows d 0 r.outs⟩)
      else none
    | none => none
  | _, _ => none

def pureE (v : AV) : Option (Foot × Eff) := some (⟨[], [], []⟩, ⟨True, v, [], []⟩)
def oblE (p : Prop) (v : AV) : Option (Foot × Eff) := some (⟨[], [], []⟩, ⟨p, v, [], []⟩)

def isStrT (P : Program) (t : TypeId) : Bool := match P.underlying t with | some .string => true | _ => false

/-- slices' bounds: low, high (and max) of n -/
def bndAV (n : Nat) (lo hi mx : Option AV) : Option (Prop × Nat × Nat) :=
  match lo, hi, mx with
  | none, none, none => some (True, 0, n)
  | some (.int _ l), none, none => some (0 ≤ l ∧ l ≤ n, l.toNat, n)
  | none, some (.int _ h), none => some (0 ≤ h ∧ h ≤ n, 0, h.toNat)
  | some (.int _ l), some (.int _ h), none => some (0 ≤ l ∧ l ≤ h ∧ h ≤ n, l.toNat, h.toNat)
  | none, some (.int _ h), some (.int _ m) => some (0 ≤ h ∧ h ≤ m ∧ m ≤ n, 0, h.toNat)
  | _, _, _ => none

def effLen (P : Program) (t : TypeId) (v : AV) : Option AV :=
  match P.underlying t with
  | some .string => match v with | .str l => some (.int .i64 l.length) | _ => none
  | some (.slice _) => match v with | .sl xs _ => some (.int .i64 xs.length) | _ => none
  | some (.array n _) => if n ≤ 9223372036854775807 then some (.int .i64 n) else none
  | _ => none

/-- what is appended -/
def srcOf (P : Program) (t : TypeId) (y : AV) : Option (List AV) :=
  match y with
  | .sl ys _ => match P.underlying t with | some (.slice _) => some ys | _ => none
  | .str l => if isStrT P t then some (l.map byteAV) else none
  | _ => none

def strFits (P : Program) (e : TypeId) : AV → Bool
  | .str _ => tsize P e == 1
  | _ => true
def effAppend (P : Program) (d : Nat) (t u : TypeId) (xs : List AV) (o : Own) (y : AV) (st : St) : Option (Foot × Eff) :=
  match P.underlying t with
  | some (.slice e) =>
    match srcOf P u y with
    | some ys =>
      if strFits P e y = true ∧ 0 < tsize P e ∧ ((P.info? e).bind (·.zero)).isSome = true ∧ (zeroAV P e).map (·.cells.length) = some (tsize P e) ∧ (zeroAV P e).map (fun z => allOne z.cells) = some true then
        match o with
        | .nil => match st.rows d 0 with
          | .free => some (⟨[], [], [d]⟩, ⟨ys.length * P.bytesOf e ≤ 140737488355328 ∧ ys.length ≤ 9223372036854775807 ∧ ∀ z ∈ ys, z.cells.length = tsize P e, .sl ys (.row d 0 e), [], [((d, 0), .live ys.length)]⟩)
          | _ => none
        | .row a b e' => match st.rows a b with
          | .live tip => if e' = e then some (⟨[], [], [a]⟩, ⟨tip = xs.length ∧ (xs.length + ys.length) * P.bytesOf e ≤ 140737488355328 ∧ xs.length + ys.length ≤ 9223372036854775807 ∧ (∀ z ∈ xs, z.cells.length = tsize P e) ∧ ∀ z ∈ ys, z.cells.length = tsize P e, .sl (xs ++ ys) (.row a b e), [], [((a, b), .live (xs.length + ys.length))]⟩) else none
          | _ => none
        | .no => none
      else none
    | none => none
  | _ => none

def effBuiltin (P : Program) (d : Nat) (b : Builtin) (ts : Array TypeId) (vs : List AV) (st : St) : Option (Foot × Eff) :=
  match b, vs with
  | .len, [v] => match ts[0]? with
    | some t => (effLen P t v).bind pureE
    | none => none
  | .max, v :: r => (foldAV amax v r).bind pureE
  | .min, v :: r => (foldAV amin v r).bind pureE
  | .append, [.sl xs o, y] => match ts.toList with
    | [t, u] => effAppend P d t u xs o y st
    | _ => none
  | _, _ => none

/-- what an operation does -/
def eff (Γ : Nat → Option Con) (P : Program) (o : Oper) (st : St) : Option (Foot × Eff) :=
  let ρ := st.ev
  match o.op with
  | .move x => pureE (ρ x)
  | .assign x => pureE (ρ x)
  | .pick c a b => match ρ c with
    | .bool c => match ρ a, ρ b with
      | .skip, y => oblE (c = false) y
      | x, .skip => oblE (c = true) x
      | x, y => pureE (pickAV c x y)
    | _ => none
  | .alloc e => match o.dst, zeroAV P e with
    | some d, some z => if z.cells.length = tsize P e ∧ allOne z.cells = true ∧ (st.boxes d).isNone = true then some (⟨[], [d], []⟩, ⟨True, .ptr d 0, [(d, z.cells)], []⟩) else none
    | _, _ => none
  | .box e v => match o.dst with
    | some d => if allOne (ρ v).cells = true ∧ (st.boxes d).isNone = true then some (⟨[], [d], []⟩, ⟨True, .ptr d 0, [(d, (ρ v).cells)], []⟩) else none
    | none => none
  | .build t parts => match P.underlying t, zeroAV P t with
    | some (.struct fs), some z => match fillAV (fun i => (fs[i]?).map fun f => (f.offset, tsize P f.type)) z.cells (parts.toList.map fun q => (q.1, ρ q.2)) with
      | some cs => if allOne z.cells = true ∧ allOne cs = true ∧ fs.toList.all (fun f => (P.info? f.type).isSome) = true ∧ parts.toList.all (fun q => allOne (ρ q.2).cells) = true then pureE (.agg cs) else none
      | none => none
    | some (.array _ e), some z => match fillAV (fun i => some (i * tsize P e, tsize P e)) z.cells (parts.toList.map fun q => (q.1, ρ q.2)) with
      | some cs => if allOne z.cells = true ∧ allOne cs = true ∧ (P.info? e).isSome = true ∧ parts.toList.all (fun q => allOne (ρ q.2).cells) = true then pureE (.agg cs) else none
      | none => none
    | _, _ => none
  | .load t a => match ρ a with
    | .ptr s off => match st.boxes s with
      | some cs => if (P.underlying t).isSome = true ∧ (tagg P t = true ∨ tsize P t = 1) then
          some (⟨[s], [], []⟩, ⟨decide (off + tsize P t ≤ cs.length) = true, if tagg P t then .agg (subAV cs off (tsize P t)) else pickFrom 0 cs off, [], []⟩) else none
      | none => none
    | .eptr x j => if (leaves P 8 t).length = tsize P t ∧ (P.underlying t).isSome = true ∧ (tagg P t = true ∨ tsize P t = 1) then oblE (∀ k, k < tsize P t → x.cells[j + k]? = some (cellAt (readAt P t x.cells j).cells k)) (readAt P t x.cells j) else none
    | _ => none
  | .store t a v => match ρ a with
    | .ptr s off => match st.boxes s with
      | some cs => if (ρ v).cells.length = tsize P t ∧ allOne (ρ v).cells = true ∧ tsize P t ≠ 0 then
          some (⟨[], [s], []⟩, ⟨decide (off + tsize P t ≤ cs.length) = true, .skip, [(s, spliceFrom 0 cs off (ρ v).cells)], []⟩) else none
      | none => none
    | _ => none
  | .nilCheck x => match ρ x with
    | .ptr s off => pureE (.ptr s off)
    | .eptr y j => pureE (.eptr y j)
    | _ => none
  | .binOp op xT x y _ => match abin P op xT (ρ x) (ρ y) with
    | some (p, v) => oblE p v
    | none => none
  | .unOp op _ x => match aun op (ρ x) with
    | some (p, v) => oblE p v
    | none => none
  | .convert s t x => match P.underlying s, P.underlying t, ρ x with
    | some _, some (.int k), .int _ n => pureE (.int k (k.wrap n))
    | some .string, some .string, .str l => pureE (.str l)
    | _, _, _ => none
  | .slice t x lo hi mx => match P.underlying t, ρ x with
    | some .string, .str l => match mx with
      | none => match bndAV l.length (lo.map ρ) (hi.map ρ) none with
        | some (p, a, b) => oblE p (.str ((l.take b).drop a))
        | none => none
      | some _ => none
    | some (.slice e), .sl xs _ => if (P.underlying e).isNone then none else match bndAV xs.length (lo.map ρ) (hi.map ρ) (mx.map ρ) with
      | some (p, a, b) => oblE (p ∧ ∀ x ∈ xs, x.cells.length = tsize P e) (.sl ((xs.take b).drop a) .no)
      | none => none
    | _, _ => none
  | .fieldAddr t x f => match P.underlying t with
    | some (.struct fs) => match fs[f]? with
      | some fd => if tsize P fd.type = 0 then none else match ρ x with
        | .ptr s off => pureE (.ptr s (off + fd.offset))
        | .eptr y j => pureE (.eptr y (j + fd.offset))
        | _ => none
      | none => none
    | _ => none
  | .field t x f => match P.underlying t with
    | some (.struct fs) => match fs[f]?, ρ x with
      | some fd, .agg cs => if fd.offset + tsize P fd.type ≤ cs.length ∧ (P.underlying fd.type).isSome = true ∧ (tagg P fd.type = true ∨ tsize P fd.type = 1) then
          pureE (if tagg P fd.type then .agg ((cs.drop fd.offset).take (tsize P fd.type)) else cellAt cs fd.offset) else none
      | _, _ => none
    | _ => none
  | .indexAddr t x i => match P.underlying t, ρ x, ρ i with
    | some (.array n e), .ptr s off, .int _ i => if (P.underlying e).isNone then none else oblE (0 ≤ i ∧ i < n) (.ptr s (off + i.toNat * tsize P e))
    | some (.array n e), .eptr y j, .int _ i => if (P.underlying e).isNone then none else oblE (0 ≤ i ∧ i < n) (.eptr y (j + i.toNat * tsize P e))
    | some (.slice e), .sl xs _, .int _ i => if (P.underlying e).isNone then none else oblE (0 ≤ i ∧ i < xs.length ∧ (cellAt xs i.toNat).cells.length = tsize P e) (.eptr (cellAt xs i.toNat) 0)
    | _, _, _ => none
  | .index t x i => match P.underlying t, ρ x, ρ i with
    | some .string, .str l, .int _ i => oblE (0 ≤ i ∧ i < l.length) (byteAV (l.getD i.toNat 0))
    | some (.array m e), .agg cs, .int _ i => if (P.underlying e).isSome = true ∧ (tagg P e = true ∨ tsize P e = 1) then oblE (0 ≤ i ∧ i < m ∧ i.toNat * tsize P e + tsize P e ≤ cs.length) (if tagg P e then .agg (subAV cs (i.toNat * tsize P e) (tsize P e)) else pickFrom 0 cs (i.toNat * tsize P e)) else none
    | _, _, _ => none
  | .extract x i => match ρ x with
    | .tup vs => match vs[i]? with | some v => pureE v | none => none
    | _ => none
  | .buildSlice t len parts => match o.dst, P.underlying t with
    | some d, some (.slice e) => match zeroAV P e, st.rows d 0 with
      | some z, .free =>
        if parts.toList.all (fun q => (ρ q.2).plain && allOne (ρ q.2).cells && decide ((ρ q.2).cells.length = tsize P e)) = true ∧ allOne z.cells = true ∧ z.cells.length = tsize P e ∧ tsize P e ≠ 0 ∧ 0 < len ∧ len * tsize P e ≤ 16777216 ∧ parts.toList.map (·.1) = List.range len then
          some (⟨[], [], [d]⟩, ⟨True, .sl (parts.toList.map fun q => (ρ q.2).drop) (.row d 0 e), [], [((d, 0), .live len)]⟩)
        else none
      | _, _ => none
    | _, _ => none
  | .call c => match o.dst, c.callee with
    | some d, .builtin b => effBuiltin P d b c.argTypes (c.args.toList.map ρ) st
    | some d, .value f => match ρ f with
      | .fn f [] => effCall Γ d f (c.args.toList.map ρ) st
      | _ => none
    | _, _ => none
  | _ => none

/-- the value of a guard -/
def guardOf (ops : Array Oper) (st : St) (g : Nat) : AV :=
  match (ops[g]?).bind (·.dst) with
  | some d => st.tmps d
  | none => .skip

/-- a guard that is known: in the state, too -/
def fixG (ops : Array Oper) (st : St) (g : Nat) (b : Bool) : St :=
  match (ops[g]?).bind (·.dst) with
  | some d => { st with tmps := upd st.tmps d (.bool b) }
  | none => st
theorem fixG_eq {ops : Array Oper} {st : St} {g : Nat} {b : Bool} (h : guardOf ops st g = .bool b) : fixG ops st g b = st := by
  unfold guardOf at h
  unfold fixG
  split
  · rename_i d hd
    rw [hd] at h
    simp only at h
    have : upd st.tmps d (.bool b) = st.tmps := by
      funext x
      unfold upd
      by_cases hx : x = d
      · subst hx; simp [h]
      · have : (x == d) = false := by simpa using hx
        rw [this]; rfl
    rw [this]
  · rfl
/-- an operation behind a guard -/
def opB (Γ : Nat → Option Con) (P : Program) (o : Oper) (st : St) (b want : Bool) (K : Foot → St → Prop) : Prop :=
  match b, want with
  | true, true => match eff Γ P o st with
    | some (ft, E) => E.obl ∧ K ft (E.app o.dst st)
    | none => False
  | false, false => match eff Γ P o st with
    | some (ft, E) => E.obl ∧ K ft (E.app o.dst st)
    | none => False
  | _, _ => K ⟨[], [], []⟩ (st.put o.dst .skip)
/-- one operation, and what follows: the guard first -/
def opK (Γ : Nat → Option Con) (P : Program) (ops : Array Oper) (o : Oper) (st : St) (K : Foot → St → Prop) : Prop :=
  match o.guard with
  | none => match eff Γ P o st with
    | some (ft, E) => E.obl ∧ K ft (E.app o.dst st)
    | none => False
  | some (g, want) => match guardOf ops st g with
    | .bool b => match b with
      | true => opB Γ P o (fixG ops st g true) true want K
      | false => opB Γ P o (fixG ops st g false) false want K
    | .skip => K ⟨[], [], []⟩ (st.put o.dst .skip)
    | _ => False

def runK (Γ : Nat → Option Con) (P : Program) (ops : Array Oper) : List Oper → St → List Foot → (List Foot → St → Prop) → Prop
  | [], st, fs, K => K fs st
  | o :: r, st, fs, K => opK Γ P ops o st fun ft st' => runK Γ P ops r st' (fs ++ [ft]) K

def meet (a b : List Nat) : Bool := a.any fun x => b.any fun y => x == y
def clash (f g : Foot) : Bool := meet f.wr g.wr || meet f.wr g.rd || meet f.rd g.wr || meet f.nm g.nm

end Go.Proofs.Ytnhfjdbnkpbbkab
