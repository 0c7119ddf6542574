/- Logs: records, what is scanned, what the loops keep. -/
import Derived.Test.YtddilmocngedjaaLaxPkLog
namespace Go.Proofs.Ytddilmocngedjaa
set_option linter.unusedVariables false
set_option linter.unusedSimpArgs false
open Go.RowKit
/-- records, as a slice's elements -/
def recAV (ls : List (List UInt8)) : List AV := ls.map fun l => .sl (bytesAV l) .no
def recL (xs : List AV) : List (List UInt8) := xs.map partL
def isRecs (xs : List AV) : Prop := xs = recAV (recL xs)
/-- the first frame's bounds, its record -/
def segL (l : List UInt8) : List UInt8 := (l.drop (rShort l).2.1).take (rShort l).1
def firG (l : List UInt8) : Bool := decide ((rShort l).2.2 = 0 ∧ (rShort l).1 ≤ 16388 ∧ (rShort l).2.1 + (rShort l).1 ≤ l.length)
def firV (l : List UInt8) : List UInt8 := if firG l then openV (segL l) else []
def firN (l : List UInt8) : Int := if firG l then (((rShort l).2.1 + (rShort l).1 : Nat) : Int) else 0
def firK (l : List UInt8) : Bool := firG l && openOK (segL l)
/-- all records, and how many bytes are good -/
def scanN : Nat → List UInt8 → List (List UInt8) × Nat
  | 0, _ => ([], 0)
  | n + 1, l => if firK l then (firV l :: (scanN n (l.drop ((rShort l).2.1 + (rShort l).1))).1, (rShort l).2.1 + (rShort l).1 + (scanN n (l.drop ((rShort l).2.1 + (rShort l).1))).2) else ([], 0)
def scanP (l : List UInt8) : List (List UInt8) × Nat := scanN (l.length + 1) l
def scanR (l : List UInt8) : List (List UInt8) := (scanP l).1
def scanG (l : List UInt8) : Int := ((scanP l).2 : Int)
def joinL (ls : List (List UInt8)) : List UInt8 := (ls.map frameL).flatten
def sumL (ls : List (List UInt8)) : Nat := (ls.map List.length).sum
def loopScan (xs : List AV) : LoopInv :=
  { V := List (List UInt8) × Nat
    T := fun v => [(0, .sl xs .no), (2, .sl (recAV v.1) (.row 22 0 22)), (3, .int .i64 (v.2 : Int))]
    B := fun v => []
    R := fun v => [((22, 0), (recAV v.1).length)]
    inv := fun v => v.2 ≤ xs.length ∧ v.1.length ≤ v.2 ∧ scanR (bytesL xs) = v.1 ++ scanR ((bytesL xs).drop v.2) ∧ scanG (bytesL xs) = (v.2 : Int) + scanG ((bytesL xs).drop v.2)
    mu := fun v => xs.length - v.2 }
def loopRefScan (xs : List AV) : LoopInv :=
  { V := List (List UInt8) × Nat
    T := fun v => [(0, .sl xs .no), (4, .sl (recAV v.1) (.row 71 0 22)), (5, .int .i64 (v.2 : Int))]
    B := fun v => []
    R := fun v => [((71, 0), (recAV v.1).length)]
    inv := fun v => v.2 ≤ xs.length ∧ v.1.length ≤ v.2 ∧ scanR (bytesL xs) = v.1 ++ scanR ((bytesL xs).drop v.2) ∧ scanG (bytesL xs) = (v.2 : Int) + scanG ((bytesL xs).drop v.2)
    mu := fun v => xs.length - v.2 }
def loopJoin (ps : List AV) : LoopInv :=
  { V := Nat
    T := fun i => [(9, .sl ps .no), (10, .int .i64 (ps.length : Int)), (11, .int .i64 (i : Int)), (4, .sl (bytesAV (joinL ((recL ps).take i))) (.row 25 0 5))]
    B := fun i => []
    R := fun i => [((25, 0), (joinL ((recL ps).take i)).length)]
    inv := fun i => i ≤ ps.length
    mu := fun i => ps.length - i }
def loopSmall (ps : List AV) : LoopInv :=
  { V := Nat
    T := fun i => [(0, .sl ps .no), (6, .sl ps .no), (7, .int .i64 (ps.length : Int)), (8, .int .i64 (i : Int)), (3, .int .i64 (sumL ((recL ps).take i) : Int))]
    B := fun i => []
    R := fun i => []
    inv := fun i => i ≤ ps.length ∧ sumL ((recL ps).take i) ≤ 2000
    mu := fun i => ps.length - i }
def loopSames (xs : List AV) : LoopInv :=
  { V := Nat
    T := fun i => [(0, .sl xs .no), (3, .sl (recAV (scanR (bytesL xs))) .no), (4, .int .i64 (scanG (bytesL xs))), (5, .sl (recAV (scanR (bytesL xs))) .no), (36, .sl (recAV (scanR (bytesL xs))) .no), (37, .int .i64 ((scanR (bytesL xs)).length : Int)), (38, .int .i64 (i : Int))]
    B := fun i => []
    R := fun i => []
    inv := fun i => i ≤ (scanR (bytesL xs)).length
    mu := fun i => (scanR (bytesL xs)).length - i }
/-- where a log is cut -/
def cutI (ls : List (List UInt8)) (c : Int) : Int := if (if (joinL ls).length < c then ((joinL ls).length : Int) else c) < 0 then 0 else if (joinL ls).length < c then ((joinL ls).length : Int) else c
def cutJ (ls : List (List UInt8)) (c : Int) : List UInt8 := (joinL ls).take (cutI ls c).toNat
def loopTears (ps : List AV) (c : Int) : LoopInv :=
  { V := Nat
    T := fun i => [(0, .sl ps .no), (1, .int .i64 (cutI (recL ps) c)), (5, .sl (bytesAV (joinL (recL ps))) .no), (7, .sl (recAV (scanR (cutJ (recL ps) c))) .no), (8, .int .i64 (scanG (cutJ (recL ps) c))), (9, .int .i64 ((joinL ((recL ps).take i)).length : Int)), (37, .sl ps .no), (38, .int .i64 (ps.length : Int)), (39, .int .i64 (i : Int))]
    B := fun i => []
    R := fun i => []
    inv := fun i => i ≤ ps.length ∧ ((joinL ((recL ps).take i)).length : Int) ≤ cutI (recL ps) c
    mu := fun i => ps.length - i }
end Go.Proofs.Ytddilmocngedjaa
