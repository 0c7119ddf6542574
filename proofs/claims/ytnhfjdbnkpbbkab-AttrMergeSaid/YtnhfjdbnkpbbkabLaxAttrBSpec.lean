/- Attributes: what each function answers, by content. -/
import Derived.Test.YtnhfjdbnkpbbkabLaxTop
import Derived.Test.YtnhfjdbnkpbbkabRows
namespace Go.Proofs.Ytnhfjdbnkpbbkab
set_option linter.unusedVariables false
set_option linter.unusedSimpArgs false
open Go.RowKit

def rightId (r n : Int) : Bool := decide (0 ≤ r ∧ r ≤ 6 ∧ 0 ≤ n ∧ n < 1024)
def sel (r d0 d1 d2 d3 d4 d5 d6 : Int) : Int := if r = 0 then d0 else if r = 1 then d1 else if r = 2 then d2 else if r = 3 then d3 else if r = 4 then d4 else if r = 5 then d5 else d6
def covB (r n d0 d1 d2 d3 d4 d5 d6 : Int) : Bool := rightId r n && decide (n < sel r d0 d1 d2 d3 d4 d5 d6)
def ow (j r n d : Int) : Int := if rightId r n = true ∧ r = j then n else d
def inLen (d : Int) : Bool := decide (0 ≤ d ∧ d ≤ 1024)
def rightA (s d0 d1 d2 d3 d4 d5 d6 : Int) : Bool := inLen d0 && inLen d1 && inLen d2 && inLen d3 && inLen d4 && inLen d5 && inLen d6 && decide (0 ≤ s ∧ s ≤ 1073741824)
def ownsB (s d0 d1 d2 d3 d4 d5 d6 r n : Int) : Bool := rightId r n && rightA s d0 d1 d2 d3 d4 d5 d6 && decide (sel r d0 d1 d2 d3 d4 d5 d6 = n)

def att (s d0 d1 d2 d3 d4 d5 d6 : Int) : AV := .agg [.int .i64 s, .int .i64 d0, .int .i64 d1, .int .i64 d2, .int .i64 d3, .int .i64 d4, .int .i64 d5, .int .i64 d6]
def idAV (r n : Int) : AV := .agg [.int .i64 r, .int .i64 n]

def rightIdF : Con
  | [.val (.agg [.int .i64 r, .int .i64 n])] => some (True, ⟨.bool (rightId r n), none, none⟩)
  | _ => none
def coversF : Con
  | [.val (.agg [.int .i64 s, .int .i64 d0, .int .i64 d1, .int .i64 d2, .int .i64 d3, .int .i64 d4, .int .i64 d5, .int .i64 d6]), .val (.agg [.int .i64 r, .int .i64 n])] => some (True, ⟨.bool (covB r n d0 d1 d2 d3 d4 d5 d6), none, none⟩)
  | _ => none
def ownF : Con
  | [.val (.agg [.int .i64 s, .int .i64 d0, .int .i64 d1, .int .i64 d2, .int .i64 d3, .int .i64 d4, .int .i64 d5, .int .i64 d6]), .val (.agg [.int .i64 r, .int .i64 n])] =>
    some (True, ⟨att s (ow 0 r n d0) (ow 1 r n d1) (ow 2 r n d2) (ow 3 r n d3) (ow 4 r n d4) (ow 5 r n d5) (ow 6 r n d6), none, none⟩)
  | _ => none
def rightAF : Con
  | [.val (.agg [.int .i64 s, .int .i64 d0, .int .i64 d1, .int .i64 d2, .int .i64 d3, .int .i64 d4, .int .i64 d5, .int .i64 d6])] => some (True, ⟨.bool (rightA s d0 d1 d2 d3 d4 d5 d6), none, none⟩)
  | _ => none
def ownsF : Con
  | [.val (.agg [.int .i64 s, .int .i64 d0, .int .i64 d1, .int .i64 d2, .int .i64 d3, .int .i64 d4, .int .i64 d5, .int .i64 d6]), .val (.agg [.int .i64 r, .int .i64 n])] => some (True, ⟨.bool (ownsB s d0 d1 d2 d3 d4 d5 d6 r n), none, none⟩)
  | _ => none
def trueF0 : Con
  | [] => some (True, ⟨.bool true, none, none⟩)
  | _ => none
def attrL1 : List (Nat × Con) := [(28, rightIdF), (14, rightAF)]
def attrL2 : List (Nat × Con) := (16, coversF) :: (42, ownF) :: attrL1
def attrL3 : List (Nat × Con) := (32, ownsF) :: attrL2
def attrL4 : List (Nat × Con) := (9, trueF0) :: attrL3

def inRightId (r n : Int) : Prop := awp [] (fun _ => none) (lookΓ []) Try.prog Try.f28.ntmps 0 (Try.f28.body.getD .skip) (entrySt [.val (idAV r n)]) (exitQ Try.prog Try.f28.results.toList [] ⟨.bool (rightId r n), none, none⟩)
def inCovers (s d0 d1 d2 d3 d4 d5 d6 r n : Int) : Prop := awp [] (fun _ => none) (lookΓ attrL1) Try.prog Try.f16.ntmps 0 (Try.f16.body.getD .skip) (entrySt [.val (att s d0 d1 d2 d3 d4 d5 d6), .val (idAV r n)]) (exitQ Try.prog Try.f16.results.toList [] ⟨.bool (covB r n d0 d1 d2 d3 d4 d5 d6), none, none⟩)
def inOwn (s d0 d1 d2 d3 d4 d5 d6 r n : Int) : Prop := awp [] (fun _ => none) (lookΓ attrL1) Try.prog Try.f42.ntmps 0 (Try.f42.body.getD .skip) (entrySt [.val (att s d0 d1 d2 d3 d4 d5 d6), .val (idAV r n)])
  (exitQ Try.prog Try.f42.results.toList [] ⟨att s (ow 0 r n d0) (ow 1 r n d1) (ow 2 r n d2) (ow 3 r n d3) (ow 4 r n d4) (ow 5 r n d5) (ow 6 r n d6), none, none⟩)
def loopRightA (s d0 d1 d2 d3 d4 d5 d6 : Int) : LoopInv :=
  { V := Nat
    T := fun i => [(1, .ptr 1 0), (2, .bool false), (6, .agg [.int .i64 d0, .int .i64 d1, .int .i64 d2, .int .i64 d3, .int .i64 d4, .int .i64 d5, .int .i64 d6]), (7, .int .i64 (i : Int))]
    B := fun i => [(1, [.int .i64 s, .int .i64 d0, .int .i64 d1, .int .i64 d2, .int .i64 d3, .int .i64 d4, .int .i64 d5, .int .i64 d6])]
    R := fun i => []
    inv := fun i => i ≤ 7 ∧ ∀ j : Nat, j < i → inLen (sel (j : Int) d0 d1 d2 d3 d4 d5 d6) = true
    mu := fun i => 7 - i }
def inRightA (s d0 d1 d2 d3 d4 d5 d6 : Int) : Prop := awp [] (fun b => bif Nat.beq b 0 then some (loopRightA s d0 d1 d2 d3 d4 d5 d6) else none) (lookΓ []) Try.prog Try.f14.ntmps 0 (Try.f14.body.getD .skip) (entrySt [.val (att s d0 d1 d2 d3 d4 d5 d6)])
  (exitQ Try.prog Try.f14.results.toList [] ⟨.bool (rightA s d0 d1 d2 d3 d4 d5 d6), none, none⟩)
def inOwns (s d0 d1 d2 d3 d4 d5 d6 r n : Int) : Prop := awp [] (fun _ => none) (lookΓ attrL2) Try.prog Try.f32.ntmps 0 (Try.f32.body.getD .skip) (entrySt [.val (att s d0 d1 d2 d3 d4 d5 d6), .val (idAV r n)]) (exitQ Try.prog Try.f32.results.toList [] ⟨.bool (ownsB s d0 d1 d2 d3 d4 d5 d6 r n), none, none⟩)
def inAnchor : Prop := awp [] (fun _ => none) (lookΓ attrL3) Try.prog Try.f9.ntmps 0 (Try.f9.body.getD .skip) (entrySt []) (exitQ Try.prog Try.f9.results.toList [] ⟨.bool true, none, none⟩)
end Go.Proofs.Ytnhfjdbnkpbbkab
