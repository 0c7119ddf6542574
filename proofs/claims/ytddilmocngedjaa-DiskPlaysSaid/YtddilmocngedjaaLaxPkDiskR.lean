/- Contracts by content, their conditions, and that they are met: DiskR. -/
import Derived.Test.YtddilmocngedjaaLaxPkDisk
/- Contracts by content, and the conditions that their code must meet. -/
namespace Go.Proofs.Ytddilmocngedjaa
set_option linter.unusedVariables false
set_option linter.unusedSimpArgs false
open Go.RowKit
def rdOK (sz : Int) (x0 x1 : List AV) (s0 s1 un : Int) : Prop :=
  0 ≤ sz ∧ sz ≤ 4194304 ∧ isBytes x0 ∧ isBytes x1 ∧ (x0.length : Int) + x1.length ≤ sz ∧ 0 ≤ s0 ∧ s0 ≤ x0.length ∧ 0 ≤ s1 ∧ s1 ≤ x1.length ∧ -1 ≤ un ∧ un ≤ 9223372036854775807
def rUn (un : Int) : Int := if 0 < un then un - 1 else un
def rN (un : Int) : Nat → Int
  | 0 => un
  | n + 1 => rUn (rN un n)
def loopRA (f : Int) (sz : Int) (x0 : List AV) (x1 : List AV) (s0 s1 un : Int) (dn : Bool) (ys : List AV) : LoopInv :=
  { V := Nat
    T := fun i => [(1, .int .i64 f), (2, .sl ys .no), (3, .ptr 3 0), (6, .ptr 6 0), (8, .int .i64 (i : Int))]
    B := fun i => [(3, [.int .i64 sz, .sl (apL 0 f i x0 ys) .no, .sl (apL 1 f i x1 ys) .no, .int .i64 s0, .int .i64 s1, .int .i64 (rN un i), .bool false]), (6, [.int .i64 0, .sl [] (.row 6 1 5), .sl [] (.row 6 2 5), .int .i64 0, .int .i64 0, .int .i64 0, .bool false])]
    R := fun i => [((6, 1), 0), ((6, 2), 0)]
    inv := fun i => i ≤ ys.length ∧ i ≤ apN un ys.length
    mu := fun i => ys.length - i }
def rnewF : Con
  | [.val (.int .i64 sz)] => (some (True, ⟨.agg [.int .i64 sz, .sl [] .no, .sl [] .no, .int .i64 0, .int .i64 0, .int .i64 (-1), .bool false], none, none⟩))
  | _ => none
def gamRnew : List (Nat × Con) := []
def lpRnew0 (sz : Int) : Nat → Option LoopPlan := fun _ => none
def inRnew0 (sz : Int) : Prop := awp [] (lpRnew0 sz) (lookΓ gamRnew) Try.prog Try.f15.ntmps 0 (Try.f15.body.getD .skip) (entrySt [.val (.int .i64 sz)]) (exitQ Try.prog Try.f15.results.toList [] ⟨.agg [.int .i64 sz, .sl [] .no, .sl [] .no, .int .i64 0, .int .i64 0, .int .i64 (-1), .bool false], none, none⟩)
def OkRnew0 : Prop := ∀ (sz : Int), True → inRnew0 sz
def rmayF : Con
  | [.val (.agg [.int .i64 sz, .sl x0 .no, .sl x1 .no, .int .i64 s0, .int .i64 s1, .int .i64 un, .bool dn]), .val (.int .i64 f)] => (some (True, ⟨.int .i64 (mayE f dn), none, none⟩))
  | _ => none
def gamRmay : List (Nat × Con) := []
def lpRmay0 (sz : Int) (x0 : List AV) (x1 : List AV) (s0 s1 un : Int) (dn : Bool) (f : Int) : Nat → Option LoopPlan := fun _ => none
def inRmay0 (sz : Int) (x0 : List AV) (x1 : List AV) (s0 s1 un : Int) (dn : Bool) (f : Int) : Prop := awp [] (lpRmay0 sz x0 x1 s0 s1 un dn f) (lookΓ gamRmay) Try.prog Try.f54.ntmps 0 (Try.f54.body.getD .skip) (entrySt [.val (.agg [.int .i64 sz, .sl x0 .no, .sl x1 .no, .int .i64 s0, .int .i64 s1, .int .i64 un, .bool dn]), .val (.int .i64 f)]) (exitQ Try.prog Try.f54.results.toList [] ⟨.int .i64 (mayE f dn), none, none⟩)
def OkRmay0 : Prop := ∀ (sz : Int) (x0 : List AV) (x1 : List AV) (s0 s1 un : Int) (dn : Bool) (f : Int), True → inRmay0 sz x0 x1 s0 s1 un dn f
def rmayOF : Con
  | [.val (.agg [.int .i64 sz, .sl x0 .no, .sl x1 .no, .int .i64 s0, .int .i64 s1, .int .i64 un, .bool dn]), .val (.int .i64 f)] => (some (isFile f = false, ⟨.int .i64 12, none, none⟩))
  | _ => none
def gamRmayO : List (Nat × Con) := []
def lpRmayO0 (sz : Int) (x0 : List AV) (x1 : List AV) (s0 s1 un : Int) (dn : Bool) (f : Int) : Nat → Option LoopPlan := fun _ => none
def inRmayO0 (sz : Int) (x0 : List AV) (x1 : List AV) (s0 s1 un : Int) (dn : Bool) (f : Int) : Prop := awp [] (lpRmayO0 sz x0 x1 s0 s1 un dn f) (lookΓ gamRmayO) Try.prog Try.f54.ntmps 0 (Try.f54.body.getD .skip) (entrySt [.val (.agg [.int .i64 sz, .sl x0 .no, .sl x1 .no, .int .i64 s0, .int .i64 s1, .int .i64 un, .bool dn]), .val (.int .i64 f)]) (exitQ Try.prog Try.f54.results.toList [] ⟨.int .i64 12, none, none⟩)
def OkRmayO0 : Prop := ∀ (sz : Int) (x0 : List AV) (x1 : List AV) (s0 s1 un : Int) (dn : Bool) (f : Int), isFile f = false → inRmayO0 sz x0 x1 s0 s1 un dn f
def runitF : Con
  | [.val (.agg [.int .i64 sz, .sl x0 .no, .sl x1 .no, .int .i64 s0, .int .i64 s1, .int .i64 un, .bool dn])] => (some (-1 ≤ un ∧ un ≤ 9223372036854775807, ⟨.tup [.agg [.int .i64 sz, .sl x0 .no, .sl x1 .no, .int .i64 s0, .int .i64 s1, .int .i64 (rUn un), .bool (dn || !unitK true un)], .bool (unitK true un)], none, none⟩))
  | _ => none
def gamRunit : List (Nat × Con) := []
def lpRunit0 (sz : Int) (x0 : List AV) (x1 : List AV) (s0 s1 un : Int) (dn : Bool) : Nat → Option LoopPlan := fun _ => none
def inRunit0 (sz : Int) (x0 : List AV) (x1 : List AV) (s0 s1 un : Int) (dn : Bool) : Prop := awp [] (lpRunit0 sz x0 x1 s0 s1 un dn) (lookΓ gamRunit) Try.prog Try.f55.ntmps 0 (Try.f55.body.getD .skip) (entrySt [.val (.agg [.int .i64 sz, .sl x0 .no, .sl x1 .no, .int .i64 s0, .int .i64 s1, .int .i64 un, .bool dn])]) (exitQ Try.prog Try.f55.results.toList [] ⟨.tup [.agg [.int .i64 sz, .sl x0 .no, .sl x1 .no, .int .i64 s0, .int .i64 s1, .int .i64 (rUn un), .bool (dn || !unitK true un)], .bool (unitK true un)], none, none⟩)
def OkRunit0 : Prop := ∀ (sz : Int) (x0 : List AV) (x1 : List AV) (s0 s1 un : Int) (dn : Bool), -1 ≤ un ∧ un ≤ 9223372036854775807 → inRunit0 sz x0 x1 s0 s1 un dn
def rappIF : Con
  | [.val (.agg [.int .i64 sz, .sl x0 .no, .sl x1 .no, .int .i64 s0, .int .i64 s1, .int .i64 un, .bool dn]), .val (.int .i64 f), .val (.sl ys .no)] => (some (isFile f = true ∧ isBytes ys ∧ ys.length ≤ 140737488355328 ∧ rdOK sz x0 x1 s0 s1 un, ⟨.tup [.agg [.int .i64 sz, .sl (apX 0 f dn sz x0.length x1.length un x0 ys) .no, .sl (apX 1 f dn sz x0.length x1.length un x1 ys) .no, .int .i64 s0, .int .i64 s1, .int .i64 (rN un (apM f dn sz x0.length x1.length un ys.length)), .bool (apD f dn sz x0.length x1.length un ys.length)], .int .i64 (apE f dn sz x0.length x1.length un ys.length)], none, none⟩))
  | _ => none
def gamRappI : List (Nat × Con) := [(54, rmayF.orNil), (55, runitF.orNil)]
def lpRappI0 (sz : Int) (x0 : List AV) (x1 : List AV) (s0 s1 un : Int) (dn : Bool) (f : Int) (ys : List AV) : Nat → Option LoopPlan := fun b => bif Nat.beq b 0 then some (.inv [.noB 3 1, .noB 3 2] (loopRA f sz x0 x1 s0 s1 un dn ys)) else none
def inRappI0 (sz : Int) (x0 : List AV) (x1 : List AV) (s0 s1 un : Int) (dn : Bool) (f : Int) (ys : List AV) : Prop := awp [] (lpRappI0 sz x0 x1 s0 s1 un dn f ys) (lookΓ gamRappI) Try.prog Try.f38.ntmps 0 (Try.f38.body.getD .skip) (entrySt [.val (.agg [.int .i64 sz, .sl x0 .no, .sl x1 .no, .int .i64 s0, .int .i64 s1, .int .i64 un, .bool dn]), .val (.int .i64 f), .val (.sl ys .no)]) (exitQ Try.prog Try.f38.results.toList [] ⟨.tup [.agg [.int .i64 sz, .sl (apX 0 f dn sz x0.length x1.length un x0 ys) .no, .sl (apX 1 f dn sz x0.length x1.length un x1 ys) .no, .int .i64 s0, .int .i64 s1, .int .i64 (rN un (apM f dn sz x0.length x1.length un ys.length)), .bool (apD f dn sz x0.length x1.length un ys.length)], .int .i64 (apE f dn sz x0.length x1.length un ys.length)], none, none⟩)
def OkRappI0 : Prop := ∀ (sz : Int) (x0 : List AV) (x1 : List AV) (s0 s1 un : Int) (dn : Bool) (f : Int) (ys : List AV), isFile f = true ∧ isBytes ys ∧ ys.length ≤ 140737488355328 ∧ rdOK sz x0 x1 s0 s1 un → inRappI0 sz x0 x1 s0 s1 un dn f ys
def rappOF : Con
  | [.val (.agg [.int .i64 sz, .sl x0 .no, .sl x1 .no, .int .i64 s0, .int .i64 s1, .int .i64 un, .bool dn]), .val (.int .i64 f), .val (.sl ys .no)] => (some (isFile f = false ∧ isBytes ys ∧ ys.length ≤ 140737488355328 ∧ rdOK sz x0 x1 s0 s1 un, ⟨.tup [.agg [.int .i64 sz, .sl (apX 0 f dn sz x0.length x1.length un x0 ys) .no, .sl (apX 1 f dn sz x0.length x1.length un x1 ys) .no, .int .i64 s0, .int .i64 s1, .int .i64 (rN un (apM f dn sz x0.length x1.length un ys.length)), .bool (apD f dn sz x0.length x1.length un ys.length)], .int .i64 (apE f dn sz x0.length x1.length un ys.length)], none, none⟩))
  | _ => none
def gamRappO : List (Nat × Con) := [(54, rmayOF.orNil)]
def lpRappO0 (sz : Int) (x0 : List AV) (x1 : List AV) (s0 s1 un : Int) (dn : Bool) (f : Int) (ys : List AV) : Nat → Option LoopPlan := fun _ => none
def inRappO0 (sz : Int) (x0 : List AV) (x1 : List AV) (s0 s1 un : Int) (dn : Bool) (f : Int) (ys : List AV) : Prop := awp [] (lpRappO0 sz x0 x1 s0 s1 un dn f ys) (lookΓ gamRappO) Try.prog Try.f38.ntmps 0 (Try.f38.body.getD .skip) (entrySt [.val (.agg [.int .i64 sz, .sl x0 .no, .sl x1 .no, .int .i64 s0, .int .i64 s1, .int .i64 un, .bool dn]), .val (.int .i64 f), .val (.sl ys .no)]) (exitQ Try.prog Try.f38.results.toList [] ⟨.tup [.agg [.int .i64 sz, .sl (apX 0 f dn sz x0.length x1.length un x0 ys) .no, .sl (apX 1 f dn sz x0.length x1.length un x1 ys) .no, .int .i64 s0, .int .i64 s1, .int .i64 (rN un (apM f dn sz x0.length x1.length un ys.length)), .bool (apD f dn sz x0.length x1.length un ys.length)], .int .i64 (apE f dn sz x0.length x1.length un ys.length)], none, none⟩)
def OkRappO0 : Prop := ∀ (sz : Int) (x0 : List AV) (x1 : List AV) (s0 s1 un : Int) (dn : Bool) (f : Int) (ys : List AV), isFile f = false ∧ isBytes ys ∧ ys.length ≤ 140737488355328 ∧ rdOK sz x0 x1 s0 s1 un → inRappO0 sz x0 x1 s0 s1 un dn f ys
def rsyIF : Con
  | [.val (.agg [.int .i64 sz, .sl x0 .no, .sl x1 .no, .int .i64 s0, .int .i64 s1, .int .i64 un, .bool dn]), .val (.int .i64 f), .val (.int .i64 n), .val (.bool false)] => (some (isFile f = true ∧ rdOK sz x0 x1 s0 s1 un, ⟨.tup [.agg [.int .i64 sz, .sl x0 .no, .sl x1 .no, .int .i64 (syS 0 f dn true un s0 x0.length), .int .i64 (syS 1 f dn true un s1 x1.length), .int .i64 (if syGo f dn then rUn un else un), .bool (syD (syGo f dn) true un dn)], .int .i64 (syE f dn true un)], none, none⟩))
  | [.val (.agg [.int .i64 sz, .sl x0 .no, .sl x1 .no, .int .i64 s0, .int .i64 s1, .int .i64 un, .bool dn]), .val (.int .i64 f), .val (.int .i64 n), .val (.bool true)] => (some (isFile f = true ∧ rdOK sz x0 x1 s0 s1 un, ⟨.tup [.agg [.int .i64 sz, .sl (trX 0 f n dn true un x0 x1 x0) .no, .sl (trX 1 f n dn true un x0 x1 x1) .no, .int .i64 (trS 0 f n dn true un x0 x1 s0), .int .i64 (trS 1 f n dn true un x0 x1 s1), .int .i64 (if trGo f n dn x0 x1 then rUn un else un), .bool (syD (trGo f n dn x0 x1) true un dn)], .int .i64 (trE f n dn true un x0 x1)], none, none⟩))
  | _ => none
def gamRsyI : List (Nat × Con) := [(54, rmayF.orNil), (55, runitF.orNil)]
def lpRsyI0 (sz : Int) (x0 : List AV) (x1 : List AV) (s0 s1 un : Int) (dn : Bool) (f n : Int) : Nat → Option LoopPlan := fun _ => none
def inRsyI0 (sz : Int) (x0 : List AV) (x1 : List AV) (s0 s1 un : Int) (dn : Bool) (f n : Int) : Prop := awp [] (lpRsyI0 sz x0 x1 s0 s1 un dn f n) (lookΓ gamRsyI) Try.prog Try.f39.ntmps 0 (Try.f39.body.getD .skip) (entrySt [.val (.agg [.int .i64 sz, .sl x0 .no, .sl x1 .no, .int .i64 s0, .int .i64 s1, .int .i64 un, .bool dn]), .val (.int .i64 f), .val (.int .i64 n), .val (.bool false)]) (exitQ Try.prog Try.f39.results.toList [] ⟨.tup [.agg [.int .i64 sz, .sl x0 .no, .sl x1 .no, .int .i64 (syS 0 f dn true un s0 x0.length), .int .i64 (syS 1 f dn true un s1 x1.length), .int .i64 (if syGo f dn then rUn un else un), .bool (syD (syGo f dn) true un dn)], .int .i64 (syE f dn true un)], none, none⟩)
def OkRsyI0 : Prop := ∀ (sz : Int) (x0 : List AV) (x1 : List AV) (s0 s1 un : Int) (dn : Bool) (f n : Int), isFile f = true ∧ rdOK sz x0 x1 s0 s1 un → inRsyI0 sz x0 x1 s0 s1 un dn f n
def lpRsyI1 (sz : Int) (x0 : List AV) (x1 : List AV) (s0 s1 un : Int) (dn : Bool) (f n : Int) : Nat → Option LoopPlan := fun _ => none
def inRsyI1 (sz : Int) (x0 : List AV) (x1 : List AV) (s0 s1 un : Int) (dn : Bool) (f n : Int) : Prop := awp [] (lpRsyI1 sz x0 x1 s0 s1 un dn f n) (lookΓ gamRsyI) Try.prog Try.f39.ntmps 0 (Try.f39.body.getD .skip) (entrySt [.val (.agg [.int .i64 sz, .sl x0 .no, .sl x1 .no, .int .i64 s0, .int .i64 s1, .int .i64 un, .bool dn]), .val (.int .i64 f), .val (.int .i64 n), .val (.bool true)]) (exitQ Try.prog Try.f39.results.toList [] ⟨.tup [.agg [.int .i64 sz, .sl (trX 0 f n dn true un x0 x1 x0) .no, .sl (trX 1 f n dn true un x0 x1 x1) .no, .int .i64 (trS 0 f n dn true un x0 x1 s0), .int .i64 (trS 1 f n dn true un x0 x1 s1), .int .i64 (if trGo f n dn x0 x1 then rUn un else un), .bool (syD (trGo f n dn x0 x1) true un dn)], .int .i64 (trE f n dn true un x0 x1)], none, none⟩)
def OkRsyI1 : Prop := ∀ (sz : Int) (x0 : List AV) (x1 : List AV) (s0 s1 un : Int) (dn : Bool) (f n : Int), isFile f = true ∧ rdOK sz x0 x1 s0 s1 un → inRsyI1 sz x0 x1 s0 s1 un dn f n
def rsyOF : Con
  | [.val (.agg [.int .i64 sz, .sl x0 .no, .sl x1 .no, .int .i64 s0, .int .i64 s1, .int .i64 un, .bool dn]), .val (.int .i64 f), .val (.int .i64 n), .val (.bool false)] => (some (isFile f = false ∧ rdOK sz x0 x1 s0 s1 un, ⟨.tup [.agg [.int .i64 sz, .sl x0 .no, .sl x1 .no, .int .i64 (syS 0 f dn true un s0 x0.length), .int .i64 (syS 1 f dn true un s1 x1.length), .int .i64 (if syGo f dn then rUn un else un), .bool (syD (syGo f dn) true un dn)], .int .i64 (syE f dn true un)], none, none⟩))
  | [.val (.agg [.int .i64 sz, .sl x0 .no, .sl x1 .no, .int .i64 s0, .int .i64 s1, .int .i64 un, .bool dn]), .val (.int .i64 f), .val (.int .i64 n), .val (.bool true)] => (some (isFile f = false ∧ rdOK sz x0 x1 s0 s1 un, ⟨.tup [.agg [.int .i64 sz, .sl (trX 0 f n dn true un x0 x1 x0) .no, .sl (trX 1 f n dn true un x0 x1 x1) .no, .int .i64 (trS 0 f n dn true un x0 x1 s0), .int .i64 (trS 1 f n dn true un x0 x1 s1), .int .i64 (if trGo f n dn x0 x1 then rUn un else un), .bool (syD (trGo f n dn x0 x1) true un dn)], .int .i64 (trE f n dn true un x0 x1)], none, none⟩))
  | _ => none
def gamRsyO : List (Nat × Con) := [(54, rmayOF.orNil)]
def lpRsyO0 (sz : Int) (x0 : List AV) (x1 : List AV) (s0 s1 un : Int) (dn : Bool) (f n : Int) : Nat → Option LoopPlan := fun _ => none
def inRsyO0 (sz : Int) (x0 : List AV) (x1 : List AV) (s0 s1 un : Int) (dn : Bool) (f n : Int) : Prop := awp [] (lpRsyO0 sz x0 x1 s0 s1 un dn f n) (lookΓ gamRsyO) Try.prog Try.f39.ntmps 0 (Try.f39.body.getD .skip) (entrySt [.val (.agg [.int .i64 sz, .sl x0 .no, .sl x1 .no, .int .i64 s0, .int .i64 s1, .int .i64 un, .bool dn]), .val (.int .i64 f), .val (.int .i64 n), .val (.bool false)]) (exitQ Try.prog Try.f39.results.toList [] ⟨.tup [.agg [.int .i64 sz, .sl x0 .no, .sl x1 .no, .int .i64 (syS 0 f dn true un s0 x0.length), .int .i64 (syS 1 f dn true un s1 x1.length), .int .i64 (if syGo f dn then rUn un else un), .bool (syD (syGo f dn) true un dn)], .int .i64 (syE f dn true un)], none, none⟩)
def OkRsyO0 : Prop := ∀ (sz : Int) (x0 : List AV) (x1 : List AV) (s0 s1 un : Int) (dn : Bool) (f n : Int), isFile f = false ∧ rdOK sz x0 x1 s0 s1 un → inRsyO0 sz x0 x1 s0 s1 un dn f n
def lpRsyO1 (sz : Int) (x0 : List AV) (x1 : List AV) (s0 s1 un : Int) (dn : Bool) (f n : Int) : Nat → Option LoopPlan := fun _ => none
def inRsyO1 (sz : Int) (x0 : List AV) (x1 : List AV) (s0 s1 un : Int) (dn : Bool) (f n : Int) : Prop := awp [] (lpRsyO1 sz x0 x1 s0 s1 un dn f n) (lookΓ gamRsyO) Try.prog Try.f39.ntmps 0 (Try.f39.body.getD .skip) (entrySt [.val (.agg [.int .i64 sz, .sl x0 .no, .sl x1 .no, .int .i64 s0, .int .i64 s1, .int .i64 un, .bool dn]), .val (.int .i64 f), .val (.int .i64 n), .val (.bool true)]) (exitQ Try.prog Try.f39.results.toList [] ⟨.tup [.agg [.int .i64 sz, .sl (trX 0 f n dn true un x0 x1 x0) .no, .sl (trX 1 f n dn true un x0 x1 x1) .no, .int .i64 (trS 0 f n dn true un x0 x1 s0), .int .i64 (trS 1 f n dn true un x0 x1 s1), .int .i64 (if trGo f n dn x0 x1 then rUn un else un), .bool (syD (trGo f n dn x0 x1) true un dn)], .int .i64 (trE f n dn true un x0 x1)], none, none⟩)
def OkRsyO1 : Prop := ∀ (sz : Int) (x0 : List AV) (x1 : List AV) (s0 s1 un : Int) (dn : Bool) (f n : Int), isFile f = false ∧ rdOK sz x0 x1 s0 s1 un → inRsyO1 sz x0 x1 s0 s1 un dn f n
-- klit
def inRappI0K0 (sz : Int) (x0 : List AV) (x1 : List AV) (s0 s1 un : Int) (dn : Bool)  (ys : List AV) : Prop := inRappI0 sz x0 x1 s0 s1 un dn (0) ys
def inRappI0K1 (sz : Int) (x0 : List AV) (x1 : List AV) (s0 s1 un : Int) (dn : Bool)  (ys : List AV) : Prop := inRappI0 sz x0 x1 s0 s1 un dn (1) ys
def inRsyI0K0 (sz : Int) (x0 : List AV) (x1 : List AV) (s0 s1 un : Int) (dn : Bool) (n : Int) : Prop := inRsyI0 sz x0 x1 s0 s1 un dn (0) n
def inRsyI0K1 (sz : Int) (x0 : List AV) (x1 : List AV) (s0 s1 un : Int) (dn : Bool) (n : Int) : Prop := inRsyI0 sz x0 x1 s0 s1 un dn (1) n
def inRsyI1K0 (sz : Int) (x0 : List AV) (x1 : List AV) (s0 s1 un : Int) (dn : Bool) (n : Int) : Prop := inRsyI1 sz x0 x1 s0 s1 un dn (0) n
def inRsyI1K1 (sz : Int) (x0 : List AV) (x1 : List AV) (s0 s1 un : Int) (dn : Bool) (n : Int) : Prop := inRsyI1 sz x0 x1 s0 s1 un dn (1) n
end Go.Proofs.Ytddilmocngedjaa
/- What the verification conditions come to: printed by a program of ours (wip/lax/ex/Norm.lean). -/
namespace Go.Proofs.Ytddilmocngedjaa
set_option linter.unusedVariables false
open Go.RowKit
set_option maxRecDepth 100000
theorem vcRnew0 (sz : Int) (h : (tt ∧ T1 ∧ tt ∧ T1 ∧ T1 ∧ tt ∧ tt ∧ tt ∧ (sz = sz ∧ (@List.nil.{0} AV) = [] ∧ (@List.nil.{0} AV) = [] ∧ (0 : Int) = 0 ∧ (0 : Int) = 0 ∧ (@Neg.neg.{0} Int Int.instNegInt (1 : Int)) = (@Neg.neg.{0} Int Int.instNegInt (1 : Int)) ∧ false = false ∧ True) ∧ tt)) : inRnew0 sz :=
  Eq.mp (show _ = _ by kernel_rfl) h
theorem vcRmay0 (sz : Int) (x0 : (List AV)) (x1 : (List AV)) (s0 : Int) (s1 : Int) (un : Int) (dn : Bool) (f : Int) (h : (tt ∧ T1 ∧ T1 ∧ tt ∧ T1 ∧ T1 ∧ T1 ∧ (bif (decide (f < 0)) then (tt ∧ tt ∧ T1 ∧ tt ∧ tt ∧ ((mayE f dn) = 12 ∧ True) ∧ tt) else (T1 ∧ T1 ∧ T1 ∧ (bif (decide ((1 : Int) < f)) then (tt ∧ T1 ∧ tt ∧ tt ∧ ((mayE f dn) = 12 ∧ True) ∧ tt) else (tt ∧ T1 ∧ tt ∧ (bif dn then (tt ∧ T1 ∧ tt ∧ tt ∧ ((mayE f dn) = 40 ∧ True) ∧ tt) else (tt ∧ T1 ∧ tt ∧ tt ∧ ((mayE f dn) = 0 ∧ True) ∧ tt)))))))) : inRmay0 sz x0 x1 s0 s1 un dn f :=
  Eq.mp (show _ = _ by kernel_rfl) h
theorem vcRmayO0 (sz : Int) (x0 : (List AV)) (x1 : (List AV)) (s0 : Int) (s1 : Int) (un : Int) (dn : Bool) (f : Int) (h : (tt ∧ T1 ∧ T1 ∧ tt ∧ T1 ∧ T1 ∧ T1 ∧ (bif (decide (f < 0)) then (tt ∧ tt ∧ T1 ∧ tt ∧ tt ∧ ((12 : Int) = 12 ∧ True) ∧ tt) else (T1 ∧ T1 ∧ T1 ∧ (bif (decide ((1 : Int) < f)) then (tt ∧ T1 ∧ tt ∧ tt ∧ ((12 : Int) = 12 ∧ True) ∧ tt) else (tt ∧ T1 ∧ tt ∧ (bif dn then (tt ∧ T1 ∧ tt ∧ tt ∧ ((12 : Int) = 40 ∧ True) ∧ tt) else (tt ∧ T1 ∧ tt ∧ tt ∧ ((12 : Int) = 0 ∧ True) ∧ tt)))))))) : inRmayO0 sz x0 x1 s0 s1 un dn f :=
  Eq.mp (show _ = _ by kernel_rfl) h
theorem vcRunit0 (sz : Int) (x0 : (List AV)) (x1 : (List AV)) (s0 : Int) (s1 : Int) (un : Int) (dn : Bool) (h : let q0 := (Bool.or dn (Bool.not (unitK true un))); (tt ∧ T1 ∧ T1 ∧ T1 ∧ tt ∧ T1 ∧ tt ∧ T1 ∧ (bif (un == 0) then (tt ∧ T1 ∧ tt ∧ tt ∧ tt ∧ tt ∧ T1 ∧ tt ∧ tt ∧ (sz = sz ∧ x0 = x0 ∧ x1 = x1 ∧ s0 = s0 ∧ s1 = s1 ∧ (rUn un) = un ∧ q0 = true ∧ (unitK true un) = false ∧ True) ∧ tt) else (tt ∧ T1 ∧ tt ∧ T1 ∧ (bif (decide ((0 : Int) < un)) then (tt ∧ T1 ∧ tt ∧ T1 ∧ T1 ∧ tt ∧ tt ∧ tt ∧ tt ∧ T1 ∧ tt ∧ tt ∧ (sz = sz ∧ x0 = x0 ∧ x1 = x1 ∧ s0 = s0 ∧ s1 = s1 ∧ (rUn un) = (IntKind.wrap IntKind.i64 (un - (1 : Int))) ∧ q0 = dn ∧ (unitK true un) = true ∧ True) ∧ tt) else (tt ∧ tt ∧ tt ∧ T1 ∧ tt ∧ tt ∧ (sz = sz ∧ x0 = x0 ∧ x1 = x1 ∧ s0 = s0 ∧ s1 = s1 ∧ (rUn un) = un ∧ q0 = dn ∧ (unitK true un) = true ∧ True) ∧ tt)))))) : inRunit0 sz x0 x1 s0 s1 un dn :=
  Eq.mp (show _ = _ by kernel_rfl) h
theorem vcRappO0 (sz : Int) (x0 : (List AV)) (x1 : (List AV)) (s0 : Int) (s1 : Int) (un : Int) (dn : Bool) (f : Int) (ys : (List AV)) (h : let q0 := (List.length x0); let q1 := (List.length x1); (tt ∧ T1 ∧ T1 ∧ T1 ∧ tt ∧ tt ∧ T1 ∧ (T1 ∧ (isFile f) = false) ∧ T1 ∧ tt ∧ tt ∧ tt ∧ T1 ∧ (T1 ∧ (isFile f) = false) ∧ tt ∧ T1 ∧ tt ∧ tt ∧ tt ∧ (sz = sz ∧ (apX 0 f dn sz q0 q1 un x0 ys) = x0 ∧ (apX 1 f dn sz q0 q1 un x1 ys) = x1 ∧ s0 = s0 ∧ s1 = s1 ∧ (rN un (apM f dn sz q0 q1 un (List.length ys))) = un ∧ (apD f dn sz q0 q1 un (List.length ys)) = dn ∧ (apE f dn sz q0 q1 un (List.length ys)) = 12 ∧ True) ∧ tt)) : inRappO0 sz x0 x1 s0 s1 un dn f ys :=
  Eq.mp (show _ = _ by kernel_rfl) h
theorem vcRsyO0 (sz : Int) (x0 : (List AV)) (x1 : (List AV)) (s0 : Int) (s1 : Int) (un : Int) (dn : Bool) (f : Int) (n : Int) (h : (tt ∧ T1 ∧ T1 ∧ T1 ∧ tt ∧ tt ∧ T1 ∧ (T1 ∧ (isFile f) = false) ∧ T1 ∧ tt ∧ tt ∧ tt ∧ T1 ∧ (T1 ∧ (isFile f) = false) ∧ tt ∧ T1 ∧ tt ∧ tt ∧ tt ∧ (sz = sz ∧ x0 = x0 ∧ x1 = x1 ∧ (syS 0 f dn true un s0 (List.length x0)) = s0 ∧ (syS 1 f dn true un s1 (List.length x1)) = s1 ∧ (@ite.{1} Int ((syGo f dn) = true) (@instDecidableEqBool (syGo f dn) true) (rUn un) un) = un ∧ (syD (syGo f dn) true un dn) = dn ∧ (syE f dn true un) = 12 ∧ True) ∧ tt)) : inRsyO0 sz x0 x1 s0 s1 un dn f n :=
  Eq.mp (show _ = _ by kernel_rfl) h
theorem vcRsyO1 (sz : Int) (x0 : (List AV)) (x1 : (List AV)) (s0 : Int) (s1 : Int) (un : Int) (dn : Bool) (f : Int) (n : Int) (h : (tt ∧ T1 ∧ T1 ∧ T1 ∧ tt ∧ tt ∧ T1 ∧ (T1 ∧ (isFile f) = false) ∧ T1 ∧ tt ∧ tt ∧ tt ∧ T1 ∧ (T1 ∧ (isFile f) = false) ∧ tt ∧ T1 ∧ tt ∧ tt ∧ tt ∧ (sz = sz ∧ (trX 0 f n dn true un x0 x1 x0) = x0 ∧ (trX 1 f n dn true un x0 x1 x1) = x1 ∧ (trS 0 f n dn true un x0 x1 s0) = s0 ∧ (trS 1 f n dn true un x0 x1 s1) = s1 ∧ (@ite.{1} Int ((trGo f n dn x0 x1) = true) (@instDecidableEqBool (trGo f n dn x0 x1) true) (rUn un) un) = un ∧ (syD (trGo f n dn x0 x1) true un dn) = dn ∧ (trE f n dn true un x0 x1) = 12 ∧ True) ∧ tt)) : inRsyO1 sz x0 x1 s0 s1 un dn f n :=
  Eq.mp (show _ = _ by kernel_rfl) h
theorem vcRappI0K0 (sz : Int) (x0 : (List AV)) (x1 : (List AV)) (s0 : Int) (s1 : Int) (un : Int) (dn : Bool) (ys : (List AV)) (h : let q0 := (List.length ys); let q1 := (List.length x0); let q2 := (List.length x1); let q3 := (rN un (apM 0 dn sz q1 q2 un q0)); let q4 := (apX 0 0 dn sz q1 q2 un x0 ys); let q5 := (apX 1 0 dn sz q1 q2 un x1 ys); let q6 := (apD 0 dn sz q1 q2 un q0); let q7 := (apE 0 dn sz q1 q2 un q0); let w0_x := [(AV.int IntKind.i64 0), (AV.sl [] (Own.row 6 1 5)), (AV.sl [] (Own.row 6 2 5)), (AV.int IntKind.i64 0), (AV.int IntKind.i64 0), (AV.int IntKind.i64 0), (AV.bool false)]; let w1_x := ((0 : Int) ≤ (0 : Int) ∧ (0 : Int) < (2 : Int)); (tt ∧ T1 ∧ T1 ∧ T1 ∧ tt ∧ tt ∧ T1 ∧ (T1 ∧ True) ∧ T1 ∧ (bif ((mayE 0 dn) != 0) then (tt ∧ tt ∧ tt ∧ T1 ∧ (T1 ∧ True) ∧ tt ∧ T1 ∧ tt ∧ tt ∧ tt ∧ (sz = sz ∧ q4 = x0 ∧ q5 = x1 ∧ s0 = s0 ∧ s1 = s1 ∧ q3 = un ∧ q6 = dn ∧ q7 = (mayE 0 dn) ∧ True) ∧ tt) else (tt ∧ T1 ∧ T1 ∧ T1 ∧ tt ∧ T1 ∧ w1_x ∧ tt ∧ T1 ∧ T1 ∧ T1 ∧ ((0 : Int) ≤ (1 : Int) ∧ (1 : Int) < (2 : Int)) ∧ tt ∧ T1 ∧ T1 ∧ T1 ∧ (bif (decide ((IntKind.wrap IntKind.i64 ((IntKind.wrap IntKind.i64 (sz - (q1 : Int))) - (q2 : Int))) < (q0 : Int))) then (tt ∧ tt ∧ tt ∧ T1 ∧ tt ∧ tt ∧ (sz = sz ∧ q4 = x0 ∧ q5 = x1 ∧ s0 = s0 ∧ s1 = s1 ∧ q3 = un ∧ q6 = dn ∧ q7 = 14 ∧ True) ∧ tt) else (tt ∧ T1 ∧ (@Exists.{1} (loopRA 0 sz x0 x1 s0 s1 un dn ys).V (fun (v0 : Nat) => ((((AV.int IntKind.i64 0) = (AV.int IntKind.i64 0) ∧ (AV.sl ys Own.no) = (AV.sl ys Own.no) ∧ (AV.ptr 3 0) = (AV.ptr 3 0) ∧ (AV.ptr 6 0) = (AV.ptr 6 0) ∧ (AV.int IntKind.i64 0) = (AV.int IntKind.i64 (v0 : Int)) ∧ True) ∧ ((@Option.some.{0} (List AV) [(AV.int IntKind.i64 sz), (AV.sl x0 Own.no), (AV.sl x1 Own.no), (AV.int IntKind.i64 s0), (AV.int IntKind.i64 s1), (AV.int IntKind.i64 un), (AV.bool dn)]) = (@Option.some.{0} (List AV) [(AV.int IntKind.i64 sz), (AV.sl (apL 0 0 v0 x0 ys) Own.no), (AV.sl (apL 1 0 v0 x1 ys) Own.no), (AV.int IntKind.i64 s0), (AV.int IntKind.i64 s1), (AV.int IntKind.i64 (rN un v0)), (AV.bool false)]) ∧ (@Option.some.{0} (List AV) w0_x) = (@Option.some.{0} (List AV) w0_x) ∧ True) ∧ (@Eq.{1} Nat 0 0 ∧ @Eq.{1} Nat 0 0 ∧ True) ∧ tt ∧ tt) ∧ v0 ≤ q0 ∧ v0 ≤ (apN un q0)))) ∧ ∀ v0 : Nat, let w2_0 := (Bool.not (unitK true (rN un v0))); (v0 ≤ q0 ∧ v0 ≤ (apN un q0)) → tt ∧ T1 ∧ T1 ∧ T1 ∧ T1 ∧ (bif (decide ((v0 : Int) < (q0 : Int))) then (tt ∧ T1 ∧ tt ∧ tt ∧ (T1 ∧ (@Neg.neg.{0} Int Int.instNegInt (1 : Int)) ≤ (rN un v0) ∧ (rN un v0) ≤ 9223372036854775807) ∧ ∀ v2 : Int, (v2 = sz) → ∀ v4 : (List AV), let w3_4 := (List.length v4); (v4 = (apL 0 0 v0 x0 ys)) → ∀ v6 : (List AV), (v6 = (apL 1 0 v0 x1 ys)) → ∀ v8 : Int, (v8 = s0) → ∀ v10 : Int, (v10 = s1) → ∀ v12 : Int, (v12 = (rUn (rN un v0))) → T1 ∧ T1 ∧ T1 ∧ tt ∧ T1 ∧ tt ∧ T1 ∧ T1 ∧ (bif w2_0 then (tt ∧ tt ∧ tt ∧ T1 ∧ tt ∧ tt ∧ (sz = v2 ∧ q4 = v4 ∧ q5 = v6 ∧ s0 = v8 ∧ s1 = v10 ∧ q3 = v12 ∧ q6 = w2_0 ∧ q7 = 40 ∧ True) ∧ tt) else (tt ∧ T1 ∧ tt ∧ T1 ∧ T1 ∧ T1 ∧ w1_x ∧ tt ∧ ((w3_4 * 1) ≤ 140737488355328 ∧ w3_4 ≤ 9223372036854775807 ∧ (okWidth 1 v4)) ∧ T1 ∧ tt ∧ T1 ∧ T1 ∧ T1 ∧ T1 ∧ ((0 : Int) ≤ (v0 : Int) ∧ (v0 : Int) < (q0 : Int) ∧ (okElem 1 ys (Int.toNat (v0 : Int)))) ∧ (okRead [(Kd.int IntKind.u8)] (elemAt ys (Int.toNat (v0 : Int))) 0) ∧ T1 ∧ (w3_4 = w3_4 ∧ ((w3_4 + 1) * 1) ≤ 140737488355328 ∧ (w3_4 + 1) ≤ 9223372036854775807 ∧ (okWidth 1 v4) ∧ (okWidth 1 [(AV.int IntKind.u8 (rdInt (elemAt ys (Int.toNat (v0 : Int))) 0))])) ∧ T1 ∧ w1_x ∧ tt ∧ tt ∧ T1 ∧ T1 ∧ T1 ∧ (@Exists.{1} (loopRA 0 sz x0 x1 s0 s1 un dn ys).V (fun (v14 : Nat) => ((((AV.int IntKind.i64 0) = (AV.int IntKind.i64 0) ∧ (AV.sl ys Own.no) = (AV.sl ys Own.no) ∧ (AV.ptr 3 0) = (AV.ptr 3 0) ∧ (AV.ptr 6 0) = (AV.ptr 6 0) ∧ (AV.int IntKind.i64 (IntKind.wrap IntKind.i64 ((v0 : Int) + (1 : Int)))) = (AV.int IntKind.i64 (v14 : Int)) ∧ True) ∧ ((@Option.some.{0} (List AV) [(AV.int IntKind.i64 v2), (AV.sl (@catL AV v4 [(AV.int IntKind.u8 (rdInt (elemAt ys (Int.toNat (v0 : Int))) 0))]) Own.no), (AV.sl v6 Own.no), (AV.int IntKind.i64 v8), (AV.int IntKind.i64 v10), (AV.int IntKind.i64 v12), (AV.bool w2_0)]) = (@Option.some.{0} (List AV) [(AV.int IntKind.i64 sz), (AV.sl (apL 0 0 v14 x0 ys) Own.no), (AV.sl (apL 1 0 v14 x1 ys) Own.no), (AV.int IntKind.i64 s0), (AV.int IntKind.i64 s1), (AV.int IntKind.i64 (rN un v14)), (AV.bool false)]) ∧ (@Option.some.{0} (List AV) w0_x) = (@Option.some.{0} (List AV) w0_x) ∧ True) ∧ (@Eq.{1} Nat 0 0 ∧ @Eq.{1} Nat 0 0 ∧ True) ∧ tt ∧ tt) ∧ (v14 ≤ q0 ∧ v14 ≤ (apN un q0)) ∧ (q0 - v14) < (q0 - v0))))))) else (tt ∧ tt ∧ tt ∧ T1 ∧ tt ∧ tt ∧ (sz = sz ∧ q4 = (apL 0 0 v0 x0 ys) ∧ q5 = (apL 1 0 v0 x1 ys) ∧ s0 = s0 ∧ s1 = s1 ∧ q3 = (rN un v0) ∧ q6 = false ∧ q7 = 0 ∧ True) ∧ tt)))))))) : inRappI0K0 sz x0 x1 s0 s1 un dn ys :=
  Eq.mp (show _ = _ by kernel_rfl) h
theorem vcRappI0K1 (sz : Int) (x0 : (List AV)) (x1 : (List AV)) (s0 : Int) (s1 : Int) (un : Int) (dn : Bool) (ys : (List AV)) (h : let q0 := (List.length ys); let q1 := (List.length x0); let q2 := (List.length x1); let q3 := (rN un (apM 1 dn sz q1 q2 un q0)); let q4 := (apX 0 1 dn sz q1 q2 un x0 ys); let q5 := (apX 1 1 dn sz q1 q2 un x1 ys); let q6 := (apD 1 dn sz q1 q2 un q0); let q7 := (apE 1 dn sz q1 q2 un q0); let w0_x := [(AV.int IntKind.i64 0), (AV.sl [] (Own.row 6 1 5)), (AV.sl [] (Own.row 6 2 5)), (AV.int IntKind.i64 0), (AV.int IntKind.i64 0), (AV.int IntKind.i64 0), (AV.bool false)]; let w1_x := ((0 : Int) ≤ (1 : Int) ∧ (1 : Int) < (2 : Int)); (tt ∧ T1 ∧ T1 ∧ T1 ∧ tt ∧ tt ∧ T1 ∧ (T1 ∧ True) ∧ T1 ∧ (bif ((mayE 1 dn) != 0) then (tt ∧ tt ∧ tt ∧ T1 ∧ (T1 ∧ True) ∧ tt ∧ T1 ∧ tt ∧ tt ∧ tt ∧ (sz = sz ∧ q4 = x0 ∧ q5 = x1 ∧ s0 = s0 ∧ s1 = s1 ∧ q3 = un ∧ q6 = dn ∧ q7 = (mayE 1 dn) ∧ True) ∧ tt) else (tt ∧ T1 ∧ T1 ∧ T1 ∧ tt ∧ T1 ∧ ((0 : Int) ≤ (0 : Int) ∧ (0 : Int) < (2 : Int)) ∧ tt ∧ T1 ∧ T1 ∧ T1 ∧ w1_x ∧ tt ∧ T1 ∧ T1 ∧ T1 ∧ (bif (decide ((IntKind.wrap IntKind.i64 ((IntKind.wrap IntKind.i64 (sz - (q1 : Int))) - (q2 : Int))) < (q0 : Int))) then (tt ∧ tt ∧ tt ∧ T1 ∧ tt ∧ tt ∧ (sz = sz ∧ q4 = x0 ∧ q5 = x1 ∧ s0 = s0 ∧ s1 = s1 ∧ q3 = un ∧ q6 = dn ∧ q7 = 14 ∧ True) ∧ tt) else (tt ∧ T1 ∧ (@Exists.{1} (loopRA 1 sz x0 x1 s0 s1 un dn ys).V (fun (v0 : Nat) => ((((AV.int IntKind.i64 1) = (AV.int IntKind.i64 1) ∧ (AV.sl ys Own.no) = (AV.sl ys Own.no) ∧ (AV.ptr 3 0) = (AV.ptr 3 0) ∧ (AV.ptr 6 0) = (AV.ptr 6 0) ∧ (AV.int IntKind.i64 0) = (AV.int IntKind.i64 (v0 : Int)) ∧ True) ∧ ((@Option.some.{0} (List AV) [(AV.int IntKind.i64 sz), (AV.sl x0 Own.no), (AV.sl x1 Own.no), (AV.int IntKind.i64 s0), (AV.int IntKind.i64 s1), (AV.int IntKind.i64 un), (AV.bool dn)]) = (@Option.some.{0} (List AV) [(AV.int IntKind.i64 sz), (AV.sl (apL 0 1 v0 x0 ys) Own.no), (AV.sl (apL 1 1 v0 x1 ys) Own.no), (AV.int IntKind.i64 s0), (AV.int IntKind.i64 s1), (AV.int IntKind.i64 (rN un v0)), (AV.bool false)]) ∧ (@Option.some.{0} (List AV) w0_x) = (@Option.some.{0} (List AV) w0_x) ∧ True) ∧ (@Eq.{1} Nat 0 0 ∧ @Eq.{1} Nat 0 0 ∧ True) ∧ tt ∧ tt) ∧ v0 ≤ q0 ∧ v0 ≤ (apN un q0)))) ∧ ∀ v0 : Nat, let w2_0 := (Bool.not (unitK true (rN un v0))); (v0 ≤ q0 ∧ v0 ≤ (apN un q0)) → tt ∧ T1 ∧ T1 ∧ T1 ∧ T1 ∧ (bif (decide ((v0 : Int) < (q0 : Int))) then (tt ∧ T1 ∧ tt ∧ tt ∧ (T1 ∧ (@Neg.neg.{0} Int Int.instNegInt (1 : Int)) ≤ (rN un v0) ∧ (rN un v0) ≤ 9223372036854775807) ∧ ∀ v2 : Int, (v2 = sz) → ∀ v4 : (List AV), (v4 = (apL 0 1 v0 x0 ys)) → ∀ v6 : (List AV), let w3_6 := (List.length v6); (v6 = (apL 1 1 v0 x1 ys)) → ∀ v8 : Int, (v8 = s0) → ∀ v10 : Int, (v10 = s1) → ∀ v12 : Int, (v12 = (rUn (rN un v0))) → T1 ∧ T1 ∧ T1 ∧ tt ∧ T1 ∧ tt ∧ T1 ∧ T1 ∧ (bif w2_0 then (tt ∧ tt ∧ tt ∧ T1 ∧ tt ∧ tt ∧ (sz = v2 ∧ q4 = v4 ∧ q5 = v6 ∧ s0 = v8 ∧ s1 = v10 ∧ q3 = v12 ∧ q6 = w2_0 ∧ q7 = 40 ∧ True) ∧ tt) else (tt ∧ T1 ∧ tt ∧ T1 ∧ T1 ∧ T1 ∧ w1_x ∧ tt ∧ ((w3_6 * 1) ≤ 140737488355328 ∧ w3_6 ≤ 9223372036854775807 ∧ (okWidth 1 v6)) ∧ T1 ∧ tt ∧ T1 ∧ T1 ∧ T1 ∧ T1 ∧ ((0 : Int) ≤ (v0 : Int) ∧ (v0 : Int) < (q0 : Int) ∧ (okElem 1 ys (Int.toNat (v0 : Int)))) ∧ (okRead [(Kd.int IntKind.u8)] (elemAt ys (Int.toNat (v0 : Int))) 0) ∧ T1 ∧ (w3_6 = w3_6 ∧ ((w3_6 + 1) * 1) ≤ 140737488355328 ∧ (w3_6 + 1) ≤ 9223372036854775807 ∧ (okWidth 1 v6) ∧ (okWidth 1 [(AV.int IntKind.u8 (rdInt (elemAt ys (Int.toNat (v0 : Int))) 0))])) ∧ T1 ∧ w1_x ∧ tt ∧ tt ∧ T1 ∧ T1 ∧ T1 ∧ (@Exists.{1} (loopRA 1 sz x0 x1 s0 s1 un dn ys).V (fun (v14 : Nat) => ((((AV.int IntKind.i64 1) = (AV.int IntKind.i64 1) ∧ (AV.sl ys Own.no) = (AV.sl ys Own.no) ∧ (AV.ptr 3 0) = (AV.ptr 3 0) ∧ (AV.ptr 6 0) = (AV.ptr 6 0) ∧ (AV.int IntKind.i64 (IntKind.wrap IntKind.i64 ((v0 : Int) + (1 : Int)))) = (AV.int IntKind.i64 (v14 : Int)) ∧ True) ∧ ((@Option.some.{0} (List AV) [(AV.int IntKind.i64 v2), (AV.sl v4 Own.no), (AV.sl (@catL AV v6 [(AV.int IntKind.u8 (rdInt (elemAt ys (Int.toNat (v0 : Int))) 0))]) Own.no), (AV.int IntKind.i64 v8), (AV.int IntKind.i64 v10), (AV.int IntKind.i64 v12), (AV.bool w2_0)]) = (@Option.some.{0} (List AV) [(AV.int IntKind.i64 sz), (AV.sl (apL 0 1 v14 x0 ys) Own.no), (AV.sl (apL 1 1 v14 x1 ys) Own.no), (AV.int IntKind.i64 s0), (AV.int IntKind.i64 s1), (AV.int IntKind.i64 (rN un v14)), (AV.bool false)]) ∧ (@Option.some.{0} (List AV) w0_x) = (@Option.some.{0} (List AV) w0_x) ∧ True) ∧ (@Eq.{1} Nat 0 0 ∧ @Eq.{1} Nat 0 0 ∧ True) ∧ tt ∧ tt) ∧ (v14 ≤ q0 ∧ v14 ≤ (apN un q0)) ∧ (q0 - v14) < (q0 - v0))))))) else (tt ∧ tt ∧ tt ∧ T1 ∧ tt ∧ tt ∧ (sz = sz ∧ q4 = (apL 0 1 v0 x0 ys) ∧ q5 = (apL 1 1 v0 x1 ys) ∧ s0 = s0 ∧ s1 = s1 ∧ q3 = (rN un v0) ∧ q6 = false ∧ q7 = 0 ∧ True) ∧ tt)))))))) : inRappI0K1 sz x0 x1 s0 s1 un dn ys :=
  Eq.mp (show _ = _ by kernel_rfl) h
theorem vcRsyI0K0 (sz : Int) (x0 : (List AV)) (x1 : (List AV)) (s0 : Int) (s1 : Int) (un : Int) (dn : Bool) (n : Int) (h : let q0 := (syS 0 0 dn true un s0 (List.length x0)); let q1 := (syS 1 0 dn true un s1 (List.length x1)); let q2 := (syGo 0 dn); let w0_x := ((0 : Int) ≤ (0 : Int) ∧ (0 : Int) < (2 : Int)); (tt ∧ T1 ∧ T1 ∧ T1 ∧ tt ∧ tt ∧ T1 ∧ (T1 ∧ True) ∧ T1 ∧ (bif ((mayE 0 dn) != 0) then (tt ∧ tt ∧ tt ∧ T1 ∧ (T1 ∧ True) ∧ tt ∧ T1 ∧ tt ∧ tt ∧ tt ∧ (sz = sz ∧ x0 = x0 ∧ x1 = x1 ∧ q0 = s0 ∧ q1 = s1 ∧ (@ite.{1} Int (q2 = true) (@instDecidableEqBool q2 true) (rUn un) un) = un ∧ (syD q2 true un dn) = dn ∧ (syE 0 dn true un) = (mayE 0 dn) ∧ True) ∧ tt) else (tt ∧ T1 ∧ T1 ∧ false = false ∧ tt ∧ tt ∧ (T1 ∧ (@Neg.neg.{0} Int Int.instNegInt (1 : Int)) ≤ un ∧ un ≤ 9223372036854775807) ∧ ∀ v0 : Int, (v0 = sz) → ∀ v2 : (List AV), (v2 = x0) → ∀ v4 : (List AV), (v4 = x1) → ∀ v6 : Int, (v6 = s0) → ∀ v8 : Int, (v8 = s1) → ∀ v10 : Int, (v10 = (rUn un)) → T1 ∧ T1 ∧ T1 ∧ tt ∧ T1 ∧ tt ∧ T1 ∧ T1 ∧ (bif (Bool.not (unitK true un)) then (tt ∧ tt ∧ tt ∧ T1 ∧ tt ∧ tt ∧ (sz = v0 ∧ x0 = v2 ∧ x1 = v4 ∧ q0 = v6 ∧ q1 = v8 ∧ (@ite.{1} Int (q2 = true) (@instDecidableEqBool q2 true) (rUn un) un) = v10 ∧ (syD q2 true un dn) = (Bool.or dn (Bool.not (unitK true un))) ∧ (syE 0 dn true un) = 40 ∧ True) ∧ tt) else (tt ∧ T1 ∧ T1 ∧ tt ∧ T1 ∧ T1 ∧ T1 ∧ w0_x ∧ tt ∧ T1 ∧ T1 ∧ w0_x ∧ tt ∧ tt ∧ tt ∧ tt ∧ T1 ∧ tt ∧ tt ∧ (sz = v0 ∧ x0 = v2 ∧ x1 = v4 ∧ q0 = ((List.length v2) : Int) ∧ q1 = v8 ∧ (@ite.{1} Int (q2 = true) (@instDecidableEqBool q2 true) (rUn un) un) = v10 ∧ (syD q2 true un dn) = (Bool.or dn (Bool.not (unitK true un))) ∧ (syE 0 dn true un) = 0 ∧ True) ∧ tt)))))) : inRsyI0K0 sz x0 x1 s0 s1 un dn n :=
  Eq.mp (show _ = _ by kernel_rfl) h
theorem vcRsyI0K1 (sz : Int) (x0 : (List AV)) (x1 : (List AV)) (s0 : Int) (s1 : Int) (un : Int) (dn : Bool) (n : Int) (h : let q0 := (syS 0 1 dn true un s0 (List.length x0)); let q1 := (syS 1 1 dn true un s1 (List.length x1)); let q2 := (syGo 1 dn); let w0_x := ((0 : Int) ≤ (1 : Int) ∧ (1 : Int) < (2 : Int)); (tt ∧ T1 ∧ T1 ∧ T1 ∧ tt ∧ tt ∧ T1 ∧ (T1 ∧ True) ∧ T1 ∧ (bif ((mayE 1 dn) != 0) then (tt ∧ tt ∧ tt ∧ T1 ∧ (T1 ∧ True) ∧ tt ∧ T1 ∧ tt ∧ tt ∧ tt ∧ (sz = sz ∧ x0 = x0 ∧ x1 = x1 ∧ q0 = s0 ∧ q1 = s1 ∧ (@ite.{1} Int (q2 = true) (@instDecidableEqBool q2 true) (rUn un) un) = un ∧ (syD q2 true un dn) = dn ∧ (syE 1 dn true un) = (mayE 1 dn) ∧ True) ∧ tt) else (tt ∧ T1 ∧ T1 ∧ false = false ∧ tt ∧ tt ∧ (T1 ∧ (@Neg.neg.{0} Int Int.instNegInt (1 : Int)) ≤ un ∧ un ≤ 9223372036854775807) ∧ ∀ v0 : Int, (v0 = sz) → ∀ v2 : (List AV), (v2 = x0) → ∀ v4 : (List AV), (v4 = x1) → ∀ v6 : Int, (v6 = s0) → ∀ v8 : Int, (v8 = s1) → ∀ v10 : Int, (v10 = (rUn un)) → T1 ∧ T1 ∧ T1 ∧ tt ∧ T1 ∧ tt ∧ T1 ∧ T1 ∧ (bif (Bool.not (unitK true un)) then (tt ∧ tt ∧ tt ∧ T1 ∧ tt ∧ tt ∧ (sz = v0 ∧ x0 = v2 ∧ x1 = v4 ∧ q0 = v6 ∧ q1 = v8 ∧ (@ite.{1} Int (q2 = true) (@instDecidableEqBool q2 true) (rUn un) un) = v10 ∧ (syD q2 true un dn) = (Bool.or dn (Bool.not (unitK true un))) ∧ (syE 1 dn true un) = 40 ∧ True) ∧ tt) else (tt ∧ T1 ∧ T1 ∧ tt ∧ T1 ∧ T1 ∧ T1 ∧ w0_x ∧ tt ∧ T1 ∧ T1 ∧ w0_x ∧ tt ∧ tt ∧ tt ∧ tt ∧ T1 ∧ tt ∧ tt ∧ (sz = v0 ∧ x0 = v2 ∧ x1 = v4 ∧ q0 = v6 ∧ q1 = ((List.length v4) : Int) ∧ (@ite.{1} Int (q2 = true) (@instDecidableEqBool q2 true) (rUn un) un) = v10 ∧ (syD q2 true un dn) = (Bool.or dn (Bool.not (unitK true un))) ∧ (syE 1 dn true un) = 0 ∧ True) ∧ tt)))))) : inRsyI0K1 sz x0 x1 s0 s1 un dn n :=
  Eq.mp (show _ = _ by kernel_rfl) h
theorem vcRsyI1K0 (sz : Int) (x0 : (List AV)) (x1 : (List AV)) (s0 : Int) (s1 : Int) (un : Int) (dn : Bool) (n : Int) (h : let q0 := (trGo 0 n dn x0 x1); let q1 := (trX 0 0 n dn true un x0 x1 x0); let q2 := (trX 1 0 n dn true un x0 x1 x1); let q3 := (trS 0 0 n dn true un x0 x1 s0); let q4 := (trS 1 0 n dn true un x0 x1 s1); let q5 := (trE 0 n dn true un x0 x1); let q6 := (syD q0 true un dn); let q7 := (Bool.or dn (Bool.not (unitK true un))); let w0_x := ((0 : Int) ≤ (0 : Int) ∧ (0 : Int) < (2 : Int)); (tt ∧ T1 ∧ T1 ∧ T1 ∧ tt ∧ tt ∧ T1 ∧ (T1 ∧ True) ∧ T1 ∧ (bif ((mayE 0 dn) != 0) then (tt ∧ tt ∧ tt ∧ T1 ∧ (T1 ∧ True) ∧ tt ∧ T1 ∧ tt ∧ tt ∧ tt ∧ (sz = sz ∧ q1 = x0 ∧ q2 = x1 ∧ q3 = s0 ∧ q4 = s1 ∧ (@ite.{1} Int (q0 = true) (@instDecidableEqBool q0 true) (rUn un) un) = un ∧ q6 = dn ∧ q5 = (mayE 0 dn) ∧ True) ∧ tt) else (tt ∧ T1 ∧ T1 ∧ T1 ∧ T1 ∧ T1 ∧ (bif (decide (n < 0)) then (tt ∧ T1 ∧ tt ∧ tt ∧ tt ∧ T1 ∧ tt ∧ tt ∧ (sz = sz ∧ q1 = x0 ∧ q2 = x1 ∧ q3 = s0 ∧ q4 = s1 ∧ (@ite.{1} Int (q0 = true) (@instDecidableEqBool q0 true) (rUn un) un) = un ∧ q6 = dn ∧ q5 = 12 ∧ True) ∧ tt) else (T1 ∧ T1 ∧ T1 ∧ w0_x ∧ tt ∧ T1 ∧ T1 ∧ T1 ∧ T1 ∧ (bif (decide (((List.length x0) : Int) < n)) then (tt ∧ tt ∧ tt ∧ T1 ∧ tt ∧ tt ∧ (sz = sz ∧ q1 = x0 ∧ q2 = x1 ∧ q3 = s0 ∧ q4 = s1 ∧ (@ite.{1} Int (q0 = true) (@instDecidableEqBool q0 true) (rUn un) un) = un ∧ q6 = dn ∧ q5 = 12 ∧ True) ∧ tt) else (tt ∧ tt ∧ (T1 ∧ (@Neg.neg.{0} Int Int.instNegInt (1 : Int)) ≤ un ∧ un ≤ 9223372036854775807) ∧ ∀ v0 : Int, (v0 = sz) → ∀ v2 : (List AV), (v2 = x0) → ∀ v4 : (List AV), (v4 = x1) → ∀ v6 : Int, (v6 = s0) → ∀ v8 : Int, (v8 = s1) → ∀ v10 : Int, (v10 = (rUn un)) → T1 ∧ T1 ∧ T1 ∧ tt ∧ T1 ∧ tt ∧ T1 ∧ T1 ∧ (bif (Bool.not (unitK true un)) then (tt ∧ tt ∧ tt ∧ T1 ∧ tt ∧ tt ∧ (sz = v0 ∧ q1 = v2 ∧ q2 = v4 ∧ q3 = v6 ∧ q4 = v8 ∧ (@ite.{1} Int (q0 = true) (@instDecidableEqBool q0 true) (rUn un) un) = v10 ∧ q6 = q7 ∧ q5 = 40 ∧ True) ∧ tt) else (tt ∧ T1 ∧ T1 ∧ tt ∧ T1 ∧ T1 ∧ T1 ∧ w0_x ∧ tt ∧ T1 ∧ (((0 : Int) ≤ n ∧ n ≤ ((List.length v2) : Int)) ∧ (okWidth 1 v2)) ∧ T1 ∧ w0_x ∧ tt ∧ tt ∧ T1 ∧ T1 ∧ w0_x ∧ tt ∧ T1 ∧ T1 ∧ (bif (decide (n < v6)) then (tt ∧ T1 ∧ T1 ∧ T1 ∧ w0_x ∧ tt ∧ tt ∧ tt ∧ tt ∧ T1 ∧ tt ∧ tt ∧ (sz = v0 ∧ q1 = (@cutL AV v2 0 (Int.toNat n)) ∧ q2 = v4 ∧ q3 = n ∧ q4 = v8 ∧ (@ite.{1} Int (q0 = true) (@instDecidableEqBool q0 true) (rUn un) un) = v10 ∧ q6 = q7 ∧ q5 = 0 ∧ True) ∧ tt) else (tt ∧ tt ∧ tt ∧ T1 ∧ tt ∧ tt ∧ (sz = v0 ∧ q1 = (@cutL AV v2 0 (Int.toNat n)) ∧ q2 = v4 ∧ q3 = v6 ∧ q4 = v8 ∧ (@ite.{1} Int (q0 = true) (@instDecidableEqBool q0 true) (rUn un) un) = v10 ∧ q6 = q7 ∧ q5 = 0 ∧ True) ∧ tt)))))))))))) : inRsyI1K0 sz x0 x1 s0 s1 un dn n :=
  Eq.mp (show _ = _ by kernel_rfl) h
theorem vcRsyI1K1 (sz : Int) (x0 : (List AV)) (x1 : (List AV)) (s0 : Int) (s1 : Int) (un : Int) (dn : Bool) (n : Int) (h : let q0 := (trGo 1 n dn x0 x1); let q1 := (trX 0 1 n dn true un x0 x1 x0); let q2 := (trX 1 1 n dn true un x0 x1 x1); let q3 := (trS 0 1 n dn true un x0 x1 s0); let q4 := (trS 1 1 n dn true un x0 x1 s1); let q5 := (trE 1 n dn true un x0 x1); let q6 := (syD q0 true un dn); let q7 := (Bool.or dn (Bool.not (unitK true un))); let w0_x := ((0 : Int) ≤ (1 : Int) ∧ (1 : Int) < (2 : Int)); (tt ∧ T1 ∧ T1 ∧ T1 ∧ tt ∧ tt ∧ T1 ∧ (T1 ∧ True) ∧ T1 ∧ (bif ((mayE 1 dn) != 0) then (tt ∧ tt ∧ tt ∧ T1 ∧ (T1 ∧ True) ∧ tt ∧ T1 ∧ tt ∧ tt ∧ tt ∧ (sz = sz ∧ q1 = x0 ∧ q2 = x1 ∧ q3 = s0 ∧ q4 = s1 ∧ (@ite.{1} Int (q0 = true) (@instDecidableEqBool q0 true) (rUn un) un) = un ∧ q6 = dn ∧ q5 = (mayE 1 dn) ∧ True) ∧ tt) else (tt ∧ T1 ∧ T1 ∧ T1 ∧ T1 ∧ T1 ∧ (bif (decide (n < 0)) then (tt ∧ T1 ∧ tt ∧ tt ∧ tt ∧ T1 ∧ tt ∧ tt ∧ (sz = sz ∧ q1 = x0 ∧ q2 = x1 ∧ q3 = s0 ∧ q4 = s1 ∧ (@ite.{1} Int (q0 = true) (@instDecidableEqBool q0 true) (rUn un) un) = un ∧ q6 = dn ∧ q5 = 12 ∧ True) ∧ tt) else (T1 ∧ T1 ∧ T1 ∧ w0_x ∧ tt ∧ T1 ∧ T1 ∧ T1 ∧ T1 ∧ (bif (decide (((List.length x1) : Int) < n)) then (tt ∧ tt ∧ tt ∧ T1 ∧ tt ∧ tt ∧ (sz = sz ∧ q1 = x0 ∧ q2 = x1 ∧ q3 = s0 ∧ q4 = s1 ∧ (@ite.{1} Int (q0 = true) (@instDecidableEqBool q0 true) (rUn un) un) = un ∧ q6 = dn ∧ q5 = 12 ∧ True) ∧ tt) else (tt ∧ tt ∧ (T1 ∧ (@Neg.neg.{0} Int Int.instNegInt (1 : Int)) ≤ un ∧ un ≤ 9223372036854775807) ∧ ∀ v0 : Int, (v0 = sz) → ∀ v2 : (List AV), (v2 = x0) → ∀ v4 : (List AV), (v4 = x1) → ∀ v6 : Int, (v6 = s0) → ∀ v8 : Int, (v8 = s1) → ∀ v10 : Int, (v10 = (rUn un)) → T1 ∧ T1 ∧ T1 ∧ tt ∧ T1 ∧ tt ∧ T1 ∧ T1 ∧ (bif (Bool.not (unitK true un)) then (tt ∧ tt ∧ tt ∧ T1 ∧ tt ∧ tt ∧ (sz = v0 ∧ q1 = v2 ∧ q2 = v4 ∧ q3 = v6 ∧ q4 = v8 ∧ (@ite.{1} Int (q0 = true) (@instDecidableEqBool q0 true) (rUn un) un) = v10 ∧ q6 = q7 ∧ q5 = 40 ∧ True) ∧ tt) else (tt ∧ T1 ∧ T1 ∧ tt ∧ T1 ∧ T1 ∧ T1 ∧ w0_x ∧ tt ∧ T1 ∧ (((0 : Int) ≤ n ∧ n ≤ ((List.length v4) : Int)) ∧ (okWidth 1 v4)) ∧ T1 ∧ w0_x ∧ tt ∧ tt ∧ T1 ∧ T1 ∧ w0_x ∧ tt ∧ T1 ∧ T1 ∧ (bif (decide (n < v8)) then (tt ∧ T1 ∧ T1 ∧ T1 ∧ w0_x ∧ tt ∧ tt ∧ tt ∧ tt ∧ T1 ∧ tt ∧ tt ∧ (sz = v0 ∧ q1 = v2 ∧ q2 = (@cutL AV v4 0 (Int.toNat n)) ∧ q3 = v6 ∧ q4 = n ∧ (@ite.{1} Int (q0 = true) (@instDecidableEqBool q0 true) (rUn un) un) = v10 ∧ q6 = q7 ∧ q5 = 0 ∧ True) ∧ tt) else (tt ∧ tt ∧ tt ∧ T1 ∧ tt ∧ tt ∧ (sz = v0 ∧ q1 = v2 ∧ q2 = (@cutL AV v4 0 (Int.toNat n)) ∧ q3 = v6 ∧ q4 = v8 ∧ (@ite.{1} Int (q0 = true) (@instDecidableEqBool q0 true) (rUn un) un) = v10 ∧ q6 = q7 ∧ q5 = 0 ∧ True) ∧ tt)))))))))))) : inRsyI1K1 sz x0 x1 s0 s1 un dn n :=
  Eq.mp (show _ = _ by kernel_rfl) h
end Go.Proofs.Ytddilmocngedjaa
/- The conditions of the document's disks hold. -/
namespace Go.Proofs.Ytddilmocngedjaa
set_option linter.unusedVariables false
set_option linter.unusedSimpArgs false
open Go.RowKit
set_option maxRecDepth 100000

theorem rN_eq {un : Int} (h : 0 ≤ un) : ∀ j : Nat, (j : Int) ≤ un → rN un j = un - j := by
  intro j
  induction j with
  | zero => intro _; simp [rN]
  | succ j ih =>
    intro hj
    have := ih (by omega)
    simp only [rN, this, rUn]
    rw [if_pos (by omega)]
    omega
theorem rN_neg {un : Int} (h : un < 0) : ∀ j : Nat, rN un j = un := by
  intro j
  induction j with
  | zero => rfl
  | succ j ih => simp only [rN, ih, rUn]; rw [if_neg (by omega)]
theorem rN_range {un : Int} (h0 : -1 ≤ un) (h1 : un ≤ 9223372036854775807) {i k : Nat} (hi : i ≤ apN un k) : -1 ≤ rN un i ∧ rN un i ≤ 9223372036854775807 := by
  unfold apN at hi
  split at hi
  · rename_i h
    rw [rN_eq h i (by omega)]; omega
  · rw [rN_neg (by omega)]; exact ⟨h0, h1⟩
theorem runit_more {un : Int} {k i : Nat} (hi : i ≤ apN un k) (hk : i < k) : unitK true (rN un i) = decide (i < apN un k) := by
  unfold unitK
  unfold apN at hi ⊢
  split at hi
  · rename_i h
    rw [if_pos h, rN_eq h i (by omega), Bool.true_and, Bool.eq_iff_iff]
    simp; omega
  · rename_i h
    rw [if_neg h, rN_neg (by omega), Bool.true_and, Bool.eq_iff_iff]
    simp; omega
theorem rN_stop {un : Int} {i : Nat} (h : unitK true (rN un i) = false) : rUn (rN un i) = rN un i := by
  unfold unitK at h
  have : rN un i = 0 := by simpa using h
  rw [this]; rfl
theorem okRnew0 : OkRnew0 := by
  intro sz hq
  refine vcRnew0 sz ?_
  simp only [true_and, and_true, forall_eq, eq_self]
theorem okRmay0 : OkRmay0 := by
  intro sz x0 x1 s0 s1 un dn f hq
  refine vcRmay0 sz x0 x1 s0 s1 un dn f ?_
  simp only [true_and, and_true, forall_eq, eq_self]
  have h := isFile_iff f
  unfold mayE
  refine cond_prop (fun h1 => ?_) fun h1 => cond_prop (fun h2 => ?_) fun h2 => ?_
  · have : isFile f = false := by cases hh : isFile f <;> simp_all <;> omega
    simp [this]
  · have : isFile f = false := by cases hh : isFile f <;> simp_all <;> omega
    simp [this]
  · have : isFile f = true := h.2 (by simp at h1 h2; omega)
    cases dn <;> simp [this]
theorem okRmayO0 : OkRmayO0 := by
  intro sz x0 x1 s0 s1 un dn f hq
  refine vcRmayO0 sz x0 x1 s0 s1 un dn f ?_
  simp only [true_and, and_true, forall_eq, eq_self]
  have h := mt (isFile_iff f).2 (by simp [hq])
  refine cond_prop (fun h1 => trivial) fun h1 => cond_prop (fun h2 => trivial) fun h2 => ?_
  simp at h1 h2; omega
theorem okRunit0 : OkRunit0 := by
  intro sz x0 x1 s0 s1 un dn hq
  refine vcRunit0 sz x0 x1 s0 s1 un dn ?_
  simp only [true_and, and_true, forall_eq, eq_self]
  unfold rUn unitK
  refine cond_prop (fun h => ?_) fun h => cond_prop (fun h' => ?_) fun h' => ?_
  · have : un = 0 := by simpa using h
    subst this; simp
  · have : 0 < un := by simpa using h'
    rw [if_pos this, wrap_i64 (by omega) (by omega)]
    simp; omega
  · have : ¬ 0 < un := by simpa using h'
    have h2 : ¬ un = 0 := by simpa using h
    rw [if_neg this]; simp; omega
theorem okRappI0 : OkRappI0 := by
  intro sz x0 x1 s0 s1 un dn f ys hq
  have hf : isFile f = true := hq.1
  rcases (isFile_iff f).1 hf with rfl | rfl
  · refine vcRappI0K0 sz x0 x1 s0 s1 un dn ys ?_
    simp only [true_and, and_true, forall_eq, eq_self]
    have e : mayE 0 dn = if dn then 40 else 0 := by unfold mayE; rw [hf]; rfl
    obtain ⟨-, hy, hyl, hd⟩ := hq
    obtain ⟨h1, h2, h3, h4, h5, h6, h7, h8, h9, h10, h11⟩ := hd
    refine cond_prop (fun h => ?_) fun h => ⟨by omega, by omega, ?_⟩
    · have hm : ¬ mayE 0 dn = 0 := by simpa using h
      have hg : apGo 0 dn sz x0.length x1.length ys.length = false := by unfold apGo; simp [hm]
      refine ⟨apX_no hg, apX_no hg, ?_, ?_, ?_⟩
      · unfold apM; rw [hg]; rfl
      · unfold apD; rw [hg]; simp
      · unfold apE; rw [if_pos hm]
    rw [wrap_i64 (n := sz - (x0.length : Int)) (by omega) (by omega), wrap_i64 (n := sz - (x0.length : Int) - (x1.length : Int)) (by omega) (by omega)]
    have hm : mayE 0 dn = 0 := by simpa using h
    refine cond_prop (fun h' => ?_) fun h' => ?_
    · have hk : ¬ (ys.length : Int) ≤ sz - x0.length - x1.length := by simp at h'; omega
      have hg : apGo 0 dn sz x0.length x1.length ys.length = false := by unfold apGo; simp [hk]
      refine ⟨apX_no hg, apX_no hg, ?_, ?_, ?_⟩
      · unfold apM; rw [hg]; rfl
      · unfold apD; rw [hg]; simp
      · unfold apE; rw [hg, if_neg (by omega)]; rfl
    · have hk : (ys.length : Int) ≤ sz - x0.length - x1.length := by simp at h'; omega
      have hg : apGo 0 dn sz x0.length x1.length ys.length = true := by unfold apGo; simp [hm, hk]
      have hdn : dn = false := by rw [e] at hm; cases dn <;> simp_all
      subst hdn
      have hap := apN_le un ys.length
      refine ⟨⟨(0 : Nat), ⟨rfl, by simp [apL, catL, rN]⟩, Nat.zero_le _, Nat.zero_le _⟩, fun i hi => cond_prop (fun hl => ?_) fun hl => ?_⟩
      · have hl' : i < ys.length := by simpa using hl
        obtain ⟨b1, b2, b3, b4⟩ := take_byte hy hl'
        have hu := runit_more hi.2 hl'
        have hln := apL_len 0 0 i x0 ys hi.1
        rw [if_pos rfl] at hln
        simp only [Int.toNat_natCast]
        refine ⟨rN_range h10 h11 hi.2, cond_prop (fun hs => ?_) fun hs => ?_⟩
        · have hs' : unitK true (rN un i) = false := by simpa using hs
          have hN : apN un ys.length = i := by rw [hu] at hs'; simp at hs'; omega
          refine ⟨?_, ?_, ?_, ?_, ?_⟩
          · rw [apX_eq hg, hN]
          · rw [apX_eq hg, hN]
          · rw [rN_stop hs']; unfold apM; rw [hg, hN]; rfl
          · unfold apD; rw [hg, hN, hs']; simp [hl']
          · unfold apE; rw [hg, hN, if_neg (by omega), if_pos rfl, if_pos hl']
        · have hs' : unitK true (rN un i) = true := by simpa using hs
          have hN : i < apN un ys.length := by rw [hu] at hs'; simpa using hs'
          have hw : okWidth 1 (apL 0 0 i x0 ys) := width_of (apL_bytes (by assumption) hy)
          refine ⟨by omega, ⟨by omega, by omega, hw⟩, ⟨by omega, by omega, b1⟩, b2, ⟨by omega, by omega, hw, b4⟩, by omega, (i + 1 : Nat), ⟨?_, ?_⟩, ⟨by omega, by omega⟩, by omega⟩
          · rw [wrap_i64 (by omega) (by omega)]; rfl
          · rw [apL_next rfl hy hl', hs', apL_not (g := 1) (f := 0) (i := i) (j := i + 1) (by omega)]; rfl
      · have hl' : ¬ i < ys.length := by simpa using hl
        have hN : apN un ys.length = i := by omega
        refine ⟨?_, ?_, ?_, ?_, ?_⟩
        · rw [apX_eq hg, hN]
        · rw [apX_eq hg, hN]
        · unfold apM; rw [hg, hN]; rfl
        · unfold apD; rw [hg, hN]; simp; omega
        · unfold apE; rw [hg, hN, if_neg (by omega), if_pos rfl, if_neg hl']
  · refine vcRappI0K1 sz x0 x1 s0 s1 un dn ys ?_
    simp only [true_and, and_true, forall_eq, eq_self]
    have e : mayE 1 dn = if dn then 40 else 0 := by unfold mayE; rw [hf]; rfl
    obtain ⟨-, hy, hyl, hd⟩ := hq
    obtain ⟨h1, h2, h3, h4, h5, h6, h7, h8, h9, h10, h11⟩ := hd
    refine cond_prop (fun h => ?_) fun h => ⟨by omega, by omega, ?_⟩
    · have hm : ¬ mayE 1 dn = 0 := by simpa using h
      have hg : apGo 1 dn sz x0.length x1.length ys.length = false := by unfold apGo; simp [hm]
      refine ⟨apX_no hg, apX_no hg, ?_, ?_, ?_⟩
      · unfold apM; rw [hg]; rfl
      · unfold apD; rw [hg]; simp
      · unfold apE; rw [if_pos hm]
    rw [wrap_i64 (n := sz - (x0.length : Int)) (by omega) (by omega), wrap_i64 (n := sz - (x0.length : Int) - (x1.length : Int)) (by omega) (by omega)]
    have hm : mayE 1 dn = 0 := by simpa using h
    refine cond_prop (fun h' => ?_) fun h' => ?_
    · have hk : ¬ (ys.length : Int) ≤ sz - x0.length - x1.length := by simp at h'; omega
      have hg : apGo 1 dn sz x0.length x1.length ys.length = false := by unfold apGo; simp [hk]
      refine ⟨apX_no hg, apX_no hg, ?_, ?_, ?_⟩
      · unfold apM; rw [hg]; rfl
      · unfold apD; rw [hg]; simp
      · unfold apE; rw [hg, if_neg (by omega)]; rfl
    · have hk : (ys.length : Int) ≤ sz - x0.length - x1.length := by simp at h'; omega
      have hg : apGo 1 dn sz x0.length x1.length ys.length = true := by unfold apGo; simp [hm, hk]
      have hdn : dn = false := by rw [e] at hm; cases dn <;> simp_all
      subst hdn
      have hap := apN_le un ys.length
      refine ⟨⟨(0 : Nat), ⟨rfl, by simp [apL, catL, rN]⟩, Nat.zero_le _, Nat.zero_le _⟩, fun i hi => cond_prop (fun hl => ?_) fun hl => ?_⟩
      · have hl' : i < ys.length := by simpa using hl
        obtain ⟨b1, b2, b3, b4⟩ := take_byte hy hl'
        have hu := runit_more hi.2 hl'
        have hln := apL_len 1 1 i x1 ys hi.1
        rw [if_pos rfl] at hln
        simp only [Int.toNat_natCast]
        refine ⟨rN_range h10 h11 hi.2, cond_prop (fun hs => ?_) fun hs => ?_⟩
        · have hs' : unitK true (rN un i) = false := by simpa using hs
          have hN : apN un ys.length = i := by rw [hu] at hs'; simp at hs'; omega
          refine ⟨?_, ?_, ?_, ?_, ?_⟩
          · rw [apX_eq hg, hN]
          · rw [apX_eq hg, hN]
          · rw [rN_stop hs']; unfold apM; rw [hg, hN]; rfl
          · unfold apD; rw [hg, hN, hs']; simp [hl']
          · unfold apE; rw [hg, hN, if_neg (by omega), if_pos rfl, if_pos hl']
        · have hs' : unitK true (rN un i) = true := by simpa using hs
          have hN : i < apN un ys.length := by rw [hu] at hs'; simpa using hs'
          have hw : okWidth 1 (apL 1 1 i x1 ys) := width_of (apL_bytes (by assumption) hy)
          refine ⟨by omega, ⟨by omega, by omega, hw⟩, ⟨by omega, by omega, b1⟩, b2, ⟨by omega, by omega, hw, b4⟩, by omega, (i + 1 : Nat), ⟨?_, ?_⟩, ⟨by omega, by omega⟩, by omega⟩
          · rw [wrap_i64 (by omega) (by omega)]; rfl
          · rw [apL_next rfl hy hl', hs', apL_not (g := 0) (f := 1) (i := i) (j := i + 1) (by omega)]; rfl
      · have hl' : ¬ i < ys.length := by simpa using hl
        have hN : apN un ys.length = i := by omega
        refine ⟨?_, ?_, ?_, ?_, ?_⟩
        · rw [apX_eq hg, hN]
        · rw [apX_eq hg, hN]
        · unfold apM; rw [hg, hN]; rfl
        · unfold apD; rw [hg, hN]; simp; omega
        · unfold apE; rw [hg, hN, if_neg (by omega), if_pos rfl, if_neg hl']
theorem okRappO0 : OkRappO0 := by
  intro sz x0 x1 s0 s1 un dn f ys hq
  refine vcRappO0 sz x0 x1 s0 s1 un dn f ys ?_
  simp only [true_and, and_true, forall_eq, eq_self]
  have hf := hq.1
  refine ⟨hf, hf, ?_, ?_, ?_, ?_, ?_⟩ <;> simp [apX, apM, apGo, apD, apE, mayE, hf, catL, rN]
theorem okRsyI0 : OkRsyI0 := by
  intro sz x0 x1 s0 s1 un dn f n hq
  have hf : isFile f = true := hq.1
  rcases (isFile_iff f).1 hf with rfl | rfl
  · refine vcRsyI0K0 sz x0 x1 s0 s1 un dn n ?_
    simp only [true_and, and_true, forall_eq, eq_self]
    have e : mayE 0 dn = if dn then 40 else 0 := by unfold mayE; rw [hf]; rfl
    obtain ⟨-, h1, h2, h3, h4, h5, h6, h7, h8, h9, h10, h11⟩ := hq
    unfold syS syD syE syGo
    rw [e]
    cases dn <;> cases hu : unitK true un <;> simp [hu, h10, h11]
  · refine vcRsyI0K1 sz x0 x1 s0 s1 un dn n ?_
    simp only [true_and, and_true, forall_eq, eq_self]
    have e : mayE 1 dn = if dn then 40 else 0 := by unfold mayE; rw [hf]; rfl
    obtain ⟨-, h1, h2, h3, h4, h5, h6, h7, h8, h9, h10, h11⟩ := hq
    unfold syS syD syE syGo
    rw [e]
    cases dn <;> cases hu : unitK true un <;> simp [hu, h10, h11]
theorem okRsyI1 : OkRsyI1 := by
  intro sz x0 x1 s0 s1 un dn f n hq
  have hf : isFile f = true := hq.1
  rcases (isFile_iff f).1 hf with rfl | rfl
  · refine vcRsyI1K0 sz x0 x1 s0 s1 un dn n ?_
    simp only [true_and, and_true, forall_eq, eq_self]
    have e : mayE 0 dn = if dn then 40 else 0 := by unfold mayE; rw [hf]; rfl
    obtain ⟨-, h1, h2, h3, h4, h5, h6, h7, h8, h9, h10, h11⟩ := hq
    have g : trGo 0 n dn x0 x1 = (decide (mayE 0 dn = 0) && decide (0 ≤ n) && decide (n ≤ x0.length)) := rfl
    unfold trX trS trE syD
    rw [g, e]
    cases dn with
    | true => simp
    | false =>
      refine cond_prop (fun h => absurd h (by decide)) fun _ => cond_prop (fun h => ?_) fun h => ?_
      · have hn : ¬ 0 ≤ n := by simpa using h
        simp [hn]
      refine ⟨by omega, cond_prop (fun h' => ?_) fun h' => ?_⟩
      · have hn : ¬ n ≤ x0.length := by simpa using h'
        simp [hn]
      · have hn : 0 ≤ n := by simpa using h
        have hn' : n ≤ x0.length := by simpa using h'
        have hw : okWidth 1 x0 := width_of (by assumption)
        refine ⟨⟨h10, h11⟩, ?_⟩
        cases hu : unitK true un with
        | false => simp [hn, hn', hu]
        | true =>
          simp only [Bool.not_true, cond_false]
          refine ⟨by omega, ⟨⟨hn, hn'⟩, hw⟩, by omega, by omega, cond_prop (fun h3 => ⟨by omega, ?_⟩) fun h3 => ?_⟩
          · have h3' : n < s0 := by simpa using h3
            simp [hn, hn', cutL_zero]; omega
          · have h3' : ¬ n < s0 := by simpa using h3
            simp [hn, hn', cutL_zero]; omega
  · refine vcRsyI1K1 sz x0 x1 s0 s1 un dn n ?_
    simp only [true_and, and_true, forall_eq, eq_self]
    have e : mayE 1 dn = if dn then 40 else 0 := by unfold mayE; rw [hf]; rfl
    obtain ⟨-, h1, h2, h3, h4, h5, h6, h7, h8, h9, h10, h11⟩ := hq
    have g : trGo 1 n dn x0 x1 = (decide (mayE 1 dn = 0) && decide (0 ≤ n) && decide (n ≤ x1.length)) := rfl
    unfold trX trS trE syD
    rw [g, e]
    cases dn with
    | true => simp
    | false =>
      refine cond_prop (fun h => absurd h (by decide)) fun _ => cond_prop (fun h => ?_) fun h => ?_
      · have hn : ¬ 0 ≤ n := by simpa using h
        simp [hn]
      refine ⟨by omega, cond_prop (fun h' => ?_) fun h' => ?_⟩
      · have hn : ¬ n ≤ x1.length := by simpa using h'
        simp [hn]
      · have hn : 0 ≤ n := by simpa using h
        have hn' : n ≤ x1.length := by simpa using h'
        have hw : okWidth 1 x1 := width_of (by assumption)
        refine ⟨⟨h10, h11⟩, ?_⟩
        cases hu : unitK true un with
        | false => simp [hn, hn', hu]
        | true =>
          simp only [Bool.not_true, cond_false]
          refine ⟨by omega, ⟨⟨hn, hn'⟩, hw⟩, by omega, by omega, cond_prop (fun h3 => ⟨by omega, ?_⟩) fun h3 => ?_⟩
          · have h3' : n < s1 := by simpa using h3
            simp [hn, hn', cutL_zero]; omega
          · have h3' : ¬ n < s1 := by simpa using h3
            simp [hn, hn', cutL_zero]; omega
theorem okRsyO0 : OkRsyO0 := by
  intro sz x0 x1 s0 s1 un dn f n hq
  refine vcRsyO0 sz x0 x1 s0 s1 un dn f n ?_
  simp only [true_and, and_true, forall_eq, eq_self]
  have hf := hq.1
  refine ⟨hf, hf, ?_, ?_, ?_, ?_, ?_⟩ <;> simp [syS, syGo, syD, syE, mayE, hf]
theorem okRsyO1 : OkRsyO1 := by
  intro sz x0 x1 s0 s1 un dn f n hq
  refine vcRsyO1 sz x0 x1 s0 s1 un dn f n ?_
  simp only [true_and, and_true, forall_eq, eq_self]
  have hf := hq.1
  refine ⟨hf, hf, ?_, ?_, ?_, ?_, ?_, ?_, ?_⟩ <;> simp [trX, trS, trGo, syD, trE, mayE, hf]
end Go.Proofs.Ytddilmocngedjaa
/- The contracts are met. -/
namespace Go.Proofs.Ytddilmocngedjaa
set_option linter.unusedVariables false
set_option linter.unusedSimpArgs false
open Go.RowKit
theorem sndRnew : Sound Try.prog (lookΓ gamRnew) := sound_of _ fun p hp => by
  simp [gamRnew] at hp
set_option maxHeartbeats 4000000 in
theorem meetsRnew : Meets Try.prog 15 rnewF := by
  refine meets_of_awp (Γ := lookΓ gamRnew) (L := fun _ _ => none) sndRnew mixedOrders Try.func15 rfl Try.call15 ?_
  intro args q r hF hq ho
  unfold rnewF at hF
  split at hF
  · cases hF
    exact ⟨by simp only [List.length_cons, List.length_nil]; decide, okRnew0 _ hq⟩
  · cases hF
theorem sndRmay : Sound Try.prog (lookΓ gamRmay) := sound_of _ fun p hp => by
  simp [gamRmay] at hp
set_option maxHeartbeats 4000000 in
theorem meetsRmay : Meets Try.prog 54 rmayF := by
  refine meets_of_awp (Γ := lookΓ gamRmay) (L := fun _ _ => none) sndRmay mixedOrders Try.func54 rfl Try.call54 ?_
  intro args q r hF hq ho
  unfold rmayF at hF
  split at hF
  · cases hF
    exact ⟨by simp only [List.length_cons, List.length_nil]; decide, okRmay0 _ _ _ _ _ _ _ _ hq⟩
  · cases hF
theorem sndRmayO : Sound Try.prog (lookΓ gamRmayO) := sound_of _ fun p hp => by
  simp [gamRmayO] at hp
set_option maxHeartbeats 4000000 in
theorem meetsRmayO : Meets Try.prog 54 rmayOF := by
  refine meets_of_awp (Γ := lookΓ gamRmayO) (L := fun _ _ => none) sndRmayO mixedOrders Try.func54 rfl Try.call54 ?_
  intro args q r hF hq ho
  unfold rmayOF at hF
  split at hF
  · cases hF
    exact ⟨by simp only [List.length_cons, List.length_nil]; decide, okRmayO0 _ _ _ _ _ _ _ _ hq⟩
  · cases hF
theorem sndRunit : Sound Try.prog (lookΓ gamRunit) := sound_of _ fun p hp => by
  simp [gamRunit] at hp
set_option maxHeartbeats 4000000 in
theorem meetsRunit : Meets Try.prog 55 runitF := by
  refine meets_of_awp (Γ := lookΓ gamRunit) (L := fun _ _ => none) sndRunit mixedOrders Try.func55 rfl Try.call55 ?_
  intro args q r hF hq ho
  unfold runitF at hF
  split at hF
  · cases hF
    exact ⟨by simp only [List.length_cons, List.length_nil]; decide, okRunit0 _ _ _ _ _ _ _ hq⟩
  · cases hF
theorem sndRappI : Sound Try.prog (lookΓ gamRappI) := sound_of _ fun p hp => by
  simp only [gamRappI, List.mem_cons, List.not_mem_nil, or_false] at hp
  rcases hp with rfl | rfl
  · exact meetsRmay.orNil
  · exact meetsRunit.orNil
set_option maxHeartbeats 4000000 in
theorem meetsRappI : Meets Try.prog 38 rappIF := by
  refine meets_of_awp (Γ := lookΓ gamRappI) (L := fun args => match args with | [.val (.agg [.int .i64 sz, .sl x0 .no, .sl x1 .no, .int .i64 s0, .int .i64 s1, .int .i64 un, .bool dn]), .val (.int .i64 f), .val (.sl ys .no)] => lpRappI0 sz x0 x1 s0 s1 un dn f ys | _ => fun _ => none) sndRappI mixedOrders Try.func38 rfl Try.call38 ?_
  intro args q r hF hq ho
  unfold rappIF at hF
  split at hF
  · cases hF
    exact ⟨by simp only [List.length_cons, List.length_nil]; decide, okRappI0 _ _ _ _ _ _ _ _ _ hq⟩
  · cases hF
theorem sndRappO : Sound Try.prog (lookΓ gamRappO) := sound_of _ fun p hp => by
  simp only [gamRappO, List.mem_cons, List.not_mem_nil, or_false] at hp
  subst hp
  exact meetsRmayO.orNil
set_option maxHeartbeats 4000000 in
theorem meetsRappO : Meets Try.prog 38 rappOF := by
  refine meets_of_awp (Γ := lookΓ gamRappO) (L := fun _ _ => none) sndRappO mixedOrders Try.func38 rfl Try.call38 ?_
  intro args q r hF hq ho
  unfold rappOF at hF
  split at hF
  · cases hF
    exact ⟨by simp only [List.length_cons, List.length_nil]; decide, okRappO0 _ _ _ _ _ _ _ _ _ hq⟩
  · cases hF
theorem sndRsyI : Sound Try.prog (lookΓ gamRsyI) := sound_of _ fun p hp => by
  simp only [gamRsyI, List.mem_cons, List.not_mem_nil, or_false] at hp
  rcases hp with rfl | rfl
  · exact meetsRmay.orNil
  · exact meetsRunit.orNil
set_option maxHeartbeats 4000000 in
theorem meetsRsyI : Meets Try.prog 39 rsyIF := by
  refine meets_of_awp (Γ := lookΓ gamRsyI) (L := fun _ _ => none) sndRsyI mixedOrders Try.func39 rfl Try.call39 ?_
  intro args q r hF hq ho
  unfold rsyIF at hF
  split at hF
  · cases hF
    exact ⟨by simp only [List.length_cons, List.length_nil]; decide, okRsyI0 _ _ _ _ _ _ _ _ _ hq⟩
  · cases hF
    exact ⟨by simp only [List.length_cons, List.length_nil]; decide, okRsyI1 _ _ _ _ _ _ _ _ _ hq⟩
  · cases hF
theorem sndRsyO : Sound Try.prog (lookΓ gamRsyO) := sound_of _ fun p hp => by
  simp only [gamRsyO, List.mem_cons, List.not_mem_nil, or_false] at hp
  subst hp
  exact meetsRmayO.orNil
set_option maxHeartbeats 4000000 in
theorem meetsRsyO : Meets Try.prog 39 rsyOF := by
  refine meets_of_awp (Γ := lookΓ gamRsyO) (L := fun _ _ => none) sndRsyO mixedOrders Try.func39 rfl Try.call39 ?_
  intro args q r hF hq ho
  unfold rsyOF at hF
  split at hF
  · cases hF
    exact ⟨by simp only [List.length_cons, List.length_nil]; decide, okRsyO0 _ _ _ _ _ _ _ _ _ hq⟩
  · cases hF
    exact ⟨by simp only [List.length_cons, List.length_nil]; decide, okRsyO1 _ _ _ _ _ _ _ _ _ hq⟩
  · cases hF
end Go.Proofs.Ytddilmocngedjaa
