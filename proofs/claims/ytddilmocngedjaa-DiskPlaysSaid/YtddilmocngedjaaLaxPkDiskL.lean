/- Contracts by content, their conditions, and that they are met: DiskL. -/
import Derived.Test.YtddilmocngedjaaLaxDiskJ
import Derived.Test.YtddilmocngedjaaLaxRefRead
import Derived.Test.YtddilmocngedjaaLaxPkDiskR
/- Contracts by content, and the conditions that their code must meet. -/
namespace Go.Proofs.Ytddilmocngedjaa
set_option linter.unusedVariables false
set_option linter.unusedSimpArgs false
open Go.RowKit
def pX (g k f n : Int) (ys : List AV) (sz : Int) (x0 : List AV) (s0 : Int) (x1 : List AV) (s1 : Int) (ar : Bool) (un : Int) (dn : Bool) : List AV :=
  if k = 1 then apX g f dn sz x0.length x1.length (limD ar un) (if g = 0 then x0 else x1) ys else if k = 3 then trX g f n dn ar un x0 x1 (if g = 0 then x0 else x1) else (if g = 0 then x0 else x1)
def pS (g k f n : Int) (ys : List AV) (sz : Int) (x0 : List AV) (s0 : Int) (x1 : List AV) (s1 : Int) (ar : Bool) (un : Int) (dn : Bool) : Int :=
  if k = 2 then syS g f dn ar un (if g = 0 then s0 else s1) (if g = 0 then x0 else x1).length else if k = 3 then trS g f n dn ar un x0 x1 (if g = 0 then s0 else s1) else (if g = 0 then s0 else s1)
def pA (k : Int) (ar : Bool) : Bool := if k = 4 then true else ar
def pU (k f n : Int) (ys : List AV) (sz : Int) (x0 : List AV) (s0 : Int) (x1 : List AV) (s1 : Int) (ar : Bool) (un : Int) (dn : Bool) : Int :=
  if k = 1 then apU f dn sz x0.length x1.length (limD ar un) un ys.length else if k = 2 then syU (syGo f dn) ar un else if k = 3 then syU (trGo f n dn x0 x1) ar un else if k = 4 then armU n else un
def pD (k f n : Int) (ys : List AV) (sz : Int) (x0 : List AV) (s0 : Int) (x1 : List AV) (s1 : Int) (ar : Bool) (un : Int) (dn : Bool) : Bool :=
  if k = 1 then apD f dn sz x0.length x1.length (limD ar un) ys.length else if k = 2 then syD (syGo f dn) ar un dn else if k = 3 then syD (trGo f n dn x0 x1) ar un dn else dn
def pE (k f n : Int) (ys : List AV) (sz : Int) (x0 : List AV) (s0 : Int) (x1 : List AV) (s1 : Int) (ar : Bool) (un : Int) (dn : Bool) : Int :=
  if k = 1 then apE f dn sz x0.length x1.length (limD ar un) ys.length else if k = 2 then syE f dn ar un else if k = 3 then trE f n dn ar un x0 x1 else 0
def qX (g k f n : Int) (ys : List AV) (zz : Int) (y0 y1 : List AV) (r0 r1 ru : Int) (rd : Bool) : List AV :=
  if k = 1 then apX g f rd zz y0.length y1.length ru (if g = 0 then y0 else y1) ys else if k = 3 then trX g f n rd true ru y0 y1 (if g = 0 then y0 else y1) else (if g = 0 then y0 else y1)
def qS (g k f n : Int) (ys : List AV) (zz : Int) (y0 y1 : List AV) (r0 r1 ru : Int) (rd : Bool) : Int :=
  if k = 2 then syS g f rd true ru (if g = 0 then r0 else r1) (if g = 0 then y0 else y1).length else if k = 3 then trS g f n rd true ru y0 y1 (if g = 0 then r0 else r1) else (if g = 0 then r0 else r1)
def qU (k f n : Int) (ys : List AV) (zz : Int) (y0 y1 : List AV) (r0 r1 ru : Int) (rd : Bool) : Int :=
  if k = 1 then rN ru (apM f rd zz y0.length y1.length ru ys.length) else if k = 2 then (if syGo f rd then rUn ru else ru) else if k = 3 then (if trGo f n rd y0 y1 then rUn ru else ru) else if k = 4 then armU n else ru
def qD (k f n : Int) (ys : List AV) (zz : Int) (y0 y1 : List AV) (r0 r1 ru : Int) (rd : Bool) : Bool :=
  if k = 1 then apD f rd zz y0.length y1.length ru ys.length else if k = 2 then syD (syGo f rd) true ru rd else if k = 3 then syD (trGo f n rd y0 y1) true ru rd else rd
def qE (k f n : Int) (ys : List AV) (zz : Int) (y0 y1 : List AV) (r0 r1 ru : Int) (rd : Bool) : Int :=
  if k = 1 then apE f rd zz y0.length y1.length ru ys.length else if k = 2 then syE f rd true ru else if k = 3 then trE f n rd true ru y0 y1 else 0
def stK (e : AV) : Int := rdInt e 0
def stF (e : AV) : Int := rdInt e 1
def stN (e : AV) : Int := rdInt e 2
def stB (e : AV) : List AV := rdList e 3
def isOps (xs : List AV) : Prop := ∀ i, i < xs.length → okElem 4 xs i ∧ okRead [.int .i64, .int .i64, .int .i64, .sl] (elemAt xs i) 0 ∧ isBytes (stB (elemAt xs i)) ∧ (stB (elemAt xs i)).length ≤ 9223372036854775807 ∧ -9223372036854775808 ≤ stN (elemAt xs i) ∧ stN (elemAt xs i) ≤ 9223372036854775807
structure DkS where
  x0 : List AV
  s0 : Int
  x1 : List AV
  s1 : Int
  ar : Bool
  un : Int
  dn : Bool
def loopOps (ops : List AV) (k0 k1 : Int) : LoopInv :=
  { V := Nat × DkS
    T := fun v => [(0, .sl ops .no), (3, .ptr 3 0), (5, .ptr 17 0), (37, .sl ops .no), (38, .int .i64 (ops.length : Int)), (39, .int .i64 (v.1 : Int))]
    B := fun v => [(3, [.int .i64 k0, .int .i64 k1]), (17, [.int .i64 4096, .sl v.2.x0 (.row 17 1 5), .int .i64 v.2.s0, .sl v.2.x1 (.row 17 3 5), .int .i64 v.2.s1, .bool v.2.ar, .int .i64 v.2.un, .bool v.2.dn])]
    R := fun v => [((17, 1), v.2.x0.length), ((17, 3), v.2.x1.length)]
    inv := fun v => v.1 ≤ ops.length ∧ dkOK 4096 v.2.x0 v.2.s0 v.2.x1 v.2.s1 v.2.ar v.2.un
    mu := fun v => ops.length - v.1 }
def stepF : Con
  | [.box [.int .i64 sz, .sl x0 (.row p q te0), .int .i64 s0, .sl x1 (.row p' q' te1), .int .i64 s1, .bool ar, .int .i64 un, .bool dn], .val (.agg [.int .i64 zz, .sl y0 .no, .sl y1 .no, .int .i64 r0, .int .i64 r1, .int .i64 ru, .bool rd]), .val (.agg [.int .i64 k, .int .i64 f, .int .i64 n, .sl ys .no])] => (if te0 = 5 ∧ te1 = 5 then some (k ≠ 5 ∧ isBytes ys ∧ ys.length ≤ 140737488355328 ∧ dkOK sz x0 s0 x1 s1 ar un ∧ rdOK zz y0 y1 r0 r1 ru, ⟨.tup [.agg [.int .i64 zz, .sl (qX 0 k f n ys zz y0 y1 r0 r1 ru rd) .no, .sl (qX 1 k f n ys zz y0 y1 r0 r1 ru rd) .no, .int .i64 (qS 0 k f n ys zz y0 y1 r0 r1 ru rd), .int .i64 (qS 1 k f n ys zz y0 y1 r0 r1 ru rd), .int .i64 (qU k f n ys zz y0 y1 r0 r1 ru rd), .bool (qD k f n ys zz y0 y1 r0 r1 ru rd)], .bool (pE k f n ys sz x0 s0 x1 s1 ar un dn == qE k f n ys zz y0 y1 r0 r1 ru rd)], (some [.int .i64 sz, .sl (pX 0 k f n ys sz x0 s0 x1 s1 ar un dn) (.row 0 0 5), .int .i64 (pS 0 k f n ys sz x0 s0 x1 s1 ar un dn), .sl (pX 1 k f n ys sz x0 s0 x1 s1 ar un dn) (.row 0 0 5), .int .i64 (pS 1 k f n ys sz x0 s0 x1 s1 ar un dn), .bool (pA k ar), .int .i64 (pU k f n ys sz x0 s0 x1 s1 ar un dn), .bool (pD k f n ys sz x0 s0 x1 s1 ar un dn)]), none⟩) else none)
  | _ => none
def gamStep : List (Nat × Con) := [(26, appF.orNil), (38, rappF.orNil), (21, syncF.orNil), (39, rsyF.orNil), (24, trimF.orNil), (25, armF.orNil)]
def lpStep0 (sz : Int) (x0 : List AV) (s0 : Int) (x1 : List AV) (s1 : Int) (ar : Bool) (un : Int) (dn : Bool) (p q p' q' : Nat) (zz : Int) (y0 y1 : List AV) (r0 r1 ru : Int) (rd : Bool) (k f n : Int) (ys : List AV) : Nat → Option LoopPlan := fun _ => none
def inStep0 (sz : Int) (x0 : List AV) (s0 : Int) (x1 : List AV) (s1 : Int) (ar : Bool) (un : Int) (dn : Bool) (p q p' q' : Nat) (zz : Int) (y0 y1 : List AV) (r0 r1 ru : Int) (rd : Bool) (k f n : Int) (ys : List AV) : Prop := awp [0] (lpStep0 sz x0 s0 x1 s1 ar un dn p q p' q' zz y0 y1 r0 r1 ru rd k f n ys) (lookΓ gamStep) Try.prog Try.f14.ntmps 0 (Try.f14.body.getD .skip) (entrySt [.box [.int .i64 sz, .sl x0 (.row p q 5), .int .i64 s0, .sl x1 (.row p' q' 5), .int .i64 s1, .bool ar, .int .i64 un, .bool dn], .val (.agg [.int .i64 zz, .sl y0 .no, .sl y1 .no, .int .i64 r0, .int .i64 r1, .int .i64 ru, .bool rd]), .val (.agg [.int .i64 k, .int .i64 f, .int .i64 n, .sl ys .no])]) (exitQ Try.prog Try.f14.results.toList [0] ⟨.tup [.agg [.int .i64 zz, .sl (qX 0 k f n ys zz y0 y1 r0 r1 ru rd) .no, .sl (qX 1 k f n ys zz y0 y1 r0 r1 ru rd) .no, .int .i64 (qS 0 k f n ys zz y0 y1 r0 r1 ru rd), .int .i64 (qS 1 k f n ys zz y0 y1 r0 r1 ru rd), .int .i64 (qU k f n ys zz y0 y1 r0 r1 ru rd), .bool (qD k f n ys zz y0 y1 r0 r1 ru rd)], .bool (pE k f n ys sz x0 s0 x1 s1 ar un dn == qE k f n ys zz y0 y1 r0 r1 ru rd)], (some [.int .i64 sz, .sl (pX 0 k f n ys sz x0 s0 x1 s1 ar un dn) (.row 0 0 5), .int .i64 (pS 0 k f n ys sz x0 s0 x1 s1 ar un dn), .sl (pX 1 k f n ys sz x0 s0 x1 s1 ar un dn) (.row 0 0 5), .int .i64 (pS 1 k f n ys sz x0 s0 x1 s1 ar un dn), .bool (pA k ar), .int .i64 (pU k f n ys sz x0 s0 x1 s1 ar un dn), .bool (pD k f n ys sz x0 s0 x1 s1 ar un dn)]), none⟩)
def OkStep0 : Prop := ∀ (sz : Int) (x0 : List AV) (s0 : Int) (x1 : List AV) (s1 : Int) (ar : Bool) (un : Int) (dn : Bool) (p q p' q' : Nat) (zz : Int) (y0 y1 : List AV) (r0 r1 ru : Int) (rd : Bool) (k f n : Int) (ys : List AV), k ≠ 5 ∧ isBytes ys ∧ ys.length ≤ 140737488355328 ∧ dkOK sz x0 s0 x1 s1 ar un ∧ rdOK zz y0 y1 r0 r1 ru → inStep0 sz x0 s0 x1 s1 ar un dn p q p' q' zz y0 y1 r0 r1 ru rd k f n ys
def anchor13F : Con
  | [] => (some (True, ⟨.bool true, none, none⟩))
  | _ => none
def gamAnchor13 : List (Nat × Con) := [(13 + 36864, newF.orNil), (13 + 122880, newZF.orNil), (25, armF.orNil), (26, appF.orNil), (16, readF.orNil), (18, crashNF.orNil), (20, downF.orNil)]
def lpAnchor130  : Nat → Option LoopPlan := fun _ => none
def inAnchor130  : Prop := awp [] (lpAnchor130) (lookΓ gamAnchor13) Try.prog Try.f12.ntmps 0 (Try.f12.body.getD .skip) (entrySt []) (exitQ Try.prog Try.f12.results.toList [] ⟨.bool true, none, none⟩)
def OkAnchor130 : Prop := True → inAnchor130
def lawCrashesF : Con
  | [.val (.sl ops .no), .val (.agg [.int .i64 k0, .int .i64 k1])] => (some (isOps ops, ⟨.bool true, none, none⟩))
  | _ => none
def gamLawCrashes : List (Nat × Con) := [(12, anchor13F.orNil), (13, newF.orNil), (15, rnewF.orNil), (14, stepF.orNil), (16, readF.orNil), (17, safeF.orNil), (18, crashNF.orNil), (19, sameDF.orNil), (20, downF.orNil), (21, syncF.orNil)]
def lpLawCrashes0 (ops : List AV) (k0 k1 : Int) : Nat → Option LoopPlan := fun b => bif Nat.beq b 0 then some (.inv [] (loopOps ops k0 k1)) else bif Nat.beq b 2 then some (.unroll [] 3) else bif Nat.beq b 4 then some (.unroll [] 3) else none
def inLawCrashes0 (ops : List AV) (k0 k1 : Int) : Prop := awp [] (lpLawCrashes0 ops k0 k1) (lookΓ gamLawCrashes) Try.prog Try.f4.ntmps 0 (Try.f4.body.getD .skip) (entrySt [.val (.sl ops .no), .val (.agg [.int .i64 k0, .int .i64 k1])]) (exitQ Try.prog Try.f4.results.toList [] ⟨.bool true, none, none⟩)
def OkLawCrashes0 : Prop := ∀ (ops : List AV) (k0 k1 : Int), isOps ops → inLawCrashes0 ops k0 k1
end Go.Proofs.Ytddilmocngedjaa
/- What the verification conditions come to: printed by a program of ours (wip/lax/ex/Norm.lean). -/
namespace Go.Proofs.Ytddilmocngedjaa
set_option linter.unusedVariables false
open Go.RowKit
set_option maxRecDepth 100000
theorem vcStep0 (sz : Int) (x0 : (List AV)) (s0 : Int) (x1 : (List AV)) (s1 : Int) (ar : Bool) (un : Int) (dn : Bool) (p : Nat) (q : Nat) (p' : Nat) (q' : Nat) (zz : Int) (y0 : (List AV)) (y1 : (List AV)) (r0 : Int) (r1 : Int) (ru : Int) (rd : Bool) (k : Int) (f : Int) (n : Int) (ys : (List AV)) (h : let q0 := (apE f rd zz (List.length y0) (List.length y1) ru (List.length ys)); let q1 := (List.length x0); let q2 := (List.length x1); let q3 := (pX 0 k f n ys sz x0 s0 x1 s1 ar un dn); let q4 := (pS 0 k f n ys sz x0 s0 x1 s1 ar un dn); let q5 := (pX 1 k f n ys sz x0 s0 x1 s1 ar un dn); let q6 := (pS 1 k f n ys sz x0 s0 x1 s1 ar un dn); let q7 := (pU k f n ys sz x0 s0 x1 s1 ar un dn); let q8 := (pD k f n ys sz x0 s0 x1 s1 ar un dn); let q9 := (pE k f n ys sz x0 s0 x1 s1 ar un dn); let q10 := (qX 0 k f n ys zz y0 y1 r0 r1 ru rd); let q11 := (qX 1 k f n ys zz y0 y1 r0 r1 ru rd); let q12 := (qS 0 k f n ys zz y0 y1 r0 r1 ru rd); let q13 := (qS 1 k f n ys zz y0 y1 r0 r1 ru rd); let q14 := (qU k f n ys zz y0 y1 r0 r1 ru rd); let q15 := (qD k f n ys zz y0 y1 r0 r1 ru rd); let q16 := (trE f n rd true ru y0 y1); let q17 := (syE f rd true ru); let q18 := (List.length ys); let w0_x := (q1 = q1 ∧ q2 = q2 ∧ True); let w1_x := (List.length y0); let w2_x := (List.length y1); (tt ∧ T1 ∧ T1 ∧ T1 ∧ T1 ∧ tt ∧ T1 ∧ T1 ∧ tt ∧ T1 ∧ tt ∧ tt ∧ T1 ∧ T1 ∧ (bif (k == 1) then (tt ∧ T1 ∧ T1 ∧ tt ∧ T1 ∧ tt ∧ (w0_x ∧ (isBytes ys) ∧ (dkOK sz x0 s0 x1 s1 ar un)) ∧ ∀ v0 : Int, (v0 = (apE f dn sz q1 q2 (limD ar un) q18)) → ∀ v2 : Int, (v2 = sz) → ∀ v4 : (List AV), (v4 = (apX 0 f dn sz q1 q2 (limD ar un) x0 ys)) → ∀ v6 : Int, (v6 = s0) → ∀ v8 : (List AV), (v8 = (apX 1 f dn sz q1 q2 (limD ar un) x1 ys)) → ∀ v10 : Int, (v10 = s1) → ∀ v12 : Int, (v12 = (apU f dn sz q1 q2 (limD ar un) un q18)) → ∀ v14 : Nat, (v14 = (List.length (apX 0 f dn sz q1 q2 (limD ar un) x0 ys))) → ∀ v16 : Nat, (v16 = (List.length (apX 1 f dn sz q1 q2 (limD ar un) x1 ys))) → T1 ∧ tt ∧ tt ∧ T1 ∧ tt ∧ T1 ∧ tt ∧ (T1 ∧ (isBytes ys) ∧ q18 ≤ 140737488355328 ∧ (rdOK zz y0 y1 r0 r1 ru)) ∧ ∀ v18 : Int, (v18 = zz) → ∀ v20 : (List AV), (v20 = (apX 0 f rd zz w1_x w2_x ru y0 ys)) → ∀ v22 : (List AV), (v22 = (apX 1 f rd zz w1_x w2_x ru y1 ys)) → ∀ v24 : Int, (v24 = r0) → ∀ v26 : Int, (v26 = r1) → ∀ v28 : Int, (v28 = (rN ru (apM f rd zz w1_x w2_x ru q18))) → ∀ v30 : Int, (v30 = q0) → T1 ∧ T1 ∧ T1 ∧ tt ∧ T1 ∧ tt ∧ tt ∧ T1 ∧ T1 ∧ T1 ∧ tt ∧ T1 ∧ tt ∧ tt ∧ (sz = v2 ∧ (0 < 1 ∧ q3 = v4 ∧ v14 = (List.length v4)) ∧ q4 = v6 ∧ (0 < 1 ∧ q5 = v8 ∧ v16 = (List.length v8)) ∧ q6 = v10 ∧ (pA k ar) = ar ∧ q7 = v12 ∧ q8 = (apD f dn sz q1 q2 (limD ar un) q18) ∧ zz = v18 ∧ q10 = v20 ∧ q11 = v22 ∧ q12 = v24 ∧ q13 = v26 ∧ q14 = v28 ∧ q15 = (apD f rd zz w1_x w2_x ru q18) ∧ (q9 == (@ite.{1} Int (k = 1) (@Int.instDecidableEq k (1 : Int)) q0 (@ite.{1} Int (k = 2) (@Int.instDecidableEq k (2 : Int)) q17 (@ite.{1} Int (k = 3) (@Int.instDecidableEq k (3 : Int)) q16 (0 : Int))))) = (v0 == v30) ∧ True) ∧ tt) else (tt ∧ T1 ∧ T1 ∧ (bif (k == 2) then (tt ∧ T1 ∧ T1 ∧ tt ∧ (w0_x ∧ True) ∧ ∀ v0 : Int, (v0 = (syE f dn ar un)) → ∀ v2 : Int, (v2 = sz) → ∀ v4 : (List AV), (v4 = x0) → ∀ v6 : Int, (v6 = (syS 0 f dn ar un s0 q1)) → ∀ v8 : (List AV), (v8 = x1) → ∀ v10 : Int, (v10 = (syS 1 f dn ar un s1 q2)) → ∀ v12 : Int, (v12 = (syU (syGo f dn) ar un)) → ∀ v14 : Nat, (v14 = q1) → ∀ v16 : Nat, (v16 = q2) → T1 ∧ tt ∧ tt ∧ T1 ∧ tt ∧ (T1 ∧ (rdOK zz y0 y1 r0 r1 ru)) ∧ ∀ v18 : Int, (v18 = zz) → ∀ v20 : (List AV), (v20 = y0) → ∀ v22 : (List AV), (v22 = y1) → ∀ v24 : Int, (v24 = (syS 0 f rd true ru r0 w1_x)) → ∀ v26 : Int, (v26 = (syS 1 f rd true ru r1 w2_x)) → ∀ v28 : Int, (v28 = (@ite.{1} Int ((syGo f rd) = true) (@instDecidableEqBool (syGo f rd) true) (rUn ru) ru)) → ∀ v30 : Int, (v30 = q17) → T1 ∧ T1 ∧ T1 ∧ tt ∧ T1 ∧ tt ∧ tt ∧ T1 ∧ T1 ∧ T1 ∧ tt ∧ T1 ∧ tt ∧ tt ∧ (sz = v2 ∧ (0 < 1 ∧ q3 = v4 ∧ v14 = (List.length v4)) ∧ q4 = v6 ∧ (0 < 1 ∧ q5 = v8 ∧ v16 = (List.length v8)) ∧ q6 = v10 ∧ (pA k ar) = ar ∧ q7 = v12 ∧ q8 = (syD (syGo f dn) ar un dn) ∧ zz = v18 ∧ q10 = v20 ∧ q11 = v22 ∧ q12 = v24 ∧ q13 = v26 ∧ q14 = v28 ∧ q15 = (syD (syGo f rd) true ru rd) ∧ (q9 == (@ite.{1} Int (k = 1) (@Int.instDecidableEq k (1 : Int)) q0 (@ite.{1} Int (k = 2) (@Int.instDecidableEq k (2 : Int)) q17 (@ite.{1} Int (k = 3) (@Int.instDecidableEq k (3 : Int)) q16 (0 : Int))))) = (v0 == v30) ∧ True) ∧ tt) else (tt ∧ T1 ∧ T1 ∧ (bif (k == 3) then (tt ∧ T1 ∧ T1 ∧ tt ∧ T1 ∧ tt ∧ (w0_x ∧ (dkOK sz x0 s0 x1 s1 ar un)) ∧ ∀ v0 : Int, (v0 = (trE f n dn ar un x0 x1)) → ∀ v2 : Int, (v2 = sz) → ∀ v4 : (List AV), (v4 = (trX 0 f n dn ar un x0 x1 x0)) → ∀ v6 : Int, (v6 = (trS 0 f n dn ar un x0 x1 s0)) → ∀ v8 : (List AV), (v8 = (trX 1 f n dn ar un x0 x1 x1)) → ∀ v10 : Int, (v10 = (trS 1 f n dn ar un x0 x1 s1)) → ∀ v12 : Int, (v12 = (syU (trGo f n dn x0 x1) ar un)) → ∀ v14 : Nat, (v14 = (List.length (trX 0 f n dn ar un x0 x1 x0))) → ∀ v16 : Nat, (v16 = (List.length (trX 1 f n dn ar un x0 x1 x1))) → T1 ∧ tt ∧ tt ∧ T1 ∧ tt ∧ T1 ∧ tt ∧ (T1 ∧ (rdOK zz y0 y1 r0 r1 ru)) ∧ ∀ v18 : Int, (v18 = zz) → ∀ v20 : (List AV), (v20 = (trX 0 f n rd true ru y0 y1 y0)) → ∀ v22 : (List AV), (v22 = (trX 1 f n rd true ru y0 y1 y1)) → ∀ v24 : Int, (v24 = (trS 0 f n rd true ru y0 y1 r0)) → ∀ v26 : Int, (v26 = (trS 1 f n rd true ru y0 y1 r1)) → ∀ v28 : Int, (v28 = (@ite.{1} Int ((trGo f n rd y0 y1) = true) (@instDecidableEqBool (trGo f n rd y0 y1) true) (rUn ru) ru)) → ∀ v30 : Int, (v30 = q16) → T1 ∧ T1 ∧ T1 ∧ tt ∧ T1 ∧ tt ∧ tt ∧ T1 ∧ T1 ∧ T1 ∧ tt ∧ T1 ∧ tt ∧ tt ∧ (sz = v2 ∧ (0 < 1 ∧ q3 = v4 ∧ v14 = (List.length v4)) ∧ q4 = v6 ∧ (0 < 1 ∧ q5 = v8 ∧ v16 = (List.length v8)) ∧ q6 = v10 ∧ (pA k ar) = ar ∧ q7 = v12 ∧ q8 = (syD (trGo f n dn x0 x1) ar un dn) ∧ zz = v18 ∧ q10 = v20 ∧ q11 = v22 ∧ q12 = v24 ∧ q13 = v26 ∧ q14 = v28 ∧ q15 = (syD (trGo f n rd y0 y1) true ru rd) ∧ (q9 == (@ite.{1} Int (k = 1) (@Int.instDecidableEq k (1 : Int)) q0 (@ite.{1} Int (k = 2) (@Int.instDecidableEq k (2 : Int)) q17 (@ite.{1} Int (k = 3) (@Int.instDecidableEq k (3 : Int)) q16 (0 : Int))))) = (v0 == v30) ∧ True) ∧ tt) else (tt ∧ T1 ∧ T1 ∧ (bif (k == 4) then (tt ∧ T1 ∧ T1 ∧ tt ∧ (w0_x ∧ True) ∧ ∀ v0 : Int, (v0 = sz) → ∀ v2 : (List AV), (v2 = x0) → ∀ v4 : Int, (v4 = s0) → ∀ v6 : (List AV), (v6 = x1) → ∀ v8 : Int, (v8 = s1) → ∀ v10 : Int, (v10 = (armU n)) → ∀ v12 : Nat, (v12 = q1) → ∀ v14 : Nat, (v14 = q2) → tt ∧ T1 ∧ tt ∧ T1 ∧ T1 ∧ tt ∧ tt ∧ tt ∧ T1 ∧ T1 ∧ T1 ∧ tt ∧ T1 ∧ tt ∧ tt ∧ (sz = v0 ∧ (0 < 1 ∧ q3 = v2 ∧ v12 = (List.length v2)) ∧ q4 = v4 ∧ (0 < 1 ∧ q5 = v6 ∧ v14 = (List.length v6)) ∧ q6 = v8 ∧ (pA k ar) = true ∧ q7 = v10 ∧ q8 = dn ∧ zz = zz ∧ q10 = y0 ∧ q11 = y1 ∧ q12 = r0 ∧ q13 = r1 ∧ q14 = (@ite.{1} Int (n < 0) (Int.decLt n 0) (0 : Int) n) ∧ q15 = rd ∧ (q9 == (@ite.{1} Int (k = 1) (@Int.instDecidableEq k (1 : Int)) q0 (@ite.{1} Int (k = 2) (@Int.instDecidableEq k (2 : Int)) q17 (@ite.{1} Int (k = 3) (@Int.instDecidableEq k (3 : Int)) q16 (0 : Int))))) = true ∧ True) ∧ tt) else (tt ∧ T1 ∧ T1 ∧ (bif (k == 5) then (tt ∧ T1 ∧ T1 ∧ tt ∧ T1 ∧ tt ∧ T1 ∧ False) else (tt ∧ tt ∧ T1 ∧ T1 ∧ T1 ∧ tt ∧ T1 ∧ tt ∧ tt ∧ (sz = sz ∧ (0 < 1 ∧ q3 = x0 ∧ q1 = q1) ∧ q4 = s0 ∧ (0 < 1 ∧ q5 = x1 ∧ q2 = q2) ∧ q6 = s1 ∧ (pA k ar) = ar ∧ q7 = un ∧ q8 = dn ∧ zz = zz ∧ q10 = y0 ∧ q11 = y1 ∧ q12 = r0 ∧ q13 = r1 ∧ q14 = ru ∧ q15 = rd ∧ (q9 == (@ite.{1} Int (k = 1) (@Int.instDecidableEq k (1 : Int)) q0 (@ite.{1} Int (k = 2) (@Int.instDecidableEq k (2 : Int)) q17 (@ite.{1} Int (k = 3) (@Int.instDecidableEq k (3 : Int)) q16 (0 : Int))))) = true ∧ True) ∧ tt)))))))))))) : inStep0 sz x0 s0 x1 s1 ar un dn p q p' q' zz y0 y1 r0 r1 ru rd k f n ys :=
  Eq.mp (show _ = _ by kernel_rfl) h
theorem vcAnchor130 (h : let w0_x := [(AV.int IntKind.u8 1), (AV.int IntKind.u8 2), (AV.int IntKind.u8 3)]; let w3_x := (true = false ∧ True); (tt ∧ T1 ∧ tt ∧ (T1 ∧ (1024 : Int) ≤ (1024 : Int) ∧ (1024 : Int) ≤ (4194304 : Int)) ∧ ∀ v0 : Int, (v0 = 0) → ∀ v2 : Int, (v2 = 1024) → ∀ v4 : (List AV), (v4 = []) → ∀ v6 : Int, (v6 = 0) → ∀ v8 : (List AV), (v8 = []) → ∀ v10 : Int, (v10 = 0) → ∀ v12 : Int, (v12 = 0) → ∀ v14 : Nat, (v14 = 0) → ∀ v16 : Nat, (v16 = 0) → T1 ∧ T1 ∧ T1 ∧ T1 ∧ T1 ∧ tt ∧ T1 ∧ T1 ∧ T1 ∧ (bif (v0 != 0) then (tt ∧ tt ∧ T1 ∧ tt ∧ tt ∧ w3_x ∧ tt) else (T1 ∧ T1 ∧ T1 ∧ tt ∧ T1 ∧ ((v14 = (List.length v4) ∧ v16 = (List.length v8) ∧ True) ∧ True) ∧ ∀ v18 : Int, (v18 = v2) → ∀ v20 : (List AV), (v20 = v4) → ∀ v22 : Int, (v22 = v6) → ∀ v24 : (List AV), (v24 = v8) → ∀ v26 : Int, (v26 = v10) → ∀ v28 : Int, let w1_28 := (apX 0 0 false v18 (List.length v20) (List.length v24) (limD true v28) v20 w0_x); let w2_28 := (apX 1 0 false v18 (List.length v20) (List.length v24) (limD true v28) v24 w0_x); (v28 = 2) → ∀ v30 : Nat, (v30 = (List.length v4)) → ∀ v32 : Nat, (v32 = (List.length v8)) → tt ∧ T1 ∧ T1 ∧ ((v30 = (List.length v20) ∧ v32 = (List.length v24) ∧ True) ∧ (isBytes w0_x) ∧ (dkOK v18 v20 v22 v24 v26 true v28)) ∧ ∀ v34 : Int, (v34 = (apE 0 false v18 (List.length v20) (List.length v24) (limD true v28) 3)) → ∀ v36 : Int, (v36 = v18) → ∀ v38 : (List AV), (v38 = w1_28) → ∀ v40 : Int, (v40 = v22) → ∀ v42 : (List AV), (v42 = w2_28) → ∀ v44 : Int, (v44 = v26) → ∀ v46 : Int, (v46 = (apU 0 false v18 (List.length v20) (List.length v24) (limD true v28) v28 3)) → ∀ v48 : Nat, (v48 = (List.length w1_28)) → ∀ v50 : Nat, (v50 = (List.length w2_28)) → T1 ∧ tt ∧ T1 ∧ ((v48 = (List.length v38) ∧ v50 = (List.length v42) ∧ True) ∧ (isBytes v38) ∧ (isBytes v42) ∧ (List.length v38) ≤ 140737488355328 ∧ (List.length v42) ≤ 140737488355328) ∧ ∀ v52 : (List AV), (v52 = (rd2 0 v38 v42)) → ∀ v54 : Int, (v54 = v36) → ∀ v56 : (List AV), (v56 = v38) → ∀ v58 : Int, (v58 = v40) → ∀ v60 : (List AV), (v60 = v42) → ∀ v62 : Int, (v62 = v44) → ∀ v64 : Int, (v64 = v46) → ∀ v66 : Nat, (v66 = (List.length v38)) → ∀ v68 : Nat, (v68 = (List.length v42)) → T1 ∧ T1 ∧ tt ∧ T1 ∧ T1 ∧ ((v66 = (List.length v56) ∧ v68 = (List.length v60) ∧ True) ∧ (dkOK v54 v56 v58 v60 v62 true v64)) ∧ ∀ v70 : Int, (v70 = v54) → ∀ v72 : (List AV), (v72 = (crX v56 v58 1)) → ∀ v74 : Int, (v74 = (crS v58 (List.length v56) 1)) → ∀ v76 : (List AV), (v76 = (crX v60 v62 0)) → ∀ v78 : Int, (v78 = (crS v62 (List.length v60) 0)) → ∀ v80 : Int, (v80 = 0) → tt ∧ (T1 ∧ (Or ((1 : Int) < (1024 : Int)) ((4194304 : Int) < (1 : Int)))) ∧ ∀ v82 : Int, (v82 = 11) → T1 ∧ T1 ∧ T1 ∧ T1 ∧ T1 ∧ tt ∧ T1 ∧ T1 ∧ T1 ∧ (bif (v34 == 40) then (T1 ∧ T1 ∧ T1 ∧ T1 ∧ (bif (((List.length v52) : Int) == 2) then (T1 ∧ (T1 ∧ (isBytes v72) ∧ (isBytes v76) ∧ (List.length v72) ≤ 140737488355328 ∧ (List.length v76) ≤ 140737488355328) ∧ ∀ v84 : (List AV), (v84 = (rd2 0 v72 v76)) → ∀ v86 : Int, (v86 = v70) → ∀ v88 : (List AV), (v88 = v72) → ∀ v90 : Int, (v90 = v74) → ∀ v92 : (List AV), (v92 = v76) → ∀ v94 : Int, (v94 = v78) → ∀ v96 : Int, (v96 = v80) → T1 ∧ T1 ∧ T1 ∧ T1 ∧ (bif (((List.length v84) : Int) == 1) then (T1 ∧ (T1 ∧ True) ∧ ∀ v98 : Int, (v98 = v86) → ∀ v100 : (List AV), (v100 = v88) → ∀ v102 : Int, (v102 = v90) → ∀ v104 : (List AV), (v104 = v92) → ∀ v106 : Int, (v106 = v94) → ∀ v108 : Int, (v108 = v96) → T1 ∧ T1 ∧ T1 ∧ T1 ∧ T1 ∧ T1 ∧ T1 ∧ tt ∧ tt ∧ (true = (v82 == 11) ∧ True) ∧ tt) else (false = false ∧ T1 ∧ false = false ∧ T1 ∧ tt ∧ tt ∧ w3_x ∧ tt))) else (false = false ∧ T1 ∧ false = false ∧ T1 ∧ false = false ∧ T1 ∧ tt ∧ tt ∧ w3_x ∧ tt))) else (false = false ∧ T1 ∧ false = false ∧ T1 ∧ false = false ∧ T1 ∧ false = false ∧ T1 ∧ tt ∧ tt ∧ w3_x ∧ tt)))))) : inAnchor130 :=
  Eq.mp (show _ = _ by kernel_rfl) h
theorem vcLawCrashes0 (ops : (List AV)) (k0 : Int) (k1 : Int) (h : let q0 := (List.length ops); let q1 := (Own.row 17 1 5); let q2 := (Own.row 17 3 5); let w0_x := [(AV.int IntKind.i64 k0), (AV.int IntKind.i64 k1)]; let w2_x := ((0 : Int) ≤ (0 : Int) ∧ (0 : Int) < (2 : Int)); let w3_x := ((0 : Int) ≤ (1 : Int) ∧ (1 : Int) < (2 : Int)); let w8_x := (tt ∧ tt); let w9_x := (true = false ∧ True); let w4_x := (tt ∧ T1 ∧ tt ∧ T1 ∧ tt ∧ tt ∧ T1 ∧ tt ∧ tt ∧ w9_x ∧ tt); let w7_x := (tt ∧ T1 ∧ tt ∧ tt ∧ T1 ∧ tt ∧ tt ∧ w9_x ∧ tt); let w10_x := (tt ∧ tt ∧ T1 ∧ tt ∧ tt ∧ w9_x ∧ tt); let w13_x := (tt ∧ T1 ∧ tt ∧ tt ∧ w9_x ∧ tt); (tt ∧ T1 ∧ T1 ∧ tt ∧ (T1 ∧ True) ∧ T1 ∧ tt ∧ (T1 ∧ (1024 : Int) ≤ (4096 : Int) ∧ (4096 : Int) ≤ (4194304 : Int)) ∧ ∀ v0 : Int, let w1_0 := (bif (v0 == 0) then (T1 ∧ T1 ∧ T1 ∧ T1 ∧ tt ∧ tt ∧ (tt ∧ True) ∧ tt) else (false = false ∧ T1 ∧ tt ∧ tt ∧ w9_x ∧ tt)); (v0 = 0) → ∀ v2 : Int, (v2 = 4096) → ∀ v4 : (List AV), (v4 = []) → ∀ v6 : Int, (v6 = 0) → ∀ v8 : (List AV), (v8 = []) → ∀ v10 : Int, (v10 = 0) → ∀ v12 : Int, (v12 = 0) → ∀ v14 : Nat, (v14 = 0) → ∀ v16 : Nat, (v16 = 0) → T1 ∧ T1 ∧ T1 ∧ T1 ∧ T1 ∧ tt ∧ T1 ∧ T1 ∧ T1 ∧ (bif (v0 != 0) then (tt ∧ T1 ∧ tt ∧ tt ∧ T1 ∧ T1 ∧ T1 ∧ w1_0) else (T1 ∧ T1 ∧ T1 ∧ T1 ∧ T1 ∧ T1 ∧ T1 ∧ T1 ∧ (bif (decide ((40 : Int) < (q0 : Int))) then (tt ∧ T1 ∧ T1 ∧ T1 ∧ w1_0) else (tt ∧ T1 ∧ T1 ∧ T1 ∧ (@Exists.{1} (loopOps ops k0 k1).V (fun (v18 : (@Prod.{0, 0} Nat DkS)) => ((((AV.sl ops Own.no) = (AV.sl ops Own.no) ∧ (AV.ptr 3 0) = (AV.ptr 3 0) ∧ (AV.ptr 17 0) = (AV.ptr 17 0) ∧ (AV.sl ops Own.no) = (AV.sl ops Own.no) ∧ (AV.int IntKind.i64 (q0 : Int)) = (AV.int IntKind.i64 (q0 : Int)) ∧ (AV.int IntKind.i64 0) = (AV.int IntKind.i64 (v18.1 : Int)) ∧ True) ∧ ((@Option.some.{0} (List AV) w0_x) = (@Option.some.{0} (List AV) w0_x) ∧ (@Option.some.{0} (List AV) [(AV.int IntKind.i64 v2), (AV.sl v4 q1), (AV.int IntKind.i64 v6), (AV.sl v8 q2), (AV.int IntKind.i64 v10), (AV.bool false), (AV.int IntKind.i64 v12), (AV.bool false)]) = (@Option.some.{0} (List AV) [(AV.int IntKind.i64 4096), (AV.sl v18.2.x0 q1), (AV.int IntKind.i64 v18.2.s0), (AV.sl v18.2.x1 q2), (AV.int IntKind.i64 v18.2.s1), (AV.bool v18.2.ar), (AV.int IntKind.i64 v18.2.un), (AV.bool v18.2.dn)]) ∧ True) ∧ (v14 = (List.length v18.2.x0) ∧ v16 = (List.length v18.2.x1) ∧ True) ∧ tt ∧ tt) ∧ v18.1 ≤ q0 ∧ (dkOK 4096 v18.2.x0 v18.2.s0 v18.2.x1 v18.2.s1 v18.2.ar v18.2.un)))) ∧ ∀ v18 : (@Prod.{0, 0} Nat DkS), (v18.1 ≤ q0 ∧ (dkOK 4096 v18.2.x0 v18.2.s0 v18.2.x1 v18.2.s1 v18.2.ar v18.2.un)) → tt ∧ T1 ∧ (bif (decide ((v18.1 : Int) < (q0 : Int))) then (tt ∧ ((0 : Int) ≤ (v18.1 : Int) ∧ (v18.1 : Int) < (q0 : Int) ∧ (okElem 4 ops (Int.toNat (v18.1 : Int)))) ∧ (okRead [(Kd.int IntKind.i64), (Kd.int IntKind.i64), (Kd.int IntKind.i64), Kd.sl] (elemAt ops (Int.toNat (v18.1 : Int))) 0) ∧ T1 ∧ tt ∧ tt ∧ T1 ∧ tt ∧ T1 ∧ T1 ∧ (bif ((rdInt (elemAt ops (Int.toNat (v18.1 : Int))) 0) == 5) then (tt ∧ tt ∧ T1 ∧ T1 ∧ (@Exists.{1} (loopOps ops k0 k1).V (fun (v20 : (@Prod.{0, 0} Nat DkS)) => ((((AV.sl ops Own.no) = (AV.sl ops Own.no) ∧ (AV.ptr 3 0) = (AV.ptr 3 0) ∧ (AV.ptr 17 0) = (AV.ptr 17 0) ∧ (AV.sl ops Own.no) = (AV.sl ops Own.no) ∧ (AV.int IntKind.i64 (q0 : Int)) = (AV.int IntKind.i64 (q0 : Int)) ∧ (AV.int IntKind.i64 (IntKind.wrap IntKind.i64 ((v18.1 : Int) + (1 : Int)))) = (AV.int IntKind.i64 (v20.1 : Int)) ∧ True) ∧ ((@Option.some.{0} (List AV) w0_x) = (@Option.some.{0} (List AV) w0_x) ∧ (@Option.some.{0} (List AV) [(AV.int IntKind.i64 4096), (AV.sl v18.2.x0 q1), (AV.int IntKind.i64 v18.2.s0), (AV.sl v18.2.x1 q2), (AV.int IntKind.i64 v18.2.s1), (AV.bool v18.2.ar), (AV.int IntKind.i64 v18.2.un), (AV.bool v18.2.dn)]) = (@Option.some.{0} (List AV) [(AV.int IntKind.i64 4096), (AV.sl v20.2.x0 q1), (AV.int IntKind.i64 v20.2.s0), (AV.sl v20.2.x1 q2), (AV.int IntKind.i64 v20.2.s1), (AV.bool v20.2.ar), (AV.int IntKind.i64 v20.2.un), (AV.bool v20.2.dn)]) ∧ True) ∧ ((List.length v18.2.x0) = (List.length v20.2.x0) ∧ (List.length v18.2.x1) = (List.length v20.2.x1) ∧ True) ∧ tt ∧ tt) ∧ (v20.1 ≤ q0 ∧ (dkOK 4096 v20.2.x0 v20.2.s0 v20.2.x1 v20.2.s1 v20.2.ar v20.2.un)) ∧ (q0 - v20.1) < (q0 - v18.1))))) else (T1 ∧ tt ∧ T1 ∧ T1 ∧ T1 ∧ (bif (decide ((5000 : Int) < ((List.length (rdList (elemAt ops (Int.toNat (v18.1 : Int))) 3)) : Int))) then (tt ∧ T1 ∧ T1 ∧ (@Exists.{1} (loopOps ops k0 k1).V (fun (v20 : (@Prod.{0, 0} Nat DkS)) => ((((AV.sl ops Own.no) = (AV.sl ops Own.no) ∧ (AV.ptr 3 0) = (AV.ptr 3 0) ∧ (AV.ptr 17 0) = (AV.ptr 17 0) ∧ (AV.sl ops Own.no) = (AV.sl ops Own.no) ∧ (AV.int IntKind.i64 (q0 : Int)) = (AV.int IntKind.i64 (q0 : Int)) ∧ (AV.int IntKind.i64 (IntKind.wrap IntKind.i64 ((v18.1 : Int) + (1 : Int)))) = (AV.int IntKind.i64 (v20.1 : Int)) ∧ True) ∧ ((@Option.some.{0} (List AV) w0_x) = (@Option.some.{0} (List AV) w0_x) ∧ (@Option.some.{0} (List AV) [(AV.int IntKind.i64 4096), (AV.sl v18.2.x0 q1), (AV.int IntKind.i64 v18.2.s0), (AV.sl v18.2.x1 q2), (AV.int IntKind.i64 v18.2.s1), (AV.bool v18.2.ar), (AV.int IntKind.i64 v18.2.un), (AV.bool v18.2.dn)]) = (@Option.some.{0} (List AV) [(AV.int IntKind.i64 4096), (AV.sl v20.2.x0 q1), (AV.int IntKind.i64 v20.2.s0), (AV.sl v20.2.x1 q2), (AV.int IntKind.i64 v20.2.s1), (AV.bool v20.2.ar), (AV.int IntKind.i64 v20.2.un), (AV.bool v20.2.dn)]) ∧ True) ∧ ((List.length v18.2.x0) = (List.length v20.2.x0) ∧ (List.length v18.2.x1) = (List.length v20.2.x1) ∧ True) ∧ tt ∧ tt) ∧ (v20.1 ≤ q0 ∧ (dkOK 4096 v20.2.x0 v20.2.s0 v20.2.x1 v20.2.s1 v20.2.ar v20.2.un)) ∧ (q0 - v20.1) < (q0 - v18.1))))) else (tt ∧ T1 ∧ (T1 ∧ True) ∧ ∀ v20 : Int, (v20 = 4096) → ∀ v22 : (List AV), (v22 = []) → ∀ v24 : (List AV), (v24 = []) → ∀ v26 : Int, (v26 = 0) → ∀ v28 : Int, (v28 = 0) → ∀ v30 : Int, (v30 = (@Neg.neg.{0} Int Int.instNegInt (1 : Int))) → tt ∧ (((List.length v18.2.x0) = (List.length v18.2.x0) ∧ (List.length v18.2.x1) = (List.length v18.2.x1) ∧ True) ∧ (@Ne.{1} Int (rdInt (elemAt ops (Int.toNat (v18.1 : Int))) 0) (5 : Int)) ∧ (isBytes (rdList (elemAt ops (Int.toNat (v18.1 : Int))) 3)) ∧ (List.length (rdList (elemAt ops (Int.toNat (v18.1 : Int))) 3)) ≤ 140737488355328 ∧ (dkOK 4096 v18.2.x0 v18.2.s0 v18.2.x1 v18.2.s1 v18.2.ar v18.2.un) ∧ (rdOK v20 v22 v24 v26 v28 v30)) ∧ ∀ v32 : Int, (v32 = v20) → ∀ v34 : (List AV), (v34 = (qX 0 (rdInt (elemAt ops (Int.toNat (v18.1 : Int))) 0) (rdInt (elemAt ops (Int.toNat (v18.1 : Int))) 1) (rdInt (elemAt ops (Int.toNat (v18.1 : Int))) 2) (rdList (elemAt ops (Int.toNat (v18.1 : Int))) 3) v20 v22 v24 v26 v28 v30 false)) → ∀ v36 : (List AV), (v36 = (qX 1 (rdInt (elemAt ops (Int.toNat (v18.1 : Int))) 0) (rdInt (elemAt ops (Int.toNat (v18.1 : Int))) 1) (rdInt (elemAt ops (Int.toNat (v18.1 : Int))) 2) (rdList (elemAt ops (Int.toNat (v18.1 : Int))) 3) v20 v22 v24 v26 v28 v30 false)) → ∀ v38 : Int, (v38 = (qS 0 (rdInt (elemAt ops (Int.toNat (v18.1 : Int))) 0) (rdInt (elemAt ops (Int.toNat (v18.1 : Int))) 1) (rdInt (elemAt ops (Int.toNat (v18.1 : Int))) 2) (rdList (elemAt ops (Int.toNat (v18.1 : Int))) 3) v20 v22 v24 v26 v28 v30 false)) → ∀ v40 : Int, (v40 = (qS 1 (rdInt (elemAt ops (Int.toNat (v18.1 : Int))) 0) (rdInt (elemAt ops (Int.toNat (v18.1 : Int))) 1) (rdInt (elemAt ops (Int.toNat (v18.1 : Int))) 2) (rdList (elemAt ops (Int.toNat (v18.1 : Int))) 3) v20 v22 v24 v26 v28 v30 false)) → ∀ v42 : Int, (v42 = (qU (rdInt (elemAt ops (Int.toNat (v18.1 : Int))) 0) (rdInt (elemAt ops (Int.toNat (v18.1 : Int))) 1) (rdInt (elemAt ops (Int.toNat (v18.1 : Int))) 2) (rdList (elemAt ops (Int.toNat (v18.1 : Int))) 3) v20 v22 v24 v26 v28 v30 false)) → ∀ v44 : Int, (v44 = 4096) → ∀ v46 : (List AV), (v46 = (pX 0 (rdInt (elemAt ops (Int.toNat (v18.1 : Int))) 0) (rdInt (elemAt ops (Int.toNat (v18.1 : Int))) 1) (rdInt (elemAt ops (Int.toNat (v18.1 : Int))) 2) (rdList (elemAt ops (Int.toNat (v18.1 : Int))) 3) 4096 v18.2.x0 v18.2.s0 v18.2.x1 v18.2.s1 v18.2.ar v18.2.un v18.2.dn)) → ∀ v48 : Int, (v48 = (pS 0 (rdInt (elemAt ops (Int.toNat (v18.1 : Int))) 0) (rdInt (elemAt ops (Int.toNat (v18.1 : Int))) 1) (rdInt (elemAt ops (Int.toNat (v18.1 : Int))) 2) (rdList (elemAt ops (Int.toNat (v18.1 : Int))) 3) 4096 v18.2.x0 v18.2.s0 v18.2.x1 v18.2.s1 v18.2.ar v18.2.un v18.2.dn)) → ∀ v50 : (List AV), (v50 = (pX 1 (rdInt (elemAt ops (Int.toNat (v18.1 : Int))) 0) (rdInt (elemAt ops (Int.toNat (v18.1 : Int))) 1) (rdInt (elemAt ops (Int.toNat (v18.1 : Int))) 2) (rdList (elemAt ops (Int.toNat (v18.1 : Int))) 3) 4096 v18.2.x0 v18.2.s0 v18.2.x1 v18.2.s1 v18.2.ar v18.2.un v18.2.dn)) → ∀ v52 : Int, (v52 = (pS 1 (rdInt (elemAt ops (Int.toNat (v18.1 : Int))) 0) (rdInt (elemAt ops (Int.toNat (v18.1 : Int))) 1) (rdInt (elemAt ops (Int.toNat (v18.1 : Int))) 2) (rdList (elemAt ops (Int.toNat (v18.1 : Int))) 3) 4096 v18.2.x0 v18.2.s0 v18.2.x1 v18.2.s1 v18.2.ar v18.2.un v18.2.dn)) → ∀ v54 : Int, (v54 = (pU (rdInt (elemAt ops (Int.toNat (v18.1 : Int))) 0) (rdInt (elemAt ops (Int.toNat (v18.1 : Int))) 1) (rdInt (elemAt ops (Int.toNat (v18.1 : Int))) 2) (rdList (elemAt ops (Int.toNat (v18.1 : Int))) 3) 4096 v18.2.x0 v18.2.s0 v18.2.x1 v18.2.s1 v18.2.ar v18.2.un v18.2.dn)) → ∀ v56 : Nat, (v56 = (List.length (pX 0 (rdInt (elemAt ops (Int.toNat (v18.1 : Int))) 0) (rdInt (elemAt ops (Int.toNat (v18.1 : Int))) 1) (rdInt (elemAt ops (Int.toNat (v18.1 : Int))) 2) (rdList (elemAt ops (Int.toNat (v18.1 : Int))) 3) 4096 v18.2.x0 v18.2.s0 v18.2.x1 v18.2.s1 v18.2.ar v18.2.un v18.2.dn))) → ∀ v58 : Nat, (v58 = (List.length (pX 1 (rdInt (elemAt ops (Int.toNat (v18.1 : Int))) 0) (rdInt (elemAt ops (Int.toNat (v18.1 : Int))) 1) (rdInt (elemAt ops (Int.toNat (v18.1 : Int))) 2) (rdList (elemAt ops (Int.toNat (v18.1 : Int))) 3) 4096 v18.2.x0 v18.2.s0 v18.2.x1 v18.2.s1 v18.2.ar v18.2.un v18.2.dn))) → tt ∧ tt ∧ T1 ∧ T1 ∧ (@Exists.{1} (loopOps ops k0 k1).V (fun (v60 : (@Prod.{0, 0} Nat DkS)) => ((((AV.sl ops Own.no) = (AV.sl ops Own.no) ∧ (AV.ptr 3 0) = (AV.ptr 3 0) ∧ (AV.ptr 17 0) = (AV.ptr 17 0) ∧ (AV.sl ops Own.no) = (AV.sl ops Own.no) ∧ (AV.int IntKind.i64 (q0 : Int)) = (AV.int IntKind.i64 (q0 : Int)) ∧ (AV.int IntKind.i64 (IntKind.wrap IntKind.i64 ((v18.1 : Int) + (1 : Int)))) = (AV.int IntKind.i64 (v60.1 : Int)) ∧ True) ∧ ((@Option.some.{0} (List AV) w0_x) = (@Option.some.{0} (List AV) w0_x) ∧ (@Option.some.{0} (List AV) [(AV.int IntKind.i64 v44), (AV.sl v46 q1), (AV.int IntKind.i64 v48), (AV.sl v50 q2), (AV.int IntKind.i64 v52), (AV.bool (pA (rdInt (elemAt ops (Int.toNat (v18.1 : Int))) 0) v18.2.ar)), (AV.int IntKind.i64 v54), (AV.bool (pD (rdInt (elemAt ops (Int.toNat (v18.1 : Int))) 0) (rdInt (elemAt ops (Int.toNat (v18.1 : Int))) 1) (rdInt (elemAt ops (Int.toNat (v18.1 : Int))) 2) (rdList (elemAt ops (Int.toNat (v18.1 : Int))) 3) 4096 v18.2.x0 v18.2.s0 v18.2.x1 v18.2.s1 v18.2.ar v18.2.un v18.2.dn))]) = (@Option.some.{0} (List AV) [(AV.int IntKind.i64 4096), (AV.sl v60.2.x0 q1), (AV.int IntKind.i64 v60.2.s0), (AV.sl v60.2.x1 q2), (AV.int IntKind.i64 v60.2.s1), (AV.bool v60.2.ar), (AV.int IntKind.i64 v60.2.un), (AV.bool v60.2.dn)]) ∧ True) ∧ (v56 = (List.length v60.2.x0) ∧ v58 = (List.length v60.2.x1) ∧ True) ∧ tt ∧ tt) ∧ (v60.1 ≤ q0 ∧ (dkOK 4096 v60.2.x0 v60.2.s0 v60.2.x1 v60.2.s1 v60.2.ar v60.2.un)) ∧ (q0 - v60.1) < (q0 - v18.1))))))))) else (tt ∧ T1 ∧ tt ∧ T1 ∧ tt ∧ T1 ∧ w8_x ∧ tt ∧ T1 ∧ tt ∧ T1 ∧ T1 ∧ tt ∧ T1 ∧ T1 ∧ T1 ∧ T1 ∧ (((List.length v18.2.x0) = (List.length v18.2.x0) ∧ (List.length v18.2.x1) = (List.length v18.2.x1) ∧ True) ∧ (isBytes v18.2.x0) ∧ (isBytes v18.2.x1) ∧ (List.length v18.2.x0) ≤ 140737488355328 ∧ (List.length v18.2.x1) ≤ 140737488355328) ∧ ∀ v20 : (List AV), (v20 = (rd2 0 v18.2.x0 v18.2.x1)) → ∀ v22 : Int, (v22 = 4096) → ∀ v24 : (List AV), (v24 = v18.2.x0) → ∀ v26 : Int, (v26 = v18.2.s0) → ∀ v28 : (List AV), (v28 = v18.2.x1) → ∀ v30 : Int, (v30 = v18.2.s1) → ∀ v32 : Int, (v32 = v18.2.un) → ∀ v34 : Nat, (v34 = (List.length v18.2.x0)) → ∀ v36 : Nat, (v36 = (List.length v18.2.x1)) → T1 ∧ T1 ∧ ((v34 = (List.length v24) ∧ v36 = (List.length v28) ∧ True) ∧ True) ∧ ∀ v38 : Int, (v38 = (rdI 0 v26 v30)) → ∀ v40 : Int, (v40 = v22) → ∀ v42 : (List AV), (v42 = v24) → ∀ v44 : Int, (v44 = v26) → ∀ v46 : (List AV), (v46 = v28) → ∀ v48 : Int, (v48 = v30) → ∀ v50 : Int, (v50 = v32) → ∀ v52 : Nat, (v52 = (List.length v24)) → ∀ v54 : Nat, (v54 = (List.length v28)) → w2_x ∧ tt ∧ w2_x ∧ tt ∧ tt ∧ tt ∧ T1 ∧ T1 ∧ w8_x ∧ tt ∧ T1 ∧ tt ∧ T1 ∧ T1 ∧ tt ∧ T1 ∧ T1 ∧ T1 ∧ T1 ∧ ((v52 = (List.length v42) ∧ v54 = (List.length v46) ∧ True) ∧ (isBytes v42) ∧ (isBytes v46) ∧ (List.length v42) ≤ 140737488355328 ∧ (List.length v46) ≤ 140737488355328) ∧ ∀ v56 : (List AV), (v56 = (rd2 1 v42 v46)) → ∀ v58 : Int, (v58 = v40) → ∀ v60 : (List AV), (v60 = v42) → ∀ v62 : Int, (v62 = v44) → ∀ v64 : (List AV), (v64 = v46) → ∀ v66 : Int, (v66 = v48) → ∀ v68 : Int, (v68 = v50) → ∀ v70 : Nat, (v70 = (List.length v42)) → ∀ v72 : Nat, (v72 = (List.length v46)) → T1 ∧ T1 ∧ ((v70 = (List.length v60) ∧ v72 = (List.length v64) ∧ True) ∧ True) ∧ ∀ v74 : Int, (v74 = (rdI 1 v62 v66)) → ∀ v76 : Int, (v76 = v58) → ∀ v78 : (List AV), (v78 = v60) → ∀ v80 : Int, (v80 = v62) → ∀ v82 : (List AV), (v82 = v64) → ∀ v84 : Int, (v84 = v66) → ∀ v86 : Int, (v86 = v68) → ∀ v88 : Nat, (v88 = (List.length v60)) → ∀ v90 : Nat, (v90 = (List.length v64)) → w3_x ∧ tt ∧ w3_x ∧ tt ∧ tt ∧ tt ∧ T1 ∧ T1 ∧ w8_x ∧ tt ∧ T1 ∧ tt ∧ T1 ∧ tt ∧ ((v88 = (List.length v78) ∧ v90 = (List.length v82) ∧ True) ∧ (dkOK v76 v78 v80 v82 v84 v18.2.ar v86)) ∧ ∀ v92 : Int, (v92 = v76) → ∀ v94 : (List AV), (v94 = (crX v78 v80 k0)) → ∀ v96 : Int, (v96 = (crS v80 (List.length v78) k0)) → ∀ v98 : (List AV), (v98 = (crX v82 v84 k1)) → ∀ v100 : Int, (v100 = (crS v84 (List.length v82) k1)) → ∀ v102 : Int, (v102 = 0) → tt ∧ T1 ∧ w8_x ∧ tt ∧ T1 ∧ tt ∧ T1 ∧ T1 ∧ tt ∧ T1 ∧ T1 ∧ (T1 ∧ (isBytes v94) ∧ (isBytes v98) ∧ (List.length v94) ≤ 140737488355328 ∧ (List.length v98) ≤ 140737488355328) ∧ ∀ v104 : (List AV), let w5_104 := ((List.length v104) : Int); let w11_104 := (@cutL AV v20 0 (Int.toNat w5_104)); (v104 = (rd2 0 v94 v98)) → ∀ v106 : Int, (v106 = v92) → ∀ v108 : (List AV), (v108 = v94) → ∀ v110 : Int, (v110 = v96) → ∀ v112 : (List AV), (v112 = v98) → ∀ v114 : Int, (v114 = v100) → ∀ v116 : Int, (v116 = v102) → T1 ∧ tt ∧ T1 ∧ T1 ∧ T1 ∧ w2_x ∧ tt ∧ T1 ∧ T1 ∧ (bif (decide (w5_104 < v38)) then w4_x else (T1 ∧ T1 ∧ T1 ∧ w2_x ∧ tt ∧ T1 ∧ T1 ∧ T1 ∧ T1 ∧ (bif (decide (((List.length v20) : Int) < w5_104)) then w7_x else (T1 ∧ T1 ∧ w2_x ∧ tt ∧ T1 ∧ T1 ∧ (((0 : Int) ≤ w5_104 ∧ w5_104 ≤ ((List.length v20) : Int)) ∧ (okWidth 1 v20)) ∧ (T1 ∧ ((isBytes v104) ∧ (List.length v104) ≤ 9223372036854775807) ∧ (isBytes w11_104) ∧ (List.length w11_104) ≤ 9223372036854775807) ∧ T1 ∧ T1 ∧ T1 ∧ (bif (Bool.not (@Decidable.decide ((bytesL v104) = (bytesL w11_104)) (@instDecidableEqList.{0} UInt8 instDecidableEqUInt8 (bytesL v104) (bytesL w11_104)))) then w10_x else (T1 ∧ T1 ∧ (T1 ∧ True) ∧ ∀ v118 : Int, (v118 = (rdI 0 v110 v114)) → ∀ v120 : Int, (v120 = v106) → ∀ v122 : (List AV), (v122 = v108) → ∀ v124 : Int, (v124 = v110) → ∀ v126 : (List AV), (v126 = v112) → ∀ v128 : Int, (v128 = v114) → ∀ v130 : Int, (v130 = v116) → T1 ∧ T1 ∧ T1 ∧ T1 ∧ (bif (v118 != w5_104) then w13_x else (tt ∧ T1 ∧ T1 ∧ w8_x ∧ tt ∧ T1 ∧ tt ∧ T1 ∧ T1 ∧ tt ∧ T1 ∧ T1 ∧ (T1 ∧ (isBytes v122) ∧ (isBytes v126) ∧ (List.length v122) ≤ 140737488355328 ∧ (List.length v126) ≤ 140737488355328) ∧ ∀ v132 : (List AV), let w6_132 := ((List.length v132) : Int); let w12_132 := (@cutL AV v56 0 (Int.toNat w6_132)); (v132 = (rd2 1 v122 v126)) → ∀ v134 : Int, (v134 = v120) → ∀ v136 : (List AV), (v136 = v122) → ∀ v138 : Int, (v138 = v124) → ∀ v140 : (List AV), (v140 = v126) → ∀ v142 : Int, (v142 = v128) → ∀ v144 : Int, (v144 = v130) → T1 ∧ tt ∧ T1 ∧ T1 ∧ T1 ∧ w3_x ∧ tt ∧ T1 ∧ T1 ∧ (bif (decide (w6_132 < v74)) then w4_x else (T1 ∧ T1 ∧ T1 ∧ w3_x ∧ tt ∧ T1 ∧ T1 ∧ T1 ∧ T1 ∧ (bif (decide (((List.length v56) : Int) < w6_132)) then w7_x else (T1 ∧ T1 ∧ w3_x ∧ tt ∧ T1 ∧ T1 ∧ (((0 : Int) ≤ w6_132 ∧ w6_132 ≤ ((List.length v56) : Int)) ∧ (okWidth 1 v56)) ∧ (T1 ∧ ((isBytes v132) ∧ (List.length v132) ≤ 9223372036854775807) ∧ (isBytes w12_132) ∧ (List.length w12_132) ≤ 9223372036854775807) ∧ T1 ∧ T1 ∧ T1 ∧ (bif (Bool.not (@Decidable.decide ((bytesL v132) = (bytesL w12_132)) (@instDecidableEqList.{0} UInt8 instDecidableEqUInt8 (bytesL v132) (bytesL w12_132)))) then w10_x else (T1 ∧ T1 ∧ (T1 ∧ True) ∧ ∀ v146 : Int, (v146 = (rdI 1 v138 v142)) → ∀ v148 : Int, (v148 = v134) → ∀ v150 : (List AV), (v150 = v136) → ∀ v152 : Int, (v152 = v138) → ∀ v154 : (List AV), (v154 = v140) → ∀ v156 : Int, (v156 = v142) → ∀ v158 : Int, (v158 = v144) → T1 ∧ T1 ∧ T1 ∧ T1 ∧ (bif (v146 != w6_132) then w13_x else (tt ∧ T1 ∧ T1 ∧ w8_x ∧ tt ∧ T1 ∧ tt ∧ T1 ∧ (T1 ∧ True) ∧ ∀ v160 : Int, (v160 = v148) → ∀ v162 : (List AV), (v162 = v150) → ∀ v164 : Int, (v164 = v152) → ∀ v166 : (List AV), (v166 = v154) → ∀ v168 : Int, (v168 = v156) → ∀ v170 : Int, (v170 = v158) → T1 ∧ T1 ∧ T1 ∧ (T1 ∧ True) ∧ ∀ v172 : Int, (v172 = (syE 0 false false v170)) → ∀ v174 : Int, (v174 = v160) → ∀ v176 : (List AV), (v176 = v162) → ∀ v178 : Int, (v178 = (syS 0 0 false false v170 v164 (List.length v162))) → ∀ v180 : (List AV), (v180 = v166) → ∀ v182 : Int, (v182 = (syS 1 0 false false v170 v168 (List.length v166))) → ∀ v184 : Int, (v184 = (syU (syGo 0 false) false v170)) → T1 ∧ T1 ∧ T1 ∧ tt ∧ tt ∧ (true = (v172 == 0) ∧ True) ∧ tt)))))))))))))))))))))))) : inLawCrashes0 ops k0 k1 :=
  Eq.mp (show _ = _ by kernel_rfl) h
end Go.Proofs.Ytddilmocngedjaa
/- The conditions of the disks' laws hold. -/
namespace Go.Proofs.Ytddilmocngedjaa
set_option linter.unusedVariables false
set_option linter.unusedSimpArgs false
open Go.RowKit
set_option maxRecDepth 100000
theorem apM_eq (f : Int) (dn : Bool) (sz : Int) (n0 n1 : Nat) (lim : Int) (k : Nat) : (apM f dn sz n0 n1 lim k ≤ k ∧ apM f dn sz n0 n1 lim k ≤ apN lim k) ∧ (apM f dn sz n0 n1 lim k = 0 ∨ (k : Int) ≤ sz - n0 - n1) := by
  unfold apM apGo
  have := apN_le lim k
  split
  · rename_i h
    simp only [Bool.and_eq_true, decide_eq_true_eq] at h
    exact ⟨⟨this, Nat.le_refl _⟩, .inr h.2⟩
  · exact ⟨⟨Nat.zero_le _, Nat.zero_le _⟩, .inl rfl⟩
theorem apX_len (g f : Int) (dn : Bool) (sz : Int) (n0 n1 : Nat) (lim : Int) (x ys : List AV) : (apX g f dn sz n0 n1 lim x ys).length = if f = g then x.length + apM f dn sz n0 n1 lim ys.length else x.length := by
  unfold apX catL
  have := (apM_eq f dn sz n0 n1 lim ys.length).1.1
  split
  · simp; omega
  · rfl
theorem apX_bytes {g f : Int} {dn : Bool} {sz : Int} {n0 n1 : Nat} {lim : Int} {x ys : List AV} (hx : isBytes x) (hy : isBytes ys) : isBytes (apX g f dn sz n0 n1 lim x ys) := by
  unfold apX
  split
  · exact isBytes_cat hx (isBytes_take hy _)
  · exact hx
theorem unK_eq {un : Int} (h0 : 0 ≤ un) (h1 : un ≤ 9223372036854775807) : ∀ j : Nat, (j : Int) ≤ un → unK un j = un - j := by
  intro j
  induction j with
  | zero => intro _; simp [unK]
  | succ j ih =>
    intro hj
    have := ih (by omega)
    simp only [unK, decU, this]
    rw [wrap_i64 (by omega) (by omega)]
    omega
theorem syU_range {go ar : Bool} {un : Int} (h : ar = true → 0 ≤ un ∧ un ≤ 9223372036854775807) : ar = true → 0 ≤ syU go ar un ∧ syU go ar un ≤ 9223372036854775807 := by
  rintro rfl
  have := h rfl
  unfold syU
  split
  · unfold unU
    split
    · rename_i h1
      unfold unitK at h1
      have h2 : ¬ un = 0 := by simpa using h1
      unfold decU
      rw [wrap_i64 (by omega) (by omega)]; omega
    · exact this
  · exact this
theorem trX_len (g f n : Int) (dn ar : Bool) (un : Int) (x0 x1 x : List AV) : (trX g f n dn ar un x0 x1 x).length ≤ x.length := by
  unfold trX
  split
  · simp; omega
  · exact Nat.le_refl _
theorem trX_bytes {g f n : Int} {dn ar : Bool} {un : Int} {x0 x1 x : List AV} (h : isBytes x) : isBytes (trX g f n dn ar un x0 x1 x) := by
  unfold trX
  split
  · exact isBytes_take h _
  · exact h
theorem trS_range {g f n : Int} {dn ar : Bool} {un : Int} {x0 x1 x : List AV} {s : Int} (hg : f = g → x = rd2 f x0 x1) (h0 : 0 ≤ s) (h1 : s ≤ x.length) : 0 ≤ trS g f n dn ar un x0 x1 s ∧ trS g f n dn ar un x0 x1 s ≤ (trX g f n dn ar un x0 x1 x).length := by
  unfold trS trX
  split
  · rename_i h
    simp only [Bool.and_eq_true, decide_eq_true_eq] at h
    have hgo := h.1.1
    unfold trGo at hgo
    simp only [Bool.and_eq_true, decide_eq_true_eq] at hgo
    rw [← hg h.2] at hgo
    simp; omega
  · exact ⟨h0, h1⟩
theorem dk_step {k f n : Int} {ys : List AV} {sz : Int} {x0 : List AV} {s0 : Int} {x1 : List AV} {s1 : Int} {ar : Bool} {un : Int} {dn : Bool} (hd : dkOK sz x0 s0 x1 s1 ar un) (hy : isBytes ys) (hn : n ≤ 9223372036854775807) :
    dkOK sz (pX 0 k f n ys sz x0 s0 x1 s1 ar un dn) (pS 0 k f n ys sz x0 s0 x1 s1 ar un dn) (pX 1 k f n ys sz x0 s0 x1 s1 ar un dn) (pS 1 k f n ys sz x0 s0 x1 s1 ar un dn) (pA k ar) (pU k f n ys sz x0 s0 x1 s1 ar un dn) := by
  have hd' := hd
  obtain ⟨h1, h2, h3, h4, h5, h6, h7, h8, h9, h10⟩ := hd
  by_cases k1 : k = 1
  · subst k1
    simp only [pX, pS, pA, pU, if_true, if_pos, show ¬ (1 : Int) = 0 from by decide, show ¬ (1 : Int) = 2 from by decide, show ¬ (1 : Int) = 3 from by decide, show ¬ (1 : Int) = 4 from by decide, if_false]
    have a := apM_eq f dn sz x0.length x1.length (limD ar un) ys.length
    have l0 := apX_len 0 f dn sz x0.length x1.length (limD ar un) x0 ys
    have l1 := apX_len 1 f dn sz x0.length x1.length (limD ar un) x1 ys
    have l2 : (apX 0 f dn sz x0.length x1.length (limD ar un) x0 ys).length + (apX 1 f dn sz x0.length x1.length (limD ar un) x1 ys).length ≤ x0.length + x1.length + apM f dn sz x0.length x1.length (limD ar un) ys.length := by
      rw [l0, l1]; split <;> split <;> omega
    have l3 : x0.length ≤ (apX 0 f dn sz x0.length x1.length (limD ar un) x0 ys).length := by rw [l0]; split <;> omega
    have l4 : x1.length ≤ (apX 1 f dn sz x0.length x1.length (limD ar un) x1 ys).length := by rw [l1]; split <;> omega
    refine ⟨h1, h2, apX_bytes h3 hy, apX_bytes h4 hy, by omega, h6, by omega, h8, by omega, ?_⟩
    rintro rfl
    have hu := h10 rfl
    have a2 := a.1.2
    unfold apN limD at a2
    simp only [if_true, if_pos hu.1] at a2
    unfold apU
    rw [show apM f dn sz x0.length x1.length (limD true un) ys.length = apM f dn sz x0.length x1.length un ys.length from rfl, unK_eq hu.1 hu.2 _ (by omega)]
    omega
  by_cases k2 : k = 2
  · subst k2
    simp only [pX, pS, pA, pU, if_true, if_pos, show ¬ (2 : Int) = 0 from by decide, show ¬ (2 : Int) = 1 from by decide, show ¬ (1 : Int) = 0 from by decide, show ¬ (2 : Int) = 3 from by decide, show ¬ (2 : Int) = 4 from by decide, if_false]
    refine ⟨h1, h2, h3, h4, h5, ?_, ?_, ?_, ?_, syU_range h10⟩ <;> unfold syS <;> split <;> omega
  by_cases k3 : k = 3
  · subst k3
    simp only [pX, pS, pA, pU, if_true, if_pos, show ¬ (3 : Int) = 0 from by decide, show ¬ (3 : Int) = 1 from by decide, show ¬ (1 : Int) = 0 from by decide, show ¬ (3 : Int) = 2 from by decide, show ¬ (3 : Int) = 4 from by decide, if_false]
    have l0 := trX_len 0 f n dn ar un x0 x1 x0
    have l1 := trX_len 1 f n dn ar un x0 x1 x1
    have r0 := trS_range (g := 0) (f := f) (n := n) (dn := dn) (ar := ar) (un := un) (x0 := x0) (x1 := x1) (x := x0) (by rintro rfl; rfl) h6 h7
    have r1 := trS_range (g := 1) (f := f) (n := n) (dn := dn) (ar := ar) (un := un) (x0 := x0) (x1 := x1) (x := x1) (by rintro rfl; rfl) h8 h9
    exact ⟨h1, h2, trX_bytes h3, trX_bytes h4, by omega, r0.1, r0.2, r1.1, r1.2, syU_range h10⟩
  by_cases k4 : k = 4
  · subst k4
    simp only [pX, pS, pA, pU, if_true, if_pos, show ¬ (4 : Int) = 0 from by decide, show ¬ (4 : Int) = 1 from by decide, show ¬ (1 : Int) = 0 from by decide, show ¬ (4 : Int) = 2 from by decide, show ¬ (4 : Int) = 3 from by decide, if_false]
    refine ⟨h1, h2, h3, h4, h5, h6, h7, h8, h9, fun _ => ?_⟩
    unfold armU; split <;> omega
  simp only [pX, pS, pA, pU, k1, k2, k3, k4, if_true, if_false, show ¬ (1 : Int) = 0 from by decide]
  exact hd'
theorem crX_len {x : List AV} {s k : Int} (h0 : 0 ≤ s) (h1 : s ≤ x.length) : ((crX x s k).length : Int) = crS s x.length k ∧ s ≤ crS s x.length k ∧ crS s x.length k ≤ x.length := by
  have : 0 ≤ crS s x.length k ∧ crS s x.length k ≤ x.length ∧ s ≤ crS s x.length k := by unfold crS; omega
  refine ⟨?_, this.2.2, this.2.1⟩
  unfold crX
  simp; omega
theorem crX_cut {x : List AV} {s k : Int} (h0 : 0 ≤ s) (h1 : s ≤ x.length) : cutL x 0 (crX x s k).length = crX x s k := by
  rw [cutL_zero]
  unfold crX
  simp
theorem crX_bytes {x : List AV} {s k : Int} (h : isBytes x) : isBytes (crX x s k) := isBytes_take h _
theorem okAnchor130 : OkAnchor130 := by
  intro hq
  refine vcAnchor130 ?_
  simp only [true_and, and_true, forall_eq, eq_self]
  have e0 : apX 0 0 false 1024 ([] : List AV).length ([] : List AV).length (limD true 2) [] [AV.int IntKind.u8 1, AV.int IntKind.u8 2, AV.int IntKind.u8 3] = [AV.int IntKind.u8 1, AV.int IntKind.u8 2] := rfl
  have e1 : apX 1 0 false 1024 ([] : List AV).length ([] : List AV).length (limD true 2) [] [AV.int IntKind.u8 1, AV.int IntKind.u8 2, AV.int IntKind.u8 3] = [] := rfl
  have e2 : apU 0 false 1024 ([] : List AV).length ([] : List AV).length (limD true 2) 2 3 = 0 := rfl
  have e3 : apE 0 false 1024 ([] : List AV).length ([] : List AV).length (limD true 2) 3 = 40 := rfl
  have e4 : crX [AV.int IntKind.u8 1, AV.int IntKind.u8 2] 0 1 = [AV.int IntKind.u8 1] := rfl
  have e5 : crX [] 0 0 = [] := rfl
  rw [e0, e1, e2, e3, e4, e5]
  have b3 : isBytes [AV.int IntKind.u8 1, AV.int IntKind.u8 2, AV.int IntKind.u8 3] := rfl
  have b2 : isBytes [AV.int IntKind.u8 1, AV.int IntKind.u8 2] := rfl
  have b1 : isBytes [AV.int IntKind.u8 1] := rfl
  exact ⟨by omega, ⟨rfl, rfl⟩, ⟨b3, by unfold dkOK; simp [isBytes_nil]⟩, ⟨b2, isBytes_nil, by simp, by simp⟩, by unfold dkOK; simp [isBytes_nil, b2], by omega, ⟨b1, isBytes_nil, by simp, by simp⟩, rfl⟩
theorem okStep0 : OkStep0 := by
  intro sz x0 s0 x1 s1 ar un dn p q p' q' zz y0 y1 r0 r1 ru rd k f n ys hq
  refine vcStep0 sz x0 s0 x1 s1 ar un dn p q p' q' zz y0 y1 r0 r1 ru rd k f n ys ?_
  obtain ⟨h5, hb, hl, hd, hr⟩ := hq
  simp only [true_and, and_true, forall_eq, eq_self]
  refine cond_prop (fun h => ?_) fun h => cond_prop (fun h2 => ?_) fun h2 => cond_prop (fun h3 => ?_) fun h3 => cond_prop (fun h4 => ?_) fun h4 => cond_prop (fun h6 => ?_) fun h6 => ?_
  · obtain rfl : k = 1 := by simpa using h
    refine ⟨⟨hb, hd⟩, ⟨hb, hl, hr⟩, ?_⟩
    simp [pX, pS, pA, pU, pD, pE, qX, qS, qU, qD]
  · obtain rfl : k = 2 := by simpa using h2
    refine ⟨hr, ?_⟩
    simp [pX, pS, pA, pU, pD, pE, qX, qS, qU, qD]
  · obtain rfl : k = 3 := by simpa using h3
    refine ⟨hd, hr, ?_⟩
    simp [pX, pS, pA, pU, pD, pE, qX, qS, qU, qD]
  · obtain rfl : k = 4 := by simpa using h4
    simp [pX, pS, pA, pU, pD, pE, qX, qS, qU, qD, armU]
  · exact h5 (by simpa using h6)
  · have a1 : ¬ k = 1 := by simpa using h
    have a2 : ¬ k = 2 := by simpa using h2
    have a3 : ¬ k = 3 := by simpa using h3
    have a4 : ¬ k = 4 := by simpa using h4
    simp [pX, pS, pA, pU, pD, pE, qX, qS, qU, qD, a1, a2, a3, a4]
theorem okLawCrashes0 : OkLawCrashes0 := by
  intro ops k0 k1 hq
  refine vcLawCrashes0 ops k0 k1 ?_
  simp only [true_and, and_true, forall_eq, eq_self, show ((0 : Int) != 0) = false from rfl, cond_false]
  refine ⟨by omega, cond_prop (fun h => trivial) fun h => ⟨⟨((0, ⟨[], 0, [], 0, false, 0, false⟩) : Nat × DkS), ⟨rfl, rfl, rfl, rfl⟩, Nat.zero_le _, ?_⟩, ?_⟩⟩
  · unfold dkOK; simp [isBytes_nil]
  rintro ⟨i, x0, s0, x1, s1, ar, un, dn⟩ ⟨hi, hd⟩
  simp only at hi hd ⊢
  have hd' := hd
  obtain ⟨h1, h2, h3, h4, h5, h6, h7, h8, h9, h10⟩ := hd'
  simp only [Int.toNat_natCast]
  refine cond_prop (fun hl => ?_) fun hl => ?_
  · have hl' : i < ops.length := by simpa using hl
    have hk : (ops.length : Int) ≤ 40 := by simp at h; omega
    obtain ⟨q1, q2, q3, q4, q5, q6⟩ := hq i hl'
    have hw : IntKind.i64.wrap ((i : Int) + 1) = ((i + 1 : Nat) : Int) := by rw [wrap_i64 (by omega) (by omega)]; rfl
    rw [hw]
    refine ⟨⟨by omega, by omega, q1⟩, q2, cond_prop (fun h => ?_) fun h => cond_prop (fun h' => ?_) fun h' => ?_⟩
    · exact ⟨((i + 1, ⟨x0, s0, x1, s1, ar, un, dn⟩) : Nat × DkS), ⟨rfl, rfl, rfl, rfl⟩, ⟨hl', hd⟩, by show ops.length - (i + 1) < ops.length - i; omega⟩
    · exact ⟨((i + 1, ⟨x0, s0, x1, s1, ar, un, dn⟩) : Nat × DkS), ⟨rfl, rfl, rfl, rfl⟩, ⟨hl', hd⟩, by show ops.length - (i + 1) < ops.length - i; omega⟩
    · have hk5 : rdInt (elemAt ops i) 0 ≠ 5 := by simpa using h
      have hlen : (rdList (elemAt ops i) 3).length ≤ 5000 := by simp at h'; omega
      refine ⟨⟨hk5, q3, by omega, hd, ?_⟩, ((i + 1, ⟨_, _, _, _, _, _, _⟩) : Nat × DkS), ⟨rfl, rfl, rfl, rfl⟩, ⟨hl', dk_step hd q3 q6⟩, by show ops.length - (i + 1) < ops.length - i; omega⟩
      unfold rdOK; simp [isBytes_nil]
  · obtain ⟨c1, c2, c3⟩ := crX_len (k := k0) h6 h7
    obtain ⟨d1, d2, d3⟩ := crX_len (k := k1) h8 h9
    have g0 : ∀ a b : List AV, rd2 0 a b = a := fun a b => rfl
    have g1 : ∀ a b : List AV, rd2 1 a b = b := fun a b => rfl
    have j0 : ∀ a b : Int, rdI 0 a b = a := fun a b => rfl
    have j1 : ∀ a b : Int, rdI 1 a b = b := fun a b => rfl
    simp only [g0, g1, j0, j1]
    have B0 := crX_bytes (s := s0) (k := k0) h3
    have B1 := crX_bytes (s := s1) (k := k1) h4
    have w0 := width_of h3
    have w1 := width_of h4
    have L : isBytes x0 ∧ isBytes x1 ∧ x0.length ≤ 140737488355328 ∧ x1.length ≤ 140737488355328 := ⟨h3, h4, by omega, by omega⟩
    have M : isBytes (crX x0 s0 k0) ∧ isBytes (crX x1 s1 k1) ∧ (crX x0 s0 k0).length ≤ 140737488355328 ∧ (crX x1 s1 k1).length ≤ 140737488355328 := ⟨B0, B1, by omega, by omega⟩
    rw [crX_cut h6 h7, crX_cut h8 h9, decide_eq_true (rfl : bytesL (crX x0 s0 k0) = bytesL (crX x0 s0 k0)), decide_eq_true (rfl : bytesL (crX x1 s1 k1) = bytesL (crX x1 s1 k1))]
    refine ⟨L, by omega, by omega, L, by omega, by omega, hd, M, by omega, cond_prop (fun h => ?_) fun _ => ⟨by omega, cond_prop (fun h => ?_) fun _ => ⟨by omega, ⟨⟨by omega, by omega⟩, w0⟩, ⟨⟨B0, by omega⟩, B0, by omega⟩, cond_prop (fun h => absurd h (by decide)) fun _ => cond_prop (fun h => ?_) fun _ => ⟨M, by omega, cond_prop (fun h => ?_) fun _ => ⟨by omega, cond_prop (fun h => ?_) fun _ => ⟨by omega, ⟨⟨by omega, by omega⟩, w1⟩, ⟨⟨B1, by omega⟩, B1, by omega⟩, cond_prop (fun h => absurd h (by decide)) fun _ => cond_prop (fun h => ?_) fun _ => ?_⟩⟩⟩⟩⟩⟩
    · simp at h; omega
    · simp at h; omega
    · simp at h; omega
    · simp at h; omega
    · simp at h; omega
    · simp at h; omega
    · rfl
end Go.Proofs.Ytddilmocngedjaa
/- The contracts are met. -/
namespace Go.Proofs.Ytddilmocngedjaa
set_option linter.unusedVariables false
set_option linter.unusedSimpArgs false
open Go.RowKit
theorem sndStep : Sound Try.prog (lookΓ gamStep) := sound_of _ fun p hp => by
  simp only [gamStep, List.mem_cons, List.not_mem_nil, or_false] at hp
  rcases hp with rfl | rfl | rfl | rfl | rfl | rfl
  · exact meetsApp.orNil
  · exact meetsRapp.orNil
  · exact meetsSync.orNil
  · exact meetsRsy.orNil
  · exact meetsTrim.orNil
  · exact meetsArm.orNil
set_option maxHeartbeats 4000000 in
theorem meetsStep : Meets Try.prog 14 stepF := by
  refine meets_of_awp (Γ := lookΓ gamStep) (L := fun _ _ => none) sndStep mixedOrders Try.func14 rfl Try.call14 ?_
  intro args q r hF hq ho
  unfold stepF at hF
  split at hF
  · split at hF
    · rename_i hte
      obtain ⟨hte0, hte1⟩ := hte
      subst hte0
      subst hte1
      cases hF
      exact ⟨by simp only [List.length_cons, List.length_nil]; decide, okStep0 _ _ _ _ _ _ _ _ _ _ _ _ _ _ _ _ _ _ _ _ _ _ _ hq⟩
    · cases hF
  · cases hF
theorem sndAnchor13 : Sound Try.prog (lookΓ gamAnchor13) := sound_of _ fun p hp => by
  simp only [gamAnchor13, List.mem_cons, List.not_mem_nil, or_false] at hp
  rcases hp with rfl | rfl | rfl | rfl | rfl | rfl | rfl
  · exact meetsNew.orNil
  · exact meetsNewZ.orNil
  · exact meetsArm.orNil
  · exact meetsApp.orNil
  · exact meetsRead.orNil
  · exact meetsCrashN.orNil
  · exact meetsDown.orNil
set_option maxHeartbeats 4000000 in
theorem meetsAnchor13 : Meets Try.prog 12 anchor13F := by
  refine meets_of_awp (Γ := lookΓ gamAnchor13) (L := fun _ _ => none) sndAnchor13 mixedOrders Try.func12 rfl Try.call12 ?_
  intro args q r hF hq ho
  unfold anchor13F at hF
  split at hF
  · cases hF
    exact ⟨by simp only [List.length_cons, List.length_nil]; decide, okAnchor130 hq⟩
  · cases hF
theorem sndLawCrashes : Sound Try.prog (lookΓ gamLawCrashes) := sound_of _ fun p hp => by
  simp only [gamLawCrashes, List.mem_cons, List.not_mem_nil, or_false] at hp
  rcases hp with rfl | rfl | rfl | rfl | rfl | rfl | rfl | rfl | rfl | rfl
  · exact meetsAnchor13.orNil
  · exact meetsNew.orNil
  · exact meetsRnew.orNil
  · exact meetsStep.orNil
  · exact meetsRead.orNil
  · exact meetsSafe.orNil
  · exact meetsCrashN.orNil
  · exact meetsSameD.orNil
  · exact meetsDown.orNil
  · exact meetsSync.orNil
set_option maxHeartbeats 4000000 in
theorem meetsLawCrashes : Meets Try.prog 4 lawCrashesF := by
  refine meets_of_awp (Γ := lookΓ gamLawCrashes) (L := fun args => match args with | [.val (.sl ops .no), .val (.agg [.int .i64 k0, .int .i64 k1])] => lpLawCrashes0 ops k0 k1 | _ => fun _ => none) sndLawCrashes mixedOrders Try.func4 rfl Try.call4 ?_
  intro args q r hF hq ho
  unfold lawCrashesF at hF
  split at hF
  · cases hF
    exact ⟨by simp only [List.length_cons, List.length_nil]; decide, okLawCrashes0 _ _ _ hq⟩
  · cases hF
end Go.Proofs.Ytddilmocngedjaa
