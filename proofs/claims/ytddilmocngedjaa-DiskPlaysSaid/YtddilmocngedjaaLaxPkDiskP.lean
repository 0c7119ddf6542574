/- Contracts by content, their conditions, and that they are met: DiskP. -/
import Derived.Test.YtddilmocngedjaaLaxDiskJ
import Derived.Test.YtddilmocngedjaaLaxRefRead
import Derived.Test.YtddilmocngedjaaLaxPkDiskL
import Derived.Test.YtddilmocngedjaaLaxPkDiskR
/- Contracts by content, and the conditions that their code must meet. -/
namespace Go.Proofs.Ytddilmocngedjaa
set_option linter.unusedVariables false
set_option linter.unusedSimpArgs false
open Go.RowKit
def sizeF : Con
  | [.box [.int .i64 sz, .sl x0 (.row p q te0), .int .i64 s0, .sl x1 (.row p' q' te1), .int .i64 s1, .bool ar, .int .i64 un, .bool dn]] => (if te0 = 5 ∧ te1 = 5 then some (True, ⟨.int .i64 sz, (some [.int .i64 sz, .sl x0 (.row 0 0 5), .int .i64 s0, .sl x1 (.row 0 0 5), .int .i64 s1, .bool ar, .int .i64 un, .bool dn]), none⟩) else none)
  | _ => none
def gamSize : List (Nat × Con) := []
def lpSize0 (sz : Int) (x0 : List AV) (s0 : Int) (x1 : List AV) (s1 : Int) (ar : Bool) (un : Int) (dn : Bool) (p q p' q' : Nat) : Nat → Option LoopPlan := fun _ => none
def inSize0 (sz : Int) (x0 : List AV) (s0 : Int) (x1 : List AV) (s1 : Int) (ar : Bool) (un : Int) (dn : Bool) (p q p' q' : Nat) : Prop := awp [0] (lpSize0 sz x0 s0 x1 s1 ar un dn p q p' q') (lookΓ gamSize) Try.prog Try.f45.ntmps 0 (Try.f45.body.getD .skip) (entrySt [.box [.int .i64 sz, .sl x0 (.row p q 5), .int .i64 s0, .sl x1 (.row p' q' 5), .int .i64 s1, .bool ar, .int .i64 un, .bool dn]]) (exitQ Try.prog Try.f45.results.toList [0] ⟨.int .i64 sz, (some [.int .i64 sz, .sl x0 (.row 0 0 5), .int .i64 s0, .sl x1 (.row 0 0 5), .int .i64 s1, .bool ar, .int .i64 un, .bool dn]), none⟩)
def OkSize0 : Prop := ∀ (sz : Int) (x0 : List AV) (s0 : Int) (x1 : List AV) (s1 : Int) (ar : Bool) (un : Int) (dn : Bool) (p q p' q' : Nat), True → inSize0 sz x0 s0 x1 s1 ar un dn p q p' q'
def same13F : Con
  | [.box [.int .i64 sz, .sl x0 (.row p q te0), .int .i64 s0, .sl x1 (.row p' q' te1), .int .i64 s1, .bool ar, .int .i64 un, .bool dn], .val (.agg [.int .i64 zz, .sl y0 .no, .sl y1 .no, .int .i64 r0, .int .i64 r1, .int .i64 ru, .bool rd])] => (if te0 = 5 ∧ te1 = 5 then some (dkOK sz x0 s0 x1 s1 ar un ∧ zz = sz ∧ y0 = x0 ∧ y1 = x1 ∧ r0 = s0 ∧ r1 = s1 ∧ rd = dn, ⟨.bool true, (some [.int .i64 sz, .sl x0 (.row 0 0 5), .int .i64 s0, .sl x1 (.row 0 0 5), .int .i64 s1, .bool ar, .int .i64 un, .bool dn]), none⟩) else none)
  | _ => none
def gamSame13 : List (Nat × Con) := [(16, readF.orNil), (17, safeF.orNil), (20, downF.orNil), (44, leftF.orNil), (19, sameDF.orNil), (45, sizeF.orNil)]
def lpSame130 (sz : Int) (x0 : List AV) (s0 : Int) (x1 : List AV) (s1 : Int) (ar : Bool) (un : Int) (dn : Bool) (p q p' q' : Nat) (zz : Int) (y0 y1 : List AV) (r0 r1 ru : Int) (rd : Bool) : Nat → Option LoopPlan := fun b => bif Nat.beq b 0 then some (.unroll [] 3) else none
def inSame130 (sz : Int) (x0 : List AV) (s0 : Int) (x1 : List AV) (s1 : Int) (ar : Bool) (un : Int) (dn : Bool) (p q p' q' : Nat) (zz : Int) (y0 y1 : List AV) (r0 r1 ru : Int) (rd : Bool) : Prop := awp [0] (lpSame130 sz x0 s0 x1 s1 ar un dn p q p' q' zz y0 y1 r0 r1 ru rd) (lookΓ gamSame13) Try.prog Try.f23.ntmps 0 (Try.f23.body.getD .skip) (entrySt [.box [.int .i64 sz, .sl x0 (.row p q 5), .int .i64 s0, .sl x1 (.row p' q' 5), .int .i64 s1, .bool ar, .int .i64 un, .bool dn], .val (.agg [.int .i64 zz, .sl y0 .no, .sl y1 .no, .int .i64 r0, .int .i64 r1, .int .i64 ru, .bool rd])]) (exitQ Try.prog Try.f23.results.toList [0] ⟨.bool true, (some [.int .i64 sz, .sl x0 (.row 0 0 5), .int .i64 s0, .sl x1 (.row 0 0 5), .int .i64 s1, .bool ar, .int .i64 un, .bool dn]), none⟩)
def OkSame130 : Prop := ∀ (sz : Int) (x0 : List AV) (s0 : Int) (x1 : List AV) (s1 : Int) (ar : Bool) (un : Int) (dn : Bool) (p q p' q' : Nat) (zz : Int) (y0 y1 : List AV) (r0 r1 ru : Int) (rd : Bool), dkOK sz x0 s0 x1 s1 ar un ∧ zz = sz ∧ y0 = x0 ∧ y1 = x1 ∧ r0 = s0 ∧ r1 = s1 ∧ rd = dn → inSame130 sz x0 s0 x1 s1 ar un dn p q p' q' zz y0 y1 r0 r1 ru rd
end Go.Proofs.Ytddilmocngedjaa
/- What the verification conditions come to: printed by a program of ours (wip/lax/ex/Norm.lean). -/
namespace Go.Proofs.Ytddilmocngedjaa
set_option linter.unusedVariables false
open Go.RowKit
set_option maxRecDepth 100000
theorem vcSize0 (sz : Int) (x0 : (List AV)) (s0 : Int) (x1 : (List AV)) (s1 : Int) (ar : Bool) (un : Int) (dn : Bool) (p : Nat) (q : Nat) (p' : Nat) (q' : Nat) (h : (tt ∧ T1 ∧ tt ∧ T1 ∧ T1 ∧ T1 ∧ tt ∧ T1 ∧ tt ∧ tt ∧ (sz = sz ∧ (0 < 1 ∧ x0 = x0 ∧ (List.length x0) = (List.length x0)) ∧ s0 = s0 ∧ (0 < 1 ∧ x1 = x1 ∧ (List.length x1) = (List.length x1)) ∧ s1 = s1 ∧ ar = ar ∧ un = un ∧ dn = dn ∧ sz = sz ∧ True) ∧ tt)) : inSize0 sz x0 s0 x1 s1 ar un dn p q p' q' :=
  Eq.mp (show _ = _ by kernel_rfl) h
theorem vcSame130 (sz : Int) (x0 : (List AV)) (s0 : Int) (x1 : (List AV)) (s1 : Int) (ar : Bool) (un : Int) (dn : Bool) (p : Nat) (q : Nat) (p' : Nat) (q' : Nat) (zz : Int) (y0 : (List AV)) (y1 : (List AV)) (r0 : Int) (r1 : Int) (ru : Int) (rd : Bool) (h : let w0_x := ((0 : Int) ≤ (0 : Int) ∧ (0 : Int) < (2 : Int)); let w1_x := ((0 : Int) ≤ (1 : Int) ∧ (1 : Int) < (2 : Int)); let w2_x := (tt ∧ tt); (tt ∧ T1 ∧ T1 ∧ tt ∧ T1 ∧ w2_x ∧ tt ∧ T1 ∧ tt ∧ T1 ∧ T1 ∧ tt ∧ T1 ∧ T1 ∧ (((List.length x0) = (List.length x0) ∧ (List.length x1) = (List.length x1) ∧ True) ∧ (isBytes x0) ∧ (isBytes x1) ∧ (List.length x0) ≤ 140737488355328 ∧ (List.length x1) ≤ 140737488355328) ∧ ∀ v0 : (List AV), (v0 = (rd2 0 x0 x1)) → ∀ v2 : Int, (v2 = sz) → ∀ v4 : (List AV), (v4 = x0) → ∀ v6 : Int, (v6 = s0) → ∀ v8 : (List AV), (v8 = x1) → ∀ v10 : Int, (v10 = s1) → ∀ v12 : Int, (v12 = un) → ∀ v14 : Nat, (v14 = (List.length x0)) → ∀ v16 : Nat, (v16 = (List.length x1)) → T1 ∧ T1 ∧ w0_x ∧ tt ∧ (T1 ∧ ((isBytes v0) ∧ (List.length v0) ≤ 9223372036854775807) ∧ (isBytes y0) ∧ (List.length y0) ≤ 9223372036854775807) ∧ T1 ∧ T1 ∧ (bif (Bool.not (@Decidable.decide ((bytesL v0) = (bytesL y0)) (@instDecidableEqList.{0} UInt8 instDecidableEqUInt8 (bytesL v0) (bytesL y0)))) then (tt ∧ tt ∧ tt ∧ T1 ∧ tt ∧ tt ∧ (sz = v2 ∧ (0 < 1 ∧ x0 = v4 ∧ v14 = (List.length v4)) ∧ s0 = v6 ∧ (0 < 1 ∧ x1 = v8 ∧ v16 = (List.length v8)) ∧ s1 = v10 ∧ ar = ar ∧ un = v12 ∧ dn = dn ∧ true = false ∧ True) ∧ tt) else (T1 ∧ T1 ∧ ((v14 = (List.length v4) ∧ v16 = (List.length v8) ∧ True) ∧ True) ∧ ∀ v18 : Int, (v18 = (rdI 0 v6 v10)) → ∀ v20 : Int, (v20 = v2) → ∀ v22 : (List AV), (v22 = v4) → ∀ v24 : Int, (v24 = v6) → ∀ v26 : (List AV), (v26 = v8) → ∀ v28 : Int, (v28 = v10) → ∀ v30 : Int, (v30 = v12) → ∀ v32 : Nat, (v32 = (List.length v4)) → ∀ v34 : Nat, (v34 = (List.length v8)) → T1 ∧ T1 ∧ w0_x ∧ tt ∧ T1 ∧ T1 ∧ tt ∧ (bif (v18 != r0) then (tt ∧ T1 ∧ tt ∧ tt ∧ (sz = v20 ∧ (0 < 1 ∧ x0 = v22 ∧ v32 = (List.length v22)) ∧ s0 = v24 ∧ (0 < 1 ∧ x1 = v26 ∧ v34 = (List.length v26)) ∧ s1 = v28 ∧ ar = ar ∧ un = v30 ∧ dn = dn ∧ true = false ∧ True) ∧ tt) else (tt ∧ T1 ∧ T1 ∧ w2_x ∧ tt ∧ T1 ∧ tt ∧ T1 ∧ T1 ∧ tt ∧ T1 ∧ T1 ∧ ((v32 = (List.length v22) ∧ v34 = (List.length v26) ∧ True) ∧ (isBytes v22) ∧ (isBytes v26) ∧ (List.length v22) ≤ 140737488355328 ∧ (List.length v26) ≤ 140737488355328) ∧ ∀ v36 : (List AV), (v36 = (rd2 1 v22 v26)) → ∀ v38 : Int, (v38 = v20) → ∀ v40 : (List AV), (v40 = v22) → ∀ v42 : Int, (v42 = v24) → ∀ v44 : (List AV), (v44 = v26) → ∀ v46 : Int, (v46 = v28) → ∀ v48 : Int, (v48 = v30) → ∀ v50 : Nat, (v50 = (List.length v22)) → ∀ v52 : Nat, (v52 = (List.length v26)) → T1 ∧ T1 ∧ w1_x ∧ tt ∧ (T1 ∧ ((isBytes v36) ∧ (List.length v36) ≤ 9223372036854775807) ∧ (isBytes y1) ∧ (List.length y1) ≤ 9223372036854775807) ∧ T1 ∧ T1 ∧ (bif (Bool.not (@Decidable.decide ((bytesL v36) = (bytesL y1)) (@instDecidableEqList.{0} UInt8 instDecidableEqUInt8 (bytesL v36) (bytesL y1)))) then (tt ∧ tt ∧ tt ∧ T1 ∧ tt ∧ tt ∧ (sz = v38 ∧ (0 < 1 ∧ x0 = v40 ∧ v50 = (List.length v40)) ∧ s0 = v42 ∧ (0 < 1 ∧ x1 = v44 ∧ v52 = (List.length v44)) ∧ s1 = v46 ∧ ar = ar ∧ un = v48 ∧ dn = dn ∧ true = false ∧ True) ∧ tt) else (T1 ∧ T1 ∧ ((v50 = (List.length v40) ∧ v52 = (List.length v44) ∧ True) ∧ True) ∧ ∀ v54 : Int, (v54 = (rdI 1 v42 v46)) → ∀ v56 : Int, (v56 = v38) → ∀ v58 : (List AV), (v58 = v40) → ∀ v60 : Int, (v60 = v42) → ∀ v62 : (List AV), (v62 = v44) → ∀ v64 : Int, (v64 = v46) → ∀ v66 : Int, (v66 = v48) → ∀ v68 : Nat, (v68 = (List.length v40)) → ∀ v70 : Nat, (v70 = (List.length v44)) → T1 ∧ T1 ∧ w1_x ∧ tt ∧ T1 ∧ T1 ∧ tt ∧ (bif (v54 != r1) then (tt ∧ T1 ∧ tt ∧ tt ∧ (sz = v56 ∧ (0 < 1 ∧ x0 = v58 ∧ v68 = (List.length v58)) ∧ s0 = v60 ∧ (0 < 1 ∧ x1 = v62 ∧ v70 = (List.length v62)) ∧ s1 = v64 ∧ ar = ar ∧ un = v66 ∧ dn = dn ∧ true = false ∧ True) ∧ tt) else (tt ∧ T1 ∧ T1 ∧ w2_x ∧ tt ∧ T1 ∧ tt ∧ T1 ∧ ((v68 = (List.length v58) ∧ v70 = (List.length v62) ∧ True) ∧ True) ∧ ∀ v72 : Int, (v72 = v56) → ∀ v74 : (List AV), (v74 = v58) → ∀ v76 : Int, (v76 = v60) → ∀ v78 : (List AV), (v78 = v62) → ∀ v80 : Int, (v80 = v64) → ∀ v82 : Int, (v82 = v66) → ∀ v84 : Nat, (v84 = (List.length v58)) → ∀ v86 : Nat, (v86 = (List.length v62)) → T1 ∧ tt ∧ T1 ∧ T1 ∧ (bif (@BEq.beq.{0} Bool (@instBEqOfDecidableEq.{0} Bool instDecidableEqBool) dn rd) then (T1 ∧ ((v84 = (List.length v74) ∧ v86 = (List.length v78) ∧ True) ∧ (dkOK v72 v74 v76 v78 v80 ar v82)) ∧ ∀ v88 : Int, (v88 = ((v72 - ((List.length v74) : Int)) - ((List.length v78) : Int))) → ∀ v90 : Int, (v90 = v72) → ∀ v92 : (List AV), (v92 = v74) → ∀ v94 : Int, (v94 = v76) → ∀ v96 : (List AV), (v96 = v78) → ∀ v98 : Int, (v98 = v80) → ∀ v100 : Int, (v100 = v82) → ∀ v102 : Nat, (v102 = (List.length v74)) → ∀ v104 : Nat, (v104 = (List.length v78)) → T1 ∧ tt ∧ T1 ∧ w0_x ∧ tt ∧ T1 ∧ T1 ∧ T1 ∧ w1_x ∧ tt ∧ T1 ∧ T1 ∧ T1 ∧ T1 ∧ T1 ∧ (bif (v88 == (IntKind.wrap IntKind.i64 ((IntKind.wrap IntKind.i64 (zz - ((List.length y0) : Int))) - ((List.length y1) : Int)))) then (T1 ∧ ((v102 = (List.length v92) ∧ v104 = (List.length v96) ∧ True) ∧ True) ∧ ∀ v106 : Int, (v106 = v90) → ∀ v108 : Int, (v108 = v90) → ∀ v110 : (List AV), (v110 = v92) → ∀ v112 : Int, (v112 = v94) → ∀ v114 : (List AV), (v114 = v96) → ∀ v116 : Int, (v116 = v98) → ∀ v118 : Int, (v118 = v100) → ∀ v120 : Nat, (v120 = (List.length v92)) → ∀ v122 : Nat, (v122 = (List.length v96)) → T1 ∧ tt ∧ T1 ∧ T1 ∧ T1 ∧ (bif (v106 == zz) then (T1 ∧ ((v120 = (List.length v110) ∧ v122 = (List.length v114) ∧ True) ∧ (isBytes v110) ∧ (isBytes v114) ∧ (List.length v110) ≤ 140737488355328 ∧ (List.length v114) ≤ 140737488355328) ∧ ∀ v124 : (List AV), (v124 = (rd2 2 v110 v114)) → ∀ v126 : Int, (v126 = v108) → ∀ v128 : (List AV), (v128 = v110) → ∀ v130 : Int, (v130 = v112) → ∀ v132 : (List AV), (v132 = v114) → ∀ v134 : Int, (v134 = v116) → ∀ v136 : Int, (v136 = v118) → ∀ v138 : Nat, (v138 = (List.length v110)) → ∀ v140 : Nat, (v140 = (List.length v114)) → T1 ∧ T1 ∧ T1 ∧ T1 ∧ (bif (((List.length v124) : Int) == 0) then (T1 ∧ ((v138 = (List.length v128) ∧ v140 = (List.length v132) ∧ True) ∧ True) ∧ ∀ v142 : Int, (v142 = (rdI (@Neg.neg.{0} Int Int.instNegInt (1 : Int)) v130 v134)) → ∀ v144 : Int, (v144 = v126) → ∀ v146 : (List AV), (v146 = v128) → ∀ v148 : Int, (v148 = v130) → ∀ v150 : (List AV), (v150 = v132) → ∀ v152 : Int, (v152 = v134) → ∀ v154 : Int, (v154 = v136) → ∀ v156 : Nat, (v156 = (List.length v128)) → ∀ v158 : Nat, (v158 = (List.length v132)) → T1 ∧ T1 ∧ T1 ∧ tt ∧ tt ∧ tt ∧ (sz = v144 ∧ (0 < 1 ∧ x0 = v146 ∧ v156 = (List.length v146)) ∧ s0 = v148 ∧ (0 < 1 ∧ x1 = v150 ∧ v158 = (List.length v150)) ∧ s1 = v152 ∧ ar = ar ∧ un = v154 ∧ dn = dn ∧ true = (v142 == 0) ∧ True) ∧ tt) else (false = false ∧ T1 ∧ tt ∧ tt ∧ tt ∧ (sz = v126 ∧ (0 < 1 ∧ x0 = v128 ∧ v138 = (List.length v128)) ∧ s0 = v130 ∧ (0 < 1 ∧ x1 = v132 ∧ v140 = (List.length v132)) ∧ s1 = v134 ∧ ar = ar ∧ un = v136 ∧ dn = dn ∧ true = false ∧ True) ∧ tt))) else (false = false ∧ T1 ∧ false = false ∧ T1 ∧ tt ∧ tt ∧ tt ∧ (sz = v108 ∧ (0 < 1 ∧ x0 = v110 ∧ v120 = (List.length v110)) ∧ s0 = v112 ∧ (0 < 1 ∧ x1 = v114 ∧ v122 = (List.length v114)) ∧ s1 = v116 ∧ ar = ar ∧ un = v118 ∧ dn = dn ∧ true = false ∧ True) ∧ tt))) else (false = false ∧ T1 ∧ false = false ∧ T1 ∧ false = false ∧ T1 ∧ tt ∧ tt ∧ tt ∧ (sz = v90 ∧ (0 < 1 ∧ x0 = v92 ∧ v102 = (List.length v92)) ∧ s0 = v94 ∧ (0 < 1 ∧ x1 = v96 ∧ v104 = (List.length v96)) ∧ s1 = v98 ∧ ar = ar ∧ un = v100 ∧ dn = dn ∧ true = false ∧ True) ∧ tt))) else (false = false ∧ T1 ∧ false = false ∧ T1 ∧ false = false ∧ T1 ∧ false = false ∧ T1 ∧ tt ∧ tt ∧ tt ∧ (sz = v72 ∧ (0 < 1 ∧ x0 = v74 ∧ v84 = (List.length v74)) ∧ s0 = v76 ∧ (0 < 1 ∧ x1 = v78 ∧ v86 = (List.length v78)) ∧ s1 = v80 ∧ ar = ar ∧ un = v82 ∧ dn = dn ∧ true = false ∧ True) ∧ tt)))))))))))) : inSame130 sz x0 s0 x1 s1 ar un dn p q p' q' zz y0 y1 r0 r1 ru rd :=
  Eq.mp (show _ = _ by kernel_rfl) h
end Go.Proofs.Ytddilmocngedjaa
/- The condition of 'same' holds. -/
namespace Go.Proofs.Ytddilmocngedjaa
set_option linter.unusedVariables false
set_option linter.unusedSimpArgs false
open Go.RowKit
set_option maxRecDepth 100000
theorem okSize0 : OkSize0 := by
  intro sz x0 s0 x1 s1 ar un dn p q p' q' hq
  refine vcSize0 sz x0 s0 x1 s1 ar un dn p q p' q' ?_
  simp
theorem okSame130 : OkSame130 := by
  intro sz x0 s0 x1 s1 ar un dn p q p' q' zz y0 y1 r0 r1 ru rd hq
  refine vcSame130 sz x0 s0 x1 s1 ar un dn p q p' q' zz y0 y1 r0 r1 ru rd ?_
  obtain ⟨hd, rfl, rfl, rfl, rfl, rfl, rfl⟩ := hq
  have hd' := hd
  obtain ⟨h1, h2, h3, h4, h5, h6, h7, h8, h9, h10⟩ := hd'
  have e0 : rd2 0 y0 y1 = y0 := rfl
  have e1 : rd2 1 y0 y1 = y1 := rfl
  have e2 : rd2 2 y0 y1 = [] := rfl
  have f0 : rdI 0 r0 r1 = r0 := rfl
  have f1 : rdI 1 r0 r1 = r1 := rfl
  have f2 : rdI (-1) r0 r1 = 0 := rfl
  have l0 : y0.length ≤ 140737488355328 := by omega
  have l1 : y1.length ≤ 140737488355328 := by omega
  have l2 : y0.length ≤ 9223372036854775807 := by omega
  have l3 : y1.length ≤ 9223372036854775807 := by omega
  have w1 : IntKind.wrap .i64 (zz - (y0.length : Int)) = zz - y0.length := wrap_i64 (by omega) (by omega)
  have w2 : IntKind.wrap .i64 (zz - (y0.length : Int) - y1.length) = zz - y0.length - y1.length := wrap_i64 (by omega) (by omega)
  simp only [true_and, and_true, forall_eq, eq_self, e0, e1, e2, f0, f1, f2, w1, w2, decide_true, Bool.not_true, cond_false, beq_self_eq_true, cond_true, bne_self_eq_false, List.length_nil]
  simp [h3, h4, l0, l1, l2, l3, hd]
end Go.Proofs.Ytddilmocngedjaa
/- The contracts are met. -/
namespace Go.Proofs.Ytddilmocngedjaa
set_option linter.unusedVariables false
set_option linter.unusedSimpArgs false
open Go.RowKit
theorem sndSize : Sound Try.prog (lookΓ gamSize) := sound_of _ fun p hp => by
  simp [gamSize] at hp
set_option maxHeartbeats 4000000 in
theorem meetsSize : Meets Try.prog 45 sizeF := by
  refine meets_of_awp (Γ := lookΓ gamSize) (L := fun _ _ => none) sndSize mixedOrders Try.func45 rfl Try.call45 ?_
  intro args q r hF hq ho
  unfold sizeF at hF
  split at hF
  · split at hF
    · rename_i hte
      obtain ⟨hte0, hte1⟩ := hte
      subst hte0
      subst hte1
      cases hF
      exact ⟨by simp only [List.length_cons, List.length_nil]; decide, okSize0 _ _ _ _ _ _ _ _ _ _ _ _ hq⟩
    · cases hF
  · cases hF
theorem sndSame13 : Sound Try.prog (lookΓ gamSame13) := sound_of _ fun p hp => by
  simp only [gamSame13, List.mem_cons, List.not_mem_nil, or_false] at hp
  rcases hp with rfl | rfl | rfl | rfl | rfl | rfl
  · exact meetsRead.orNil
  · exact meetsSafe.orNil
  · exact meetsDown.orNil
  · exact meetsLeft.orNil
  · exact meetsSameD.orNil
  · exact meetsSize.orNil
set_option maxHeartbeats 4000000 in
theorem meetsSame13 : Meets Try.prog 23 same13F := by
  refine meets_of_awp (Γ := lookΓ gamSame13) (L := fun args => match args with | [.box [.int .i64 sz, .sl x0 (.row p q te0), .int .i64 s0, .sl x1 (.row p' q' te1), .int .i64 s1, .bool ar, .int .i64 un, .bool dn], .val (.agg [.int .i64 zz, .sl y0 .no, .sl y1 .no, .int .i64 r0, .int .i64 r1, .int .i64 ru, .bool rd])] => lpSame130 sz x0 s0 x1 s1 ar un dn p q p' q' zz y0 y1 r0 r1 ru rd | _ => fun _ => none) sndSame13 mixedOrders Try.func23 rfl Try.call23 ?_
  intro args q r hF hq ho
  unfold same13F at hF
  split at hF
  · split at hF
    · rename_i hte
      obtain ⟨hte0, hte1⟩ := hte
      subst hte0
      subst hte1
      cases hF
      exact ⟨by simp only [List.length_cons, List.length_nil]; decide, okSame130 _ _ _ _ _ _ _ _ _ _ _ _ _ _ _ _ _ _ _ hq⟩
    · cases hF
  · cases hF
end Go.Proofs.Ytddilmocngedjaa
