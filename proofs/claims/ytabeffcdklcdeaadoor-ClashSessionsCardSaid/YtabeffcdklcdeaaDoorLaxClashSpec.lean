/- Contracts by content, and the conditions that their code must meet. -/
import Derived.Test.YtabeffcdklcdeaaDoorLaxCmdC
namespace Go.Proofs.YtabeffcdklcdeaaDoor
set_option linter.unusedVariables false
set_option linter.unusedSimpArgs false
open Go.RowKit
def overP (p q : List UInt8) : Bool := refAboveP p q || refAboveP q p
def clashC (a b : CmdP) : Bool := footOK a && footOK b && (decide (a.num = b.num) || overP (footV a) (footV b))
def rfootF : Con
  | [.val (.agg [.int .i64 k, .int .u64 num, .str foot, .int .u64 rq, .str path, .int .i64 mode, .int .u64 n, .int .i64 time])] => some (foot.length ≤ 900000 ∧ path.length ≤ 900000, ⟨.tup [.str (footV ⟨k, num, foot, rq, path, mode, n, time⟩), .bool (footOK ⟨k, num, foot, rq, path, mode, n, time⟩)], none, none⟩)
  | _ => none
def gamRfoot : List (Nat × Con) := [(67, has07F.orNil), (40, rrightF.orNil)]
def lpRfoot0 (k num : Int) (foot : List UInt8) (rq : Int) (path : List UInt8) (mode n time : Int) : Nat → Option LoopPlan := fun _ => none
def inRfoot0 (k num : Int) (foot : List UInt8) (rq : Int) (path : List UInt8) (mode n time : Int) : Prop := awp [] (lpRfoot0 k num foot rq path mode n time) (lookΓ gamRfoot) Tryd.prog Tryd.f41.ntmps 0 (Tryd.f41.body.getD .skip) (entrySt [.val (.agg [.int .i64 k, .int .u64 num, .str foot, .int .u64 rq, .str path, .int .i64 mode, .int .u64 n, .int .i64 time])]) (exitQ Tryd.prog Tryd.f41.results.toList [] ⟨.tup [.str (footV ⟨k, num, foot, rq, path, mode, n, time⟩), .bool (footOK ⟨k, num, foot, rq, path, mode, n, time⟩)], none, none⟩)
def OkRfoot0 : Prop := ∀ (k num : Int) (foot : List UInt8) (rq : Int) (path : List UInt8) (mode n time : Int), foot.length ≤ 900000 ∧ path.length ≤ 900000 → inRfoot0 k num foot rq path mode n time
def rclashF : Con
  | [.val (.agg [.int .i64 k, .int .u64 num, .str foot, .int .u64 rq, .str path, .int .i64 mode, .int .u64 n, .int .i64 time]), .val (.agg [.int .i64 k2, .int .u64 num2, .str foot2, .int .u64 rq2, .str path2, .int .i64 mode2, .int .u64 n2, .int .i64 time2])] => some (foot.length ≤ 900000 ∧ path.length ≤ 900000 ∧ foot2.length ≤ 900000 ∧ path2.length ≤ 900000, ⟨.bool (clashC ⟨k, num, foot, rq, path, mode, n, time⟩ ⟨k2, num2, foot2, rq2, path2, mode2, n2, time2⟩), none, none⟩)
  | _ => none
def gamRclash : List (Nat × Con) := [(41, rfootF.orNil), (43, refOverlapF.orNil)]
def lpRclash0 (k num : Int) (foot : List UInt8) (rq : Int) (path : List UInt8) (mode n time : Int) (k2 num2 : Int) (foot2 : List UInt8) (rq2 : Int) (path2 : List UInt8) (mode2 n2 time2 : Int) : Nat → Option LoopPlan := fun _ => none
def inRclash0 (k num : Int) (foot : List UInt8) (rq : Int) (path : List UInt8) (mode n time : Int) (k2 num2 : Int) (foot2 : List UInt8) (rq2 : Int) (path2 : List UInt8) (mode2 n2 time2 : Int) : Prop := awp [] (lpRclash0 k num foot rq path mode n time k2 num2 foot2 rq2 path2 mode2 n2 time2) (lookΓ gamRclash) Tryd.prog Tryd.f36.ntmps 0 (Tryd.f36.body.getD .skip) (entrySt [.val (.agg [.int .i64 k, .int .u64 num, .str foot, .int .u64 rq, .str path, .int .i64 mode, .int .u64 n, .int .i64 time]), .val (.agg [.int .i64 k2, .int .u64 num2, .str foot2, .int .u64 rq2, .str path2, .int .i64 mode2, .int .u64 n2, .int .i64 time2])]) (exitQ Tryd.prog Tryd.f36.results.toList [] ⟨.bool (clashC ⟨k, num, foot, rq, path, mode, n, time⟩ ⟨k2, num2, foot2, rq2, path2, mode2, n2, time2⟩), none, none⟩)
def OkRclash0 : Prop := ∀ (k num : Int) (foot : List UInt8) (rq : Int) (path : List UInt8) (mode n time : Int) (k2 num2 : Int) (foot2 : List UInt8) (rq2 : Int) (path2 : List UInt8) (mode2 n2 time2 : Int), foot.length ≤ 900000 ∧ path.length ≤ 900000 ∧ foot2.length ≤ 900000 ∧ path2.length ≤ 900000 → inRclash0 k num foot rq path mode n time k2 num2 foot2 rq2 path2 mode2 n2 time2
def of08F : Con
  | [.val (.agg [.int .i64 k, .int .u64 num, .str foot, .int .u64 rq, .str path, .int .i64 mode, .int .u64 n, .int .i64 time])] => some (True, ⟨.agg [.int .i64 k, .int .u64 num, .str foot, .int .u64 rq, .str path, .int .i64 mode, .int .u64 n, .int .i64 time], none, none⟩)
  | _ => none
def gamOf08 : List (Nat × Con) := []
def lpOf080 (k num : Int) (foot : List UInt8) (rq : Int) (path : List UInt8) (mode n time : Int) : Nat → Option LoopPlan := fun _ => none
def inOf080 (k num : Int) (foot : List UInt8) (rq : Int) (path : List UInt8) (mode n time : Int) : Prop := awp [] (lpOf080 k num foot rq path mode n time) (lookΓ gamOf08) Tryd.prog Tryd.f37.ntmps 0 (Tryd.f37.body.getD .skip) (entrySt [.val (.agg [.int .i64 k, .int .u64 num, .str foot, .int .u64 rq, .str path, .int .i64 mode, .int .u64 n, .int .i64 time])]) (exitQ Tryd.prog Tryd.f37.results.toList [] ⟨.agg [.int .i64 k, .int .u64 num, .str foot, .int .u64 rq, .str path, .int .i64 mode, .int .u64 n, .int .i64 time], none, none⟩)
def OkOf080 : Prop := ∀ (k num : Int) (foot : List UInt8) (rq : Int) (path : List UInt8) (mode n time : Int), True → inOf080 k num foot rq path mode n time
def small08F : Con
  | [.val (.agg [.int .i64 k, .int .u64 num, .str foot, .int .u64 rq, .str path, .int .i64 mode, .int .u64 n, .int .i64 time])] => some (foot.length ≤ 9223372036854775807 ∧ path.length ≤ 9223372036854775807, ⟨.bool (decide (path.length < 200) && decide (foot.length < 200)), none, none⟩)
  | _ => none
def gamSmall08 : List (Nat × Con) := []
def lpSmall080 (k num : Int) (foot : List UInt8) (rq : Int) (path : List UInt8) (mode n time : Int) : Nat → Option LoopPlan := fun _ => none
def inSmall080 (k num : Int) (foot : List UInt8) (rq : Int) (path : List UInt8) (mode n time : Int) : Prop := awp [] (lpSmall080 k num foot rq path mode n time) (lookΓ gamSmall08) Tryd.prog Tryd.f35.ntmps 0 (Tryd.f35.body.getD .skip) (entrySt [.val (.agg [.int .i64 k, .int .u64 num, .str foot, .int .u64 rq, .str path, .int .i64 mode, .int .u64 n, .int .i64 time])]) (exitQ Tryd.prog Tryd.f35.results.toList [] ⟨.bool (decide (path.length < 200) && decide (foot.length < 200)), none, none⟩)
def OkSmall080 : Prop := ∀ (k num : Int) (foot : List UInt8) (rq : Int) (path : List UInt8) (mode n time : Int), foot.length ≤ 9223372036854775807 ∧ path.length ≤ 9223372036854775807 → inSmall080 k num foot rq path mode n time
def keyOfF : Con
  | [.val (.agg [.int .i64 k, .int .u64 num, .str foot, .int .u64 rq, .str path, .int .i64 mode, .int .u64 n, .int .i64 time])] => some (foot.length ≤ 900000 ∧ path.length ≤ 900000, ⟨.tup [.agg [.str (bif footOK ⟨k, num, foot, rq, path, mode, n, time⟩ then footV ⟨k, num, foot, rq, path, mode, n, time⟩ else []), .int .u64 (bif footOK ⟨k, num, foot, rq, path, mode, n, time⟩ then num else 0)], .bool (footOK ⟨k, num, foot, rq, path, mode, n, time⟩)], none, none⟩)
  | _ => none
def gamKeyOf : List (Nat × Con) := [(49, cfootF.orNil)]
def lpKeyOf0 (k num : Int) (foot : List UInt8) (rq : Int) (path : List UInt8) (mode n time : Int) : Nat → Option LoopPlan := fun _ => none
def inKeyOf0 (k num : Int) (foot : List UInt8) (rq : Int) (path : List UInt8) (mode n time : Int) : Prop := awp [] (lpKeyOf0 k num foot rq path mode n time) (lookΓ gamKeyOf) Tryd.prog Tryd.f38.ntmps 0 (Tryd.f38.body.getD .skip) (entrySt [.val (.agg [.int .i64 k, .int .u64 num, .str foot, .int .u64 rq, .str path, .int .i64 mode, .int .u64 n, .int .i64 time])]) (exitQ Tryd.prog Tryd.f38.results.toList [] ⟨.tup [.agg [.str (bif footOK ⟨k, num, foot, rq, path, mode, n, time⟩ then footV ⟨k, num, foot, rq, path, mode, n, time⟩ else []), .int .u64 (bif footOK ⟨k, num, foot, rq, path, mode, n, time⟩ then num else 0)], .bool (footOK ⟨k, num, foot, rq, path, mode, n, time⟩)], none, none⟩)
def OkKeyOf0 : Prop := ∀ (k num : Int) (foot : List UInt8) (rq : Int) (path : List UInt8) (mode n time : Int), foot.length ≤ 900000 ∧ path.length ≤ 900000 → inKeyOf0 k num foot rq path mode n time
def keyClashF : Con
  | [.val (.agg [.str p, .int .u64 a]), .val (.agg [.str q, .int .u64 b])] => some (p.length ≤ 900000 ∧ q.length ≤ 900000, ⟨.bool (decide (a = b) || overP p q), none, none⟩)
  | _ => none
def gamKeyClash : List (Nat × Con) := [(18, overlapF.orNil)]
def lpKeyClash0 (p : List UInt8) (a : Int) (q : List UInt8) (b : Int) : Nat → Option LoopPlan := fun _ => none
def inKeyClash0 (p : List UInt8) (a : Int) (q : List UInt8) (b : Int) : Prop := awp [] (lpKeyClash0 p a q b) (lookΓ gamKeyClash) Tryd.prog Tryd.f42.ntmps 0 (Tryd.f42.body.getD .skip) (entrySt [.val (.agg [.str p, .int .u64 a]), .val (.agg [.str q, .int .u64 b])]) (exitQ Tryd.prog Tryd.f42.results.toList [] ⟨.bool (decide (a = b) || overP p q), none, none⟩)
def OkKeyClash0 : Prop := ∀ (p : List UInt8) (a : Int) (q : List UInt8) (b : Int), p.length ≤ 900000 ∧ q.length ≤ 900000 → inKeyClash0 p a q b
def clashF : Con
  | [.val (.agg [.int .i64 k, .int .u64 num, .str foot, .int .u64 rq, .str path, .int .i64 mode, .int .u64 n, .int .i64 time]), .val (.agg [.int .i64 k2, .int .u64 num2, .str foot2, .int .u64 rq2, .str path2, .int .i64 mode2, .int .u64 n2, .int .i64 time2])] => some (foot.length ≤ 900000 ∧ path.length ≤ 900000 ∧ foot2.length ≤ 900000 ∧ path2.length ≤ 900000, ⟨.bool (clashC ⟨k, num, foot, rq, path, mode, n, time⟩ ⟨k2, num2, foot2, rq2, path2, mode2, n2, time2⟩), none, none⟩)
  | _ => none
def gamClash : List (Nat × Con) := [(38, keyOfF.orNil), (42, keyClashF.orNil)]
def lpClash0 (k num : Int) (foot : List UInt8) (rq : Int) (path : List UInt8) (mode n time : Int) (k2 num2 : Int) (foot2 : List UInt8) (rq2 : Int) (path2 : List UInt8) (mode2 n2 time2 : Int) : Nat → Option LoopPlan := fun _ => none
def inClash0 (k num : Int) (foot : List UInt8) (rq : Int) (path : List UInt8) (mode n time : Int) (k2 num2 : Int) (foot2 : List UInt8) (rq2 : Int) (path2 : List UInt8) (mode2 n2 time2 : Int) : Prop := awp [] (lpClash0 k num foot rq path mode n time k2 num2 foot2 rq2 path2 mode2 n2 time2) (lookΓ gamClash) Tryd.prog Tryd.f39.ntmps 0 (Tryd.f39.body.getD .skip) (entrySt [.val (.agg [.int .i64 k, .int .u64 num, .str foot, .int .u64 rq, .str path, .int .i64 mode, .int .u64 n, .int .i64 time]), .val (.agg [.int .i64 k2, .int .u64 num2, .str foot2, .int .u64 rq2, .str path2, .int .i64 mode2, .int .u64 n2, .int .i64 time2])]) (exitQ Tryd.prog Tryd.f39.results.toList [] ⟨.bool (clashC ⟨k, num, foot, rq, path, mode, n, time⟩ ⟨k2, num2, foot2, rq2, path2, mode2, n2, time2⟩), none, none⟩)
def OkClash0 : Prop := ∀ (k num : Int) (foot : List UInt8) (rq : Int) (path : List UInt8) (mode n time : Int) (k2 num2 : Int) (foot2 : List UInt8) (rq2 : Int) (path2 : List UInt8) (mode2 n2 time2 : Int), foot.length ≤ 900000 ∧ path.length ≤ 900000 ∧ foot2.length ≤ 900000 ∧ path2.length ≤ 900000 → inClash0 k num foot rq path mode n time k2 num2 foot2 rq2 path2 mode2 n2 time2
def anchor08F : Con
  | [] => some (True, ⟨.bool true, none, none⟩)
  | _ => none
def gamAnchor08 : List (Nat × Con) := [(39, clashF.orNil)]
def lpAnchor080  : Nat → Option LoopPlan := fun _ => none
def inAnchor080  : Prop := awp [] (lpAnchor080) (lookΓ gamAnchor08) Tryd.prog Tryd.f34.ntmps 0 (Tryd.f34.body.getD .skip) (entrySt []) (exitQ Tryd.prog Tryd.f34.results.toList [] ⟨.bool true, none, none⟩)
def OkAnchor080 : Prop := True → inAnchor080
def lawPairsF : Con
  | [.val (.agg [.int .i64 k, .int .u64 num, .str foot, .int .u64 rq, .str path, .int .i64 mode, .int .u64 n, .int .i64 time]), .val (.agg [.int .i64 k2, .int .u64 num2, .str foot2, .int .u64 rq2, .str path2, .int .i64 mode2, .int .u64 n2, .int .i64 time2])] => some (foot.length ≤ 9223372036854775807 ∧ path.length ≤ 9223372036854775807 ∧ foot2.length ≤ 9223372036854775807 ∧ path2.length ≤ 9223372036854775807, ⟨.bool true, none, none⟩)
  | _ => none
def gamLawPairs : List (Nat × Con) := [(34, anchor08F.orNil), (35, small08F.orNil), (37, of08F.orNil), (36, rclashF.orNil), (38, keyOfF.orNil), (39, clashF.orNil), (40, rrightF.orNil)]
def lpLawPairs0 (k num : Int) (foot : List UInt8) (rq : Int) (path : List UInt8) (mode n time : Int) (k2 num2 : Int) (foot2 : List UInt8) (rq2 : Int) (path2 : List UInt8) (mode2 n2 time2 : Int) : Nat → Option LoopPlan := fun _ => none
def inLawPairs0 (k num : Int) (foot : List UInt8) (rq : Int) (path : List UInt8) (mode n time : Int) (k2 num2 : Int) (foot2 : List UInt8) (rq2 : Int) (path2 : List UInt8) (mode2 n2 time2 : Int) : Prop := awp [] (lpLawPairs0 k num foot rq path mode n time k2 num2 foot2 rq2 path2 mode2 n2 time2) (lookΓ gamLawPairs) Tryd.prog Tryd.f10.ntmps 0 (Tryd.f10.body.getD .skip) (entrySt [.val (.agg [.int .i64 k, .int .u64 num, .str foot, .int .u64 rq, .str path, .int .i64 mode, .int .u64 n, .int .i64 time]), .val (.agg [.int .i64 k2, .int .u64 num2, .str foot2, .int .u64 rq2, .str path2, .int .i64 mode2, .int .u64 n2, .int .i64 time2])]) (exitQ Tryd.prog Tryd.f10.results.toList [] ⟨.bool true, none, none⟩)
def OkLawPairs0 : Prop := ∀ (k num : Int) (foot : List UInt8) (rq : Int) (path : List UInt8) (mode n time : Int) (k2 num2 : Int) (foot2 : List UInt8) (rq2 : Int) (path2 : List UInt8) (mode2 n2 time2 : Int), foot.length ≤ 9223372036854775807 ∧ path.length ≤ 9223372036854775807 ∧ foot2.length ≤ 9223372036854775807 ∧ path2.length ≤ 9223372036854775807 → inLawPairs0 k num foot rq path mode n time k2 num2 foot2 rq2 path2 mode2 n2 time2
def lawKeysF : Con
  | [.val (.agg [.int .i64 k, .int .u64 num, .str foot, .int .u64 rq, .str path, .int .i64 mode, .int .u64 n, .int .i64 time]), .val (.agg [.str p, .int .u64 a]), .val (.agg [.str q, .int .u64 b])] => some (foot.length ≤ 9223372036854775807 ∧ path.length ≤ 9223372036854775807 ∧ p.length ≤ 9223372036854775807 ∧ q.length ≤ 9223372036854775807, ⟨.bool true, none, none⟩)
  | _ => none
def gamLawKeys : List (Nat × Con) := [(34, anchor08F.orNil), (35, small08F.orNil), (37, of08F.orNil), (41, rfootF.orNil), (38, keyOfF.orNil), (42, keyClashF.orNil), (43, refOverlapF.orNil)]
def lpLawKeys0 (k num : Int) (foot : List UInt8) (rq : Int) (path : List UInt8) (mode n time : Int) (p : List UInt8) (a : Int) (q : List UInt8) (b : Int) : Nat → Option LoopPlan := fun _ => none
def inLawKeys0 (k num : Int) (foot : List UInt8) (rq : Int) (path : List UInt8) (mode n time : Int) (p : List UInt8) (a : Int) (q : List UInt8) (b : Int) : Prop := awp [] (lpLawKeys0 k num foot rq path mode n time p a q b) (lookΓ gamLawKeys) Tryd.prog Tryd.f11.ntmps 0 (Tryd.f11.body.getD .skip) (entrySt [.val (.agg [.int .i64 k, .int .u64 num, .str foot, .int .u64 rq, .str path, .int .i64 mode, .int .u64 n, .int .i64 time]), .val (.agg [.str p, .int .u64 a]), .val (.agg [.str q, .int .u64 b])]) (exitQ Tryd.prog Tryd.f11.results.toList [] ⟨.bool true, none, none⟩)
def OkLawKeys0 : Prop := ∀ (k num : Int) (foot : List UInt8) (rq : Int) (path : List UInt8) (mode n time : Int) (p : List UInt8) (a : Int) (q : List UInt8) (b : Int), foot.length ≤ 9223372036854775807 ∧ path.length ≤ 9223372036854775807 ∧ p.length ≤ 9223372036854775807 ∧ q.length ≤ 9223372036854775807 → inLawKeys0 k num foot rq path mode n time p a q b
def lawSessionsF : Con
  | [.val (.agg [.int .i64 k, .int .u64 num, .str foot, .int .u64 rq, .str path, .int .i64 mode, .int .u64 n, .int .i64 time]), .val (.agg [.int .i64 k2, .int .u64 num2, .str foot2, .int .u64 rq2, .str path2, .int .i64 mode2, .int .u64 n2, .int .i64 time2])] => some (foot.length ≤ 9223372036854775807 ∧ path.length ≤ 9223372036854775807 ∧ foot2.length ≤ 9223372036854775807 ∧ path2.length ≤ 9223372036854775807, ⟨.bool true, none, none⟩)
  | _ => none
def gamLawSessions : List (Nat × Con) := [(34, anchor08F.orNil), (35, small08F.orNil), (37, of08F.orNil), (40, rrightF.orNil), (16, refAboveF.orNil), (22, refRightF.orNil), (43, refOverlapF.orNil), (39, clashF.orNil)]
def lpLawSessions0 (k num : Int) (foot : List UInt8) (rq : Int) (path : List UInt8) (mode n time : Int) (k2 num2 : Int) (foot2 : List UInt8) (rq2 : Int) (path2 : List UInt8) (mode2 n2 time2 : Int) : Nat → Option LoopPlan := fun _ => none
def inLawSessions0 (k num : Int) (foot : List UInt8) (rq : Int) (path : List UInt8) (mode n time : Int) (k2 num2 : Int) (foot2 : List UInt8) (rq2 : Int) (path2 : List UInt8) (mode2 n2 time2 : Int) : Prop := awp [] (lpLawSessions0 k num foot rq path mode n time k2 num2 foot2 rq2 path2 mode2 n2 time2) (lookΓ gamLawSessions) Tryd.prog Tryd.f12.ntmps 0 (Tryd.f12.body.getD .skip) (entrySt [.val (.agg [.int .i64 k, .int .u64 num, .str foot, .int .u64 rq, .str path, .int .i64 mode, .int .u64 n, .int .i64 time]), .val (.agg [.int .i64 k2, .int .u64 num2, .str foot2, .int .u64 rq2, .str path2, .int .i64 mode2, .int .u64 n2, .int .i64 time2])]) (exitQ Tryd.prog Tryd.f12.results.toList [] ⟨.bool true, none, none⟩)
def OkLawSessions0 : Prop := ∀ (k num : Int) (foot : List UInt8) (rq : Int) (path : List UInt8) (mode n time : Int) (k2 num2 : Int) (foot2 : List UInt8) (rq2 : Int) (path2 : List UInt8) (mode2 n2 time2 : Int), foot.length ≤ 9223372036854775807 ∧ path.length ≤ 9223372036854775807 ∧ foot2.length ≤ 9223372036854775807 ∧ path2.length ≤ 9223372036854775807 → inLawSessions0 k num foot rq path mode n time k2 num2 foot2 rq2 path2 mode2 n2 time2
end Go.Proofs.YtabeffcdklcdeaaDoor
