/- Files that there are, and others: contracts joined. -/
import Derived.Test.YtddilmocngedjaaLaxPkDisk
import Derived.Test.YtddilmocngedjaaLaxPkDiskR
namespace Go.Proofs.Ytddilmocngedjaa
open Go.RowKit
set_option linter.unusedVariables false
theorem Meets.join {P : Program} {f : Nat} {F1 F2 F : Con} (h1 : Meets P f F1) (h2 : Meets P f F2)
    (h : ∀ args q r, F args = some (q, r) → q → (∃ q', F1 args = some (q', r) ∧ q') ∨ ∃ q', F2 args = some (q', r) ∧ q') : Meets P f F := by
  refine ⟨h1.enters, fun args us w GE own d site q r hF hq hc hsite hs => ?_⟩
  rcases h args q r hF hq with ⟨q', e, hq'⟩ | ⟨q', e, hq'⟩
  · exact h1.calls _ us w GE own d site _ _ e hq' hc hsite hs
  · exact h2.calls _ us w GE own d site _ _ e hq' hc hsite hs
def safeF : Con
  | [.box [.int .i64 sz, .sl x0 (.row p q te0), .int .i64 s0, .sl x1 (.row p' q' te1), .int .i64 s1, .bool ar, .int .i64 un, .bool dn], .val (.int .i64 f)] => (if te0 = 5 ∧ te1 = 5 then some (True, ⟨.int .i64 (rdI f s0 s1), (some [.int .i64 sz, .sl x0 (.row 0 0 5), .int .i64 s0, .sl x1 (.row 0 0 5), .int .i64 s1, .bool ar, .int .i64 un, .bool dn]), none⟩) else none)
  | [.box [.int .i64 sz, .sl x0 .no, .int .i64 s0, .sl x1 .no, .int .i64 s1, .bool ar, .int .i64 un, .bool dn], .val (.int .i64 f)] => (some (True, ⟨.int .i64 (rdI f s0 s1), (some [.int .i64 sz, .sl x0 .no, .int .i64 s0, .sl x1 .no, .int .i64 s1, .bool ar, .int .i64 un, .bool dn]), none⟩))
  | _ => none
theorem meetsSafe : Meets Try.prog 17 safeF := by
  refine meetsSafeI.join meetsSafeO ?_
  intro args q r hF hq
  unfold safeF at hF
  split at hF
  · split at hF
    · rename_i hte
      obtain ⟨rfl, rfl⟩ := hte
      cases hF
      rcases hf : isFile _ with _ | _
      · exact .inr ⟨_, rfl, hf⟩
      · exact .inl ⟨_, rfl, hf⟩
    · cases hF
  · cases hF
    rcases hf : isFile _ with _ | _
    · exact .inr ⟨_, rfl, hf⟩
    · exact .inl ⟨_, rfl, hf⟩
  · cases hF
def readF : Con
  | [.box [.int .i64 sz, .sl x0 (.row p q te0), .int .i64 s0, .sl x1 (.row p' q' te1), .int .i64 s1, .bool ar, .int .i64 un, .bool dn], .val (.int .i64 f)] => (if te0 = 5 ∧ te1 = 5 then some (isBytes x0 ∧ isBytes x1 ∧ x0.length ≤ 140737488355328 ∧ x1.length ≤ 140737488355328, ⟨.sl (rd2 f x0 x1) .no, (some [.int .i64 sz, .sl x0 (.row 0 0 5), .int .i64 s0, .sl x1 (.row 0 0 5), .int .i64 s1, .bool ar, .int .i64 un, .bool dn]), none⟩) else none)
  | [.box [.int .i64 sz, .sl x0 .no, .int .i64 s0, .sl x1 .no, .int .i64 s1, .bool ar, .int .i64 un, .bool dn], .val (.int .i64 f)] => (some (isBytes x0 ∧ isBytes x1 ∧ x0.length ≤ 140737488355328 ∧ x1.length ≤ 140737488355328, ⟨.sl (rd2 f x0 x1) .no, (some [.int .i64 sz, .sl x0 .no, .int .i64 s0, .sl x1 .no, .int .i64 s1, .bool ar, .int .i64 un, .bool dn]), none⟩))
  | _ => none
theorem meetsRead : Meets Try.prog 16 readF := by
  refine meetsReadI.join meetsReadO ?_
  intro args q r hF hq
  unfold readF at hF
  split at hF
  · split at hF
    · rename_i hte
      obtain ⟨rfl, rfl⟩ := hte
      cases hF
      rcases hf : isFile _ with _ | _
      · exact .inr ⟨_, rfl, ⟨hf, hq⟩⟩
      · exact .inl ⟨_, rfl, ⟨hf, hq⟩⟩
    · cases hF
  · cases hF
    rcases hf : isFile _ with _ | _
    · exact .inr ⟨_, rfl, ⟨hf, hq⟩⟩
    · exact .inl ⟨_, rfl, ⟨hf, hq⟩⟩
  · cases hF
def syncF : Con
  | [.box [.int .i64 sz, .sl x0 (.row p q te0), .int .i64 s0, .sl x1 (.row p' q' te1), .int .i64 s1, .bool ar, .int .i64 un, .bool dn], .val (.int .i64 f)] => (if te0 = 5 ∧ te1 = 5 then some (True, ⟨.int .i64 (syE f dn ar un), (some [.int .i64 sz, .sl x0 (.row 0 0 5), .int .i64 (syS 0 f dn ar un s0 x0.length), .sl x1 (.row 0 0 5), .int .i64 (syS 1 f dn ar un s1 x1.length), .bool ar, .int .i64 (syU (syGo f dn) ar un), .bool (syD (syGo f dn) ar un dn)]), none⟩) else none)
  | [.box [.int .i64 sz, .sl x0 .no, .int .i64 s0, .sl x1 .no, .int .i64 s1, .bool ar, .int .i64 un, .bool dn], .val (.int .i64 f)] => (some (True, ⟨.int .i64 (syE f dn ar un), (some [.int .i64 sz, .sl x0 .no, .int .i64 (syS 0 f dn ar un s0 x0.length), .sl x1 .no, .int .i64 (syS 1 f dn ar un s1 x1.length), .bool ar, .int .i64 (syU (syGo f dn) ar un), .bool (syD (syGo f dn) ar un dn)]), none⟩))
  | _ => none
theorem meetsSync : Meets Try.prog 21 syncF := by
  refine meetsSyncI.join meetsSyncO ?_
  intro args q r hF hq
  unfold syncF at hF
  split at hF
  · split at hF
    · rename_i hte
      obtain ⟨rfl, rfl⟩ := hte
      cases hF
      rcases hf : isFile _ with _ | _
      · exact .inr ⟨_, rfl, hf⟩
      · exact .inl ⟨_, rfl, hf⟩
    · cases hF
  · cases hF
    rcases hf : isFile _ with _ | _
    · exact .inr ⟨_, rfl, hf⟩
    · exact .inl ⟨_, rfl, hf⟩
  · cases hF
def trimF : Con
  | [.box [.int .i64 sz, .sl x0 (.row p q te0), .int .i64 s0, .sl x1 (.row p' q' te1), .int .i64 s1, .bool ar, .int .i64 un, .bool dn], .val (.int .i64 f), .val (.int .i64 n)] => (if te0 = 5 ∧ te1 = 5 then some (dkOK sz x0 s0 x1 s1 ar un, ⟨.int .i64 (trE f n dn ar un x0 x1), (some [.int .i64 sz, .sl (trX 0 f n dn ar un x0 x1 x0) (.row 0 0 5), .int .i64 (trS 0 f n dn ar un x0 x1 s0), .sl (trX 1 f n dn ar un x0 x1 x1) (.row 0 0 5), .int .i64 (trS 1 f n dn ar un x0 x1 s1), .bool ar, .int .i64 (syU (trGo f n dn x0 x1) ar un), .bool (syD (trGo f n dn x0 x1) ar un dn)]), none⟩) else none)
  | _ => none
theorem meetsTrim : Meets Try.prog 24 trimF := by
  refine meetsTrimI.join meetsTrimO ?_
  intro args q r hF hq
  unfold trimF at hF
  split at hF
  · split at hF
    · rename_i hte
      obtain ⟨rfl, rfl⟩ := hte
      cases hF
      rcases hf : isFile _ with _ | _
      · exact .inr ⟨_, rfl, ⟨hf, hq⟩⟩
      · exact .inl ⟨_, rfl, ⟨hf, hq⟩⟩
    · cases hF
  · cases hF
def appF : Con
  | [.box [.int .i64 sz, .sl x0 (.row p q te0), .int .i64 s0, .sl x1 (.row p' q' te1), .int .i64 s1, .bool ar, .int .i64 un, .bool dn], .val (.int .i64 f), .val (.sl ys .no)] => (if te0 = 5 ∧ te1 = 5 then some (isBytes ys ∧ dkOK sz x0 s0 x1 s1 ar un, ⟨.int .i64 (apE f dn sz x0.length x1.length (limD ar un) ys.length), (some [.int .i64 sz, .sl (apX 0 f dn sz x0.length x1.length (limD ar un) x0 ys) (.row 0 0 5), .int .i64 s0, .sl (apX 1 f dn sz x0.length x1.length (limD ar un) x1 ys) (.row 0 0 5), .int .i64 s1, .bool ar, .int .i64 (apU f dn sz x0.length x1.length (limD ar un) un ys.length), .bool (apD f dn sz x0.length x1.length (limD ar un) ys.length)]), none⟩) else none)
  | _ => none
theorem meetsApp : Meets Try.prog 26 appF := by
  refine meetsAppI.join meetsAppO ?_
  intro args q r hF hq
  unfold appF at hF
  split at hF
  · split at hF
    · rename_i hte
      obtain ⟨rfl, rfl⟩ := hte
      cases hF
      rcases hf : isFile _ with _ | _
      · exact .inr ⟨_, rfl, ⟨hf, hq⟩⟩
      · exact .inl ⟨_, rfl, ⟨hf, hq⟩⟩
    · cases hF
  · cases hF
def rappF : Con
  | [.val (.agg [.int .i64 sz, .sl x0 .no, .sl x1 .no, .int .i64 s0, .int .i64 s1, .int .i64 un, .bool dn]), .val (.int .i64 f), .val (.sl ys .no)] => (some (isBytes ys ∧ ys.length ≤ 140737488355328 ∧ rdOK sz x0 x1 s0 s1 un, ⟨.tup [.agg [.int .i64 sz, .sl (apX 0 f dn sz x0.length x1.length un x0 ys) .no, .sl (apX 1 f dn sz x0.length x1.length un x1 ys) .no, .int .i64 s0, .int .i64 s1, .int .i64 (rN un (apM f dn sz x0.length x1.length un ys.length)), .bool (apD f dn sz x0.length x1.length un ys.length)], .int .i64 (apE f dn sz x0.length x1.length un ys.length)], none, none⟩))
  | _ => none
theorem meetsRapp : Meets Try.prog 38 rappF := by
  refine meetsRappI.join meetsRappO ?_
  intro args q r hF hq
  unfold rappF at hF
  split at hF
  · cases hF
    rcases hf : isFile _ with _ | _
    · exact .inr ⟨_, rfl, ⟨hf, hq⟩⟩
    · exact .inl ⟨_, rfl, ⟨hf, hq⟩⟩
  · cases hF
def rsyF : Con
  | [.val (.agg [.int .i64 sz, .sl x0 .no, .sl x1 .no, .int .i64 s0, .int .i64 s1, .int .i64 un, .bool dn]), .val (.int .i64 f), .val (.int .i64 n), .val (.bool false)] => (some (rdOK sz x0 x1 s0 s1 un, ⟨.tup [.agg [.int .i64 sz, .sl x0 .no, .sl x1 .no, .int .i64 (syS 0 f dn true un s0 x0.length), .int .i64 (syS 1 f dn true un s1 x1.length), .int .i64 (if syGo f dn then rUn un else un), .bool (syD (syGo f dn) true un dn)], .int .i64 (syE f dn true un)], none, none⟩))
  | [.val (.agg [.int .i64 sz, .sl x0 .no, .sl x1 .no, .int .i64 s0, .int .i64 s1, .int .i64 un, .bool dn]), .val (.int .i64 f), .val (.int .i64 n), .val (.bool true)] => (some (rdOK sz x0 x1 s0 s1 un, ⟨.tup [.agg [.int .i64 sz, .sl (trX 0 f n dn true un x0 x1 x0) .no, .sl (trX 1 f n dn true un x0 x1 x1) .no, .int .i64 (trS 0 f n dn true un x0 x1 s0), .int .i64 (trS 1 f n dn true un x0 x1 s1), .int .i64 (if trGo f n dn x0 x1 then rUn un else un), .bool (syD (trGo f n dn x0 x1) true un dn)], .int .i64 (trE f n dn true un x0 x1)], none, none⟩))
  | _ => none
theorem meetsRsy : Meets Try.prog 39 rsyF := by
  refine meetsRsyI.join meetsRsyO ?_
  intro args q r hF hq
  unfold rsyF at hF
  split at hF
  · cases hF
    rcases hf : isFile _ with _ | _
    · exact .inr ⟨_, rfl, ⟨hf, hq⟩⟩
    · exact .inl ⟨_, rfl, ⟨hf, hq⟩⟩
  · cases hF
    rcases hf : isFile _ with _ | _
    · exact .inr ⟨_, rfl, ⟨hf, hq⟩⟩
    · exact .inl ⟨_, rfl, ⟨hf, hq⟩⟩
  · cases hF
end Go.Proofs.Ytddilmocngedjaa
