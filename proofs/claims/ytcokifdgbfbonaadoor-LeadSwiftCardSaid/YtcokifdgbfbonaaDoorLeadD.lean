/- What is told of a lead: the lists by content, and lead.knows. -/
import Derived.Test.YtcokifdgbfbonaaDoorLaxPkMsgA
import Derived.Test.YtcokifdgbfbonaaDoorKnows
namespace Go.Proofs.YtcokifdgbfbonaaDoor
set_option linter.unusedVariables false
set_option linter.unusedSimpArgs false
open Go.RowKit
set_option maxRecDepth 100000

structure LeadP where
  r : Int
  sl : Int
  bal : Int
  ph : Int
  told : List AV
  over : Int
def leadL (l : LeadP) : List AV := [.int .i64 l.r, .int .i64 l.sl, .int .u32 l.bal, .int .i64 l.ph, .sl l.told .no, .int .u32 l.over]
def leadOf : List AV → Option LeadP
  | [.int .i64 r, .int .i64 sl, .int .u32 bal, .int .i64 ph, .sl told .no, .int .u32 over] => some ⟨r, sl, bal, ph, told, over⟩
  | _ => none
theorem leadOf_some {l : List AV} {x : LeadP} (h : leadOf l = some x) : l = leadL x := by
  unfold leadOf at h
  split at h
  · cases h; rfl
  · cases h
/-- the kinds of a told state's cells -/
def toldKs : List Kd := [.int .i64, .int .i64, .int .i64, .int .i64, .int .u32, .int .u32, .bool, .int .i64, .int .u64, .str, .int .u64, .str, .int .i64, .int .u64, .int .i64, .int .i64, .int .i64, .int .i64, .int .i64, .int .i64, .int .i64, .int .i64, .int .i64]
def okTold (x : AV) : Prop := x.cells.length = 23 ∧ okRead toldKs x 0
def isTolds (xs : List AV) : Prop := ∀ x ∈ xs, okTold x
def knowsL (xs : List AV) (r : Int) : Bool := xs.any fun x => rdInt x 0 == r
def tolX (e : AV) : InstP := ⟨rdInt e 1, rdInt e 2, rdInt e 3, rdInt e 4, rdInt e 5, rdBool e 6, ⟨rdInt e 7, rdInt e 8, rdStr e 9, rdInt e 10, rdStr e 11, rdInt e 12, rdInt e 13, rdInt e 14⟩, ⟨rdInt e 15, rdInt e 16, rdInt e 17, rdInt e 18, rdInt e 19, rdInt e 20, rdInt e 21, rdInt e 22⟩⟩
def toldE (r : Int) (x : InstP) : AV := .agg (.int .i64 r :: instL x)
def repliesK (p : Int) : Int := if p = 1 then 2 else if p = 2 then 4 else if p = 3 then 7 else 0
def countsL (l : LeadP) (x : InstP) : Bool := decide (x.bal = l.bal) && (decide (l.ph = 3) || (decide (x.vote = l.bal) && decide (x.st = l.ph)))
def hears (l : LeadP) (m : MsgP) : Bool := decide (1 ≤ l.ph ∧ l.ph ≤ 3) && rightM m && decide (m.k = repliesK l.ph ∧ m.r = l.r ∧ m.s = l.sl ∧ m.b = l.bal) && !knowsL l.told m.src
def hearOver (l : LeadP) (m : MsgP) : Int := if hears l m = true ∧ m.ok = false then mx l.over m.x.bal else l.over
def hearTold (l : LeadP) (m : MsgP) : List AV := if hears l m = true ∧ m.ok = true ∧ countsL l m.x = true then l.told ++ [toldE m.src m.x] else l.told
def hearL (l : LeadP) (m : MsgP) : LeadP := ⟨l.r, l.sl, l.bal, l.ph, hearTold l m, hearOver l m⟩

def knowsF : Con
  | [.val (.agg z), .val (.int .i64 r)] => (match leadOf z with | some l => some (isTolds l.told ∧ l.told ≠ [], ⟨.bool (knowsL l.told r), none, none⟩) | _ => none)
  | _ => none
theorem six_cells {us : Array Value} (h : us.size = 6) : ∃ a b c d e f, us = #[a, b, c, d, e, f] := by
  obtain ⟨l⟩ := us
  match l, h with
  | [a, b, c, d, e, f], _ => exact ⟨a, b, c, d, e, f, rfl⟩
theorem meetsKnows : Meets Tryd.prog 99 knowsF := by
  refine meets_plain Tryd.call99 ?_
  intro args q r hF hq
  unfold knowsF at hF
  split at hF
  · rename_i z rr
    split at hF
    · rename_i l hz
      obtain rfl := leadOf_some hz
      cases hF
      obtain ⟨ht, hne⟩ := hq
      refine ⟨[.agg (leadL l), .int .i64 rr], rfl, rfl, fun x hx => (by simp at hx; rcases hx with rfl | rfl <;> rfl), rfl, rfl, rfl, ?_⟩
      intro us w S hs h
      obtain ⟨u, u', rfl, hu, hu'⟩ := two_args hs h
      obtain ⟨rfl, _, _⟩ := repV_i64 hu'
      obtain ⟨vs, rfl, hvs, hcs⟩ := hu
      obtain ⟨a0, a1, a2, a3, a4, a5, rfl⟩ := six_cells (us := vs) hvs
      obtain ⟨_, u4, h4, hr4⟩ := hcs 4 _ rfl
      simp at h4
      subst h4
      obtain ⟨T, hT⟩ : ∃ T, T = l.told := ⟨_, rfl⟩
      rw [← hT] at hr4
      cases hr4 with
      | slnil o a cap hcap => exact absurd hT.symm hne
      | sl xs o b off cap size ws hc hm hsz hS hr =>
        subst hT
        have hpos : 0 < l.told.length := List.length_pos_iff.2 hne
        have g0 := List.getElem?_eq_getElem hpos
        have hsize : size = 23 := by rw [← hsz 0 _ g0]; exact (ht _ (List.getElem_mem hpos)).1
        subst hsize
        have hb0 : b < w.heap.size := by
          have hx := ht _ (List.getElem_mem hpos)
          have e0 := hx.2 0 _ rfl
          exact World.block_lt_of_cell? w _ (hS 0 _ _ _ g0 e0).2.1
        have cel : ∀ (i : Nat) (hi : i < l.told.length) (j : Nat), j < 23 → w.cell? ⟨b, off + i * 23 + j, none⟩ = some (ws i j) := by
          intro i hi j hj
          have hx := (ht _ (List.getElem_mem hi)).1
          exact (hS i _ j _ (List.getElem?_eq_getElem hi) (List.getElem?_eq_getElem (by omega))).2.1
        have first : ∀ (i : Nat) (hi : i < l.told.length), ws i 0 = .int .i64 (rdInt l.told[i] 0) := by
          intro i hi
          have e0 := (ht _ (List.getElem_mem hi)).2 0 _ rfl
          have := hr i _ 0 _ (List.getElem?_eq_getElem hi) e0
          exact (repV_i64 (this : RepV w S (.int .i64 (rdInt l.told[i] (0 + 0))) (ws i 0))).1
        obtain ⟨zs, hzs⟩ : ∃ zs : List (Int × List Value), zs = (List.range l.told.length).map fun i => ((rdInt (l.told.getD i .any) 0, (List.range 22).map fun j => ws i (j + 1)) : Int × List Value) := ⟨_, rfl⟩
        have hlen : zs.length = l.told.length := by rw [hzs]; simp
        have hany : (zs.any fun y => y.1 == rr) = knowsL l.told rr := by
          rw [hzs, List.any_map]
          unfold knowsL
          have e : l.told = (List.range l.told.length).map fun i => l.told.getD i .any := by
            apply List.ext_getElem
            · simp
            · intro i h1 h2; simp [List.getD_eq_getElem?_getD, h1]
          conv => rhs; rw [e, List.any_map]
          rfl
        have hmax : l.told.length ≤ 9223372036854775807 := by unfold maxLen at hm; omega
        have H := knows_any a0 a1 a2 a3 a5 rr b off l.told.length cap zs w hlen.symm hmax hb0 (by
          intro j hj i v hv
          have hj' : j < l.told.length := by omega
          have ez : zs[j]! = (rdInt l.told[j] 0, (List.range 22).map fun k => ws j (k + 1)) := by
            rw [getElem!_pos zs j hj]
            simp only [hzs, List.getElem_map, List.getElem_range]
            simp [List.getD_eq_getElem?_getD, hj']
          rw [ez] at hv
          unfold encT at hv
          cases i with
          | zero =>
            simp at hv
            subst hv
            rw [← first j hj']
            exact cel j hj' 0 (by omega)
          | succ i =>
            rw [List.getElem?_cons_succ, List.getElem?_map] at hv
            have hi : i < 22 := by
              rcases Nat.lt_or_ge i 22 with h | h
              · exact h
              · rw [List.getElem?_eq_none (by simpa using h)] at hv; simp at hv
            rw [List.getElem?_range hi] at hv
            simp [List.getD_eq_getElem?_getD, hi] at hv
            subst hv
            exact cel j hj' (i + 1) (by omega))
        refine H.mono ?_
        rintro e w' ⟨rfl, hb'⟩
        rw [hany]
        exact ⟨_, rfl, hb', .bool _⟩
    · cases hF
  · cases hF
end Go.Proofs.YtcokifdgbfbonaaDoor
