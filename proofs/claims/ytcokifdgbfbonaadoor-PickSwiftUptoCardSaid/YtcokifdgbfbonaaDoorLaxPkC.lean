/- What a new ballot goes on with: the contract, for a crew that may be and for one that may not. -/
import Derived.Test.YtcokifdgbfbonaaDoorLaxPkPkB
import Derived.Test.YtcokifdgbfbonaaDoorListC
namespace Go.Proofs.YtcokifdgbfbonaaDoor
set_option linter.unusedVariables false
open Go.RowKit
def choose2F : Con
  | [.val (.int .i64 n), .val (.agg [.int .i64 r, .int .i64 sl]), .val (.sl T .no)] => some (okL n r sl T ∧ okCh n r T, ⟨.tup [.int .i64 (choK T), .agg (instL ⟨r, sl, 1, 0, 0, false, (choX T).c, (choX T).a⟩), .int .i64 0], none, none⟩)
  | [.val (.int .i64 n), .val (.agg [.int .i64 r, .int .i64 sl]), .val (.sl T .nil)] => some (rightN n = false, ⟨.tup [.int .i64 0, .agg (instL zI), .int .i64 12], none, none⟩)
  | _ => none
theorem meetsChoose2 : Meets Tryd.prog 44 choose2F := by
  refine ⟨meetsChooseV.enters, fun args us w GE own d site q r hF hq hc hsite hs => ?_⟩
  unfold choose2F at hF
  split at hF
  · cases hF
    exact meetsChooseV.calls _ us w GE own d site _ _ rfl hq hc hsite hs
  · cases hF
    exact meetsChooseN.calls _ us w GE own d site _ _ rfl hq hc hsite hs
  · cases hF
/-- those in a set -/
def listS (s : Int) : List Nat := (List.range 7).filter fun r => s.toNat.testBit r
def natsAV (l : List Nat) : List AV := l.map fun r : Nat => .int .i64 ((r : Nat) : Int)
def listCF : Con
  | [.val (.int .u8 s)] => some (True, ⟨.sl (natsAV (listS s)) .no, none, none⟩)
  | _ => none
theorem keep_list : ∀ k : Fin 256, keepS (k.val : Int) [0, 1, 2, 3, 4, 5, 6] = (listS (k.val : Int)).map (fun r : Nat => ((r : Nat) : Int)) := by decide +kernel
theorem listS_le (s : Int) : (listS s).length ≤ 7 := by
  unfold listS
  have := List.length_filter_le (fun r => s.toNat.testBit r) (List.range 7)
  simpa using this
set_option maxRecDepth 100000 in
theorem meetsListC : Meets Tryd.prog 41 listCF := by
  refine meets_plain Tryd.call41 ?_
  intro args q r hF hq
  unfold listCF at hF
  split at hF
  · rename_i s
    cases hF
    refine ⟨[.int .u8 s], rfl, rfl, fun x hx => (by simp at hx; subst hx; rfl), rfl, rfl, rfl, ?_⟩
    intro us w S hs h
    obtain ⟨u, rfl, hu⟩ := one_arg hs h
    have hu' : RepP w S (.int .u8 s) u := hu
    obtain ⟨rfl, h0, h1⟩ : u = .int .u8 s ∧ 0 ≤ s ∧ s ≤ 255 := by
      have m0 : IntKind.u8.min = 0 := by decide
      have m1 : IntKind.u8.max = 255 := by decide
      cases hu' with
      | int k n a b => exact ⟨rfl, by omega, by omega⟩
    obtain ⟨k, rfl⟩ := byte_vals ⟨h0, h1⟩
    have K := keep_list k
    have L := listS_le (k.val : Int)
    refine (list_any _ ⟨h0, h1⟩ w).mono ?_
    rintro e w' ⟨g, c, rfl, hb, hg, ⟨hc1, hc2⟩, hc⟩
    rw [K] at hc ⊢
    refine ⟨_, rfl, hb, ?_⟩
    have len : ((listS (k.val : Int)).map (fun r : Nat => ((r : Nat) : Int))).length = (natsAV (listS (k.val : Int))).length := by unfold natsAV; simp
    rw [len] at hc ⊢
    have len2 : (natsAV (listS (k.val : Int))).length = (listS (k.val : Int)).length := by unfold natsAV; simp
    have at' : ∀ (i : Nat) (x : AV), (natsAV (listS (k.val : Int)))[i]? = some x → i < (listS (k.val : Int)).length ∧ x = .int .i64 (((listS (k.val : Int)).getD i 0 : Nat) : Int) ∧ (listS (k.val : Int)).getD i 0 < 7 := by
      intro i x hx
      have hi : i < (listS (k.val : Int)).length := by rw [← len2]; exact (List.getElem?_eq_some_iff.1 hx).1
      unfold natsAV at hx
      rw [List.getElem?_map, List.getElem?_eq_getElem hi] at hx
      have e : (listS (k.val : Int)).getD i 0 = (listS (k.val : Int))[i] := by rw [List.getD_eq_getElem?_getD, List.getElem?_eq_getElem hi]; rfl
      have hm : (listS (k.val : Int))[i] ∈ listS (k.val : Int) := List.getElem_mem hi
      unfold listS at hm
      have hm2 := List.mem_range.1 (List.mem_filter.1 hm).1
      refine ⟨hi, ?_, by rw [e]; exact hm2⟩
      rw [e]
      simpa using hx.symm
    have mi : IntKind.i64.min = -9223372036854775808 := by decide
    have ma : IntKind.i64.max = 9223372036854775807 := by decide
    show RepP w' (More S w) (.sl (natsAV (listS (k.val : Int))) .no) (.slice (some ⟨g, 0, none⟩) (natsAV (listS (k.val : Int))).length c)
    refine RepP.sl (natsAV (listS (k.val : Int))) .no g 0 c 1 (fun i _ => .int .i64 (((listS (k.val : Int)).getD i 0 : Nat) : Int)) (by omega) (by unfold maxLen; omega) ?_ ?_ ?_
    · intro i x hx
      obtain ⟨_, rfl, _⟩ := at' i x hx
      rfl
    · intro i x j cc hx hcc
      obtain ⟨hi, rfl, _⟩ := at' i x hx
      match j, hcc with
      | 0, hcc =>
        obtain rfl : AV.int .i64 (((listS (k.val : Int)).getD i 0 : Nat) : Int) = cc := by simpa [AV.cells] using hcc
        refine ⟨.inr hg, ?_, rfl⟩
        have := hc i (by omega)
        rw [show 0 + i * 1 + 0 = i by omega, this]
        simp [List.getD_eq_getElem?_getD, hi]
      | j + 1, hcc => simp [AV.cells] at hcc
    · intro i x j cc hx hcc
      obtain ⟨hi, rfl, h7⟩ := at' i x hx
      match j, hcc with
      | 0, hcc =>
        obtain rfl : AV.int .i64 (((listS (k.val : Int)).getD i 0 : Nat) : Int) = cc := by simpa [AV.cells] using hcc
        exact .int .i64 _ (by omega) (by omega)
      | j + 1, hcc => simp [AV.cells] at hcc
  · cases hF
end Go.Proofs.YtcokifdgbfbonaaDoor
