/- The tables that the rows of commands' texts list; the program's own table of names among them. -/
import Derived.Test.YtpomloangafbkaaGreatDoorFrameText
namespace Go.Proofs.YtpomloangafbkaaGreatDoor
set_option maxRecDepth 100000
set_option linter.unusedVariables false
open Go.ChangeShapes Go.WideShapes Go.ChangeAt Go.RowKit

/-- an array of texts that reads as a table holds the table's texts, cell for cell -/
theorem cells_of_texts {H : Type} {enc : TypeId × Value → H} {P : Program} {w : World} {base : Nat} {sp : Nat → Bool} {held : Bool} {fuel : Nat} {t e : TypeId} {n : Nat} {cs : List Value} {zs : List (List UInt8)} {p : List MemPlace}
    (ht : P.underlying t = some (.array n e)) (he : P.underlying e = some .string) (hce : P.cellsOf e = 1) (hct : P.cellsOf t = n)
    (h : DataW.trod enc P w base sp held fuel t cs = some (.agg (zs.map fun z => .lit (.string z)), p)) : cs = zs.map fun z => Value.string ⟨z.toArray⟩ := by
  cases fuel with
  | zero => simp [DataW.trod] at h
  | succ fuel =>
    simp only [DataW.trod, ht, hce, hct, Nat.mul_one] at h
    split at h
    · rename_i hl
      obtain ⟨xs, hm, hx⟩ := Option.map_eq_some_iff.1 h
      have hxs : xs.map (·.1) = zs.map fun z => (DataW.lit (.string z) : DataW H) := by
        have := congrArg Prod.fst hx
        simpa using this
      have hxl : xs.length = n := by simpa using Lib.mapM_length hm
      have hzl : zs.length = n := by
        have := congrArg List.length hxs
        simp at this
        omega
      apply List.ext_getElem?
      intro i
      by_cases hi : i < n
      · obtain ⟨b, hb, hf⟩ := Lib.mapM_at hm i i (by simp [hi])
        obtain ⟨z, hc, rfl, _⟩ := DataW.trod_string he hf
        have h1 : cs[i]? = some (.string z) := by
          have := congrArg (·[0]?) hc
          simpa [List.getElem?_take, List.getElem?_drop] using this
        have h2 : (xs.map (·.1))[i]? = some (DataW.lit (.string z.data.toList) : DataW H) := by simp [hb]
        rw [hxs] at h2
        simp only [List.getElem?_map, Option.map_eq_some_iff, DataW.lit.injEq, Lit.string.injEq] at h2
        obtain ⟨z', hz', hzz⟩ := h2
        have e2 : (⟨z'.toArray⟩ : ByteArray) = z := by
          rw [hzz]
        simp [h1, hz', e2]
      · rw [List.getElem?_eq_none (by omega), List.getElem?_eq_none (by simp; omega)]
    · cases h
theorem texts_of_head {P : Program} {W : World} {name : String} {zs : List (List UInt8)} {rest : List (String × DataW Unit)} {g : Nat} {t e : TypeId} {n : Nat}
    (hg : P.globalNamed name = some g) (hty : (P.globals[g]?).map (·.type) = some t) (ht : P.underlying t = some (.array n e)) (he : P.underlying e = some .string) (hce : P.cellsOf e = 1) (hct : P.cellsOf t = n)
    (h : laidMet P ((name, .agg (zs.map fun z => .lit (.string z))) :: rest) W) : W.var? P name = some (zs.map fun z => Value.string ⟨z.toArray⟩).toArray := by
  obtain ⟨ps, ⟨g', t', cs, fuel, p, q, hg', ht', hvar, hd, _, _⟩, _⟩ := h
  obtain rfl := Option.some.inj (hg.symm.trans hg')
  obtain rfl := Option.some.inj (hty.symm.trans ht')
  rw [hvar, ← cells_of_texts ht he hce hct hd]

theorem tt_parts {W : World} {r1 r2 r3 r4 : List (String × DataW Unit)} (hs : W.ShapedOpen Tryz.prog) (h1 : laidMet Tryz.prog (("internal/strconv.uint64pow10", Rows.laid_internal_strconv_uint64pow10) :: r1) W)
    (h2 : laidMet Tryz.prog (("strconv.ErrRange", Rows.laid_strconv_ErrRange) :: r2) W) (h3 : laidMet Tryz.prog (("strconv.ErrSyntax", Rows.laid_strconv_ErrSyntax) :: r3) W) (h4 : laidMet Tryz.prog (("moothill/cmd.names", Rows.laid_moothill_cmd_names) :: r4) W) : TT Tryz.prog W (fun _ => none) (fun _ _ => False) := by
  have hz := size_of hs
  refine ⟨fun g hg => by omega, fun g hg => rfl, fun g o hg h => h, ⟨?_, fun g hg => ?_, err_of h3 (by kernel_rfl) (by kernel_rfl), err_of h2 (by kernel_rfl) (by kernel_rfl), fun g l hg => ?_⟩⟩
  · exact Lib.tabIs_of_head (g := ((Tryz.prog.globalNamed "internal/strconv.uint64pow10").getD 0)) (by kernel_rfl) (by kernel_rfl) Tryz.underlying197 Tryz.underlying26 (by kernel_rfl) (by kernel_rfl) h1
  · obtain rfl : ((Tryz.prog.globalNamed "internal/bytealg.MaxLen").getD 0) = g := Option.some.inj ((show Tryz.prog.globalNamed "internal/bytealg.MaxLen" = some (((Tryz.prog.globalNamed "internal/bytealg.MaxLen").getD 0)) by kernel_rfl).symm.trans hg)
    exact cell_of_shapedOpen_int (t := 3) (zero := #[.int .i64 0]) hs (by decide +kernel) (by kernel_rfl) rfl (by kernel_rfl) (by kernel_rfl) Tryz.underlying3
  · have hn : Tryz.prog.globalNamed "moothill/cmd.names" = some 0 := by kernel_rfl
    have hv := texts_of_head (zs := [[110, 111, 111, 112], [111, 112, 101, 110], [99, 108, 111, 115, 101], [107, 101, 101, 112], [97, 99, 113, 117, 105, 114, 101], [116, 114, 121], [114, 101, 108, 101, 97, 115, 101], [99, 104, 101, 99, 107], [101, 120, 112, 105, 114, 101]]) hn (t := 76) (by kernel_rfl) Tryz.underlying76 Tryz.underlying9 (by kernel_rfl) (by kernel_rfl) h4
    have hgl : g = 0 ∧ l = [[110, 111, 111, 112], [111, 112, 101, 110], [99, 108, 111, 115, 101], [107, 101, 101, 112], [97, 99, 113, 117, 105, 114, 101], [116, 114, 121], [114, 101, 108, 101, 97, 115, 101], [99, 104, 101, 99, 107], [101, 120, 112, 105, 114, 101]] := by
      unfold gtab at hg
      cases hb : Nat.beq g 0 with
      | true => rw [hb] at hg; exact ⟨Nat.eq_of_beq_eq_true hb, (Option.some.inj hg).symm⟩
      | false => rw [hb] at hg; cases hg
    obtain ⟨rfl, rfl⟩ := hgl
    refine ⟨globalNamed_lt hn, fun i x hx => ?_⟩
    have hl : ∀ (l : List (List UInt8)), (∀ y ∈ l, y.length ≤ 7) → l[i]? = some x → x.length ≤ 7 := fun l h h' => h x (List.mem_of_getElem? h')
    refine ⟨by have := hl _ (by decide) hx; omega, ?_⟩
    have := World.var?_cell hn hv i
    rw [this]
    simp only [List.getElem?_toArray, List.getElem?_map, hx, Option.map_some]
abbrev cmdTables : List (String × DataW Unit) := [("math/bits.deBruijn32tab", Rows.laid_math_bits_deBruijn32tab), ("math/bits.deBruijn64tab", Rows.laid_math_bits_deBruijn64tab), ("internal/strconv.uint64pow10", Rows.laid_internal_strconv_uint64pow10), ("unicode/utf8.acceptRanges", Rows.laid_unicode_utf8_acceptRanges), ("strconv.ErrRange", Rows.laid_strconv_ErrRange), ("strconv.ErrSyntax", Rows.laid_strconv_ErrSyntax), ("moothill/cmd.names", Rows.laid_moothill_cmd_names), ("unicode/utf8.first", Rows.laid_unicode_utf8_first)]
theorem cmd_world (os : Os) (args : Array Value) : laidMetH Tryz.prog cmdTables ((World.laidAll Tryz.prog os cmdTables).forCall (fun _ _ => 0) ⟨#[], args, []⟩).memory := by
  rw [MakeChecks.laidMetH_plain _ _ _ (by kernel_rfl)]
  exact laidMet_laidAll _ (by kernel_rfl) (by kernel_rfl)
theorem tt_cmd {W : World} (hs : W.ShapedOpen Tryz.prog) (hl : laidMetH Tryz.prog cmdTables W) : TT Tryz.prog W (fun _ => none) (fun _ _ => False) := by
  rw [MakeChecks.laidMetH_plain _ _ _ (by kernel_rfl)] at hl
  have hp := hl.tail.tail
  have hr := hp.tail.tail
  exact tt_parts hs hp hr hr.tail hr.tail.tail
end Go.Proofs.YtpomloangafbkaaGreatDoor
