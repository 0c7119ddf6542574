/- The tables that AttrTexts' row lists. -/
import Derived.Test.YtpomloangafbkaaDoorFrameText
namespace Go.Proofs.YtpomloangafbkaaDoor
set_option maxRecDepth 100000
set_option linter.unusedVariables false
open Go.ChangeShapes Go.WideShapes Go.ChangeAt Go.RowKit

theorem tt_parts {W : World} {r1 r2 r3 : List (String × DataW Unit)} (hs : W.ShapedOpen Tryd.prog) (h1 : laidMet Tryd.prog (("internal/strconv.uint64pow10", Rows.laid_internal_strconv_uint64pow10) :: r1) W)
    (h2 : laidMet Tryd.prog (("strconv.ErrRange", Rows.laid_strconv_ErrRange) :: r2) W) (h3 : laidMet Tryd.prog (("strconv.ErrSyntax", Rows.laid_strconv_ErrSyntax) :: r3) W) : TT Tryd.prog W (fun _ => none) := by
  have hz := size_of hs
  refine ⟨fun g hg => by omega, fun g hg => rfl, ⟨?_, fun g hg => ?_, err_of h3 (by kernel_rfl) (by kernel_rfl), err_of h2 (by kernel_rfl) (by kernel_rfl)⟩⟩
  · exact Lib.tabIs_of_head (g := ((Tryd.prog.globalNamed "internal/strconv.uint64pow10").getD 0)) (by kernel_rfl) (by kernel_rfl) Tryd.underlying150 Tryd.underlying34 (by kernel_rfl) (by kernel_rfl) h1
  · obtain rfl : ((Tryd.prog.globalNamed "internal/bytealg.MaxLen").getD 0) = g := Option.some.inj ((show Tryd.prog.globalNamed "internal/bytealg.MaxLen" = some (((Tryd.prog.globalNamed "internal/bytealg.MaxLen").getD 0)) by kernel_rfl).symm.trans hg)
    exact cell_of_shapedOpen_int (t := 3) (zero := #[.int .i64 0]) hs (by decide +kernel) (by kernel_rfl) rfl (by kernel_rfl) (by kernel_rfl) Tryd.underlying3
abbrev attTables : List (String × DataW Unit) := [("math/bits.deBruijn32tab", Rows.laid_math_bits_deBruijn32tab), ("math/bits.deBruijn64tab", Rows.laid_math_bits_deBruijn64tab), ("internal/strconv.uint64pow10", Rows.laid_internal_strconv_uint64pow10), ("unicode/utf8.acceptRanges", Rows.laid_unicode_utf8_acceptRanges), ("strconv.ErrRange", Rows.laid_strconv_ErrRange), ("strconv.ErrSyntax", Rows.laid_strconv_ErrSyntax), ("unicode/utf8.first", Rows.laid_unicode_utf8_first)]
theorem att_world (os : Os) (args : Array Value) : laidMetH Tryd.prog attTables ((World.laidAll Tryd.prog os attTables).forCall (fun _ _ => 0) ⟨#[], args, []⟩).memory := by
  rw [MakeChecks.laidMetH_plain _ _ _ (by kernel_rfl)]
  exact laidMet_laidAll _ (by kernel_rfl) (by kernel_rfl)
theorem tt_att {W : World} (hs : W.ShapedOpen Tryd.prog) (hl : laidMetH Tryd.prog attTables W) : TT Tryd.prog W (fun _ => none) := by
  rw [MakeChecks.laidMetH_plain _ _ _ (by kernel_rfl)] at hl
  have hp := hl.tail.tail
  have hr := hp.tail.tail
  exact tt_parts hs hp hr hr.tail
end Go.Proofs.YtpomloangafbkaaDoor
