import Derived.Test.YtlopgbdfdfijoaaGreatDoorRows
import Derived.LaidByTextLater
import Derived.SevenTiedAt
/-
  closed facts of the variables that the program lays.
-/
set_option linter.unusedSectionVars false
set_option linter.unusedVariables false
set_option linter.unusedSimpArgs false
set_option linter.unusedSectionVars false
set_option linter.unusedVariables false
namespace Go.Proofs.YtlopgbdfdfijoaaGreatDoor
open Go
abbrev laidL : List (String × DataW Unit) := [("math/bits.deBruijn64tab", Rows.laid_math_bits_deBruijn64tab), ("internal/strconv.uint64pow10", Rows.laid_internal_strconv_uint64pow10), ("math/bits.deBruijn32tab", Rows.laid_math_bits_deBruijn32tab), ("strconv.ErrSyntax", Rows.laid_strconv_ErrSyntax), ("strconv.ErrRange", Rows.laid_strconv_ErrRange), ("univocal/digest.rounds", Rows.laid_univocal_digest_rounds)]
theorem tie1 : Tryz.prog.worded (varsWordLater true) = true := by kernel_rfl
theorem tie2 : Tryz.prog.worded (varsWordLater false) = false := by kernel_rfl
theorem tie3 : Tryz.prog.worded rootWordLater = true := by kernel_rfl
theorem tie4 : laidL.map (fun x => Tryz.prog.kindOfLater x.1) = ([.data, .data, .data, .sentinel, .sentinel, .data] : List LaidKind).map some := by kernel_rfl
theorem tie5 : Tryz.prog.funcNamed "gosem.cut.vars" = some 747 := by kernel_rfl
theorem noOwnUnsafe : Tryz.pinned.checked.prog.headLifts.contains "ownunsafe" = false := by kernel_rfl
end Go.Proofs.YtlopgbdfdfijoaaGreatDoor
