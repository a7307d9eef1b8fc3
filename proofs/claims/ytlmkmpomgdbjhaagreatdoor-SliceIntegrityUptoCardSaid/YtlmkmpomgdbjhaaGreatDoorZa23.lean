import Derived.Test.YtlmkmpomgdbjhaaGreatDoorRows
import Derived.LaidByTextLater
import Derived.SevenTiedAt
/-
  a part of the proof.
-/
set_option linter.unusedSectionVars false
set_option linter.unusedVariables false
set_option linter.unusedSimpArgs false
namespace Go.Proofs.YtlmkmpomgdbjhaaGreatDoor
section
open Go
abbrev RO:List (String × DataW Unit):=[("math/bits.deBruijn64tab",Rows.laid_math_bits_deBruijn64tab),("internal/strconv.uint64pow10",Rows.laid_internal_strconv_uint64pow10),("math/bits.deBruijn32tab",Rows.laid_math_bits_deBruijn32tab),("strconv.ErrSyntax",Rows.laid_strconv_ErrSyntax),("strconv.ErrRange",Rows.laid_strconv_ErrRange),("univocal/digest.rounds",Rows.laid_univocal_digest_rounds)]
theorem qy:Tryz.prog.worded (varsWordLater true)=true:=by kernel_rfl
theorem qx:Tryz.prog.worded (varsWordLater false)=false:=by kernel_rfl
theorem qv:Tryz.prog.worded rootWordLater=true:=by kernel_rfl
theorem qu:RO.map (fun x=>Tryz.prog.kindOfLater x.1)=([.data,.data,.data,.sentinel,.sentinel,.data]:List LaidKind).map some:=by kernel_rfl
theorem qq:Tryz.prog.funcNamed "gosem.cut.vars"=some 778:=by kernel_rfl
theorem T9:Tryz.pinned.checked.prog.headLifts.contains "ownunsafe"=false:=by kernel_rfl
end
end Go.Proofs.YtlmkmpomgdbjhaaGreatDoor
