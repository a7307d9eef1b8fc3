import Derived.Test.YtdandeekdbndgaaGreatDoorZe02
import Derived.Test.YtdandeekdbndgaaGreatDoorZb02
/-
  a great row of the sanity run.
-/
namespace Go.Proofs.YtdandeekdbndgaaGreatDoor.San
open Go Go.AL
variable [GLC]
theorem W13:chkPure HP5 R11 (gcall tab orc308 90 40 A8 HP5)=true:=by kernel_rfl
theorem E13 (h:CallsOk Tryz.prog orc308):RetF Tryz.prog 40 A8 (toAH HP5) R11 (toAH HP5):=pure_of_chk (gcall_ok tab_ok (h) 90) W13
end Go.Proofs.YtdandeekdbndgaaGreatDoor.San
