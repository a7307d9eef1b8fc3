import Derived.Test.YtdandeekdbndgaaGreatDoorZe02
import Derived.Test.YtdandeekdbndgaaGreatDoorZb02
/-
  a great row of the sanity run.
-/
namespace Go.Proofs.YtdandeekdbndgaaGreatDoor.San
open Go Go.AL
variable [GLC]
theorem W0:chkPure HP0 R0 (gcall tab orc308 90 11 A0 HP0)=true:=by kernel_rfl
theorem E0 (h:CallsOk Tryz.prog orc308):RetF Tryz.prog 11 A0 (toAH HP0) R0 (toAH HP0):=pure_of_chk (gcall_ok tab_ok (h) 90) W0
end Go.Proofs.YtdandeekdbndgaaGreatDoor.San
