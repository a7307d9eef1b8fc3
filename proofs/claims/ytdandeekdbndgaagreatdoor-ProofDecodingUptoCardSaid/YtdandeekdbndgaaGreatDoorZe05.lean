import Derived.Test.YtdandeekdbndgaaGreatDoorZe02
import Derived.Test.YtdandeekdbndgaaGreatDoorZb02
/-
  a great row of the sanity run.
-/
namespace Go.Proofs.YtdandeekdbndgaaGreatDoor.San
open Go Go.AL
variable [GLC]
theorem W7:chkPure HP4 R7 (gcall tab orc308 90 36 A3 HP4)=true:=by kernel_rfl
theorem E7 (h:CallsOk Tryz.prog orc308):RetF Tryz.prog 36 A3 (toAH HP4) R7 (toAH HP4):=pure_of_chk (gcall_ok tab_ok (h) 90) W7
end Go.Proofs.YtdandeekdbndgaaGreatDoor.San
