import Derived.Test.YtlmkmpomgdbjhaaGreatDoorZa18
/-
  a part of the proof.
-/
set_option linter.unusedSectionVars false
set_option linter.unusedVariables false
set_option linter.unusedSimpArgs false
namespace Go.Proofs.YtlmkmpomgdbjhaaGreatDoor.San
open Tryz
section
open Go Go.AL
variable [BQ]
set_option maxRecDepth 1000000
theorem WF:Sx [] (.bool true) ((ma UX prog f6) (Uh AAF N70 90) [] KH.emp)=true:=by kernel_rfl
theorem EF [Bq] [Bj]:cJ prog 6 [] (.bool true):=Mc (sD Pw Pb func6 (by kernel_rfl)) (MB AAC AAG 90) WF
end
end Go.Proofs.YtlmkmpomgdbjhaaGreatDoor.San
