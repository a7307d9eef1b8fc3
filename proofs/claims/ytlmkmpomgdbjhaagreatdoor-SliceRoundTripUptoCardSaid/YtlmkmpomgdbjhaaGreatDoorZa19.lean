import Derived.Test.YtlmkmpomgdbjhaaGreatDoorZa18
/-
  a part of the proof.
-/
set_option linter.unusedSectionVars false
set_option linter.unusedVariables false
set_option linter.unusedSimpArgs false
namespace Go.Proofs.YtlmkmpomgdbjhaaGreatDoor.San
open Tryz
section
open Go Go.AL
variable [BX]
set_option maxRecDepth 1000000
theorem WF:TM [] (.bool true) ((nM Un prog f6) (Uy AAB N70 90) [] KH.emp)=true:=by kernel_rfl
theorem EF [Bw] [Bp]:dB prog 6 [] (.bool true):=Mo (sD QB Pp func6 (by kernel_rfl)) (MV AAA AAD 90) WF
end
end Go.Proofs.YtlmkmpomgdbjhaaGreatDoor.San
