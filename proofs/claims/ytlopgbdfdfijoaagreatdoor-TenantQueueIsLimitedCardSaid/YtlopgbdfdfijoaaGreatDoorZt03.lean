import Derived.Test.YtlopgbdfdfijoaaGreatDoorZt01
/-
  the variables that the program lays.
-/
set_option linter.unusedSectionVars false
set_option linter.unusedVariables false
set_option linter.unusedSimpArgs false
set_option linter.unusedSectionVars false
set_option linter.unusedVariables false
namespace Go.Proofs.YtlopgbdfdfijoaaGreatDoor
open Go
theorem tie6 : varsNamedLaterB Tryz.prog 747 laidL = true := by kernel_rfl
end Go.Proofs.YtlopgbdfdfijoaaGreatDoor
