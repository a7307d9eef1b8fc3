import Derived.Test.YtlopgbdfdfijoaaGreatDoorZt03
import Derived.LaidByTextLater
import Derived.SevenTiedAt
/-
  the run that lays the variables.
-/
set_option linter.unusedSectionVars false
set_option linter.unusedVariables false
set_option linter.unusedSimpArgs false
set_option linter.unusedSectionVars false
set_option linter.unusedVariables false
namespace Go.Proofs.YtlopgbdfdfijoaaGreatDoor
open Go
theorem tie7 : ∀ os tape, varsDone Tryz.prog 400 747 os tape = true := fun _ _ => by kernel_rfl
theorem tie8 : ∀ os tape, (DataW.laidRun Tryz.prog (varsWorld Tryz.prog 400 747 os tape).memory 8 (laidL.map (·.1))).map (·.1) = some laidL := fun _ _ => by kernel_rfl
theorem tie9 : ∀ os tape, (DataW.laidRun Tryz.prog (varsWorld Tryz.prog 400 747 os tape).memory 8 (laidL.map (·.1))).map (fun x => decide x.2.Nodup && laidRowsB Tryz.prog (varsWorld Tryz.prog 400 747 os tape).memory x.2) = some true := fun _ _ => by kernel_rfl
theorem tie : Tryz.prog.laidByTextLater laidL [.data, .data, .data, .sentinel, .sentinel, .data] true :=
 Program.laidByTextLater_of_run 747 400 8 tie1 tie2 tie3 tie4 tie5 tie6 tie7 tie8 tie9
theorem tenantQueueIsLimited_row_tie : Rows.tenantQueueIsLimitedRow.laidByTextAt .later Tryz.pinned [.data, .data, .data, .sentinel, .sentinel, .data] true :=
 OpenClaim.laidByTextAt_later rfl rfl tie noOwnUnsafe
end Go.Proofs.YtlopgbdfdfijoaaGreatDoor
