import Derived.Test.YtlmkmpomgdbjhaaGreatDoorZa23
import Derived.LaidByTextLater
import Derived.SevenTiedAt
/-
  a part of the proof.
-/
set_option linter.unusedSectionVars false
set_option linter.unusedVariables false
set_option linter.unusedSimpArgs false
namespace Go.Proofs.YtlmkmpomgdbjhaaGreatDoor
section
open Go
theorem qp:varsNamedLaterB Tryz.prog 778 RO=true:=by kernel_rfl
end
section
open Go
theorem qn:∀os tape,varsDone Tryz.prog 400 778 os tape=true:=fun _ _=>by kernel_rfl
theorem qm:∀os tape,(DataW.laidRun Tryz.prog (varsWorld Tryz.prog 400 778 os tape).memory 8 (RO.map (·.1))).map (·.1)=some RO:=fun _ _=>by kernel_rfl
theorem ql:∀os tape,(DataW.laidRun Tryz.prog (varsWorld Tryz.prog 400 778 os tape).memory 8 (RO.map (·.1))).map (fun x=>decide x.2.Nodup&&laidRowsB Tryz.prog (varsWorld Tryz.prog 400 778 os tape).memory x.2)=some true:=fun _ _=>by kernel_rfl
theorem tie:Tryz.prog.laidByTextLater RO [.data,.data,.data,.sentinel,.sentinel,.data] true:=
 Program.laidByTextLater_of_run 778 400 8 qy qx qv qu qq qp qn qm ql
theorem Kk:Rows.sliceIntegrityUptoRow.laidByTextAt .later Tryz.pinned [.data,.data,.data,.sentinel,.sentinel,.data] true:=
 OpenClaim.laidByTextAt_later rfl rfl tie T9
end
end Go.Proofs.YtlmkmpomgdbjhaaGreatDoor
