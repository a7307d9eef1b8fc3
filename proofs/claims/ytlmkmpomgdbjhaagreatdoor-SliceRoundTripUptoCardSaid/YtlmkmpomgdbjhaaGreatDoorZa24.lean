import Derived.Test.YtlmkmpomgdbjhaaGreatDoorZa23
import Derived.LaidByTextLater
import Derived.SevenTiedAt
/-
  a part of the proof.
-/
set_option linter.unusedSectionVars false
set_option linter.unusedVariables false
set_option linter.unusedSimpArgs false
namespace Go.Proofs.YtlmkmpomgdbjhaaGreatDoor
section
open Go
theorem r_:varsNamedLaterB Tryz.prog 778 Rf=true:=by kernel_rfl
end
section
open Go
theorem rz:∀os tape,varsDone Tryz.prog 400 778 os tape=true:=fun _ _=>by kernel_rfl
theorem rr:∀os tape,(DataW.laidRun Tryz.prog (varsWorld Tryz.prog 400 778 os tape).memory 8 (Rf.map (·.1))).map (·.1)=some Rf:=fun _ _=>by kernel_rfl
theorem rq:∀os tape,(DataW.laidRun Tryz.prog (varsWorld Tryz.prog 400 778 os tape).memory 8 (Rf.map (·.1))).map (fun x=>decide x.2.Nodup&&laidRowsB Tryz.prog (varsWorld Tryz.prog 400 778 os tape).memory x.2)=some true:=fun _ _=>by kernel_rfl
theorem tie:Tryz.prog.laidByTextLater Rf [.data,.data,.data,.sentinel,.sentinel,.data] true:=
 Program.laidByTextLater_of_run 778 400 8 sG sF sE sC sB r_ rz rr rq
theorem K9:Rows.sliceRoundTripUptoRow.laidByTextAt .later Tryz.pinned [.data,.data,.data,.sentinel,.sentinel,.data] true:=
 OpenClaim.laidByTextAt_later rfl rfl tie UQ
end
end Go.Proofs.YtlmkmpomgdbjhaaGreatDoor
