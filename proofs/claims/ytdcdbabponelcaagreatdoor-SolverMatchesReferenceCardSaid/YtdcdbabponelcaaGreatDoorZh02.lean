import Derived.Test.YtdcdbabponelcaaGreatDoorRows
import Derived.JoinedOf
import Derived.KernelRfl
import GoSem.ClaimGoes
/-
  closed facts of the row.
-/
set_option linter.unusedSectionVars false
set_option linter.unusedVariables false
set_option linter.unusedSimpArgs false
namespace Go.Proofs.YtdcdbabponelcaaGreatDoor
open Go
set_option maxHeartbeats 100000000 in
theorem cj:joinedFacts Tryz.prog 3 Tryz.f3 (OpenSpec.ofChange Rows.solverMatchesReferenceSpec).bare Rows.solverMatchesReferenceRow=true:=by
 unfold joinedFacts
 simp only[Bool.and_eq_true]
 repeat' apply And.intro
 all_goals as_aux_lemma=>kernel_rfl
end Go.Proofs.YtdcdbabponelcaaGreatDoor
namespace Go.Proofs.YtdcdbabponelcaaGreatDoor
open Go
theorem ei:Tryz.prog.funcs.any Func.goes=false:=by kernel_rfl
theorem Ze (f:FuncId):Tryz.prog.goes f=false:=by
 unfold Program.goes
 rw[Bool.or_eq_false_iff,ei,Bool.and_false]
 refine⟨?_,rfl⟩
 rw[List.any_eq_false]
 intro g _ hg
 cases hf:Tryz.prog.funcs[g]? with
 | none=>rw[hf]at hg;cases hg
 | some fn=>
  rw[hf]at hg
  have h1:fn.goes=true:=hg
  have h2:=Array.any_eq_false'.1 ei fn (Array.mem_of_getElem? hf)
  exact h2 h1
theorem UE (P:Program) (c:OpenClaim) (hs:c.start=.entering) (h:∀f,P.goes f=false):false=c.goesBy P:=by
 unfold OpenClaim.goesBy Program.goesAt Program.goesFrom
 rw[hs]
 cases P.funcNamed c.func<;>simp[h]
theorem Zs:false=Rows.solverMatchesReferenceRow.goesBy Tryz.prog:=UE _ _ rfl Ze
end Go.Proofs.YtdcdbabponelcaaGreatDoor
