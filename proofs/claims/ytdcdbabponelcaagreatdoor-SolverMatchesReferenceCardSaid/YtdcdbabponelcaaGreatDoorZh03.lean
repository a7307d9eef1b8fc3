import Derived.Test.YtdcdbabponelcaaGreatDoorZh01
import Derived.Test.YtdcdbabponelcaaGreatDoorZh02
/-
  This text proves that the law SolverMatchesReference returns true, and that its arguments read as before, for all arguments; its conditions: the table math/bits.deBruijn64tab holds what it is laid with, and those that the given statement names.
-/
set_option linter.unusedSectionVars false
set_option linter.unusedVariables false
set_option linter.unusedSimpArgs false
namespace Go.Proofs.YtdcdbabponelcaaGreatDoor
open Go Go.AL Go.ChangeShapes Go.WideShapes Go.ChangeAt Go.RowKit
noncomputable def JM (os:Os):World:=
 { World.holding Tryz.prog os ⟨#[],#[],[]⟩with heap:=(World.holding Tryz.prog os ⟨#[],#[],[]⟩).heap.modify 1 fun
   | .cells _ t frozen=>.cells (QH.map fun z=>Value.int .u8 z).toArray t frozen
   | o=>o }
def QN:Array Value:=#[.agg #[.int .u8 0,.slice none 0 0,.slice none 0 0,.slice none 0 0],.slice none 0 0]
theorem TZ (os:Os):laidMet Tryz.prog Rows.solverMatchesReferenceRow.laid ((JM os).forCall (fun _ _=>0) ⟨#[],QN,[]⟩).memory:=
 laidMet_of_run' 8 (by kernel_rfl) (by kernel_rfl)
theorem reads (os:Os){H:Type}(enc:TypeId × Value→H):∃places,DataW.whole enc Tryz.prog ((JM os).forCall (fun _ _=>0) ⟨#[],QN,[]⟩).memory Tryz.f3.params.toList Rows.solverMatchesReferenceSpec.vars false QN.toList 8=some ([.agg [.lit (.int .u8 0),.nil,.nil,.nil],.nil],[],places):=
 ⟨[],by kernel_rfl⟩
set_option maxRecDepth 100000 in
theorem lifted (os:Os) (started:os.Started) (H:Type) (enc:TypeId × Value→H) (F:Stop.Interp) :
  ReturnsInHanded {} Tryz.checked os 3 .any ((OpenSpec.ofChange Rows.solverMatchesReferenceSpec).preRow enc Tryz.prog Tryz.f3 Rows.solverMatchesReferenceRow.domain false Rows.solverMatchesReferenceRow.laid) (((OpenSpec.ofChange Rows.solverMatchesReferenceSpec).at F).post enc Tryz.prog Tryz.f3 false true false false):=by
 obtain⟨places,hx⟩:=reads os enc
 refine returnsInHanded_of_row (C:=Tryz.checked) (s:=OpenSpec.ofChange Rows.solverMatchesReferenceSpec) own started (by kernel_rfl) Tryz.func3
  (witness_row_at (enc:=enc) (C:=Tryz.checked) false (JM os) QN rfl (by kernel_rfl) (by kernel_rfl) (by kernel_rfl)
   (OpenSpec.preRow_of_cond 8 hx (by kernel_rfl) (fun k hk=>by cases hk) (by kernel_rfl) (TZ os))) ?_
 intro W base args ds gs before hval hW _ _ _ hL _ _
 exact UP H enc W base args ds gs before hval hW hL
theorem fN:Tryz.f3.isInstance Tryz.prog Rows.solverMatchesReferenceRow.origin Rows.solverMatchesReferenceRow.targs:=of_decide_eq_true (by kernel_rfl)
theorem fM:Tryz.f3.isWrapper Tryz.prog Rows.solverMatchesReferenceRow.wrapper Rows.solverMatchesReferenceRow.mainSum:=by
 unfold Func.isWrapper
 first | (rw[if_pos (by decide +kernel)];kernel_rfl) | (rw[if_neg (by decide +kernel)];exact⟨rfl,rfl⟩)
theorem Iq:Tryz.prog.funcNamed Rows.solverMatchesReferenceRow.func=some 3:=by kernel_rfl
theorem said:Rows.SolverMatchesReferenceSaid:=
 OpenClaim.holds_of_cond 3 Tryz.f3 rfl rfl rfl rfl rfl rfl rfl ⟨rfl,rfl,rfl,rfl,rfl⟩ rfl rfl rfl rfl rfl Iq Tryz.func3 cj fN fM
  (fun os started H enc _ F=>by rw[OpenClaim.pre_eq_preRow];exact lifted os started H enc F)
theorem plain (f:FuncId) (fn:Func) (hf:Tryz.pinned.checked.prog.funcNamed "univocal/univocallaw16.SolverMatchesReference"=some f) (hfn:Tryz.pinned.checked.prog.funcs[f]?=some fn) :
  true=Tryz.pinned.checked.prog.looks []∧∀(j:Nat) t,fn.params[j]?=some t→Tryz.pinned.checked.prog.wantsStandIn t=false:=by
 obtain rfl:f=3:=Option.some.inj ((show Tryz.prog.funcNamed "univocal/univocallaw16.SolverMatchesReference"=some 3 by kernel_rfl).symm.trans hf) |>.symm
 obtain rfl:fn=Tryz.f3:=(Option.some.inj (Tryz.func3.symm.trans hfn)).symm
 refine⟨by kernel_rfl,fun j t ht=>?_⟩
 rw[Tryz.params3]at ht
 have hm:=Array.mem_of_getElem? ht
 simp only[List.mem_toArray,List.mem_cons,List.not_mem_nil,or_false]at hm
 rcases hm with rfl | rfl
 ·exact(show Tryz.prog.wantsStandIn 25=false by kernel_rfl)
 ·exact(show Tryz.prog.wantsStandIn 26=false by kernel_rfl)
theorem card:Rows.SolverMatchesReferenceCardSaid:=
 Claim7.holds_tied_plain_at .later [] _ _ _ _ said (fun _ h=>by cases h) (by kernel_rfl) (fun _ h=>by cases h) solverMatchesReference_row_tie rfl ⟨rfl,rfl⟩ (by kernel_rfl) rfl plain Zs
end Go.Proofs.YtdcdbabponelcaaGreatDoor
