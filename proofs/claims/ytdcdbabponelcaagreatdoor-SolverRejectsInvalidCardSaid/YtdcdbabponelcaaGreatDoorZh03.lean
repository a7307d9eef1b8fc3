import Derived.Test.YtdcdbabponelcaaGreatDoorZh01
import Derived.Test.YtdcdbabponelcaaGreatDoorZh02
/-
  This text proves that the law SolverRejectsInvalid returns true, and that its arguments read as before, for all arguments; its conditions: the table math/bits.deBruijn64tab holds what it is laid with, and those that the given statement names.
-/
set_option linter.unusedSectionVars false
set_option linter.unusedVariables false
set_option linter.unusedSimpArgs false
namespace Go.Proofs.YtdcdbabponelcaaGreatDoor
open Go Go.AL Go.ChangeShapes Go.WideShapes Go.ChangeAt Go.RowKit
noncomputable def laidWorld (os:Os):World:=
 { World.holding Tryz.prog os ⟨#[],#[],[]⟩with heap:=(World.holding Tryz.prog os ⟨#[],#[],[]⟩).heap.modify 1 fun
   | .cells _ t frozen=>.cells (zsTab.map fun z=>Value.int .u8 z).toArray t frozen
   | o=>o }
def wArgs:Array Value:=#[.agg #[.int .u8 0,.slice none 0 0,.slice none 0 0,.slice none 0 0],.int .i64 0,.int .u8 0]
theorem laid_met (os:Os):laidMet Tryz.prog Rows.solverRejectsInvalidRow.laid ((laidWorld os).forCall (fun _ _=>0) ⟨#[],wArgs,[]⟩).memory:=
 laidMet_of_run' 8 (by kernel_rfl) (by kernel_rfl)
theorem reads (os:Os){H:Type}(enc:TypeId × Value→H):∃places,DataW.whole enc Tryz.prog ((laidWorld os).forCall (fun _ _=>0) ⟨#[],wArgs,[]⟩).memory Tryz.f4.params.toList Rows.solverRejectsInvalidSpec.vars false wArgs.toList 8=some ([.agg [.lit (.int .u8 0),.nil,.nil,.nil],.lit (.int .i64 0),.lit (.int .u8 0)],[],places):=
 ⟨[],by kernel_rfl⟩
set_option maxRecDepth 100000 in
theorem lifted (os:Os) (started:os.Started) (H:Type) (enc:TypeId × Value→H) (F:Stop.Interp) :
  ReturnsInHanded {} Tryz.checked os 4 .any ((OpenSpec.ofChange Rows.solverRejectsInvalidSpec).preRow enc Tryz.prog Tryz.f4 Rows.solverRejectsInvalidRow.domain false Rows.solverRejectsInvalidRow.laid) (((OpenSpec.ofChange Rows.solverRejectsInvalidSpec).at F).post enc Tryz.prog Tryz.f4 false true false false):=by
 obtain⟨places,hx⟩:=reads os enc
 refine returnsInHanded_of_row (C:=Tryz.checked) (s:=OpenSpec.ofChange Rows.solverRejectsInvalidSpec) own started (by kernel_rfl) Tryz.func4
  (witness_row_at (enc:=enc) (C:=Tryz.checked) false (laidWorld os) wArgs rfl (by kernel_rfl) (by kernel_rfl) (by kernel_rfl)
   (OpenSpec.preRow_of_cond 8 hx (by kernel_rfl) (fun k hk=>by cases hk) (by kernel_rfl) (laid_met os))) ?_
 intro W base args ds gs before hval hW _ _ _ hL _ _
 exact contract H enc W base args ds gs before hval hW hL
theorem hinst:Tryz.f4.isInstance Tryz.prog Rows.solverRejectsInvalidRow.origin Rows.solverRejectsInvalidRow.targs:=of_decide_eq_true (by kernel_rfl)
theorem hwrap:Tryz.f4.isWrapper Tryz.prog Rows.solverRejectsInvalidRow.wrapper Rows.solverRejectsInvalidRow.mainSum:=by
 unfold Func.isWrapper
 first | (rw[if_pos (by decide +kernel)];kernel_rfl) | (rw[if_neg (by decide +kernel)];exact⟨rfl,rfl⟩)
theorem hname:Tryz.prog.funcNamed Rows.solverRejectsInvalidRow.func=some 4:=by kernel_rfl
theorem said:Rows.SolverRejectsInvalidSaid:=
 OpenClaim.holds_of_cond 4 Tryz.f4 rfl rfl rfl rfl rfl rfl rfl ⟨rfl,rfl,rfl,rfl,rfl⟩ rfl rfl rfl rfl rfl hname Tryz.func4 cj hinst hwrap
  (fun os started H enc _ F=>by rw[OpenClaim.pre_eq_preRow];exact lifted os started H enc F)
theorem plain (f:FuncId) (fn:Func) (hf:Tryz.pinned.checked.prog.funcNamed "univocal/univocallaw16.SolverRejectsInvalid"=some f) (hfn:Tryz.pinned.checked.prog.funcs[f]?=some fn) :
  true=Tryz.pinned.checked.prog.looks []∧∀(j:Nat) t,fn.params[j]?=some t→Tryz.pinned.checked.prog.wantsStandIn t=false:=by
 obtain rfl:f=4:=Option.some.inj ((show Tryz.prog.funcNamed "univocal/univocallaw16.SolverRejectsInvalid"=some 4 by kernel_rfl).symm.trans hf) |>.symm
 obtain rfl:fn=Tryz.f4:=(Option.some.inj (Tryz.func4.symm.trans hfn)).symm
 refine⟨by kernel_rfl,fun j t ht=>?_⟩
 rw[Tryz.params4]at ht
 have hm:=Array.mem_of_getElem? ht
 simp only[List.mem_toArray,List.mem_cons,List.not_mem_nil,or_false]at hm
 rcases hm with rfl | rfl | rfl
 ·exact(show Tryz.prog.wantsStandIn 25=false by kernel_rfl)
 ·exact(show Tryz.prog.wantsStandIn 3=false by kernel_rfl)
 ·exact(show Tryz.prog.wantsStandIn 5=false by kernel_rfl)
theorem card:Rows.SolverRejectsInvalidCardSaid:=
 Claim7.holds_tied_plain_at .later [] _ _ _ _ said (fun _ h=>by cases h) (by kernel_rfl) (fun _ h=>by cases h) solverRejectsInvalid_row_tie rfl ⟨rfl,rfl⟩ (by kernel_rfl) rfl plain goesNo
end Go.Proofs.YtdcdbabponelcaaGreatDoor
