import Derived.Test.YtlmkmpomgdbjhaaGreatDoorRows
import Derived.KernelRfl
import GoSem.ClaimGoes
import Derived.Test.YtlmkmpomgdbjhaaGreatDoorZa22
import Derived.Test.YtlmkmpomgdbjhaaGreatDoorZa24
import Derived.Test.YtlmkmpomgdbjhaaGreatDoorZa27
/-
  This text proves that the law SliceIntegrity returns true, and that its arguments read as before, where what is read is of bulk at most 1048576; its conditions: the listed variables hold what they are laid with, and those that the given statement names.
-/
set_option linter.unusedSectionVars false
set_option linter.unusedVariables false
set_option linter.unusedSimpArgs false
namespace Go.Proofs.YtlmkmpomgdbjhaaGreatDoor
section
open Go
theorem mO:Tryz.prog.funcs.any Func.goes=false:=by kernel_rfl
theorem iM (f:FuncId):Tryz.prog.goes f=false:=by
 unfold Program.goes
 rw[Bool.or_eq_false_iff,mO,Bool.and_false]
 refine⟨?_,rfl⟩
 rw[List.any_eq_false]
 intro g _ hg
 cases hf:Tryz.prog.funcs[g]? with
 | none=>rw[hf]at hg;cases hg
 | some fn=>
  rw[hf]at hg
  have h1:fn.goes=true:=hg
  have h2:=Array.any_eq_false'.1 mO fn (Array.mem_of_getElem? hf)
  exact h2 h1
theorem bP (P:Program) (c:OpenClaim) (hs:c.start=.entering) (h:∀f,P.goes f=false):false=c.goesBy P:=by
 unfold OpenClaim.goesBy Program.goesAt Program.goesFrom
 rw[hs]
 cases P.funcNamed c.func<;>simp[h]
theorem iz:false=Rows.sliceIntegrityUptoRow.goesBy Tryz.prog:=bP _ _ rfl iM
end
section
open Go Go.AL Go.ChangeShapes Go.WideShapes Go.ChangeAt Go.RowKit
def cellOf:DataW Unit->Value
 | .lit (.int k z)=>.int k z
 | _=>.bool false
def rowOf:DataW Unit->Array Value
 | .agg l=>(l.map cellOf).toArray
 | _=>#[]
noncomputable def low:Nat:=(World.holding Tryz.prog default ⟨#[],#[],[]⟩).heap.size
noncomputable def RN (h:Array Obj) (g:Nat) (cs:Array Value):Array Obj:=h.modify g fun
 | .cells _ t frozen=>.cells cs t frozen
 | o=>o
abbrev lS:ByteArray:={ data:=#[105,110,118,97,108,105,100,32,115,121,110,116,97,120] }
abbrev lT:ByteArray:={ data:=#[118,97,108,117,101,32,111,117,116,32,111,102,32,114,97,110,103,101] }
noncomputable def Mj (os:Os):World:=
 let w0:=World.holding Tryz.prog os ⟨#[.cells #[.string lS] 892,.cells #[.string lT] 892],#[],[]⟩
 { w0 with heap:=RN (RN (RN (RN (RN (RN w0.heap 1 (rowOf Rows.laid_math_bits_deBruijn64tab)) 3 (rowOf Rows.laid_internal_strconv_uint64pow10)) 4 (rowOf Rows.laid_math_bits_deBruijn32tab)) 0 (rowOf Rows.laid_univocal_digest_rounds))
  5 #[.iface 890 (.pointer (some ⟨low,0,none⟩))]) 6 #[.iface 890 (.pointer (some ⟨low+1,0,none⟩))] }
def Wg:Array Value:=#[.agg #[.int .i64 0,.int .i64 0,.slice none 0 0],.agg (Array.replicate 32 (.int .u8 0)),.int .u16 0]
theorem aK (os:Os):laidMet Tryz.prog Rows.sliceIntegrityUptoRow.laid ((Mj os).forCall (fun _ _=>0) ⟨#[],Wg,[]⟩).memory:=
  laidMet_of_run' 8 (by kernel_rfl) (by kernel_rfl)
theorem reads (os:Os){H:Type}(enc:TypeId × Value->H):∃places,DataW.whole enc Tryz.prog ((Mj os).forCall (fun _ _=>0) ⟨#[],Wg,[]⟩).memory Tryz.f5.params.toList Rows.sliceIntegritySpec.vars false Wg.toList 8=some ([.agg [.lit (.int .i64 0),.lit (.int .i64 0),.nil],.agg (List.replicate 32 (.lit (.int .u8 0))),.lit (.int .u16 0)],[],places):=
  ⟨[],by kernel_rfl⟩
set_option maxRecDepth 100000 in
theorem Vm (os:Os) (started:os.Started) (H:Type) (enc:TypeId × Value->H) (F:Stop.Interp) :
    ReturnsInHanded {} Tryz.checked os 5 .any ((Rows.OpenSpec.upto Rows.sliceIntegritySpec).preRow enc Tryz.prog Tryz.f5 Rows.sliceIntegrityUptoRow.domain false Rows.sliceIntegrityUptoRow.laid) (((Rows.OpenSpec.upto Rows.sliceIntegritySpec).at F).post enc Tryz.prog Tryz.f5 false true false false):=by
  obtain⟨places,hx⟩:=reads os enc
  refine returnsInHanded_of_row (C:=Tryz.checked) (s:=Rows.OpenSpec.upto Rows.sliceIntegritySpec) own started (by kernel_rfl) Tryz.func5
    (witness_row_at (enc:=enc) (C:=Tryz.checked) false (Mj os) Wg rfl (by kernel_rfl) (by kernel_rfl) (by kernel_rfl)
      (OpenSpec.preRow_of_cond 8 hx (by kernel_rfl) (fun k hk=>by cases hk;kernel_rfl) (by kernel_rfl) (aK os))) ?_
  intro W base args ds gs before hval hW _ hcond _ hL _ _
  exact bk H enc W base args ds gs before hval hW (hcond _ rfl) hL
theorem ml:Tryz.f5.isInstance Tryz.prog Rows.sliceIntegrityUptoRow.origin Rows.sliceIntegrityUptoRow.targs:=of_decide_eq_true (by kernel_rfl)
theorem mj:Tryz.f5.isWrapper Tryz.prog Rows.sliceIntegrityUptoRow.wrapper Rows.sliceIntegrityUptoRow.mainSum:=by
  unfold Func.isWrapper
  first | (rw[if_pos (by decide +kernel)];kernel_rfl) | (rw[if_neg (by decide +kernel)];exact⟨rfl,rfl⟩)
theorem Dh:Tryz.prog.funcNamed Rows.sliceIntegrityUptoRow.func=some 5:=by kernel_rfl
theorem Ze:Rows.SliceIntegrityUptoSaid:=
  OpenClaim.holds_of_cond 5 Tryz.f5 rfl rfl rfl rfl rfl rfl rfl ⟨rfl,rfl,rfl,rfl,rfl⟩ rfl rfl rfl rfl rfl Dh Tryz.func5 cj ml mj
    (fun os started H enc _ F=>by rw[OpenClaim.pre_eq_preRow];exact Vm os started H enc F)
theorem plain (f:FuncId) (fn:Func) (hf:Tryz.pinned.checked.prog.funcNamed "univocal/univocallaw28.SliceIntegrity"=some f) (hfn:Tryz.pinned.checked.prog.funcs[f]?=some fn) :
    true=Tryz.pinned.checked.prog.looks []/\∀(j:Nat) t,fn.params[j]?=some t->Tryz.pinned.checked.prog.wantsStandIn t=false:=by
  obtain rfl:f=5:=GX ((show Tryz.prog.funcNamed "univocal/univocallaw28.SliceIntegrity"=some 5 by kernel_rfl).symm.trans hf) |>.symm
  obtain rfl:fn=Tryz.f5:=(GX (Tryz.func5.symm.trans hfn)).symm
  refine⟨by kernel_rfl,fun j t ht=>?_⟩
  rw[Tryz.params5]at ht
  have hm:=Array.mem_of_getElem? ht
  simp only[List.mem_toArray,DF,G8,or_false]at hm
  rcases hm with rfl | rfl | rfl
  · exact(show Tryz.prog.wantsStandIn 29=false by kernel_rfl)
  · exact(show Tryz.prog.wantsStandIn 23=false by kernel_rfl)
  · exact(show Tryz.prog.wantsStandIn 41=false by kernel_rfl)
theorem cardUpto:Rows.SliceIntegrityUptoCardSaid:=
  Claim7.holds_tied_plain_at .later [] _ _ _ _ Ze (fun _ h=>by cases h) (by kernel_rfl) (fun _ h=>by cases h) Kk rfl ⟨rfl,rfl⟩ (by kernel_rfl) rfl plain iz
end
end Go.Proofs.YtlmkmpomgdbjhaaGreatDoor
