import Derived.Test.YtlmkmpomgdbjhaaGreatDoorZa26
import Derived.Test.YtlmkmpomgdbjhaaGreatDoorRows
import Derived.JoinedOf
/-
  a part of the proof.
-/
set_option linter.unusedSectionVars false
set_option linter.unusedVariables false
set_option linter.unusedSimpArgs false
namespace Go.Proofs.YtlmkmpomgdbjhaaGreatDoor
section
open Go
abbrev eI:OpenClaim:=Rows.sliceRoundTripUptoRow
abbrev iX:ChangeSpec:=(Rows.OpenSpec.upto Rows.sliceRoundTripSpec).bare
theorem lM:Tryz.f4.params.toList++iX.plain.varTypes Tryz.prog=[23,29,23]:=by kernel_rfl
theorem lv:Tryz.f4.resultTypes.toList=[4]:=by kernel_rfl
theorem sj:Tryz.f4.params=#[23,29,23]:=by kernel_rfl
theorem zP:Tryz.f4.resultTypes=#[4]:=by kernel_rfl
theorem q4:Tryz.f4.params.all (Tryz.prog.readableRec ·)=true:=by
 rw[sj]
 simp[Qy,Qx]
theorem zn:(eI.maps==(Tryz.f4.params.toList++iX.plain.varTypes Tryz.prog).any (Tryz.prog.mapsRec ·))=true:=by
 rw[lM];simp only[JM,KN,Yb,Ya];rfl
theorem zm:(eI.ifaces==(Tryz.f4.params.toList++iX.plain.varTypes Tryz.prog).any (Tryz.prog.ifacesRec ·))=true:=by
 rw[lM];simp only[JM,KN,Ur,Uq];rfl
theorem zl:(eI.loops==(Tryz.f4.params.toList++iX.plain.varTypes Tryz.prog).any (Tryz.prog.loopsFrom ·))=true:=by
 rw[lM];simp only[JM,KN,UX,UW];rfl
theorem xE:(eI.wideKeys==(Tryz.f4.params.toList++iX.plain.varTypes Tryz.prog++Tryz.f4.resultTypes.toList).any (Tryz.prog.wideKeysFrom ·))=true:=by
 rw[lM,lv];simp only[Ec,B7,JM,KN,Qt,PI,PH];rfl
theorem zk:Tryz.f4.resultTypes.all (fun t=>Tryz.prog.readableRec t&&decide (t<Tryz.prog.types.size))=true:=by
 rw[zP]
 simp[Sp,types_size]
theorem zj:(eI.ifacesOut==Tryz.f4.resultTypes.toList.any (Tryz.prog.ifacesRec ·))=true:=by
 rw[lv];simp only[JM,KN,WE];rfl
theorem zi:(eI.loopsOut==Tryz.f4.resultTypes.toList.any (Tryz.prog.loopsFrom ·))=true:=by
 rw[lv];simp only[JM,KN,V5];rfl
theorem zh:(eI.veiled==(Tryz.f4.params.toList++iX.plain.varTypes Tryz.prog++Tryz.f4.resultTypes.toList).any (Tryz.prog.veiledRec ·))=true:=by
 rw[lM,lv];simp only[Ec,B7,JM,KN,PJ,NI,NH];rfl
theorem Yd:(eI.laid.filterMap fun x=>(Tryz.prog.globalNamed x.1).bind fun g=>(Tryz.prog.globals[g]?).map (·.type))=[220,824,22,871,871,268]:=by kernel_rfl
theorem xD:eI.veiledFits Tryz.prog Tryz.f4.params.toList (Tryz.f4.params.toList++iX.plain.varTypes Tryz.prog++Tryz.f4.resultTypes.toList)=true:=by
 unfold OpenClaim.veiledFits
 rw[Yd,lM,lv]
 have h:(([23,29,23]++[4]++[220,824,22,871,871,268]:List TypeId).all (Tryz.prog.veiledOwn ·))=true:=by
  simp only[Ec,B7,EB,List.all_nil,Jj PJ,Jj NI,Jj NH,Jj de,Jj dZ,Jj iN,Jj dY,Jj db,Bool.and_self]
 rw[h];rfl
set_option maxHeartbeats 100000000 in
theorem cj:joinedFacts Tryz.prog 4 Tryz.f4 (Rows.OpenSpec.upto Rows.sliceRoundTripSpec).bare Rows.sliceRoundTripUptoRow=true:=by
 unfold joinedFacts
 simp only[AS]
 refine⟨⟨⟨⟨⟨⟨⟨⟨⟨⟨⟨⟨⟨⟨⟨⟨⟨⟨⟨⟨⟨⟨⟨⟨⟨⟨⟨⟨⟨⟨⟨?k1,bA⟩,?k3⟩,q4⟩,?k5⟩,?k6⟩,?k7⟩,?k8⟩,?k9⟩,?k10⟩,?k11⟩,?k12⟩,?k13⟩,zn⟩,zm⟩,?k16⟩,zl⟩,xE⟩,?k19⟩,zk⟩,zj⟩,zi⟩,?k23⟩,?k24⟩,?k25⟩,?k26⟩,?k27⟩,?k28⟩,?k29⟩,?k30⟩,zh⟩,xD⟩
 case k10=>rw[bn];rfl
 case k11=>rw[lj];rfl
 case k12=>rw[sK];rfl
 case k13=>rw[iw];rfl
 all_goals as_aux_lemma=>kernel_rfl
end
end Go.Proofs.YtlmkmpomgdbjhaaGreatDoor
