import Derived.Test.YtlmkmpomgdbjhaaGreatDoorZa26
import Derived.Test.YtlmkmpomgdbjhaaGreatDoorRows
import Derived.JoinedOf
/-
  a part of the proof.
-/
set_option linter.unusedSectionVars false
set_option linter.unusedVariables false
set_option linter.unusedSimpArgs false
namespace Go.Proofs.YtlmkmpomgdbjhaaGreatDoor
section
open Go
abbrev dV:OpenClaim:=Rows.sliceIntegrityUptoRow
abbrev gx:ChangeSpec:=(Rows.OpenSpec.upto Rows.sliceIntegritySpec).bare
theorem kb:Tryz.f5.params.toList++gx.plain.varTypes Tryz.prog=[29,23,41]:=by kernel_rfl
theorem lR:Tryz.f5.resultTypes.toList=[4]:=by kernel_rfl
theorem rf:Tryz.f5.params=#[29,23,41]:=by kernel_rfl
theorem yB:Tryz.f5.resultTypes=#[4]:=by kernel_rfl
theorem q4:Tryz.f5.params.all (Tryz.prog.readableRec ·)=true:=by
 rw[rf]
 simp[Qo,Qn,Qm]
theorem yZ:(dV.maps==(Tryz.f5.params.toList++gx.plain.varTypes Tryz.prog).any (Tryz.prog.mapsRec ·))=true:=by
 rw[kb];simp only[I7,JD,X3,X2,X1];rfl
theorem yY:(dV.ifaces==(Tryz.f5.params.toList++gx.plain.varTypes Tryz.prog).any (Tryz.prog.ifacesRec ·))=true:=by
 rw[kb];simp only[I7,JD,Ua,UZ,UY];rfl
theorem yX:(dV.loops==(Tryz.f5.params.toList++gx.plain.varTypes Tryz.prog).any (Tryz.prog.loopsFrom ·))=true:=by
 rw[kb];simp only[I7,JD,UG,UF,UE];rfl
theorem yW:(dV.wideKeys==(Tryz.f5.params.toList++gx.plain.varTypes Tryz.prog++Tryz.f5.resultTypes.toList).any (Tryz.prog.wideKeysFrom ·))=true:=by
 rw[kb,lR];simp only[Fi,Bf,I7,JD,Qi,O4,O3,O2];rfl
theorem yV:Tryz.f5.resultTypes.all (fun t=>Tryz.prog.readableRec t&&decide (t<Tryz.prog.types.size))=true:=by
 rw[yB]
 simp[SW,types_size]
theorem yU:(dV.ifacesOut==Tryz.f5.resultTypes.toList.any (Tryz.prog.ifacesRec ·))=true:=by
 rw[lR];simp only[I7,JD,Vv];rfl
theorem kf:(dV.loopsOut==Tryz.f5.resultTypes.toList.any (Tryz.prog.loopsFrom ·))=true:=by
 rw[lR];simp only[I7,JD,Vl];rfl
theorem yT:(dV.veiled==(Tryz.f5.params.toList++gx.plain.varTypes Tryz.prog++Tryz.f5.resultTypes.toList).any (Tryz.prog.veiledRec ·))=true:=by
 rw[kb,lR];simp only[Fi,Bf,I7,JD,O6,M7,M6,M5];rfl
theorem X6:(dV.laid.filterMap fun x=>(Tryz.prog.globalNamed x.1).bind fun g=>(Tryz.prog.globals[g]?).map (·.type))=[220,824,22,871,871,268]:=by kernel_rfl
theorem Ye:dV.veiledFits Tryz.prog Tryz.f5.params.toList (Tryz.f5.params.toList++gx.plain.varTypes Tryz.prog++Tryz.f5.resultTypes.toList)=true:=by
 unfold OpenClaim.veiledFits
 rw[X6,kb,lR]
 have h:(([29,23,41]++[4]++[220,824,22,871,871,268]:List TypeId).all (Tryz.prog.veiledOwn ·))=true:=by
  simp only[Fi,Bf,Dz,List.all_nil,IN O6,IN M7,IN M6,IN M5,IN dA,IN cz,IN gg,IN cy,IN c_,Bool.and_self]
 rw[h];rfl
set_option maxHeartbeats 100000000 in
theorem cj:joinedFacts Tryz.prog 5 Tryz.f5 (Rows.OpenSpec.upto Rows.sliceIntegritySpec).bare Rows.sliceIntegrityUptoRow=true:=by
 unfold joinedFacts
 simp only[AS]
 refine⟨⟨⟨⟨⟨⟨⟨⟨⟨⟨⟨⟨⟨⟨⟨⟨⟨⟨⟨⟨⟨⟨⟨⟨⟨⟨⟨⟨⟨⟨⟨?k1,aL⟩,?k3⟩,q4⟩,?k5⟩,?k6⟩,?k7⟩,?k8⟩,?k9⟩,?k10⟩,?k11⟩,?k12⟩,?k13⟩,yZ⟩,yY⟩,?k16⟩,yX⟩,yW⟩,?k19⟩,yV⟩,yU⟩,kf⟩,?k23⟩,?k24⟩,?k25⟩,?k26⟩,?k27⟩,?k28⟩,?k29⟩,?k30⟩,yT⟩,Ye⟩
 case k10=>rw[bD];rfl
 case k11=>rw[lL];rfl
 case k12=>rw[rC];rfl
 case k13=>rw[iO];rfl
 all_goals as_aux_lemma=>kernel_rfl
end
end Go.Proofs.YtlmkmpomgdbjhaaGreatDoor
