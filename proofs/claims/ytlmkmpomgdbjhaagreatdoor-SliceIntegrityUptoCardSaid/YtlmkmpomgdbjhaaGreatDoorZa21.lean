import Derived.Test.YtlmkmpomgdbjhaaGreatDoorZa20
/-
  a part of the proof.
-/
set_option linter.unusedSectionVars false
set_option linter.unusedVariables false
set_option linter.unusedSimpArgs false
namespace Go.Proofs.YtlmkmpomgdbjhaaGreatDoor
open Tryz
section
open Go
set_option maxRecDepth 1000000
theorem yH:((List.range 100).all fun j=>!Nat.blt (100*5+j) 907||rowFine prog (100*5+j))=true:=by kernel_rfl
theorem yG:((List.range 100).all fun j=>!Nat.blt (100*6+j) 907||rowFine prog (100*6+j))=true:=by kernel_rfl
theorem yF:((List.range 100).all fun j=>!Nat.blt (100*7+j) 907||rowFine prog (100*7+j))=true:=by kernel_rfl
theorem yE:((List.range 100).all fun j=>!Nat.blt (100*8+j) 907||rowFine prog (100*8+j))=true:=by kernel_rfl
theorem yD:((List.range 100).all fun j=>!Nat.blt (100*9+j) 907||rowFine prog (100*9+j))=true:=by kernel_rfl
theorem aL:laidOutB prog=true:=by
 unfold laidOutB
 rw[types_size]
 simp only[AS]
 refine⟨⟨Ro 10 (by omega) fun i hi=>?_,by kernel_rfl⟩,by kernel_rfl⟩
 match i,hi with
 | 0,_=>exact yM
 | 1,_=>exact yL
 | 2,_=>exact yK
 | 3,_=>exact yJ
 | 4,_=>exact yI
 | 5,_=>exact yH
 | 6,_=>exact yG
 | 7,_=>exact yF
 | 8,_=>exact yE
 | 9,_=>exact yD
 | n+10,h=>omega
theorem X3:prog.mapsRec 23=false:=by
 unfold Program.mapsRec
 rw[Mt]
 kernel_rfl
theorem X2:prog.mapsRec 29=false:=by
 unfold Program.mapsRec
 rw[Ms]
 kernel_rfl
theorem X1:prog.mapsRec 41=false:=by
 unfold Program.mapsRec
 rw[Mr]
 kernel_rfl
theorem Vv:prog.ifacesRec 4=false:=by
 unfold Program.ifacesRec
 rw[Us]
 kernel_rfl
theorem Ua:prog.ifacesRec 23=false:=by
 unfold Program.ifacesRec
 rw[Mt]
 kernel_rfl
theorem UZ:prog.ifacesRec 29=false:=by
 unfold Program.ifacesRec
 rw[Ms]
 kernel_rfl
theorem UY:prog.ifacesRec 41=false:=by
 unfold Program.ifacesRec
 rw[Mr]
 kernel_rfl
theorem Vl:prog.loopsFrom 4=false:=by
 unfold Program.loopsFrom
 rw[Us]
 kernel_rfl
theorem UG:prog.loopsFrom 23=false:=by
 unfold Program.loopsFrom
 rw[Mt]
 kernel_rfl
theorem UF:prog.loopsFrom 29=false:=by
 unfold Program.loopsFrom
 rw[Ms]
 kernel_rfl
theorem UE:prog.loopsFrom 41=false:=by
 unfold Program.loopsFrom
 rw[Mr]
 kernel_rfl
theorem Qi:prog.wideKeysFrom 4=false:=by
 unfold Program.wideKeysFrom
 rw[Us]
 kernel_rfl
theorem O4:prog.wideKeysFrom 23=false:=by
 unfold Program.wideKeysFrom
 rw[Mt]
 kernel_rfl
theorem O3:prog.wideKeysFrom 29=false:=by
 unfold Program.wideKeysFrom
 rw[Ms]
 kernel_rfl
theorem O2:prog.wideKeysFrom 41=false:=by
 unfold Program.wideKeysFrom
 rw[Mr]
 kernel_rfl
theorem O6:prog.veiledRec 4=false:=by
 unfold Program.veiledRec
 rw[Us]
 kernel_rfl
theorem M7:prog.veiledRec 23=false:=by
 unfold Program.veiledRec
 rw[Mt]
 kernel_rfl
theorem M6:prog.veiledRec 29=false:=by
 unfold Program.veiledRec
 rw[Ms]
 kernel_rfl
theorem M5:prog.veiledRec 41=false:=by
 unfold Program.veiledRec
 rw[Mr]
 kernel_rfl
theorem SW:prog.readableRec 4=true:=by
 unfold Program.readableRec
 rw[Us]
 kernel_rfl
theorem Qo:prog.readableRec 23=true:=by
 unfold Program.readableRec
 rw[Mt]
 kernel_rfl
theorem Qn:prog.readableRec 29=true:=by
 unfold Program.readableRec
 rw[Ms]
 kernel_rfl
theorem Qm:prog.readableRec 41=true:=by
 unfold Program.readableRec
 rw[Mr]
 kernel_rfl
noncomputable def Ij (t:Nat):Bool:=match prog.underlying t with
 | some (.slice e)=>decide (0<prog.cellsOf e)
 | _=>true
theorem yx:((List.range 100).all fun j=>!Nat.blt (100*0+j) 907||Ij (100*0+j))=true:=by kernel_rfl
theorem yw:((List.range 100).all fun j=>!Nat.blt (100*1+j) 907||Ij (100*1+j))=true:=by kernel_rfl
theorem yu:((List.range 100).all fun j=>!Nat.blt (100*2+j) 907||Ij (100*2+j))=true:=by kernel_rfl
theorem yt:((List.range 100).all fun j=>!Nat.blt (100*3+j) 907||Ij (100*3+j))=true:=by kernel_rfl
theorem yr:((List.range 100).all fun j=>!Nat.blt (100*4+j) 907||Ij (100*4+j))=true:=by kernel_rfl
theorem yq:((List.range 100).all fun j=>!Nat.blt (100*5+j) 907||Ij (100*5+j))=true:=by kernel_rfl
theorem yo:((List.range 100).all fun j=>!Nat.blt (100*6+j) 907||Ij (100*6+j))=true:=by kernel_rfl
theorem yn:((List.range 100).all fun j=>!Nat.blt (100*7+j) 907||Ij (100*7+j))=true:=by kernel_rfl
theorem ym:((List.range 100).all fun j=>!Nat.blt (100*8+j) 907||Ij (100*8+j))=true:=by kernel_rfl
theorem yk:((List.range 100).all fun j=>!Nat.blt (100*9+j) 907||Ij (100*9+j))=true:=by kernel_rfl
theorem ec:(List.range 907).all Ij=true:=by
 refine Ro 10 (by omega) fun i hi=>?_
 match i,hi with
 | 0,_=>exact yx
 | 1,_=>exact yw
 | 2,_=>exact yu
 | 3,_=>exact yt
 | 4,_=>exact yr
 | 5,_=>exact yq
 | 6,_=>exact yo
 | 7,_=>exact yn
 | 8,_=>exact ym
 | 9,_=>exact yk
 | n+10,h=>omega
theorem jA (t e:TypeId) (hl:t<prog.types.size) (ht:prog.underlying t=some (.slice e)):0<prog.cellsOf e:=by
 rw[types_size]at hl
 have h:=CW.1 ec t (LJ.2 hl)
 unfold Ij at h
 rw[ht]at h
 simpa using h
end
end Go.Proofs.YtlmkmpomgdbjhaaGreatDoor
