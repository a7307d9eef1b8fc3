import Derived.Test.YtlmkmpomgdbjhaaGreatDoorZa20
/-
  a part of the proof.
-/
set_option linter.unusedSectionVars false
set_option linter.unusedVariables false
set_option linter.unusedSimpArgs false
namespace Go.Proofs.YtlmkmpomgdbjhaaGreatDoor
open Tryz
section
open Go
set_option maxRecDepth 1000000
theorem zV:((List.range 100).all fun j=>!Nat.blt (100*5+j) 907||rowFine prog (100*5+j))=true:=by kernel_rfl
theorem zU:((List.range 100).all fun j=>!Nat.blt (100*6+j) 907||rowFine prog (100*6+j))=true:=by kernel_rfl
theorem zT:((List.range 100).all fun j=>!Nat.blt (100*7+j) 907||rowFine prog (100*7+j))=true:=by kernel_rfl
theorem zS:((List.range 100).all fun j=>!Nat.blt (100*8+j) 907||rowFine prog (100*8+j))=true:=by kernel_rfl
theorem zR:((List.range 100).all fun j=>!Nat.blt (100*9+j) 907||rowFine prog (100*9+j))=true:=by kernel_rfl
theorem bA:laidOutB prog=true:=by
 unfold laidOutB
 rw[types_size]
 simp only[AS]
 refine⟨⟨SB 10 (by omega) fun i hi=>?_,by kernel_rfl⟩,by kernel_rfl⟩
 match i,hi with
 | 0,_=>exact za
 | 1,_=>exact zZ
 | 2,_=>exact zY
 | 3,_=>exact zX
 | 4,_=>exact zW
 | 5,_=>exact zV
 | 6,_=>exact zU
 | 7,_=>exact zT
 | 8,_=>exact zS
 | 9,_=>exact zR
 | n+10,h=>omega
theorem Yb:prog.mapsRec 23=false:=by
 unfold Program.mapsRec
 rw[M6]
 kernel_rfl
theorem Ya:prog.mapsRec 29=false:=by
 unfold Program.mapsRec
 rw[M5]
 kernel_rfl
theorem WE:prog.ifacesRec 4=false:=by
 unfold Program.ifacesRec
 rw[VE]
 kernel_rfl
theorem Ur:prog.ifacesRec 23=false:=by
 unfold Program.ifacesRec
 rw[M6]
 kernel_rfl
theorem Uq:prog.ifacesRec 29=false:=by
 unfold Program.ifacesRec
 rw[M5]
 kernel_rfl
theorem V5:prog.loopsFrom 4=false:=by
 unfold Program.loopsFrom
 rw[VE]
 kernel_rfl
theorem UX:prog.loopsFrom 23=false:=by
 unfold Program.loopsFrom
 rw[M6]
 kernel_rfl
theorem UW:prog.loopsFrom 29=false:=by
 unfold Program.loopsFrom
 rw[M5]
 kernel_rfl
theorem Qt:prog.wideKeysFrom 4=false:=by
 unfold Program.wideKeysFrom
 rw[VE]
 kernel_rfl
theorem PI:prog.wideKeysFrom 23=false:=by
 unfold Program.wideKeysFrom
 rw[M6]
 kernel_rfl
theorem PH:prog.wideKeysFrom 29=false:=by
 unfold Program.wideKeysFrom
 rw[M5]
 kernel_rfl
theorem PJ:prog.veiledRec 4=false:=by
 unfold Program.veiledRec
 rw[VE]
 kernel_rfl
theorem NI:prog.veiledRec 23=false:=by
 unfold Program.veiledRec
 rw[M6]
 kernel_rfl
theorem NH:prog.veiledRec 29=false:=by
 unfold Program.veiledRec
 rw[M5]
 kernel_rfl
theorem Sp:prog.readableRec 4=true:=by
 unfold Program.readableRec
 rw[VE]
 kernel_rfl
theorem Qy:prog.readableRec 23=true:=by
 unfold Program.readableRec
 rw[M6]
 kernel_rfl
theorem Qx:prog.readableRec 29=true:=by
 unfold Program.readableRec
 rw[M5]
 kernel_rfl
noncomputable def I6 (t:Nat):Bool:=match prog.underlying t with
 | some (.slice e)=>decide (0<prog.cellsOf e)
 | _=>true
theorem z_:((List.range 100).all fun j=>!Nat.blt (100*0+j) 907||I6 (100*0+j))=true:=by kernel_rfl
theorem z9:((List.range 100).all fun j=>!Nat.blt (100*1+j) 907||I6 (100*1+j))=true:=by kernel_rfl
theorem z8:((List.range 100).all fun j=>!Nat.blt (100*2+j) 907||I6 (100*2+j))=true:=by kernel_rfl
theorem z7:((List.range 100).all fun j=>!Nat.blt (100*3+j) 907||I6 (100*3+j))=true:=by kernel_rfl
theorem z6:((List.range 100).all fun j=>!Nat.blt (100*4+j) 907||I6 (100*4+j))=true:=by kernel_rfl
theorem zy:((List.range 100).all fun j=>!Nat.blt (100*5+j) 907||I6 (100*5+j))=true:=by kernel_rfl
theorem zx:((List.range 100).all fun j=>!Nat.blt (100*6+j) 907||I6 (100*6+j))=true:=by kernel_rfl
theorem zw:((List.range 100).all fun j=>!Nat.blt (100*7+j) 907||I6 (100*7+j))=true:=by kernel_rfl
theorem zu:((List.range 100).all fun j=>!Nat.blt (100*8+j) 907||I6 (100*8+j))=true:=by kernel_rfl
theorem zt:((List.range 100).all fun j=>!Nat.blt (100*9+j) 907||I6 (100*9+j))=true:=by kernel_rfl
theorem fP:(List.range 907).all I6=true:=by
 refine SB 10 (by omega) fun i hi=>?_
 match i,hi with
 | 0,_=>exact z_
 | 1,_=>exact z9
 | 2,_=>exact z8
 | 3,_=>exact z7
 | 4,_=>exact z6
 | 5,_=>exact zy
 | 6,_=>exact zx
 | 7,_=>exact zw
 | 8,_=>exact zu
 | 9,_=>exact zt
 | n+10,h=>omega
theorem jY (t e:TypeId) (hl:t<prog.types.size) (ht:prog.underlying t=some (.slice e)):0<prog.cellsOf e:=by
 rw[types_size]at hl
 have h:=CY.1 fP t (Lg.2 hl)
 unfold I6 at h
 rw[ht]at h
 simpa using h
end
end Go.Proofs.YtlmkmpomgdbjhaaGreatDoor
