import Derived.Test.YtlmkmpomgdbjhaaGreatDoorZa25
/-
  a part of the proof.
-/
set_option linter.unusedSectionVars false
set_option linter.unusedVariables false
set_option linter.unusedSimpArgs false
namespace Go.Proofs.YtlmkmpomgdbjhaaGreatDoor
open Tryz
section
open Go
set_option maxRecDepth 1000000
theorem Fa {A B:Type}{f g:A->Option B}:∀{l:List A},(∀x∈l,f x=g x)->l.filterMap f=l.filterMap g
 | [],_=>rfl
 | a::l,h=>by rw[List.filterMap_cons,List.filterMap_cons,h a BY,Fa fun x hx=>h x (Cx _ hx)]
theorem Jf {A B:Type}{f g:A->List B}:∀{l:List A},(∀x∈l,f x=g x)->l.flatMap f=l.flatMap g
 | [],_=>rfl
 | a::l,h=>by rw[Gb,Gb,h a BY,Jf fun x hx=>h x (Cx _ hx)]
noncomputable def Np:List Nat:=Rh YV (1+2575) [5] 0 []
theorem Sw:prog.closure 5=Np:=by
 unfold Program.closure Np
 rw[fH]
 exact QF prog YV jN _ _ _ _ fun x=>by simp
theorem fA:Np.all (fun g=>Nat.blt g 750)=true:=by kernel_rfl
theorem QE (g:Nat) (h:g∈Np):g<750:=by
 have:=CW.1 fA g h
 rwa [Nat.blt_eq]at this
theorem SS:750<=prog.funcs.toList.length:=by rw[Fe,IU];omega
def r_ (g:Nat):Option String:=bif Nat.beq g 0 then some "main.main" else bif Nat.beq g 1 then some "gosem.cut" else bif Nat.beq g 637 then some "internal/bytealg.Index" else bif Nat.beq g 679 then some "internal/bytealg.IndexByte" else bif Nat.beq g 742 then some "internal/bytealg.IndexByteString" else Option.none
theorem ik:(prog.funcs.toList.take 750).map (fun fn=>if fn.ours||fn.body.isNone||fn.name=="runtime.NumGoroutine" then some fn.name else Option.none)=(List.range 750).map r_:=by kernel_rfl
theorem yj:Np.filterMap r_=["internal/bytealg.IndexByteString","internal/bytealg.IndexByte","internal/bytealg.Index"]:=by kernel_rfl
theorem bD:prog.inPlace 5=["internal/bytealg.IndexByteString","internal/bytealg.IndexByte","internal/bytealg.Index"]:=by
 have e:prog.inPlace 5=Np.filterMap r_:=by
  unfold Program.inPlace
  rw[Sw]
  refine Fa fun g hg=>?_
  rw[Ri,<- HY]
  exact OS _ _ _ _ 750 SS ik g (QE g hg)
 rw[e]
 exact yj
theorem lL:prog.unfollowed 5=true:=by
 unfold Program.unfollowed
 rw[Sw]
 exact GW.2 ⟨16,List.contains_iff_mem.1 (by kernel_rfl),by kernel_rfl⟩
theorem rC:prog.recurses 5=true:=by
 unfold Program.recurses
 rw[lL,Bool.true_or]
def sF (g:Nat):List Nat:=bif Nat.beq g 183 then[0]else bif Nat.beq g 412 then[1]else bif Nat.beq g 529 then[2]else bif Nat.beq g 617 then[3]else bif Nat.beq g 701 then[4]else bif Nat.beq g 738 then[5]else bif Nat.beq g 739 then[6]else[]
theorem i_:(prog.funcs.toList.take 750).map (fun fn=>fn.body.elim [] Code.globalsNamed)=(List.range 750).map sF:=by kernel_rfl
def rD (g:Nat):Option String:=bif Nat.beq g 637 then some "internal/bytealg.MaxLen" else Option.none
theorem iB:(prog.funcs.toList.take 750).map (fun fn=>if fn.body.isNone then entryReads.lookup fn.name else Option.none)=(List.range 750).map rD:=by kernel_rfl
theorem mR:((Np.flatMap sF).eraseDups.filterMap (fun g=>(prog.globals[g]?).map (·.name))++Np.filterMap rD).eraseDups=["math/bits.deBruijn64tab","internal/strconv.uint64pow10","math/bits.deBruijn32tab","strconv.ErrSyntax","strconv.ErrRange","internal/bytealg.MaxLen","univocal/digest.rounds"]:=by kernel_rfl
theorem iO:prog.varsNamed 5=["math/bits.deBruijn64tab","internal/strconv.uint64pow10","math/bits.deBruijn32tab","strconv.ErrSyntax","strconv.ErrRange","internal/bytealg.MaxLen","univocal/digest.rounds"]:=by
 have e1:(Np.flatMap fun g=>((prog.funcs[g]?).bind (·.body)).elim [] Code.globalsNamed)=Np.flatMap sF:=Jf fun g hg=>by
  rw[YL,<- HY]
  exact OS _ _ _ _ 750 SS i_ g (QE g hg)
 have e2:(Np.filterMap fun g=>(prog.funcs[g]?).bind fun fn=>if fn.body.isNone then entryReads.lookup fn.name else Option.none)=Np.filterMap rD:=Fa fun g hg=>by
  rw[Ri,<- HY]
  exact OS _ _ _ _ 750 SS iB g (QE g hg)
 unfold Program.varsNamed
 rw[Sw,e1,e2]
 exact mR
theorem Lg {t:TypeId}{l:List TypeId}(hb:prog.book t=l) (h:(l.any fun u=>match prog.underlying u with | some (.func ..) | some (.chan ..) | some .unsafePointer=>true | _=>false)=false):prog.veiledRec t=false:=by
 unfold Program.veiledRec
 rw[hb];exact h
theorem dA:prog.veiledRec 220=false:=Lg (GN (L:=[220,5]) (by kernel_rfl) (by kernel_rfl)) (by kernel_rfl)
theorem cz:prog.veiledRec 824=false:=Lg (GN (L:=[824,47]) (by kernel_rfl) (by kernel_rfl)) (by kernel_rfl)
theorem gg:prog.veiledRec 22=false:=Lg (GN (L:=[22,5]) (by kernel_rfl) (by kernel_rfl)) (by kernel_rfl)
theorem cy:prog.veiledRec 871=false:=Lg (GN (L:=[871]) (by kernel_rfl) (by kernel_rfl)) (by kernel_rfl)
theorem c_:prog.veiledRec 268=false:=Lg (GN (L:=[268,185]) (by kernel_rfl) (by kernel_rfl)) (by kernel_rfl)
theorem IN {t:TypeId}(h:prog.veiledRec t=false):prog.veiledOwn t=true:=by
 unfold Program.veiledOwn
 rw[h];rfl
end
end Go.Proofs.YtlmkmpomgdbjhaaGreatDoor
