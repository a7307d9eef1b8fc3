import Derived.Test.YtlmkmpomgdbjhaaGreatDoorZa25
/-
  a part of the proof.
-/
set_option linter.unusedSectionVars false
set_option linter.unusedVariables false
set_option linter.unusedSimpArgs false
namespace Go.Proofs.YtlmkmpomgdbjhaaGreatDoor
open Tryz
section
open Go
set_option maxRecDepth 1000000
theorem Fl {A B:Type}{f g:A->Option B}:∀{l:List A},(∀x∈l,f x=g x)->l.filterMap f=l.filterMap g
 | [],_=>rfl
 | a::l,h=>by rw[List.filterMap_cons,List.filterMap_cons,h a Be,Fl fun x hx=>h x (Ct _ hx)]
theorem Jv {A B:Type}{f g:A->List B}:∀{l:List A},(∀x∈l,f x=g x)->l.flatMap f=l.flatMap g
 | [],_=>rfl
 | a::l,h=>by rw[D2,D2,h a Be,Jv fun x hx=>h x (Ct _ hx)]
noncomputable def OG:List Nat:=Rx ZE (1+2575) [4] 0 []
theorem TL:prog.closure 4=OG:=by
 unfold Program.closure OG
 rw[fk]
 exact QS prog ZE jl _ _ _ _ fun x=>by simp
theorem fb:OG.all (fun g=>Nat.blt g 750)=true:=by kernel_rfl
theorem QQ (g:Nat) (h:g∈OG):g<750:=by
 have:=CY.1 fb g h
 rwa [Nat.blt_eq]at this
theorem Sl:750<=prog.funcs.toList.length:=by rw[Fp,Im];omega
def tB (g:Nat):Option String:=bif Nat.beq g 0 then some "main.main" else bif Nat.beq g 1 then some "gosem.cut" else bif Nat.beq g 637 then some "internal/bytealg.Index" else bif Nat.beq g 679 then some "internal/bytealg.IndexByte" else bif Nat.beq g 742 then some "internal/bytealg.IndexByteString" else Option.none
theorem jO:(prog.funcs.toList.take 750).map (fun fn=>if fn.ours||fn.body.isNone||fn.name=="runtime.NumGoroutine" then some fn.name else Option.none)=(List.range 750).map tB:=by kernel_rfl
theorem zr:OG.filterMap tB=["internal/bytealg.IndexByteString","internal/bytealg.IndexByte","internal/bytealg.Index"]:=by kernel_rfl
theorem bn:prog.inPlace 4=["internal/bytealg.IndexByteString","internal/bytealg.IndexByte","internal/bytealg.Index"]:=by
 have e:prog.inPlace 4=OG.filterMap tB:=by
  unfold Program.inPlace
  rw[TL]
  refine Fl fun g hg=>?_
  rw[Ry,<- Ht]
  exact Of _ _ _ _ 750 Sl jO g (QQ g hg)
 rw[e]
 exact zr
theorem lj:prog.unfollowed 4=true:=by
 unfold Program.unfollowed
 rw[TL]
 exact Gj.2 ⟨16,List.contains_iff_mem.1 (by kernel_rfl),by kernel_rfl⟩
theorem sK:prog.recurses 4=true:=by
 unfold Program.recurses
 rw[lj,Bool.true_or]
def tG (g:Nat):List Nat:=bif Nat.beq g 183 then[0]else bif Nat.beq g 412 then[1]else bif Nat.beq g 529 then[2]else bif Nat.beq g 617 then[3]else bif Nat.beq g 701 then[4]else bif Nat.beq g 738 then[5]else bif Nat.beq g 739 then[6]else[]
theorem jX:(prog.funcs.toList.take 750).map (fun fn=>fn.body.elim [] Code.globalsNamed)=(List.range 750).map tG:=by kernel_rfl
def sL (g:Nat):Option String:=bif Nat.beq g 637 then some "internal/bytealg.MaxLen" else Option.none
theorem ic:(prog.funcs.toList.take 750).map (fun fn=>if fn.body.isNone then entryReads.lookup fn.name else Option.none)=(List.range 750).map sL:=by kernel_rfl
theorem nA:((OG.flatMap tG).eraseDups.filterMap (fun g=>(prog.globals[g]?).map (·.name))++OG.filterMap sL).eraseDups=["math/bits.deBruijn64tab","internal/strconv.uint64pow10","math/bits.deBruijn32tab","strconv.ErrSyntax","strconv.ErrRange","internal/bytealg.MaxLen","univocal/digest.rounds"]:=by kernel_rfl
theorem iw:prog.varsNamed 4=["math/bits.deBruijn64tab","internal/strconv.uint64pow10","math/bits.deBruijn32tab","strconv.ErrSyntax","strconv.ErrRange","internal/bytealg.MaxLen","univocal/digest.rounds"]:=by
 have e1:(OG.flatMap fun g=>((prog.funcs[g]?).bind (·.body)).elim [] Code.globalsNamed)=OG.flatMap tG:=Jv fun g hg=>by
  rw[Yt,<- Ht]
  exact Of _ _ _ _ 750 Sl jX g (QQ g hg)
 have e2:(OG.filterMap fun g=>(prog.funcs[g]?).bind fun fn=>if fn.body.isNone then entryReads.lookup fn.name else Option.none)=OG.filterMap sL:=Fl fun g hg=>by
  rw[Ry,<- Ht]
  exact Of _ _ _ _ 750 Sl ic g (QQ g hg)
 unfold Program.varsNamed
 rw[TL,e1,e2]
 exact nA
theorem L5 {t:TypeId}{l:List TypeId}(hb:prog.book t=l) (h:(l.any fun u=>match prog.underlying u with | some (.func ..) | some (.chan ..) | some .unsafePointer=>true | _=>false)=false):prog.veiledRec t=false:=by
 unfold Program.veiledRec
 rw[hb];exact h
theorem de:prog.veiledRec 220=false:=L5 (Hf (L:=[220,5]) (by kernel_rfl) (by kernel_rfl)) (by kernel_rfl)
theorem dZ:prog.veiledRec 824=false:=L5 (Hf (L:=[824,47]) (by kernel_rfl) (by kernel_rfl)) (by kernel_rfl)
theorem iN:prog.veiledRec 22=false:=L5 (Hf (L:=[22,5]) (by kernel_rfl) (by kernel_rfl)) (by kernel_rfl)
theorem dY:prog.veiledRec 871=false:=L5 (Hf (L:=[871]) (by kernel_rfl) (by kernel_rfl)) (by kernel_rfl)
theorem db:prog.veiledRec 268=false:=L5 (Hf (L:=[268,185]) (by kernel_rfl) (by kernel_rfl)) (by kernel_rfl)
theorem Jj {t:TypeId}(h:prog.veiledRec t=false):prog.veiledOwn t=true:=by
 unfold Program.veiledOwn
 rw[h];rfl
end
end Go.Proofs.YtlmkmpomgdbjhaaGreatDoor
