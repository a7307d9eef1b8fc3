import Derived.Test.YtlmkmpomgdbjhaaGreatDoorZa00
import Derived.Test.YtlmkmpomgdbjhaaGreatDoorProg
import Derived.JoinedOf
import Derived.KernelRfl
/-
  a part of the proof.
-/
set_option linter.unusedSectionVars false
set_option linter.unusedVariables false
set_option linter.unusedSimpArgs false
namespace Go.Proofs.YtlmkmpomgdbjhaaGreatDoor
open Tryz
section
open Go
theorem RY {P:Program}{l:List TypeId}(h:P.grow l=l):∀n,P.grown n l=l
 | 0=>rfl
 | n+1=>by unfold Program.grown;rw[h];exact RY h n
def rz (P:Program):Nat->List TypeId->List TypeId
 | 0,l=>l
 | k+1,l=>rz P k (P.grow l)
theorem Ud {P:Program}:∀(k:Nat) {l L:List TypeId},rz P k l=L->P.grow L=L->∀n,P.grown (k+n) l=L
 | 0,l,L,h,h2,n=>by
  have h:l=L:=h
  subst h
  rw[IG];exact RY h2 n
 | k+1,l,L,h,h2,n=>by
  rw[show k+1+n=(k+n)+1 by omega]
  unfold Program.grown
  exact Ud k h h2 n
theorem types_size:prog.types.size=907:=by kernel_rfl
theorem GN {t:TypeId}{L:List TypeId}(h:rz prog 14 [t]=L) (h2:prog.grow L=L):prog.book t=L:=by
 unfold Program.book
 rw[types_size];exact Ud 14 h h2 893
theorem Us:prog.book 4=[4]:=GN (by kernel_rfl) (by kernel_rfl)
theorem Mt:prog.book 23=[23,5]:=GN (by kernel_rfl) (by kernel_rfl)
theorem Ms:prog.book 29=[29,3,27,89,163,158,54,62,160,161,156,4,175,179,145,149,151,154,51,256,146,147,152,114,5,49,238,24,47,242,240,245]:=GN (by kernel_rfl) (by kernel_rfl)
theorem Mr:prog.book 41=[41]:=GN (by kernel_rfl) (by kernel_rfl)
theorem Ro {p:Nat->Bool}{n:Nat}(k:Nat) (hk:n<=100*k) (h:∀i,i<k->((List.range 100).all fun j=>!Nat.blt (100*i+j) n||p (100*i+j))=true):(List.range n).all p=true:=by
 refine CW.2 fun t ht=>?_
 have ht:=LJ.1 ht
 have h1:=CW.1 (h (t / 100) (by omega)) (t % 100) (LJ.2 (by omega))
 have e:100*(t / 100)+t % 100=t:=by omega
 rw[e]at h1
 have h2:Nat.blt t n=true:=by rw[Nat.blt_eq];exact ht
 rw[h2]at h1
 simpa using h1
end
section
open Go
theorem yM:((List.range 100).all fun j=>!Nat.blt (100*0+j) 907||rowFine prog (100*0+j))=true:=by kernel_rfl
theorem yL:((List.range 100).all fun j=>!Nat.blt (100*1+j) 907||rowFine prog (100*1+j))=true:=by kernel_rfl
theorem yK:((List.range 100).all fun j=>!Nat.blt (100*2+j) 907||rowFine prog (100*2+j))=true:=by kernel_rfl
theorem yJ:((List.range 100).all fun j=>!Nat.blt (100*3+j) 907||rowFine prog (100*3+j))=true:=by kernel_rfl
theorem yI:((List.range 100).all fun j=>!Nat.blt (100*4+j) 907||rowFine prog (100*4+j))=true:=by kernel_rfl
end
end Go.Proofs.YtlmkmpomgdbjhaaGreatDoor
