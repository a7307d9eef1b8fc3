import Derived.Test.YtdcdbabponelcaaGreatDoorZg05
import Derived.Test.YtdcdbabponelcaaGreatDoorZd03
/-
  Assert on a solver; data in their ranges.
-/
set_option linter.unusedSectionVars false
set_option linter.unusedVariables false
set_option linter.unusedSimpArgs false
namespace Go.AL
variable [BY] {P:Program}
def Pt (l:(Tw.list .byte).D):List UInt8:=l
def SH (l:(Tw.list .int).D):List Int:=l
theorem An.WH {g:FuncId}{ar:List AV}{H:AH}{Post Post':Cc→AH→Prop}(h:An P g ar H Post)
  (hp:∀o H',Post o H'→∃(R:Nat→Prop) (H'':AH),H''.next=H'.next∧H''.gl=H'.gl∧(∀r ob,H''.get r=some ob→¬R r∧(H'.get r=some ob∨∃l l',ob=.cells l'∧H'.get r=some (.cells l)∧Bu H' R l l'))∧Post' o H''):An P g ar H Post':=by
 refine⟨h.1,fun Z σ w vs hW hv=>(h.2 Z σ w vs hW hv).mono fun x w' hx=>?_⟩
 obtain⟨Z',σ',H1,out,g1,g2,g3,g4,g5,g6⟩:=hx
 obtain⟨R,H2,k1,k2,k3,k4⟩:=hp out H1 g6
 have hle:=Gt (R:=R) g4
 refine⟨On Z' σ' H1 R w',σ',H2,out,g1.trans hle,g2,by rw[k1];exact g3,g4.Km k1 k3 k2,?_,k4⟩
 cases out with
 | ret v=>obtain⟨cv,e,hv⟩:=g5;exact⟨cv,e,hv.mono hle (KJ.refl _)⟩
 | pan v=>obtain⟨cv,e,hv⟩:=g5;exact⟨cv,e,hv.mono hle (KJ.refl _)⟩
section
variable {H0 H:AH}{A B L:OL}
theorem BE.kz {q p:Nat}{c d d':List AV}(h:BE H0 (A++(q,c)::(p,d)::B) H) (hd:Bu H (fun r=>r=q) d d') :
  ∃H',H'.next=H.next∧H'.gl=H.gl∧(∀r ob,H'.get r=some ob→¬r=q∧(H.get r=some ob∨∃l l',ob=.cells l'∧H.get r=some (.cells l)∧Bu H (fun r=>r=q) l l'))∧BE H0 (A++(p,d')::B) H':=by
 have s1:=h.UL
 have s:=s1.eF (c':=d')
 obtain⟨_,_,hp⟩:=h.l (p,d) (by simp)
 have hp:H.get p=some (.cells d):=hp
 have hne:p≠q:=h.ne (d:=d) (by simp)
 refine⟨(H.erase q).set p (.cells d'),rfl,rfl,fun r o hr=>?_,s⟩
 rw[AH.CZ]at hr
 split at hr
 ·rename_i e
  subst e
  cases hr
  exact⟨hne,.inr ⟨d,d',rfl,hp,hd⟩⟩
 ·rw[AH.get_erase]at hr
  split at hr
  ·cases hr
  ·rename_i hq
   exact⟨hq,.inl hr⟩
theorem eg {z:List AV}{K:AV→AH→Prop}(s:BE H0 L H) (hK:∀q H',BE H0 ((q,z)::L) H'→K (.ptr q 0) H'):Ej (.alloc z) H K:=
 KZ (c:=z) (f:=fun r=>.ptr r 0) rfl (hK _ _ s.push)
theorem BE.old (h:BE H0 L H):O9 H L:=fun x hx=>(h.l x hx).2
end
end Go.AL
namespace Go.Proofs.YtdcdbabponelcaaGreatDoor
open Go Go.AL
variable [BY]
structure jH (d:Bh.D) (n k:Nat):Prop where
 al0:0<(DI d.1).length
 al1:(DI d.1).length≤16
 inc:∀j,j+1<(DI d.1).length→((Pt d.1).getD j 0).toNat<((Pt d.1).getD (j+1) 0).toNat
 hn:(DI d.2.1).length=n
 hk:(DI d.2.2.1).length=k
 nk:n+k≤12
 mo:∀j,j<n→(0:Int)≤(SH d.2.1).getD j 0∧(SH d.2.1).getD j 0≤8
 to:∀j,j<k→(0:Int)≤(SH d.2.2.1).getD j 0∧(SH d.2.2.1).getD j 0≤64
theorem RS.sH {l:(Tw.list .byte).D}{v:AV}(h:RS (.list .byte) l [v]):FL 1 (fun i c=>c=[bv ((Pt l).getD i 0)]) (DI l).length v:=h.fl.mono fun i c hi hc=>by
 obtain⟨x,hx,hr⟩:=hc
 have hr:c=[bv x]:=hr
 have hx:(Pt l)[i]?=some x:=hx
 rw[List.getD_eq_getElem?_getD,hx,hr];rfl
theorem RS.qC {l:(Tw.list .int).D}{v:AV}(h:RS (.list .int) l [v]):FL 1 (fun i c=>c=[iv ((SH l).getD i 0)]) (DI l).length v:=h.fl.mono fun i c hi hc=>by
 obtain⟨x,hx,hr⟩:=hc
 have hr:c=[iv x]:=hr
 have hx:(SH l)[i]?=some x:=hx
 rw[List.getD_eq_getElem?_getD,hx,hr];rfl
end Go.Proofs.YtdcdbabponelcaaGreatDoor
namespace Go.AL
variable [BY] {P:Program}
def UD (n:Int):Prop:=-9223372036854775808≤n∧n≤9223372036854775807
def Vd (n:Nat):Prop:=n<18446744073709551616
def Zr (n:Int):Bool:=decide (-9223372036854775808≤n)&&decide (n≤9223372036854775807)
def eG (n:Nat):Bool:=Nat.blt n 18446744073709551616
def In:(t:Tw)→t.D→Prop
 | .int,n=>UD n
 | .byte,_=>True
 | .bool,_=>True
 | .word,n=>Vd n
 | .list t,l=>∀x∈DI l,In t x
 | .pair a b,p=>In a p.1∧In b p.2
def Zq:(t:Tw)→t.D→Bool
 | .int,n=>Zr n
 | .byte,_=>true
 | .bool,_=>true
 | .word,n=>eG n
 | .list t,l=>(DI l).all fun x=>Zq t x
 | .pair a b,p=>Zq a p.1&&Zq b p.2
theorem WC {n:Int}(h:Zr n=true):UD n:=by
 unfold Zr at h
 rw[Bool.and_eq_true]at h
 exact⟨of_decide_eq_true h.1,of_decide_eq_true h.2⟩
theorem Ve {n:Nat}(h:eG n=true):Vd n:=cast Nat.blt_eq h
theorem HM:∀(t:Tw) (d:t.D),Zq t d=true→In t d
 | .int,_,h=>WC h
 | .byte,_,_=>trivial
 | .bool,_,_=>trivial
 | .word,_,h=>Ve h
 | .list t,d,h=>fun x hx=>HM t x (List.all_eq_true.1 h x hx)
 | .pair a b,d,h=>by
  have h:(Zq a d.1&&Zq b d.2)=true:=h
  rw[Bool.and_eq_true]at h
  exact⟨HM a _ h.1,HM b _ h.2⟩
def ph (t:Tw) (c:List AV):Bool:=match PL t c with
 | some d=>Zq t d
 | none=>false
theorem TB {t:Tw}{c:List AV}(h:ph t c=true):∃d,RS t d c∧In t d:=by
 unfold ph at h
 split at h
 ·rename_i d hd
  exact⟨d,Fe t c d hd,HM t d h⟩
 ·cases h
theorem FL.dR {t:Tw}{z n:Nat}{Pr:Nat→List AV→Prop}{v:AV}{Q:t.D→Prop}(hz:z=tz t) (h:FL z Pr n v) (hn:n≤100000) (hp:∀i c,i<n→Pr i c→∃x,RS t x c∧Q x):∃l:List t.D,l.length=n∧RS (.list t) (show(Tw.list t).D from l) [v]∧∀x∈l,Q x:=by
 subst hz
 rcases h.ex with⟨rfl,rfl⟩ | ⟨css,b,rfl,h2,h3,h4⟩
 ·exact⟨[],rfl,.of (by simp) .nil,fun x hx=>by cases hx⟩
 ·have key:∀(css:List (List AV)) (k:Nat),(∀i c,css[i]?=some c→k+i<n∧Pr (k+i) c)→∃l:List t.D,l.length=css.length∧(∀(i:Nat) (c:List AV),css[i]?=some c→∃x:t.D,l[i]?=some x∧RS t x c)∧∀x∈l,Q x:=by
   intro css
   induction css with
   | nil=>exact fun k _=>⟨[],rfl,fun i c h=>by simp at h,fun x hx=>by cases hx⟩
   | cons c css ih=>
    intro k hk
    obtain⟨x,hx,hxi⟩:=hp k c (hk 0 c rfl).1 (hk 0 c rfl).2
    obtain⟨l,hl1,hl2,hl3⟩:=ih (k+1) (fun i d hd=>by
     have:=hk (i+1) d (by simpa using hd)
     rwa [show k+(i+1)=k+1+i by omega]at this)
    refine⟨x::l,by simp[hl1],fun i d hd=>?_,fun y hy=>?_⟩
    ·cases i with
     | zero=>cases hd;exact⟨x,rfl,hx⟩
     | succ i=>simpa using hl2 i d (by simpa using hd)
    ·cases hy with
     | head=>exact hxi
     | tail _ hy=>exact hl3 y hy
  obtain⟨l,hl1,hl2,hl3⟩:=key css 0 fun i c hc=>by rw[Nat.zero_add];exact⟨by rw[←h3];exact(List.getElem?_eq_some_iff.1 hc).1,(h4 i c hc).2.2⟩
  refine⟨l,by omega,.of (by omega) ⟨.inr ⟨css,b,?_,fun h=>h2 (by omega),by omega,fun i c hc=>⟨(h4 i c hc).1,(h4 i c hc).2.1,hl2 i c hc⟩⟩⟩,hl3⟩
  rw[hl1,h3]
theorem FL.Yz {t:Tw}{z n:Nat}{Pr:Nat→List AV→Prop}{v:AV}(hz:z=tz t) (h:FL z Pr n v) (hn:n≤100000) (hp:∀i c,Pr i c→∃x,RS t x c∧In t x):∃l:List t.D,l.length=n∧RS (.list t) (show(Tw.list t).D from l) [v]∧In (.list t) (show(Tw.list t).D from l):=
 h.dR hz hn fun i c _ hc=>hp i c hc
theorem Kj {n:Int}(h:-1000000000≤n∧n≤1000000000):In .int n:=by
 show UD n
 unfold UD
 omega
end Go.AL
namespace Go.Proofs.YtdcdbabponelcaaGreatDoor
open Go Go.AL
open Go.Proofs.YtdcdbabponelcaaGreatDoor.San (MC SI)
variable [BY]
theorem De (t:Tw):In (.list t) (show(Tw.list t).D from[]):=fun x hx=>by cases hx
theorem MQ.ri {n:Nat}(hn:n≤100){T:AV}(h:MQ n T):∃d,RS (.list DK) d [T]∧In (.list DK) d:=by
 obtain⟨m,hm,h⟩:=h
 obtain⟨l,_,h⟩:=h.Yz (t:=DK) rfl (by omega) fun i c hc=>by
  obtain⟨x,b,rfl,h1,h2,_⟩:=hc
  exact⟨(x,b),⟨[_],[_],rfl,rfl,rfl⟩,Kj (n:=x) (by omega),trivial⟩
 exact⟨l,h⟩
theorem Zy:∃d,RS (.list C0) d [.sim Dz 3 true]∧In (.list C0) d:=TB (by kernel_rfl)
theorem Ns.ri {c:List AV}(h:Ns c):∃d,RS HS d c∧In HS d:=by
 obtain⟨m,nx,ac,_,_,rfl,h1,h2⟩:=h
 obtain⟨d0,h0,i0⟩:=Zy
 obtain⟨l1,_,h1,i1⟩:=h1.Yz (t:=.list .int) rfl (by omega) fun i c hc=>by
  obtain⟨v,rfl,hv⟩:=hc
  obtain⟨l,_,hl⟩:=hv.Yz (t:=.int) rfl (by omega) fun i c hc=>by
   obtain⟨a,rfl,h1,h2⟩:=hc
   exact⟨a,rfl,Kj (by omega)⟩
  exact⟨l,hl⟩
 obtain⟨l2,_,h2,i2⟩:=h2.Yz (t:=.bool) rfl (by omega) fun i c hc=>by
  obtain⟨b,rfl⟩:=hc
  exact⟨b,rfl,trivial⟩
 exact⟨(d0,l1,l2),⟨[_],[_,_],rfl,h0,[_],[_],rfl,h1,h2⟩,i0,i1,i2⟩
theorem gG {j:Nat}(hj:j<8):∃d,RS EW d (MC j)∧In EW d:=by
 have h8:j=0∨j=1∨j=2∨j=3∨j=4∨j=5∨j=6∨j=7:=by omega
 rcases h8 with rfl | rfl | rfl | rfl | rfl | rfl | rfl | rfl<;>exact TB (by kernel_rfl)
theorem ZF.ri {c:List AV}(h:ZF c):∃d,RS GW d c∧In GW d:=by
 obtain⟨d,t,o,h1,h2,h3,rfl⟩:=h
 exact⟨((16:Int),((1+d:Nat):Int),((11+t:Nat):Int),(o:Int),false),⟨[_],_,rfl,rfl,[_],_,rfl,rfl,[_],_,rfl,rfl,[_],[_],rfl,rfl,rfl⟩,Kj (n:=16) (by decide),Kj (n:=((1+d:Nat):Int)) (by omega),Kj (n:=((11+t:Nat):Int)) (by omega),Kj (n:=(o:Int)) (by omega),trivial⟩
theorem ik:In HS ([],[],[]):=⟨De _,De _,De _⟩
theorem ij:In EW ([],[],[],[]):=⟨De _,De _,De _,De _⟩
theorem i0:In .int (0:Int):=Kj (by decide)
theorem ig:In GW ((0:Int),(0:Int),(0:Int),(0:Int),false):=⟨i0,i0,i0,i0,trivial⟩
theorem Kr.ri {n k:Nat}(hnk:n+k≤100){c:List AV}(h:Kr n k c):∃d,RS BR d c∧In BR d:=by
 cases h with
 | isIn hT hd=>
  obtain⟨t,hT,ti⟩:=hT.ri (by omega)
  obtain⟨d,hd,di⟩:=hd.ri
  exact⟨((1:Int),t,[],d,([],(0:Int)),([],[],[],[]),((0:Int),(0:Int),(0:Int),(0:Int),false),(0:Int)),HP (d:=((1:Int),t,[],d,([],(0:Int)),([],[],[],[]),((0:Int),(0:Int),(0:Int),(0:Int),false),(0:Int))) hT (DQ _) hd (DQ _) zM zQ,Kj (n:=1) (by decide),ti,De _,di,⟨De _,i0⟩,ij,ig,i0⟩
 | isEq hT hU=>
  obtain⟨t,hT,ti⟩:=hT.ri (by omega)
  obtain⟨u,hU,ui⟩:=hU.ri (by omega)
  exact⟨((2:Int),t,u,([],[],[]),([],(0:Int)),([],[],[],[]),((0:Int),(0:Int),(0:Int),(0:Int),false),(0:Int)),HP (d:=((2:Int),t,u,([],[],[]),([],(0:Int)),([],[],[],[]),((0:Int),(0:Int),(0:Int),(0:Int),false),(0:Int))) hT hU zD (DQ _) zM zQ,Kj (n:=2) (by decide),ti,ui,ik,⟨De _,i0⟩,ij,ig,i0⟩
 | isRow hA h1 h2=>
  rename_i A C
  obtain⟨a,_,hA,ai⟩:=hA.Yz (t:=.int) rfl (by omega) fun i c hc=>by
   obtain⟨a,rfl,h1,h2⟩:=hc
   exact⟨a,rfl,Kj (by omega)⟩
  exact⟨((3:Int),[],[],([],[],[]),(a,C),([],[],[],[]),((0:Int),(0:Int),(0:Int),(0:Int),false),(0:Int)),HP (d:=((3:Int),[],[],([],[],[]),(a,C),([],[],[],[]),((0:Int),(0:Int),(0:Int),(0:Int),false),(0:Int))) (DQ _) (DQ _) zD hA zM zQ,Kj (n:=3) (by decide),De _,De _,ik,⟨ai,Kj (n:=C) (by omega)⟩,ij,ig,i0⟩
 | isIm hT hU hj hm=>
  obtain⟨t,hT,ti⟩:=hT.ri (by omega)
  obtain⟨u,hU,ui⟩:=hU.ri (by omega)
  obtain⟨m,hM,mi⟩:=gG hj
  rw[hm]at hM
  exact⟨((4:Int),t,u,([],[],[]),([],(0:Int)),m,((0:Int),(0:Int),(0:Int),(0:Int),false),(0:Int)),HP (d:=((4:Int),t,u,([],[],[]),([],(0:Int)),m,((0:Int),(0:Int),(0:Int),(0:Int),false),(0:Int))) hT hU zD (DQ _) hM zQ,Kj (n:=4) (by decide),ti,ui,ik,⟨De _,i0⟩,mi,ig,i0⟩
 | isNum hT hq h1 h2=>
  rename_i T q1 q2 q3 q4 q5 N
  obtain⟨t,hT,ti⟩:=hT.ri (by omega)
  obtain⟨q,hQ,qi⟩:=hq.ri
  exact⟨((5:Int),t,[],([],[],[]),([],(0:Int)),([],[],[],[]),q,N),HP (d:=((5:Int),t,[],([],[],[]),([],(0:Int)),([],[],[],[]),q,N)) hT (DQ _) zD (DQ _) zM hQ,Kj (n:=5) (by decide),ti,De _,ik,⟨De _,i0⟩,ij,qi,Kj (n:=N) (by omega)⟩
theorem R_.ri {n k:Nat}(hnk:n+k≤100){c:List AV}(h:R_ n k c):∃d,RS F3 d c∧In F3 d:=by
 obtain⟨a,b,rfl,h⟩:=h
 obtain⟨d,hd,di⟩:=h.ri hnk
 exact⟨(d,b),⟨a,[.bool b],rfl,hd,rfl⟩,di,trivial⟩
def Ui (x:Nd):Prop:=0≤x.1∧x.1≤100∧0≤x.2.1∧x.2.1≤100∧0≤x.2.2∧x.2.2≤100
theorem Ui.i {x:Nd}(h:Ui x):In BX x:=by
 obtain⟨h1,h2,h3,h4,h5,h6⟩:=h
 exact⟨Kj (n:=x.1) ⟨by omega,by omega⟩,Kj (n:=x.2.1) ⟨by omega,by omega⟩,Kj (n:=x.2.2) ⟨by omega,by omega⟩⟩
structure dp (x:As):Prop where
 n:0<x.1.length
 f:∀y∈x.1,Ui y
 l:∀a∈x.2,In BR a
theorem dp.ok {x:As}(h:dp x):FA x:=fun y hy=>by
 obtain⟨_,_,h1,h2,_⟩:=h.f y hy
 omega
theorem ZH.ri {m:Nat}(hm:m≤100){v:AV}(h:ZH m v):∃d:List Nd,1≤d.length∧d.length≤8∧RS (.list BX) d [v]∧∀x∈d,Ui x:=by
 obtain⟨n,n1,n8,h⟩:=h
 obtain⟨l,hl,h,hi⟩:=h.dR (t:=BX) (Q:=Ui) rfl (by omega) fun i c hin hc=>by
  obtain⟨kd,L,R,rfl,k1,k4,h1,h2,h3⟩:=hc
  refine⟨(kd,L,R),HJ (kd,L,R),?_⟩
  show 0≤kd∧kd≤100∧0≤L∧L≤100∧0≤R∧R≤100
  by_cases e1:kd=1
  ·have:=h1 e1;omega
  by_cases e2:kd=2
  ·have:=h2 e2;omega
  have:=h3 (by omega);omega
 have hl:List.length (α:=Nd) l=n:=hl
 exact⟨l,by omega,by omega,h,hi⟩
theorem Om {α:Type}{l:List α}{z:α}{j n:Nat}(hn:l.length=n) (hj:j<n):l.getD j z∈l:=by
 rw[List.getD_eq_getElem?_getD,List.getElem?_eq_getElem (by omega),Option.getD_some]
 exact List.getElem_mem _
theorem Ue.ri {sh:Nat}{c:List AV}(h:Ue sh c):∃d:Bh.D,jH d (1+sh % 2) (sh / 2 % 2)∧RS Bh d c∧In Bh d∧(MX d).1.length≤3∧(MX d).2.length≤1∧CW (MX d).2≤8:=by
 obtain⟨mo,to,li,at_,fo,nl,na,nf,rfl,h1,h2,hl,h3,ha,h4,hf,h5⟩:=h.ex
 have hnk:1+sh % 2+sh / 2 % 2≤100:=by omega
 obtain⟨d1,l1,h1,q1⟩:=h1.dR (t:=.int) (Q:=fun x:Int=>0≤x∧x≤8) rfl (by omega) fun i c _ hc=>⟨_,hc,by omega⟩
 obtain⟨d2,l2,h2,q2⟩:=h2.dR (t:=.int) (Q:=fun x:Int=>0≤x∧x≤64) rfl (by omega) fun i c _ hc=>⟨_,hc,by omega⟩
 obtain⟨d3,_,h3,i3⟩:=h3.Yz (t:=F3) rfl (by omega) fun i c hc=>hc.ri hnk
 obtain⟨d4,l4,h4,i4⟩:=h4.Yz (t:=BR) rfl (by omega) fun i c hc=>hc.ri hnk
 obtain⟨d5,l5,h5,q5⟩:=h5.dR (t:=.list BX) (Q:=fun x:List Nd=>x.length≤8∧∀y∈x,Ui y) rfl (by omega) fun i c _ hc=>by
  obtain⟨v,rfl,hv⟩:=hc
  obtain⟨d,_,d8,hd,dq⟩:=hv.ri (by omega)
  exact⟨d,hd,d8,dq⟩
 have q1:∀x:Int,x∈SH d1→0≤x∧x≤8:=q1
 have q2:∀x:Int,x∈SH d2→0≤x∧x≤64:=q2
 refine⟨(dX,d1,d2,d3,d4,d5),⟨(by decide:0<2),(by decide:2≤16),fun j hj=>?_,l1,l2,by omega,fun j hj=>q1 _ (Om (l:=SH d1) l1 hj),fun j hj=>q2 _ (Om (l:=SH d2) l2 hj)⟩,NJ (d:=(dX,d1,d2,d3,d4,d5)) fi h1 h2 h3 h4 h5,⟨fun _ _=>trivial,fun(x:Int) hx=>Kj (n:=x) (by have:=q1 x hx;omega),fun(x:Int) hx=>Kj (n:=x) (by have:=q2 x hx;omega),i3,i4,fun x hx y hy=>((q5 x hx).2 y hy).i⟩,?_,?_,?_⟩
 ·have hj:j+1<2:=hj
  have:j=0:=by omega
  subst this
  show((Pt dX).getD 0 0).toNat<((Pt dX).getD 1 0).toNat
  decide
 ·show d4.length≤3
  omega
 ·show d5.length≤1
  omega
 ·show CW d5≤8
  match d5,l5,q5 with
  | [],_,_=>exact Nat.zero_le _
  | [x],_,q5=>
   have:=(q5 x (.head _)).1
   exact(Gj (α:=Nd) x).symm▸this
  | x::y::l,l5,_=>simp at l5;omega
end Go.Proofs.YtdcdbabponelcaaGreatDoor
namespace Go.Proofs.YtdcdbabponelcaaGreatDoor
open Go Go.AL Tryz
variable [BY]
set_option maxHeartbeats 4000000 in
theorem vY {H:AH}{S:OL}{d:Bh.D}{ls:List (List As)}{r:Nat}(hO:O9 H S) (hS:L8 d ls r S) (hA:HV d ls.flatten≤1000) (hN:II d ls.flatten≤1000) (hF:(MX d).2.length≤1000) (hL:ls.length≤1000) (hK:∀l∈ls,l.length≤1000) :
  CP prog 33 [.ptr r 0] H fun x=>x=.tup [iv (HV d ls.flatten:Int),iv (II d ls.flatten:Int)]:=by
 obtain⟨a0,a1,a2,a3,a4,a5,ql,n,lim,vs,junk,os,rfl,hR,hv,hn,hn0,hlim⟩:=hS
 obtain⟨r1,r2⟩:=hO _ (.head _)
 obtain⟨l1,l2⟩:=hO _ (.tail _ (.head _))
 have ho:O9 H os:=hO.sub fun x hx=>.tail _ (.tail _ hx)
 have r1:r<H.next:=r1
 have r2:H.get r=some (.cells [a0,a1,a2,a3,a4,a5,.sl ql 0 n lim]):=r2
 have l1:ql<H.next:=l1
 have l2:H.get ql=some (.cells (vs++junk)):=l2
 have hvl:vs.length=ls.length:=hv.len
 have hn:n=ls.length:=hn
 obtain⟨b0,b1,b2,b3,b4,b5,e,_,_,_,_,h4,h5⟩:=CR hR
 obtain⟨rfl,rfl,rfl,rfl,rfl,rfl⟩:a0=b0∧a1=b1∧a2=b2∧a3=b3∧a4=b4∧a5=b5:=by simpa using e
 have f4:=h4.fl
 have f5:=h5.fl
 refine CP.of (ta ?_)
 unfold qy
 try simp only[BU]
 have s:=BE.start H
 refine AA rfl (AA rfl (AA rfl (s.Zj r1 r2 (x:=a4) rfl (f4.len ?_))))
 refine AA rfl (AA rfl (AA rfl (s.Zj r1 r2 (x:=a5) rfl (f5.len ?_))))
 obtain⟨A0,hA0⟩:∃A0:List BR.D,A0=(MX d).1:=⟨_,rfl⟩
 obtain⟨F0,hF0⟩:∃F0:List (List Nd),F0=(MX d).2:=⟨_,rfl⟩
 have f5:FL 1 (RE (.list BX) F0) F0.length a5:=by rw[hF0];exact f5
 show A_ [0,2,3,20,21,22] _ ((((((BS.set 0 (.ptr r 0)).set 2 (iv ((MX d).1.length:Int))).set 3 (iv 0)).set 20 a5).set 21 (iv ((MX d).2.length:Int))).set 22 (iv 0)) H
 rw[←hA0,←hF0]
 rw[←hF0]at hF
 have hlF:CW F0≤1000:=by
  have:CW F0≤II d ls.flatten:=by unfold II;rw[←hF0];omega
  omega
 let I1:AV→AV→AV→AV→AV→AV→AH→Prop:=fun a b c e f g H'=>a=.ptr r 0∧b=iv (A0.length:Int)∧e=a5∧f=iv (F0.length:Int)∧∃i:Nat,c=iv (CW (F0.take i):Int)∧g=iv (i:Int)∧i≤F0.length∧H'=H
 let μ1:AV→AV→AV→AV→AV→AV→AH→Nat:=fun _ _ _ _ _ f _=>match f with
  | .int _ j=>(F0.length-j).toNat
  | _=>0
 refine⟨I1,μ1,⟨rfl,rfl,rfl,rfl,0,by(show iv 0=iv (CW (F0.take 0):Int));simp[CW],rfl,by omega,rfl⟩,?_⟩
 intro e H5 hI
 obtain⟨e1,e2,e4,e5,i,e3,e6,hi,rfl⟩:=(hI:I1 (e 0) (e 2) (e 3) (e 20) (e 21) (e 22) H5)
 have hmu1:μ1 (e 0) (e 2) (e 3) (e 20) (e 21) (e 22) H5=((F0.length:Int)-(i:Int)).toNat:=by rw[e6]
 show AB (.bin .lss (.cst (e 22)) (.cst (e 21))) _
 rw[e1,e2,e3,e4,e5,e6]
 refine BT (fun hlt=>Ai ?_) (fun hlt=>AZ ?_)
 ·refine f5.Ef (by omega) fun x _ hx=>?_
  obtain⟨y,hy,hr⟩:=hx
  have hy:F0[i]?=some y:=hy
  have hr:RS (.list BX) y [x]:=hr
  have hl1:=Mn F0 i y hy
  have hl2:=Qi F0 (i+1)
  refine hr.fl.len ?_
  show AB (.bin .add (.cst (iv (CW (F0.take i):Int))) (.cst (iv (List.length (α:=Nd) y:Int)))) _
  refine BA ⟨by omega,by omega⟩ (BA ⟨by omega,by omega⟩ ⟨⟨rfl,rfl,rfl,rfl,i+1,?_,rfl,by omega,rfl⟩,?_⟩)
  ·show iv ((CW (F0.take i):Int)+(List.length (α:=Nd) y:Int))=_
   rw[hl1];congr 1
  ·show _<μ1 (e 0) (e 2) (e 3) (e 20) (e 21) (e 22) H5
   rw[hmu1]
   show((F0.length:Int)-((i:Int)+1)).toNat<((F0.length:Int)-(i:Int)).toNat
   omega
 have hin:i=F0.length:=by omega
 subst hin
 rw[List.take_length]
 have z1:A0.length=HV d (B_ ls 0 0):=by rw[HC,hA0];simp[HV,CW]
 have z2:CW F0=II d (B_ ls 0 0):=by rw[HC,hF0];simp[II,CW]
 rw[z1,z2]
 have s:=BE.start H5
 refine AA rfl (AA rfl (s.Zj r1 r2 (x:=.sl ql 0 n lim) rfl (AA rfl ?_)))
 have bnd:∀i k,HV d (B_ ls i k)≤1000∧II d (B_ ls i k)≤1000:=fun i k=>by
  obtain⟨rr,hrr⟩:=GZ ls i k
  have h1:=Ii d (B_ ls i k) rr
  have h2:=OU d (B_ ls i k) rr
  rw[←hrr]at h1 h2
  omega
 let I2:AV→AV→AV→AV→AV→AH→Prop:=fun a b c e f H'=>c=.sl ql 0 n lim∧e=iv (n:Int)∧∃i:Nat,a=iv (HV d (B_ ls i 0):Int)∧b=iv (II d (B_ ls i 0):Int)∧f=iv (i:Int)∧i≤n∧BE H5 [] H'
 let μ2:AV→AV→AV→AV→AV→AH→Nat:=fun _ _ _ _ f _=>match f with
  | .int _ j=>(n-j).toNat
  | _=>0
 refine⟨I2,μ2,⟨rfl,rfl,0,rfl,rfl,rfl,by omega,s⟩,?_⟩
 clear s
 intro g H6 hI
 obtain⟨g3,g4,i,g1,g2,g5,hi,s⟩:=(hI:I2 (g 2) (g 3) (g 34) (g 35) (g 36) H6)
 have hmu2:μ2 (g 2) (g 3) (g 34) (g 35) (g 36) H6=((n:Int)-(i:Int)).toNat:=by rw[g5]
 show AB (.bin .lss (.cst (g 36)) (.cst (g 35))) _
 rw[g1,g2,g3,g4,g5]
 refine BT (fun hlt=>Ai ?_) (fun hlt=>AZ ?_)
 ·obtain⟨l,hl⟩:∃l,ls[i]?=some l:=⟨ls[i]'(by omega),List.getElem?_eq_getElem (by omega)⟩
  obtain⟨v,o,hv1,⟨cs,hlv,hgx⟩,hsub⟩:=hv.at i l hl
  have hlv:Lv 2 o l.length cs v:=hlv
  have hgx:GX 2 (RE B5 l) l.length cs:=hgx
  have hvi:(vs++junk)[i*1]?=some v:=by rw[Nat.mul_one,List.getElem?_append_left (by omega)];exact hv1
  have hk1:l.length≤1000:=hK l (List.mem_of_getElem? hl)
  refine AA (LZ (by omega)) (s.Zj l1 l2 hvi (hlv.len ?_))
  let I3:AV→AV→AV→AV→AV→AV→AV→AV→AH→Prop:=fun a b c e f g h k H'=>c=.sl ql 0 n lim∧e=iv (n:Int)∧f=iv (i:Int)∧g=v∧h=iv (l.length:Int)∧∃j:Nat,a=iv (HV d (B_ ls i j):Int)∧b=iv (II d (B_ ls i j):Int)∧k=iv (j:Int)∧j≤l.length∧BE H5 [] H'
  let μ3:AV→AV→AV→AV→AV→AV→AV→AV→AH→Nat:=fun _ _ _ _ _ _ _ f _=>match f with
   | .int _ j=>(l.length-j).toNat
   | _=>0
  refine⟨I3,μ3,⟨rfl,rfl,rfl,rfl,rfl,0,rfl,rfl,rfl,by omega,s⟩,?_⟩
  clear s
  intro u H7 hI
  obtain⟨u3,u4,u5,u6,u7,k,u1,u2,u8,hk,s⟩:=(hI:I3 (u 2) (u 3) (u 34) (u 35) (u 36) (u 40) (u 41) (u 42) H7)
  have hmu3:μ3 (u 2) (u 3) (u 34) (u 35) (u 36) (u 40) (u 41) (u 42) H7=((l.length:Int)-(k:Int)).toNat:=by rw[u8]
  show AB (.bin .lss (.cst (u 42)) (.cst (u 41))) _
  rw[u1,u2,u3,u4,u5,u6,u7,u8]
  refine BT (fun hlt2=>Ai ?_) (fun hlt2=>AZ ?_)
  ·obtain⟨x,hx⟩:∃x,l[k]?=some x:=⟨l[k]'(by omega),List.getElem?_eq_getElem (by omega)⟩
   obtain⟨c2,k1,_,⟨x',hx',hr⟩,k4,k5,k6⟩:=hgx.at (i:=k) (by omega)
   have hx':l[k]?=some x':=hx'
   rw[hx]at hx'
   cases hx'
   obtain⟨cf1,Z5,rfl,hf,hll⟩:=hr
   obtain⟨fv,rfl⟩:=RS.one hf
   obtain⟨lv,rfl⟩:=RS.one hll
   obtain⟨f,lat⟩:=x
   have hf:RS (.list BX) f [fv]:=hf
   have hll:RS (.list BR) lat [lv]:=hll
   obtain⟨q,rfl,hix,_⟩:=hlv.idx (i:=k) (by omega)
   obtain⟨o1,o2⟩:=ho (q,cs) (hsub (.head _))
   have hup:=JC ls i k l (f,lat) hl hx
   have hb:=bnd i (k+1)
   rw[hup,Gh,Ih]at hb
   have hb:HV d (B_ ls i k)+lat.length≤1000∧II d (B_ ls i k)+f.length≤1000:=hb
   refine AA (hix 2) (s.Zi o1 o2 k4 k5 ?_)
   refine s.alloc fun q37 H8 s=>s.Cr (vs:=[fv,lv]) rfl rfl fun H9 s=>?_
   refine AA rfl (s.ld (x:=lv) (.head _) rfl (hll.fl.len ?_))
   show AB (.bin .add (.cst (iv (HV d (B_ ls i k):Int))) (.cst (iv (lat.length:Int)))) _
   refine BA ⟨by omega,by omega⟩ ?_
   refine AA rfl (s.ld (x:=fv) (.head _) rfl (hf.fl.len ?_))
   show AB (.bin .add (.cst (iv (II d (B_ ls i k):Int))) (.cst (iv (f.length:Int)))) _
   refine BA ⟨by omega,by omega⟩ (BA ⟨by omega,by omega⟩ ⟨⟨rfl,rfl,rfl,rfl,rfl,k+1,?_,?_,rfl,by omega,s.sub (List.nil_sublist _)⟩,?_⟩)
   ·show iv ((HV d (B_ ls i k):Int)+(lat.length:Int))=_
    rw[hup,Gh];congr 1
   ·show iv ((II d (B_ ls i k):Int)+(f.length:Int))=_
    rw[hup,Ih];congr 1
   ·show _<μ3 (u 2) (u 3) (u 34) (u 35) (u 36) (u 40) (u 41) (u 42) H7
    rw[hmu3]
    show((l.length:Int)-((k:Int)+1)).toNat<((l.length:Int)-(k:Int)).toNat
    omega
  ·have hkn:k=l.length:=by omega
   subst hkn
   rw[Hm ls i l hl]
   refine BA ⟨by omega,by omega⟩ ⟨⟨rfl,rfl,i+1,rfl,rfl,rfl,by omega,s⟩,?_⟩
   show _<μ2 (g 2) (g 3) (g 34) (g 35) (g 36) H6
   rw[hmu2]
   show((n:Int)-((i:Int)+1)).toNat<((n:Int)-(i:Int)).toNat
   omega
 ·have hin:i=ls.length:=by omega
  subst hin
  rw[Ky]
  exact s.B9 (fun k=>.tup (.cons (.int _ _) (.cons (.int _ _) .nil))) rfl
end Go.Proofs.YtdcdbabponelcaaGreatDoor
namespace Go.AL
variable [BY]
theorem Lv.fQ {H:AH}{k n qa:Nat}{ca:List AV}{v:AV}(h:Lv k [(qa,ca)] n ca v){z:Nat}{Pr:Nat→List AV→Prop}(hg:H.get qa=some (.cells ca)) (hG:GX z Pr n ca) :
  ∃y,EU H (fun r=>r=qa) v y∧FL z Pr n y:=by
 obtain⟨css,e,h2,h3⟩:=hG.ex
 cases h with
 | ex=>exact⟨.sim [] 0 true,EU.row rfl hg .nil (fun _=>rfl) (fun _=>rfl),⟨.inr ⟨css,true,by rw[←e],fun _=>rfl,h2,h3⟩⟩⟩
 | op hn=>exact⟨.sim ca n false,EU.row rfl hg (Bu.same _) (fun h=>by omega) (fun h=>by cases h),⟨.inr ⟨css,false,by rw[←e],fun h=>by omega,h2,h3⟩⟩⟩
 | exn hn=>exact⟨.sim ca n false,EU.row rfl hg (Bu.same _) (fun h=>by omega) (fun h=>by cases h),⟨.inr ⟨css,false,by rw[←e],fun h=>by omega,h2,h3⟩⟩⟩
theorem Lv.shape {k n:Nat}{o:OL}{ca:List AV}{v:AV}(h:Lv k o n ca v):o=[]∧v=.nils∧n=0∨∃qa,o=[(qa,ca)]:=by
 cases h with
 | nil=>exact .inl ⟨rfl,rfl,rfl⟩
 | ex q=>exact .inr ⟨_,rfl⟩
 | op _=>exact .inr ⟨_,rfl⟩
 | exn _=>exact .inr ⟨_,rfl⟩
end Go.AL
namespace Go.Proofs.YtdcdbabponelcaaGreatDoor
open Go Go.AL Tryz
variable [BY]
structure L9 (d:Bh.D) (ls:List (List As)):Prop where
 na:HV d ls.flatten≤40
 nn:II d ls.flatten≤40
 fo:(MX d).2.length≤40
 lv:ls.length≤41
 one:∀x∈ls.flatten,dp x
theorem fY:∀fl:List As,(∀x∈fl,0<x.1.length)→fl.length≤CW (fl.map (·.1))
 | [],_=>by simp
 | x::fl,h=>by
  have h1:=fY fl fun y hy=>h y (.tail _ hy)
  have h2:0<x.1.length:=h x (.head _)
  have e:CW ((x::fl).map (·.1))=x.1.length+CW (fl.map (·.1)):=by simp[CW]
  rw[e,List.length_cons];omega
theorem Iw {α:Type}:∀(ls:List (List α)) (l:List α),l∈ls→l.length≤ls.flatten.length
 | x::ls,l,h=>by
  rw[List.flatten_cons,List.length_append]
  cases h with
  | head=>omega
  | tail _ h=>have:=Iw ls l h;omega
theorem L9.WO {d:Bh.D}{ls:List (List As)}(h:L9 d ls):ls.flatten.length≤40:=by
 have h1:=fY ls.flatten fun x hx=>(h.one x hx).n
 have h2:=h.nn
 unfold II at h2
 omega
theorem L9.len {d:Bh.D}{ls:List (List As)}(h:L9 d ls):∀l∈ls,l.length≤1000:=fun l hl=>by
 have h1:=h.WO
 have h2:=Iw ls l hl
 omega
theorem PI (d:Bh.D):∀fl:List As,(run d fl).2.length=(MX d).2.length+fl.length:=fun fl=>by
 induction h:fl.length generalizing fl with
 | zero=>
  have:fl=[]:=List.eq_nil_of_length_eq_zero h
  subst this;rfl
 | succ n ih=>
  have hne:fl≠[]:=fun e=>by subst e;cases h
  obtain⟨fl',x,rfl⟩:∃fl' x,fl=fl'++[x]:=⟨fl.dropLast,fl.getLast hne,(List.dropLast_concat_getLast hne).symm⟩
  have h1:=ih fl' (by simpa using h)
  rw[Fb]
  show((run d fl').2++[_]).length=_
  rw[List.length_append,h1];simp at h ⊢;omega
theorem L9.run {d:Bh.D}{ls:List (List As)}(h:L9 d ls):(run d ls.flatten).2.length≤1000:=by
 have h1:=h.WO
 have h2:=h.fo
 rw[PI];omega
def SE (H0:AH) (L:OL) (d:Bh.D) (ls':List (List As)) (l:List As) (fd:List Nd) (ld:List BR.D) (ok:Bool) (r:Nat):Cc→AH→Prop:=
 if 40<HV d (ls'++[l]).flatten+ld.length∨40<II d (ls'++[l]).flatten+fd.length then G4 H0 L d (ls'++[l]) r (iv 2)
 else if ok=true then G4 H0 L d (ls'++[l++[(fd,ld)]]) r (iv 0)else G4 H0 L d (ls'++[l]) r (iv 1)
structure dN (H0:AH) (L:OL) (d:Bh.D) (ls':List (List As)) (l:List As) (fd:List Nd) (ld:List BR.D) (r:Nat) (H':AH):Prop where
 ex:∃a0 a1 a2 a3 a4 a5 ql m lim vs junk os qv cs fv' xl v' oa ca,BE H0 (oa++((qv,cs++[fv',xl])::(r,[a0,a1,a2,a3,a4,a5,.sl ql 0 m lim])::(ql,(vs++[v'])++junk)::(os++L))) H'∧RS Bh d [a0,a1,a2,a3,a4,a5]∧Jg ls' vs os∧m=ls'.length+1∧(lim=.ex m∨lim=.op 1∧junk=[]) ∧
   (∀c',Lv 2 [(qv,c')] (l.length+1) c' v')∧GX 2 (RE B5 l) l.length cs∧RS (.list BX) fd [fv']∧Lv 18 oa ld.length ca xl∧GX 18 (RE BR ld) ld.length ca
theorem dN.fin {H0:AH}{L:OL}{d:Bh.D}{ls':List (List As)}{l:List As}{fd:List Nd}{ld:List BR.D}{r:Nat}{H':AH}(h:dN H0 L d ls' l fd ld r H') (hld:ld.length≤100000) :
  ∃(R:Nat→Prop) (H'':AH),H''.next=H'.next∧H''.gl=H'.gl∧(∀r ob,H''.get r=some ob→¬R r∧(H'.get r=some ob∨∃l l',ob=.cells l'∧H'.get r=some (.cells l)∧Bu H' R l l'))∧G4 H0 L d (ls'++[l++[(fd,ld)]]) r (iv 0) (.ret (iv 0)) H'':=by
 obtain⟨a0,a1,a2,a3,a4,a5,ql,m,lim,vs,junk,os,qv,cs,fv',xl,v',oa,ca,s,hR,hv,hm,hlim,hv2,hg,hf,la,ga⟩:=h.ex
 have fin:∀(H2:AH) (y:AV),BE H0 ((qv,cs++[fv',y])::(r,[a0,a1,a2,a3,a4,a5,.sl ql 0 m lim])::(ql,(vs++[v'])++junk)::(os++L)) H2→RS (.list BR) ld [y]→G4 H0 L d (ls'++[l++[(fd,ld)]]) r (iv 0) (.ret (iv 0)) H2:=fun H2 y s hy=>by
  refine⟨rfl,(r,[a0,a1,a2,a3,a4,a5,.sl ql 0 m lim])::(ql,(vs++[v'])++junk)::([(qv,cs++[fv',y])]++os),?_,?_⟩
  ·exact s.perm (List.perm_middle (l₁:=[(r,_),(ql,_)]))
  ·have hr:RS B5 (fd,ld) [fv',y]:=⟨[fv'],[y],rfl,hf,hy⟩
   refine⟨a0,a1,a2,a3,a4,a5,ql,m,lim,vs++[v'],junk,[(qv,cs++[fv',y])]++os,rfl,hR,hv.snoc ⟨cs++[fv',y],?_,?_⟩,hm.trans (@List.length_append (List As) ls' [l++[(fd,ld)]]).symm,by omega,hlim⟩
   ·show Lv 2 [(qv,cs++[fv',y])] (@List.length As (l++[(fd,ld)])) (cs++[fv',y]) v'
    rw[List.length_append];exact hv2 _
   ·show GX 2 (RE B5 (l++[(fd,ld)])) (@List.length As (l++[(fd,ld)])) (cs++[fv',y])
    rw[List.length_append]
    exact(hg.mono fun i c hi h=>Je hi h).Dw rfl (fun k=>CC k B5 _ _ hr) (Jd hr)
 rcases la.shape with⟨rfl,rfl,h0⟩ | ⟨qa,rfl⟩
 ·have hy:RS (.list BR) ld [.nils]:=by
   have:ld=[]:=List.eq_nil_of_length_eq_zero h0
   subst this;exact DQ BR
  exact⟨fun _=>False,H',rfl,rfl,fun r ob h=>⟨id,.inl h⟩,fin H' _ s hy⟩
 ·obtain⟨_,_,g3⟩:=s.l _ (.head _)
  obtain⟨y,hy1,hy2⟩:=la.fQ g3 ga
  obtain⟨H2,k1,k2,k3,s2⟩:=BE.kz (A:=[]) (q:=qa) (p:=qv) (d':=cs++[fv',y]) s ((Bu.same cs).fg (.cons (.same _) (.cons hy1 .nil)))
  exact⟨fun r=>r=qa,H2,k1,k2,k3,fin H2 y s2 (RS.of (t:=BR) (l:=ld) hld hy2)⟩
set_option maxHeartbeats 4000000 in
theorem vq {H0 H:AH}{S L:OL}{d:Bh.D}{ls':List (List As)}{l:List As}{r n k:Nat}(hg:H0.gl=BY.G) (s:BE H0 (S++L) H) (hS:L8 d (ls'++[l]) r S) (hd:jH d n k) (hb:L9 d (ls'++[l]))
  {fd:List Nd} {ld:List BR.D} {fv lv:AV} {FA:Nat→Bool} {okF:Bool} (hf:RS (.list BX) fd [fv]) (hl:RS (.list BR) ld [lv]) (hlA:FL 18 (fun i c=>∀H:AH,H.gl=BY.G→CP prog 64 [.agg c,iv (n:Int),iv (k:Int)] H fun x=>x=.bool (FA i)) ld.length lv)
  (hfF:∀H:AH,H.gl=BY.G→CP prog 65 [fv,iv (ld.length:Int)] H fun x=>x=.bool okF) (ok:Bool) (hok:ok=true↔(∀i,i<ld.length→FA i=true)∧okF=true) :
  An prog 14 [.ptr r 0,fv,lv] H (SE H0 L d ls' l fd ld ok r):=by
 have hld:ld.length≤100000:=hl.le
 have hfd:fd.length≤100000:=hf.le
 refine An.WH (Post:=fun o H'=>SE H0 L d ls' l fd ld ok r o H'∨((¬(40<HV d (ls'++[l]).flatten+ld.length∨40<II d (ls'++[l]).flatten+fd.length))∧ok=true∧o=.ret (iv 0)∧dN H0 L d ls' l fd ld r H')) ?_ ?_
 ·have hS':=hS
  obtain⟨a0,a1,a2,a3,a4,a5,ql,m',lim,vs,junk,os,rfl,hR,hv,hn,hn0,hlim⟩:=hS'
  obtain⟨lsx,vs',os',lx,v,o,e1,rfl,rfl,hv',hlv,hlen⟩:=hv.last (n:=ls'.length) (@List.length_append (List As) ls' [l])
  obtain⟨rfl,e2⟩:=List.append_inj e1 hlen.symm
  obtain rfl:l=lx:=(List.cons.inj e2).1
  clear e1 e2 hlen
  obtain⟨cs,hlv,hgx⟩:=hlv
  have hlv:Lv 2 o l.length cs v:=hlv
  have hgx:GX 2 (RE B5 l) l.length cs:=hgx
  have hvl:vs'.length=ls'.length:=hv'.len
  have hll:l.length≤1000:=hb.len l (by simp)
  have hm':m'=ls'.length+1:=hn.trans (@List.length_append (List As) ls' [l])
  subst hm'
  clear hn hn0
  have hSO:=hS
  obtain⟨b0,b1,b2,b3,b4,b5,e,h0,h1,h2,_,_,_⟩:=CR hR
  obtain⟨rfl,rfl,rfl,rfl,rfl,rfl⟩:a0=b0∧a1=b1∧a2=b2∧a3=b3∧a4=b4∧a5=b5:=by simpa using e
  have hmem:(r,[a0,a1,a2,a3,a4,a5,.sl ql 0 (ls'.length+1) lim])∈((r,[a0,a1,a2,a3,a4,a5,.sl ql 0 (ls'.length+1) lim])::(ql,(vs'++[v])++junk)::(o++os'))++L:=.head _
  have b40:=hb.na
  have n40:=hb.nn
  have hfo:=hb.fo
  have hlv41:=hb.lv
  have hlv42:ls'.length+1≤41:=(@List.length_append (List As) ls' [l])▸hlv41
  refine tq ?_
  unfold rI
  try simp only[BU]
  refine AA rfl (AZ ?_)
  refine BK (vY (s.old.sub (List.subset_append_left _ _)) hS (by omega) (by omega) (by omega) (by omega) hb.len) fun x hx=>?_
  subst hx
  generalize hA:HV d (ls'++[l]).flatten=A at b40
  generalize hN:II d (ls'++[l]).flatten=N at n40
  have c1:SE H0 L d ls' l fd ld ok r=if 40<A+ld.length∨40<N+fd.length then G4 H0 L d (ls'++[l]) r (iv 2)else if ok=true then G4 H0 L d (ls'++[l++[(fd,ld)]]) r (iv 0)else G4 H0 L d (ls'++[l]) r (iv 1):=by rw[←hA,←hN];rfl
  refine AA rfl (AA rfl (hl.fl.len (D4 ⟨by omega,by omega⟩ ?_)))
  show AB (.bin .gtr (.cst (iv (ld.length:Int))) (.cst (iv (40-(A:Int))))) _
  refine GM (fun hbig=>BB ?_) (fun hsm=>Af ?_)
  ·refine AA rfl (Ai (.inl ?_))
   rw[c1,if_pos (.inl (by omega))]
   exact⟨rfl,_,s,hS⟩
  refine hf.fl.len (D4 ⟨by omega,by omega⟩ ?_)
  show AB (.bin .gtr (.cst (iv (fd.length:Int))) (.cst (iv (40-(N:Int))))) _
  refine GM (fun hbig=>?_) (fun hsm2=>?_)
  ·refine AA rfl (Ai (.inl ?_))
   rw[c1,if_pos (.inr (by omega))]
   exact⟨rfl,_,s,hS⟩
  have hnb:¬(40<A+ld.length∨40<N+fd.length):=by omega
  rw[if_neg hnb]at c1
  rw[c1]
  refine AA rfl (AZ ?_)
  refine AA rfl (AA rfl (AA rfl (s.ld (x:=a0) hmem rfl ?_)))
  refine AA rfl (AA rfl (AA rfl (s.ld (x:=a1) hmem rfl ?_)))
  refine AA rfl (AA rfl (AA rfl (s.ld (x:=a2) hmem rfl ?_)))
  refine Hb (s.bs (out:=[fv]) (by have:=RS.cell hf;simp[B2,Ak.ev,this]) fun q29 H1 s1=>?_)
  refine AA (v:=.agg [a0,a1,a2,.nils,lv,.sl q29 0 1 (.ex 1)]) (by
   have x0:=RS.cell h0
   have x1:=RS.cell h1
   have x2:=RS.cell h2
   have x4:=RS.cell hl
   have x5:(AV.sl q29 0 1 (.ex 1)).cellsOf=some [.sl q29 0 1 (.ex 1)]:=rfl
   show Ap (.build [.nils,.nils,.nils,.nils,.nils,.nils] [(0,1,(.cst a0)),(1,1,(.cst a1)),(2,1,(.cst a2)),(4,1,(.cst lv)),(5,1,(.cst (.sl q29 0 1 (.ex 1))))]) emp=_
   simp[Ap,B2,Ak.ev,x0,x1,x2,x4,x5]) ?_
  refine eg s1 fun q31 H2 s2=>s2.Cr rfl rfl fun H3 s3=>s3.DN (.head _) rfl ?_
  have s4:BE H0 ([]++(q29,[fv])::(((r,[a0,a1,a2,a3,a4,a5,.sl ql 0 (ls'.length+1) lim])::(ql,(vs'++[v])++junk)::(o++os'))++L)) H3:=s3.sub (List.sublist_cons_self _ _)
  obtain⟨_,_,g29⟩:=s4.l _ (.head _)
  have hfz:Bu H3 (fun r=>r=q29) [.agg [a0,a1,a2,.nils,lv,.sl q29 0 1 (.ex 1)]] [.agg [a0,a1,a2,.nils,lv,.sim [fv] 1 true]]:=
   .cons (.agg (.cons (.same _) (.cons (.same _) (.cons (.same _) (.cons (.same _) (.cons (.same _) (.cons (EU.row rfl g29 (Bu.same _) (fun h=>by cases h) (fun _=>rfl)) .nil))))))) .nil
  have hpq:n_ a0 a1 a2 .nils lv (.sim [fv] 1 true) (DI d.1).length n k 0 ld.length 1 (fun i=>(Pt d.1).getD i 0) (fun i=>(SH d.2.1).getD i 0) (fun i=>(SH d.2.2.1).getD i 0) FA (fun _=>okF) (fun _=>fd.length):=by
   refine⟨RS.sH h0,hd.al0,hd.al1,hd.hn▸RS.qC h1,hd.hk▸RS.qC h2,hd.nk,.nil,by omega,hlA,by omega,⟨.inr ⟨[[fv]],true,rfl,fun h=>by omega,rfl,fun i c hc=>?_⟩⟩,by omega,?_⟩
   ·match i,hc with
    | 0,hc=>cases hc;exact⟨rfl,fun k=>.cons (RS.Vs hf k) .nil,fv,_,_,rfl,Nat.le_refl _,hf.fl,hfF⟩
    | i+1,hc=>simp at hc
   ·show 0+fd.length≤40
    omega
  refine BE.UW s4 hfz (fun H' s'=>rf (s'.k.gl.trans hg) hpq) fun x H4 s hx=>?_
  have s:BE H0 (((r,[a0,a1,a2,a3,a4,a5,.sl ql 0 (ls'.length+1) lim])::(ql,(vs'++[v])++junk)::(o++os'))++L) H4:=s
  obtain⟨t,rfl,ht⟩:=hx
  have htk:t=true↔ok=true:=by
   rw[ht,hok]
   exact⟨fun h=>⟨h.2.2.2.1,h.2.2.2.2 0 (by omega)⟩,fun h=>⟨hd.inc,hd.mo,hd.to,h.1,fun _ _=>h.2⟩⟩
  clear ht
  cases t with
  | false=>
   have hok2:ok=false:=by
    cases ok with
    | false=>rfl
    | true=>exact(htk.2 rfl).symm
   refine eI (by decide) (Ai (.inl ?_))
   rw[hok2]
   exact⟨rfl,_,s,hS⟩
  | true=>
  have hok2:ok=true:=htk.1 rfl
  refine DB rfl (AZ ?_)
  refine BK (oq hf) fun fv' hf'=>?_
  refine AA (v:=.agg [fv',.nils]) (by have:=RS.cell hf';simp[Ap,B2,Ak.ev,this]) ?_
  refine s.alloc fun q38 H5 s=>s.Cr (vs:=[fv',.nils]) rfl rfl fun H6 s=>?_
  have fll:=hl.fl
  refine fll.len ?_
  let I1:AV→AV→AV→AV→AV→AH→Prop:=fun a b c e f H'=>a=.ptr r 0∧b=.ptr q38 0∧c=lv∧e=iv (ld.length:Int)∧∃i:Nat,f=iv (i:Int)∧i≤ld.length∧∃oa ca xl,BE H0 (oa++(q38,[fv',xl])::(((r,[a0,a1,a2,a3,a4,a5,.sl ql 0 (ls'.length+1) lim])::(ql,(vs'++[v])++junk)::(o++os'))++L)) H'∧Lv 18 oa i ca xl∧GX 18 (RE BR ld) i ca
  let μ1:AV→AV→AV→AV→AV→AH→Nat:=fun _ _ _ _ f _=>match f with
   | .int _ j=>(ld.length-j).toNat
   | _=>0
  refine⟨I1,μ1,⟨rfl,rfl,rfl,rfl,0,rfl,by omega,[],[],.nils,s,.nil,.nil⟩,?_⟩
  clear s
  intro e H7 hI
  obtain⟨e1,e2,e3,e4,i,e5,hi,oa,ca,xl,s,la,ga⟩:=(hI:I1 (e 0) (e 10) (e 58) (e 59) (e 60) H7)
  have hmu1:μ1 (e 0) (e 10) (e 58) (e 59) (e 60) H7=((ld.length:Int)-(i:Int)).toNat:=by rw[e5]
  show AB (.bin .lss (.cst (e 60)) (.cst (e 59))) _
  rw[e1,e2,e3,e4,e5]
  refine BT (fun hlt=>Ai ?_) (fun hlt=>AZ ?_)
  ·refine fll.IG (i:=i) (by
     have:i<ld.length:=by omega
     exact this) fun c hcl _ hc=>?_
   obtain⟨a,ha,hra⟩:=hc
   have ha:ld[i]?=some a:=ha
   refine s.alloc fun q51 H8 s=>s.Cr hcl rfl fun H9 s=>?_
   have hm38:(q38,[fv',xl])∈(q51,c)::(oa++(q38,[fv',xl])::(((r,[a0,a1,a2,a3,a4,a5,.sl ql 0 (ls'.length+1) lim])::(ql,(vs'++[v])++junk)::(o++os'))++L)):=.tail _ (List.mem_append_right _ (.head _))
   refine AA rfl (s.ld (x:=xl) hm38 rfl (s.DN (c:=c) (.head _) hcl ?_))
   refine BK (iR hra) fun y hy=>⟨⟨s.Ei hm38 rfl,trivial⟩,?_⟩
   obtain⟨c',rfl,hr'⟩:=hy
   have hc':c'.length=18:=CM BR _ _ hr'
   have s:BE H0 (oa++([(q51,c)]++(q38,[fv',xl])::(((r,[a0,a1,a2,a3,a4,a5,.sl ql 0 (ls'.length+1) lim])::(ql,(vs'++[v])++junk)::(o++os'))++L))) H9:=BE.DP (A:=[(q51,c)]) s
   refine Hb (s.app (k:=18) (c:=c') la ga.ln rfl hc' rfl (by omega) (by decide) fun oa' xl' H10 s la'=>⟨trivial,?_⟩)
   have s:BE H0 ((oa'++[(q51,c)])++(q38,[fv',xl])::(((r,[a0,a1,a2,a3,a4,a5,.sl ql 0 (ls'.length+1) lim])::(ql,(vs'++[v])++junk)::(o++os'))++L)) H10:=by simpa using s
   refine AA rfl (s.B6 (vs:=[xl']) la'.cell rfl (by simp) fun H11 s=>⟨trivial,BA (a:=(i:Int)) (b:=1) ⟨by omega,by omega⟩ ⟨⟨rfl,rfl,rfl,rfl,i+1,rfl,by omega,oa',ca++c',xl',?_,la',ga.Dw hc' (fun k=>CC k BR _ _ hr') ⟨a,ha,hr'⟩⟩,?_⟩⟩)
   ·have s:BE H0 ((oa'++[(q51,c)])++(q38,[fv',xl'])::(((r,[a0,a1,a2,a3,a4,a5,.sl ql 0 (ls'.length+1) lim])::(ql,(vs'++[v])++junk)::(o++os'))++L)) H11:=s
    exact s.sub ((List.sublist_append_left oa' _).append (List.Sublist.refl _))
   ·show _<μ1 (e 0) (e 10) (e 58) (e 59) (e 60) H7
    rw[hmu1]
    show((ld.length:Int)-((i:Int)+1)).toNat<((ld.length:Int)-(i:Int)).toNat
    omega
  have hin:i=ld.length:=by omega
  subst hin
  have hmr:(r,[a0,a1,a2,a3,a4,a5,.sl ql 0 (ls'.length+1) lim])∈oa++(q38,[fv',xl])::(((r,[a0,a1,a2,a3,a4,a5,.sl ql 0 (ls'.length+1) lim])::(ql,(vs'++[v])++junk)::(o++os'))++L):=List.mem_append_right _ (.tail _ (.head _))
  have hmq:(ql,(vs'++[v])++junk)∈oa++(q38,[fv',xl])::(((r,[a0,a1,a2,a3,a4,a5,.sl ql 0 (ls'.length+1) lim])::(ql,(vs'++[v])++junk)::(o++os'))++L):=List.mem_append_right _ (.tail _ (.tail _ (.head _)))
  have hm38:(q38,[fv',xl])∈oa++(q38,[fv',xl])::(((r,[a0,a1,a2,a3,a4,a5,.sl ql 0 (ls'.length+1) lim])::(ql,(vs'++[v])++junk)::(o++os'))++L):=List.mem_append_right _ (.head _)
  refine AA rfl (AA rfl (s.ld (x:=.sl ql 0 (ls'.length+1) lim) hmr rfl ?_))
  refine AA rfl (AA rfl (s.ld (x:=.sl ql 0 (ls'.length+1) lim) hmr rfl (AA rfl (D4 (a:=((ls'.length+1:Nat):Int)) (b:=1) ⟨by omega,by omega⟩ ?_))))
  have em:((ls'.length+1:Nat):Int)-1=(ls'.length:Int):=by omega
  rw[em]
  have hvi:((vs'++[v])++junk)[ls'.length*1]?=some v:=by
   rw[Nat.mul_one,List.append_assoc,List.getElem?_append_right (by omega),hvl,Nat.sub_self];rfl
  refine AA (LZ (by omega)) (AA rfl (s.ld hmq hvi (s.DN (c:=[fv',xl]) hm38 rfl ?_)))
  have s:BE H0 (o++((oa++[(q38,[fv',xl]),(r,[a0,a1,a2,a3,a4,a5,.sl ql 0 (ls'.length+1) lim]),(ql,(vs'++[v])++junk)])++(os'++L))) H7:=BE.DP (A:=oa++[(q38,[fv',xl]),(r,[a0,a1,a2,a3,a4,a5,.sl ql 0 (ls'.length+1) lim]),(ql,(vs'++[v])++junk)]) (by simpa using s)
  refine Hb (s.app (k:=2) (c:=[fv',xl]) hlv hgx.ln rfl rfl rfl (by omega) (by decide) fun o2 v2 H8 s hl2=>?_)
  obtain⟨qv,rfl,_,hlc⟩:=hl2.idx (i:=0) (by omega)
  have s:BE H0 (([(qv,cs++[fv',xl])]++(oa++[(q38,[fv',xl]),(r,[a0,a1,a2,a3,a4,a5,.sl ql 0 (ls'.length+1) lim])]))++(ql,(vs'++[v])++junk)::(os'++L)) H8:=by simpa using s
  refine AA rfl (s.B6 (vs:=[v2]) hl2.cell rfl (by simp;omega) fun H9 s=>.inr ⟨hnb,hok2,rfl,⟨a0,a1,a2,a3,a4,a5,ql,ls'.length+1,lim,vs',junk,os',qv,cs,fv',xl,v2,oa,ca,?_,hR,hv',rfl,hlim,hlc,hgx,hf',la,ga⟩⟩)
  have e7:Bj ((vs'++[v])++junk) (ls'.length*1) [v2]=(vs'++[v2])++junk:=by
   rw[show(vs'++[v])++junk=vs'++v::junk by simp,show(vs'++[v2])++junk=vs'++v2::junk by simp,CQ (by simp;omega),Nat.mul_one,←hvl,List.take_left,show[v2].length=1 from rfl,List.drop_length_add_append];simp
  rw[e7]at s
  have s:BE H0 (([(qv,cs++[fv',xl])]++oa)++(q38,[fv',xl])::([(r,[a0,a1,a2,a3,a4,a5,.sl ql 0 (ls'.length+1) lim]),(ql,(vs'++[v2])++junk)]++(os'++L))) H9:=by simpa using s
  have s:BE H0 (([(qv,cs++[fv',xl])]++oa)++([(r,[a0,a1,a2,a3,a4,a5,.sl ql 0 (ls'.length+1) lim]),(ql,(vs'++[v2])++junk)]++(os'++L))) H9:=s.sub ((List.Sublist.refl _).append (List.sublist_cons_self _ _))
  exact s.perm List.perm_middle
 ·intro o H' hp
  rcases hp with hp | ⟨hnb,hok2,rfl,hp⟩
  ·exact⟨fun _=>False,H',rfl,rfl,fun r ob h=>⟨id,.inl h⟩,hp⟩
  ·obtain⟨R,H2,k1,k2,k3,k4⟩:=hp.fin hld
   refine⟨R,H2,k1,k2,k3,?_⟩
   unfold SE
   rw[if_neg hnb,if_pos hok2]
   exact k4
end Go.Proofs.YtdcdbabponelcaaGreatDoor
namespace Go.Proofs.YtdcdbabponelcaaGreatDoor
open Go Go.AL
variable [BY]
theorem ZT {m:Nat}(hm:m≤1000){x:Nd}(h:Ui x):In BX (Sw m x):=by
 unfold Sw
 split
 ·obtain⟨h1,h2,h3,h4,h5,h6⟩:=h
  exact⟨Kj (n:=x.1) ⟨by omega,by omega⟩,Kj (n:=x.2.1+(m:Int)) ⟨by omega,by omega⟩,Kj (n:=x.2.2) ⟨by omega,by omega⟩⟩
 ·exact h.i
theorem ZW {d:Bh.D}(hi:In Bh d):∀fl:List As,(∀x∈fl,dp x)→HV d fl≤1000→(∀a∈(run d fl).1,In BR a)∧∀f∈(run d fl).2,∀y∈f,In BX y:=fun fl=>by
 obtain⟨_,_,_,_,i4,i5⟩:=hi
 induction h:fl.length generalizing fl with
 | zero=>
  have:fl=[]:=List.eq_nil_of_length_eq_zero h
  subst this
  exact fun _ _=>⟨i4,i5⟩
 | succ n ih=>
  intro hq hn
  have hne:fl≠[]:=fun e=>by subst e;cases h
  obtain⟨fl',x,rfl⟩:∃fl' x,fl=fl'++[x]:=⟨fl.dropLast,fl.getLast hne,(List.dropLast_concat_getLast hne).symm⟩
  rw[Gh]at hn
  obtain⟨h1,h2⟩:=ih fl' (by simpa using h) (fun y hy=>hq y (List.mem_append_left _ hy)) (by omega)
  have hx:=hq x (by simp)
  have hl:=(F_ d fl').1
  rw[Fb]
  refine⟨fun a ha=>?_,fun f hf=>?_⟩
  ·have ha:a∈(run d fl').1++x.2:=ha
   rcases List.mem_append.1 ha with ha | ha
   ·exact h1 a ha
   ·exact hx.l a ha
  ·have hf:f∈(run d fl').2++[IU (run d fl').1.length x.1]:=hf
   rcases List.mem_append.1 hf with hf | hf
   ·exact h2 f hf
   ·obtain rfl:f=IU (run d fl').1.length x.1:=by simpa using hf
    intro y hy
    obtain⟨z,hz,rfl⟩:=List.mem_map.1 hy
    exact ZT (by omega) (hx.f z hz)
theorem Vv {d:Bh.D}{ls:List (List As)}(hi:In Bh d) (h:L9 d ls):In Bh (PR d ls.flatten):=by
 have h0:=h.na
 obtain⟨h1,h2⟩:=ZW hi ls.flatten h.one (by omega)
 obtain⟨j0,j1,j2,j3,_,_⟩:=hi
 exact⟨j0,j1,j2,j3,h1,h2⟩
theorem L9.push {d:Bh.D}{ls:List (List As)}(h:L9 d ls) (hn:¬40<ls.length):L9 d (ls++[[]]):=by
 have e:(ls++[[]]).flatten=ls.flatten:=by simp
 exact⟨by rw[e];exact h.na,by rw[e];exact h.nn,h.fo,by simp;omega,by rw[e];exact h.one⟩
theorem L9.pop {d:Bh.D}{ls:List (List As)}(h:L9 d ls):L9 d ls.dropLast:=by
 by_cases hne:ls=[]
 ·subst hne;exact h
 ·obtain⟨ls',l,rfl⟩:∃ls' l,ls=ls'++[l]:=⟨ls.dropLast,ls.getLast hne,(List.dropLast_concat_getLast hne).symm⟩
  rw[List.dropLast_concat]
  have e:(ls'++[l]).flatten=ls'.flatten++l:=by simp
  obtain⟨h1,h2,h3,h4,h5⟩:=h
  rw[e]at h1 h2 h5
  have:=Ii d ls'.flatten l
  have:=OU d ls'.flatten l
  exact⟨by omega,by omega,h3,by simp at h4;omega,fun x hx=>h5 x (List.mem_append_left _ hx)⟩
theorem L9.add {d:Bh.D}{ls:List (List As)}{l:List As}{x:As}(h:L9 d (ls++[l])) (hx:dp x) (hb:¬(40<HV d (ls++[l]).flatten+x.2.length∨40<II d (ls++[l]).flatten+x.1.length)):L9 d (ls++[l++[x]]):=by
 have e:(ls++[l++[x]]).flatten=(ls++[l]).flatten++[x]:=by simp
 obtain⟨h1,h2,h3,h4,h5⟩:=h
 refine⟨by rw[e,Gh];omega,by rw[e,Ih];omega,h3,by simpa using h4,fun y hy=>?_⟩
 rw[e]at hy
 rcases List.mem_append.1 hy with hy | hy
 ·exact h5 y hy
 ·obtain rfl:y=x:=by simpa using hy
  exact hx
theorem L9.start {d:Bh.D}(h1:(MX d).1.length≤3) (h2:(MX d).2.length≤1) (h3:CW (MX d).2≤8):L9 d [[]]:=
 ⟨by show HV d []≤40;simp[HV,CW];omega,by show II d []≤40;unfold II;simp[CW]at h3 ⊢;omega,by omega,by decide,fun x hx=>by cases hx⟩
end Go.Proofs.YtdcdbabponelcaaGreatDoor
