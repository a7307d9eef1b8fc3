import Derived.Test.YtdcdbabponelcaaGreatDoorZg01
/-
  what is made is valid.
-/
set_option linter.unusedSectionVars false
set_option linter.unusedVariables false
set_option linter.unusedSimpArgs false
namespace Go.Proofs.YtdcdbabponelcaaGreatDoor
open Go Go.AL Tryz
variable [BY]
theorem Ue.len {sh:Nat}{c:List AV}(h:Ue sh c):c.length=6:=by
 obtain⟨mo,to,li,at_,fo,nl,na,nf,rfl,_⟩:=h.ex;rfl
theorem Vc {x:UInt8}{K:AV→Prop}(hK:K (bv (x % 4))):AB (.bin .rem (.cst (bv x)) (.cst (N .u8 4))) K:=AA (by
 show(if IntKind.u8=IntKind.u8∧(Int.ofNat 4)≠0 then some (AV.int .u8 ((x.toNat:Int).tmod (Int.ofNat 4)))else none)=some (AV.int .u8 ((x % 4).toNat:Int))
 rw[if_pos ⟨rfl,by decide⟩,Int.tmod_eq_emod_of_nonneg (by omega)]
 have:(x % 4).toNat=x.toNat % 4:=by simp
 rw[this];rfl) hK
end Go.Proofs.YtdcdbabponelcaaGreatDoor
namespace Go.Proofs.YtdcdbabponelcaaGreatDoor
open Go Go.AL Tryz
variable [BY]
theorem iP {H:AH}{a lo hi:Int}:CP prog 63 [iv a,iv lo,iv hi] H fun x=>x=.bool (decide (lo≤a∧a≤hi)):=by
 refine CP.of (tN ?_)
 unfold qj
 refine Q2 (fun h=>Aj (Yx (AA rfl (.same (fun k=>.bool _) ?_)))) (fun h=>Au (AA rfl (.same (fun k=>.bool _) ?_)))
 ·show AV.bool (decide (a≤hi))=_
  congr 1;simp[h]
 ·show AV.bool false=_
  congr 1;simp[h]
theorem iO {H:AH}{a lo hi:Int}(h:lo≤a∧a≤hi):CP prog 63 [iv a,iv lo,iv hi] H fun x=>x=.bool true:=iP.mono fun x hx=>by rw[hx,decide_eq_true h]
def No (fv:AV) (H:AH) (x:AV):Prop:=EV prog fv [x] H fun o H'=>H'=H∧∃x,o=.ret x∧x=.bool false
theorem oz {H:AH}{v fv:AV}{n:Nat}{Pr:Nat→List AV→Prop}(hv:FL 2 Pr n v) (hn:n≤1000000) (hf:∀i c,Pr i c→No fv H (.agg c)):CP prog 292 [v,fv] H fun x=>x=iv (-1):=by
 refine CP.of (lP ?_)
 unfold gK
 try simp only[BU]
 refine hv.len ?_
 let Iv:AV→AV→AV→AV→AH→Prop:=fun a b c d H'=>a=v∧b=fv∧c=iv (n:Int)∧∃i:Nat,d=iv (i:Int)∧i≤n∧H'=H
 let μ:AV→AV→AV→AV→AH→Nat:=fun _ _ _ f _=>match f with
  | .int _ j=>(n-j).toNat
  | _=>0
 refine⟨Iv,μ,⟨rfl,rfl,rfl,0,rfl,by omega,rfl⟩,?_⟩
 intro e H1 hI
 obtain⟨e1,e2,e3,i,e4,hi,rfl⟩:=(hI:Iv (e 0) (e 1) (e 7) (e 8) H1)
 have hmu:μ (e 0) (e 1) (e 7) (e 8) H1=((n:Int)-(i:Int)).toNat:=by rw[e4]
 show AB (.bin .lss (.cst (e 8)) (.cst (e 7))) _
 rw[e1,e2,e3,e4]
 refine BT (fun h=>Ai ?_) (fun h=>AZ (.same (fun k=>.int _ _) rfl))
 refine hv.IG (by omega) fun c _ _ hp=>MS (hf i c hp) fun x hx=>?_
 subst hx
 refine AZ (BA ⟨by omega,by omega⟩ ⟨⟨rfl,rfl,rfl,i+1,rfl,by omega,rfl⟩,?_⟩)
 show _<μ (e 0) (e 1) (e 7) (e 8) H1
 rw[hmu]
 show((n:Int)-((i:Int)+1)).toNat<((n:Int)-(i:Int)).toNat
 omega
theorem pF {H:AH}{v fv:AV}{n:Nat}{Pr:Nat→List AV→Prop}(hv:FL 1 Pr n v) (hn:n≤1000000) (hf:∀i x,Pr i [x]→No fv H x):CP prog 195 [v,fv] H fun x=>x=iv (-1):=by
 refine CP.of (lS ?_)
 unfold gN
 try simp only[BU]
 refine hv.len ?_
 let Iv:AV→AV→AV→AV→AH→Prop:=fun a b c d H'=>a=v∧b=fv∧c=iv (n:Int)∧∃i:Nat,d=iv (i:Int)∧i≤n∧H'=H
 let μ:AV→AV→AV→AV→AH→Nat:=fun _ _ _ f _=>match f with
  | .int _ j=>(n-j).toNat
  | _=>0
 refine⟨Iv,μ,⟨rfl,rfl,rfl,0,rfl,by omega,rfl⟩,?_⟩
 intro e H1 hI
 obtain⟨e1,e2,e3,i,e4,hi,rfl⟩:=(hI:Iv (e 0) (e 1) (e 7) (e 8) H1)
 have hmu:μ (e 0) (e 1) (e 7) (e 8) H1=((n:Int)-(i:Int)).toNat:=by rw[e4]
 show AB (.bin .lss (.cst (e 8)) (.cst (e 7))) _
 rw[e1,e2,e3,e4]
 refine BT (fun h=>Ai ?_) (fun h=>AZ (.same (fun k=>.int _ _) rfl))
 refine hv.Ef (by omega) fun c _ hp=>MS (hf i c hp) fun x hx=>?_
 subst hx
 refine AZ (BA ⟨by omega,by omega⟩ ⟨⟨rfl,rfl,rfl,i+1,rfl,by omega,rfl⟩,?_⟩)
 show _<μ (e 0) (e 1) (e 7) (e 8) H1
 rw[hmu]
 show((n:Int)-((i:Int)+1)).toNat<((n:Int)-(i:Int)).toNat
 omega
theorem pE {H:AH}{v fv:AV}{n:Nat}{Pr:Nat→List AV→Prop}(hv:FL 2 Pr n v) (hn:n≤1000000) (hf:∀i c,Pr i c→No fv H (.agg c)):CP prog 199 [v,fv] H fun x=>x=.bool false:=by
 refine CP.of (lR ?_)
 unfold gM
 try simp only[BU]
 refine BK (oz hv hn hf) fun x hx=>?_
 subst hx
 exact GK (by decide) (.same (fun k=>.bool _) rfl)
theorem pY {H:AH}{v fv:AV}{n:Nat}{Pr:Nat→List AV→Prop}(hv:FL 1 Pr n v) (hn:n≤1000000) (hf:∀i x,Pr i [x]→No fv H x):CP prog 111 [v,fv] H fun x=>x=.bool false:=by
 refine CP.of (mC ?_)
 unfold gY
 try simp only[BU]
 refine BK (pF hv hn hf) fun x hx=>?_
 subst hx
 exact GK (by decide) (.same (fun k=>.bool _) rfl)
theorem pQ {H:AH}{a:Int}(h:-1000≤a∧a≤1000):CP prog 121 [iv a] H fun x=>x=.bool false:=by
 refine CP.of (lu ?_)
 unfold gS
 try simp only[BU]
 refine BK (iO (lo:=-1000) (hi:=1000) h) fun x hx=>?_
 subst hx
 exact AA rfl (.same (fun k=>.bool _) rfl)
theorem pD {H:AH}{q n i:Nat}{c:List AV}(hq:q<H.next) (hg:H.get q=some (.cells [iv (n:Int)])) (hc:gA n i c):CP prog 200 [.agg c,.ptr q 0] H fun x=>x=.bool false:=by
 obtain⟨x,b,rfl,h1,h2,h3⟩:=hc
 refine CP.of (lQ ?_)
 unfold gL
 try simp only[BU]
 refine(BE.start H).box rfl fun q2 H2 s=>?_
 refine AA rfl (s.ld (x:=iv x) (.head _) rfl (EZ (b:=-1) (by omega) (Af ?_)))
 refine AA rfl (s.ld (x:=iv x) (.head _) rfl (s.Zj hq hg rfl (GK (by omega) (AA rfl (Af ?_)))))
 refine AA rfl (s.ld (x:=iv x) (.head _) rfl (Ox (fun h0=>Aj ?_) (fun h0=>Au ?_)))
 ·have hb:=h3 h0
  subst hb
  refine AA rfl (s.ld (x:=bv 0) (.head _) rfl (AA rfl (Af (AA rfl (AA rfl (s.B9 (fun k=>.bool _) rfl))))))
 ·exact Af (AA rfl (AA rfl (s.B9 (fun k=>.bool _) rfl)))
theorem No.of {g:FuncId}{cap:List AV}{H:AH}{x:AV}(h:CP prog g (x::cap) H fun x=>x=.bool false):No (.fn (.func g) [] cap) H x:=h
theorem iZ {H:AH}{v:AV}{n m:Nat}(hm:m≤24) (hv:FL 2 (gA n) m v):CP prog 114 [v,iv (n:Int)] H fun x=>x=.bool true:=by
 refine CP.of (mB ?_)
 unfold gX
 try simp only[BU]
 refine(BE.start H).box rfl fun q2 H2 s=>hv.len (N6 (by omega) (Aj ?_))
 have hq:=(s.l _ (.head _))
 refine BK (pE hv (by omega) fun i c hc=>.of (pD hq.2.1 hq.2.2 hc)) fun x hx=>?_
 subst hx
 exact AA rfl (AA rfl (s.B9 (fun k=>.bool _) rfl))
theorem pX {H:AH}:CP prog 115 [.agg [.nils,.nils,.nils]] H fun x=>x=.bool true:=by
 refine CP.of (mA ?_)
 unfold gW
 try simp only[BU]
 refine(BE.start H).box rfl fun q H2 s=>?_
 refine AA rfl (s.ld (x:=.nils) (.head _) rfl (AA rfl ?_))
 refine AA rfl (s.ld (x:=.nils) (.head _) rfl (AA rfl (BA ⟨by decide,by decide⟩ ?_)))
 exact AA rfl (s.ld (x:=.nils) (.head _) rfl (AA rfl (BA ⟨by decide,by decide⟩ (FF (by decide) (s.B9 (fun k=>.bool _) rfl)))))
theorem pW {H:AH}:CP prog 116 [.agg [.nils,iv 0]] H fun x=>x=.bool true:=by
 refine CP.of (l_ ?_)
 unfold gV
 try simp only[BU]
 refine(BE.start H).box rfl fun q H2 s=>?_
 refine AA rfl (s.ld (x:=.nils) (.head _) rfl (AA rfl (FF rfl (Aj ?_))))
 exact AA rfl (s.ld (x:=iv 0) (.head _) rfl (FF rfl (AA rfl (s.B9 (fun k=>.bool _) rfl))))
theorem pV {H:AH}:CP prog 117 [.agg [.nils,.nils,.nils,.nils]] H fun x=>x=.bool true:=by
 refine CP.of (lz ?_)
 unfold gU
 try simp only[BU]
 refine(BE.start H).box rfl fun q H2 s=>?_
 refine AA rfl (s.ld (x:=.nils) (.head _) rfl (AA rfl ?_))
 refine AA rfl (s.ld (x:=.nils) (.head _) rfl (AA rfl (BA ⟨by decide,by decide⟩ ?_)))
 refine AA rfl (s.ld (x:=.nils) (.head _) rfl (AA rfl (BA ⟨by decide,by decide⟩ ?_)))
 exact AA rfl (s.ld (x:=.nils) (.head _) rfl (AA rfl (BA ⟨by decide,by decide⟩ (FF (by decide) (s.B9 (fun k=>.bool _) rfl)))))
end Go.Proofs.YtdcdbabponelcaaGreatDoor
namespace Go.Proofs.YtdcdbabponelcaaGreatDoor
open Go Go.AL Tryz
open Go.Proofs.YtdcdbabponelcaaGreatDoor.San (DG Dx)
variable [BY]
def z4:List AV:=[N .u64 0,N .u64 0,N .u64 0,N .u64 0]
def k0:List AV:=[N .u64 18446744073709551615,N .u64 18446744047939747839,N .u64 18446744073709551615,N .u64 18446744073709551615]
def k1:List AV:=[N .u64 0,N .u64 8589934592,N .u64 0,N .u64 0]
def k2:List AV:=[N .u64 0,N .u64 17179869184,N .u64 0,N .u64 0]
def sE:List AV:=[N .u64 18446744073709551615,N .u64 18446744056529682431,N .u64 18446744073709551615,N .u64 18446744073709551615]
def kf:List AV:=[N .u64 18446744073709551615,N .u64 18446744073709551615,N .u64 18446744073709551615,N .u64 18446744073709551615]
def Vr (i:Nat):List AV:=match i with
 | 0=>z4
 | 1=>k0
 | 2=>sE
 | _=>kf
def dW (i:Nat):List AV:=match i with
 | 0=>k0
 | 1=>k1
 | _=>k2
theorem Zz:FL 4 (fun i c=>c=dW i) 3 (.sim Dz 3 true):=⟨.inr ⟨[k0,k1,k2],true,rfl,fun _=>rfl,rfl,fun i c hc=>by
 match i,hc with
 | 0,hc=>cases hc;exact⟨rfl,fun k=>by unfold k0 N;repeat constructor,rfl⟩
 | 1,hc=>cases hc;exact⟨rfl,fun k=>by unfold k1 N;repeat constructor,rfl⟩
 | 2,hc=>cases hc;exact⟨rfl,fun k=>by unfold k2 N;repeat constructor,rfl⟩
 | i+3,hc=>simp at hc⟩⟩
theorem pC {H:AH}(hg:H.gl=BY.G){i:Nat}(hi:i<3):CP prog 201 [.agg (Vr i),.agg (dW i)] H fun x=>x=.agg z4:=by
 match i,hi with
 | 0,_=>exact CP.row (Aq (BC DG Dx 90) San.rq H hg) rfl
 | 1,_=>exact CP.row (Aq (BC DG Dx 90) San.rp H hg) rfl
 | 2,_=>exact CP.row (Aq (BC DG Dx 90) San.rn H hg) rfl
theorem pB {H:AH}(hg:H.gl=BY.G){i:Nat}(hi:i<3):CP prog 202 [.agg (Vr i),.agg (dW i)] H fun x=>x=.agg (Vr (i+1)):=by
 match i,hi with
 | 0,_=>exact CP.row (Aq (BC DG Dx 90) San.rl H hg) rfl
 | 1,_=>exact CP.row (Aq (BC DG Dx 90) San.rk H hg) rfl
 | 2,_=>exact CP.row (Aq (BC DG Dx 90) San.rj H hg) rfl
theorem pG {H:AH}(hg:H.gl=BY.G):CP prog 183 [.agg kf] H fun x=>x=.agg z4:=CP.row (Aq (BC DG Dx 90) San.xn H hg) rfl
theorem sI {i:Nat}(hi:i<3):Ap (.eq false (.wide (true,[(.i .u64),(.i .u64),(.i .u64),(.i .u64)])) (.cst (.agg (dW i))) (.cst (.agg z4))) emp=some (.bool false):=by
 match i,hi with
 | 0,_=>rfl
 | 1,_=>rfl
 | 2,_=>rfl
theorem Ke (i:Nat):(Vr i).length=4:=by unfold Vr;split<;>rfl
theorem Kn (i:Nat):(dW i).length=4:=by unfold dW;split<;>rfl
theorem pU {H:AH}(hg:H.gl=BY.G){c:List AV}(hc:Ns c):CP prog 118 [.agg c] H fun x=>x=.bool true:=by
 obtain⟨m,nx,ac,hm1,hm8,rfl,hnx,hac⟩:=hc
 refine CP.of (ly ?_)
 unfold gT
 try simp only[BU]
 refine(BE.start H).box rfl fun q1 H1 s=>?_
 refine AA rfl (s.ld (x:=nx) (.head _) rfl (hnx.len (EZ (by omega) (Af (Ea (by omega) (AA rfl (Af ?_)))))))
 refine AA rfl (s.ld (x:=ac) (.head _) rfl (hac.len (DB rfl (AA rfl (Af ?_)))))
 refine AA rfl (s.ld (x:=.sim Dz 3 true) (.head _) rfl (AA rfl (EZ (by decide) (AA rfl (Af ?_)))))
 refine AA rfl (s.ld (x:=.sim Dz 3 true) (.head _) rfl (AA rfl (Ea (by decide) (AA rfl (AZ ?_)))))
 refine s.alloc fun q4 H2 s=>?_
 have s:BE H [(q4,z4),(q1,[.sim Dz 3 true,nx,ac])] H2:=s
 refine AA rfl (s.ld (x:=.sim Dz 3 true) (.tail _ (.head _)) rfl (AA rfl ?_))
 let Iv:AV→AV→AV→AV→AV→AV→AH→Prop:=fun a b c d e f H'=>a=.ptr q1 0∧b=iv (m:Int)∧c=.ptr q4 0∧d=.sim Dz 3 true∧e=iv 3∧∃i:Nat,f=iv (i:Int)∧i≤3∧BE H [(q4,Vr i),(q1,[.sim Dz 3 true,nx,ac])] H'
 let μ:AV→AV→AV→AV→AV→AV→AH→Nat:=fun _ _ _ _ _ f _=>match f with
  | .int _ j=>(3-j).toNat
  | _=>0
 refine⟨Iv,μ,⟨rfl,rfl,rfl,rfl,rfl,0,rfl,by omega,s⟩,?_⟩
 intro e H3 hI
 obtain⟨e1,e2,e3,e4,e5,i,e6,hi,s⟩:=(hI:Iv (e 1) (e 3) (e 4) (e 40) (e 41) (e 42) H3)
 have hmu:μ (e 1) (e 3) (e 4) (e 40) (e 41) (e 42) H3=((3:Int)-(i:Int)).toNat:=by rw[e6]
 show AB (.bin .lss (.cst (e 42)) (.cst (e 41))) _
 rw[e1,e2,e3,e4,e5,e6]
 refine BT (fun h=>Ai ?_) (fun h=>AZ ?_)
 ·have hi3:i<3:=by omega
  refine Zz.IG hi3 fun c hc1 hc2 hc=>?_
  subst hc
  refine s.alloc fun q5 H4 s=>s.Cr (Kn i) rfl fun H5 s=>s.DN (.head _) (Kn i) ?_
  refine AA rfl (AA (sI hi3) (Af ?_))
  refine s.DN (c:=Vr i) (.tail _ (.head _)) (Ke i) (s.DN (.head _) (Kn i) ?_)
  refine BK (pC (s.k.gl.trans hg) hi3) fun x hx=>?_
  subst hx
  refine AA rfl (AA rfl (AA rfl (AZ ?_)))
  refine s.DN (c:=Vr i) (.tail _ (.head _)) (Ke i) (s.DN (.head _) (Kn i) ?_)
  refine BK (pB (s.k.gl.trans hg) hi3) fun x hx=>?_
  subst hx
  have s:BE H [(q4,Vr i),(q1,[.sim Dz 3 true,nx,ac])] H5:=s.sub (List.sublist_cons_self _ _)
  refine s.Cr (Ke _) (Ke _) fun H6 s=>BA ⟨by omega,by omega⟩ ⟨⟨rfl,rfl,rfl,rfl,rfl,i+1,rfl,by omega,s⟩,?_⟩
  show _<μ (e 1) (e 3) (e 4) (e 40) (e 41) (e 42) H3
  rw[hmu]
  show((3:Int)-((i:Int)+1)).toNat<((3:Int)-(i:Int)).toNat
  omega
 have hi3:i=3:=by omega
 subst hi3
 refine s.DN (c:=kf) (.head _) rfl ?_
 refine BK (pG (s.k.gl.trans hg)) fun x hx=>?_
 subst hx
 refine AA rfl (AA rfl (AZ ?_))
 refine AA rfl (s.ld (x:=nx) (.tail _ (.head _)) rfl (hnx.len ?_))
 let I2:AV→AV→AV→AV→AV→AH→Prop:=fun a b c d f H'=>a=.ptr q1 0∧b=iv (m:Int)∧c=nx∧d=iv (m:Int)∧∃i:Nat,f=iv (i:Int)∧i≤m∧H'=H3
 let μ2:AV→AV→AV→AV→AV→AH→Nat:=fun _ _ _ _ f _=>match f with
  | .int _ j=>(m-j).toNat
  | _=>0
 refine⟨I2,μ2,⟨rfl,rfl,rfl,rfl,0,rfl,by omega,rfl⟩,?_⟩
 intro f H4 hI
 obtain⟨f1,f2,f3,f4,i,f5,hi,rfl⟩:=(hI:I2 (f 1) (f 3) (f 65) (f 66) (f 67) H4)
 have hmu2:μ2 (f 1) (f 3) (f 65) (f 66) (f 67) H4=((m:Int)-(i:Int)).toNat:=by rw[f5]
 show AB (.bin .lss (.cst (f 67)) (.cst (f 66))) _
 rw[f1,f2,f3,f4,f5]
 refine BT (fun h=>Ai ?_) (fun h=>AZ (s.B9 (fun k=>.bool _) rfl))
 refine hnx.Ef (by omega) fun row _ hrow=>?_
 obtain⟨row',hr,hrow⟩:=hrow
 cases hr
 refine hrow.len (AA rfl (s.ld (x:=.sim Dz 3 true) (.tail _ (.head _)) rfl (AA rfl (DB rfl (AZ (hrow.len ?_))))))
 let I3:AV→AV→AV→AV→AV→AV→AV→AV→AH→Prop:=fun a b c d e f g h H'=>a=.ptr q1 0∧b=iv (m:Int)∧c=nx∧d=iv (m:Int)∧e=iv (i:Int)∧f=row∧g=iv 3∧∃j:Nat,h=iv (j:Int)∧j≤3∧H'=H4
 let μ3:AV→AV→AV→AV→AV→AV→AV→AV→AH→Nat:=fun _ _ _ _ _ _ _ f _=>match f with
  | .int _ j=>(3-j).toNat
  | _=>0
 refine⟨I3,μ3,⟨rfl,rfl,rfl,rfl,rfl,rfl,rfl,0,rfl,by omega,rfl⟩,?_⟩
 intro g H5 hI
 obtain⟨g1,g2,g3,g4,g5,g6,g7,j,g8,hj,rfl⟩:=(hI:I3 (g 1) (g 3) (g 65) (g 66) (g 67) (g 77) (g 78) (g 79) H5)
 have hmu3:μ3 (g 1) (g 3) (g 65) (g 66) (g 67) (g 77) (g 78) (g 79) H5=((3:Int)-(j:Int)).toNat:=by rw[g8]
 show AB (.bin .lss (.cst (g 79)) (.cst (g 78))) _
 rw[g1,g2,g3,g4,g5,g6,g7,g8]
 refine BT (fun h3=>Ai ?_) (fun h3=>AZ ?_)
 ·refine hrow.Ef (by omega) fun x _ hx=>?_
  obtain⟨a,ha,ha1,ha2⟩:=hx
  cases ha
  refine EZ (by omega) (Af (GK (by omega) (AA rfl (AZ (BA ⟨by omega,by omega⟩ ⟨⟨rfl,rfl,rfl,rfl,rfl,rfl,rfl,j+1,rfl,by omega,rfl⟩,?_⟩)))))
  show _<μ3 (g 1) (g 3) (g 65) (g 66) (g 67) (g 77) (g 78) (g 79) H5
  rw[hmu3]
  show((3:Int)-((j:Int)+1)).toNat<((3:Int)-(j:Int)).toNat
  omega
 ·refine BA ⟨by omega,by omega⟩ ⟨⟨rfl,rfl,rfl,rfl,i+1,rfl,by omega,rfl⟩,?_⟩
  show _<μ2 (f 1) (f 3) (f 65) (f 66) (f 67) H5
  rw[hmu2]
  show((m:Int)-((i:Int)+1)).toNat<((m:Int)-(i:Int)).toNat
  omega
end Go.Proofs.YtdcdbabponelcaaGreatDoor
namespace Go.Proofs.YtdcdbabponelcaaGreatDoor
open Go Go.AL Tryz
open Go.Proofs.YtdcdbabponelcaaGreatDoor.San (MC)
variable [BY]
theorem MQ.v {n:Nat}{T:AV}(h:MQ n T) (H:AH):CP prog 114 [T,iv (n:Int)] H fun x=>x=.bool true:=by
 obtain⟨m,hm,h⟩:=h
 exact iZ (by omega) h
theorem ko (n:Nat) (H:AH):CP prog 114 [.nils,iv (n:Int)] H fun x=>x=.bool true:=iZ (m:=0) (by omega) .nil
theorem Qe {n:Nat}{H:AH}{Kp K:AV→AH→Prop}(h:K (.bool true) H):AX prog 114 [.nils,iv (n:Int)] H Kp K:=BK (ko n H) fun x hx=>by subst hx;exact h
theorem dQ {n:Nat}{T:AV}(hT:MQ n T){H:AH}{Kp K:AV→AH→Prop}(h:K (.bool true) H):AX prog 114 [T,iv (n:Int)] H Kp K:=BK (hT.v H) fun x hx=>by subst hx;exact h
theorem Vb {a lo hi:Int}(hw:lo≤a∧a≤hi){H:AH}{Kp K:AV→AH→Prop}(h:K (.bool true) H):AX prog 63 [iv a,iv lo,iv hi] H Kp K:=BK (iO hw) fun x hx=>by subst hx;exact h
theorem VQ {H:AH}{Kp K:AV→AH→Prop}(h:K (.bool true) H):AX prog 115 [.agg [.nils,.nils,.nils]] H Kp K:=BK pX fun x hx=>by subst hx;exact h
theorem VP {H:AH}{Kp K:AV→AH→Prop}(h:K (.bool true) H):AX prog 116 [.agg [.nils,iv 0]] H Kp K:=BK pW fun x hx=>by subst hx;exact h
theorem VO {H:AH}{Kp K:AV→AH→Prop}(h:K (.bool true) H):AX prog 117 [.agg [.nils,.nils,.nils,.nils]] H Kp K:=BK pV fun x hx=>by subst hx;exact h
set_option maxHeartbeats 1000000 in
theorem oZ {H:AH}(hg:H.gl=BY.G) {n k:Nat}(hn:n≤12) (hk:k≤12){c:List AV}(hc:Kr n k c):CP prog 64 [.agg c,iv (n:Int),iv (k:Int)] H fun x=>x=.bool true:=by
 refine CP.of (qJ ?_)
 unfold oE Uj QD QC QA P_ P8 P7 P6 P9 QB
 try simp only[BU]
 refine(BE.start H).box rfl fun q H1 s=>?_
 have hg1:=s.k.gl.trans hg
 cases hc with
 | isIn hT hd=>
  repeat (first
   | refine AA rfl ?_
   | refine s.ld (.head _) rfl ?_
   | refine s.Ch (.head _) rfl (nb rfl) ?_
   | refine Aj ?_
   | refine Au ?_
   | refine Af ?_
   | refine BB ?_
   | refine Ai ?_
   | refine AZ ?_
   | refine CK ?_
   | refine CL ?_
   | refine BQ ?_)
  refine Vb (by decide) ?_
  repeat (first
   | refine AA rfl ?_
   | refine s.ld (.head _) rfl ?_
   | refine s.Ch (.head _) rfl (nb rfl) ?_
   | refine Aj ?_
   | refine Au ?_
   | refine Af ?_
   | refine BB ?_
   | refine Ai ?_
   | refine AZ ?_
   | refine CK ?_
   | refine CL ?_
   | refine BQ ?_)
  refine dQ hT ?_
  repeat (first
   | refine AA rfl ?_
   | refine s.ld (.head _) rfl ?_
   | refine s.Ch (.head _) rfl (nb rfl) ?_
   | refine Aj ?_
   | refine Au ?_
   | refine Af ?_
   | refine BB ?_
   | refine Ai ?_
   | refine AZ ?_
   | refine CK ?_
   | refine CL ?_
   | refine BQ ?_)
  refine Qe ?_
  repeat (first
   | refine AA rfl ?_
   | refine s.ld (.head _) rfl ?_
   | refine s.Ch (.head _) rfl (nb rfl) ?_
   | refine Aj ?_
   | refine Au ?_
   | refine Af ?_
   | refine BB ?_
   | refine Ai ?_
   | refine AZ ?_
   | refine CK ?_
   | refine CL ?_
   | refine BQ ?_)
  refine VP ?_
  repeat (first
   | refine AA rfl ?_
   | refine s.ld (.head _) rfl ?_
   | refine s.Ch (.head _) rfl (nb rfl) ?_
   | refine Aj ?_
   | refine Au ?_
   | refine Af ?_
   | refine BB ?_
   | refine Ai ?_
   | refine AZ ?_
   | refine CK ?_
   | refine CL ?_
   | refine BQ ?_)
  refine VO ?_
  repeat (first
   | refine AA rfl ?_
   | refine s.ld (.head _) rfl ?_
   | refine s.Ch (.head _) rfl (nb rfl) ?_
   | refine Aj ?_
   | refine Au ?_
   | refine Af ?_
   | refine BB ?_
   | refine Ai ?_
   | refine AZ ?_
   | refine CK ?_
   | refine CL ?_
   | refine BQ ?_)
  refine BK (pU hg1 hd) fun x hx=>?_
  subst hx
  repeat (first
   | refine AA rfl ?_
   | refine s.ld (.head _) rfl ?_
   | refine s.Ch (.head _) rfl (nb rfl) ?_
   | refine Aj ?_
   | refine Au ?_
   | refine Af ?_
   | refine BB ?_
   | refine Ai ?_
   | refine AZ ?_
   | refine CK ?_
   | refine CL ?_
   | refine BQ ?_)
  exact s.B9 (fun k=>.bool _) rfl
 | isEq hT hU=>
  repeat (first
   | refine AA rfl ?_
   | refine s.ld (.head _) rfl ?_
   | refine s.Ch (.head _) rfl (nb rfl) ?_
   | refine Aj ?_
   | refine Au ?_
   | refine Af ?_
   | refine BB ?_
   | refine Ai ?_
   | refine AZ ?_
   | refine CK ?_
   | refine CL ?_
   | refine BQ ?_)
  refine Vb (by decide) ?_
  repeat (first
   | refine AA rfl ?_
   | refine s.ld (.head _) rfl ?_
   | refine s.Ch (.head _) rfl (nb rfl) ?_
   | refine Aj ?_
   | refine Au ?_
   | refine Af ?_
   | refine BB ?_
   | refine Ai ?_
   | refine AZ ?_
   | refine CK ?_
   | refine CL ?_
   | refine BQ ?_)
  refine dQ hT ?_
  repeat (first
   | refine AA rfl ?_
   | refine s.ld (.head _) rfl ?_
   | refine s.Ch (.head _) rfl (nb rfl) ?_
   | refine Aj ?_
   | refine Au ?_
   | refine Af ?_
   | refine BB ?_
   | refine Ai ?_
   | refine AZ ?_
   | refine CK ?_
   | refine CL ?_
   | refine BQ ?_)
  refine dQ hU ?_
  repeat (first
   | refine AA rfl ?_
   | refine s.ld (.head _) rfl ?_
   | refine s.Ch (.head _) rfl (nb rfl) ?_
   | refine Aj ?_
   | refine Au ?_
   | refine Af ?_
   | refine BB ?_
   | refine Ai ?_
   | refine AZ ?_
   | refine CK ?_
   | refine CL ?_
   | refine BQ ?_)
  refine VQ ?_
  repeat (first
   | refine AA rfl ?_
   | refine s.ld (.head _) rfl ?_
   | refine s.Ch (.head _) rfl (nb rfl) ?_
   | refine Aj ?_
   | refine Au ?_
   | refine Af ?_
   | refine BB ?_
   | refine Ai ?_
   | refine AZ ?_
   | refine CK ?_
   | refine CL ?_
   | refine BQ ?_)
  refine VP ?_
  repeat (first
   | refine AA rfl ?_
   | refine s.ld (.head _) rfl ?_
   | refine s.Ch (.head _) rfl (nb rfl) ?_
   | refine Aj ?_
   | refine Au ?_
   | refine Af ?_
   | refine BB ?_
   | refine Ai ?_
   | refine AZ ?_
   | refine CK ?_
   | refine CL ?_
   | refine BQ ?_)
  refine VO ?_
  repeat (first
   | refine AA rfl ?_
   | refine s.ld (.head _) rfl ?_
   | refine s.Ch (.head _) rfl (nb rfl) ?_
   | refine Aj ?_
   | refine Au ?_
   | refine Af ?_
   | refine BB ?_
   | refine Ai ?_
   | refine AZ ?_
   | refine CK ?_
   | refine CL ?_
   | refine BQ ?_)
  exact s.B9 (fun k=>.bool _) rfl
 | isRow hA h1 h2=>
  repeat (first
   | refine AA rfl ?_
   | refine s.ld (.head _) rfl ?_
   | refine s.Ch (.head _) rfl (nb rfl) ?_
   | refine Aj ?_
   | refine Au ?_
   | refine Af ?_
   | refine BB ?_
   | refine Ai ?_
   | refine AZ ?_
   | refine CK ?_
   | refine CL ?_
   | refine BQ ?_)
  refine Vb (by decide) ?_
  repeat (first
   | refine AA rfl ?_
   | refine s.ld (.head _) rfl ?_
   | refine s.Ch (.head _) rfl (nb rfl) ?_
   | refine Aj ?_
   | refine Au ?_
   | refine Af ?_
   | refine BB ?_
   | refine Ai ?_
   | refine AZ ?_
   | refine CK ?_
   | refine CL ?_
   | refine BQ ?_)
  refine Qe ?_
  repeat (first
   | refine AA rfl ?_
   | refine s.ld (.head _) rfl ?_
   | refine s.Ch (.head _) rfl (nb rfl) ?_
   | refine Aj ?_
   | refine Au ?_
   | refine Af ?_
   | refine BB ?_
   | refine Ai ?_
   | refine AZ ?_
   | refine CK ?_
   | refine CL ?_
   | refine BQ ?_)
  refine Qe ?_
  repeat (first
   | refine AA rfl ?_
   | refine s.ld (.head _) rfl ?_
   | refine s.Ch (.head _) rfl (nb rfl) ?_
   | refine Aj ?_
   | refine Au ?_
   | refine Af ?_
   | refine BB ?_
   | refine Ai ?_
   | refine AZ ?_
   | refine CK ?_
   | refine CL ?_
   | refine BQ ?_)
  refine VQ ?_
  repeat (first
   | refine AA rfl ?_
   | refine s.ld (.head _) rfl ?_
   | refine s.Ch (.head _) rfl (nb rfl) ?_
   | refine Aj ?_
   | refine Au ?_
   | refine Af ?_
   | refine BB ?_
   | refine Ai ?_
   | refine AZ ?_
   | refine CK ?_
   | refine CL ?_
   | refine BQ ?_)
  refine VO ?_
  repeat (first
   | refine AA rfl ?_
   | refine s.ld (.head _) rfl ?_
   | refine s.Ch (.head _) rfl (nb rfl) ?_
   | refine Aj ?_
   | refine Au ?_
   | refine Af ?_
   | refine BB ?_
   | refine Ai ?_
   | refine AZ ?_
   | refine CK ?_
   | refine CL ?_
   | refine BQ ?_)
  refine hA.len ?_
  refine BA ⟨by omega,by omega⟩ (FF (by omega) ?_)
  repeat (first
   | refine AA rfl ?_
   | refine s.ld (.head _) rfl ?_
   | refine s.Ch (.head _) rfl (nb rfl) ?_
   | refine Aj ?_
   | refine Au ?_
   | refine Af ?_
   | refine BB ?_
   | refine Ai ?_
   | refine AZ ?_
   | refine CK ?_
   | refine CL ?_
   | refine BQ ?_)
  refine BK (pY hA (by omega) fun i x hx=>.of (by
   obtain⟨a,ha,ha1,ha2⟩:=hx
   cases ha
   exact pQ ⟨by omega,by omega⟩)) fun x hx=>?_
  subst hx
  repeat (first
   | refine AA rfl ?_
   | refine s.ld (.head _) rfl ?_
   | refine s.Ch (.head _) rfl (nb rfl) ?_
   | refine Aj ?_
   | refine Au ?_
   | refine Af ?_
   | refine BB ?_
   | refine Ai ?_
   | refine AZ ?_
   | refine CK ?_
   | refine CL ?_
   | refine BQ ?_)
  refine Vb (lo:=-1000) (hi:=999) ⟨by omega,by omega⟩ ?_
  repeat (first
   | refine AA rfl ?_
   | refine s.ld (.head _) rfl ?_
   | refine s.Ch (.head _) rfl (nb rfl) ?_
   | refine Aj ?_
   | refine Au ?_
   | refine Af ?_
   | refine BB ?_
   | refine Ai ?_
   | refine AZ ?_
   | refine CK ?_
   | refine CL ?_
   | refine BQ ?_)
  exact s.B9 (fun k=>.bool _) rfl
 | isIm hT hU hj hm=>
  repeat (first
   | refine AA rfl ?_
   | refine s.ld (.head _) rfl ?_
   | refine s.Ch (.head _) rfl (nb rfl) ?_
   | refine Aj ?_
   | refine Au ?_
   | refine Af ?_
   | refine BB ?_
   | refine Ai ?_
   | refine AZ ?_
   | refine CK ?_
   | refine CL ?_
   | refine BQ ?_)
  refine Vb (by decide) ?_
  repeat (first
   | refine AA rfl ?_
   | refine s.ld (.head _) rfl ?_
   | refine s.Ch (.head _) rfl (nb rfl) ?_
   | refine Aj ?_
   | refine Au ?_
   | refine Af ?_
   | refine BB ?_
   | refine Ai ?_
   | refine AZ ?_
   | refine CK ?_
   | refine CL ?_
   | refine BQ ?_)
  refine dQ hT ?_
  repeat (first
   | refine AA rfl ?_
   | refine s.ld (.head _) rfl ?_
   | refine s.Ch (.head _) rfl (nb rfl) ?_
   | refine Aj ?_
   | refine Au ?_
   | refine Af ?_
   | refine BB ?_
   | refine Ai ?_
   | refine AZ ?_
   | refine CK ?_
   | refine CL ?_
   | refine BQ ?_)
  refine dQ hU ?_
  repeat (first
   | refine AA rfl ?_
   | refine s.ld (.head _) rfl ?_
   | refine s.Ch (.head _) rfl (nb rfl) ?_
   | refine Aj ?_
   | refine Au ?_
   | refine Af ?_
   | refine BB ?_
   | refine Ai ?_
   | refine AZ ?_
   | refine CK ?_
   | refine CL ?_
   | refine BQ ?_)
  refine VQ ?_
  repeat (first
   | refine AA rfl ?_
   | refine s.ld (.head _) rfl ?_
   | refine s.Ch (.head _) rfl (nb rfl) ?_
   | refine Aj ?_
   | refine Au ?_
   | refine Af ?_
   | refine BB ?_
   | refine Ai ?_
   | refine AZ ?_
   | refine CK ?_
   | refine CL ?_
   | refine BQ ?_)
  refine VP ?_
  repeat (first
   | refine AA rfl ?_
   | refine s.ld (.head _) rfl ?_
   | refine s.Ch (.head _) rfl (nb rfl) ?_
   | refine Aj ?_
   | refine Au ?_
   | refine Af ?_
   | refine BB ?_
   | refine Ai ?_
   | refine AZ ?_
   | refine CK ?_
   | refine CL ?_
   | refine BQ ?_)
  have h119:=pT hg1 hj
  rw[hm]at h119
  refine BK h119 fun x hx=>?_
  subst hx
  repeat (first
   | refine AA rfl ?_
   | refine s.ld (.head _) rfl ?_
   | refine s.Ch (.head _) rfl (nb rfl) ?_
   | refine Aj ?_
   | refine Au ?_
   | refine Af ?_
   | refine BB ?_
   | refine Ai ?_
   | refine AZ ?_
   | refine CK ?_
   | refine CL ?_
   | refine BQ ?_)
  exact s.B9 (fun k=>.bool _) rfl
 | isNum hT hq h1 h2=>
  repeat (first
   | refine AA rfl ?_
   | refine s.ld (.head _) rfl ?_
   | refine s.Ch (.head _) rfl (nb rfl) ?_
   | refine Aj ?_
   | refine Au ?_
   | refine Af ?_
   | refine BB ?_
   | refine Ai ?_
   | refine AZ ?_
   | refine CK ?_
   | refine CL ?_
   | refine BQ ?_)
  refine Vb (by decide) ?_
  repeat (first
   | refine AA rfl ?_
   | refine s.ld (.head _) rfl ?_
   | refine s.Ch (.head _) rfl (nb rfl) ?_
   | refine Aj ?_
   | refine Au ?_
   | refine Af ?_
   | refine BB ?_
   | refine Ai ?_
   | refine AZ ?_
   | refine CK ?_
   | refine CL ?_
   | refine BQ ?_)
  refine dQ hT ?_
  repeat (first
   | refine AA rfl ?_
   | refine s.ld (.head _) rfl ?_
   | refine s.Ch (.head _) rfl (nb rfl) ?_
   | refine Aj ?_
   | refine Au ?_
   | refine Af ?_
   | refine BB ?_
   | refine Ai ?_
   | refine AZ ?_
   | refine CK ?_
   | refine CL ?_
   | refine BQ ?_)
  refine Qe ?_
  repeat (first
   | refine AA rfl ?_
   | refine s.ld (.head _) rfl ?_
   | refine s.Ch (.head _) rfl (nb rfl) ?_
   | refine Aj ?_
   | refine Au ?_
   | refine Af ?_
   | refine BB ?_
   | refine Ai ?_
   | refine AZ ?_
   | refine CK ?_
   | refine CL ?_
   | refine BQ ?_)
  refine VQ ?_
  repeat (first
   | refine AA rfl ?_
   | refine s.ld (.head _) rfl ?_
   | refine s.Ch (.head _) rfl (nb rfl) ?_
   | refine Aj ?_
   | refine Au ?_
   | refine Af ?_
   | refine BB ?_
   | refine Ai ?_
   | refine AZ ?_
   | refine CK ?_
   | refine CL ?_
   | refine BQ ?_)
  refine VP ?_
  repeat (first
   | refine AA rfl ?_
   | refine s.ld (.head _) rfl ?_
   | refine s.Ch (.head _) rfl (nb rfl) ?_
   | refine Aj ?_
   | refine Au ?_
   | refine Af ?_
   | refine BB ?_
   | refine Ai ?_
   | refine AZ ?_
   | refine CK ?_
   | refine CL ?_
   | refine BQ ?_)
  refine VO ?_
  repeat (first
   | refine AA rfl ?_
   | refine s.ld (.head _) rfl ?_
   | refine s.Ch (.head _) rfl (nb rfl) ?_
   | refine Aj ?_
   | refine Au ?_
   | refine Af ?_
   | refine BB ?_
   | refine Ai ?_
   | refine AZ ?_
   | refine CK ?_
   | refine CL ?_
   | refine BQ ?_)
  refine BK (pR hg1 hq) fun x hx=>?_
  subst hx
  repeat (first
   | refine AA rfl ?_
   | refine s.ld (.head _) rfl ?_
   | refine s.Ch (.head _) rfl (nb rfl) ?_
   | refine Aj ?_
   | refine Au ?_
   | refine Af ?_
   | refine BB ?_
   | refine Ai ?_
   | refine AZ ?_
   | refine CK ?_
   | refine CL ?_
   | refine BQ ?_)
  have ew:IntKind.i64.wrap ((k:Int)-1)=(k:Int)-1:=HA ⟨by omega,by omega⟩
  refine Vb (lo:=0) (hi:=IntKind.i64.wrap ((k:Int)-1)) ⟨by omega,by rw[ew];omega⟩ ?_
  repeat (first
   | refine AA rfl ?_
   | refine s.ld (.head _) rfl ?_
   | refine s.Ch (.head _) rfl (nb rfl) ?_
   | refine Aj ?_
   | refine Au ?_
   | refine Af ?_
   | refine BB ?_
   | refine Ai ?_
   | refine AZ ?_
   | refine CK ?_
   | refine CL ?_
   | refine BQ ?_)
  exact s.B9 (fun k=>.bool _) rfl
end Go.Proofs.YtdcdbabponelcaaGreatDoor
namespace Go.Proofs.YtdcdbabponelcaaGreatDoor
open Go Go.AL Tryz
variable [BY]
set_option maxHeartbeats 1000000 in
theorem rY {H:AH}{m:Nat}(hm:m≤40){v:AV}(hv:ZH m v):CP prog 65 [v,iv (m:Int)] H fun x=>x=.bool true:=by
 obtain⟨n,hn1,hn8,hv⟩:=hv
 refine CP.of (qI ?_)
 unfold oD
 try simp only[BU]
 refine hv.len ?_
 let Iv:AV→AV→AV→AV→AV→AH→Prop:=fun a b c d f H'=>a=v∧b=iv (m:Int)∧c=v∧d=iv (n:Int)∧∃i:Nat,f=iv (i:Int)∧i≤n∧BE H [] H'
 let μ:AV→AV→AV→AV→AV→AH→Nat:=fun _ _ _ _ f _=>match f with
  | .int _ j=>(n-j).toNat
  | _=>0
 refine⟨Iv,μ,⟨rfl,rfl,rfl,rfl,0,rfl,by omega,BE.start H⟩,?_⟩
 intro e H1 hI
 obtain⟨e1,e2,e3,e4,i,e5,hi,s⟩:=(hI:Iv (e 0) (e 1) (e 9) (e 10) (e 11) H1)
 have hmu:μ (e 0) (e 1) (e 9) (e 10) (e 11) H1=((n:Int)-(i:Int)).toNat:=by rw[e5]
 show AB (.bin .lss (.cst (e 11)) (.cst (e 10))) _
 rw[e1,e2,e3,e4,e5]
 refine BT (fun h=>Ai ?_) (fun h=>AZ (hv.len (N7 (by omega) (s.B9 (fun k=>.bool _) rfl))))
 refine hv.IG (by omega) fun c hc1 _ hc=>?_
 obtain⟨kd,L,R,rfl,k1,k4,p1,p2,p3⟩:=hc
 refine s.alloc fun q H2 s=>s.Cr rfl rfl fun H3 s=>?_
 refine AA rfl (s.ld (x:=iv kd) (.head _) rfl (IV ?_))
 refine Nb (fun J=>∀lim sec:Int,0≤L→L≤lim-1→0≤R→R≤sec→0≤lim→lim≤40→J v (iv (m:Int)) (.ptr q 0) (iv lim) (iv sec) v (iv (n:Int)) (iv (i:Int)) H3) (fun lim sec a1 a2 a3 a4 a5 a6=>?_) (fun ht J hJ=>?_) (fun hf J hJ=>?_)
 ·refine AA rfl (s.ld (x:=iv L) (.head _) rfl (D4 ⟨by omega,by omega⟩ ?_))
  refine Vb (lo:=0) ⟨a1,a2⟩ (AA rfl (Af ?_))
  refine AA rfl (s.ld (x:=iv R) (.head _) rfl ?_)
  refine Vb (lo:=0) ⟨a3,a4⟩ (AA rfl (AA rfl (AZ ?_)))
  refine BA ⟨by omega,by omega⟩ ⟨⟨rfl,rfl,rfl,rfl,i+1,rfl,by omega,s.sub (List.sublist_cons_self _ _)⟩,?_⟩
  show _<μ (e 0) (e 1) (e 9) (e 10) (e 11) H1
  rw[hmu]
  show((n:Int)-((i:Int)+1)).toNat<((n:Int)-(i:Int)).toNat
  omega
 ·obtain⟨b1,b2,b3⟩:=p1 (of_decide_eq_true ht)
  exact hJ m 0 b1 (by omega) (by omega) (by omega) (by omega) (by omega)
 ·have h1:=of_decide_eq_false hf
  refine FM (fun h2=>Ai ?_) (fun h2=>AZ ?_)
  ·obtain⟨b1,b2,b3⟩:=p2 h2
   exact hJ i 0 b1 (by omega) (by omega) (by omega) (by omega) (by omega)
  ·obtain⟨b1,b2,b3,b4⟩:=p3 (by omega)
   refine FM (fun h3=>CK (Ai (D4 ⟨by omega,by omega⟩ (hJ i _ b1 (by omega) b3 (by omega) (by omega) (by omega))))) (fun h3=>CL (FF (by omega) (Ai (D4 ⟨by omega,by omega⟩ (hJ i _ b1 (by omega) b3 (by omega) (by omega) (by omega))))))
end Go.Proofs.YtdcdbabponelcaaGreatDoor
namespace Go.Proofs.YtdcdbabponelcaaGreatDoor
open Go Go.AL Tryz
variable [BY]
def MI (ln:Nat→Nat):Nat→Nat
 | 0=>0
 | n+1=>MI ln n+ln n
theorem RM (ln:Nat→Nat) {a b:Nat}(h:a≤b):MI ln a≤MI ln b:=by
 induction b with
 | zero=>
  have:a=0:=by omega
  subst this;exact Nat.le_refl _
 | succ b ih=>
  by_cases e:a=b+1
  ·subst e;exact Nat.le_refl _
  ·have:=ih (by omega)
   show MI ln a≤MI ln b+ln b
   omega
structure n_ (al mo to li at_ fo:AV) (nal n k nl na nf:Nat) (Al:Nat→UInt8) (M T:Nat→Int) (FA okF:Nat→Bool) (ln:Nat→Nat):Prop where
 fal:FL 1 (fun i c=>c=[bv (Al i)]) nal al
 fal0:0<nal
 fal16:nal≤16
 fmo:FL 1 (fun i c=>c=[iv (M i)]) n mo
 fto:FL 1 (fun i c=>c=[iv (T i)]) k to
 fnk:n+k≤12
 fli:FL 19 (fun _=>R_ n k) nl li
 fnl:nl≤40
 fat:FL 18 (fun i c=>∀H:AH,H.gl=BY.G→CP prog 64 [.agg c,iv (n:Int),iv (k:Int)] H fun x=>x=.bool (FA i)) na at_
 fna:na≤40
 ffo:FL 1 (fun i c=>∃v Pf m,c=[v]∧m≤ln i∧FL 3 Pf m v∧∀H:AH,H.gl=BY.G→CP prog 65 [v,iv (na:Int)] H fun x=>x=.bool (okF i)) nf fo
 fnf:nf≤40
 fnd:MI ln nf≤40
def dI (nal n k na nf:Nat) (Al:Nat→UInt8) (M T:Nat→Int) (FA okF:Nat→Bool):Prop:=
 (∀j,j+1<nal→(Al j).toNat<(Al (j+1)).toNat)∧(∀j,j<n→0≤M j∧M j≤8)∧(∀j,j<k→0≤T j∧T j≤64)∧(∀j,j<na→FA j=true)∧(∀j,j<nf→okF j=true)
theorem oY {H:AH}(hg:H.gl=BY.G) {n k:Nat}(hn:n≤12) (hk:k≤12){c:List AV}(hc:R_ n k c):CP prog 64 [.agg (c.take 18),iv (n:Int),iv (k:Int)] H fun x=>x=.bool true:=by
 obtain⟨a,b,rfl,ha⟩:=hc
 have e:(a++[AV.bool b]).take 18=a:=by rw[List.take_append_of_le_length (by rw[ha.len];omega),List.take_of_length_le (by rw[ha.len];omega)]
 rw[e]
 exact oZ hg hn hk ha
section
variable {al mo to li at_ fo:AV}{nal n k nl na nf:Nat}{Al:Nat→UInt8}{M T:Nat→Int}{FA okF:Nat→Bool}{ln:Nat→Nat}
set_option maxHeartbeats 2000000 in
theorem rf {H:AH}(hg:H.gl=BY.G) (h:n_ al mo to li at_ fo nal n k nl na nf Al M T FA okF ln) :
  CP prog 29 [.agg [al,mo,to,li,at_,fo]] H fun x=>∃t:Bool,x=iv (if t then 0 else 1)∧(t=true↔dI nal n k na nf Al M T FA okF):=by
 have hnk:=h.fnk
 refine CP.of (te ?_)
 unfold rA VB VA U_ U9
 try simp only[BU]
 refine(BE.start H).box rfl fun q H1 s=>?_
 refine AA rfl (s.ld (x:=mo) (.head _) rfl (h.fmo.len ?_))
 refine AA rfl (s.ld (x:=to) (.head _) rfl (h.fto.len ?_))
 refine AA rfl (s.ld (x:=fo) (.head _) rfl (h.ffo.len ?_))
 refine fe (fun J=>∀w:Nat,w≤40→J (.ptr q 0) (iv (n:Int)) (iv (k:Int)) (iv (w:Int)) H1) (fun w hw40=>?_) (fun J hJ=>?_)
 case refine_2=>
  let Iv:AV→AV→AV→AV→AV→AV→AV→AH→Prop:=fun a b c d e f g H'=>a=.ptr q 0∧b=iv (n:Int)∧c=iv (k:Int)∧e=fo∧f=iv (nf:Int)∧∃i w:Nat,d=iv (w:Int)∧w≤MI ln i∧g=iv (i:Int)∧i≤nf∧H'=H1
  let μ:AV→AV→AV→AV→AV→AV→AV→AH→Nat:=fun _ _ _ _ _ _ f _=>match f with
   | .int _ j=>(nf-j).toNat
   | _=>0
  refine⟨Iv,μ,⟨rfl,rfl,rfl,rfl,rfl,0,0,rfl,by omega,rfl,by omega,rfl⟩,?_⟩
  intro e H2 hI
  obtain⟨e1,e2,e3,e5,e6,i,w,e4,hw,e7,hi,rfl⟩:=(hI:Iv (e 1) (e 3) (e 4) (e 5) (e 27) (e 28) (e 29) H2)
  have hmu:μ (e 1) (e 3) (e 4) (e 5) (e 27) (e 28) (e 29) H2=((nf:Int)-(i:Int)).toNat:=by rw[e7]
  show AB (.bin .lss (.cst (e 29)) (.cst (e 28))) _
  rw[e1,e2,e3,e4,e5,e6,e7]
  refine BT (fun hlt=>Ai ?_) (fun hlt=>AZ ?_)
  ·refine h.ffo.Ef (by omega) fun x _ hx=>?_
   obtain⟨v,Pf,m,hv,hm,hfl,_⟩:=hx
   cases hv
   have b1:=RM ln (show i+1≤nf by omega)
   have b2:=h.fnd
   have b3:MI ln (i+1)=MI ln i+ln i:=rfl
   have b4:=h.fnf
   refine hfl.len (BA ⟨by omega,by omega⟩ (Ea (by omega) (AZ (BA ⟨by omega,by omega⟩ ⟨⟨rfl,rfl,rfl,rfl,rfl,i+1,w+m,rfl,by omega,rfl,by omega,rfl⟩,?_⟩))))
   ·show _<μ (e 1) (e 3) (e 4) (e 5) (e 27) (e 28) (e 29) H2
    rw[hmu]
    show((nf:Int)-((i:Int)+1)).toNat<((nf:Int)-(i:Int)).toNat
    omega
  ·have:i=nf:=by omega
   subst this
   have:=h.fnd
   exact hJ w (by omega)
 have hal0:=h.fal0
 have hal16:=h.fal16
 have hnl:=h.fnl
 have hna:=h.fna
 have hnf:=h.fnf
 have hnodes:=h.fnd
 refine AA rfl (s.ld (x:=al) (.head _) rfl (h.fal.len (Ea (by omega) (Af (Ea (by omega) (AA rfl (Af (D4 ⟨by omega,by omega⟩ (Ea (by omega) (AA rfl (Af ?_)))))))))))
 refine AA rfl (s.ld (x:=li) (.head _) rfl (h.fli.len ?_))
 refine AA rfl (s.ld (x:=at_) (.head _) rfl (h.fat.len ?_))
 obtain⟨mx,hmx,hmx40⟩:∃mx:Int,Ap (.minmax3 true (.cst (iv (nl:Int))) (.cst (iv (na:Int))) (.cst (iv (w:Int)))) emp=some (iv mx)∧mx≤40:=⟨_,rfl,by
   unfold fh
   simp only[if_true]
   repeat' split
   all_goals omega⟩
 refine AA hmx (Ea (by omega) (AA rfl (AZ ?_)))
 refine AA rfl (s.ld (x:=al) (.head _) rfl (h.fal.len (N7 (by omega) ?_)))
 let IA:AV→AV→AV→AV→AV→AH→Prop:=fun a0 a1 a2 a3 a4 H'=>a0=.ptr q 0∧a1=iv (n:Int)∧a2=iv (k:Int)∧∃(t:Bool) (i:Nat),a3=.bool t∧a4=iv (i:Int)∧1≤i∧i≤nal∧BE H [(q,[al,mo,to,li,at_,fo])] H'∧(t=true↔∀j,j+1<i→(Al j).toNat<(Al (j+1)).toNat)
 let μA:AV→AV→AV→AV→AV→AH→Nat:=fun _ _ _ _ f _=>match f with
  | .int _ j=>(nal-j).toNat
  | _=>0
 refine⟨IA,μA,⟨rfl,rfl,rfl,true,1,rfl,rfl,by omega,by omega,s,by simp⟩,?_⟩
 intro e H2 hI
 obtain⟨e1,e3,e4,t,i,e8,e9,hi0,hi,s2,ht⟩:=(hI:IA (e 1) (e 3) (e 4) (e 8) (e 9) H2)
 have hmu:μA (e 1) (e 3) (e 4) (e 8) (e 9) H2=((nal:Int)-(i:Int)).toNat:=by rw[e9]
 show AB (.fieldAddr 0 (.cst (e 1))) _
 rw[e1,e3,e4,e8,e9]
 have st:∀r:Bool,(r=true↔(Al (i-1)).toNat<(Al i).toNat)→((t&&r)=true↔∀j,j+1<i+1→(Al j).toNat<(Al (j+1)).toNat):=fun r hr=>by
  rw[Bool.and_eq_true,ht,hr]
  constructor
  ·rintro⟨h1,h2⟩ j hj
   by_cases e:j+1=i
   ·have:j=i-1:=by omega
    subst this
    rw[show i-1+1=i by omega];exact h2
   ·exact h1 j (by omega)
  ·intro h1
   refine⟨fun j hj=>h1 j (by omega),?_⟩
   have:=h1 (i-1) (by omega)
   rwa [show i-1+1=i by omega]at this
 refine AA rfl (s2.ld (x:=al) (.head _) rfl (h.fal.len (BT (fun hlt=>Ai ?_) (fun hlt=>AZ ?_))))
 ·refine HN (fun htt=>?_) (fun htf=>?_)
  ·subst htt
   refine AA rfl (s2.ld (x:=al) (.head _) rfl (D4 ⟨by omega,by omega⟩ ?_))
   rw[show(i:Int)-1=((i-1:Nat):Int)by omega]
   refine h.fal.Ef (by omega) fun x _ hx=>?_
   cases hx
   refine AA rfl (s2.ld (x:=al) (.head _) rfl (h.fal.Ef (by omega) fun x _ hx=>?_))
   cases hx
   refine ZV (RR (BA ⟨by omega,by omega⟩ ⟨⟨rfl,rfl,rfl,_,i+1,rfl,rfl,by omega,by omega,s2,st _ (by simp)⟩,?_⟩))
   show _<μA (e 1) (e 3) (e 4) (e 8) (e 9) H2
   rw[hmu]
   show((nal:Int)-((i:Int)+1)).toNat<((nal:Int)-(i:Int)).toNat
   omega
  ·subst htf
   refine AA rfl (BA ⟨by omega,by omega⟩ ⟨⟨rfl,rfl,rfl,false,i+1,rfl,rfl,by omega,by omega,s2,?_⟩,?_⟩)
   ·have:=st (decide ((Al (i-1)).toNat<(Al i).toNat)) (by simp)
    simpa using this
   show _<μA (e 1) (e 3) (e 4) (e 8) (e 9) H2
   rw[hmu]
   show((nal:Int)-((i:Int)+1)).toNat<((nal:Int)-(i:Int)).toNat
   omega
 have hin:nal=i:=by omega
 subst hin
 have htA:=ht
 clear st hmu hi0 hi
 obtain⟨PPM,hPPM⟩:∃P:Prop,P=(t=true):=⟨_,rfl⟩
 refine AA rfl (s2.ld (x:=mo) (.head _) rfl (h.fmo.len ?_))
 let IM:AV→AV→AV→AV→AV→AV→AV→AH→Prop:=fun a0 a1 a2 a3 a4 a5 a6 H'=>a0=.ptr q 0∧a1=iv (n:Int)∧a2=iv (k:Int)∧a4=mo∧a5=iv (n:Int)∧∃(t:Bool) (i:Nat),a3=.bool t∧a6=iv (i:Int)∧0≤i∧i≤n∧BE H [(q,[al,mo,to,li,at_,fo])] H'∧(t=true↔PPM∧∀j,j<i→0≤M j∧M j≤8)
 let μM:AV→AV→AV→AV→AV→AV→AV→AH→Nat:=fun _ _ _ _ _ _ f _=>match f with
  | .int _ j=>(n-j).toNat
  | _=>0
 refine⟨IM,μM,⟨rfl,rfl,rfl,rfl,rfl,t,0,rfl,rfl,by omega,by omega,s2,by rw[hPPM];simp⟩,?_⟩
 intro e H2 hI
 clear ht s2
 obtain⟨e1,e3,e4,e92,e93,t,i,e8,e94,hi0,hi,s2,ht⟩:=(hI:IM (e 1) (e 3) (e 4) (e 8) (e 92) (e 93) (e 94) H2)
 have hmu:μM (e 1) (e 3) (e 4) (e 8) (e 92) (e 93) (e 94) H2=((n:Int)-(i:Int)).toNat:=by rw[e94]
 show AB (.bin .lss (.cst (e 94)) (.cst (e 93))) _
 rw[e1,e3,e4,e92,e93,e8,e94]
 have st:∀r:Bool,(r=true↔0≤M i∧M i≤8)→((t&&r)=true↔PPM∧∀j,j<i+1→0≤M j∧M j≤8):=fun r hr=>by
  rw[Bool.and_eq_true,ht,hr]
  constructor
  ·rintro⟨⟨h0,h1⟩,h2⟩
   refine⟨h0,fun j hj=>?_⟩
   by_cases e:j=i
   ·subst e;exact h2
   ·exact h1 j (by omega)
  ·rintro⟨h0,h1⟩
   exact⟨⟨h0,fun j hj=>h1 j (by omega)⟩,h1 i (by omega)⟩
 refine BT (fun hlt=>Ai ?_) (fun hlt=>AZ ?_)
 ·refine h.fmo.Ef (by omega) fun x _ hx=>?_
  cases hx
  refine HN (fun htt=>?_) (fun htf=>?_)
  ·subst htt
   refine BK iP fun x hx=>?_
   subst hx
   refine RR (BA ⟨by omega,by omega⟩ ⟨⟨rfl,rfl,rfl,rfl,rfl,_,i+1,rfl,rfl,by omega,by omega,s2,st _ (by simp)⟩,?_⟩)
   show _<μM (e 1) (e 3) (e 4) (e 8) (e 92) (e 93) (e 94) H2
   rw[hmu]
   show((n:Int)-((i:Int)+1)).toNat<((n:Int)-(i:Int)).toNat
   omega
  ·subst htf
   refine AA rfl (BA ⟨by omega,by omega⟩ ⟨⟨rfl,rfl,rfl,rfl,rfl,false,i+1,rfl,rfl,by omega,by omega,s2,?_⟩,?_⟩)
   ·have:=st (decide (0≤M i∧M i≤8)) (by simp)
    simpa using this
   show _<μM (e 1) (e 3) (e 4) (e 8) (e 92) (e 93) (e 94) H2
   rw[hmu]
   show((n:Int)-((i:Int)+1)).toNat<((n:Int)-(i:Int)).toNat
   omega
 have hin:n=i:=by omega
 subst hin
 have htM:=ht
 clear st hmu hi0 hi
 obtain⟨PPT,hPPT⟩:∃P:Prop,P=(t=true):=⟨_,rfl⟩
 refine AA rfl (s2.ld (x:=to) (.head _) rfl (h.fto.len ?_))
 let IT:AV→AV→AV→AV→AV→AV→AV→AH→Prop:=fun a0 a1 a2 a3 a4 a5 a6 H'=>a0=.ptr q 0∧a1=iv (n:Int)∧a2=iv (k:Int)∧a4=to∧a5=iv (k:Int)∧∃(t:Bool) (i:Nat),a3=.bool t∧a6=iv (i:Int)∧0≤i∧i≤k∧BE H [(q,[al,mo,to,li,at_,fo])] H'∧(t=true↔PPT∧∀j,j<i→0≤T j∧T j≤64)
 let μT:AV→AV→AV→AV→AV→AV→AV→AH→Nat:=fun _ _ _ _ _ _ f _=>match f with
  | .int _ j=>(k-j).toNat
  | _=>0
 refine⟨IT,μT,⟨rfl,rfl,rfl,rfl,rfl,t,0,rfl,rfl,by omega,by omega,s2,by rw[hPPT];simp⟩,?_⟩
 intro e H2 hI
 clear ht s2
 obtain⟨e1,e3,e4,e105,e106,t,i,e8,e107,hi0,hi,s2,ht⟩:=(hI:IT (e 1) (e 3) (e 4) (e 8) (e 105) (e 106) (e 107) H2)
 have hmu:μT (e 1) (e 3) (e 4) (e 8) (e 105) (e 106) (e 107) H2=((k:Int)-(i:Int)).toNat:=by rw[e107]
 show AB (.bin .lss (.cst (e 107)) (.cst (e 106))) _
 rw[e1,e3,e4,e105,e106,e8,e107]
 have st:∀r:Bool,(r=true↔0≤T i∧T i≤64)→((t&&r)=true↔PPT∧∀j,j<i+1→0≤T j∧T j≤64):=fun r hr=>by
  rw[Bool.and_eq_true,ht,hr]
  constructor
  ·rintro⟨⟨h0,h1⟩,h2⟩
   refine⟨h0,fun j hj=>?_⟩
   by_cases e:j=i
   ·subst e;exact h2
   ·exact h1 j (by omega)
  ·rintro⟨h0,h1⟩
   exact⟨⟨h0,fun j hj=>h1 j (by omega)⟩,h1 i (by omega)⟩
 refine BT (fun hlt=>Ai ?_) (fun hlt=>AZ ?_)
 ·refine h.fto.Ef (by omega) fun x _ hx=>?_
  cases hx
  refine HN (fun htt=>?_) (fun htf=>?_)
  ·subst htt
   refine BK iP fun x hx=>?_
   subst hx
   refine RR (BA ⟨by omega,by omega⟩ ⟨⟨rfl,rfl,rfl,rfl,rfl,_,i+1,rfl,rfl,by omega,by omega,s2,st _ (by simp)⟩,?_⟩)
   show _<μT (e 1) (e 3) (e 4) (e 8) (e 105) (e 106) (e 107) H2
   rw[hmu]
   show((k:Int)-((i:Int)+1)).toNat<((k:Int)-(i:Int)).toNat
   omega
  ·subst htf
   refine AA rfl (BA ⟨by omega,by omega⟩ ⟨⟨rfl,rfl,rfl,rfl,rfl,false,i+1,rfl,rfl,by omega,by omega,s2,?_⟩,?_⟩)
   ·have:=st (decide (0≤T i∧T i≤64)) (by simp)
    simpa using this
   show _<μT (e 1) (e 3) (e 4) (e 8) (e 105) (e 106) (e 107) H2
   rw[hmu]
   show((k:Int)-((i:Int)+1)).toNat<((k:Int)-(i:Int)).toNat
   omega
 have hin:k=i:=by omega
 subst hin
 have htT:=ht
 clear st hmu hi0 hi
 obtain⟨PPL,hPPL⟩:∃P:Prop,P=(t=true):=⟨_,rfl⟩
 refine AA rfl (s2.ld (x:=li) (.head _) rfl (h.fli.len ?_))
 let IL:AV→AV→AV→AV→AV→AV→AV→AH→Prop:=fun a0 a1 a2 a3 a4 a5 a6 H'=>a0=.ptr q 0∧a1=iv (n:Int)∧a2=iv (k:Int)∧a4=li∧a5=iv (nl:Int)∧∃(t:Bool) (i:Nat),a3=.bool t∧a6=iv (i:Int)∧0≤i∧i≤nl∧BE H [(q,[al,mo,to,li,at_,fo])] H'∧(t=true↔PPL∧∀j,j<i→(j=j))
 let μL:AV→AV→AV→AV→AV→AV→AV→AH→Nat:=fun _ _ _ _ _ _ f _=>match f with
  | .int _ j=>(nl-j).toNat
  | _=>0
 refine⟨IL,μL,⟨rfl,rfl,rfl,rfl,rfl,t,0,rfl,rfl,by omega,by omega,s2,by rw[hPPL];simp⟩,?_⟩
 intro e H2 hI
 clear ht s2
 obtain⟨e1,e3,e4,e118,e119,t,i,e8,e120,hi0,hi,s2,ht⟩:=(hI:IL (e 1) (e 3) (e 4) (e 8) (e 118) (e 119) (e 120) H2)
 have hmu:μL (e 1) (e 3) (e 4) (e 8) (e 118) (e 119) (e 120) H2=((nl:Int)-(i:Int)).toNat:=by rw[e120]
 show AB (.bin .lss (.cst (e 120)) (.cst (e 119))) _
 rw[e1,e3,e4,e118,e119,e8,e120]
 have st:∀r:Bool,(r=true↔(i=i))→((t&&r)=true↔PPL∧∀j,j<i+1→(j=j)):=fun r hr=>by
  rw[Bool.and_eq_true,ht,hr]
  constructor
  ·rintro⟨⟨h0,h1⟩,h2⟩
   refine⟨h0,fun j hj=>?_⟩
   by_cases e:j=i
   ·subst e;exact h2
   ·exact h1 j (by omega)
  ·rintro⟨h0,h1⟩
   exact⟨⟨h0,fun j hj=>h1 j (by omega)⟩,h1 i (by omega)⟩
 refine BT (fun hlt=>Ai ?_) (fun hlt=>AZ ?_)
 ·refine h.fli.IG (by omega) fun c hcl _ hc=>?_
  refine s2.alloc fun qc H3 s3=>s3.Cr hcl rfl fun H4 s4=>?_
  have s2':BE H [(q,[al,mo,to,li,at_,fo])] H4:=s4.sub (List.sublist_cons_self _ _)
  refine HN (fun htt=>?_) (fun htf=>?_)
  ·subst htt
   refine AA rfl (s4.Ch (d:=c.take 18) (.head _) (by simp) (by rw[hcl];decide) ?_)
   refine BK (oY (s4.k.gl.trans hg) (by omega) (by omega) hc) fun x hx=>?_
   subst hx
   refine RR (BA ⟨by omega,by omega⟩ ⟨⟨rfl,rfl,rfl,rfl,rfl,_,i+1,rfl,rfl,by omega,by omega,s2',st _ (by simp)⟩,?_⟩)
   show _<μL (e 1) (e 3) (e 4) (e 8) (e 118) (e 119) (e 120) H2
   rw[hmu]
   show((nl:Int)-((i:Int)+1)).toNat<((nl:Int)-(i:Int)).toNat
   omega
  ·subst htf
   refine AA rfl (BA ⟨by omega,by omega⟩ ⟨⟨rfl,rfl,rfl,rfl,rfl,false,i+1,rfl,rfl,by omega,by omega,s2',?_⟩,?_⟩)
   ·have:=st true (by simp)
    simpa using this
   show _<μL (e 1) (e 3) (e 4) (e 8) (e 118) (e 119) (e 120) H2
   rw[hmu]
   show((nl:Int)-((i:Int)+1)).toNat<((nl:Int)-(i:Int)).toNat
   omega
 have hin:nl=i:=by omega
 subst hin
 have htL:=ht
 clear st hmu hi0 hi
 obtain⟨PPB,hPPB⟩:∃P:Prop,P=(t=true):=⟨_,rfl⟩
 refine AA rfl (s2.ld (x:=at_) (.head _) rfl (h.fat.len ?_))
 let IB:AV→AV→AV→AV→AV→AV→AV→AH→Prop:=fun a0 a1 a2 a3 a4 a5 a6 H'=>a0=.ptr q 0∧a1=iv (n:Int)∧a2=iv (k:Int)∧a4=at_∧a5=iv (na:Int)∧∃(t:Bool) (i:Nat),a3=.bool t∧a6=iv (i:Int)∧0≤i∧i≤na∧BE H [(q,[al,mo,to,li,at_,fo])] H'∧(t=true↔PPB∧∀j,j<i→FA j=true)
 let μB:AV→AV→AV→AV→AV→AV→AV→AH→Nat:=fun _ _ _ _ _ _ f _=>match f with
  | .int _ j=>(na-j).toNat
  | _=>0
 refine⟨IB,μB,⟨rfl,rfl,rfl,rfl,rfl,t,0,rfl,rfl,by omega,by omega,s2,by rw[hPPB];simp⟩,?_⟩
 intro e H2 hI
 clear ht s2
 obtain⟨e1,e3,e4,e134,e135,t,i,e8,e136,hi0,hi,s2,ht⟩:=(hI:IB (e 1) (e 3) (e 4) (e 8) (e 134) (e 135) (e 136) H2)
 have hmu:μB (e 1) (e 3) (e 4) (e 8) (e 134) (e 135) (e 136) H2=((na:Int)-(i:Int)).toNat:=by rw[e136]
 show AB (.bin .lss (.cst (e 136)) (.cst (e 135))) _
 rw[e1,e3,e4,e134,e135,e8,e136]
 have st:∀r:Bool,(r=true↔FA i=true)→((t&&r)=true↔PPB∧∀j,j<i+1→FA j=true):=fun r hr=>by
  rw[Bool.and_eq_true,ht,hr]
  constructor
  ·rintro⟨⟨h0,h1⟩,h2⟩
   refine⟨h0,fun j hj=>?_⟩
   by_cases e:j=i
   ·subst e;exact h2
   ·exact h1 j (by omega)
  ·rintro⟨h0,h1⟩
   exact⟨⟨h0,fun j hj=>h1 j (by omega)⟩,h1 i (by omega)⟩
 refine BT (fun hlt=>Ai ?_) (fun hlt=>AZ ?_)
 ·refine h.fat.IG (by omega) fun c hcl _ hc=>?_
  refine s2.alloc fun qc H3 s3=>s3.Cr hcl rfl fun H4 s4=>?_
  have s2':BE H [(q,[al,mo,to,li,at_,fo])] H4:=s4.sub (List.sublist_cons_self _ _)
  refine HN (fun htt=>?_) (fun htf=>?_)
  ·subst htt
   refine s4.DN (.head _) hcl ?_
   refine BK (hc _ (s4.k.gl.trans hg)) fun x hx=>?_
   subst hx
   refine RR (BA ⟨by omega,by omega⟩ ⟨⟨rfl,rfl,rfl,rfl,rfl,_,i+1,rfl,rfl,by omega,by omega,s2',st _ (by simp)⟩,?_⟩)
   show _<μB (e 1) (e 3) (e 4) (e 8) (e 134) (e 135) (e 136) H2
   rw[hmu]
   show((na:Int)-((i:Int)+1)).toNat<((na:Int)-(i:Int)).toNat
   omega
  ·subst htf
   refine AA rfl (BA ⟨by omega,by omega⟩ ⟨⟨rfl,rfl,rfl,rfl,rfl,false,i+1,rfl,rfl,by omega,by omega,s2',?_⟩,?_⟩)
   ·have:=st (FA i) (by simp)
    simpa using this
   show _<μB (e 1) (e 3) (e 4) (e 8) (e 134) (e 135) (e 136) H2
   rw[hmu]
   show((na:Int)-((i:Int)+1)).toNat<((na:Int)-(i:Int)).toNat
   omega
 have hin:na=i:=by omega
 subst hin
 have htB:=ht
 clear st hmu hi0 hi
 obtain⟨PPF,hPPF⟩:∃P:Prop,P=(t=true):=⟨_,rfl⟩
 refine AA rfl (s2.ld (x:=fo) (.head _) rfl (h.ffo.len ?_))
 let IF:AV→AV→AV→AV→AV→AH→Prop:=fun a0 a1 a2 a3 a4 H'=>a0=.ptr q 0∧a2=fo∧a3=iv (nf:Int)∧∃(t:Bool) (i:Nat),a1=.bool t∧a4=iv (i:Int)∧0≤i∧i≤nf∧BE H [(q,[al,mo,to,li,at_,fo])] H'∧(t=true↔PPF∧∀j,j<i→okF j=true)
 let μF:AV→AV→AV→AV→AV→AH→Nat:=fun _ _ _ _ f _=>match f with
  | .int _ j=>(nf-j).toNat
  | _=>0
 refine⟨IF,μF,⟨rfl,rfl,rfl,t,0,rfl,rfl,by omega,by omega,s2,by rw[hPPF];simp⟩,?_⟩
 intro e H2 hI
 clear ht s2
 obtain⟨e1,e149,e150,t,i,e8,e151,hi0,hi,s2,ht⟩:=(hI:IF (e 1) (e 8) (e 149) (e 150) (e 151) H2)
 have hmu:μF (e 1) (e 8) (e 149) (e 150) (e 151) H2=((nf:Int)-(i:Int)).toNat:=by rw[e151]
 show AB (.bin .lss (.cst (e 151)) (.cst (e 150))) _
 rw[e1,e149,e150,e8,e151]
 have st:∀r:Bool,(r=true↔okF i=true)→((t&&r)=true↔PPF∧∀j,j<i+1→okF j=true):=fun r hr=>by
  rw[Bool.and_eq_true,ht,hr]
  constructor
  ·rintro⟨⟨h0,h1⟩,h2⟩
   refine⟨h0,fun j hj=>?_⟩
   by_cases e:j=i
   ·subst e;exact h2
   ·exact h1 j (by omega)
  ·rintro⟨h0,h1⟩
   exact⟨⟨h0,fun j hj=>h1 j (by omega)⟩,h1 i (by omega)⟩
 refine BT (fun hlt=>Ai ?_) (fun hlt=>AZ ?_)
 ·refine h.ffo.Ef (by omega) fun x _ hx=>?_
  obtain⟨v,Pf,m,hv,_,hfl,hcall⟩:=hx
  cases hv
  refine HN (fun htt=>?_) (fun htf=>?_)
  ·subst htt
   refine AA rfl (s2.ld (x:=at_) (.head _) rfl (h.fat.len ?_))
   refine BK (hcall _ (s2.k.gl.trans hg)) fun x hx=>?_
   subst hx
   refine RR (BA ⟨by omega,by omega⟩ ⟨⟨rfl,rfl,rfl,_,i+1,rfl,rfl,by omega,by omega,s2,st _ (by simp)⟩,?_⟩)
   show _<μF (e 1) (e 8) (e 149) (e 150) (e 151) H2
   rw[hmu]
   show((nf:Int)-((i:Int)+1)).toNat<((nf:Int)-(i:Int)).toNat
   omega
  ·subst htf
   refine AA rfl (BA ⟨by omega,by omega⟩ ⟨⟨rfl,rfl,rfl,false,i+1,rfl,rfl,by omega,by omega,s2,?_⟩,?_⟩)
   ·have:=st (okF i) (by simp)
    simpa using this
   show _<μF (e 1) (e 8) (e 149) (e 150) (e 151) H2
   rw[hmu]
   show((nf:Int)-((i:Int)+1)).toNat<((nf:Int)-(i:Int)).toNat
   omega
 have hin:nf=i:=by omega
 subst hin
 have hall:t=true↔dI nal n k na nf Al M T FA okF:=by
  rw[ht,hPPF,htB,hPPB,htL,hPPL,htT,hPPT,htM,hPPM,htA]
  unfold dI
  constructor
  ·rintro⟨⟨⟨⟨⟨a,b⟩,c⟩,_⟩,d⟩,e⟩;exact⟨a,b,c,d,e⟩
  ·rintro⟨a,b,c,d,e⟩;exact⟨⟨⟨⟨⟨a,b⟩,c⟩,fun _ _=>rfl⟩,d⟩,e⟩
 refine eK ?_
 cases t with
 | true=>exact AZ (s2.B9 (fun k=>.int _ _) ⟨true,rfl,hall⟩)
 | false=>exact Ai (s2.B9 (fun k=>.int _ _) ⟨false,rfl,hall⟩)
end
end Go.Proofs.YtdcdbabponelcaaGreatDoor
