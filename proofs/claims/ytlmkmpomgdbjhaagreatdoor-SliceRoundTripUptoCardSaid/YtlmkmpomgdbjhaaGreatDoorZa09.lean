import Derived.Test.YtlmkmpomgdbjhaaGreatDoorZa08
import Derived.Shelf.SlIterI.Collect
import Derived.Test.YtlmkmpomgdbjhaaGreatDoorProg
/-
  a part of the proof.
-/
set_option linter.unusedSectionVars false
set_option linter.unusedVariables false
set_option linter.unusedSimpArgs false
namespace Go.Proofs.YtlmkmpomgdbjhaaGreatDoor
open Tryz
section
open Go Go.AL
variable [BX]
def XU:List AV->Option (List Nat)
 | []=>some []
 | x::l=>match x with
  | .int .i64 (.ofNat t)=>(XU l).map fun r=>t::r
  | _=>none
def eU:AV->Option (List Nat)
 | .nils=>some []
 | .sim l n b=>match XU l with
  | some r=>bif Nat.beq n r.length&&(b||Nat.ble 1 n)then some r else none
  | none=>none
 | _=>none
def RW:List AV->Option (List (List Nat))
 | []=>some []
 | v::l=>match eU v,RW l with
  | some r,some d=>some (r::d)
  | _,_=>none
def Sw:List AV->Option (List Bool)
 | []=>some []
 | x::l=>match x with
  | .bool b=>(Sw l).map fun r=>b::r
  | _=>none
theorem UO:∀{l:List AV}{r:List Nat},XU l=some r->l=r.map fun t:Nat=>iv (t:Int)
 | [],r,h=>by cases h;rfl
 | x::l,r,h=>by
  unfold XU at h
  split at h<;>(try (cases h;done))
  simp only[AO]at h
  obtain⟨r',h1,rfl⟩:=h
  rw[UO h1];rfl
theorem Mq:∀{l:List AV}{r:List Bool},Sw l=some r->l=r.map fun b=>.bool b
 | [],r,h=>by cases h;rfl
 | x::l,r,h=>by
  unfold Sw at h
  split at h<;>(try (cases h;done))
  simp only[AO]at h
  obtain⟨r',h1,rfl⟩:=h
  rw[Mq h1];rfl
theorem FL.lO {Pr:Nat->List AV->Prop}{l:List AV}{n:Nat}{b:Bool}(hn:l.length=n) (hb:n=0->b=true) (h:∀i x,l[i]?=some x->(∀k,Sc k x)/\Pr i [x]):FL 1 Pr n (.sim l n b):=by
 have e:(l.map fun x=>[x]).flatten=l:=by
  clear hn h
  induction l with
  | nil=>rfl
  | cons x l ih=>simp[ih]
 refine⟨.inr ⟨l.map fun x=>[x],b,by rw[e],hb,by simpa using hn,fun i c hc=>?_⟩⟩
 rw[Bf,AO]at hc
 obtain⟨x,hx,rfl⟩:=hc
 obtain⟨h1,h2⟩:=h i x hx
 exact⟨rfl,fun k=>.cons (h1 k) .nil,h2⟩
theorem eT {v:AV}{r:List Nat}(h:eU v=some r):FL 1 (o6 r) r.length v:=by
 unfold eU at h
 split at h
 ·cases h;exact FL.nil
 ·rename_i l n b
  split at h<;>(try (cases h;done))
  rename_i r' hr
  cases hc:Nat.beq n r'.length&&(b||Nat.ble 1 n)with
  | false=>rw[hc]at h;cases h
  | true=>
   rw[hc]at h
   cases h
   simp only[AS,FC]at hc
   obtain⟨rfl,hc⟩:=hc
   have e:=UO hr
   refine FL.lO (by rw[e];simp) (fun h0=>?_) fun i x hx=>?_
   ·rw[h0]at hc;simpa using hc
   ·rw[e,Bf,AO]at hx
    obtain⟨t,ht,rfl⟩:=hx
    exact⟨fun k=>.int _ _,t,ht,rfl⟩
 ·cases h
theorem RU:∀{l:List AV}{d:List (List Nat)},RW l=some d->l.length=d.length
 | [],d,h=>by cases h;rfl
 | v::l,d,h=>by
  unfold RW at h
  split at h<;>(try (cases h;done))
  rename_i r d' _ h2
  cases h
  simp[RU h2]
theorem UN:∀{l:List AV}{d:List (List Nat)},RW l=some d->∀(i:Nat) (x:AV),l[i]?=some x->∃r,d[i]?=some r/\eU x=some r
 | [],d,h,i,x,hx=>by simp at hx
 | v::l,d,h,i,x,hx=>by
  unfold RW at h
  split at h<;>(try (cases h;done))
  rename_i r d' h1 h2
  cases h
  cases i with
  | zero=>simp only[EU,AD]at hx;subst hx;exact⟨r,rfl,h1⟩
  | succ i=>exact UN h2 i x (by simpa using hx)
noncomputable def TO (as0:List AV) (R:AV):Bool:=match as0 with
 | [.agg [c,.sim rows n b1,.sim bs m b2]]=>(match RW rows,Sw bs with
  | some d,some acc=>OB 0 as0&&(Nat.beq n d.length&&(Nat.beq m d.length&&(Nat.beq acc.length d.length&&(Nat.ble 1 d.length&&(Nat.ble d.length 999999999&&(d.all (fun r=>Nat.ble r.length 999999999&&r.all (fun t=>Nat.ble (t+1) d.length)) &&
    ES R (.tup [iv (WW d acc (2*d.length):Nat),.bool (decide (WW d acc (2*d.length)<d.length))])))))))
  | _,_=>false)
 | _=>false
theorem aG {as0:List AV}{R:AV}(h:TO as0 R=true):dB prog 244 as0 R:=by
 unfold TO at h
 split at h<;>(try (cases h;done))
 rename_i c rows n b1 bs m b2
 split at h<;>(try (cases h;done))
 rename_i d acc hd ha
 simp only[AS,FC]at h
 obtain⟨h0,rfl,rfl,h3,h4,h5,h6,h7⟩:=h
 have h4:1<=d.length:=Ab h4
 have h5:d.length<=999999999:=Ab h5
 have h6:=CY.1 h6
 have hr:=CB _ _ h7
 subst hr
 intro H al hg hv
 have hN:FL 1 (dF d) d.length (.sim rows d.length b1):=FL.lO (RU hd) (fun h0=>by omega) fun i x hx=>by
  obtain⟨r,g1,g2⟩:=UN hd i x hx
  have hF:=eT g2
  exact⟨fun k=>hF.sc k,x,r,rfl,g1,hF⟩
 have hA:FL 1 (rK acc) d.length (.sim bs d.length b2):=FL.lO (by rw[Mq ha];simpa using h3) (fun h0=>by omega) fun i x hx=>by
  rw[Mq ha,Bf,AO]at hx
  obtain⟨b,hb,rfl⟩:=hx
  exact⟨fun k=>.bool _,b,hb,rfl⟩
 refine AP.Oi (H0:=Ai KH.emp) ((av (c:=c) hN hA (by omega) (fun r hr t ht=>?_) (by omega) (fun r hr=>?_)).mono fun o H' hq=>⟨_,hq,.pln (.tup (.cons (.int _ _) (.cons (.bool _) .nil)))⟩) (DJ _ h0) hv (fun r=>by rw[FE];rfl) (by rw[hg];rfl)
 ·have:=h6 r hr
  rw[AS]at this
  exact Ab (CY.1 this.2 t ht)
 ·have:=h6 r hr
  rw[AS]at this
  have:=Ab this.1
  omega
end
end Go.Proofs.YtlmkmpomgdbjhaaGreatDoor
namespace Go.AL
section
open Sha
variable [BX]
theorem RY (a:UInt8):BitVec.ofInt 8 (a.toNat:Int)=a.toBitVec:=by
 rw[HS];exact BitVec.ofNat_toNat _ _ |>.trans (by simp)
theorem gu {K:AV->Prop}{a b:UInt8}(hK:K (bv (a ^^^ b))):AB (.bin .xor (.cst (bv a)) (.cst (bv b))) K:=AA (by
 show some (AV.int .u8 (IntKind.u8.wrap ((BitVec.ofInt 8 (a.toNat:Int) ^^^ BitVec.ofInt 8 (b.toNat:Int)).toNat:Nat)))=_
 rw[RY,RY]
 have h:(a.toBitVec ^^^ b.toBitVec).toNat<256:=SR _
 have e:∀n:Nat,n<256->IntKind.u8.wrap (n:Int)=(n:Int):=fun n hn=>by
  have h:IntKind.u8.wrap (n:Int)=(n:Int) % 256:=by simp[IntKind.wrap,IntKind.bits,IntKind.signed]
  rw[h];omega
 rw[e _ h];rfl) hK
def Jw:AH->List Nat->AH
 | H,[]=>H
 | H,r::l=>Jw (H.erase r) l
theorem Nj:∀(l:List Nat) (H:AH),(Jw H l).next=H.next
 | [],_=>rfl
 | r::l,H=>(Nj l (H.erase r)).trans rfl
theorem Rt:∀(l:List Nat) (H:AH),(Jw H l).gl=H.gl
 | [],_=>rfl
 | r::l,H=>(Rt l (H.erase r)).trans rfl
theorem QK:∀(l:List Nat) (H:AH){r:Nat}{o:Cy},(Jw H l).get r=some o->r ∉ l/\H.get r=some o
 | [],_,r,o,h=>⟨by simp,h⟩
 | q::l,H,r,o,h=>by
  obtain⟨h1,h2⟩:=QK l (H.erase q) h
  rw[AH.get_erase]at h2
  split at h2
  ·cases h2
  ·rename_i hq
   exact⟨by simp[h1,hq],h2⟩
section
variable {P:Program}{H0 H:AH}
theorem BO.Jw:∀(G:List (Nat × List AV)){B:List (Nat × List AV)}{H:AH},BO H0 (G++B) H->BO H0 B (Jw H (G.map (·.1)))
 | [],_,_,h=>h
 | (_,_)::G,_,_,h=>BO.Jw G (BO.erase h)
theorem BO.cX (G:List (Nat × List AV)){B:List (Nat × List AV)}{g:FuncId}{ar ar':List AV}{Q:AV->Prop}{Kp K:AV->AH->Prop}(h:BO H0 (G++B) H) (ha:CG H (fun r=>r∈G.map (·.1)) ar ar')
  (hC:∀H',BO H0 B H'->CP P g ar' H' Q) (hK:∀v H',BO H0 B H'->Q v->K v H'):AG P g ar H Kp K:=by
 have s:=h.Jw
 refine BK (AP.tH (fun r=>r∈G.map (·.1)) (hC _ s) ha (Nj _ _) (Rt _ _) fun r o hr=>?_) (fun v H' hq=>by obtain⟨rfl,x,h2,h3⟩:=hq;cases h2;exact hK _ _ s h3) (fun v H' hq=>by obtain⟨_,x,h2,_⟩:=hq;cases h2)
 obtain⟨h1,h2⟩:=QK _ _ hr
 exact⟨h1,.inl h2⟩
theorem BO.at_ {L:List (Nat × List AV)}(h:BO H0 L H){q:Nat}{c:List AV}(hm:(q,c)∈L):H.get q=some (.cells c):=(h.l _ hm).2.2
theorem Ev {R:Nat->Prop}:∀l:List AV,CG H R l l
 | []=>.nil
 | x::l=>.cons (.same x) (Ev l)
end
theorem XD (m:List UInt8):(sum m).length=32:=rfl
theorem Ei (k:List UInt8) (x:UInt8):(masked k x).length=64:=by simp[masked]
theorem NU (k:List UInt8) (x:UInt8){i:Nat}(hi:i<64):(masked k x).take (i+1)=(masked k x).take i++[k.getD i 0 ^^^ x]:=by
 rw[DZ]
 congr 1
 simp[masked,EV hi]
end
end Go.AL
namespace Go.Proofs.YtlmkmpomgdbjhaaGreatDoor
open Tryz
section
open Go Go.AL Go.AL.Sha
variable [BX]
set_option maxHeartbeats 2000000 in
theorem jF [Bp] {H:AH}{key bs:List UInt8}{v:AV}(hg:H.gl=BX.G) (hk:key.length=32) (hv:KM bs v) (hl:bs.length<68719470000) :
  CP prog 43 [.agg (key.map bv),v] H fun x=>x=.agg ((keyed key bs).map bv):=CP.of <| by
 refine T43 ?_
 unfold yu
 refine(BO.start H).box (c:=key.map bv) rfl fun qk H1 s=>s.alloc fun q3 H2 s=>s.alloc fun q4 H3 s=>s.alloc fun q5 H4 s=>?_
 have s:BO H [(q5,Jh 64 ((masked key 0x5c).take 0)),(q4,Jh 64 ((masked key 0x36).take 0)),(q3,Bl 32 (N .u8 0) []),(qk,key.map bv)] H4:=s
 let I1:AV->AV->AV->AV->AV->AV->AH->Prop:=fun e1 e2 e4 e5 e6 e10 H'=>e1=v/\e2=.ptr qk 0/\e4=.ptr q3 0/\e5=.ptr q4 0/\e6=.ptr q5 0/\∃i:Nat,e10=iv (i:Int)/\i<=64 /\
  BO H [(q5,Jh 64 ((masked key 0x5c).take i)),(q4,Jh 64 ((masked key 0x36).take i)),(q3,Bl 32 (N .u8 0) []),(qk,key.map bv)] H'
 let μ1:AV->AV->AV->AV->AV->AV->AH->Nat:=fun _ _ _ _ _ e10 _=>match e10 with
  | .int _ j=>((64:Int)-j).toNat
  | _=>0
 refine⟨I1,μ1,⟨rfl,rfl,rfl,rfl,rfl,0,rfl,by omega,s⟩,?_⟩
 clear s
 intro e H5 hIv
 obtain⟨e1,e2,e4,e5,e6,i,e10,hi,s⟩:=(hIv:I1 (e 1) (e 2) (e 4) (e 5) (e 6) (e 10) H5)
 have hmu:μ1 (e 1) (e 2) (e 4) (e 5) (e 6) (e 10) H5=((64:Int)-(i:Int)).toNat:=by rw[e10]
 show AB (.bin .lss (.cst (e 10)) (.cst (I 64))) _
 rw[e1,e2,e4,e5,e6,e10]
 have tl:∀x,((masked key x).take i).length=i:=fun x=>by rw[BI,Ei];omega
 refine Dk (b:=64) (fun hlt=>Cw ?_) (fun hlt=>BS ?_)
 ·have hi64:i<64:=by omega
  refine gH (b:=32) ?_
  refine tE (fun J=>J v (.ptr qk 0) (.ptr q3 0) (.ptr q4 0) (.ptr q5 0) (iv (i:Int)) (bv (key.getD i 0)) (iv (i:Int)) H5) ?_ (fun ht J hJ=>?_) (fun hf J hJ=>?_)
  ·refine gu (b:=54) (gu (b:=92) (JC (i:=i) hi64 ?_))
   have p4:As (Jh 64 ((masked key 0x36).take i)) i [bv (key.getD i 0 ^^^ 0x36)]=Jh 64 ((masked key 0x36).take (i+1)):=by
    have h:=Pf (n:=64) (l:=(masked key 0x36).take i) (x:=key.getD i 0 ^^^ 0x36) (by rw[tl];exact hi64)
    rw[tl]at h
    rw[h,NU _ _ hi64]
   have p5:As (Jh 64 ((masked key 0x5c).take i)) i [bv (key.getD i 0 ^^^ 0x5c)]=Jh 64 ((masked key 0x5c).take (i+1)):=by
    have h:=Pf (n:=64) (l:=(masked key 0x5c).take i) (x:=key.getD i 0 ^^^ 0x5c) (by rw[tl];exact hi64)
    rw[tl]at h
    rw[h,NU _ _ hi64]
   refine BO.Sq (A:=[(q5,_)]) (vs:=[bv (key.getD i 0 ^^^ 0x36)]) s rfl rfl (by rw[Pg (by rw[tl];exact hi)];omega) fun H6 s=>JC (i:=i) hi64 ?_
   rw[p4]at s
   refine BO.Sq (A:=[]) (vs:=[bv (key.getD i 0 ^^^ 0x5c)]) s rfl rfl (by rw[Pg (by rw[tl];exact hi)];omega) fun H7 s=>?_
   rw[p5]at s
   refine Dg (b:=1) ⟨by omega,by omega⟩ ⟨⟨rfl,rfl,rfl,rfl,rfl,i+1,rfl,by omega,s⟩,?_⟩
   show _<μ1 (e 1) (e 2) (e 4) (e 5) (e 6) (e 10) H5
   rw[hmu]
   show((64:Int)-((i:Int)+1)).toNat<_
   omega
  ·have h32:i<32:=by have:=of_decide_eq_true ht;omega
   refine JC (i:=i) h32 (s.ld (o:=i) (x:=bv (key.getD i 0)) (.tail _ (.tail _ (.tail _ (.head _)))) ?_ hJ)
   rw[Bf,A6,Ak (by omega)];rfl
  ·have h32:¬i<32:=by have:=of_decide_eq_false hf;omega
   have:key.getD i 0=0:=by rw[A6,BM (by omega)];rfl
   rw[this]at hJ
   exact hJ
 have hi64:i=64:=by omega
 subst hi64
 rw[Ac (by rw[Ei];omega),Ac (by rw[Ei];omega),Mp (Ei _ _),Mp (Ei _ _)]at s
 clear hmu tl
 have hm36:=Ei key 0x36
 have hm5c:=Ei key 0x5c
 generalize hA:masked key 0x36=A at s hm36
 generalize hB:masked key 0x5c=B at s hm5c
 have hkd:keyed key bs=sum (B++sum (A++bs)):=by rw[<- hA,<- hB];rfl
 rw[hkd]
 refine AA (v:=.sl q4 0 64 (.ex 64)) rfl ?_
 refine s.bs (out:=[.sl q4 0 64 (.ex 64),v]) (by rcases hv with⟨_,rfl⟩ | ⟨b,rfl⟩<;>rfl) fun q6 H6 s=>?_
 have p1:∀{l:List UInt8} {x:AV} {bs:List UInt8},KM bs x->l.length=64->FL 1 (SH [l,bs]) [l,bs].length (.sim [.sim (l.map bv) 64 false,x] 2 true):=fun{l x bs} hx hl=>FL.lO rfl (fun _=>rfl) fun i y hy=>by
  match i,hy with
  | 0,hy=>cases hy;exact⟨fun k=>.sim (Ef _ k),_,l,rfl,rfl,.inr ⟨false,by rw[hl]⟩⟩
  | 1,hy=>
   cases hy
   refine⟨fun k=>?_,_,bs,rfl,rfl,hx⟩
   rcases hx with⟨_,rfl⟩ | ⟨b,rfl⟩
   ·exact .nils
   ·exact .sim (Ef _ k)
  | n+2,hy=>simp at hy
 refine BO.cX (G:=[(q6,_),(q4,_)]) (B:=[(q5,_),(q3,_),(qk,_)]) (s.perm (by
   show List.Perm ((q6,_)::([(q4,_)]++(q5,_)::[(q3,_),(qk,_)])) _
   exact List.Perm.cons _ JL.symm.symm)) (ar':=[.sim [.sim (A.map bv) 64 false,v] 2 true]) ?_ (fun H' s'=>b_ (parts:=[A,bs]) (s'.k.gl.trans hg) (p1 hv hm36) (show 2<1099511627776 by omega) (by simp[hm36];omega)) fun x H7 s hx=>?_
 ·refine .cons (Eb.row (Be ..) (s.at_ (.head _)) (.cons (Eb.row (by simp) (s.at_ (.tail _ (.tail _ (.head _)))) (Ev _) (fun h=>by cases h) (fun h=>by cases h)) (.cons (.same _) .nil)) (fun h=>by cases h) (fun _=>rfl)) .nil
 subst hx
 rw[show[A,bs].flatten=A++bs by simp]
 generalize hd:sum (A++bs)=d
 have hdl:d.length=32:=by rw[<- hd];exact XD _
 refine s.alloc fun q8 H8 s=>s.Gk (vs:=d.map bv) (by rw[BR,hdl]) rfl fun H9 s=>?_
 refine AA (v:=.sl q5 0 64 (.ex 64)) rfl (AA (v:=.sl q8 0 32 (.ex 32)) rfl ?_)
 refine gM (s.bs (out:=[.sl q5 0 64 (.ex 64),.sl q8 0 32 (.ex 32)]) rfl fun q9 H10 s=>?_)
 refine BO.cX (G:=[(q9,_),(q8,_),(q5,_)]) (B:=[(q3,_),(qk,_)]) s (ar':=[.sim [.sim (B.map bv) 64 false,.sim (d.map bv) 32 false] 2 true]) ?_ (fun H' s'=>b_ (parts:=[B,d]) (s'.k.gl.trans hg) (p1 (.inr ⟨false,by rw[hdl]⟩) hm5c) (show 2<1099511627776 by omega) (by simp[hm5c,hdl])) fun x H7 s hx=>?_
 ·refine .cons (Eb.row (Be ..) (s.at_ (.head _)) (.cons (Eb.row (by simp) (s.at_ (.tail _ (.tail _ (.head _)))) (Ev _) (fun h=>by cases h) (fun h=>by cases h)) (.cons (Eb.row (by simp) (s.at_ (.tail _ (.head _))) (Ev _) (fun h=>by cases h) (fun h=>by cases h)) .nil)) (fun h=>by cases h) (fun _=>rfl)) .nil
 subst hx
 rw[show[B,d].flatten=B++d by simp]
 generalize hd2:sum (B++d)=d2
 have hdl2:d2.length=32:=by rw[<- hd2];exact XD _
 refine s.Gk (vs:=d2.map bv) (by rw[BR,hdl2]) rfl fun H11 s=>s.Hc (.head _) (by rw[BR,hdl2]) ?_
 exact s.U3 (fun k=>.agg (Ef _ k)) rfl
end
end Go.Proofs.YtlmkmpomgdbjhaaGreatDoor
namespace Go.AL
section
open Sha
variable [BX]
inductive Bg:List (Nat × List AV)->List UInt8->AV->Prop
 | nil:Bg [] [] .nils
 | op (r:Nat) {bs:List UInt8} {c:List AV} (h:c.take bs.length=bs.map bv) (hl:bs.length<=c.length):Bg [(r,c)] bs (.sl r 0 bs.length (.op 1))
section
variable {H0 H:AH}{L:List (Nat × List AV)}
theorem Bg.len {o:List (Nat × List AV)}{bs:List UInt8}{v:AV}(h:Bg o bs v){K:AV->Prop}(hK:K (iv (bs.length:Int))):AB (.len (.cst v)) K:=by
 cases h with
 | nil=>exact AA (v:=iv 0) rfl hK
 | op r h=>exact AA (v:=iv (bs.length:Int)) rfl hK
theorem Bg.app {o:List (Nat × List AV)}{bs ys:List UInt8}{v x:AV}{K:AV->AH->Prop}(s:BO H0 (o++L) H) (h:Bg o bs v) (hx:Aj 1 x H=some (ys.length,ys.map bv)) (hl:bs.length+ys.length<1099511627776)
  (hK:∀o' v' H',BO H0 (o'++L) H'->Bg o' (bs++ys) v'->K v' H'):AQ (.append 1 1 (.cst v) (.cst x)) H K:=by
 by_cases hy:ys=[]
 ·subst hy
  refine Ap (v:=v) (H':=H) ?_ (hK o v H s (by rw[DY];exact h))
  cases h with
  | nil=>simp[BL,AF.ev,Bx,hx]
  | @op r _ c h hc=>
   obtain⟨_,_,g3⟩:=s.l (r,_) (.head _)
   have g3:H.get r=some (.cells c):=g3
   simp only[BL,AF.ev,Bx,hx,AH.cells?,g3]
   simp
 ·have hy0:¬ys.length=0:=fun h=>hy (G0.1 h)
  cases h with
  | nil=>
   have hb:ys.length*1<=140737488355328/\ys.length<=9223372036854775807:=by simp at hl;omega
   refine Ap (v:=.sl H.next 0 ys.length (.op 1)) (H':=H.push (.cells (ys.map bv))) (by
    simp only[BL,AF.ev,Bx,hx]
    rw[if_neg hy0,if_pos hb]) ?_
   exact hK [(H.next,ys.map bv)] _ _ (BO.push (o:=ys.map bv) s) (Bg.op H.next (Ac (by simp)) (by simp))
  | @op r _ c h hc=>
   obtain⟨_,_,g3⟩:=s.l (r,_) (.head _)
   have g3:H.get r=some (.cells c):=g3
   refine Ap (v:=.sl H.next 0 (bs.length+ys.length) (.op 1)) (H':=(H.erase r).push (.cells (bs.map bv++ys.map bv))) (by
    simp only[BL,AF.ev,Bx,hx,AH.cells?,g3]
    rw[if_neg hy0,if_pos ⟨trivial,by omega,by omega,by omega⟩]
    simp[h]) ?_
   have s2:=(BO.erase (L:=L) s).push (o:=bs.map bv++ys.map bv)
   have s3:BO H0 ([(H.next,(bs++ys).map bv)]++L) ((H.erase r).push (.cells (bs.map bv++ys.map bv))):=by
    rw[Fc];exact s2
   refine hK [(H.next,(bs++ys).map bv)] _ _ s3 ?_
   have:=Bg.op H.next (bs:=bs++ys) (c:=(bs++ys).map bv) (Ac (by simp)) (by simp)
   rwa [Aa]at this
theorem Bg.QI {o:List (Nat × List AV)}{bs:List UInt8}{v:AV}(h:Bg o bs v):∃y,FZ o v y/\KM bs y:=by
 cases h with
 | nil=>exact⟨.nils,.low fun _=>.nils,.inl ⟨rfl,rfl⟩⟩
 | @op r _ c h hc=>
  refine⟨.sim (bs.map bv) bs.length false,fun H k hR=>?_,.inr ⟨false,rfl⟩⟩
  obtain⟨h1,h2⟩:=hR _ (.head _)
  exact .sl h1 (l:=c) (by simp[AH.cells?,h2]) (m:=bs.length) (by omega) (by rw[B_,h];exact .low (Ef _ _)) (fun h=>h) (fun h=>by cases h)
end
theorem Rr (parts:List (List UInt8)){i:Nat}{bs:List UInt8}(hbs:parts[i]?=some bs):(parts.take (i+1)).flatten=(parts.take i).flatten++bs/\(parts.take (i+1)).flatten.length<=parts.flatten.length:=by
 refine⟨by rw[DZ,hbs,Gz];simp,?_⟩
 have h:=congrArg List.flatten (Fw (i+1) parts)
 rw[Gz]at h
 rw[<- h,Aa];omega
end
end Go.AL
namespace Go.Proofs.YtlmkmpomgdbjhaaGreatDoor
open Tryz
section
open Go Go.AL Go.AL.Sha
variable [BX]
theorem oO {H:AH}{n:Nat}(hn:n<1099511627776):AP prog 89 [.nils,iv (n:Int)] H fun o H'=>∃o' v,o=.ret v/\BO H o' H'/\Bg o' [] v:=by
 refine T89 ?_
 unfold yf
 refine gi (b:=0) (by omega) (BS ?_)
 refine AA (v:=iv 0) rfl (AA (v:=iv 0) rfl (Km (a:=0) (b:=0) ⟨by omega,by omega⟩ (Km ⟨by omega,by omega⟩ ?_)))
 refine Xz (b:=0) (fun hgt=>tC ?_) (fun hgt=>tD ?_)
 ·have hn0:0<n:=by omega
  refine AA (v:=iv 0) rfl (AA (v:=.nils) rfl ?_)
  refine Ap (v:=.sl H.next 0 n (.op 1)) (H':=H.push (.cells (D7 n [N .u8 0]))) (by
   have e:((n:Int)-(0-0)).toNat=n:=by omega
   show(if (0:Int)<(n:Int)-(0-0)/\((n:Int)-(0-0)).toNat*1<=140737488355328/\(n:Int)-(0-0)<=9223372036854775807 then some (AV.sl H.next 0 ((n:Int)-(0-0)).toNat (.op 1),H.push (.cells (D7 ((n:Int)-(0-0)).toNat [N .u8 0])))else none)=_
   rw[e,if_pos ⟨by omega,by omega,by omega⟩]) ?_
  refine AA (v:=iv 0) rfl (AA (v:=.sl H.next 0 0 (.op 1)) (by
   show(if (1:Nat)=1/\(0:Int)<=0/\(0:Int)<=0/\(0:Int)<=(n:Int)then some (AV.sl H.next (0+(0:Int).toNat*1) ((0:Int)-0).toNat (.op 1))else none)=_
   rw[if_pos ⟨rfl,by omega,by omega,by omega⟩];rfl) ?_)
  exact⟨[(H.next,D7 n [N .u8 0])],_,rfl,(BO.start H).push,Bg.op (bs:=[]) H.next rfl (by simp)⟩
 ·exact⟨[],_,rfl,BO.start H,.nil⟩
theorem fZ {H:AH}{pv:AV}{parts:List (List UInt8)}(hp:FL 1 (SH parts) parts.length pv) (hpn:parts.length<1099511627776) (hl:parts.flatten.length<1099511627776) :
  CP prog 44 [pv] H (KM parts.flatten):=CP.of <| by
 refine T44 ?_
 unfold yt
 refine hp.len ?_
 let I1:AV->AV->AV->AV->AV->AH->Prop:=fun e0 e3 e9 e10 e11 H'=>e0=pv/\e9=pv/\e10=iv (parts.length:Int)/\H'=H/\∃i:Nat,e11=iv (i:Int)/\i<=parts.length/\e3=iv ((parts.take i).flatten.length:Int)
 let μ1:AV->AV->AV->AV->AV->AH->Nat:=fun _ _ _ _ e11 _=>match e11 with
  | .int _ j=>((parts.length:Int)-j).toNat
  | _=>0
 refine⟨I1,μ1,⟨rfl,rfl,rfl,rfl,0,rfl,by omega,rfl⟩,?_⟩
 intro e H2 hIv
 obtain⟨e0,e9,e10,eH,i,e11,hi,e3⟩:=(hIv:I1 (e 0) (e 3) (e 9) (e 10) (e 11) H2)
 have hmu:μ1 (e 0) (e 3) (e 9) (e 10) (e 11) H2=((parts.length:Int)-(i:Int)).toNat:=by rw[e11]
 show AB (.bin .lss (.cst (e 11)) (.cst (e 10))) _
 rw[e0,e3,e9,e10,e11,eH]
 refine Dk (fun hlt=>Cw ?_) (fun hlt=>BS ?_)
 ·have hi':i<parts.length:=by omega
  refine hp.Om hi' fun x _ hx=>?_
  obtain⟨x',bs,hx1,hbs,hF⟩:=hx
  cases hx1
  obtain⟨hfl,hle⟩:=Rr parts hbs
  rw[hfl,Aa]at hle
  refine hF.len (Dg ⟨by omega,by omega⟩ (gi (b:=0) (by omega) (BS (Dg (b:=1) ⟨by omega,by omega⟩ ⟨⟨rfl,rfl,rfl,rfl,i+1,rfl,by omega,?_⟩,?_⟩))))
  ·show iv (((parts.take i).flatten.length:Int)+(bs.length:Int))=_
   rw[hfl,Aa];rfl
  ·show _<μ1 (e 0) (e 3) (e 9) (e 10) (e 11) H2
   rw[hmu]
   show((parts.length:Int)-((i:Int)+1)).toNat<_
   omega
 have hin:i=parts.length:=by omega
 subst hin
 clear hmu
 rw[Ac (A5 _)]
 refine BK (oO hl) (fun v H3 h3=>?_) (fun v H3 h3=>by obtain⟨_,_,h,_⟩:=h3;cases h)
 obtain⟨o,_,hv,s,hB⟩:=h3
 cases hv
 refine hp.len ?_
 let I2:AV->AV->AV->AV->AH->Prop:=fun e6 e25 e26 e27 H'=>e25=pv/\e26=iv (parts.length:Int)/\∃(i:Nat) (o:List (Nat × List AV)),e27=iv (i:Int)/\i<=parts.length/\Bg o (parts.take i).flatten e6/\BO H (o++[]) H'
 let μ2:AV->AV->AV->AV->AH->Nat:=fun _ _ _ e27 _=>match e27 with
  | .int _ j=>((parts.length:Int)-j).toNat
  | _=>0
 refine⟨I2,μ2,⟨rfl,rfl,0,o,rfl,by omega,hB,by rw[DY];exact s⟩,?_⟩
 clear s hB e0 e3 e9 e10 e11 eH hi
 intro f H4 hIw
 obtain⟨f25,f26,i,o,f27,hi,hB,s⟩:=(hIw:I2 (f 6) (f 25) (f 26) (f 27) H4)
 have hmu:μ2 (f 6) (f 25) (f 26) (f 27) H4=((parts.length:Int)-(i:Int)).toNat:=by rw[f27]
 show AB (.bin .lss (.cst (f 27)) (.cst (f 26))) _
 rw[f25,f26,f27]
 refine Dk (fun hlt=>Cw ?_) (fun hlt=>BS ?_)
 ·have hi':i<parts.length:=by omega
  refine hp.Om hi' fun x _ hx=>?_
  obtain⟨x',bs,hx1,hbs,hF⟩:=hx
  cases hx1
  obtain⟨hfl,hle⟩:=Rr parts hbs
  rw[hfl,Aa]at hle
  refine hB.app s (hF.cells _) (by omega) fun o' v' H5 s5 hB5=>?_
  rw[<- hfl]at hB5
  refine Dg (b:=1) ⟨by omega,by omega⟩ ⟨⟨rfl,rfl,i+1,o',rfl,by omega,hB5,s5⟩,?_⟩
  show _<μ2 (f 6) (f 25) (f 26) (f 27) H4
  rw[hmu]
  show((parts.length:Int)-((i:Int)+1)).toNat<_
  omega
 have hin:i=parts.length:=by omega
 subst hin
 rw[Ac (A5 _)]at hB
 obtain⟨y,hy,hF⟩:=hB.QI
 rw[DY]at s
 exact s.fin hy hF
end
section
open Go Go.AL
variable [BX]
def G4 (v0 v1 v2:AV) (h:AH) (a:Am->AH->Prop):Prop:=(
 AQ (.box v0) h fun U h3=>
 AQ (.box v1) h3 fun X h4=>
 AQ (.box v2) h4 fun Y h5=>
 AG prog 6 [] h5 (yp a) fun Z t=>
 AE (.load (some 32) U) t fun v7=>
 AE (.load (some 3) X) t fun v8=>
 AE (.load (some 32) Y) t fun v9=>
 AG prog 10 [v7,v8,v9] t (yp a) fun L B=>
 AQ (.alloc (Bl 32 (N .u8 0) (.nils::(Bl 32 (N .u8 0) [])))) B fun m C=>
 AQ (.store 65 m L) C fun a9 j=>
 AE (.load (some 65) m) j fun M=>
 AE (.load (some 32) Y) j fun O=>
 AG prog 7 [M,O] j (yp a) fun w D=>
 AB (.extract 0 w) fun Q=>
 AB (.extract 1 w) fun x=>
 AQ (.alloc [(I 0),(I 0),.nils]) D fun y E=>
 AQ (.store 3 y Q) E fun b0 u=>
 BF true Z (fun(b1 n:AV) (b:AH)=>
 AB (.pick Z n (.cst (.bool false))) fun z=>
 BF true z (fun(b2 o p c:AV) (k:AH)=>
 AB (.pick z c (.cst (.bool false))) fun A=>
 BF true A (fun(b3 q r s d:AV) (l:AH)=>
 AB (.pick A d (.cst (.bool false))) fun W=>
 a (.ret W) l) (fun g=>
 AE (.load (some 3) X) k fun q=>
 AQ (.buildSlice 3 1 [(I 0),(I 0),.nils] [(0,3,q)]) k fun r v=>
 AE (.load (some 3) y) v fun s=>
 AQ (.buildSlice 3 1 [(I 0),(I 0),.nils] [(0,3,s)]) v fun d G=>
 AG prog 12 [r,d] G (yp a) fun V l=>
 g q r s d V l) (fun g=>g Ad Ad Ad Ad Ad k)) (fun f=>
 AB (.fieldAddr 0 m) fun o=>
 AE (.load (some 32) o) b fun p=>
 AE (.load (some 32) U) b fun c=>
 AB (.eq false (.wide (true,[(.i .u8),(.i .u8),(.i .u8),(.i .u8),(.i .u8),(.i .u8),(.i .u8),(.i .u8),(.i .u8),(.i .u8),(.i .u8),(.i .u8),(.i .u8),(.i .u8),(.i .u8),(.i .u8),(.i .u8),(.i .u8),(.i .u8),(.i .u8),(.i .u8),(.i .u8),(.i .u8),(.i .u8),(.i .u8),(.i .u8),(.i .u8),(.i .u8),(.i .u8),(.i .u8),(.i .u8),(.i .u8)])) p c) fun R=>
 f o p c R b) (fun f=>f Ad Ad Ad Ad b)) (fun e=>
 AB (.bin .eql x (I 0)) fun n=>
 e x n u) (fun e=>e Ad Ad u))
theorem T4 {v0 v1 v2 h Post}(hG:G4 v0 v1 v2 h Post):AP prog 4 [v0,v1,v2] h Post:=tP func4 (by kernel_rfl) (by kernel_rfl) hG
def G7 (v0 v1:AV) (h:AH) (b:Am->AH->Prop):Prop:=(
 AQ (.box v0) h fun v2 h2=>
 AQ (.box v1) h2 fun v3 h3=>
 AQ (.alloc [(I 0),(I 0),.nils]) h3 fun v4 E=>
 AB (.fieldAddr 33 v2) fun v5=>
 AE (.load (some 32) v5) E fun v6=>
 AB (.fieldAddr 0 v2) fun v7=>
 AE (.load (some 32) v7) E fun v8=>
 AB (.fieldAddr 32 v2) fun v9=>
 AE (.load none v9) E fun c9=>
 AE (.load (some 32) v3) E fun d0=>
 AG prog 21 [v8,c9,d0] E (yp b) fun d1 t=>
 (Ba (.load (some 32) v5) v6 t/\True)/\AB (.eq true (.wide (true,[(.i .u8),(.i .u8),(.i .u8),(.i .u8),(.i .u8),(.i .u8),(.i .u8),(.i .u8),(.i .u8),(.i .u8),(.i .u8),(.i .u8),(.i .u8),(.i .u8),(.i .u8),(.i .u8),(.i .u8),(.i .u8),(.i .u8),(.i .u8),(.i .u8),(.i .u8),(.i .u8),(.i .u8),(.i .u8),(.i .u8),(.i .u8),(.i .u8),(.i .u8),(.i .u8),(.i .u8),(.i .u8)])) v6 d1) fun d2=>
 AU d2
 (AB (.build [(I 0),(I 0),.nils] []) fun Q=>
 AQ (.store 3 v4 Q) t fun a6 a2=>
 AE (.load (some 3) v4) a2 fun R=>
 b (.ret (.tup [R,(I 280)])) a2)
 (AB (.fieldAddr 32 v2) fun Q=>
 AE (.load none Q) t fun a6=>
 AB (.build [.nils,(.bool false)] [(0,1,a6)]) fun R=>
 AQ (.box R) t fun o b8=>
 AG prog 22 [o] b8 (yp b) fun d3 b9=>
 AG prog 22 [o] b9 (yp b) fun d4 c0=>
 AB (.build [(I 0),(I 0),.nils] [(0,1,d3),(1,1,d4)]) fun d5=>
 AQ (.alloc [(I 0),(I 0),.nils]) c0 fun a7 c1=>
 AQ (.store 3 a7 d5) c1 fun g8 c2=>
 AG prog 22 [o] c2 (yp b) fun d6 c3=>
 Wv (fun(u U p a:AV) (B:AH)=>
 AB (.nilCheck U) fun d=>
 AB (.fieldAddr 1 d) fun k=>
 AE (.load none k) B fun q=>
 BF false q (fun(g9 l:AV) (D:AH)=>
 AB (.pick q (.cst (.bool true)) l) fun m=>
 BF false m (fun(v e f V r c:AV) (L:AH)=>
 AB (.pick m (.cst (.bool true)) c) fun b0=>
 AU b0
 (AB (.build [(I 0),(I 0),.nils] []) fun g=>
 AQ (.store 3 u g) L fun s n=>
 AE (.load (some 3) u) n fun j=>
 b (.ret (.tup [j,(I 4)])) n)
 (AE (.load (some 3) p) L fun g=>
 AQ (.store 3 u g) L fun s n=>
 AE (.load (some 3) u) n fun j=>
 b (.ret (.tup [j,(I 0)])) n)) (fun y=>
 AB (.nilCheck U) fun e=>
 AB (.fieldAddr 0 e) fun f=>
 AE (.load none f) D fun V=>
 AB (.len V) fun r=>
 AB (.bin .gtr r (I 0)) fun c=>
 y U e f V r c D) (fun y=>y Ad Ad Ad Ad Ad Ad D)) (fun w=>
 AB (.bin .lss a (I 0)) fun l=>
 w a l B) (fun w=>w Ad Ad B)) fun a1=>
 Ah [4,6,7,8,9,10] (fun b7=>(fun(p a a8 d k q:AV) (C:AH)=>
 AB (.bin .lss q k) fun l=>
 BF true l (fun(i0 m v e f:AV) (a3:AH)=>
 AB (.pick l f (.cst (.bool false))) fun r=>
 AU r
 (DT prog a8 [] a3 (yp b) fun c G=>
 AB (.bin .lss c (I 0)) fun a9=>
 BF false a9 (fun(b0 g s j W b1 d7:AV) (M:AH)=>
 AB (.pick a9 (.cst (.bool true)) d7) fun d9=>
 AU d9
 (AB (.nilCheck a) fun X=>
 AB (.fieldAddr 1 X) fun Y=>
 AQ (.store 1 Y (.cst (.bool true))) M fun b2 c4=>
 a1 p a d k c4)
 (AB (.nilCheck a) fun X=>
 AB (.fieldAddr 0 X) fun Y=>
 AE (.load none Y) M fun b2=>
 AB (.sliceS 1 b2 none (some c) none) fun e0=>
 AG prog 23 [e0] M (yp b) fun b3 O=>
 AB (.extract 0 b3) fun e1=>
 AB (.extract 1 b3) fun b4=>
 AB (.nilCheck a) fun e2=>
 AB (.fieldAddr 1 e2) fun e4=>
 AE (.load none e4) O fun b5=>
 BF false b5 (fun(i1 Z:AV) (c5:AH)=>
 AB (.pick b5 (.cst (.bool true)) Z) fun e5=>
 AB (.nilCheck a) fun e6=>
 AB (.fieldAddr 1 e6) fun e7=>
 AQ (.store 1 e7 e5) c5 fun i2 a4=>
 AB (.nilCheck a) fun e8=>
 AB (.fieldAddr 0 e8) fun e9=>
 AE (.load none e9) a4 fun f0=>
 AB (.sliceS 1 f0 (some c) none none) fun f1=>
 AB (.nilCheck a) fun f2=>
 AB (.fieldAddr 0 f2) fun f3=>
 AQ (.store 1 f3 f1) a4 fun i3 a5=>
 AB (.fieldAddr 2 d) fun f4=>
 AE (.load none f4) a5 fun f5=>
 AQ (.buildSlice 1 1 [.nils] [(0,1,e1)]) a5 fun f6 c6=>
 AQ (.append 1 24 f5 f6) c6 fun f7 c7=>
 AB (.fieldAddr 2 d) fun f8=>
 AQ (.store 1 f8 f7) c7 fun i4 c8=>
 AB (.bin .add q (I 1)) fun f9=>
 b7 p a a8 d k f9 c8) (fun A=>
 AB (.bin .neq b4 (I 0)) fun Z=>
 A b4 Z O) (fun A=>A Ad Ad O))) (fun z=>
 AB (.nilCheck a) fun g=>
 AB (.fieldAddr 0 g) fun s=>
 AE (.load none s) G fun j=>
 AB (.len j) fun W=>
 AB (.bin .gtr c W) fun b1=>
 z c a g s j W b1 G) (fun z=>z Ad Ad Ad Ad Ad Ad Ad G))
 (a1 p a d k a3)) (fun x=>
 AB (.nilCheck a) fun m=>
 AB (.fieldAddr 1 m) fun v=>
 AE (.load none v) C fun e=>
 AB (.un .not e) fun f=>
 x a m v e f C) (fun x=>x Ad Ad Ad Ad Ad C))) ((((((Ar.set 4 v4).set 6 o).set 7 (.fn (.func 22) [o] [])).set 8 a7).set 9 d6).set 10 (I 0)) c3))
theorem T7 {v0 v1 h Post}(hG:G7 v0 v1 h Post):AP prog 7 [v0,v1] h Post:=tP func7 (by kernel_rfl) (by kernel_rfl) hG
def zA (Z v1 v2:AV) (h:AH) (a:Am->AH->Prop):Prop:=(
 AQ (.box Z) h fun v3 W=>
 AQ (.box v1) W fun s X=>
 AQ (.box v2) X fun v5 Y=>
 AQ (.alloc (Bl 32 (N .u8 0) (.nils::(Bl 32 (N .u8 0) [])))) Y fun v6 r=>
 AB (.fieldAddr 0 s) fun v7=>
 AE (.load none v7) r fun v8=>
 AB (.fieldAddr 1 s) fun V=>
 AE (.load none V) r fun w=>
 AB (.fieldAddr 2 s) fun i=>
 AE (.load none i) r fun j=>
 AB (.len j) fun G=>
 AG prog 25 [.nils,v8] r (yp a) fun L g=>
 (Ba (.load none i) j g/\(Ba (.load none V) w g/\True))/\AG prog 25 [L,w] g (yp a) fun M t=>
 (Ba (.load none i) j t/\True)/\AG prog 25 [M,G] t (yp a) fun O u=>
 True/\AB (.fieldAddr 2 s) fun Q=>
 AE (.load none Q) u fun x=>
 AB (.len x) fun R=>
 Ah [3,5,6,7,22,23,24] (fun C=>(fun(d y k l z A m:AV) (b:AH)=>
 AB (.bin .lss m A) fun U=>
 AU U
 (AB (.indexAddrS 1 z m) fun e=>
 AE (.load none e) b fun n=>
 AG prog 26 [n] b (yp a) fun f D=>
 AB (.len f) fun o=>
 AG prog 25 [l,o] D (yp a) fun p E=>
 AQ (.append 1 1 p f) E fun B c=>
 AB (.bin .add m (I 1)) fun q=>
 C d y k B z A q c)
 (AE (.load (some 32) d) b fun e=>
 AE (.load (some 32) d) b fun n=>
 AE (.load (some 32) y) b fun f=>
 AG prog 21 [n,l,f] b (yp a) fun o v=>
 (Ba (.load (some 32) d) e v/\True)/\AB (.build (Bl 32 (N .u8 0) (.nils::(Bl 32 (N .u8 0) []))) [(0,32,e),(32,1,l),(33,32,o)]) fun p=>
 AQ (.store 65 k p) v fun B c=>
 True/\AE (.load (some 65) k) c fun q=>
 a (.ret q) c))) (((((((Ar.set 3 v3).set 5 v5).set 6 v6).set 7 O).set 22 x).set 23 R).set 24 (I 0)) u)
theorem T10 {v0 v1 v2 h Post}(hG:zA v0 v1 v2 h Post):AP prog 10 [v0,v1,v2] h Post:=tP func10 (by kernel_rfl) (by kernel_rfl) hG
def y_ (R U:AV) (h:AH) (b:Am->AH->Prop):Prop:=(
 AB (.len R) fun v2=>
 AB (.len U) fun v3=>
 AB (.bin .neq v2 v3) fun v4=>
 AU v4
 (b (.ret (.bool false)) h)
 (Ah [0,1,5] (fun J5=>(fun(f k a:AV) (e:AH)=>
 AB (.len f) fun V=>
 AB (.bin .lss a V) fun W=>
 AU W
 (AB (.indexAddrS 3 f a) fun X=>
 AB (.fieldAddr 0 X) fun Y=>
 AE (.load none Y) e fun Z=>
 AB (.indexAddrS 3 k a) fun a0=>
 AB (.fieldAddr 0 a0) fun a1=>
 AE (.load none a1) e fun a2=>
 AB (.bin .neq Z a2) fun G=>
 BF false G (fun(c7 n o p q r s L c8 c9 a3:AV) (g:AH)=>
 AB (.pick G (.cst (.bool true)) a3) fun M=>
 BF false M (fun(d0 t u v w x y z A O d1 d2 a4:AV) (D:AH)=>
 AB (.pick M (.cst (.bool true)) a4) fun a5=>
 AU a5
 (b (.ret (.bool false)) D)
 (Ah [0,1,5,6] (fun Q=>(fun(i B d j:AV) (c:AH)=>
 AB (.indexAddrS 3 i d) fun a6=>
 AB (.fieldAddr 2 a6) fun a7=>
 AE (.load none a7) c fun a8=>
 AB (.len a8) fun a9=>
 AB (.bin .lss j a9) fun b0=>
 AU b0
 (AB (.indexAddrS 3 i d) fun C=>
 AB (.fieldAddr 2 C) fun b1=>
 AE (.load none b1) c fun b2=>
 AB (.indexAddrS 1 b2 j) fun b3=>
 AE (.load none b3) c fun b4=>
 AB (.indexAddrS 3 B d) fun b5=>
 AB (.fieldAddr 2 b5) fun b6=>
 AE (.load none b6) c fun b7=>
 AB (.indexAddrS 1 b7 j) fun b8=>
 AE (.load none b8) c fun b9=>
 AG prog 28 [b4,b9] c (yp b) fun c0 E=>
 AB (.un .not c0) fun c1=>
 AU c1
 (b (.ret (.bool false)) E)
 (AB (.bin .add j (I 1)) fun c2=>
 Q i B d c2 E))
 (AB (.bin .add d (I 1)) fun C=>
 J5 i B C c))) ((((Ar.set 0 f).set 1 k).set 5 a).set 6 (I 0)) D)) (fun m=>
 AB (.indexAddrS 3 f a) fun t=>
 AB (.fieldAddr 2 t) fun u=>
 AE (.load none u) g fun v=>
 AB (.len v) fun w=>
 AB (.indexAddrS 3 k a) fun x=>
 AB (.fieldAddr 2 x) fun y=>
 AE (.load none y) g fun z=>
 AB (.len z) fun A=>
 AB (.bin .neq w A) fun O=>
 m f a t u v w k a x y z A O g) (fun m=>m Ad Ad Ad Ad Ad Ad Ad Ad Ad Ad Ad Ad Ad g)) (fun l=>
 AB (.indexAddrS 3 f a) fun n=>
 AB (.fieldAddr 1 n) fun o=>
 AE (.load none o) e fun p=>
 AB (.indexAddrS 3 k a) fun q=>
 AB (.fieldAddr 1 q) fun r=>
 AE (.load none r) e fun s=>
 AB (.bin .neq p s) fun L=>
 l f a n o p k a q r s L e) (fun l=>l Ad Ad Ad Ad Ad Ad Ad Ad Ad Ad Ad e))
 (b (.ret (.bool true)) e))) (((Ar.set 0 R).set 1 U).set 5 (I 0)) h))
theorem T12 {v0 v1 h Post}(hG:y_ v0 v1 h Post):AP prog 12 [v0,v1] h Post:=tP func12 (by kernel_rfl) (by kernel_rfl) hG
def yz (o p q:AV) (h:AH) (a:Am->AH->Prop):Prop:=(
 AQ (.box o) h fun r l=>
 AQ (.box q) l fun i m=>
 AQ (.alloc (Bl 32 (N .u8 0) [])) m fun j d=>
 AE (.load (some 32) i) d fun k=>
 AB (.sliceA 32 1 r none none none) fun s=>
 Ny (.buildSlice 1 2 [.nils,.nils] [(0,1,s),(1,1,p)]) d fun t n=>
 AG prog 44 [t] n (yp a) fun u e=>
 (Ba (.load (some 32) i) k e/\True)/\AG prog 43 [k,u] e (yp a) fun f c=>
 True/\AQ (.store 32 j f) c fun v b=>
 True/\AE (.load (some 32) j) b fun g=>
 a (.ret g) b)
theorem T21 {v0 v1 v2 h Post}(hG:yz v0 v1 v2 h Post):AP prog 21 [v0,v1,v2] h Post:=tP func21 (by kernel_rfl) (by kernel_rfl) hG
def yy (c:AV) (h:AH) (a:Am->AH->Prop):Prop:=(
 AB (.nilCheck c) fun C=>
 AB (.fieldAddr 0 C) fun D=>
 AE (.load none D) h fun E=>
 AB (.len E) fun G=>
 AB (.bin .lss G (I 8)) fun L=>
 AU L
 (AB (.nilCheck c) fun b=>
 AB (.fieldAddr 1 b) fun x=>
 AQ (.store 1 x (.cst (.bool true))) h fun y B=>
 a (.ret (I 0)) B)
 (AQ (.alloc [(N .u64 0)]) h fun b A=>
 AQ (.store 1 b (N .u64 0)) A fun x r=>
 AB (.nilCheck c) fun y=>
 AB (.fieldAddr 0 y) fun M=>
 AE (.load none M) r fun s=>
 AB (.sliceS 1 s none (some (I 8)) none) fun t=>
 AG prog 45 [t] r (yp a) fun u p=>
 Tk prog u p (fun(z:List AV) (j:AH) (o:AH->Prop)=>RB z fun l x13'=>RB x13' fun d x13''=>Ww x13'' (AE (.load none b) j fun e=>
 AB (.bin .shl e (N .u64 8)) fun f=>
 AB (.convI .u64 d) fun g=>
 AB (.bin .or f g) fun m=>
 AQ (.store 1 b m) j fun n q=>
 o q)) fun i=>
 AB (.nilCheck c) fun l=>
 AB (.fieldAddr 0 l) fun d=>
 AE (.load none d) i fun v=>
 AB (.sliceS 1 v (some (I 8)) none none) fun e=>
 AB (.nilCheck c) fun f=>
 AB (.fieldAddr 0 f) fun g=>
 AQ (.store 1 g e) i fun m k=>
 AE (.load none b) k fun n=>
 AB (.convI .i64 n) fun w=>
 a (.ret w) k))
theorem T22 {v0 h Post}(hG:yy v0 h Post):AP prog 22 [v0] h Post:=tP func22 (by kernel_rfl) (by kernel_rfl) hG
def yx (n o:AV) (h:AH) (a:Am->AH->Prop):Prop:=(
 Ah [0,1,5] (fun m=>(fun(k l b:AV) (e:AH)=>
 AB (.bin .lss b (I 64)) fun p=>
 AU p
 (AB (.convI .u64 l) fun q=>
 AB (.bin .shr q b) fun r=>
 AB (.convI .u8 r) fun f=>
 AQ (.buildSlice 1 1 [(N .u8 0)] [(0,1,f)]) e fun g c=>
 AQ (.append 1 1 k g) c fun i d=>
 AB (.bin .add b (I 8)) fun j=>
 m i l j d)
 (a (.ret k) e))) (((Ar.set 0 n).set 1 o).set 5 (I 0)) h)
theorem T25 {v0 v1 h Post}(hG:yx v0 v1 h Post):AP prog 25 [v0,v1] h Post:=tP func25 (by kernel_rfl) (by kernel_rfl) hG
end
end Go.Proofs.YtlmkmpomgdbjhaaGreatDoor
namespace Go.AL
section
variable [BX]
def rM:AV->Option Nat
 | .sl _ _ n _=>some n
 | .sim _ n _=>some n
 | .nils=>some 0
 | _=>none
theorem OX {v:AV}{n:Nat}(h:rM v=some n){K:AV->Prop}(hK:K (iv (n:Int))):AB (.len (.cst v)) K:=by
 cases v<;>cases h<;>exact AA rfl hK
def PO (v:AV) (f:Nat->Option (List AV)):Option (List Nat × List AV):=
 match v with
 | .sl r o n _=>match f r with
  | some l=>bif Nat.ble (o+n) l.length then some ([r],(l.drop o).take n)else none
  | none=>none
 | .sim l n _=>bif Nat.ble n l.length then some ([],l.take n)else none
 | .nils=>some ([],[])
 | _=>none
theorem Z7 {v:AV}{f:Nat->Option (List AV)}{ks:List Nat}{l:List AV}(hv:PO v f=some (ks,l)):rM v=some l.length:=by
 unfold PO at hv
 split at hv
 next r o n lim=>
  split at hv
  next l' e=>
   cases hb:Nat.ble (o+n) l'.length with
   | false=>rw[hb]at hv;cases hv
   | true=>
    rw[hb]at hv
    cases hv
    have:=Ab hb
    rw[BI,CK,CV (by omega)];rfl
  next=>cases hv
 next l' n b=>
  cases hb:Nat.ble n l'.length with
  | false=>rw[hb]at hv;cases hv
  | true=>
   rw[hb]at hv
   cases hv
   rw[BI,CV (Ab hb)];rfl
 next=>cases hv;rfl
 next=>cases hv
theorem XF {v:AV}{f:Nat->Option (List AV)}{ks:List Nat}{l:List AV}(hv:PO v f=some (ks,l)) {H':AH}(hk:∀r∈ks,H'.cells? r=f r){i:Nat}(hi:i<l.length){K:AV->Prop}(hK:K (l.getD i .unk)) :
  AB (.indexAddrS 1 (.cst v) (.cst (iv (i:Int)))) fun p=>AE (.load none (.cst p)) H' K:=by
 unfold PO at hv
 split at hv
 next r o n lim=>
  split at hv
  next l' e=>
   cases hb:Nat.ble (o+n) l'.length with
   | false=>rw[hb]at hv;cases hv
   | true=>
    rw[hb]at hv
    cases hv
    have hle:=Ab hb
    rw[BI,CK,CV (by omega)]at hi
    refine AA (v:=.ptr r (o+i)) ?_ (AX (v:=((l'.drop o).take n).getD i .unk) ?_ hK)
    ·show(if (0:Int)<=(i:Int)/\(i:Int)<(n:Int)then some (AV.ptr r (o+(i:Int).toNat*1))else none)=_
     rw[if_pos ⟨by omega,by omega⟩,Cp,Fx]
    ·have h1:=hk r (.head _)
     rw[e]at h1
     have h2:AZ (.load none (.cst (.ptr r (o+i)))) emp H'=l'[o+i]?:=by simp only[AZ,BC,AF.ev,h1,apart]
     rw[h2]
     rw[A6,Gx hi,DX,Ak (by omega)];rfl
  next=>cases hv
 next l' n b=>
  cases hb:Nat.ble n l'.length with
  | false=>rw[hb]at hv;cases hv
  | true=>
   rw[hb]at hv
   cases hv
   have hle:=Ab hb
   rw[BI,CV hle]at hi
   refine AA (v:=.pim l' i) ?_ (AX (v:=(l'.take n).getD i .unk) ?_ hK)
   ·show(if (0:Int)<=(i:Int)/\(i:Int)<(n:Int)then some (AV.pim l' ((i:Int).toNat*1))else none)=_
    rw[if_pos ⟨by omega,by omega⟩,Cp,Fx]
   ·show l'[i]?=_
    rw[A6,Gx hi,Ak (by omega)];rfl
 next=>cases hv;simp at hi
 next=>cases hv
theorem J0 {H:AH}{r:Nat}{v:AV}(h:H.cells? r=some [v]){K:AV->Prop}(hK:K v):AE (.load none (.cst (.ptr r 0))) H K:=
 AX (by simp[AZ,BC,AF.ev,h,apart]) hK
theorem Xn {n m a b:Nat}(ha:a<n) (hb:b<m):a*m+b<n*m/\(a*m+b) / m=a/\(a*m+b) % m=b:=by
 have hm:0<m:=by omega
 refine⟨?_,?_,?_⟩
 ·have:(a+1)*m<=n*m:=DW m ha
  rw[EG,Gw]at this;omega
 ·rw[Gy,Nat.mul_add_div hm,Nat.div_eq_of_lt hb,Gg]
 ·rw[Gy,Nat.mul_add_mod,C6 hb]
end
end Go.AL
namespace Go.Proofs.YtlmkmpomgdbjhaaGreatDoor
open Tryz
noncomputable section
open Go Go.AL
variable [BX]
def jM (caps:List AV) (h:KH):Option (List Nat × List (List AV)):=
 match caps with
 | [.ptr ra 0,.ptr rb 0]=>match Bz h ra,Bz h rb with
  | some [.int .i64 (.ofNat n)],some [.int .i64 (.ofNat m)]=>bif Nat.ble n 1048576&&Nat.ble m 1048576 then some ([ra,rb],(List.range (n*m)).map fun i=>[iv ((i / m:Nat):Int),iv ((i % m:Nat):Int)])else none
  | _,_=>none
 | _=>none
theorem fD {caps:List AV}{h:KH}{ks:List Nat}{xs:List (List AV)}(hi:jM caps h=some (ks,xs)):VU prog 84 caps (Ai h) ks xs:=by
 unfold jM at hi
 split at hi<;>(try (cases hi;done))
 rename_i ra rb
 split at hi<;>(try (cases hi;done))
 rename_i n m e1 e2
 cases hb:(Nat.ble n 1048576&&Nat.ble m 1048576)with
 | false=>rw[hb]at hi;cases hi
 | true=>
 rw[hb]at hi
 simp only[cond_true,AD,A1]at hi
 obtain⟨rfl,rfl⟩:=hi
 rw[AS]at hb
 have hn:=Ab hb.1
 have hm:=Ab hb.2
 clear hb
 rw[Bq]at e1 e2
 unfold VU
 rw[BR,SW]
 refine I84 fun l I hCl hI=>?_
 unfold vz
 refine J0 e1 ?_
 let I1:AV->AV->AV->AV->AH->Prop:=fun e0 e2 e6 e7 H'=>e0=.fn (.yield l) [] []/\e2=.ptr rb 0/\e6=iv (n:Int)/\∃a:Nat,e7=iv (a:Int)/\a<=n/\I (a*m) H'
 let μ1:AV->AV->AV->AV->AH->Nat:=fun _ _ _ e7 _=>match e7 with
  | .int _ j=>((n:Int)-j).toNat
  | _=>0
 refine⟨I1,μ1,⟨rfl,rfl,rfl,0,rfl,by omega,by rw[HR];exact hI⟩,?_⟩
 intro e H2 hIv
 obtain⟨e0,e2',e6,a,e7,ha,hIa⟩:=(hIv:I1 (e 0) (e 2) (e 6) (e 7) H2)
 have hmu:μ1 (e 0) (e 2) (e 6) (e 7) H2=((n:Int)-(a:Int)).toNat:=by rw[e7]
 show AB (.bin .lss (.cst (e 7)) (.cst (e 6))) _
 rw[e0,e2',e6,e7]
 refine Dk (fun hlt=>Cw ?_) (fun hlt=>BS ?_)
 ·have ha':a<n:=by omega
  refine J0 ((hCl _ _ hIa rb (.tail _ (.head _))).trans e2) ?_
  let I2:AV->AV->AV->AV->AV->AV->AV->AH->Prop:=fun f0 f2 f4 f6 f7 f10 f11 H'=>f0=.fn (.yield l) [] []/\f2=.ptr rb 0/\f4=iv (a:Int)/\f6=iv (n:Int)/\f7=iv (a:Int)/\f10=iv (m:Int)/\∃b:Nat,f11=iv (b:Int)/\b<=m/\I (a*m+b) H'
  let μ2:AV->AV->AV->AV->AV->AV->AV->AH->Nat:=fun _ _ _ _ _ _ f11 _=>match f11 with
   | .int _ j=>((m:Int)-j).toNat
   | _=>0
  refine⟨I2,μ2,⟨rfl,rfl,rfl,rfl,rfl,rfl,0,rfl,by omega,hIa⟩,?_⟩
  intro f H3 hIw
  obtain⟨f0,f2,f4,f6,f7,f10,b,f11,hb,hIb⟩:=(hIw:I2 (f 0) (f 2) (f 4) (f 6) (f 7) (f 10) (f 11) H3)
  have hmu2:μ2 (f 0) (f 2) (f 4) (f 6) (f 7) (f 10) (f 11) H3=((m:Int)-(b:Int)).toNat:=by rw[f11]
  show AB (.bin .lss (.cst (f 11)) (.cst (f 10))) _
  rw[f0,f2,f4,f6,f7,f10,f11]
  refine Dk (fun hlt2=>Cw ?_) (fun hlt2=>BS ?_)
  ·have hb':b<m:=by omega
   obtain⟨g1,g2,g3⟩:=Xn ha' hb'
   refine(show _/\_ from⟨rfl,a*m+b,g1,?_,hIb,fun H7 hle hI7 _=>?_⟩)
   ·show((List.range (n*m)).map fun i=>[iv ((i / m:Nat):Int),iv ((i % m:Nat):Int)])[a*m+b]?=_
    rw[Bf,EV g1]
    show some [iv (((a*m+b) / m:Nat):Int),iv (((a*m+b) % m:Nat):Int)]=_
    rw[g2,g3]
   ·refine RM (BS (Dg (b:=1) ⟨by omega,by omega⟩ ⟨⟨rfl,rfl,rfl,rfl,rfl,rfl,b+1,rfl,by omega,hI7⟩,?_⟩))
    show _<μ2 (f 0) (f 2) (f 4) (f 6) (f 7) (f 10) (f 11) H3
    rw[hmu2]
    show((m:Int)-((b:Int)+1)).toNat<_
    omega
  ·have hbm:b=m:=by omega
   subst hbm
   refine Dg (b:=1) ⟨by omega,by omega⟩ ⟨⟨rfl,rfl,rfl,a+1,rfl,by omega,by rw[EG,Gw];exact hIb⟩,?_⟩
   show _<μ1 (e 0) (e 2) (e 6) (e 7) H2
   rw[hmu]
   show((n:Int)-((a:Int)+1)).toNat<_
   omega
 have han:a=n:=by omega
 subst han
 exact⟨⟨_,rfl⟩,hIa⟩
def jN (caps:List AV) (h:KH):Option (List Nat × List (List AV)):=
 match caps with
 | [.ptr ra 0,.ptr rb 0,.ptr rc 0]=>match Bz h ra,Bz h rb,Bz h rc with
  | some [va],some [vb],some [vc]=>match rM va,rM vb,PO vc (Bz h)with
   | some n,some m,some (ks,l)=>bif Nat.ble n 1048576&&(Nat.ble m 1048576&&Nat.ble (n*m) l.length)then some (ra::rb::rc::ks,(List.range (n*m)).map fun i=>[.agg [iv ((i / m:Nat):Int),iv ((i % m:Nat):Int)],l.getD i .unk])else none
   | _,_,_=>none
  | _,_,_=>none
 | _=>none
theorem fE {caps:List AV}{h:KH}{ks:List Nat}{xs:List (List AV)}(hi:jN caps h=some (ks,xs)):VU prog 70 caps (Ai h) ks xs:=by
 unfold jN at hi
 split at hi<;>(try (cases hi;done))
 rename_i ra rb rc
 split at hi<;>(try (cases hi;done))
 rename_i va vb vc e1 e2 e3
 split at hi<;>(try (cases hi;done))
 rename_i n m ks0 ll e4 e5 e6
 cases hb:(Nat.ble n 1048576&&(Nat.ble m 1048576&&Nat.ble (n*m) ll.length))with
 | false=>rw[hb]at hi;cases hi
 | true=>
 rw[hb]at hi
 simp only[cond_true,AD,A1]at hi
 obtain⟨rfl,rfl⟩:=hi
 rw[AS,AS]at hb
 have hn:=Ab hb.1
 have hm:=Ab hb.2.1
 have hl:=Ab hb.2.2
 clear hb
 rw[Bq]at e1 e2 e3
 unfold VU
 rw[BR,SW]
 refine I70 fun l I hCl hI=>?_
 unfold v_
 refine J0 e1 (OX e4 ?_)
 let I1:AV->AV->AV->AV->AV->AH->Prop:=fun e0 e2 e3 e8 e9 H'=>e0=.fn (.yield l) [] []/\e2=.ptr rb 0/\e3=.ptr rc 0/\e8=iv (n:Int)/\∃a:Nat,e9=iv (a:Int)/\a<=n/\I (a*m) H'
 let μ1:AV->AV->AV->AV->AV->AH->Nat:=fun _ _ _ _ e9 _=>match e9 with
  | .int _ j=>((n:Int)-j).toNat
  | _=>0
 refine⟨I1,μ1,⟨rfl,rfl,rfl,rfl,0,rfl,by omega,by rw[HR];exact hI⟩,?_⟩
 intro e H2 hIv
 obtain⟨g0,g2,g3,g8,a,g9,ha,hIa⟩:=(hIv:I1 (e 0) (e 2) (e 3) (e 8) (e 9) H2)
 have hmu:μ1 (e 0) (e 2) (e 3) (e 8) (e 9) H2=((n:Int)-(a:Int)).toNat:=by rw[g9]
 show AB (.bin .lss (.cst (e 9)) (.cst (e 8))) _
 rw[g0,g2,g3,g8,g9]
 refine Dk (fun hlt=>Cw ?_) (fun hlt=>BS ?_)
 ·have ha':a<n:=by omega
  have hk2:∀{i:Nat} {H':AH},I i H'->H'.cells? rb=some [vb]:=fun h=>(hCl _ _ h rb (.tail _ (.head _))).trans e2
  have hk3:∀{i:Nat} {H':AH},I i H'->H'.cells? rc=some [vc]:=fun h=>(hCl _ _ h rc (.tail _ (.tail _ (.head _)))).trans e3
  refine J0 (hk2 hIa) (OX e5 ?_)
  let I2:AV->AV->AV->AV->AV->AV->AV->AV->AH->Prop:=fun f0 f2 f3 f5 f8 f9 f13 f14 H'=>f0=.fn (.yield l) [] []/\f2=.ptr rb 0/\f3=.ptr rc 0/\f5=iv (a:Int)/\f8=iv (n:Int)/\f9=iv (a:Int)/\f13=iv (m:Int)/\∃b:Nat,f14=iv (b:Int)/\b<=m/\I (a*m+b) H'
  let μ2:AV->AV->AV->AV->AV->AV->AV->AV->AH->Nat:=fun _ _ _ _ _ _ _ f14 _=>match f14 with
   | .int _ j=>((m:Int)-j).toNat
   | _=>0
  refine⟨I2,μ2,⟨rfl,rfl,rfl,rfl,rfl,rfl,rfl,0,rfl,by omega,hIa⟩,?_⟩
  intro f H3 hIw
  obtain⟨f0,f2,f3,f5,f8,f9,f13,b,f14,hb,hIb⟩:=(hIw:I2 (f 0) (f 2) (f 3) (f 5) (f 8) (f 9) (f 13) (f 14) H3)
  have hmu2:μ2 (f 0) (f 2) (f 3) (f 5) (f 8) (f 9) (f 13) (f 14) H3=((m:Int)-(b:Int)).toNat:=by rw[f14]
  show AB (.bin .lss (.cst (f 14)) (.cst (f 13))) _
  rw[f0,f2,f3,f5,f8,f9,f13,f14]
  refine Dk (fun hlt2=>Cw ?_) (fun hlt2=>BS ?_)
  ·have hb':b<m:=by omega
   obtain⟨q1,q2,q3⟩:=Xn ha' hb'
   refine AA (v:=.agg [iv (a:Int),iv (b:Int)]) rfl ?_
   refine J0 (hk3 hIb) (J0 (hk2 hIb) (OX e5 ?_))
   have hle:a*m<=n*m:=DW m ha
   have hle2:n*m<=1048576*1048576:=Ou hn hm
   refine PT ⟨?_,?_⟩ (Dg ⟨?_,?_⟩ ?_)
   ·rw[<- Hw];omega
   ·rw[<- Hw];omega
   ·rw[<- Hw];omega
   ·rw[<- Hw];omega
   rw[<- Hw,<- Int.natCast_add]
   refine XF e6 (fun r hr=>(hCl _ _ hIb r (.tail _ (.tail _ (.tail _ hr)))).trans (Bq h r).symm) (by omega) ?_
   refine(show _/\_ from⟨rfl,a*m+b,q1,?_,hIb,fun H7 hle hI7 _=>?_⟩)
   ·show((List.range (n*m)).map fun i=>[AV.agg [iv ((i / m:Nat):Int),iv ((i % m:Nat):Int)],ll.getD i .unk])[a*m+b]?=_
    rw[Bf,EV q1]
    show some [AV.agg [iv (((a*m+b) / m:Nat):Int),iv (((a*m+b) % m:Nat):Int)],ll.getD (a*m+b) .unk]=_
    rw[q2,q3]
   ·refine RM (BS (Dg (b:=1) ⟨by omega,by omega⟩ ⟨⟨rfl,rfl,rfl,rfl,rfl,rfl,rfl,b+1,rfl,by omega,hI7⟩,?_⟩))
    show _<μ2 (f 0) (f 2) (f 3) (f 5) (f 8) (f 9) (f 13) (f 14) H3
    rw[hmu2]
    show((m:Int)-((b:Int)+1)).toNat<_
    omega
  ·have hbm:b=m:=by omega
   subst hbm
   refine Dg (b:=1) ⟨by omega,by omega⟩ ⟨⟨rfl,rfl,rfl,rfl,a+1,rfl,by omega,by rw[EG,Gw];exact hIb⟩,?_⟩
   show _<μ1 (e 0) (e 2) (e 3) (e 8) (e 9) H2
   rw[hmu]
   show((n:Int)-((a:Int)+1)).toNat<_
   omega
 have han:a=n:=by omega
 subst han
 exact⟨⟨_,rfl⟩,hIa⟩
def VF (l:List AV):List (List AV):=(List.range l.length).map fun i=>[iv ((l.length-1-i:Nat):Int),l.getD (l.length-1-i) .unk]
theorem cq {H:AH}{ra:Nat}{va:AV}{ks:List Nat}{ll:List AV}(e1:H.cells? ra=some [va]) (e6:PO va H.cells?=some (ks,ll)) (hn:ll.length<=1048576):VU prog 90 [.ptr ra 0] H (ra::ks) (VF ll):=by
 unfold VU VF
 rw[BR,SW]
 refine I90 fun l I hCl hI=>?_
 unfold vw
 refine J0 e1 (OX (Z7 e6) (Km (b:=1) ⟨by omega,by omega⟩ ?_))
 let I1:AV->AV->AV->AH->Prop:=fun e0 e1 e3 H'=>e0=.fn (.yield l) [] []/\e1=.ptr ra 0/\∃a:Nat,e3=iv ((ll.length:Int)-1-(a:Int))/\a<=ll.length/\I a H'
 let μ1:AV->AV->AV->AH->Nat:=fun _ _ e3 _=>match e3 with
  | .int _ j=>(j+1).toNat
  | _=>0
 refine⟨I1,μ1,⟨rfl,rfl,0,by rw[Int.natCast_zero,Int.sub_zero];rfl,by omega,hI⟩,?_⟩
 intro e H2 hIv
 obtain⟨g0,g1,a,g3,ha,hIa⟩:=(hIv:I1 (e 0) (e 1) (e 3) H2)
 have hmu:μ1 (e 0) (e 1) (e 3) H2=((ll.length:Int)-1-(a:Int)+1).toNat:=by rw[g3]
 show AB (.bin .geq (.cst (e 3)) (.cst (Go.AL.I 0))) _
 rw[g0,g1,g3]
 refine gp (b:=0) (fun hge=>Cw ?_) (fun hge=>BS ?_)
 ·have ha':a<ll.length:=by omega
  refine J0 ((hCl _ _ hIa ra (.head _)).trans e1) ?_
  have hx:((ll.length:Int)-1-(a:Int))=((ll.length-1-a:Nat):Int):=by omega
  rw[hx]
  refine XF e6 (fun r hr=>hCl _ _ hIa r (.tail _ hr)) (by omega) ?_
  refine(show _/\_ from⟨rfl,a,ha',?_,hIa,fun H7 hle hI7 _=>?_⟩)
  ·show((List.range ll.length).map fun i=>[iv ((ll.length-1-i:Nat):Int),ll.getD (ll.length-1-i) .unk])[a]?=_
   rw[Bf,EV ha'];rfl
  ·refine RM (BS (Km (b:=1) ⟨by omega,by omega⟩ ⟨⟨rfl,rfl,a+1,?_,by omega,hI7⟩,?_⟩))
   ·show iv (((ll.length-1-a:Nat):Int)-1)=iv ((ll.length:Int)-1-((a+1:Nat):Int))
    rw[show((ll.length-1-a:Nat):Int)-1=(ll.length:Int)-1-((a+1:Nat):Int)by omega]
   ·show _<μ1 (e 0) (e 1) (e 3) H2
    rw[hmu]
    show(((ll.length-1-a:Nat):Int)-1+1).toNat<_
    omega
 have han:a=ll.length:=by omega
 subst han
 exact⟨⟨_,rfl⟩,hIa⟩
def jL (caps:List AV) (h:KH):Option (List Nat × List (List AV)):=
 match caps with
 | [.ptr ra 0]=>match Bz h ra with
  | some [va]=>match PO va (Bz h)with
   | some (ks,l)=>bif Nat.ble l.length 1048576 then some (ra::ks,VF l)else none
   | _=>none
  | _=>none
 | _=>none
theorem fC {caps:List AV}{h:KH}{ks:List Nat}{xs:List (List AV)}(hi:jL caps h=some (ks,xs)):VU prog 90 caps (Ai h) ks xs:=by
 unfold jL at hi
 split at hi<;>(try (cases hi;done))
 rename_i ra
 split at hi<;>(try (cases hi;done))
 rename_i va e1
 split at hi<;>(try (cases hi;done))
 rename_i ks0 ll e6
 cases hb:Nat.ble ll.length 1048576 with
 | false=>rw[hb]at hi;cases hi
 | true=>
 rw[hb]at hi
 simp only[cond_true,AD,A1]at hi
 obtain⟨rfl,rfl⟩:=hi
 rw[Bq]at e1
 rw[show Bz h=(Ai h).cells? from funext (Bq h)]at e6
 exact cq e1 e6 (Ab hb)
def Un:ZJ:=fun g caps h=>bif Nat.beq g 70 then jN caps h else bif Nat.beq g 84 then jM caps h else bif Nat.beq g 90 then jL caps h else none
theorem QB:SJ prog Un:=by
 intro g caps h ks xs hi
 unfold Un at hi
 cases h1:Nat.beq g 70 with
 | true=>rw[h1]at hi;rw[Cn h1];exact fE hi
 | false=>
  rw[h1]at hi
  cases h2:Nat.beq g 84 with
  | true=>rw[h2]at hi;rw[Cn h2];exact fD hi
  | false=>
   rw[h2]at hi
   cases h3:Nat.beq g 90 with
   | true=>rw[h3]at hi;rw[Cn h3];exact fC hi
   | false=>rw[h3]at hi;cases hi
end
end Go.Proofs.YtlmkmpomgdbjhaaGreatDoor
namespace Go.AL
section
open Sha
variable [BX]
theorem CP.eZ {P:Program}{g:FuncId}{al al':List AV}{H:AH}{R:AV}(h:∀H',H'.gl=BX.G->CP P g al' H' fun x=>x=R) (hR:Wl R) (hs:HK 0 al') (ha:CG H (fun _=>True) al al') (hg:H.gl=BX.G):CP P g al H fun x=>x=R:=by
 have hC:=h ⟨fun _=>none,0,BX.G⟩ rfl
 refine AP.mono (AP.Oi (AP.mono hC fun o H' hq=>?_) hs ha (fun r=>rfl) hg) fun o H' hq=>⟨hq.2,_,hq.1,rfl⟩
 obtain⟨rfl,x,rfl,rfl⟩:=hq
 exact⟨_,rfl,.pln hR⟩
theorem aM:∀l:List UInt8,TY (l.map bv)
 | []=>.nil
 | _::l=>.cons (.int _ _) (aM l)
theorem KM.sc {bs:List UInt8}{v:AV}(h:KM bs v) (k:Nat):Sc k v:=by
 rcases h with⟨_,rfl⟩ | ⟨b,rfl⟩
 ·exact .nils
 ·exact .sim (Ef _ k)
theorem KM.one {bs:List UInt8}{v:AV}(h:KM bs v):v.cellsOf=some [v]:=by
 rcases h with⟨_,rfl⟩ | ⟨b,rfl⟩<;>rfl
def CD (n:Int):List UInt8:=nG (n % 18446744073709551616).toNat
theorem az (n:Int) (k:Nat) (hk:k<8):(CD n).take k++[UInt8.ofNat ((n % 18446744073709551616).toNat >>> (8*k))]=(CD n).take (k+1):=by
 unfold CD
 match k,hk with
 | 0,_ | 1,_ | 2,_ | 3,_ | 4,_ | 5,_ | 6,_ | 7,_=>rfl
 | n+8,h=>omega
theorem Cg (n:Int):(CD n).length=8:=rfl
theorem lq {n:Int}{K:AV->Prop}(hK:K (uv (n % 18446744073709551616).toNat)):AB (.convI .u64 (.cst (iv n))) K:=AA (by
 show some (AV.int .u64 (IntKind.u64.wrap n))=_
 rw[Ff]
 congr 2
 omega) hK
end
end Go.AL
namespace Go.Proofs.YtlmkmpomgdbjhaaGreatDoor
open Tryz
section
open Go Go.AL Go.AL.Sha
variable [BX]
theorem gF [Bp] {H:AH}{key bs sec:List UInt8}{v:AV}(hg:H.gl=BX.G) (hk:key.length=32) (hs:sec.length=32) (hv:KM bs v) (hl:bs.length<68719400000) :
  CP prog 21 [.agg (key.map bv),v,.agg (sec.map bv)] H fun x=>x=.agg ((keyed sec (key++bs)).map bv):=CP.of <| by
 refine T21 ?_
 unfold yz
 refine(BO.start H).box (c:=key.map bv) rfl fun qk H1 s=>s.box (c:=sec.map bv) rfl fun qs H2 s=>s.alloc fun q3 H3 s=>?_
 refine s.Hc (.tail _ (.head _)) (by rw[BR,hs]) ?_
 refine AA (v:=.sl qk 0 32 (.ex 32)) rfl ?_
 refine gM (s.bs (out:=[.sl qk 0 32 (.ex 32),v]) (by rcases hv with⟨_,rfl⟩ | ⟨b,rfl⟩<;>rfl) fun q4 H4 s=>?_)
 have hp:FL 1 (SH [key,bs]) [key,bs].length (.sim [.sim (key.map bv) 32 false,v] 2 true):=FL.lO rfl (fun _=>rfl) fun i y hy=>by
  match i,hy with
  | 0,hy=>cases hy;exact⟨fun k=>.sim (Ef _ k),_,key,rfl,rfl,.inr ⟨false,by rw[hk]⟩⟩
  | 1,hy=>cases hy;exact⟨fun k=>hv.sc k,_,bs,rfl,rfl,hv⟩
  | n+2,hy=>simp at hy
 have hfl:[key,bs].flatten=key++bs:=by simp
 have s':BO H ([(q4,[.sl qk 0 32 (.ex 32),v]),(qk,key.map bv)]++[(q3,Bl 32 (N .u8 0) []),(qs,sec.map bv)]) H4:=s.perm (by
  refine List.Perm.cons _ ?_
  show List.Perm ([(qk,_)]++[(q3,_),(qs,_)]) ([(q3,_),(qs,_)]++[(qk,_)])
  exact OS)
 clear s
 refine BO.cX _ s' (ar':=[.sim [.sim (key.map bv) 32 false,v] 2 true]) ?_ (fun H' _=>fZ hp (show 2<1099511627776 by omega) (by rw[hfl,Aa,hk];omega)) fun x H5 s hx=>?_
 ·exact .cons (Eb.row (Be ..) (s'.at_ (.head _)) (.cons (Eb.row (by simp) (s'.at_ (.tail _ (.head _))) (Ev _) (fun h=>by cases h) (fun h=>by cases h)) (.cons (.same _) .nil)) (fun h=>by cases h) (fun _=>rfl)) .nil
 rw[hfl]at hx
 refine⟨⟨s.jA (d:=sec.map bv) (.tail _ (.head _)) (by rw[B_];exact Ac (by rw[BR,hs];omega)) (by rw[BR,hs];omega),trivial⟩,?_⟩
 refine I8 (jF (s.k.gl.trans hg) hs hx (by rw[Aa,hk];omega)) fun y hy=>?_
 subst hy
 have hdl:(keyed sec (key++bs)).length=32:=rfl
 generalize keyed sec (key++bs)=d at hdl
 refine⟨trivial,s.Gk (vs:=d.map bv) (by rw[BR,hdl]) rfl fun H6 s=>⟨trivial,s.Hc (.head _) (by rw[BR,hdl]) ?_⟩⟩
 exact s.U3 (fun k=>.agg (Ef _ k)) rfl
theorem Ib {H0 H:AH}{L o:List (Nat × List AV)}{bs:List UInt8}{v:AV}{n:Int}{Kp K:AV->AH->Prop}(s:BO H0 (o++L) H) (h:Bb o bs v) (hl:bs.length<1099511627700)
  (hK:∀o' v' H',BO H0 (o'++L) H'->Bb o' (bs++CD n) v'->K v' H'):AG prog 25 [v,iv n] H Kp K:=by
 refine BK (post:=fun out H'=>∃o' v',out=.ret v'/\BO H0 (o'++L) H'/\Bb o' (bs++CD n) v') ?_ (fun v H' hq=>by obtain⟨o',v',h1,h2,h3⟩:=hq;cases h1;exact hK _ _ _ h2 h3) (fun v H' hq=>by obtain⟨_,_,h1,_⟩:=hq;cases h1)
 refine T25 ?_
 unfold yx
 let I1:AV->AV->AV->AH->Prop:=fun e0 e1 e5 H'=>e1=iv n/\∃(k:Nat) (o:List (Nat × List AV)),e5=iv ((8*k:Nat):Int)/\k<=8/\Bb o (bs++(CD n).take k) e0/\BO H0 (o++L) H'
 let μ1:AV->AV->AV->AH->Nat:=fun _ _ e5 _=>match e5 with
  | .int _ j=>((64:Int)-j).toNat
  | _=>0
 refine⟨I1,μ1,⟨rfl,0,o,rfl,by omega,by rw[Lf,DY];exact h,s⟩,?_⟩
 clear s h
 intro e H1 hIv
 obtain⟨e1,k,o,e5,hk,hB,s⟩:=(hIv:I1 (e 0) (e 1) (e 5) H1)
 have hmu:μ1 (e 0) (e 1) (e 5) H1=((64:Int)-((8*k:Nat):Int)).toNat:=by rw[e5]
 show AB (.bin .lss (.cst (e 5)) (.cst (I 64))) _
 rw[e1,e5]
 refine Dk (b:=64) (fun hlt=>Cw ?_) (fun hlt=>BS ?_)
 ·have hk8:k<8:=by omega
  refine lq (gB (k:=8*k) (by omega) (gA ?_))
  refine hB.fi s rfl (by rw[Aa,BI,Cg];omega) fun o' v' H2 s2 hB2=>?_
  rw[Ao,az n k hk8]at hB2
  refine Dg (b:=8) ⟨by omega,by omega⟩ ⟨⟨rfl,k+1,o',?_,by omega,hB2,s2⟩,?_⟩
  ·show iv (((8*k:Nat):Int)+8)=iv ((8*(k+1):Nat):Int)
   rw[show((8*k:Nat):Int)+8=((8*(k+1):Nat):Int)by omega]
  ·show _<μ1 (e 0) (e 1) (e 5) H1
   rw[hmu]
   show((64:Int)-(((8*k:Nat):Int)+8)).toNat<_
   omega
 have hk8:k=8:=by omega
 subst hk8
 rw[Ac (by rw[Cg];omega)]at hB
 exact⟨o,_,rfl,s,hB⟩
end
end Go.Proofs.YtlmkmpomgdbjhaaGreatDoor
namespace Go.AL
section
open Sha
variable [BX]
def Kg:List UInt8->Nat
 | []=>0
 | x::l=>Kg l*256+x.toNat
theorem XW:∀l:List UInt8,Kg l<256 ^ l.length
 | []=>by simp[Kg]
 | x::l=>by
  have h:=XW l
  have hx:=x.toNat_lt
  rw[BV,JE]
  show Kg l*256+x.toNat<_
  omega
theorem YZ (l:List UInt8){i:Nat}(hi:i<l.length):Kg (l.drop (l.length-1-i))=Kg (l.drop (l.length-i))*256+(l.getD (l.length-1-i) 0).toNat:=by
 have hlt:l.length-1-i<l.length:=by omega
 rw[C8 hlt,show l.length-1-i+1=l.length-i by omega,A6,Ak hlt];rfl
section
variable {K:AV->Prop}
theorem iP {n:Nat}(hn:n<72057594037927936) (hK:K (uv (n*256))):AB (.bin .shl (.cst (uv n)) (.cst (N .u64 8))) K:=AA (by
 show some (AV.int .u64 (IntKind.u64.wrap ((n:Int)*2 ^ 8)))=_
 rw[Ff]
 congr 2
 omega) hK
theorem iR {x:UInt8}(hK:K (uv x.toNat)):AB (.convI .u64 (.cst (bv x))) K:=AA (by
 show some (AV.int .u64 (IntKind.u64.wrap (x.toNat:Int)))=_
 have:=x.toNat_lt
 rw[Ff]
 congr 2
 omega) hK
theorem lp {n:Nat}{x:UInt8}(hn:n<72057594037927936) (hK:K (uv (n*256+x.toNat))):AB (.bin .or (.cst (uv (n*256))) (.cst (uv x.toNat))) K:=AA (by
 show some (AV.int .u64 (IntKind.u64.wrap ((BitVec.ofInt 64 ((n*256:Nat):Int) ||| BitVec.ofInt 64 (x.toNat:Int)).toNat:Nat)))=_
 have hx:=x.toNat_lt
 have e1:(BitVec.ofInt 64 ((n*256:Nat):Int) ||| BitVec.ofInt 64 (x.toNat:Int)).toNat=n*256+x.toNat:=by
  rw[HS,HS,Va,KP,KP,C6 (by omega),C6 (by omega)]
  have:=Nat.shiftLeft_add_eq_or_of_lt (i:=8) (b:=x.toNat) (by omega) n
  rw[Nat.shiftLeft_eq]at this
  exact this.symm
 rw[e1,Ff]
 congr 2
 omega) hK
theorem lk {n:Nat}(hK:K (iv (IntKind.i64.wrap (n:Int)))):AB (.convI .i64 (.cst (uv n))) K:=AA rfl hK
end
theorem KM.hi {bs:List UInt8}{v:AV}(h:KM bs v){k:Nat}(hk:k<=bs.length){K:AV->Prop}(hK:∀y,KM (bs.take k) y->K y):AB (.sliceS 1 (.cst v) none (some (.cst (iv (k:Int)))) none) K:=by
 rcases h with⟨rfl,rfl⟩ | ⟨b,rfl⟩
 ·have:k=0:=by simpa using hk
  subst this
  exact AA (v:=.nils) rfl (hK _ (.inl ⟨by simp,rfl⟩))
 ·refine AA (v:=.sim ((bs.take k).map bv) k (b&&decide ((k:Int)=(bs.length:Int)))) (by
   show(if (0:Int)<=0/\(0:Int)<=(k:Int)/\(k:Int)<=(bs.length:Int)then some (AV.sim (((bs.map bv).drop ((0:Int).toNat*1)).take (((k:Int)-0).toNat*1)) ((k:Int)-0).toNat (b&&decide ((k:Int)=(bs.length:Int))))else none)=_
   rw[if_pos ⟨by omega,by omega,by omega⟩]
   simp[List.map_take]) (hK _ (.inr ⟨b&&decide ((k:Int)=(bs.length:Int)),by rw[BI,CV hk]⟩))
theorem KM.lo {bs:List UInt8}{v:AV}(h:KM bs v){k:Nat}(hk:k<=bs.length){K:AV->Prop}(hK:∀y,KM (bs.drop k) y->K y):AB (.sliceS 1 (.cst v) (some (.cst (iv (k:Int)))) none none) K:=by
 rcases h with⟨rfl,rfl⟩ | ⟨b,rfl⟩
 ·have:k=0:=by simpa using hk
  subst this
  exact AA (v:=.nils) rfl (hK _ (.inl ⟨by simp,rfl⟩))
 ·refine AA (v:=.sim ((bs.drop k).map bv) (bs.length-k) b) (by
   show(if (0:Int)<=(k:Int)/\(k:Int)<=(bs.length:Int)/\(bs.length:Int)<=(bs.length:Int)then some (AV.sim (((bs.map bv).drop ((k:Int).toNat*1)).take (((bs.length:Int)-(k:Int)).toNat*1)) ((bs.length:Int)-(k:Int)).toNat (b&&decide ((bs.length:Int)=(bs.length:Int))))else none)=_
   rw[if_pos ⟨by omega,by omega,by omega⟩]
   have e:((bs.length:Int)-(k:Int)).toNat=bs.length-k:=by omega
   rw[e,Cp,Fx,Fx,<- List.map_drop,Ac (by simp)]
   simp) (hK _ (.inr ⟨b,by rw[CK]⟩))
theorem KM.PO {bs:List UInt8}{v:AV}(h:KM bs v) (f:Nat->Option (List AV)):PO v f=some ([],bs.map bv):=by
 rcases h with⟨rfl,rfl⟩ | ⟨b,rfl⟩
 ·rfl
 ·simp only[AL.PO,BR]
  rw[show Nat.ble bs.length bs.length=true from Lp (A5 _),cond_true,Ac (by simp)]
theorem BO.cells {H0 H:AH}{L:List (Nat × List AV)}(h:BO H0 L H){q:Nat}{c:List AV}(hm:(q,c)∈L):H.cells? q=some c:=by simp[AH.cells?,h.at_ hm]
end
end Go.AL
namespace Go.Proofs.YtlmkmpomgdbjhaaGreatDoor
open Tryz
section
open Go Go.AL Go.AL.Sha
variable [BX]
theorem C45 {H:AH}{pv:AV}(h1:pv.cellsOf=some [pv]):AP prog 45 [pv] H fun o H'=>o=.ret (.fn (.func 90) [] [.ptr H.next 0])/\H'=H.push (.cells [pv]):=by
 refine T45 ?_
 unfold yr
 exact Ap (v:=.ptr H.next 0) (H':=H.push (.cells [pv])) (by simp[BL,AF.ev,h1]) ⟨rfl,rfl⟩
theorem ZP {H0 H:AH}{L:List (Nat × List AV)}{rb:Nat}{v:AV}{bs:List UInt8}{bad:Bool}{Kp K:AV->AH->Prop}(s:BO H0 ((rb,[v,.bool bad])::L) H) (hv:KM bs v)
  (h1:bs.length<8->∀H',BO H0 ((rb,[v,.bool true])::L) H'->K (iv 0) H')
  (h2:8<=bs.length->∀v' H',KM (bs.drop 8) v'->BO H0 ((rb,[v',.bool bad])::L) H'->K (iv (IntKind.i64.wrap (Kg (bs.take 8):Int))) H'):AG prog 22 [.ptr rb 0] H Kp K:=by
 refine BK (post:=fun out H'=>∃x,out=.ret x/\K x H') ?_ (fun v H' hq=>by obtain⟨x,h1,h2⟩:=hq;cases h1;exact h2) (fun v H' hq=>by obtain⟨_,h1,_⟩:=hq;cases h1)
 refine T22 ?_
 unfold yy
 refine AA (v:=.ptr rb 0) rfl (AA (v:=.ptr rb 0) rfl (s.ld (o:=0) (.head _) rfl (hv.len ?_)))
 refine Dk (b:=8) (fun hlt=>Cw ?_) (fun hlt=>BS ?_)
 ·refine AA (v:=.ptr rb 0) rfl (AA (v:=.ptr rb 1) rfl ?_)
  exact s.put (vs:=[.bool true]) rfl rfl (by show 1+1<=2;omega) fun H' s=>⟨_,rfl,h1 (by omega) _ s⟩
 have h8:8<=bs.length:=by omega
 refine s.alloc fun q6 H1 s=>s.put (vs:=[N .u64 0]) rfl rfl (by show 0+1<=1;omega) fun H2 s=>?_
 have s:BO H0 ((q6,[uv 0])::(rb,[v,.bool bad])::L) H2:=s
 refine AA (v:=.ptr rb 0) rfl (AA (v:=.ptr rb 0) rfl (s.ld (o:=0) (.tail _ (.head _)) rfl ?_))
 refine hv.hi (k:=8) h8 fun y hy=>?_
 generalize hl8:bs.take 8=l8 at hy h2
 have hlen8:l8.length=8:=by rw[<- hl8,BI];omega
 refine BK (C45 hy.one) (fun fv H3 h3=>?_) (fun fv H3 h3=>by cases h3.1)
 obtain⟨hfv,rfl⟩:=h3
 cases hfv
 have s3:=s.push (o:=[y])
 generalize H2.next=cb at s3
 generalize H2.push (.cells [y])=H3 at s3
 have e1:H3.cells? cb=some [y]:=s3.cells (.head _)
 have hIt:=cq e1 (hy.PO _) (by rw[BR,hlen8];omega)
 have hxl:(VF (l8.map bv)).length=8:=by simp[VF,hlen8]
 refine⟨90,[.ptr cb 0],_,_,_,_,fun i H'=>BO H0 ((cb,[y])::(q6,[uv (Kg (l8.drop (8-i)))])::(rb,[v,.bool bad])::L) H',rfl,hIt,?_,?_,?_,?_⟩
 ·intro i H' s' r hr
  rw[CM]at hr
  subst hr
  rw[e1];exact s'.cells (.head _)
 ·show BO H0 ((cb,[y])::(q6,[uv (Kg (l8.drop 8))])::_) H3
  rw[Bu (by omega)];exact s3
 ·intro i x Hi hi hx s' hle
  rw[hxl]at hi
  have hx:((List.range (l8.map bv).length).map fun i=>[iv (((l8.map bv).length-1-i:Nat):Int),(l8.map bv).getD ((l8.map bv).length-1-i) .unk])[i]?=some x:=hx
  rw[Bf,BR,EV (by omega),hlen8]at hx
  cases hx
  have hg:(l8.map bv).getD (8-1-i) .unk=bv (l8.getD (8-1-i) 0):=by
   rw[A6,Bf,A6,Ak (by omega)];rfl
  show RB [iv ((8-1-i:Nat):Int),(l8.map bv).getD (8-1-i) .unk] _
  rw[hg]
  show AE (.load none (.cst (.ptr q6 0))) Hi _
  refine s'.ld (o:=0) (.tail _ (.head _)) rfl ?_
  have hb:Kg (l8.drop (8-i))<72057594037927936:=by
   have h:=XW (l8.drop (8-i))
   rw[CK,hlen8,show 8-(8-i)=i by omega]at h
   have h3:256 ^ i<=256 ^ 7:=HU (by omega) (by omega)
   omega
  have hd:=YZ l8 (i:=i) (by omega)
  rw[hlen8]at hd
  refine iP hb (iR (lp hb ?_))
  rw[<- hd]
  refine BO.Sq (A:=[(cb,[y])]) (vs:=[uv (Kg (l8.drop (8-1-i)))]) s' rfl rfl (by show 0+1<=1;omega) fun H' s2=>⟨?_,trivial⟩
  show BO H0 ((cb,[y])::(q6,[uv (Kg (l8.drop (8-(i+1))))])::_) H'
  rw[show 8-(i+1)=8-1-i by omega]
  exact s2
 ·intro Hn s'
  rw[hxl]at s'
  have s':BO H0 ((cb,[y])::(q6,[uv (Kg l8)])::(rb,[v,.bool bad])::L) Hn:=by simpa using s'
  refine AA (v:=.ptr rb 0) rfl (AA (v:=.ptr rb 0) rfl (s'.ld (o:=0) (.tail _ (.tail _ (.head _))) rfl ?_))
  refine hv.lo (k:=8) h8 fun v' hv'=>?_
  refine AA (v:=.ptr rb 0) rfl (AA (v:=.ptr rb 0) rfl ?_)
  refine BO.Sq (A:=[(cb,[y]),(q6,[uv (Kg l8)])]) (vs:=[v']) s' hv'.one rfl (by show 0+1<=2;omega) fun H' s2=>?_
  refine s2.ld (o:=0) (.tail _ (.head _)) rfl (lk ⟨_,rfl,?_⟩)
  exact h2 h8 v' H' hv' (s2.sub (List.Sublist.cons _ (List.Sublist.cons _ (FD _))))
end
end Go.Proofs.YtlmkmpomgdbjhaaGreatDoor
namespace Go.AL
section
open Sha Go.AL.Co
variable [BX]
section
variable {H0 H H':AH}{L:List (Nat × List AV)}
theorem BO.add {r:Nat}{c:List AV}(h:BO H0 L H) (hk:BT H H') (h1:H.next<=r) (h2:r<H'.next) (h3:H'.get r=some (.cells c)):BO H0 ((r,c)::L) H':=by
 have s:=h.GI hk
 refine⟨s.k,fun x hx=>?_,?_⟩
 ·cases hx with
  | head=>exact⟨Cs h.k.nx h1,h2,h3⟩
  | tail _ hx=>exact s.l x hx
 ·rw[B6,Fy]
  refine⟨fun hm=>?_,s.nd⟩
  obtain⟨x,hx,he⟩:=Bt.1 hm
  have:=(h.l x hx).2.1
  omega
theorem Bb.eZ {o:List (Nat × List AV)}{bs:List UInt8}{v:AV}(s:BO H0 (o++L) H) (h:Bb o bs v):∃y,KM bs y/\Eb H (fun _=>True) v y:=by
 cases h with
 | nil=>exact⟨.nils,.inl ⟨rfl,rfl⟩,.same _⟩
 | op r h=>exact⟨.sim (bs.map bv) bs.length false,.inr ⟨false,rfl⟩,Eb.row trivial (s.at_ (.head _)) (Ev _) (fun e=>absurd (G0.1 e) h) (fun e=>by cases e)⟩
theorem Bb.QI {o:List (Nat × List AV)}{bs:List UInt8}{v:AV}(h:Bb o bs v):∃y,KM bs y/\FZ o v y:=by
 cases h with
 | nil=>exact⟨.nils,.inl ⟨rfl,rfl⟩,.low fun _=>.nils⟩
 | op r h=>
  refine⟨.sim (bs.map bv) bs.length false,.inr ⟨false,rfl⟩,fun H k hR=>?_⟩
  obtain⟨h1,h2⟩:=hR _ (.head _)
  exact .sl h1 (l:=bs.map bv) (by simp[AH.cells?,h2]) (m:=bs.length) (by simp) (by rw[B_,Ac (by simp)];exact .low (Ef _ _)) (fun h=>h) (fun h=>by cases h)
theorem Bb.one {o:List (Nat × List AV)}{bs:List UInt8}{v:AV}(h:Bb o bs v):v.cellsOf=some [v]:=by cases h<;>rfl
end
theorem LZ {e:Env}{cells l:List AV}{off n:Nat}{x:AF}{r:List (Nat × Nat × AF)}(hx:(x.ev e).cellsOf=some l) (hl:l.length=n) (ho:off+n<=cells.length):B5 e cells ((off,n,x)::r)=B5 e (cells.take off++l++cells.drop (off+n)) r:=by
 simp only[B5,hx]
 exact if_pos ⟨hl,ho⟩
theorem jZ {z a b:List AV}{v:AV}(hz:z.length=65) (ha:a.length=32) (hb:b.length=32) (hv:v.cellsOf=some [v]):B5 emp z [(0,32,.cst (.agg a)),(32,1,.cst v),(33,32,.cst (.agg b))]=some (a++v::b):=by
 rw[LZ (x:=.cst (.agg a)) (l:=a) rfl ha (by omega),LZ (n:=1) (x:=.cst v) (l:=[v]) hv rfl (by simp[ha,hz]),LZ (x:=.cst (.agg b)) (l:=b) rfl hb (by simp[ha,hz])]
 show some _=_
 congr 1
 have e1:(List.take 0 z++a++z.drop (0+32)).take 32=a:=by rw[Lf,B7];exact Ge ha
 have e2:(List.take 0 z++a++z.drop (0+32)).drop (32+1)=z.drop 33:=by rw[Lf,B7,Ft,Lo (by omega),ha,C0,B7]
 rw[e1,e2]
 have e3:(a++[v]++z.drop 33).take 33=a++[v]:=Ge (by simp[ha])
 have e4:(a++[v]++z.drop 33).drop (33+32)=[]:=Lo (by simp[ha,hz])
 rw[e3,e4]
 simp
def Df (A B:Int) (l:List AR.D):List UInt8:=CD A++CD B++CD (l.length:Int)++l.flatMap fun d=>CD ((AR.enc d).length:Int)++AR.enc d
end
end Go.AL
namespace Go.Proofs.YtlmkmpomgdbjhaaGreatDoor
open Tryz
section
open Go Go.AL Go.AL.Sha Go.AL.Co
variable [BX]
set_option maxHeartbeats 2000000 in
theorem mD [Bp] {H:AH}{key sec:List UInt8}{A B:Int}{pv:AV}{l:List AR.D}(hg:H.gl=BX.G) (hk:key.length=32) (hs:sec.length=32) (hP:LR AR l pv) (hw:∀d∈l,AR.wf d) (hl:(Df A B l).length<68719400000) :
  CP prog 10 [.agg (key.map bv),.agg [iv A,iv B,pv],.agg (sec.map bv)] H fun x=>∃y,KM (Df A B l) y/\x=.agg (key.map bv++y::(keyed sec (key++Df A B l)).map bv):=CP.of <| by
 have hnl:l.length<68719400000:=by
  have h:∀l:List AR.D,l.length<=(l.flatMap fun d=>CD ((AR.enc d).length:Int)++AR.enc d).length:=fun l=>by
   induction l with
   | nil=>simp
   | cons d l ih=>rw[D2,Aa,Aa,Cg,BV];omega
  have:=h l
  unfold Df at hl
  rw[Aa]at hl
  omega
 refine T10 ?_
 unfold zA
 refine(BO.start H).box (c:=key.map bv) rfl fun q3 H1 s=>s.box (c:=[iv A,iv B,pv]) rfl fun q4 H2 s=>s.box (c:=sec.map bv) rfl fun q5 H3 s=>s.alloc fun q6 H4 s=>?_
 generalize hz:Bl 32 (N .u8 0) (.nils::(Bl 32 (N .u8 0) []))=z at s ⊢
 have hzl:z.length=65:=by rw[<- hz];rfl
 clear hz
 generalize hL:[(q6,z),(q5,sec.map bv),(q4,[iv A,iv B,pv]),(q3,key.map bv)]=L at s
 have m6:(q6,z)∈L:=by rw[<- hL];simp
 have m5:(q5,sec.map bv)∈L:=by rw[<- hL];simp
 have m4:(q4,[iv A,iv B,pv])∈L:=by rw[<- hL];simp
 have m3:(q3,key.map bv)∈L:=by rw[<- hL];simp
 refine AA (v:=.ptr q4 0) rfl (s.ld (o:=0) m4 rfl (AA (v:=.ptr q4 1) rfl (s.ld (o:=1) m4 rfl (AA (v:=.ptr q4 2) rfl (s.ld (o:=2) m4 rfl (AA (v:=iv (l.length:Int)) hP.len ?_))))))
 have hb3:(CD A++CD B++CD (l.length:Int)).length=24:=rfl
 refine Ib (o:=[]) s .nil (by show 0<_;omega) fun o1 v1 H5 s hB=>?_
 refine⟨⟨s.HL (o:=2) (CL _ m4) rfl,s.HL (o:=1) (CL _ m4) rfl,trivial⟩,?_⟩
 refine Ib s hB (by show 8<_;omega) fun o2 v2 H6 s hB=>?_
 refine⟨⟨s.HL (o:=2) (CL _ m4) rfl,trivial⟩,?_⟩
 refine Ib s hB (by show 16<_;omega) fun o3 v3 H7 s hB=>⟨trivial,?_⟩
 rw[B7]at hB
 refine AA (v:=.ptr q4 2) rfl (s.ld (o:=2) (CL _ m4) rfl (AA (v:=iv (l.length:Int)) hP.len ?_))
 let mid:Nat->List UInt8:=fun i=>CD A++CD B++CD (l.length:Int)++(l.take i).flatMap fun d=>CD ((AR.enc d).length:Int)++AR.enc d
 have hmid:∀i d,l[i]?=some d->mid (i+1)=mid i++CD ((AR.enc d).length:Int)++AR.enc d/\(mid (i+1)).length<=(Df A B l).length:=fun i d hd=>by
  refine⟨?_,?_⟩
  ·show _++_=_++_++_++_
   rw[DZ,hd,O9,Ao (_++_),Ao (_++_)]
   simp
  ·show(_++(l.take (i+1)).flatMap _).length<=_
   have h:=congrArg (fun l=>(l.flatMap fun d=>CD ((AR.enc d).length:Int)++AR.enc d).length) (Fw (i+1) l)
   simp only[O9]at h
   rw[Aa]at h
   unfold Df
   simp only[Aa,Cg]
   omega
 let I1:AV->AV->AV->AV->AV->AV->AV->AH->Prop:=fun e3 e5 e6 e7 e22 e23 e24 H'=>e3=.ptr q3 0/\e5=.ptr q5 0/\e6=.ptr q6 0/\e22=pv/\e23=iv (l.length:Int)/\∃(i:Nat) (o:List (Nat × List AV)),e24=iv (i:Int)/\i<=l.length/\Bb o (mid i) e7/\BO H (o++L) H'
 let μ1:AV->AV->AV->AV->AV->AV->AV->AH->Nat:=fun _ _ _ _ _ _ e24 _=>match e24 with
  | .int _ j=>((l.length:Int)-j).toNat
  | _=>0
 refine⟨I1,μ1,⟨rfl,rfl,rfl,rfl,rfl,0,o3,rfl,by omega,by show Bb o3 (_++[]) _;rw[DY];exact hB,s⟩,?_⟩
 clear s hB
 intro e H8 hIv
 obtain⟨e3,e5,e6,e22,e23,i,o,e24,hi,hB,s⟩:=(hIv:I1 (e 3) (e 5) (e 6) (e 7) (e 22) (e 23) (e 24) H8)
 have hmu:μ1 (e 3) (e 5) (e 6) (e 7) (e 22) (e 23) (e 24) H8=((l.length:Int)-(i:Int)).toNat:=by rw[e24]
 show AB (.bin .lss (.cst (e 24)) (.cst (e 23))) _
 rw[e3,e5,e6,e22,e23,e24]
 refine Dk (fun hlt=>Cw ?_) (fun hlt=>BS ?_)
 ·have hi':i<l.length:=by omega
  obtain⟨a,x,g1,g2,g3⟩:=hP.Om rfl hi'
  have hd:l[i]?=some (l[i]'hi'):=Ak hi'
  have hwd:=hw _ (Ox hi')
  obtain⟨k1,k2⟩:=hmid i _ hd
  generalize l[i]'hi'=d at g3 hd hwd k1 k2
  rw[k1,Aa,Aa,Cg]at k2
  refine AA g1 (AX (g2 _) ?_)
  refine BK (P6 g3 hwd (by show _<1099511627776;omega)) (fun v H9 h9=>?_) (fun v H9 h9=>by obtain⟨_,_,_,h,_⟩:=h9;cases h)
  obtain⟨r,r1,r2,hv,r3,r4⟩:=h9
  cases hv
  generalize hen:AR.enc d=en at k1 k2 r3
  have s9:=s.add r4 r1 r2 r3
  refine AA (v:=iv (en.length:Int)) rfl ?_
  have s9:BO H (o++((r,en.map bv)::L)) H9:=s9.perm JL
  refine Ib s9 hB (by omega) fun o2 v2 H10 s10 hB2=>?_
  have hx:Aj 1 (.sl r 0 en.length (.op 1)) H10=some (en.length,en.map bv):=by
   have hc:H10.cells? r=some (en.map bv):=s10.cells (CL _ (.head _))
   simp[Aj,hc]
   exact Ac (by simp)
  refine hB2.app s10 hx (by rw[Aa,Cg];omega) fun o3 v3 H11 s11 hB3=>?_
  rw[<- k1]at hB3
  refine Dg (b:=1) ⟨by omega,by omega⟩ ⟨⟨rfl,rfl,rfl,rfl,rfl,i+1,o3,rfl,by omega,hB3,s11.sub ((List.Sublist.cons _ (FD _)).append_left o3)⟩,?_⟩
  show _<μ1 (e 3) (e 5) (e 6) (e 7) (e 22) (e 23) (e 24) H8
  rw[hmu]
  show((l.length:Int)-((i:Int)+1)).toNat<_
  omega
 have hil:i=l.length:=by omega
 subst hil
 have hms:mid l.length=Df A B l:=by show _++(l.take l.length).flatMap _=_;rw[Ac (A5 _)];rfl
 rw[hms]at hB
 clear hmu hmid
 have n3:=CL o m3
 have n5:=CL o m5
 refine s.Hc n3 (by rw[BR,hk]) (s.Hc n3 (by rw[BR,hk]) (s.Hc n5 (by rw[BR,hs]) ?_))
 obtain⟨yl,hyl,hfl⟩:=hB.eZ s
 refine I8 (CP.eZ (R:=.agg ((keyed sec (key++Df A B l)).map bv)) (al':=[.agg (key.map bv),yl,.agg (sec.map bv)]) (fun H' hg'=>gF hg' hk hs hyl hl) (.agg (aM _)) (.cons (.agg (Ef _ _)) (.cons (hyl.sc _) (.cons (.agg (Ef _ _)) .nil))) (.cons (.same _) (.cons hfl (.cons (.same _) .nil))) (s.k.gl.trans hg)) fun x hx=>?_
 subst hx
 have hdl:(keyed sec (key++Df A B l)).length=32:=rfl
 generalize keyed sec (key++Df A B l)=sg at hdl
 refine⟨⟨s.jA (d:=key.map bv) n3 (by rw[B_];exact Ac (by rw[BR,hk];omega)) (by rw[BR,hk];omega),trivial⟩,?_⟩
 refine AA (v:=.agg (key.map bv++e 7::sg.map bv)) (by
  show(B5 emp z [(0,32,.cst (.agg (key.map bv))),(32,1,.cst (e 7)),(33,32,.cst (.agg (sg.map bv)))]).map AV.agg=_
  rw[jZ hzl (by rw[BR,hk]) (by rw[BR,hdl]) hB.one];rfl) ?_
 have hcl:(key.map bv++e 7::sg.map bv).length=65:=by simp[hk,hdl]
 rw[<- hL]at s
 have s':BO H ((q6,z)::(o++[(q5,sec.map bv),(q4,[iv A,iv B,pv]),(q3,key.map bv)])) H8:=s.perm JL.symm
 refine s'.Gk (vs:=key.map bv++e 7::sg.map bv) hcl hzl fun H9 s=>⟨trivial,s.Hc (.head _) hcl ?_⟩
 obtain⟨y,hy,hz⟩:=hB.QI
 exact s.fin (y:=.agg (key.map bv++y::sg.map bv)) (.agg (.app (.low fun k=>Ef _ k) (.cons (hz.mono fun x hx=>.tail _ (Cz _ hx)) (.low fun k=>Ef _ k)))) ⟨y,hy,rfl⟩
end
end Go.Proofs.YtlmkmpomgdbjhaaGreatDoor
namespace Go.AL
theorem af:∀w:Nat,0<w->∃t m,w=2 ^ t*(2*m+1):=by
 intro w
 induction w using Nat.strongRecOn with
 | _ w ih=>
  intro hw
  rcases Nat.mod_two_eq_zero_or_one w with h | h
  ·obtain⟨t,m,e⟩:=ih (w / 2) (by omega) (by omega)
   refine⟨t+1,m,?_⟩
   rw[JE,Gy (2 ^ t) 2,Nat.mul_assoc,<- e];omega
  ·exact⟨0,w / 2,by rw[Nat.pow_zero,Gw];omega⟩
theorem YH (t m j:Nat):(2 ^ t*(2*m+1)).testBit j=if j<t then false else(2*m+1).testBit (j-t):=by
 have:=Oq (2*m+1) (b:=0) (i:=t) (SU t) j
 rw[Gg,Nat.zero_testBit]at this
 exact this
theorem gC (t m j:Nat):(2 ^ t*(2*m+1)-1).testBit j=if j<t then true else(2*m).testBit (j-t):=by
 have hp:=SU t
 have e:2 ^ t*(2*m+1)-1=2 ^ t*(2*m)+(2 ^ t-1):=by
  rw[O6,Fx];omega
 rw[e,Oq (2*m) (b:=2 ^ t-1) (i:=t) (by omega) j,Nat.testBit_two_pow_sub_one]
 by_cases h:j<t<;>simp[h]
theorem Zx (m s:Nat):(2*m+1).testBit (s+1)=(2*m).testBit (s+1):=by
 rw[Nat.testBit_succ,Nat.testBit_succ]
 congr 1;omega
theorem Sk {w t m:Nat}(h:w=2 ^ t*(2*m+1)) (j:Nat):(w &&& (w-1)).testBit j=(decide (j≠t)&&w.testBit j):=by
 subst h
 rw[Nat.testBit_and,YH,gC]
 rcases B8 j t with h1 | h1
 ·simp[h1]
 ·have h2:¬j<t:=by omega
  simp only[h2,if_false]
  rcases DE (j-t)with h3 | h3
  ·have:j=t:=by omega
   subst this;simp
  ·obtain⟨s,hs⟩:∃s,j-t=s+1:=⟨j-t-1,by omega⟩
   have h4:j≠t:=by omega
   rw[hs,Zx];simp[h4]
theorem iT {w t m n:Nat}(h:w=2 ^ t*(2*m+1)) (hw:w<2 ^ n):w &&& (2 ^ n-w)=2 ^ t:=by
 have hpos:0<w:=by rw[h];exact Nat.mul_pos (SU t) (by omega)
 have htn:t<n:=by
  have h1:2 ^ t<=w:=by rw[h];exact Fq _ (by omega)
  exact(EC (by omega)).1 (B1 h1 hw)
 have e:2 ^ n-w=2 ^ n-((w-1)+1):=by omega
 refine Nat.eq_of_testBit_eq fun j=>?_
 rw[Nat.testBit_and,e,Nat.testBit_two_pow_sub_succ (by omega),O2]
 subst h
 rw[YH,gC]
 rcases B8 j t with h1 | h1
 ·have h2:¬t=j:=by omega
  simp[h1,h2]
 ·have h2:¬j<t:=by omega
  simp only[h2,if_false]
  rcases DE (j-t)with h3 | h3
  ·have:j=t:=by omega
   subst this;simp[htn]
  ·obtain⟨s,hs⟩:∃s,j-t=s+1:=⟨j-t-1,by omega⟩
   have h4:¬t=j:=by omega
   rw[hs,Zx];simp[h4]
   exact fun a _=>a
def bl (w base:Nat):List UInt8:=((List.range 64).filter fun j=>w.testBit j).map fun j=>UInt8.ofNat (base+j)
theorem Oj (base:Nat):bl 0 base=[]:=by
 unfold bl
 simp
theorem range_split {t:Nat}(ht:t<64):List.range 64=List.range t++t::(List.range (63-t)).map (t+1+·):=by
 have h1:64=t+(1+(63-t)):=by omega
 conv=>lhs;rw[h1,List.range_add]
 congr 1
 rw[List.range_add,Fc]
 simp[Function.comp_def,Fs]
theorem Ok {w base t m:Nat}(h:w=2 ^ t*(2*m+1)) (hw:w<2 ^ 64):bl w base=UInt8.ofNat (base+t)::bl (w &&& (w-1)) base:=by
 have htn:t<64:=by
  have h1:2 ^ t<=w:=by rw[h];exact Fq _ (by omega)
  exact(EC (by omega)).1 (B1 h1 hw)
 have key:(List.range 64).filter (fun j=>w.testBit j)=t::(List.range 64).filter fun j=>(w &&& (w-1)).testBit j:=by
  rw[range_split htn,SO,SO,Oy,Oy]
  have e1:(List.range t).filter (fun j=>w.testBit j)=[]:=Lw.2 fun j hj=>by
   have:=Lg.1 hj
   rw[h,YH];simp[this]
  have e2:(List.range t).filter (fun j=>(w &&& (w-1)).testBit j)=[]:=Lw.2 fun j hj=>by
   have:=Lg.1 hj
   rw[Sk h,h,YH];simp[this]
  have e3:w.testBit t=true:=by rw[h,YH];simp
  have e4:(w &&& (w-1)).testBit t=false:=by rw[Sk h];simp
  rw[e1,e2,e3,e4]
  simp only[if_true,B7,E_,if_false]
  congr 1
  refine List.filter_congr fun j hj=>?_
  obtain⟨s,_,rfl⟩:=Bt.1 hj
  rw[Sk h]
  have:t+1+s≠t:=by omega
  simp[this]
 unfold bl
 rw[key,B6]
def tK:List Nat:=[0,1,56,2,57,49,28,3,61,58,42,50,38,29,17,4,62,47,59,36,45,43,51,22,53,39,33,30,24,18,12,5,63,55,48,27,60,41,37,16,46,35,44,21,52,32,23,11,54,26,40,15,34,20,31,10,25,14,19,9,13,8,7,6]
theorem fX:∀t,t<64->tK[(2 ^ t*285870213051353865 % 18446744073709551616) / 288230376151711744]?=some t:=by decide
theorem fW (x:Nat):(x % 18446744073709551616) / 288230376151711744<64:=by omega
def Td (a b c d:Nat):List UInt8:=bl a 0++(bl b 64++(bl c 128++bl d 192))
theorem Hp (w base:Nat):(bl w base).length<=64:=by
 unfold bl
 rw[BR]
 exact Cs (List.length_filter_le _ _) (by simp)
end Go.AL
namespace Go.Proofs.YtlmkmpomgdbjhaaGreatDoor
open Tryz
section
open Go Go.RowKit Go.AL
theorem Zm (n:Int):IntKind.u64.wrap n=n % 18446744073709551616:=by
 simp[IntKind.wrap,IntKind.bits,IntKind.signed]
theorem la {n:Nat}(h:n<18446744073709551616):IntKind.u64.wrap (n:Int)=(n:Int):=by rw[Zm];omega
theorem cn {a b:Nat}(ha:a<18446744073709551616) (hb:b<18446744073709551616):bits .and .u64 (a:Int) (b:Int)=((a &&& b:Nat):Int):=by
 have h1:a &&& b<18446744073709551616:=B1 Lh ha
 have h2:(BitVec.ofInt 64 (a:Int) &&& BitVec.ofInt 64 (b:Int)).toNat=a &&& b:=by
  rw[HS,HS,BitVec.toNat_and,KP,KP,C6 (by omega),C6 (by omega)]
 show IntKind.u64.wrap (((BitVec.ofInt 64 (a:Int) &&& BitVec.ofInt 64 (b:Int)).toNat:Nat):Int)=_
 rw[h2,la h1]
theorem nD {x t m:Nat}(h:x=2 ^ t*(2*m+1)) (hx:0<x) (hx2:x<18446744073709551616):bits .and .u64 (x:Int) (IntKind.u64.wrap (-(x:Int)))=((2 ^ t:Nat):Int):=by
 have e:IntKind.u64.wrap (-(x:Int))=((18446744073709551616-x:Nat):Int):=by rw[Zm];omega
 rw[e,cn hx2 (by omega)]
 have:=iT (n:=64) h hx2
 rw[show(2:Nat) ^ 64=18446744073709551616 by decide]at this
 rw[this]
theorem tM {x t m:Nat}(h:x=2 ^ t*(2*m+1)) (hx:0<x) (hx2:x<18446744073709551616) :
  IntKind.u64.wrap (bits .and .u64 (x:Int) (IntKind.u64.wrap (-(x:Int)))*285870213051353865) / 288230376151711744=(((2 ^ t*285870213051353865 % 18446744073709551616) / 288230376151711744:Nat):Int):=by
 rw[nD h hx hx2,Zm];omega
def NC (W:World):Prop:=∀t:Nat,t<64->∀n:Nat,tK[t]?=some n->W.cell? ⟨1,t,none⟩=some (.int .u8 (n:Int))
theorem dT (x:Nat) (t:Nat) (W:World) (hc:W.cell? ⟨1,(IntKind.u64.wrap (bits .and .u64 (x:Int) (IntKind.u64.wrap (-(x:Int)))*285870213051353865) / 288230376151711744).toNat,none⟩=some (.int .u8 (t:Int)))
  (h0:((x:Int)==0)=false) (h1:0<=IntKind.u64.wrap (bits .and .u64 (x:Int) (IntKind.u64.wrap (-(x:Int)))*285870213051353865) / 288230376151711744)
  (h2:IntKind.u64.wrap (bits .and .u64 (x:Int) (IntKind.u64.wrap (-(x:Int)))*285870213051353865) / 288230376151711744<64) (hw:IntKind.i64.wrap (t:Int)=(t:Int)) :
  Calls prog 412 #[.int .u64 (x:Int)] W fun e w'=>w'=W/\e=.returned (.int .i64 (t:Int)):=by
 go_enter func412,ntmps412
 go_wp2
 all_goals go_ret
 all_goals exact⟨rfl,by simp[hw]⟩
theorem V1 (x:Nat) (W:World) (h:NC W) (hx:0<x) (hx2:x<18446744073709551616):Calls prog 412 #[.int .u64 (x:Int)] W fun e w'=>w'=W/\∃t m:Nat,x=2 ^ t*(2*m+1)/\e=.returned (.int .i64 (t:Int)):=by
 obtain⟨t,m,hxt⟩:=af x hx
 have ht:t<64:=by
  have h1:2 ^ t<=x:=by rw[hxt];exact Fq _ (by omega)
  exact(EC (a:=2) (by omega)).1 (B1 h1 (by rw[show(2:Nat) ^ 64=18446744073709551616 by decide];exact hx2))
 have hix:=tM hxt hx hx2
 have hlt:=fW (2 ^ t*285870213051353865)
 have hc:W.cell? ⟨1,(IntKind.u64.wrap (bits .and .u64 (x:Int) (IntKind.u64.wrap (-(x:Int)))*285870213051353865) / 288230376151711744).toNat,none⟩=some (.int .u8 (t:Int)):=by
  rw[hix,Cp]
  exact h _ hlt t (fX t ht)
 have h0:((x:Int)==0)=false:=by
  have:¬(x:Int)=0:=by omega
  simp;omega
 have hw:IntKind.i64.wrap (t:Int)=(t:Int):=by
  simp[IntKind.wrap,IntKind.bits,IntKind.signed];omega
 exact(dT x t W hc h0 (by rw[hix];omega) (by rw[hix];omega) hw).mono fun e w' h=>⟨h.1,t,m,hxt,h.2⟩
end
section
open Go Go.RowKit Go.AL Go.Maps Go.Sort Go.Shelf
def Ja:Value->Nat
 | .int _ j=>j.toNat
 | _=>0
theorem GB (k:IntKind) (n:Nat):Ja (.int k (n:Int))=n:=Cp n
theorem gV (v0 v1 v2 v3:Value) (w:World):(Instr.index 49 (.agg #[v0,v1,v2,v3]) (.int .i64 0)).run prog w=.ok v0 w:=by
 simp[Instr.index,asIntOf,run_underlying underlying49,sizeOf47,part,isAgg47]
theorem jK (v0 v1 v2 v3:Value) (w:World):(Instr.index 49 (.agg #[v0,v1,v2,v3]) (.int .i64 1)).run prog w=.ok v1 w:=by
 simp[Instr.index,asIntOf,run_underlying underlying49,sizeOf47,part,isAgg47]
theorem zp (v0 v1 v2 v3:Value) (w:World):(Instr.index 49 (.agg #[v0,v1,v2,v3]) (.int .i64 2)).run prog w=.ok v2 w:=by
 simp[Instr.index,asIntOf,run_underlying underlying49,sizeOf47,part,isAgg47]
theorem zo (v0 v1 v2 v3:Value) (w:World):(Instr.index 49 (.agg #[v0,v1,v2,v3]) (.int .i64 3)).run prog w=.ok v3 w:=by
 simp[Instr.index,asIntOf,run_underlying underlying49,sizeOf47,part,isAgg47]
set_option maxRecDepth 100000 in
set_option maxHeartbeats 1000000 in
theorem fB (n l b off:Nat) (hn:1<=n) (a0 a1 a2 a3:Nat) (J:List UInt8->World->Prop) (W:World) (hT:∀pre W',J pre W'->NC W')
  (h0:W.cell? ⟨b,off,none⟩=some (.int .u64 (a0:Int))) (h1:W.cell? ⟨b,off+1,none⟩=some (.int .u64 (a1:Int))) (h2:W.cell? ⟨b,off+2,none⟩=some (.int .u64 (a2:Int))) (h3:W.cell? ⟨b,off+3,none⟩=some (.int .u64 (a3:Int)))
  (l0:a0<18446744073709551616) (l1:a1<18446744073709551616) (l2:a2<18446744073709551616) (l3:a3<18446744073709551616)
  (hY:∀(pre:List UInt8) (x:UInt8) (W1:World),J pre W1->pre.length<256->YieldAt Fence.wide (n-1) prog l #[.int .u8 (x.toNat:Int)] W1 fun e W'=>e=.returned (.bool true)/\J (pre++[x]) W')
  (hJ:J [] W):CallsIn Fence.wide n prog 411 #[.func (.yield l) #[] #[],.pointer (some ⟨b,off,none⟩)] W fun e W'=>(∃v,e=.returned v)/\J (Td a0 a1 a2 a3) W':=by
 refine callsIn_of_wp func411 rfl trivial ?_ rfl
 simp only[ntmps411,JI,BV,Gv,Nat.reduceAdd,Nat.reduceSub,JQ,JO,Li,JS,B7,Ec]
 have i0:=gV (.int .u64 (a0:Int)) (.int .u64 (a1:Int)) (.int .u64 (a2:Int)) (.int .u64 (a3:Int))
 have i1:=jK (.int .u64 (a0:Int)) (.int .u64 (a1:Int)) (.int .u64 (a2:Int)) (.int .u64 (a3:Int))
 have i2:=zp (.int .u64 (a0:Int)) (.int .u64 (a1:Int)) (.int .u64 (a2:Int)) (.int .u64 (a3:Int))
 have i3:=zo (.int .u64 (a0:Int)) (.int .u64 (a1:Int)) (.int .u64 (a2:Int)) (.int .u64 (a3:Int))
 gi_wp2
 obtain⟨up,hup⟩:∃up:Nat->List UInt8,up=fun i=>match i with
  | 0=>[]
  | 1=>bl a0 0
  | 2=>bl a0 0++bl a1 64
  | 3=>bl a0 0++(bl a1 64++bl a2 128)
  | _=>Td a0 a1 a2 a3:=⟨_,rfl⟩
 gi_loopw [6] (fun v6 wr=>∃i:Nat,v6=.int .i64 (i:Int)/\i<=4/\J (up i) wr) (fun v6 _=>4-Ja v6)
 case atStart=>exact⟨0,rfl,by omega,by rw[hup];exact hJ⟩
 case round=>
  obtain⟨i,rfl,hi,hJi⟩:=hrel
  have hcase:i=0\/i=1\/i=2\/i=3\/i=4:=by omega
  rcases hcase with rfl | rfl | rfl | rfl | rfl
  ·gi_wp2
   gi_loopw [4] (fun v4 wr=>∃(w:Nat) (pre:List UInt8),v4=.int .u64 (w:Int)/\w<18446744073709551616/\J pre wr/\pre++bl w 0=up 1) (fun v4 _=>Ja v4)
   case atStart=>exact⟨a0,up 0,rfl,l0,hJi,by rw[hup];simp[Td]⟩
   case round=>
    obtain⟨w,pre,rfl,hw,hJp,hpre⟩:=hrel
    rcases DE w with hz | hpos
    ·subst hz
     gi_wp2
     refine⟨⟨1,rfl,by omega,?_⟩,by decide⟩
     rw[Oj,DY]at hpre
     rw[<- hpre];exact hJp
    ·have hne:((w:Int)==0)=false:=by
      have:¬(w:Int)=0:=by omega
      simp;omega
     have hTw:=hT _ _ hJp
     gi_wp2
     refine⟨trivial,(callsIn_wide.2 (V1 w wr hTw hpos hw)).mono ?_⟩
     rintro e w2 ⟨rfl,t,m,hwt,rfl⟩
     have ht:t<64:=by
      have g1:2 ^ t<=w:=by rw[hwt];exact Fq _ (by omega)
      exact(EC (a:=2) (by omega)).1 (B1 g1 (by rw[show(2:Nat) ^ 64=18446744073709551616 by decide];exact hw))
     have hbl:=Ok (base:=0) hwt (by rw[show(2:Nat) ^ 64=18446744073709551616 by decide];exact hw)
     clear hwt
     generalize hxb:UInt8.ofNat (0+t)=xb at hbl
     have hx8:(xb.toNat:Int)=(t:Int):=by rw[<- hxb];simp;omega
     clear hxb
     have hlen:pre.length<256:=by
      have e1:=congrArg List.length hpre
      rw[hbl,hup]at e1
      have b0:=Hp a0 0
      simp[Td]at e1
      omega
     obtain⟨fn,tmps,assign,body,hy,hR⟩:=hY pre xb w2 hJp hlen
     rw[hx8]at hy
     rw[hbl]at hpre
     have hand:bits .and .u64 (w:Int) ((w:Int)-1)=((w &&& (w-1):Nat):Int):=by
      have e1:(w:Int)-1=((w-1:Nat):Int):=by omega
      rw[e1,cn hw (by omega)]
     clear hbl hx8
     gi_wp2
     refine hR.mono ?_
     rintro e W3 ⟨rfl,hJ3⟩
     gi_wp2
     refine⟨⟨_,_,_,_,_,_,_,_,_,_,_,_,_,_,_,_,⟨w &&& (w-1),pre++[xb],rfl,B1 Lh hw,hJ3,by rw[Ao];exact hpre⟩,rfl⟩,?_⟩
     ·show Ja (.int .u64 ((w &&& (w-1):Nat):Int))<Ja (.int .u64 (w:Int))
      rw[GB,GB]
      exact B1 OO (by omega)
  ·gi_wp2
   gi_loopw [4] (fun v4 wr=>∃(w:Nat) (pre:List UInt8),v4=.int .u64 (w:Int)/\w<18446744073709551616/\J pre wr/\pre++bl w 64=up 2) (fun v4 _=>Ja v4)
   case atStart=>exact⟨a1,up 1,rfl,l1,hJi,by rw[hup];simp[Td]⟩
   case round=>
    obtain⟨w,pre,rfl,hw,hJp,hpre⟩:=hrel
    rcases DE w with hz | hpos
    ·subst hz
     gi_wp2
     refine⟨⟨2,rfl,by omega,?_⟩,by decide⟩
     rw[Oj,DY]at hpre
     rw[<- hpre];exact hJp
    ·have hne:((w:Int)==0)=false:=by
      have:¬(w:Int)=0:=by omega
      simp;omega
     have hTw:=hT _ _ hJp
     gi_wp2
     refine⟨trivial,(callsIn_wide.2 (V1 w wr hTw hpos hw)).mono ?_⟩
     rintro e w2 ⟨rfl,t,m,hwt,rfl⟩
     have ht:t<64:=by
      have g1:2 ^ t<=w:=by rw[hwt];exact Fq _ (by omega)
      exact(EC (a:=2) (by omega)).1 (B1 g1 (by rw[show(2:Nat) ^ 64=18446744073709551616 by decide];exact hw))
     have hbl:=Ok (base:=64) hwt (by rw[show(2:Nat) ^ 64=18446744073709551616 by decide];exact hw)
     clear hwt
     generalize hxb:UInt8.ofNat (64+t)=xb at hbl
     have hx8:(xb.toNat:Int)=(64:Int)+(t:Int):=by rw[<- hxb];simp;omega
     clear hxb
     have hlen:pre.length<256:=by
      have e1:=congrArg List.length hpre
      rw[hbl,hup]at e1
      have b0:=Hp a0 0
      have b1:=Hp a1 64
      simp[Td]at e1
      omega
     obtain⟨fn,tmps,assign,body,hy,hR⟩:=hY pre xb w2 hJp hlen
     rw[hx8]at hy
     rw[hbl]at hpre
     have hand:bits .and .u64 (w:Int) ((w:Int)-1)=((w &&& (w-1):Nat):Int):=by
      have e1:(w:Int)-1=((w-1:Nat):Int):=by omega
      rw[e1,cn hw (by omega)]
     clear hbl hx8
     gi_wp2
     refine hR.mono ?_
     rintro e W3 ⟨rfl,hJ3⟩
     gi_wp2
     refine⟨⟨_,_,_,_,_,_,_,_,_,_,_,_,_,_,_,_,⟨w &&& (w-1),pre++[xb],rfl,B1 Lh hw,hJ3,by rw[Ao];exact hpre⟩,rfl⟩,?_⟩
     ·show Ja (.int .u64 ((w &&& (w-1):Nat):Int))<Ja (.int .u64 (w:Int))
      rw[GB,GB]
      exact B1 OO (by omega)
  ·gi_wp2
   gi_loopw [4] (fun v4 wr=>∃(w:Nat) (pre:List UInt8),v4=.int .u64 (w:Int)/\w<18446744073709551616/\J pre wr/\pre++bl w 128=up 3) (fun v4 _=>Ja v4)
   case atStart=>exact⟨a2,up 2,rfl,l2,hJi,by rw[hup];simp[Td]⟩
   case round=>
    obtain⟨w,pre,rfl,hw,hJp,hpre⟩:=hrel
    rcases DE w with hz | hpos
    ·subst hz
     gi_wp2
     refine⟨⟨3,rfl,by omega,?_⟩,by decide⟩
     rw[Oj,DY]at hpre
     rw[<- hpre];exact hJp
    ·have hne:((w:Int)==0)=false:=by
      have:¬(w:Int)=0:=by omega
      simp;omega
     have hTw:=hT _ _ hJp
     gi_wp2
     refine⟨trivial,(callsIn_wide.2 (V1 w wr hTw hpos hw)).mono ?_⟩
     rintro e w2 ⟨rfl,t,m,hwt,rfl⟩
     have ht:t<64:=by
      have g1:2 ^ t<=w:=by rw[hwt];exact Fq _ (by omega)
      exact(EC (a:=2) (by omega)).1 (B1 g1 (by rw[show(2:Nat) ^ 64=18446744073709551616 by decide];exact hw))
     have hbl:=Ok (base:=128) hwt (by rw[show(2:Nat) ^ 64=18446744073709551616 by decide];exact hw)
     clear hwt
     generalize hxb:UInt8.ofNat (128+t)=xb at hbl
     have hx8:(xb.toNat:Int)=(128:Int)+(t:Int):=by rw[<- hxb];simp;omega
     clear hxb
     have hlen:pre.length<256:=by
      have e1:=congrArg List.length hpre
      rw[hbl,hup]at e1
      have b0:=Hp a0 0
      have b1:=Hp a1 64
      have b2:=Hp a2 128
      simp[Td]at e1
      omega
     obtain⟨fn,tmps,assign,body,hy,hR⟩:=hY pre xb w2 hJp hlen
     rw[hx8]at hy
     rw[hbl]at hpre
     have hand:bits .and .u64 (w:Int) ((w:Int)-1)=((w &&& (w-1):Nat):Int):=by
      have e1:(w:Int)-1=((w-1:Nat):Int):=by omega
      rw[e1,cn hw (by omega)]
     clear hbl hx8
     gi_wp2
     refine hR.mono ?_
     rintro e W3 ⟨rfl,hJ3⟩
     gi_wp2
     refine⟨⟨_,_,_,_,_,_,_,_,_,_,_,_,_,_,_,_,⟨w &&& (w-1),pre++[xb],rfl,B1 Lh hw,hJ3,by rw[Ao];exact hpre⟩,rfl⟩,?_⟩
     ·show Ja (.int .u64 ((w &&& (w-1):Nat):Int))<Ja (.int .u64 (w:Int))
      rw[GB,GB]
      exact B1 OO (by omega)
  ·gi_wp2
   gi_loopw [4] (fun v4 wr=>∃(w:Nat) (pre:List UInt8),v4=.int .u64 (w:Int)/\w<18446744073709551616/\J pre wr/\pre++bl w 192=up 4) (fun v4 _=>Ja v4)
   case atStart=>exact⟨a3,up 3,rfl,l3,hJi,by rw[hup];simp[Td]⟩
   case round=>
    obtain⟨w,pre,rfl,hw,hJp,hpre⟩:=hrel
    rcases DE w with hz | hpos
    ·subst hz
     gi_wp2
     refine⟨⟨4,rfl,by omega,?_⟩,by decide⟩
     rw[Oj,DY]at hpre
     rw[<- hpre];exact hJp
    ·have hne:((w:Int)==0)=false:=by
      have:¬(w:Int)=0:=by omega
      simp;omega
     have hTw:=hT _ _ hJp
     gi_wp2
     refine⟨trivial,(callsIn_wide.2 (V1 w wr hTw hpos hw)).mono ?_⟩
     rintro e w2 ⟨rfl,t,m,hwt,rfl⟩
     have ht:t<64:=by
      have g1:2 ^ t<=w:=by rw[hwt];exact Fq _ (by omega)
      exact(EC (a:=2) (by omega)).1 (B1 g1 (by rw[show(2:Nat) ^ 64=18446744073709551616 by decide];exact hw))
     have hbl:=Ok (base:=192) hwt (by rw[show(2:Nat) ^ 64=18446744073709551616 by decide];exact hw)
     clear hwt
     generalize hxb:UInt8.ofNat (192+t)=xb at hbl
     have hx8:(xb.toNat:Int)=(192:Int)+(t:Int):=by rw[<- hxb];simp;omega
     clear hxb
     have hlen:pre.length<256:=by
      have e1:=congrArg List.length hpre
      rw[hbl,hup]at e1
      have b0:=Hp a0 0
      have b1:=Hp a1 64
      have b2:=Hp a2 128
      have b3:=Hp a3 192
      simp[Td]at e1
      omega
     obtain⟨fn,tmps,assign,body,hy,hR⟩:=hY pre xb w2 hJp hlen
     rw[hx8]at hy
     rw[hbl]at hpre
     have hand:bits .and .u64 (w:Int) ((w:Int)-1)=((w &&& (w-1):Nat):Int):=by
      have e1:(w:Int)-1=((w-1:Nat):Int):=by omega
      rw[e1,cn hw (by omega)]
     clear hbl hx8
     gi_wp2
     refine hR.mono ?_
     rintro e W3 ⟨rfl,hJ3⟩
     gi_wp2
     refine⟨⟨_,_,_,_,_,_,_,_,_,_,_,_,_,_,_,_,⟨w &&& (w-1),pre++[xb],rfl,B1 Lh hw,hJ3,by rw[Ao];exact hpre⟩,rfl⟩,?_⟩
     ·show Ja (.int .u64 ((w &&& (w-1):Nat):Int))<Ja (.int .u64 (w:Int))
      rw[GB,GB]
      exact B1 OO (by omega)
  ·gi_wp2
   go_end0
   exact⟨⟨_,rfl⟩,by rw[hup]at hJi;exact hJi⟩
end
section
open Go Go.RowKit Go.AL Go.Maps Go.Sort Go.Shelf
abbrev M3 (x:UInt8):Value:=.int .u8 (x.toNat:Int)
theorem mz:f411.name≠"runtime.NumGoroutine":=by
 have h:(f411.name=="runtime.NumGoroutine")=false:=by kernel_rfl
 simpa using h
theorem gj:Go.AL.Enters prog 411:=⟨_,func411,mz,by kernel_rfl⟩
theorem i5:(prog.info? 5).map (fun i=>(i.zero,i.size,i.bytes))=some (some (.int .u8 0),1,1):=by kernel_rfl
theorem NC.below {w W:World}(h:NC w) (hb:Below w.heap.size w W):NC W:=fun t ht n hn=>by
 have h1:=h t ht n hn
 have h2:1<w.heap.size:=by
  have h3:=h 0 (by omega) 0 rfl
  unfold World.cell? at h3
  split at h3
  ·rename_i heq
   exact(Al.1 heq).1
  ·cases h3
 exact(hb.cell (p:=⟨1,t,none⟩) h2).trans h1
def Cb.apAssign:Code:=(Code.region 2 #[{ dst:=some 5,op:=Op.assign (Operand.tmp 7),type:=5,pos:="iter.go:51",after:=#[],guard:=none }] false)
def Cb.apBody:Code:=(Code.block 1 (Code.region 3 #[{ dst:=some 8,op:=Op.load 24 (Operand.tmp 2),type:=24,pos:="iter.go:52",after:=#[],guard:=none },{ dst:=some 9,op:=Op.move (Operand.tmp 5),type:=5,pos:="iter.go:52",after:=#[],guard:=none },{ dst:=some 10,op:=Op.buildSlice 24 1 #[(0,Operand.tmp 9)],type:=24,pos:="iter.go:52",after:=#[{ on:=1,ground:=Ground.data }],guard:=none },{ dst:=some 11,op:=Op.call { callee:=Callee.builtin Builtin.append,args:=#[Operand.tmp 8,Operand.tmp 10],argTypes:=#[24,24] },type:=24,pos:="iter.go:52",after:=#[{ on:=0,ground:=Ground.data },{ on:=2,ground:=Ground.data }],guard:=none },{ dst:=none,op:=Op.store 24 (Operand.tmp 2) (Operand.tmp 11),type:=0,pos:="iter.go:52",after:=#[{ on:=3,ground:=Ground.data },{ on:=3,ground:=Ground.chain },{ on:=0,ground:=Ground.phase },{ on:=1,ground:=Ground.phase },{ on:=2,ground:=Ground.phase },{ on:=3,ground:=Ground.phase }],guard:=none }] false))
def Cb.apRec (fn:FuncId) (sv:Value) (Bs D:Nat) (st:LoopState) (pend:Option Code):Loop:=
 { state:=st,pending:=pend,fn,tmps:=#[.slice none 0 0,sv,.pointer (some ⟨Bs,0,none⟩),undef,.slice none 0 0,undef,sv,undef,undef,undef,undef,undef,undef],params:=#[7],assign:=Cb.apAssign,body:=Cb.apBody,defers:=D }
structure Cb.ApAt (w0:World) (fn:FuncId) (sv:Value) (Bs l D:Nat) (ss:List UInt8) (W:World):Prop where
 box:∃v,W.heap[Bs]?=some (.cells #[v] 24 (0,0))/\W.ownsRow w0.heap.size 5 1 v ss.length (ss.map M3)/\(v=.slice none 0 0↔ss=[])
 L:W.heap[l]?=some (.loop (Cb.apRec fn sv Bs D .ready none))
 K:W.heap[D]?=some (.deferred (some []))
 below:Below w0.heap.size w0 W
set_option maxRecDepth 100000 in
set_option maxHeartbeats 2000000 in
theorem Cb.apYield (m:Nat) (w0:World) (fn:FuncId) (sv:Value) (Bs l D:Nat) (hBl:Bs≠l) (hDl:D≠l) (hDB:D≠Bs) (h0B:w0.heap.size<=Bs) (h0l:w0.heap.size<=l)
  (N:Nat) (hN:N<=maxLen) (hNb:N*1<=140737488355328) (ss:List UInt8) (x:UInt8) (W:World) (h:Cb.ApAt w0 fn sv Bs l D ss W) (hlen:ss.length<N) :
  YieldAt Fence.wide m prog l #[M3 x] W fun e W'=>e=.returned (.bool true)/\Cb.ApAt w0 fn sv Bs l D (ss++[x]) W'/\KeepsWalks W W':=by
 have hne:24≠5:=fun e=>by cases e
 obtain⟨i0,hi,hz0,hz1,hz2⟩:=info_parts i5
 obtain⟨v,hv,hrow,_⟩:=h.box
 refine⟨fn,#[.slice none 0 0,sv,.pointer (some ⟨Bs,0,none⟩),undef,.slice none 0 0,undef,sv,M3 x,undef,undef,undef,undef,undef],Cb.apAssign,Cb.apBody,by simpa[Cb.apRec]using run_yield (P:=prog) (args:=#[M3 x]) h.L rfl,roundIn_of_wpIn trivial ?_⟩
 have hl:l<W.heap.size:=(Al.1 h.L).1
 have hbr:=run_beginRound (P:=prog) h.L rfl
 obtain⟨W2,hW2⟩:∃W2,W.putObj l (.loop { Cb.apRec fn sv Bs D .ready none with state:=.busy })=W2:=⟨_,rfl⟩
 rw[hW2]at hbr
 have hg2:W.grownBy W2 (some l):=by rw[<- hW2];exact grownBy_putObj_a _ _ _
 have hk2:KeepsWalks W W2:=by rw[<- hW2];exact KeepsWalks.putObj _ h.L rfl
 have hv2:W2.heap[Bs]?=some (.cells #[v] 24 (0,0)):=by rw[<- hW2];exact(World.putObj_heap_other hBl).trans hv
 have hK2:W2.heap[D]?=some (.deferred (some [])):=by rw[<- hW2];exact(World.putObj_heap_other hDl).trans h.K
 have hL2:W2.heap[l]?=some (.loop { Cb.apRec fn sv Bs D .ready none with state:=.busy }):=by rw[<- hW2];exact World.putObj_heap_same hl
 have hrow2:W2.ownsRow w0.heap.size 5 1 v ss.length (ss.map M3):=hrow.kept hg2 (ownsRow_ne_a hrow h.L (fun cur e=>by first | cases e | exact hne (Obj.cells.inj e).2.1))
 have hb2:Below w0.heap.size w0 W2:=h.below.grown hg2 h.below.size (fun k e=>by cases e;exact h0l)
 obtain⟨Us,hf2⟩:=cell_of_box_a hv2
 have hBlt:Bs<W2.heap.size:=(Al.1 hv2).1
 have hl2:l<W2.heap.size:=(Al.1 hL2).1
 have hDlt:D<W2.heap.size:=(Al.1 hK2).1
 have ne_of:∀{j:Nat} {o:Obj},W2.heap[j]?=some o->(∀cur,o≠.cells cur 5 (0,0))->some j≠v.ownBlock:=fun hj hno=>by
  rcases ownsRow_ne_a hrow2 hj hno with e | e
  ·rw[e];simp
  ·exact fun e'=>e e'.symm
 clear hW2
 unfold Cb.apAssign
 gi_wp2_with gi_round_op_a
 unfold Cb.apBody
 gi_wp2_with (first
  | (
    gi_at_builtin;refine wpListIn_append_own _ rfl _ _ 24 rfl w0.heap.size 5 i0 (.int .u8 0) 1 1 underlying24 hi hz0 hz1 hz2 rfl (by decide) _ _ _ rfl (hrow2.alloc _) ⟨W2.heap.size,0,none⟩ 1 1 [M3 x] rfl rfl (cell_one_new _ _ _) (by simp[Value.oneCell',M3]) (by omega) (by omega) (by have:=hb2.size;simp;omega) ?_;intro v' w3 hown' hg3 hnil3
    have hv3:w3.heap[Bs]?=some (.cells #[v] 24 (0,0)):=(hg3.block Bs (by simp;omega) (ne_of hv2 (fun cur e=>by first | cases e | exact hne (Obj.cells.inj e).2.1))).trans ((Below.heap_alloc _ _ Bs hBlt).trans hv2)
    obtain⟨QD,hf3⟩:=cell_of_box_a hv3
    obtain⟨g',cap',cur',rfl,hbase',hgb',hr1,hr2,hr3,hr4⟩:∃g' cap' cur',v'=.slice (some ⟨g',0,none⟩) (ss.length+1) cap'/\w0.heap.size<=g'/\w3.heap[g']?=some (.cells cur' 5 (0,0))/\ss.length+1<=cap'/\cap'<=maxLen/\cur'.size=cap'*1/\cur'.toList.take ((ss.length+1)*1)=ss.map M3++[M3 x]:=by
     rcases hown'.2 with⟨_,h0⟩ | h'
     ·exact absurd h0 (by omega)
     ·exact h'
    go_frame)
  | gi_round_op_a)
 have hg3':(W2.alloc (.cells #[M3 x] 5)).grownBy w3 v.ownBlock:=hg3
 have hL3:w3.heap[l]?=some (.loop { Cb.apRec fn sv Bs D .ready none with state:=.busy }):=(hg3'.block l (by simp;omega) (ne_of hL2 (fun cur e=>by first | cases e | exact hne (Obj.cells.inj e).2.1))).trans ((Below.heap_alloc _ _ l hl2).trans hL2)
 have hK3:w3.heap[D]?=some (.deferred (some [])):=(hg3'.block D (by simp;omega) (ne_of hK2 (fun cur e=>by first | cases e | exact hne (Obj.cells.inj e).2.1))).trans ((Below.heap_alloc _ _ D hDlt).trans hK2)
 obtain⟨w4,hw4⟩:∃w4,w3.setCell ⟨Bs,0,none⟩ (.slice (some ⟨g',0,none⟩) (ss.length+1) cap')=w4:=⟨_,rfl⟩
 rw[hw4]
 have hg4:w3.grownBy w4 (some Bs):=by rw[<- hw4];exact grownBy_setCell0_a _ _ _
 have hv4:w4.heap[Bs]?=some (.cells #[.slice (some ⟨g',0,none⟩) (ss.length+1) cap'] 24 (0,0)):=by rw[<- hw4];exact heap_setCell_box_a _ hv3
 have hL4:w4.heap[l]?=some (.loop { Cb.apRec fn sv Bs D .ready none with state:=.busy }):=(hg4.block l (Al.1 hL3).1 (fun e=>hBl (by cases e;rfl))).trans hL3
 have hK4:w4.heap[D]?=some (.deferred (some [])):=(hg4.block D (Al.1 hK3).1 (fun e=>hDB (by cases e;rfl))).trans hK3
 have hrow4:=hown'.kept hg4 (ownsRow_ne_a hown' hv3 (fun cur e=>by first | cases e | exact hne (Obj.cells.inj e).2.1))
 have hl4:l<w4.heap.size:=(Al.1 hL4).1
 have hb3:Below w0.heap.size w0 w3:=(hb2.alloc hb2.size _).grown hg3' (by have:=hb2.size;simp;omega) (fun k e=>(hrow2.lt k e).1)
 have hb4:Below w0.heap.size w0 w4:=hb3.grown hg4 hb3.size (fun k e=>by cases e;exact h0B)
 have hk4:KeepsWalks W w4:=((hk2.trans (KeepsWalks.alloc _ _)).trans (KeepsWalks.of_grownBy hg3' (ownsRow_not_walk_a (hrow2.alloc _)))).trans (by rw[<- hw4];exact KeepsWalks.setCell _ _ _)
 clear hw4
 refine⟨_,_,run_endRound none hL4,rfl,⟨⟨_,(World.putObj_heap_other hBl).trans hv4,?_,by simp⟩,World.putObj_heap_same hl4,(World.putObj_heap_other hDl).trans hK4,hb4.grown (grownBy_putObj_a _ _ _) hb4.size (fun k e=>by cases e;exact h0l)⟩,hk4.trans (KeepsWalks.putObj _ hL4 rfl)⟩
 have:=hrow4.kept (grownBy_putObj_a w4 l (.loop { { Cb.apRec fn sv Bs D .ready none with state:=.busy }with state:=if (none:Option Code).isNone then .ready else .done,pending:=none })) (ownsRow_ne_a hrow4 hL4 (fun cur e=>by first | cases e | exact hne (Obj.cells.inj e).2.1))
 simpa using this
set_option maxRecDepth 100000 in
set_option maxHeartbeats 2000000 in
theorem Cb.appendSeq_in (b off a0 a1 a2 a3:Nat) (w:World) (hT:NC w) (hb:b<w.heap.size)
  (h0:w.cell? ⟨b,off,none⟩=some (.int .u64 (a0:Int))) (h1:w.cell? ⟨b,off+1,none⟩=some (.int .u64 (a1:Int))) (h2:w.cell? ⟨b,off+2,none⟩=some (.int .u64 (a2:Int))) (h3:w.cell? ⟨b,off+3,none⟩=some (.int .u64 (a3:Int)))
  (l0:a0<18446744073709551616) (l1:a1<18446744073709551616) (l2:a2<18446744073709551616) (l3:a3<18446744073709551616) :
  CallsIn Fence.wide 5 prog 410 #[.slice none 0 0,.func (.func 411) #[] #[.pointer (some ⟨b,off,none⟩)]] w fun e w'=>∃v:Value,e=.returned v/\w'.ownsRow w.heap.size 5 1 v (Td a0 a1 a2 a3).length ((Td a0 a1 a2 a3).map M3)/\(v=.slice none 0 0↔Td a0 a1 a2 a3=[])/\Below w.heap.size w w':=by
 have hne:24≠5:=fun e=>by cases e
 refine callsIn_of_wp_marks func410 rfl trivial ?_ rfl
 simp only[ntmps410,JI,BV,Gv,Nat.reduceAdd,Nat.reduceSub,JQ,JO,Li,JS,B7,Ec]
 gi_wp2
 refine wpIn_rangeFunc ?_
 intro fn hfn
 obtain⟨W0,hW0⟩:∃W0,w.alloc (.cells #[.slice none 0 0] 24)=W0:=⟨_,rfl⟩
 have hs0:W0.heap.size=w.heap.size+1:=by rw[<- hW0];simp
 have hv0:W0.heap[w.heap.size]?=some (.cells #[.slice none 0 0] 24 (0,0)):=by rw[<- hW0];exact World.alloc_heap_new w _
 have hb0:Below w.heap.size w W0:=by rw[<- hW0];exact(Below.refl _ w).alloc (A5 _) _
 rw[hW0]
 obtain⟨W1,hW1⟩:∃W1,(W0.alloc (.deferred (some []))).alloc (.loop (Cb.apRec fn (.func (.func 411) #[] #[.pointer (some ⟨b,off,none⟩)]) w.heap.size W0.heap.size .ready none))=W1:=⟨_,rfl⟩
 have hold:∀k,k<W0.heap.size->W1.heap[k]?=W0.heap[k]?:=fun k hk=>by
  rw[<- hW1];exact(Below.heap_alloc _ _ k (by simp;omega)).trans (Below.heap_alloc _ _ k hk)
 have hb1:Below w.heap.size w W1:=by rw[<- hW1];exact(hb0.alloc hb0.size _).alloc (by have:=hb0.size;simp;omega) _
 have hs1:W1.heap.size=W0.heap.size+2:=by rw[<- hW1];simp
 have hM:Cb.ApAt w fn (.func (.func 411) #[] #[.pointer (some ⟨b,off,none⟩)]) w.heap.size (W0.heap.size+1) W0.heap.size [] W1:=
  ⟨⟨_,(hold w.heap.size (by omega)).trans hv0,⟨rfl,.inl ⟨rfl,rfl⟩⟩,by simp⟩,
   by rw[<- hW1];have:=World.alloc_heap_new (W0.alloc (.deferred (some []))) (.loop (Cb.apRec fn (.func (.func 411) #[] #[.pointer (some ⟨b,off,none⟩)]) w.heap.size W0.heap.size .ready none));rwa [World.size_alloc]at this,
   by rw[<- hW1];exact(Below.heap_alloc _ _ _ (by simp)).trans (World.alloc_heap_new W0 _),hb1⟩
 refine⟨W0.heap.size+1,[{ target:=.collected W0.heap.size,args:=#[] }],W1,{ target:=.fn (.func 411) #[.pointer (some ⟨b,off,none⟩)],args:=#[.func (.yield (W0.heap.size+1)) #[] #[]] },W1,411,
  #[.func (.yield (W0.heap.size+1)) #[] #[]]++#[.pointer (some ⟨b,off,none⟩)],W1,?_,?_,?_,?_,fun _=>by omega,?_⟩
 ·rw[<- hW1];exact run_enterLoop_outer _ _ _ _ _
 ·simp[resolve,go_sem]
 ·intro f' hf';simp[Target.leads]at hf';subst hf';exact trivial
 ·simp[invoke,go_sem,EJ gj]
 ·have hcell:∀k:Nat,W1.cell? ⟨b,off+k,none⟩=w.cell? ⟨b,off+k,none⟩:=fun k=>hb1.cell (p:=⟨b,off+k,none⟩) hb
  have hcell0:W1.cell? ⟨b,off,none⟩=w.cell? ⟨b,off,none⟩:=hb1.cell (p:=⟨b,off,none⟩) hb
  refine(fB 4 (W0.heap.size+1) b off (by omega) a0 a1 a2 a3 (Cb.ApAt w fn (.func (.func 411) #[] #[.pointer (some ⟨b,off,none⟩)]) w.heap.size (W0.heap.size+1) W0.heap.size) W1 (fun pre W' hJ=>hT.below hJ.below) (by rw[hcell0];exact h0) (by rw[hcell 1];exact h1) (by rw[hcell 2];exact h2) (by rw[hcell 3];exact h3) l0 l1 l2 l3
   (fun pre x W hJ hl=>?_) hM).mono ?_
  ·obtain⟨fn',tmps,assign,body,q1,q2⟩:=Cb.apYield (4-1) w fn _ w.heap.size (W0.heap.size+1) W0.heap.size (by omega) (by omega) (by omega) (A5 _) (by omega) 256 (by decide) (by decide) pre x W hJ hl
   exact⟨fn',tmps,assign,body,q1,q2.mono fun e W' h=>⟨h.1,h.2.1⟩⟩
  rintro e W2 ⟨⟨v0,rfl⟩,h2⟩
  obtain⟨v,hv,hrow,hnil⟩:=h2.box
  have hend:=run_endLoop (P:=prog) h2.L (by simp[Cb.apRec])
  obtain⟨W3,hW3⟩:∃W3,W2.putObj (W0.heap.size+1) (.loop { Cb.apRec fn (.func (.func 411) #[] #[.pointer (some ⟨b,off,none⟩)]) w.heap.size W0.heap.size .ready none with state:=.exhausted })=W3:=⟨_,rfl⟩
  rw[hW3]at hend
  have hg3:W2.grownBy W3 (some (W0.heap.size+1)):=by rw[<- hW3];exact grownBy_putObj_a _ _ _
  have hv3:W3.heap[w.heap.size]?=some (.cells #[v] 24 (0,0)):=by rw[<- hW3];exact(World.putObj_heap_other (by omega)).trans hv
  have hK3:W3.heap[W0.heap.size]?=some (.deferred (some [])):=by rw[<- hW3];exact(World.putObj_heap_other (by omega)).trans h2.K
  have hrow3:=hrow.kept hg3 (ownsRow_ne_a hrow h2.L (fun cur e=>by first | cases e | exact hne (Obj.cells.inj e).2.1))
  have hb3:Below w.heap.size w W3:=h2.below.grown hg3 h2.below.size (fun k e=>by cases e;omega)
  obtain⟨QD,hf3⟩:=cell_of_box_a hv3
  clear hW3
  refine⟨none,W3,hend,?_⟩
  gi_wp2
  rw[<- hs0]
  refine⟨by simp,.inl ⟨_,_,rfl,run_takeDeferred hK3,?_⟩⟩
  exact⟨_,results_tmp rfl _ _ _,v,rfl,hrow3.kept (grownBy_putObj_a _ _ _) (ownsRow_ne_a hrow3 hK3 (fun cur e=>by first | cases e | exact hne (Obj.cells.inj e).2.1)),hnil,hb3.grown (grownBy_putObj_a _ _ _) hb3.size (fun k e=>by cases e;omega)⟩
end
end Go.Proofs.YtlmkmpomgdbjhaaGreatDoor
namespace Go.Proofs.YtlmkmpomgdbjhaaGreatDoor.San
open Tryz
noncomputable section
open Go Go.AL
variable [BX]
def Ez (w:Nat) (base:Nat):Nat->List AV->List AV:=fun n=>Nat.rec (motive:=fun _=>List AV->List AV) (fun acc=>acc) (fun m ih acc=>ih (bif Nat.beq (Nat.mod (Nat.div w (Nat.pow 2 m)) 2) 1 then N .u8 (Nat.add base m)::acc else acc)) n
def word (l:List AV) (i:Nat):Option Nat:=match TA l i with
 | some (.int .u64 (.ofNat n))=>bif Nat.ble n 18446744073709551615 then some n else none
 | _=>none
def Ms:Ag:=fun g ar h=>bif Nat.beq g 410 then(match ar with
 | [.nils,.fn (.func f) [] [.ptr r o]]=>bif Nat.beq f 411 then(match Bz h r with
  | some l=>(match word l o,word l (o+1),word l (o+2),word l (o+3)with
   | some a,some b,some c,some d=>(match Ez a 0 64 (Ez b 64 64 (Ez c 128 64 (Ez d 192 64 [])))with
    | []=>.ret .nils h
    | x::xs=>h.Iy (x::xs) .bad fun nx h'=>.ret (.sl nx 0 (Fi (x::xs)) (.op 1)) h')
   | _,_,_,_=>.bad)
  | none=>.bad)else .bad
 | _=>.bad)else .bad
end
end Go.Proofs.YtlmkmpomgdbjhaaGreatDoor.San
namespace Go.AL
theorem WR.newAt {Z:Zt}{σ:Sg}{H:AH}{w w':World}(h:WR Z σ H w) (hB:Go.RowKit.Below w.heap.size w w'){ao:Cy}{p:JA}(hp:w.heap.size<=p.b) (ho:Is Z (σ.add H.next p) w' p ao):WR Z (σ.add H.next p) (H.push ao) w':=by
 have hf:σ H.next=none:=h.fresh _ (A5 _)
 have hlt:∀r o' p',H.get r=some o'->σ r=some p'->p'.b<w.heap.size:=fun r o' p' h1 h2=>(h.h r o' p' h1 h2).2.lt
 refine⟨fun b o' hz=>?_,fun r o' p' hr hp'=>?_,fun r r' o1 o2 p1 p2 h1 h2 h3 h4 he=>?_,fun r hr=>?_,fun r hr=>?_,h.rest.to ⟨hB.os,hB.output⟩⟩
 ·have:=h.z b o' hz
  rw[hB.block b (Al.1 this).1];exact this
 ·by_cases e:r=H.next
  ·subst e
   simp only[AH.DK,AD]at hr
   simp only[Sg.add_same,AD]at hp'
   subst hr;subst hp'
   refine⟨?_,ho⟩
   cases hz:Z p.b with
   | none=>rfl
   | some x=>have:=(Al.1 (h.z _ _ hz)).1;omega
  ·rw[AH.Ae _ _ e]at hr
   have hp'':σ r=some p':=by simpa[Sg.add,e]using hp'
   obtain⟨h1,h2⟩:=h.h r o' p' hr hp''
   exact⟨h1,h2.mono (CR.refl _) (Sg.GX hf) (hB.block _ h2.lt)⟩
 ·by_cases e1:r=H.next<;>by_cases e2:r'=H.next
  ·rw[e1,e2]
  ·rw[AH.Ae _ _ e2]at h2
   have h4':σ r'=some p2:=by simpa[Sg.add,e2]using h4
   subst e1
   simp only[Sg.add_same,AD]at h3
   subst h3
   have:=hlt _ _ _ h2 h4'
   omega
  ·rw[AH.Ae _ _ e1]at h1
   have h3':σ r=some p1:=by simpa[Sg.add,e1]using h3
   subst e2
   simp only[Sg.add_same,AD]at h4
   subst h4
   have:=hlt _ _ _ h1 h3'
   omega
  ·rw[AH.Ae _ _ e1]at h1
   rw[AH.Ae _ _ e2]at h2
   exact h.inj r r' o1 o2 p1 p2 h1 h2 (by simpa[Sg.add,e1]using h3) (by simpa[Sg.add,e2]using h4) he
 ·simp only[AH.Gr]at hr
  have:r≠H.next:=by omega
  simp only[Sg.add,this,if_false]
  exact h.fresh r (by omega)
 ·simp only[AH.Gr]at hr
  rw[AH.Ae _ _ (by omega)]
  exact h.top r (by omega)
theorem WR.below {Z:Zt}{σ:Sg}{H:AH}{w w':World}(h:WR Z σ H w) (hB:Go.RowKit.Below w.heap.size w w'):WR Z σ H w':=by
 refine⟨fun b o' hz=>?_,fun r o' p' hr hp'=>?_,h.inj,h.fresh,h.top,h.rest.to ⟨hB.os,hB.output⟩⟩
 ·have:=h.z b o' hz
  rw[hB.block b (Al.1 this).1];exact this
 ·obtain⟨h1,h2⟩:=h.h r o' p' hr hp'
  exact⟨h1,h2.mono (CR.refl _) (fun _ _ h=>h) (hB.block _ h2.lt)⟩
end Go.AL
namespace Go.Proofs.YtlmkmpomgdbjhaaGreatDoor
open Tryz
section
open Go Go.AL
open Go.Proofs.YtlmkmpomgdbjhaaGreatDoor.San (Ez word Ms)
variable [BX]
theorem J1 (w base:Nat) (hb:base+64<=256):∀(n:Nat) (acc:List AV),n<=64->Ez w base n acc=(((List.range n).filter fun j=>w.testBit j).map fun j=>bv (UInt8.ofNat (base+j)))++acc
 | 0,acc,_=>rfl
 | n+1,acc,hn=>by
  have e:Ez w base (n+1) acc=Ez w base n (bif Nat.beq (Nat.mod (Nat.div w (Nat.pow 2 n)) 2) 1 then N .u8 (Nat.add base n)::acc else acc):=rfl
  rw[e,J1 w base hb n _ (by omega),List.range_succ,SO,Fc,Ao]
  congr 1
  have ht:w.testBit n=Nat.beq (Nat.mod (Nat.div w (Nat.pow 2 n)) 2) 1:=by
   rw[Nat.testBit_eq_decide_div_mod_eq]
   show decide (w / 2 ^ n % 2=1)=Nat.beq (w / 2 ^ n % 2) 1
   by_cases h:w / 2 ^ n % 2=1
   ·rw[h];rfl
   ·rw[decide_eq_false h]
    cases hq:Nat.beq (w / 2 ^ n % 2) 1 with
    | false=>rfl
    | true=>exact absurd (Cn hq) h
  rw[Oy,List.filter_nil,ht]
  cases Nat.beq (Nat.mod (Nat.div w (Nat.pow 2 n)) 2) 1 with
  | false=>rfl
  | true=>
   show AV.int .u8 ((base+n:Nat):Int)::acc=AV.int .u8 (((UInt8.ofNat (base+n)).toNat:Nat):Int)::acc
   have:(UInt8.ofNat (base+n)).toNat=base+n:=by simp;omega
   rw[this]
theorem oY (a b c d:Nat):Ez a 0 64 (Ez b 64 64 (Ez c 128 64 (Ez d 192 64 [])))=(Td a b c d).map bv:=by
 rw[J1 d 192 (by omega) 64 _ (by omega),J1 c 128 (by omega) 64 _ (by omega),J1 b 64 (by omega) 64 _ (by omega),J1 a 0 (by omega) 64 _ (by omega)]
 simp[Td,bl,Function.comp_def]
theorem Zn {l:List AV}{i a:Nat}(h:word l i=some a):l[i]?=some (.int .u64 (a:Int))/\a<18446744073709551616:=by
 unfold word at h
 rw[MN]at h
 split at h
 ·rename_i n heq
  cases hb:Nat.ble n 18446744073709551615 with
  | false=>rw[hb]at h;cases h
  | true=>
   rw[hb]at h
   have h:some n=some a:=h
   cases h
   exact⟨heq,by have:=Ab hb;omega⟩
 ·cases h
class Bw:Prop where
 Tb:∃o,BX.G 1=some o/\∀w:World,w.heap[1]?=some o->NC w
theorem oT:Go.AL.Enters prog 410:=⟨_,func410,by
 have h:(f410.name=="runtime.NumGoroutine")=false:=by kernel_rfl
 simpa using h,by kernel_rfl⟩
theorem Xt (Z:Zt) (σ:Sg):∀l:List UInt8,CE Z σ (l.map bv) (l.map M3)
 | []=>.nil
 | _::l=>.cons (.int _ _) (Xt Z σ l)
set_option maxHeartbeats 1000000 in
theorem call410 [hC:Bw] {H:AH}{r o:Nat}{l:List AV}{a b c d:Nat}(hg:H.gl=BX.G) (hl:H.cells? r=some l) (ha:word l o=some a) (hb:word l (o+1)=some b) (hc:word l (o+2)=some c) (hd:word l (o+3)=some d) :
  AP prog 410 [.nils,.fn (.func 411) [] [.ptr r o]] H (fun out H'=>match (Td a b c d).map bv with
   | []=>out=.ret .nils/\H'=H
   | x::xs=>out=.ret (.sl H.next 0 (x::xs).length (.op 1))/\H'=H.push (.cells (x::xs))):=by
 refine⟨oT,fun Z σ w vs hW hv=>?_⟩
 cases hv with
 | cons h1 hv=>
 cases hv with
 | cons h2 hv=>
 cases hv
 cases h1
 cases h2 with
 | fn g1 g2=>
 rename_i vf vc
 have hvf:vf=#[]:=by
  cases hvf:vf.toList with
  | nil=>exact DI (by simpa using hvf)
  | cons _ _=>rw[hvf]at g1;cases g1
 subst hvf
 obtain⟨p,hvc,hp⟩:∃p:JA,vc=#[.pointer (some ⟨p.b,p.base+o,none⟩)]/\σ r=some p:=by
  cases hvc:vc.toList with
  | nil=>rw[hvc]at g2;cases g2
  | cons y ys=>
   rw[hvc]at g2
   cases g2 with
   | cons q1 q2=>
    cases q2
    cases q1 with
    | ptr hs=>exact⟨_,DI (by simpa using hvc),hs⟩
 subst hvc
 obtain⟨z0,cc,e,fr,hb1,hb2,hb3,hb4,hb5,hb6⟩:=hW.row hl hp
 have hblt:p.b<w.heap.size:=(Al.1 hb1).1
 have cellOf:∀(k n:Nat),word l (o+k)=some n->w.cell? ⟨p.b,p.base+o+k,none⟩=some (.int .u64 (n:Int))/\n<18446744073709551616:=fun k n hk=>by
  obtain⟨q1,q2⟩:=Zn hk
  refine⟨?_,q2⟩
  obtain⟨v,q3,q4⟩:=hb5.get q1
  have hlt:o+k<l.length:=(BU.1 q1).1
  rw[EE,if_pos hlt,DX]at q3
  have q3:cc[p.base+(o+k)]?=some v:=by simpa using q3
  cases q4
  simp only[World.cell?,hb1]
  rw[Fs]
  simpa using q3
 obtain⟨oo,ho1,ho2⟩:=hC.Tb
 have hT:NC w:=ho2 w (hW.z 1 oo (hW.rest.2.2 1 oo (by rw[hg];exact ho1)).1)
 have c0:=cellOf 0 a ha
 have c1:=cellOf 1 b hb
 have c2:=cellOf 2 c hc
 have c3:=cellOf 3 d hd
 have hcall:=callsIn_wide.1 (Cb.appendSeq_in p.b (p.base+o) a b c d w hT hblt c0.1 c1.1 c2.1 c3.1 c0.2 c1.2 c2.2 c3.2)
 refine Calls.mono hcall ?_
 rintro en w' ⟨v,rfl,hrow,hnil,hbel⟩
 generalize hss:Td a b c d=ss at hrow hnil
 cases ss with
 | nil=>
  have hv0:=hnil.2 rfl
  subst hv0
  exact⟨Z,σ,H,.ret .nils,CR.refl _,Nw.refl _ _,A5 _,hW.below hbel,⟨_,rfl,.nils⟩,rfl,rfl⟩
 | cons x xs=>
  rcases hrow.2 with⟨_,h0⟩ | ⟨g,cap,cur,rfl,q1,q2,q3,q4,q5,q6⟩
  ·simp at h0
  ·have hcur:cur.size=cap:=by omega
   have htk:cur.toList.take ((x::xs).map bv).length=(x::xs).map M3:=by
    have:((x::xs).map bv).length=(x::xs).length*1:=by simp
    rw[this];exact q6
   have hne:cap≠0:=by simp at q3;omega
   refine⟨Z,σ.add H.next ⟨g,0,cap⟩,H.push (.cells ((x::xs).map bv)),.ret (.sl H.next 0 ((x::xs).map bv).length (.op 1)),CR.refl _,Nw.add _ _ _,by simp,hW.newAt hbel q1 ?_,⟨_,rfl,?_⟩,rfl,rfl⟩
   ·refine .cells (c:=cur) (e:=5) (fr:=(0,0)) q2 hcur (.inl rfl) ?_ ?_ ?_
    ·show 0+((x::xs).map bv).length<=cur.size
     rw[BR,hcur];omega
    ·show CE Z _ ((x::xs).map bv) ((cur.toList.drop 0).take ((x::xs).map bv).length)
     rw[B_,htk]
     exact Xt _ _ (x::xs)
    ·show ∀v∈(cur.toList.drop 0).take ((x::xs).map bv).length,v.oneCell'=true
     rw[B_,htk]
     intro v hv
     obtain⟨y,_,rfl⟩:=Bt.1 hv
     rfl
   ·have:((x::xs).map bv).length=(x::xs).length:=by simp
    rw[this]
    exact .slo (p:=⟨g,0,cap⟩) (Sg.add_same _ _ _) q3 (by show 0+0+cap*1<=cap;omega)
theorem mr [Bw]:AW prog Ms:=by
 intro g ar h
 have key:∀kc,Ms g ar h=kc->kc=.bad\/∃r o l a b c d,g=410/\ar=[.nils,.fn (.func 411) [] [.ptr r o]]/\Bz h r=some l/\word l o=some a/\word l (o+1)=some b/\word l (o+2)=some c/\word l (o+3)=some d /\
   (match Ez a 0 64 (Ez b 64 64 (Ez c 128 64 (Ez d 192 64 [])))with
    | []=>KC.ret .nils h
    | x::xs=>h.Iy (x::xs) .bad fun nx h'=>.ret (.sl nx 0 (Fi (x::xs)) (.op 1)) h')=kc:=by
  intro kc hk
  unfold Ms at hk
  cases hg:Nat.beq g 410 with
  | false=>rw[hg]at hk;exact .inl hk.symm
  | true=>
   rw[hg]at hk
   simp only[cond_true]at hk
   split at hk
   ·rename_i f r o
    cases hf:Nat.beq f 411 with
    | false=>rw[hf]at hk;exact .inl hk.symm
    | true=>
     rw[hf]at hk
     simp only[cond_true]at hk
     split at hk
     ·rename_i l hl
      split at hk
      ·rename_i a b c d ha hb hc hd
       have e1:=Cn hg
       have e2:=Cn hf
       subst e1;subst e2
       exact .inr ⟨r,o,l,a,b,c,d,rfl,rfl,hl,ha,hb,hc,hd,hk⟩
      ·exact .inl hk.symm
     ·exact .inl hk.symm
   ·exact .inl hk.symm
 have main:∀v h',Ms g ar h=.ret v h'->AP prog g ar (Ai h) (fun o H'=>o=.ret v/\H'=Ai h'):=fun v h' hk=>by
  rcases key _ hk with h0 | ⟨r,o,l,a,b,c,d,rfl,rfl,hl,ha,hb,hc,hd,hm⟩
  ·cases h0
  ·refine(call410 (H:=Ai h) rfl (by rw[<- Bq];exact hl) ha hb hc hd).mono fun out H' hp=>?_
   rw[oY]at hm
   cases hs:(Td a b c d).map bv with
   | nil=>rw[hs]at hm hp;cases hm;exact hp
   | cons x xs=>
    rw[hs]at hm hp
    obtain⟨h1,q1,q2⟩:=KH.DC hm (by simp)
    cases q2
    rw[FM]
    exact⟨hp.1,by rw[q1];exact hp.2⟩
 refine⟨main,fun v h' hk=>?_⟩
 rcases key _ hk with h0 | ⟨r,o,l,a,b,c,d,rfl,rfl,hl,ha,hb,hc,hd,hm⟩
 ·cases h0
 ·exfalso
  cases hs:Ez a 0 64 (Ez b 64 64 (Ez c 128 64 (Ez d 192 64 [])))with
  | nil=>rw[hs]at hm;cases hm
  | cons x xs=>
   rw[hs]at hm
   obtain⟨h1,q1,q2⟩:=KH.DC hm (by simp)
   cases q2
end
end Go.Proofs.YtlmkmpomgdbjhaaGreatDoor
