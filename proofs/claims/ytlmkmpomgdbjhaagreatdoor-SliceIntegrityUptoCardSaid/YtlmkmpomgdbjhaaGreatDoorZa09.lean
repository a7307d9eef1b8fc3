import Derived.Test.YtlmkmpomgdbjhaaGreatDoorZa08
import Derived.Shelf.SlIterI.Collect
import Derived.Test.YtlmkmpomgdbjhaaGreatDoorProg
/-
  a part of the proof.
-/
set_option linter.unusedSectionVars false
set_option linter.unusedVariables false
set_option linter.unusedSimpArgs false
namespace Go.AL
section
open Sha
variable [BQ]
theorem CP.iQ {P:Program}{g:FuncId}{al al':List AV}{H:AH}{R:AV}(h:∀H',H'.gl=BQ.G->CP P g al' H' fun x=>x=R) (hR:WO R) (hs:Gy 0 al') (ha:B6 H (fun _=>True) al al') (hg:H.gl=BQ.G):CP P g al H fun x=>x=R:=by
 have hC:=h ⟨fun _=>none,0,BQ.G⟩ rfl
 refine AQ.mono (AQ.MI (AQ.mono hC fun o H' hq=>?_) hs ha (fun r=>rfl) hg) fun o H' hq=>⟨hq.2,_,hq.1,rfl⟩
 obtain⟨rfl,x,rfl,rfl⟩:=hq
 exact⟨_,rfl,.pln hR⟩
theorem Zq:∀l:List UInt8,TE (l.map bv)
 | []=>.nil
 | _::l=>.cons (.int _ _) (Zq l)
theorem It.sc {bs:List UInt8}{v:AV}(h:It bs v) (k:Nat):Sc k v:=by
 rcases h with⟨_,rfl⟩ | ⟨b,rfl⟩
 ·exact .nils
 ·exact .sim (Dn _ k)
theorem It.one {bs:List UInt8}{v:AV}(h:It bs v):v.cellsOf=some [v]:=by
 rcases h with⟨_,rfl⟩ | ⟨b,rfl⟩<;>rfl
def Gz (n:Int):List UInt8:=rq (n % 18446744073709551616).toNat
theorem aJ (n:Int) (k:Nat) (hk:k<8):(Gz n).take k++[UInt8.ofNat ((n % 18446744073709551616).toNat >>> (8*k))]=(Gz n).take (k+1):=by
 unfold Gz
 match k,hk with
 | 0,_ | 1,_ | 2,_ | 3,_ | 4,_ | 5,_ | 6,_ | 7,_=>rfl
 | n+8,h=>omega
theorem HI (n:Int):(Gz n).length=8:=rfl
theorem lO {n:Int}{K:AV->Prop}(hK:K (uv (n % 18446744073709551616).toNat)):AB (.convI .u64 (.cst (iv n))) K:=AA (by
 show some (AV.int .u64 (IntKind.u64.wrap n))=_
 rw[Ej]
 congr 2
 omega) hK
end
end Go.AL
namespace Go.Proofs.YtlmkmpomgdbjhaaGreatDoor
open Tryz
section
open Go Go.AL Go.AL.Sha
variable [BQ]
theorem fV [Bj] {H:AH}{key bs sec:List UInt8}{v:AV}(hg:H.gl=BQ.G) (hk:key.length=32) (hs:sec.length=32) (hv:It bs v) (hl:bs.length<68719400000) :
  CP prog 21 [.agg (key.map bv),v,.agg (sec.map bv)] H fun x=>x=.agg ((keyed sec (key++bs)).map bv):=CP.of <| by
 refine T21 ?_
 unfold xo
 refine(A2.start H).box (c:=key.map bv) rfl fun qk H1 s=>s.box (c:=sec.map bv) rfl fun qs H2 s=>s.alloc fun q3 H3 s=>?_
 refine s.Gx (.tail _ (.head _)) (by rw[Au,hs]) ?_
 refine AA (v:=.sl qk 0 32 (.ex 32)) rfl ?_
 refine fc (s.bs (out:=[.sl qk 0 32 (.ex 32),v]) (by rcases hv with⟨_,rfl⟩ | ⟨b,rfl⟩<;>rfl) fun q4 H4 s=>?_)
 have hp:FL 1 (Rw [key,bs]) [key,bs].length (.sim [.sim (key.map bv) 32 false,v] 2 true):=FL.kh rfl (fun _=>rfl) fun i y hy=>by
  match i,hy with
  | 0,hy=>cases hy;exact⟨fun k=>.sim (Dn _ k),_,key,rfl,rfl,.inr ⟨false,by rw[hk]⟩⟩
  | 1,hy=>cases hy;exact⟨fun k=>hv.sc k,_,bs,rfl,rfl,hv⟩
  | n+2,hy=>simp at hy
 have hfl:[key,bs].flatten=key++bs:=by simp
 have s':A2 H ([(q4,[.sl qk 0 32 (.ex 32),v]),(qk,key.map bv)]++[(q3,BD 32 (N .u8 0) []),(qs,sec.map bv)]) H4:=s.perm (by
  refine List.Perm.cons _ ?_
  show List.Perm ([(qk,_)]++[(q3,_),(qs,_)]) ([(q3,_),(qs,_)]++[(qk,_)])
  exact Jy)
 clear s
 refine A2.bq _ s' (ar':=[.sim [.sim (key.map bv) 32 false,v] 2 true]) ?_ (fun H' _=>ew hp (show 2<1099511627776 by omega) (by rw[hfl,AW,hk];omega)) fun x H5 s hx=>?_
 ·exact .cons (ES.row (BY ..) (s'.at_ (.head _)) (.cons (ES.row (by simp) (s'.at_ (.tail _ (.head _))) (EI _) (fun h=>by cases h) (fun h=>by cases h)) (.cons (.same _) .nil)) (fun h=>by cases h) (fun _=>rfl)) .nil
 rw[hfl]at hx
 refine⟨⟨s.UH (d:=sec.map bv) (.tail _ (.head _)) (by rw[B5];exact AX (by rw[Au,hs];omega)) (by rw[Au,hs];omega),trivial⟩,?_⟩
 refine Ed (iX (s.k.gl.trans hg) hs hx (by rw[AW,hk];omega)) fun y hy=>?_
 subst hy
 have hdl:(keyed sec (key++bs)).length=32:=rfl
 generalize keyed sec (key++bs)=d at hdl
 refine⟨trivial,s.DZ (vs:=d.map bv) (by rw[Au,hdl]) rfl fun H6 s=>⟨trivial,s.Gx (.head _) (by rw[Au,hdl]) ?_⟩⟩
 exact s.Mo (fun k=>.agg (Dn _ k)) rfl
theorem IH {H0 H:AH}{L o:List (Nat × List AV)}{bs:List UInt8}{v:AV}{n:Int}{Kp K:AV->AH->Prop}(s:A2 H0 (o++L) H) (h:Bb o bs v) (hl:bs.length<1099511627700)
  (hK:∀o' v' H',A2 H0 (o'++L) H'->Bb o' (bs++Gz n) v'->K v' H'):AF prog 25 [v,iv n] H Kp K:=by
 refine BA (post:=fun out H'=>∃o' v',out=.ret v'/\A2 H0 (o'++L) H'/\Bb o' (bs++Gz n) v') ?_ (fun v H' hq=>by obtain⟨o',v',h1,h2,h3⟩:=hq;cases h1;exact hK _ _ _ h2 h3) (fun v H' hq=>by obtain⟨_,_,h1,_⟩:=hq;cases h1)
 refine T25 ?_
 unfold xm
 let I1:AV->AV->AV->AH->Prop:=fun e0 e1 e5 H'=>e1=iv n/\∃(k:Nat) (o:List (Nat × List AV)),e5=iv ((8*k:Nat):Int)/\k<=8/\Bb o (bs++(Gz n).take k) e0/\A2 H0 (o++L) H'
 let μ1:AV->AV->AV->AH->Nat:=fun _ _ e5 _=>match e5 with
  | .int _ j=>((64:Int)-j).toNat
  | _=>0
 refine⟨I1,μ1,⟨rfl,0,o,rfl,by omega,by rw[Iz,DJ];exact h,s⟩,?_⟩
 clear s h
 intro e H1 hIv
 obtain⟨e1,k,o,e5,hk,hB,s⟩:=(hIv:I1 (e 0) (e 1) (e 5) H1)
 have hmu:μ1 (e 0) (e 1) (e 5) H1=((64:Int)-((8*k:Nat):Int)).toNat:=by rw[e5]
 show AB (.bin .lss (.cst (e 5)) (.cst (I 64))) _
 rw[e1,e5]
 refine Cn (b:=64) (fun hlt=>B8 ?_) (fun hlt=>Bu ?_)
 ·have hk8:k<8:=by omega
  refine lO (ZL (k:=8*k) (by omega) (ZK ?_))
  refine hB.Qv s rfl (by rw[AW,BL,HI];omega) fun o' v' H2 s2 hB2=>?_
  rw[Ar,aJ n k hk8]at hB2
  refine CE (b:=8) ⟨by omega,by omega⟩ ⟨⟨rfl,k+1,o',?_,by omega,hB2,s2⟩,?_⟩
  ·show iv (((8*k:Nat):Int)+8)=iv ((8*(k+1):Nat):Int)
   rw[show((8*k:Nat):Int)+8=((8*(k+1):Nat):Int)by omega]
  ·show _<μ1 (e 0) (e 1) (e 5) H1
   rw[hmu]
   show((64:Int)-(((8*k:Nat):Int)+8)).toNat<_
   omega
 have hk8:k=8:=by omega
 subst hk8
 rw[AX (by rw[HI];omega)]at hB
 exact⟨o,_,rfl,s,hB⟩
end
end Go.Proofs.YtlmkmpomgdbjhaaGreatDoor
namespace Go.AL
section
open Sha
variable [BQ]
def Ks:List UInt8->Nat
 | []=>0
 | x::l=>Ks l*256+x.toNat
theorem W7:∀l:List UInt8,Ks l<256 ^ l.length
 | []=>by simp[Ks]
 | x::l=>by
  have h:=W7 l
  have hx:=x.toNat_lt
  rw[Be,Iu]
  show Ks l*256+x.toNat<_
  omega
theorem X0 (l:List UInt8){i:Nat}(hi:i<l.length):Ks (l.drop (l.length-1-i))=Ks (l.drop (l.length-i))*256+(l.getD (l.length-1-i) 0).toNat:=by
 have hlt:l.length-1-i<l.length:=by omega
 rw[Gc hlt,show l.length-1-i+1=l.length-i by omega,Ac,Ab hlt];rfl
section
variable {K:AV->Prop}
theorem gi {n:Nat}(hn:n<72057594037927936) (hK:K (uv (n*256))):AB (.bin .shl (.cst (uv n)) (.cst (N .u64 8))) K:=AA (by
 show some (AV.int .u64 (IntKind.u64.wrap ((n:Int)*2 ^ 8)))=_
 rw[Ej]
 congr 2
 omega) hK
theorem gm {x:UInt8}(hK:K (uv x.toNat)):AB (.convI .u64 (.cst (bv x))) K:=AA (by
 show some (AV.int .u64 (IntKind.u64.wrap (x.toNat:Int)))=_
 have:=x.toNat_lt
 rw[Ej]
 congr 2
 omega) hK
theorem lN {n:Nat}{x:UInt8}(hn:n<72057594037927936) (hK:K (uv (n*256+x.toNat))):AB (.bin .or (.cst (uv (n*256))) (.cst (uv x.toNat))) K:=AA (by
 show some (AV.int .u64 (IntKind.u64.wrap ((BitVec.ofInt 64 ((n*256:Nat):Int) ||| BitVec.ofInt 64 (x.toNat:Int)).toNat:Nat)))=_
 have hx:=x.toNat_lt
 have e1:(BitVec.ofInt 64 ((n*256:Nat):Int) ||| BitVec.ofInt 64 (x.toNat:Int)).toNat=n*256+x.toNat:=by
  rw[HV,HV,VE,Jw,Jw,B4 (by omega),B4 (by omega)]
  have:=Ga (i:=8) (b:=x.toNat) (by omega) n
  rw[Fh]at this
  exact this.symm
 rw[e1,Ej]
 congr 2
 omega) hK
theorem lM {n:Nat}(hK:K (iv (IntKind.i64.wrap (n:Int)))):AB (.convI .i64 (.cst (uv n))) K:=AA rfl hK
end
theorem It.hi {bs:List UInt8}{v:AV}(h:It bs v){k:Nat}(hk:k<=bs.length){K:AV->Prop}(hK:∀y,It (bs.take k) y->K y):AB (.sliceS 1 (.cst v) none (some (.cst (iv (k:Int)))) none) K:=by
 rcases h with⟨rfl,rfl⟩ | ⟨b,rfl⟩
 ·have:k=0:=by simpa using hk
  subst this
  exact AA (v:=.nils) rfl (hK _ (.inl ⟨by simp,rfl⟩))
 ·refine AA (v:=.sim ((bs.take k).map bv) k (b&&decide ((k:Int)=(bs.length:Int)))) (by
   show(if (0:Int)<=0/\(0:Int)<=(k:Int)/\(k:Int)<=(bs.length:Int)then some (AV.sim (((bs.map bv).drop ((0:Int).toNat*1)).take (((k:Int)-0).toNat*1)) ((k:Int)-0).toNat (b&&decide ((k:Int)=(bs.length:Int))))else none)=_
   rw[if_pos ⟨by omega,by omega,by omega⟩]
   simp[List.map_take]) (hK _ (.inr ⟨b&&decide ((k:Int)=(bs.length:Int)),by rw[BL,B7 hk]⟩))
theorem It.lo {bs:List UInt8}{v:AV}(h:It bs v){k:Nat}(hk:k<=bs.length){K:AV->Prop}(hK:∀y,It (bs.drop k) y->K y):AB (.sliceS 1 (.cst v) (some (.cst (iv (k:Int)))) none none) K:=by
 rcases h with⟨rfl,rfl⟩ | ⟨b,rfl⟩
 ·have:k=0:=by simpa using hk
  subst this
  exact AA (v:=.nils) rfl (hK _ (.inl ⟨by simp,rfl⟩))
 ·refine AA (v:=.sim ((bs.drop k).map bv) (bs.length-k) b) (by
   show(if (0:Int)<=(k:Int)/\(k:Int)<=(bs.length:Int)/\(bs.length:Int)<=(bs.length:Int)then some (AV.sim (((bs.map bv).drop ((k:Int).toNat*1)).take (((bs.length:Int)-(k:Int)).toNat*1)) ((bs.length:Int)-(k:Int)).toNat (b&&decide ((bs.length:Int)=(bs.length:Int))))else none)=_
   rw[if_pos ⟨by omega,by omega,by omega⟩]
   have e:((bs.length:Int)-(k:Int)).toNat=bs.length-k:=by omega
   rw[e,CL,EU,EU,<- List.map_drop,AX (by simp)]
   simp) (hK _ (.inr ⟨b,by rw[B3]⟩))
theorem It.PA {bs:List UInt8}{v:AV}(h:It bs v) (f:Nat->Option (List AV)):PA v f=some ([],bs.map bv):=by
 rcases h with⟨rfl,rfl⟩ | ⟨b,rfl⟩
 ·rfl
 ·simp only[AL.PA,Au]
  rw[show Nat.ble bs.length bs.length=true from LW (A4 _),cond_true,AX (by simp)]
theorem A2.cells {H0 H:AH}{L:List (Nat × List AV)}(h:A2 H0 L H){q:Nat}{c:List AV}(hm:(q,c)∈L):H.cells? q=some c:=by simp[AH.cells?,h.at_ hm]
end
end Go.AL
namespace Go.Proofs.YtlmkmpomgdbjhaaGreatDoor
open Tryz
section
open Go Go.AL Go.AL.Sha
variable [BQ]
theorem C45 {H:AH}{pv:AV}(h1:pv.cellsOf=some [pv]):AQ prog 45 [pv] H fun o H'=>o=.ret (.fn (.func 90) [] [.ptr H.next 0])/\H'=H.push (.cells [pv]):=by
 refine T45 ?_
 unfold xf
 exact Aq (v:=.ptr H.next 0) (H':=H.push (.cells [pv])) (by simp[BC,AE.ev,h1]) ⟨rfl,rfl⟩
theorem Yj {H0 H:AH}{L:List (Nat × List AV)}{rb:Nat}{v:AV}{bs:List UInt8}{bad:Bool}{Kp K:AV->AH->Prop}(s:A2 H0 ((rb,[v,.bool bad])::L) H) (hv:It bs v)
  (h1:bs.length<8->∀H',A2 H0 ((rb,[v,.bool true])::L) H'->K (iv 0) H')
  (h2:8<=bs.length->∀v' H',It (bs.drop 8) v'->A2 H0 ((rb,[v',.bool bad])::L) H'->K (iv (IntKind.i64.wrap (Ks (bs.take 8):Int))) H'):AF prog 22 [.ptr rb 0] H Kp K:=by
 refine BA (post:=fun out H'=>∃x,out=.ret x/\K x H') ?_ (fun v H' hq=>by obtain⟨x,h1,h2⟩:=hq;cases h1;exact h2) (fun v H' hq=>by obtain⟨_,h1,_⟩:=hq;cases h1)
 refine T22 ?_
 unfold xn
 refine AA (v:=.ptr rb 0) rfl (AA (v:=.ptr rb 0) rfl (s.ld (o:=0) (.head _) rfl (hv.len ?_)))
 refine Cn (b:=8) (fun hlt=>B8 ?_) (fun hlt=>Bu ?_)
 ·refine AA (v:=.ptr rb 0) rfl (AA (v:=.ptr rb 1) rfl ?_)
  exact s.put (vs:=[.bool true]) rfl rfl (by show 1+1<=2;omega) fun H' s=>⟨_,rfl,h1 (by omega) _ s⟩
 have h8:8<=bs.length:=by omega
 refine s.alloc fun q6 H1 s=>s.put (vs:=[N .u64 0]) rfl rfl (by show 0+1<=1;omega) fun H2 s=>?_
 have s:A2 H0 ((q6,[uv 0])::(rb,[v,.bool bad])::L) H2:=s
 refine AA (v:=.ptr rb 0) rfl (AA (v:=.ptr rb 0) rfl (s.ld (o:=0) (.tail _ (.head _)) rfl ?_))
 refine hv.hi (k:=8) h8 fun y hy=>?_
 generalize hl8:bs.take 8=l8 at hy h2
 have hlen8:l8.length=8:=by rw[<- hl8,BL];omega
 refine BA (C45 hy.one) (fun fv H3 h3=>?_) (fun fv H3 h3=>by cases h3.1)
 obtain⟨hfv,rfl⟩:=h3
 cases hfv
 have s3:=s.push (o:=[y])
 generalize H2.next=cb at s3
 generalize H2.push (.cells [y])=H3 at s3
 have e1:H3.cells? cb=some [y]:=s3.cells (.head _)
 have hIt:=cB e1 (hy.PA _) (by rw[Au,hlen8];omega)
 have hxl:(Uu (l8.map bv)).length=8:=by simp[Uu,hlen8]
 refine⟨90,[.ptr cb 0],_,_,_,_,fun i H'=>A2 H0 ((cb,[y])::(q6,[uv (Ks (l8.drop (8-i)))])::(rb,[v,.bool bad])::L) H',rfl,hIt,?_,?_,?_,?_⟩
 ·intro i H' s' r hr
  rw[B9]at hr
  subst hr
  rw[e1];exact s'.cells (.head _)
 ·show A2 H0 ((cb,[y])::(q6,[uv (Ks (l8.drop 8))])::_) H3
  rw[Bt (by omega)];exact s3
 ·intro i x Hi hi hx s' hle
  rw[hxl]at hi
  have hx:((List.range (l8.map bv).length).map fun i=>[iv (((l8.map bv).length-1-i:Nat):Int),(l8.map bv).getD ((l8.map bv).length-1-i) .unk])[i]?=some x:=hx
  rw[BU,Au,EE (by omega),hlen8]at hx
  cases hx
  have hg:(l8.map bv).getD (8-1-i) .unk=bv (l8.getD (8-1-i) 0):=by
   rw[Ac,BU,Ac,Ab (by omega)];rfl
  show Q4 [iv ((8-1-i:Nat):Int),(l8.map bv).getD (8-1-i) .unk] _
  rw[hg]
  show AG (.load none (.cst (.ptr q6 0))) Hi _
  refine s'.ld (o:=0) (.tail _ (.head _)) rfl ?_
  have hb:Ks (l8.drop (8-i))<72057594037927936:=by
   have h:=W7 (l8.drop (8-i))
   rw[B3,hlen8,show 8-(8-i)=i by omega]at h
   have h3:256 ^ i<=256 ^ 7:=JC (by omega) (by omega)
   omega
  have hd:=X0 l8 (i:=i) (by omega)
  rw[hlen8]at hd
  refine gi hb (gm (lN hb ?_))
  rw[<- hd]
  refine A2.Km (A:=[(cb,[y])]) (vs:=[uv (Ks (l8.drop (8-1-i)))]) s' rfl rfl (by show 0+1<=1;omega) fun H' s2=>⟨?_,trivial⟩
  show A2 H0 ((cb,[y])::(q6,[uv (Ks (l8.drop (8-(i+1))))])::_) H'
  rw[show 8-(i+1)=8-1-i by omega]
  exact s2
 ·intro Hn s'
  rw[hxl]at s'
  have s':A2 H0 ((cb,[y])::(q6,[uv (Ks l8)])::(rb,[v,.bool bad])::L) Hn:=by simpa using s'
  refine AA (v:=.ptr rb 0) rfl (AA (v:=.ptr rb 0) rfl (s'.ld (o:=0) (.tail _ (.tail _ (.head _))) rfl ?_))
  refine hv.lo (k:=8) h8 fun v' hv'=>?_
  refine AA (v:=.ptr rb 0) rfl (AA (v:=.ptr rb 0) rfl ?_)
  refine A2.Km (A:=[(cb,[y]),(q6,[uv (Ks l8)])]) (vs:=[v']) s' hv'.one rfl (by show 0+1<=2;omega) fun H' s2=>?_
  refine s2.ld (o:=0) (.tail _ (.head _)) rfl (lM ⟨_,rfl,?_⟩)
  exact h2 h8 v' H' hv' (s2.sub (List.Sublist.cons _ (List.Sublist.cons _ (DN _))))
end
end Go.Proofs.YtlmkmpomgdbjhaaGreatDoor
namespace Go.AL
section
open Sha Go.AL.Co
variable [BQ]
section
variable {H0 H H':AH}{L:List (Nat × List AV)}
theorem A2.add {r:Nat}{c:List AV}(h:A2 H0 L H) (hk:C9 H H') (h1:H.next<=r) (h2:r<H'.next) (h3:H'.get r=some (.cells c)):A2 H0 ((r,c)::L) H':=by
 have s:=h.GJ hk
 refine⟨s.k,fun x hx=>?_,?_⟩
 ·cases hx with
  | head=>exact⟨Cq h.k.nx h1,h2,h3⟩
  | tail _ hx=>exact s.l x hx
 ·rw[B1,GC]
  refine⟨fun hm=>?_,s.nd⟩
  obtain⟨x,hx,he⟩:=Bk.1 hm
  have:=(h.l x hx).2.1
  omega
theorem Bb.iQ {o:List (Nat × List AV)}{bs:List UInt8}{v:AV}(s:A2 H0 (o++L) H) (h:Bb o bs v):∃y,It bs y/\ES H (fun _=>True) v y:=by
 cases h with
 | nil=>exact⟨.nils,.inl ⟨rfl,rfl⟩,.same _⟩
 | op r h=>exact⟨.sim (bs.map bv) bs.length false,.inr ⟨false,rfl⟩,ES.row trivial (s.at_ (.head _)) (EI _) (fun e=>absurd (GG.1 e) h) (fun e=>by cases e)⟩
theorem Bb.P3 {o:List (Nat × List AV)}{bs:List UInt8}{v:AV}(h:Bb o bs v):∃y,It bs y/\FZ o v y:=by
 cases h with
 | nil=>exact⟨.nils,.inl ⟨rfl,rfl⟩,.low fun _=>.nils⟩
 | op r h=>
  refine⟨.sim (bs.map bv) bs.length false,.inr ⟨false,rfl⟩,fun H k hR=>?_⟩
  obtain⟨h1,h2⟩:=hR _ (.head _)
  exact .sl h1 (l:=bs.map bv) (by simp[AH.cells?,h2]) (m:=bs.length) (by simp) (by rw[B5,AX (by simp)];exact .low (Dn _ _)) (fun h=>h) (fun h=>by cases h)
theorem Bb.one {o:List (Nat × List AV)}{bs:List UInt8}{v:AV}(h:Bb o bs v):v.cellsOf=some [v]:=by cases h<;>rfl
end
theorem K9 {e:Env}{cells l:List AV}{off n:Nat}{x:AE}{r:List (Nat × Nat × AE)}(hx:(x.ev e).cellsOf=some l) (hl:l.length=n) (ho:off+n<=cells.length):Bv e cells ((off,n,x)::r)=Bv e (cells.take off++l++cells.drop (off+n)) r:=by
 simp only[Bv,hx]
 exact if_pos ⟨hl,ho⟩
theorem bV {z a b:List AV}{v:AV}(hz:z.length=65) (ha:a.length=32) (hb:b.length=32) (hv:v.cellsOf=some [v]):Bv emp z [(0,32,.cst (.agg a)),(32,1,.cst v),(33,32,.cst (.agg b))]=some (a++v::b):=by
 rw[K9 (x:=.cst (.agg a)) (l:=a) rfl ha (by omega),K9 (n:=1) (x:=.cst v) (l:=[v]) hv rfl (by simp[ha,hz]),K9 (x:=.cst (.agg b)) (l:=b) rfl hb (by simp[ha,hz])]
 show some _=_
 congr 1
 have e1:(List.take 0 z++a++z.drop (0+32)).take 32=a:=by rw[Iz,Bf];exact LM ha
 have e2:(List.take 0 z++a++z.drop (0+32)).drop (32+1)=z.drop 33:=by rw[Iz,Bf,EZ,G6 (by omega),ha,De,Bf]
 rw[e1,e2]
 have e3:(a++[v]++z.drop 33).take 33=a++[v]:=LM (by simp[ha])
 have e4:(a++[v]++z.drop 33).drop (33+32)=[]:=G6 (by simp[ha,hz])
 rw[e3,e4]
 simp
def Gh (A B:Int) (l:List Ad.D):List UInt8:=Gz A++Gz B++Gz (l.length:Int)++l.flatMap fun d=>Gz ((Ad.enc d).length:Int)++Ad.enc d
end
end Go.AL
namespace Go.Proofs.YtlmkmpomgdbjhaaGreatDoor
open Tryz
section
open Go Go.AL Go.AL.Sha Go.AL.Co
variable [BQ]
set_option maxHeartbeats 2000000 in
theorem lW [Bj] {H:AH}{key sec:List UInt8}{A B:Int}{pv:AV}{l:List Ad.D}(hg:H.gl=BQ.G) (hk:key.length=32) (hs:sec.length=32) (hP:LR Ad l pv) (hw:∀d∈l,Ad.wf d) (hl:(Gh A B l).length<68719400000) :
  CP prog 10 [.agg (key.map bv),.agg [iv A,iv B,pv],.agg (sec.map bv)] H fun x=>∃y,It (Gh A B l) y/\x=.agg (key.map bv++y::(keyed sec (key++Gh A B l)).map bv):=CP.of <| by
 have hnl:l.length<68719400000:=by
  have h:∀l:List Ad.D,l.length<=(l.flatMap fun d=>Gz ((Ad.enc d).length:Int)++Ad.enc d).length:=fun l=>by
   induction l with
   | nil=>simp
   | cons d l ih=>rw[Gb,AW,AW,HI,Be];omega
  have:=h l
  unfold Gh at hl
  rw[AW]at hl
  omega
 refine T10 ?_
 unfold xr
 refine(A2.start H).box (c:=key.map bv) rfl fun q3 H1 s=>s.box (c:=[iv A,iv B,pv]) rfl fun q4 H2 s=>s.box (c:=sec.map bv) rfl fun q5 H3 s=>s.alloc fun q6 H4 s=>?_
 generalize hz:BD 32 (N .u8 0) (.nils::(BD 32 (N .u8 0) []))=z at s ⊢
 have hzl:z.length=65:=by rw[<- hz];rfl
 clear hz
 generalize hL:[(q6,z),(q5,sec.map bv),(q4,[iv A,iv B,pv]),(q3,key.map bv)]=L at s
 have m6:(q6,z)∈L:=by rw[<- hL];simp
 have m5:(q5,sec.map bv)∈L:=by rw[<- hL];simp
 have m4:(q4,[iv A,iv B,pv])∈L:=by rw[<- hL];simp
 have m3:(q3,key.map bv)∈L:=by rw[<- hL];simp
 refine AA (v:=.ptr q4 0) rfl (s.ld (o:=0) m4 rfl (AA (v:=.ptr q4 1) rfl (s.ld (o:=1) m4 rfl (AA (v:=.ptr q4 2) rfl (s.ld (o:=2) m4 rfl (AA (v:=iv (l.length:Int)) hP.len ?_))))))
 have hb3:(Gz A++Gz B++Gz (l.length:Int)).length=24:=rfl
 refine IH (o:=[]) s .nil (by show 0<_;omega) fun o1 v1 H5 s hB=>?_
 refine⟨⟨s.Dw (o:=2) (BS _ m4) rfl,s.Dw (o:=1) (BS _ m4) rfl,trivial⟩,?_⟩
 refine IH s hB (by show 8<_;omega) fun o2 v2 H6 s hB=>?_
 refine⟨⟨s.Dw (o:=2) (BS _ m4) rfl,trivial⟩,?_⟩
 refine IH s hB (by show 16<_;omega) fun o3 v3 H7 s hB=>⟨trivial,?_⟩
 rw[Bf]at hB
 refine AA (v:=.ptr q4 2) rfl (s.ld (o:=2) (BS _ m4) rfl (AA (v:=iv (l.length:Int)) hP.len ?_))
 let mid:Nat->List UInt8:=fun i=>Gz A++Gz B++Gz (l.length:Int)++(l.take i).flatMap fun d=>Gz ((Ad.enc d).length:Int)++Ad.enc d
 have hmid:∀i d,l[i]?=some d->mid (i+1)=mid i++Gz ((Ad.enc d).length:Int)++Ad.enc d/\(mid (i+1)).length<=(Gh A B l).length:=fun i d hd=>by
  refine⟨?_,?_⟩
  ·show _++_=_++_++_++_
   rw[Cr,hd,Ot,Ar (_++_),Ar (_++_)]
   simp
  ·show(_++(l.take (i+1)).flatMap _).length<=_
   have h:=congrArg (fun l=>(l.flatMap fun d=>Gz ((Ad.enc d).length:Int)++Ad.enc d).length) (Fo (i+1) l)
   simp only[Ot]at h
   rw[AW]at h
   unfold Gh
   simp only[AW,HI]
   omega
 let I1:AV->AV->AV->AV->AV->AV->AV->AH->Prop:=fun e3 e5 e6 e7 e22 e23 e24 H'=>e3=.ptr q3 0/\e5=.ptr q5 0/\e6=.ptr q6 0/\e22=pv/\e23=iv (l.length:Int)/\∃(i:Nat) (o:List (Nat × List AV)),e24=iv (i:Int)/\i<=l.length/\Bb o (mid i) e7/\A2 H (o++L) H'
 let μ1:AV->AV->AV->AV->AV->AV->AV->AH->Nat:=fun _ _ _ _ _ _ e24 _=>match e24 with
  | .int _ j=>((l.length:Int)-j).toNat
  | _=>0
 refine⟨I1,μ1,⟨rfl,rfl,rfl,rfl,rfl,0,o3,rfl,by omega,by show Bb o3 (_++[]) _;rw[DJ];exact hB,s⟩,?_⟩
 clear s hB
 intro e H8 hIv
 obtain⟨e3,e5,e6,e22,e23,i,o,e24,hi,hB,s⟩:=(hIv:I1 (e 3) (e 5) (e 6) (e 7) (e 22) (e 23) (e 24) H8)
 have hmu:μ1 (e 3) (e 5) (e 6) (e 7) (e 22) (e 23) (e 24) H8=((l.length:Int)-(i:Int)).toNat:=by rw[e24]
 show AB (.bin .lss (.cst (e 24)) (.cst (e 23))) _
 rw[e3,e5,e6,e22,e23,e24]
 refine Cn (fun hlt=>B8 ?_) (fun hlt=>Bu ?_)
 ·have hi':i<l.length:=by omega
  obtain⟨a,x,g1,g2,g3⟩:=hP.gD rfl hi'
  have hd:l[i]?=some (l[i]'hi'):=Ab hi'
  have hwd:=hw _ (List.getElem_mem hi')
  obtain⟨k1,k2⟩:=hmid i _ hd
  generalize l[i]'hi'=d at g3 hd hwd k1 k2
  rw[k1,AW,AW,HI]at k2
  refine AA g1 (BG (g2 _) ?_)
  refine BA (P6 g3 hwd (by show _<1099511627776;omega)) (fun v H9 h9=>?_) (fun v H9 h9=>by obtain⟨_,_,_,h,_⟩:=h9;cases h)
  obtain⟨r,r1,r2,hv,r3,r4⟩:=h9
  cases hv
  generalize hen:Ad.enc d=en at k1 k2 r3
  have s9:=s.add r4 r1 r2 r3
  refine AA (v:=iv (en.length:Int)) rfl ?_
  have s9:A2 H (o++((r,en.map bv)::L)) H9:=s9.perm HW
  refine IH s9 hB (by omega) fun o2 v2 H10 s10 hB2=>?_
  have hx:Ae 1 (.sl r 0 en.length (.op 1)) H10=some (en.length,en.map bv):=by
   have hc:H10.cells? r=some (en.map bv):=s10.cells (BS _ (.head _))
   simp[Ae,hc]
   exact AX (by simp)
  refine hB2.app s10 hx (by rw[AW,HI];omega) fun o3 v3 H11 s11 hB3=>?_
  rw[<- k1]at hB3
  refine CE (b:=1) ⟨by omega,by omega⟩ ⟨⟨rfl,rfl,rfl,rfl,rfl,i+1,o3,rfl,by omega,hB3,s11.sub ((List.Sublist.cons _ (DN _)).append_left o3)⟩,?_⟩
  show _<μ1 (e 3) (e 5) (e 6) (e 7) (e 22) (e 23) (e 24) H8
  rw[hmu]
  show((l.length:Int)-((i:Int)+1)).toNat<_
  omega
 have hil:i=l.length:=by omega
 subst hil
 have hms:mid l.length=Gh A B l:=by show _++(l.take l.length).flatMap _=_;rw[AX (A4 _)];rfl
 rw[hms]at hB
 clear hmu hmid
 have n3:=BS o m3
 have n5:=BS o m5
 refine s.Gx n3 (by rw[Au,hk]) (s.Gx n3 (by rw[Au,hk]) (s.Gx n5 (by rw[Au,hs]) ?_))
 obtain⟨yl,hyl,hfl⟩:=hB.iQ s
 refine Ed (CP.iQ (R:=.agg ((keyed sec (key++Gh A B l)).map bv)) (al':=[.agg (key.map bv),yl,.agg (sec.map bv)]) (fun H' hg'=>fV hg' hk hs hyl hl) (.agg (Zq _)) (.cons (.agg (Dn _ _)) (.cons (hyl.sc _) (.cons (.agg (Dn _ _)) .nil))) (.cons (.same _) (.cons hfl (.cons (.same _) .nil))) (s.k.gl.trans hg)) fun x hx=>?_
 subst hx
 have hdl:(keyed sec (key++Gh A B l)).length=32:=rfl
 generalize keyed sec (key++Gh A B l)=sg at hdl
 refine⟨⟨s.UH (d:=key.map bv) n3 (by rw[B5];exact AX (by rw[Au,hk];omega)) (by rw[Au,hk];omega),trivial⟩,?_⟩
 refine AA (v:=.agg (key.map bv++e 7::sg.map bv)) (by
  show(Bv emp z [(0,32,.cst (.agg (key.map bv))),(32,1,.cst (e 7)),(33,32,.cst (.agg (sg.map bv)))]).map AV.agg=_
  rw[bV hzl (by rw[Au,hk]) (by rw[Au,hdl]) hB.one];rfl) ?_
 have hcl:(key.map bv++e 7::sg.map bv).length=65:=by simp[hk,hdl]
 rw[<- hL]at s
 have s':A2 H ((q6,z)::(o++[(q5,sec.map bv),(q4,[iv A,iv B,pv]),(q3,key.map bv)])) H8:=s.perm HW.symm
 refine s'.DZ (vs:=key.map bv++e 7::sg.map bv) hcl hzl fun H9 s=>⟨trivial,s.Gx (.head _) hcl ?_⟩
 obtain⟨y,hy,hz⟩:=hB.P3
 exact s.fin (y:=.agg (key.map bv++y::sg.map bv)) (.agg (.app (.low fun k=>Dn _ k) (.cons (hz.mono fun x hx=>.tail _ (Cj _ hx)) (.low fun k=>Dn _ k)))) ⟨y,hy,rfl⟩
end
end Go.Proofs.YtlmkmpomgdbjhaaGreatDoor
namespace Go.AL
theorem Z_:∀w:Nat,0<w->∃t m,w=2 ^ t*(2*m+1):=by
 intro w
 induction w using Nat.strongRecOn with
 | _ w ih=>
  intro hw
  rcases Nat.mod_two_eq_zero_or_one w with h | h
  ·obtain⟨t,m,e⟩:=ih (w / 2) (by omega) (by omega)
   refine⟨t+1,m,?_⟩
   rw[Iu,HS (2 ^ t) 2,Nat.mul_assoc,<- e];omega
  ·exact⟨0,w / 2,by rw[Nat.pow_zero,GY];omega⟩
theorem Xm (t m j:Nat):(2 ^ t*(2*m+1)).testBit j=if j<t then false else(2*m+1).testBit (j-t):=by
 have:=Oc (2*m+1) (b:=0) (i:=t) (SB t) j
 rw[GS,Nat.zero_testBit]at this
 exact this
theorem fU (t m j:Nat):(2 ^ t*(2*m+1)-1).testBit j=if j<t then true else(2*m).testBit (j-t):=by
 have hp:=SB t
 have e:2 ^ t*(2*m+1)-1=2 ^ t*(2*m)+(2 ^ t-1):=by
  rw[On,EU];omega
 rw[e,Oc (2*m) (b:=2 ^ t-1) (i:=t) (by omega) j,Nat.testBit_two_pow_sub_one]
 by_cases h:j<t<;>simp[h]
theorem ZQ (m s:Nat):(2*m+1).testBit (s+1)=(2*m).testBit (s+1):=by
 rw[Nat.testBit_succ,Nat.testBit_succ]
 congr 1;omega
theorem SR {w t m:Nat}(h:w=2 ^ t*(2*m+1)) (j:Nat):(w &&& (w-1)).testBit j=(decide (j≠t)&&w.testBit j):=by
 subst h
 rw[Nat.testBit_and,Xm,fU]
 rcases CT j t with h1 | h1
 ·simp[h1]
 ·have h2:¬j<t:=by omega
  simp only[h2,if_false]
  rcases DB (j-t)with h3 | h3
  ·have:j=t:=by omega
   subst this;simp
  ·obtain⟨s,hs⟩:∃s,j-t=s+1:=⟨j-t-1,by omega⟩
   have h4:j≠t:=by omega
   rw[hs,ZQ];simp[h4]
theorem gp {w t m n:Nat}(h:w=2 ^ t*(2*m+1)) (hw:w<2 ^ n):w &&& (2 ^ n-w)=2 ^ t:=by
 have hpos:0<w:=by rw[h];exact Nat.mul_pos (SB t) (by omega)
 have htn:t<n:=by
  have h1:2 ^ t<=w:=by rw[h];exact Ff _ (by omega)
  exact(EB (by omega)).1 (Bz h1 hw)
 have e:2 ^ n-w=2 ^ n-((w-1)+1):=by omega
 refine Nat.eq_of_testBit_eq fun j=>?_
 rw[Nat.testBit_and,e,Nat.testBit_two_pow_sub_succ (by omega),Oj]
 subst h
 rw[Xm,fU]
 rcases CT j t with h1 | h1
 ·have h2:¬t=j:=by omega
  simp[h1,h2]
 ·have h2:¬j<t:=by omega
  simp only[h2,if_false]
  rcases DB (j-t)with h3 | h3
  ·have:j=t:=by omega
   subst this;simp[htn]
  ·obtain⟨s,hs⟩:∃s,j-t=s+1:=⟨j-t-1,by omega⟩
   have h4:¬t=j:=by omega
   rw[hs,ZQ];simp[h4]
   exact fun a _=>a
def bl (w base:Nat):List UInt8:=((List.range 64).filter fun j=>w.testBit j).map fun j=>UInt8.ofNat (base+j)
theorem OU (base:Nat):bl 0 base=[]:=by
 unfold bl
 simp
theorem range_split {t:Nat}(ht:t<64):List.range 64=List.range t++t::(List.range (63-t)).map (t+1+·):=by
 have h1:64=t+(1+(63-t)):=by omega
 conv=>lhs;rw[h1,List.range_add]
 congr 1
 rw[List.range_add,ET]
 simp[Function.comp_def,Fg]
theorem OV {w base t m:Nat}(h:w=2 ^ t*(2*m+1)) (hw:w<2 ^ 64):bl w base=UInt8.ofNat (base+t)::bl (w &&& (w-1)) base:=by
 have htn:t<64:=by
  have h1:2 ^ t<=w:=by rw[h];exact Ff _ (by omega)
  exact(EB (by omega)).1 (Bz h1 hw)
 have key:(List.range 64).filter (fun j=>w.testBit j)=t::(List.range 64).filter fun j=>(w &&& (w-1)).testBit j:=by
  rw[range_split htn,Ow,Ow,Og,Og]
  have e1:(List.range t).filter (fun j=>w.testBit j)=[]:=Nz.2 fun j hj=>by
   have:=LJ.1 hj
   rw[h,Xm];simp[this]
  have e2:(List.range t).filter (fun j=>(w &&& (w-1)).testBit j)=[]:=Nz.2 fun j hj=>by
   have:=LJ.1 hj
   rw[SR h,h,Xm];simp[this]
  have e3:w.testBit t=true:=by rw[h,Xm];simp
  have e4:(w &&& (w-1)).testBit t=false:=by rw[SR h];simp
  rw[e1,e2,e3,e4]
  simp only[if_true,Bf,E8,if_false]
  congr 1
  refine List.filter_congr fun j hj=>?_
  obtain⟨s,_,rfl⟩:=Bk.1 hj
  rw[SR h]
  have:t+1+s≠t:=by omega
  simp[this]
 unfold bl
 rw[key,B1]
def sI:List Nat:=[0,1,56,2,57,49,28,3,61,58,42,50,38,29,17,4,62,47,59,36,45,43,51,22,53,39,33,30,24,18,12,5,63,55,48,27,60,41,37,16,46,35,44,21,52,32,23,11,54,26,40,15,34,20,31,10,25,14,19,9,13,8,7,6]
theorem eo:∀t,t<64->sI[(2 ^ t*285870213051353865 % 18446744073709551616) / 288230376151711744]?=some t:=by decide
theorem ek (x:Nat):(x % 18446744073709551616) / 288230376151711744<64:=by omega
def TJ (a b c d:Nat):List UInt8:=bl a 0++(bl b 64++(bl c 128++bl d 192))
theorem HR (w base:Nat):(bl w base).length<=64:=by
 unfold bl
 rw[Au]
 exact Cq (List.length_filter_le _ _) (by simp)
end Go.AL
namespace Go.Proofs.YtlmkmpomgdbjhaaGreatDoor
open Tryz
section
open Go Go.RowKit Go.AL
theorem ZE (n:Int):IntKind.u64.wrap n=n % 18446744073709551616:=by
 simp[IntKind.wrap,IntKind.bits,IntKind.signed]
theorem lH {n:Nat}(h:n<18446744073709551616):IntKind.u64.wrap (n:Int)=(n:Int):=by rw[ZE];omega
theorem cA {a b:Nat}(ha:a<18446744073709551616) (hb:b<18446744073709551616):bits .and .u64 (a:Int) (b:Int)=((a &&& b:Nat):Int):=by
 have h1:a &&& b<18446744073709551616:=Bz LK ha
 have h2:(BitVec.ofInt 64 (a:Int) &&& BitVec.ofInt 64 (b:Int)).toNat=a &&& b:=by
  rw[HV,HV,BitVec.toNat_and,Jw,Jw,B4 (by omega),B4 (by omega)]
 show IntKind.u64.wrap (((BitVec.ofInt 64 (a:Int) &&& BitVec.ofInt 64 (b:Int)).toNat:Nat):Int)=_
 rw[h2,lH h1]
theorem mU {x t m:Nat}(h:x=2 ^ t*(2*m+1)) (hx:0<x) (hx2:x<18446744073709551616):bits .and .u64 (x:Int) (IntKind.u64.wrap (-(x:Int)))=((2 ^ t:Nat):Int):=by
 have e:IntKind.u64.wrap (-(x:Int))=((18446744073709551616-x:Nat):Int):=by rw[ZE];omega
 rw[e,cA hx2 (by omega)]
 have:=gp (n:=64) h hx2
 rw[show(2:Nat) ^ 64=18446744073709551616 by decide]at this
 rw[this]
theorem sK {x t m:Nat}(h:x=2 ^ t*(2*m+1)) (hx:0<x) (hx2:x<18446744073709551616) :
  IntKind.u64.wrap (bits .and .u64 (x:Int) (IntKind.u64.wrap (-(x:Int)))*285870213051353865) / 288230376151711744=(((2 ^ t*285870213051353865 % 18446744073709551616) / 288230376151711744:Nat):Int):=by
 rw[mU h hx hx2,ZE];omega
def M0 (W:World):Prop:=∀t:Nat,t<64->∀n:Nat,sI[t]?=some n->W.cell? ⟨1,t,none⟩=some (.int .u8 (n:Int))
theorem cq (x:Nat) (t:Nat) (W:World) (hc:W.cell? ⟨1,(IntKind.u64.wrap (bits .and .u64 (x:Int) (IntKind.u64.wrap (-(x:Int)))*285870213051353865) / 288230376151711744).toNat,none⟩=some (.int .u8 (t:Int)))
  (h0:((x:Int)==0)=false) (h1:0<=IntKind.u64.wrap (bits .and .u64 (x:Int) (IntKind.u64.wrap (-(x:Int)))*285870213051353865) / 288230376151711744)
  (h2:IntKind.u64.wrap (bits .and .u64 (x:Int) (IntKind.u64.wrap (-(x:Int)))*285870213051353865) / 288230376151711744<64) (hw:IntKind.i64.wrap (t:Int)=(t:Int)) :
  Calls prog 412 #[.int .u64 (x:Int)] W fun e w'=>w'=W/\e=.returned (.int .i64 (t:Int)):=by
 go_enter func412,ntmps412
 go_wp2
 all_goals go_ret
 all_goals exact⟨rfl,by simp[hw]⟩
theorem Vh (x:Nat) (W:World) (h:M0 W) (hx:0<x) (hx2:x<18446744073709551616):Calls prog 412 #[.int .u64 (x:Int)] W fun e w'=>w'=W/\∃t m:Nat,x=2 ^ t*(2*m+1)/\e=.returned (.int .i64 (t:Int)):=by
 obtain⟨t,m,hxt⟩:=Z_ x hx
 have ht:t<64:=by
  have h1:2 ^ t<=x:=by rw[hxt];exact Ff _ (by omega)
  exact(EB (a:=2) (by omega)).1 (Bz h1 (by rw[show(2:Nat) ^ 64=18446744073709551616 by decide];exact hx2))
 have hix:=sK hxt hx hx2
 have hlt:=ek (2 ^ t*285870213051353865)
 have hc:W.cell? ⟨1,(IntKind.u64.wrap (bits .and .u64 (x:Int) (IntKind.u64.wrap (-(x:Int)))*285870213051353865) / 288230376151711744).toNat,none⟩=some (.int .u8 (t:Int)):=by
  rw[hix,CL]
  exact h _ hlt t (eo t ht)
 have h0:((x:Int)==0)=false:=by
  have:¬(x:Int)=0:=by omega
  simp;omega
 have hw:IntKind.i64.wrap (t:Int)=(t:Int):=by
  simp[IntKind.wrap,IntKind.bits,IntKind.signed];omega
 exact(cq x t W hc h0 (by rw[hix];omega) (by rw[hix];omega) hw).mono fun e w' h=>⟨h.1,t,m,hxt,h.2⟩
end
section
open Go Go.RowKit Go.AL Go.Maps Go.Sort Go.Shelf
def JI:Value->Nat
 | .int _ j=>j.toNat
 | _=>0
theorem Ft (k:IntKind) (n:Nat):JI (.int k (n:Int))=n:=CL n
theorem vh (v0 v1 v2 v3:Value) (w:World):(Instr.index 49 (.agg #[v0,v1,v2,v3]) (.int .i64 0)).run prog w=.ok v0 w:=by
 simp[Instr.index,asIntOf,run_underlying underlying49,sizeOf47,part,isAgg47]
theorem vg (v0 v1 v2 v3:Value) (w:World):(Instr.index 49 (.agg #[v0,v1,v2,v3]) (.int .i64 1)).run prog w=.ok v1 w:=by
 simp[Instr.index,asIntOf,run_underlying underlying49,sizeOf47,part,isAgg47]
theorem yh (v0 v1 v2 v3:Value) (w:World):(Instr.index 49 (.agg #[v0,v1,v2,v3]) (.int .i64 2)).run prog w=.ok v2 w:=by
 simp[Instr.index,asIntOf,run_underlying underlying49,sizeOf47,part,isAgg47]
theorem yg (v0 v1 v2 v3:Value) (w:World):(Instr.index 49 (.agg #[v0,v1,v2,v3]) (.int .i64 3)).run prog w=.ok v3 w:=by
 simp[Instr.index,asIntOf,run_underlying underlying49,sizeOf47,part,isAgg47]
set_option maxRecDepth 100000 in
set_option maxHeartbeats 1000000 in
theorem eL (n l b off:Nat) (hn:1<=n) (a0 a1 a2 a3:Nat) (J:List UInt8->World->Prop) (W:World) (hT:∀pre W',J pre W'->M0 W')
  (h0:W.cell? ⟨b,off,none⟩=some (.int .u64 (a0:Int))) (h1:W.cell? ⟨b,off+1,none⟩=some (.int .u64 (a1:Int))) (h2:W.cell? ⟨b,off+2,none⟩=some (.int .u64 (a2:Int))) (h3:W.cell? ⟨b,off+3,none⟩=some (.int .u64 (a3:Int)))
  (l0:a0<18446744073709551616) (l1:a1<18446744073709551616) (l2:a2<18446744073709551616) (l3:a3<18446744073709551616)
  (hY:∀(pre:List UInt8) (x:UInt8) (W1:World),J pre W1->pre.length<256->YieldAt Fence.wide (n-1) prog l #[.int .u8 (x.toNat:Int)] W1 fun e W'=>e=.returned (.bool true)/\J (pre++[x]) W')
  (hJ:J [] W):CallsIn Fence.wide n prog 411 #[.func (.yield l) #[] #[],.pointer (some ⟨b,off,none⟩)] W fun e W'=>(∃v,e=.returned v)/\J (TJ a0 a1 a2 a3) W':=by
 refine callsIn_of_wp func411 rfl trivial ?_ rfl
 simp only[ntmps411,I5,Be,G9,Nat.reduceAdd,Nat.reduceSub,I9,I8,LN,JA,Bf,Fi]
 have i0:=vh (.int .u64 (a0:Int)) (.int .u64 (a1:Int)) (.int .u64 (a2:Int)) (.int .u64 (a3:Int))
 have i1:=vg (.int .u64 (a0:Int)) (.int .u64 (a1:Int)) (.int .u64 (a2:Int)) (.int .u64 (a3:Int))
 have i2:=yh (.int .u64 (a0:Int)) (.int .u64 (a1:Int)) (.int .u64 (a2:Int)) (.int .u64 (a3:Int))
 have i3:=yg (.int .u64 (a0:Int)) (.int .u64 (a1:Int)) (.int .u64 (a2:Int)) (.int .u64 (a3:Int))
 gi_wp2
 obtain⟨up,hup⟩:∃up:Nat->List UInt8,up=fun i=>match i with
  | 0=>[]
  | 1=>bl a0 0
  | 2=>bl a0 0++bl a1 64
  | 3=>bl a0 0++(bl a1 64++bl a2 128)
  | _=>TJ a0 a1 a2 a3:=⟨_,rfl⟩
 gi_loopw [6] (fun v6 wr=>∃i:Nat,v6=.int .i64 (i:Int)/\i<=4/\J (up i) wr) (fun v6 _=>4-JI v6)
 case atStart=>exact⟨0,rfl,by omega,by rw[hup];exact hJ⟩
 case round=>
  obtain⟨i,rfl,hi,hJi⟩:=hrel
  have hcase:i=0\/i=1\/i=2\/i=3\/i=4:=by omega
  rcases hcase with rfl | rfl | rfl | rfl | rfl
  ·gi_wp2
   gi_loopw [4] (fun v4 wr=>∃(w:Nat) (pre:List UInt8),v4=.int .u64 (w:Int)/\w<18446744073709551616/\J pre wr/\pre++bl w 0=up 1) (fun v4 _=>JI v4)
   case atStart=>exact⟨a0,up 0,rfl,l0,hJi,by rw[hup];simp[TJ]⟩
   case round=>
    obtain⟨w,pre,rfl,hw,hJp,hpre⟩:=hrel
    rcases DB w with hz | hpos
    ·subst hz
     gi_wp2
     refine⟨⟨1,rfl,by omega,?_⟩,by decide⟩
     rw[OU,DJ]at hpre
     rw[<- hpre];exact hJp
    ·have hne:((w:Int)==0)=false:=by
      have:¬(w:Int)=0:=by omega
      simp;omega
     have hTw:=hT _ _ hJp
     gi_wp2
     refine⟨trivial,(callsIn_wide.2 (Vh w wr hTw hpos hw)).mono ?_⟩
     rintro e w2 ⟨rfl,t,m,hwt,rfl⟩
     have ht:t<64:=by
      have g1:2 ^ t<=w:=by rw[hwt];exact Ff _ (by omega)
      exact(EB (a:=2) (by omega)).1 (Bz g1 (by rw[show(2:Nat) ^ 64=18446744073709551616 by decide];exact hw))
     have hbl:=OV (base:=0) hwt (by rw[show(2:Nat) ^ 64=18446744073709551616 by decide];exact hw)
     clear hwt
     generalize hxb:UInt8.ofNat (0+t)=xb at hbl
     have hx8:(xb.toNat:Int)=(t:Int):=by rw[<- hxb];simp;omega
     clear hxb
     have hlen:pre.length<256:=by
      have e1:=congrArg List.length hpre
      rw[hbl,hup]at e1
      have b0:=HR a0 0
      simp[TJ]at e1
      omega
     obtain⟨fn,tmps,assign,body,hy,hR⟩:=hY pre xb w2 hJp hlen
     rw[hx8]at hy
     rw[hbl]at hpre
     have hand:bits .and .u64 (w:Int) ((w:Int)-1)=((w &&& (w-1):Nat):Int):=by
      have e1:(w:Int)-1=((w-1:Nat):Int):=by omega
      rw[e1,cA hw (by omega)]
     clear hbl hx8
     gi_wp2
     refine hR.mono ?_
     rintro e W3 ⟨rfl,hJ3⟩
     gi_wp2
     refine⟨⟨_,_,_,_,_,_,_,_,_,_,_,_,_,_,_,_,⟨w &&& (w-1),pre++[xb],rfl,Bz LK hw,hJ3,by rw[Ar];exact hpre⟩,rfl⟩,?_⟩
     ·show JI (.int .u64 ((w &&& (w-1):Nat):Int))<JI (.int .u64 (w:Int))
      rw[Ft,Ft]
      exact Bz OB (by omega)
  ·gi_wp2
   gi_loopw [4] (fun v4 wr=>∃(w:Nat) (pre:List UInt8),v4=.int .u64 (w:Int)/\w<18446744073709551616/\J pre wr/\pre++bl w 64=up 2) (fun v4 _=>JI v4)
   case atStart=>exact⟨a1,up 1,rfl,l1,hJi,by rw[hup];simp[TJ]⟩
   case round=>
    obtain⟨w,pre,rfl,hw,hJp,hpre⟩:=hrel
    rcases DB w with hz | hpos
    ·subst hz
     gi_wp2
     refine⟨⟨2,rfl,by omega,?_⟩,by decide⟩
     rw[OU,DJ]at hpre
     rw[<- hpre];exact hJp
    ·have hne:((w:Int)==0)=false:=by
      have:¬(w:Int)=0:=by omega
      simp;omega
     have hTw:=hT _ _ hJp
     gi_wp2
     refine⟨trivial,(callsIn_wide.2 (Vh w wr hTw hpos hw)).mono ?_⟩
     rintro e w2 ⟨rfl,t,m,hwt,rfl⟩
     have ht:t<64:=by
      have g1:2 ^ t<=w:=by rw[hwt];exact Ff _ (by omega)
      exact(EB (a:=2) (by omega)).1 (Bz g1 (by rw[show(2:Nat) ^ 64=18446744073709551616 by decide];exact hw))
     have hbl:=OV (base:=64) hwt (by rw[show(2:Nat) ^ 64=18446744073709551616 by decide];exact hw)
     clear hwt
     generalize hxb:UInt8.ofNat (64+t)=xb at hbl
     have hx8:(xb.toNat:Int)=(64:Int)+(t:Int):=by rw[<- hxb];simp;omega
     clear hxb
     have hlen:pre.length<256:=by
      have e1:=congrArg List.length hpre
      rw[hbl,hup]at e1
      have b0:=HR a0 0
      have b1:=HR a1 64
      simp[TJ]at e1
      omega
     obtain⟨fn,tmps,assign,body,hy,hR⟩:=hY pre xb w2 hJp hlen
     rw[hx8]at hy
     rw[hbl]at hpre
     have hand:bits .and .u64 (w:Int) ((w:Int)-1)=((w &&& (w-1):Nat):Int):=by
      have e1:(w:Int)-1=((w-1:Nat):Int):=by omega
      rw[e1,cA hw (by omega)]
     clear hbl hx8
     gi_wp2
     refine hR.mono ?_
     rintro e W3 ⟨rfl,hJ3⟩
     gi_wp2
     refine⟨⟨_,_,_,_,_,_,_,_,_,_,_,_,_,_,_,_,⟨w &&& (w-1),pre++[xb],rfl,Bz LK hw,hJ3,by rw[Ar];exact hpre⟩,rfl⟩,?_⟩
     ·show JI (.int .u64 ((w &&& (w-1):Nat):Int))<JI (.int .u64 (w:Int))
      rw[Ft,Ft]
      exact Bz OB (by omega)
  ·gi_wp2
   gi_loopw [4] (fun v4 wr=>∃(w:Nat) (pre:List UInt8),v4=.int .u64 (w:Int)/\w<18446744073709551616/\J pre wr/\pre++bl w 128=up 3) (fun v4 _=>JI v4)
   case atStart=>exact⟨a2,up 2,rfl,l2,hJi,by rw[hup];simp[TJ]⟩
   case round=>
    obtain⟨w,pre,rfl,hw,hJp,hpre⟩:=hrel
    rcases DB w with hz | hpos
    ·subst hz
     gi_wp2
     refine⟨⟨3,rfl,by omega,?_⟩,by decide⟩
     rw[OU,DJ]at hpre
     rw[<- hpre];exact hJp
    ·have hne:((w:Int)==0)=false:=by
      have:¬(w:Int)=0:=by omega
      simp;omega
     have hTw:=hT _ _ hJp
     gi_wp2
     refine⟨trivial,(callsIn_wide.2 (Vh w wr hTw hpos hw)).mono ?_⟩
     rintro e w2 ⟨rfl,t,m,hwt,rfl⟩
     have ht:t<64:=by
      have g1:2 ^ t<=w:=by rw[hwt];exact Ff _ (by omega)
      exact(EB (a:=2) (by omega)).1 (Bz g1 (by rw[show(2:Nat) ^ 64=18446744073709551616 by decide];exact hw))
     have hbl:=OV (base:=128) hwt (by rw[show(2:Nat) ^ 64=18446744073709551616 by decide];exact hw)
     clear hwt
     generalize hxb:UInt8.ofNat (128+t)=xb at hbl
     have hx8:(xb.toNat:Int)=(128:Int)+(t:Int):=by rw[<- hxb];simp;omega
     clear hxb
     have hlen:pre.length<256:=by
      have e1:=congrArg List.length hpre
      rw[hbl,hup]at e1
      have b0:=HR a0 0
      have b1:=HR a1 64
      have b2:=HR a2 128
      simp[TJ]at e1
      omega
     obtain⟨fn,tmps,assign,body,hy,hR⟩:=hY pre xb w2 hJp hlen
     rw[hx8]at hy
     rw[hbl]at hpre
     have hand:bits .and .u64 (w:Int) ((w:Int)-1)=((w &&& (w-1):Nat):Int):=by
      have e1:(w:Int)-1=((w-1:Nat):Int):=by omega
      rw[e1,cA hw (by omega)]
     clear hbl hx8
     gi_wp2
     refine hR.mono ?_
     rintro e W3 ⟨rfl,hJ3⟩
     gi_wp2
     refine⟨⟨_,_,_,_,_,_,_,_,_,_,_,_,_,_,_,_,⟨w &&& (w-1),pre++[xb],rfl,Bz LK hw,hJ3,by rw[Ar];exact hpre⟩,rfl⟩,?_⟩
     ·show JI (.int .u64 ((w &&& (w-1):Nat):Int))<JI (.int .u64 (w:Int))
      rw[Ft,Ft]
      exact Bz OB (by omega)
  ·gi_wp2
   gi_loopw [4] (fun v4 wr=>∃(w:Nat) (pre:List UInt8),v4=.int .u64 (w:Int)/\w<18446744073709551616/\J pre wr/\pre++bl w 192=up 4) (fun v4 _=>JI v4)
   case atStart=>exact⟨a3,up 3,rfl,l3,hJi,by rw[hup];simp[TJ]⟩
   case round=>
    obtain⟨w,pre,rfl,hw,hJp,hpre⟩:=hrel
    rcases DB w with hz | hpos
    ·subst hz
     gi_wp2
     refine⟨⟨4,rfl,by omega,?_⟩,by decide⟩
     rw[OU,DJ]at hpre
     rw[<- hpre];exact hJp
    ·have hne:((w:Int)==0)=false:=by
      have:¬(w:Int)=0:=by omega
      simp;omega
     have hTw:=hT _ _ hJp
     gi_wp2
     refine⟨trivial,(callsIn_wide.2 (Vh w wr hTw hpos hw)).mono ?_⟩
     rintro e w2 ⟨rfl,t,m,hwt,rfl⟩
     have ht:t<64:=by
      have g1:2 ^ t<=w:=by rw[hwt];exact Ff _ (by omega)
      exact(EB (a:=2) (by omega)).1 (Bz g1 (by rw[show(2:Nat) ^ 64=18446744073709551616 by decide];exact hw))
     have hbl:=OV (base:=192) hwt (by rw[show(2:Nat) ^ 64=18446744073709551616 by decide];exact hw)
     clear hwt
     generalize hxb:UInt8.ofNat (192+t)=xb at hbl
     have hx8:(xb.toNat:Int)=(192:Int)+(t:Int):=by rw[<- hxb];simp;omega
     clear hxb
     have hlen:pre.length<256:=by
      have e1:=congrArg List.length hpre
      rw[hbl,hup]at e1
      have b0:=HR a0 0
      have b1:=HR a1 64
      have b2:=HR a2 128
      have b3:=HR a3 192
      simp[TJ]at e1
      omega
     obtain⟨fn,tmps,assign,body,hy,hR⟩:=hY pre xb w2 hJp hlen
     rw[hx8]at hy
     rw[hbl]at hpre
     have hand:bits .and .u64 (w:Int) ((w:Int)-1)=((w &&& (w-1):Nat):Int):=by
      have e1:(w:Int)-1=((w-1:Nat):Int):=by omega
      rw[e1,cA hw (by omega)]
     clear hbl hx8
     gi_wp2
     refine hR.mono ?_
     rintro e W3 ⟨rfl,hJ3⟩
     gi_wp2
     refine⟨⟨_,_,_,_,_,_,_,_,_,_,_,_,_,_,_,_,⟨w &&& (w-1),pre++[xb],rfl,Bz LK hw,hJ3,by rw[Ar];exact hpre⟩,rfl⟩,?_⟩
     ·show JI (.int .u64 ((w &&& (w-1):Nat):Int))<JI (.int .u64 (w:Int))
      rw[Ft,Ft]
      exact Bz OB (by omega)
  ·gi_wp2
   go_end0
   exact⟨⟨_,rfl⟩,by rw[hup]at hJi;exact hJi⟩
end
section
open Go Go.RowKit Go.AL Go.Maps Go.Sort Go.Shelf
abbrev Mq (x:UInt8):Value:=.int .u8 (x.toNat:Int)
theorem mP:f411.name≠"runtime.NumGoroutine":=by
 have h:(f411.name=="runtime.NumGoroutine")=false:=by kernel_rfl
 simpa using h
theorem fz:Go.AL.Enters prog 411:=⟨_,func411,mP,by kernel_rfl⟩
theorem i5:(prog.info? 5).map (fun i=>(i.zero,i.size,i.bytes))=some (some (.int .u8 0),1,1):=by kernel_rfl
theorem M0.below {w W:World}(h:M0 w) (hb:Below w.heap.size w W):M0 W:=fun t ht n hn=>by
 have h1:=h t ht n hn
 have h2:1<w.heap.size:=by
  have h3:=h 0 (by omega) 0 rfl
  unfold World.cell? at h3
  split at h3
  ·rename_i heq
   exact(Aj.1 heq).1
  ·cases h3
 exact(hb.cell (p:=⟨1,t,none⟩) h2).trans h1
def Cb.apAssign:Code:=(Code.region 2 #[{ dst:=some 5,op:=Op.assign (Operand.tmp 7),type:=5,pos:="iter.go:51",after:=#[],guard:=none }] false)
def Cb.apBody:Code:=(Code.block 1 (Code.region 3 #[{ dst:=some 8,op:=Op.load 24 (Operand.tmp 2),type:=24,pos:="iter.go:52",after:=#[],guard:=none },{ dst:=some 9,op:=Op.move (Operand.tmp 5),type:=5,pos:="iter.go:52",after:=#[],guard:=none },{ dst:=some 10,op:=Op.buildSlice 24 1 #[(0,Operand.tmp 9)],type:=24,pos:="iter.go:52",after:=#[{ on:=1,ground:=Ground.data }],guard:=none },{ dst:=some 11,op:=Op.call { callee:=Callee.builtin Builtin.append,args:=#[Operand.tmp 8,Operand.tmp 10],argTypes:=#[24,24] },type:=24,pos:="iter.go:52",after:=#[{ on:=0,ground:=Ground.data },{ on:=2,ground:=Ground.data }],guard:=none },{ dst:=none,op:=Op.store 24 (Operand.tmp 2) (Operand.tmp 11),type:=0,pos:="iter.go:52",after:=#[{ on:=3,ground:=Ground.data },{ on:=3,ground:=Ground.chain },{ on:=0,ground:=Ground.phase },{ on:=1,ground:=Ground.phase },{ on:=2,ground:=Ground.phase },{ on:=3,ground:=Ground.phase }],guard:=none }] false))
def Cb.apRec (fn:FuncId) (sv:Value) (Bs D:Nat) (st:LoopState) (pend:Option Code):Loop:=
 { state:=st,pending:=pend,fn,tmps:=#[.slice none 0 0,sv,.pointer (some ⟨Bs,0,none⟩),undef,.slice none 0 0,undef,sv,undef,undef,undef,undef,undef,undef],params:=#[7],assign:=Cb.apAssign,body:=Cb.apBody,defers:=D }
structure Cb.ApAt (w0:World) (fn:FuncId) (sv:Value) (Bs l D:Nat) (ss:List UInt8) (W:World):Prop where
 box:∃v,W.heap[Bs]?=some (.cells #[v] 24 (0,0))/\W.ownsRow w0.heap.size 5 1 v ss.length (ss.map Mq)/\(v=.slice none 0 0↔ss=[])
 L:W.heap[l]?=some (.loop (Cb.apRec fn sv Bs D .ready none))
 K:W.heap[D]?=some (.deferred (some []))
 below:Below w0.heap.size w0 W
set_option maxRecDepth 100000 in
set_option maxHeartbeats 2000000 in
theorem Cb.apYield (m:Nat) (w0:World) (fn:FuncId) (sv:Value) (Bs l D:Nat) (hBl:Bs≠l) (hDl:D≠l) (hDB:D≠Bs) (h0B:w0.heap.size<=Bs) (h0l:w0.heap.size<=l)
  (N:Nat) (hN:N<=maxLen) (hNb:N*1<=140737488355328) (ss:List UInt8) (x:UInt8) (W:World) (h:Cb.ApAt w0 fn sv Bs l D ss W) (hlen:ss.length<N) :
  YieldAt Fence.wide m prog l #[Mq x] W fun e W'=>e=.returned (.bool true)/\Cb.ApAt w0 fn sv Bs l D (ss++[x]) W'/\KeepsWalks W W':=by
 have hne:24≠5:=fun e=>by cases e
 obtain⟨i0,hi,hz0,hz1,hz2⟩:=info_parts i5
 obtain⟨v,hv,hrow,_⟩:=h.box
 refine⟨fn,#[.slice none 0 0,sv,.pointer (some ⟨Bs,0,none⟩),undef,.slice none 0 0,undef,sv,Mq x,undef,undef,undef,undef,undef],Cb.apAssign,Cb.apBody,by simpa[Cb.apRec]using run_yield (P:=prog) (args:=#[Mq x]) h.L rfl,roundIn_of_wpIn trivial ?_⟩
 have hl:l<W.heap.size:=(Aj.1 h.L).1
 have hbr:=run_beginRound (P:=prog) h.L rfl
 obtain⟨W2,hW2⟩:∃W2,W.putObj l (.loop { Cb.apRec fn sv Bs D .ready none with state:=.busy })=W2:=⟨_,rfl⟩
 rw[hW2]at hbr
 have hg2:W.grownBy W2 (some l):=by rw[<- hW2];exact grownBy_putObj_a _ _ _
 have hk2:KeepsWalks W W2:=by rw[<- hW2];exact KeepsWalks.putObj _ h.L rfl
 have hv2:W2.heap[Bs]?=some (.cells #[v] 24 (0,0)):=by rw[<- hW2];exact(World.putObj_heap_other hBl).trans hv
 have hK2:W2.heap[D]?=some (.deferred (some [])):=by rw[<- hW2];exact(World.putObj_heap_other hDl).trans h.K
 have hL2:W2.heap[l]?=some (.loop { Cb.apRec fn sv Bs D .ready none with state:=.busy }):=by rw[<- hW2];exact World.putObj_heap_same hl
 have hrow2:W2.ownsRow w0.heap.size 5 1 v ss.length (ss.map Mq):=hrow.kept hg2 (ownsRow_ne_a hrow h.L (fun cur e=>by first | cases e | exact hne (Obj.cells.inj e).2.1))
 have hb2:Below w0.heap.size w0 W2:=h.below.grown hg2 h.below.size (fun k e=>by cases e;exact h0l)
 obtain⟨Ub,hf2⟩:=cell_of_box_a hv2
 have hBlt:Bs<W2.heap.size:=(Aj.1 hv2).1
 have hl2:l<W2.heap.size:=(Aj.1 hL2).1
 have hDlt:D<W2.heap.size:=(Aj.1 hK2).1
 have ne_of:∀{j:Nat} {o:Obj},W2.heap[j]?=some o->(∀cur,o≠.cells cur 5 (0,0))->some j≠v.ownBlock:=fun hj hno=>by
  rcases ownsRow_ne_a hrow2 hj hno with e | e
  ·rw[e];simp
  ·exact fun e'=>e e'.symm
 clear hW2
 unfold Cb.apAssign
 gi_wp2_with gi_round_op_a
 unfold Cb.apBody
 gi_wp2_with (first
  | (
    gi_at_builtin;refine wpListIn_append_own _ rfl _ _ 24 rfl w0.heap.size 5 i0 (.int .u8 0) 1 1 underlying24 hi hz0 hz1 hz2 rfl (by decide) _ _ _ rfl (hrow2.alloc _) ⟨W2.heap.size,0,none⟩ 1 1 [Mq x] rfl rfl (cell_one_new _ _ _) (by simp[Value.oneCell',Mq]) (by omega) (by omega) (by have:=hb2.size;simp;omega) ?_;intro v' w3 hown' hg3 hnil3
    have hv3:w3.heap[Bs]?=some (.cells #[v] 24 (0,0)):=(hg3.block Bs (by simp;omega) (ne_of hv2 (fun cur e=>by first | cases e | exact hne (Obj.cells.inj e).2.1))).trans ((Below.heap_alloc _ _ Bs hBlt).trans hv2)
    obtain⟨Py,hf3⟩:=cell_of_box_a hv3
    obtain⟨g',cap',cur',rfl,hbase',hgb',hr1,hr2,hr3,hr4⟩:∃g' cap' cur',v'=.slice (some ⟨g',0,none⟩) (ss.length+1) cap'/\w0.heap.size<=g'/\w3.heap[g']?=some (.cells cur' 5 (0,0))/\ss.length+1<=cap'/\cap'<=maxLen/\cur'.size=cap'*1/\cur'.toList.take ((ss.length+1)*1)=ss.map Mq++[Mq x]:=by
     rcases hown'.2 with⟨_,h0⟩ | h'
     ·exact absurd h0 (by omega)
     ·exact h'
    go_frame)
  | gi_round_op_a)
 have hg3':(W2.alloc (.cells #[Mq x] 5)).grownBy w3 v.ownBlock:=hg3
 have hL3:w3.heap[l]?=some (.loop { Cb.apRec fn sv Bs D .ready none with state:=.busy }):=(hg3'.block l (by simp;omega) (ne_of hL2 (fun cur e=>by first | cases e | exact hne (Obj.cells.inj e).2.1))).trans ((Below.heap_alloc _ _ l hl2).trans hL2)
 have hK3:w3.heap[D]?=some (.deferred (some [])):=(hg3'.block D (by simp;omega) (ne_of hK2 (fun cur e=>by first | cases e | exact hne (Obj.cells.inj e).2.1))).trans ((Below.heap_alloc _ _ D hDlt).trans hK2)
 obtain⟨w4,hw4⟩:∃w4,w3.setCell ⟨Bs,0,none⟩ (.slice (some ⟨g',0,none⟩) (ss.length+1) cap')=w4:=⟨_,rfl⟩
 rw[hw4]
 have hg4:w3.grownBy w4 (some Bs):=by rw[<- hw4];exact grownBy_setCell0_a _ _ _
 have hv4:w4.heap[Bs]?=some (.cells #[.slice (some ⟨g',0,none⟩) (ss.length+1) cap'] 24 (0,0)):=by rw[<- hw4];exact heap_setCell_box_a _ hv3
 have hL4:w4.heap[l]?=some (.loop { Cb.apRec fn sv Bs D .ready none with state:=.busy }):=(hg4.block l (Aj.1 hL3).1 (fun e=>hBl (by cases e;rfl))).trans hL3
 have hK4:w4.heap[D]?=some (.deferred (some [])):=(hg4.block D (Aj.1 hK3).1 (fun e=>hDB (by cases e;rfl))).trans hK3
 have hrow4:=hown'.kept hg4 (ownsRow_ne_a hown' hv3 (fun cur e=>by first | cases e | exact hne (Obj.cells.inj e).2.1))
 have hl4:l<w4.heap.size:=(Aj.1 hL4).1
 have hb3:Below w0.heap.size w0 w3:=(hb2.alloc hb2.size _).grown hg3' (by have:=hb2.size;simp;omega) (fun k e=>(hrow2.lt k e).1)
 have hb4:Below w0.heap.size w0 w4:=hb3.grown hg4 hb3.size (fun k e=>by cases e;exact h0B)
 have hk4:KeepsWalks W w4:=((hk2.trans (KeepsWalks.alloc _ _)).trans (KeepsWalks.of_grownBy hg3' (ownsRow_not_walk_a (hrow2.alloc _)))).trans (by rw[<- hw4];exact KeepsWalks.setCell _ _ _)
 clear hw4
 refine⟨_,_,run_endRound none hL4,rfl,⟨⟨_,(World.putObj_heap_other hBl).trans hv4,?_,by simp⟩,World.putObj_heap_same hl4,(World.putObj_heap_other hDl).trans hK4,hb4.grown (grownBy_putObj_a _ _ _) hb4.size (fun k e=>by cases e;exact h0l)⟩,hk4.trans (KeepsWalks.putObj _ hL4 rfl)⟩
 have:=hrow4.kept (grownBy_putObj_a w4 l (.loop { { Cb.apRec fn sv Bs D .ready none with state:=.busy }with state:=if (none:Option Code).isNone then .ready else .done,pending:=none })) (ownsRow_ne_a hrow4 hL4 (fun cur e=>by first | cases e | exact hne (Obj.cells.inj e).2.1))
 simpa using this
set_option maxRecDepth 100000 in
set_option maxHeartbeats 2000000 in
theorem Cb.appendSeq_in (b off a0 a1 a2 a3:Nat) (w:World) (hT:M0 w) (hb:b<w.heap.size)
  (h0:w.cell? ⟨b,off,none⟩=some (.int .u64 (a0:Int))) (h1:w.cell? ⟨b,off+1,none⟩=some (.int .u64 (a1:Int))) (h2:w.cell? ⟨b,off+2,none⟩=some (.int .u64 (a2:Int))) (h3:w.cell? ⟨b,off+3,none⟩=some (.int .u64 (a3:Int)))
  (l0:a0<18446744073709551616) (l1:a1<18446744073709551616) (l2:a2<18446744073709551616) (l3:a3<18446744073709551616) :
  CallsIn Fence.wide 5 prog 410 #[.slice none 0 0,.func (.func 411) #[] #[.pointer (some ⟨b,off,none⟩)]] w fun e w'=>∃v:Value,e=.returned v/\w'.ownsRow w.heap.size 5 1 v (TJ a0 a1 a2 a3).length ((TJ a0 a1 a2 a3).map Mq)/\(v=.slice none 0 0↔TJ a0 a1 a2 a3=[])/\Below w.heap.size w w':=by
 have hne:24≠5:=fun e=>by cases e
 refine callsIn_of_wp_marks func410 rfl trivial ?_ rfl
 simp only[ntmps410,I5,Be,G9,Nat.reduceAdd,Nat.reduceSub,I9,I8,LN,JA,Bf,Fi]
 gi_wp2
 refine wpIn_rangeFunc ?_
 intro fn hfn
 obtain⟨W0,hW0⟩:∃W0,w.alloc (.cells #[.slice none 0 0] 24)=W0:=⟨_,rfl⟩
 have hs0:W0.heap.size=w.heap.size+1:=by rw[<- hW0];simp
 have hv0:W0.heap[w.heap.size]?=some (.cells #[.slice none 0 0] 24 (0,0)):=by rw[<- hW0];exact World.alloc_heap_new w _
 have hb0:Below w.heap.size w W0:=by rw[<- hW0];exact(Below.refl _ w).alloc (A4 _) _
 rw[hW0]
 obtain⟨W1,hW1⟩:∃W1,(W0.alloc (.deferred (some []))).alloc (.loop (Cb.apRec fn (.func (.func 411) #[] #[.pointer (some ⟨b,off,none⟩)]) w.heap.size W0.heap.size .ready none))=W1:=⟨_,rfl⟩
 have hold:∀k,k<W0.heap.size->W1.heap[k]?=W0.heap[k]?:=fun k hk=>by
  rw[<- hW1];exact(Below.heap_alloc _ _ k (by simp;omega)).trans (Below.heap_alloc _ _ k hk)
 have hb1:Below w.heap.size w W1:=by rw[<- hW1];exact(hb0.alloc hb0.size _).alloc (by have:=hb0.size;simp;omega) _
 have hs1:W1.heap.size=W0.heap.size+2:=by rw[<- hW1];simp
 have hM:Cb.ApAt w fn (.func (.func 411) #[] #[.pointer (some ⟨b,off,none⟩)]) w.heap.size (W0.heap.size+1) W0.heap.size [] W1:=
  ⟨⟨_,(hold w.heap.size (by omega)).trans hv0,⟨rfl,.inl ⟨rfl,rfl⟩⟩,by simp⟩,
   by rw[<- hW1];have:=World.alloc_heap_new (W0.alloc (.deferred (some []))) (.loop (Cb.apRec fn (.func (.func 411) #[] #[.pointer (some ⟨b,off,none⟩)]) w.heap.size W0.heap.size .ready none));rwa [World.size_alloc]at this,
   by rw[<- hW1];exact(Below.heap_alloc _ _ _ (by simp)).trans (World.alloc_heap_new W0 _),hb1⟩
 refine⟨W0.heap.size+1,[{ target:=.collected W0.heap.size,args:=#[] }],W1,{ target:=.fn (.func 411) #[.pointer (some ⟨b,off,none⟩)],args:=#[.func (.yield (W0.heap.size+1)) #[] #[]] },W1,411,
  #[.func (.yield (W0.heap.size+1)) #[] #[]]++#[.pointer (some ⟨b,off,none⟩)],W1,?_,?_,?_,?_,fun _=>by omega,?_⟩
 ·rw[<- hW1];exact run_enterLoop_outer _ _ _ _ _
 ·simp[resolve,go_sem]
 ·intro f' hf';simp[Target.leads]at hf';subst hf';exact trivial
 ·simp[invoke,go_sem,EH fz]
 ·have hcell:∀k:Nat,W1.cell? ⟨b,off+k,none⟩=w.cell? ⟨b,off+k,none⟩:=fun k=>hb1.cell (p:=⟨b,off+k,none⟩) hb
  have hcell0:W1.cell? ⟨b,off,none⟩=w.cell? ⟨b,off,none⟩:=hb1.cell (p:=⟨b,off,none⟩) hb
  refine(eL 4 (W0.heap.size+1) b off (by omega) a0 a1 a2 a3 (Cb.ApAt w fn (.func (.func 411) #[] #[.pointer (some ⟨b,off,none⟩)]) w.heap.size (W0.heap.size+1) W0.heap.size) W1 (fun pre W' hJ=>hT.below hJ.below) (by rw[hcell0];exact h0) (by rw[hcell 1];exact h1) (by rw[hcell 2];exact h2) (by rw[hcell 3];exact h3) l0 l1 l2 l3
   (fun pre x W hJ hl=>?_) hM).mono ?_
  ·obtain⟨fn',tmps,assign,body,q1,q2⟩:=Cb.apYield (4-1) w fn _ w.heap.size (W0.heap.size+1) W0.heap.size (by omega) (by omega) (by omega) (A4 _) (by omega) 256 (by decide) (by decide) pre x W hJ hl
   exact⟨fn',tmps,assign,body,q1,q2.mono fun e W' h=>⟨h.1,h.2.1⟩⟩
  rintro e W2 ⟨⟨v0,rfl⟩,h2⟩
  obtain⟨v,hv,hrow,hnil⟩:=h2.box
  have hend:=run_endLoop (P:=prog) h2.L (by simp[Cb.apRec])
  obtain⟨W3,hW3⟩:∃W3,W2.putObj (W0.heap.size+1) (.loop { Cb.apRec fn (.func (.func 411) #[] #[.pointer (some ⟨b,off,none⟩)]) w.heap.size W0.heap.size .ready none with state:=.exhausted })=W3:=⟨_,rfl⟩
  rw[hW3]at hend
  have hg3:W2.grownBy W3 (some (W0.heap.size+1)):=by rw[<- hW3];exact grownBy_putObj_a _ _ _
  have hv3:W3.heap[w.heap.size]?=some (.cells #[v] 24 (0,0)):=by rw[<- hW3];exact(World.putObj_heap_other (by omega)).trans hv
  have hK3:W3.heap[W0.heap.size]?=some (.deferred (some [])):=by rw[<- hW3];exact(World.putObj_heap_other (by omega)).trans h2.K
  have hrow3:=hrow.kept hg3 (ownsRow_ne_a hrow h2.L (fun cur e=>by first | cases e | exact hne (Obj.cells.inj e).2.1))
  have hb3:Below w.heap.size w W3:=h2.below.grown hg3 h2.below.size (fun k e=>by cases e;omega)
  obtain⟨Py,hf3⟩:=cell_of_box_a hv3
  clear hW3
  refine⟨none,W3,hend,?_⟩
  gi_wp2
  rw[<- hs0]
  refine⟨by simp,.inl ⟨_,_,rfl,run_takeDeferred hK3,?_⟩⟩
  exact⟨_,results_tmp rfl _ _ _,v,rfl,hrow3.kept (grownBy_putObj_a _ _ _) (ownsRow_ne_a hrow3 hK3 (fun cur e=>by first | cases e | exact hne (Obj.cells.inj e).2.1)),hnil,hb3.grown (grownBy_putObj_a _ _ _) hb3.size (fun k e=>by cases e;omega)⟩
end
end Go.Proofs.YtlmkmpomgdbjhaaGreatDoor
namespace Go.Proofs.YtlmkmpomgdbjhaaGreatDoor.San
open Tryz
noncomputable section
open Go Go.AL
variable [BQ]
def Ew (w:Nat) (base:Nat):Nat->List AV->List AV:=fun n=>Nat.rec (motive:=fun _=>List AV->List AV) (fun acc=>acc) (fun m ih acc=>ih (bif Nat.beq (Nat.mod (Nat.div w (Nat.pow 2 m)) 2) 1 then N .u8 (Nat.add base m)::acc else acc)) n
def word (l:List AV) (i:Nat):Option Nat:=match L6 l i with
 | some (.int .u64 (.ofNat n))=>bif Nat.ble n 18446744073709551615 then some n else none
 | _=>none
def Mf:Ag:=fun g ar h=>bif Nat.beq g 410 then(match ar with
 | [.nils,.fn (.func f) [] [.ptr r o]]=>bif Nat.beq f 411 then(match Bx h r with
  | some l=>(match word l o,word l (o+1),word l (o+2),word l (o+3)with
   | some a,some b,some c,some d=>(match Ew a 0 64 (Ew b 64 64 (Ew c 128 64 (Ew d 192 64 [])))with
    | []=>.ret .nils h
    | x::xs=>h.Ie (x::xs) .bad fun nx h'=>.ret (.sl nx 0 (FX (x::xs)) (.op 1)) h')
   | _,_,_,_=>.bad)
  | none=>.bad)else .bad
 | _=>.bad)else .bad
end
end Go.Proofs.YtlmkmpomgdbjhaaGreatDoor.San
namespace Go.AL
theorem WR.newAt {Z:Zt}{σ:Sg}{H:AH}{w w':World}(h:WR Z σ H w) (hB:Go.RowKit.Below w.heap.size w w'){ao:Cw}{p:Ip}(hp:w.heap.size<=p.b) (ho:IZ Z (σ.add H.next p) w' p ao):WR Z (σ.add H.next p) (H.push ao) w':=by
 have hf:σ H.next=none:=h.fresh _ (A4 _)
 have hlt:∀r o' p',H.get r=some o'->σ r=some p'->p'.b<w.heap.size:=fun r o' p' h1 h2=>(h.h r o' p' h1 h2).2.lt
 refine⟨fun b o' hz=>?_,fun r o' p' hr hp'=>?_,fun r r' o1 o2 p1 p2 h1 h2 h3 h4 he=>?_,fun r hr=>?_,fun r hr=>?_,h.rest.to ⟨hB.os,hB.output⟩⟩
 ·have:=h.z b o' hz
  rw[hB.block b (Aj.1 this).1];exact this
 ·by_cases e:r=H.next
  ·subst e
   simp only[AH.DL,AD]at hr
   simp only[Sg.add_same,AD]at hp'
   subst hr;subst hp'
   refine⟨?_,ho⟩
   cases hz:Z p.b with
   | none=>rfl
   | some x=>have:=(Aj.1 (h.z _ _ hz)).1;omega
  ·rw[AH.Af _ _ e]at hr
   have hp'':σ r=some p':=by simpa[Sg.add,e]using hp'
   obtain⟨h1,h2⟩:=h.h r o' p' hr hp''
   exact⟨h1,h2.mono (CO.refl _) (Sg.F9 hf) (hB.block _ h2.lt)⟩
 ·by_cases e1:r=H.next<;>by_cases e2:r'=H.next
  ·rw[e1,e2]
  ·rw[AH.Af _ _ e2]at h2
   have h4':σ r'=some p2:=by simpa[Sg.add,e2]using h4
   subst e1
   simp only[Sg.add_same,AD]at h3
   subst h3
   have:=hlt _ _ _ h2 h4'
   omega
  ·rw[AH.Af _ _ e1]at h1
   have h3':σ r=some p1:=by simpa[Sg.add,e1]using h3
   subst e2
   simp only[Sg.add_same,AD]at h4
   subst h4
   have:=hlt _ _ _ h1 h3'
   omega
  ·rw[AH.Af _ _ e1]at h1
   rw[AH.Af _ _ e2]at h2
   exact h.inj r r' o1 o2 p1 p2 h1 h2 (by simpa[Sg.add,e1]using h3) (by simpa[Sg.add,e2]using h4) he
 ·simp only[AH.GP]at hr
  have:r≠H.next:=by omega
  simp only[Sg.add,this,if_false]
  exact h.fresh r (by omega)
 ·simp only[AH.GP]at hr
  rw[AH.Af _ _ (by omega)]
  exact h.top r (by omega)
theorem WR.below {Z:Zt}{σ:Sg}{H:AH}{w w':World}(h:WR Z σ H w) (hB:Go.RowKit.Below w.heap.size w w'):WR Z σ H w':=by
 refine⟨fun b o' hz=>?_,fun r o' p' hr hp'=>?_,h.inj,h.fresh,h.top,h.rest.to ⟨hB.os,hB.output⟩⟩
 ·have:=h.z b o' hz
  rw[hB.block b (Aj.1 this).1];exact this
 ·obtain⟨h1,h2⟩:=h.h r o' p' hr hp'
  exact⟨h1,h2.mono (CO.refl _) (fun _ _ h=>h) (hB.block _ h2.lt)⟩
end Go.AL
namespace Go.Proofs.YtlmkmpomgdbjhaaGreatDoor
open Tryz
section
open Go Go.AL
open Go.Proofs.YtlmkmpomgdbjhaaGreatDoor.San (Ew word Mf)
variable [BQ]
theorem Jl (w base:Nat) (hb:base+64<=256):∀(n:Nat) (acc:List AV),n<=64->Ew w base n acc=(((List.range n).filter fun j=>w.testBit j).map fun j=>bv (UInt8.ofNat (base+j)))++acc
 | 0,acc,_=>rfl
 | n+1,acc,hn=>by
  have e:Ew w base (n+1) acc=Ew w base n (bif Nat.beq (Nat.mod (Nat.div w (Nat.pow 2 n)) 2) 1 then N .u8 (Nat.add base n)::acc else acc):=rfl
  rw[e,Jl w base hb n _ (by omega),List.range_succ,Ow,ET,Ar]
  congr 1
  have ht:w.testBit n=Nat.beq (Nat.mod (Nat.div w (Nat.pow 2 n)) 2) 1:=by
   rw[Nat.testBit_eq_decide_div_mod_eq]
   show decide (w / 2 ^ n % 2=1)=Nat.beq (w / 2 ^ n % 2) 1
   by_cases h:w / 2 ^ n % 2=1
   ·rw[h];rfl
   ·rw[decide_eq_false h]
    cases hq:Nat.beq (w / 2 ^ n % 2) 1 with
    | false=>rfl
    | true=>exact absurd (Cp hq) h
  rw[Og,List.filter_nil,ht]
  cases Nat.beq (Nat.mod (Nat.div w (Nat.pow 2 n)) 2) 1 with
  | false=>rfl
  | true=>
   show AV.int .u8 ((base+n:Nat):Int)::acc=AV.int .u8 (((UInt8.ofNat (base+n)).toNat:Nat):Int)::acc
   have:(UInt8.ofNat (base+n)).toNat=base+n:=by simp;omega
   rw[this]
theorem nz (a b c d:Nat):Ew a 0 64 (Ew b 64 64 (Ew c 128 64 (Ew d 192 64 [])))=(TJ a b c d).map bv:=by
 rw[Jl d 192 (by omega) 64 _ (by omega),Jl c 128 (by omega) 64 _ (by omega),Jl b 64 (by omega) 64 _ (by omega),Jl a 0 (by omega) 64 _ (by omega)]
 simp[TJ,bl,Function.comp_def]
theorem ZF {l:List AV}{i a:Nat}(h:word l i=some a):l[i]?=some (.int .u64 (a:Int))/\a<18446744073709551616:=by
 unfold word at h
 rw[L5]at h
 split at h
 ·rename_i n heq
  cases hb:Nat.ble n 18446744073709551615 with
  | false=>rw[hb]at h;cases h
  | true=>
   rw[hb]at h
   have h:some n=some a:=h
   cases h
   exact⟨heq,by have:=Aa hb;omega⟩
 ·cases h
class Bq:Prop where
 TH:∃o,BQ.G 1=some o/\∀w:World,w.heap[1]?=some o->M0 w
theorem nk:Go.AL.Enters prog 410:=⟨_,func410,by
 have h:(f410.name=="runtime.NumGoroutine")=false:=by kernel_rfl
 simpa using h,by kernel_rfl⟩
theorem XS (Z:Zt) (σ:Sg):∀l:List UInt8,CC Z σ (l.map bv) (l.map Mq)
 | []=>.nil
 | _::l=>.cons (.int _ _) (XS Z σ l)
set_option maxHeartbeats 1000000 in
theorem call410 [hC:Bq] {H:AH}{r o:Nat}{l:List AV}{a b c d:Nat}(hg:H.gl=BQ.G) (hl:H.cells? r=some l) (ha:word l o=some a) (hb:word l (o+1)=some b) (hc:word l (o+2)=some c) (hd:word l (o+3)=some d) :
  AQ prog 410 [.nils,.fn (.func 411) [] [.ptr r o]] H (fun out H'=>match (TJ a b c d).map bv with
   | []=>out=.ret .nils/\H'=H
   | x::xs=>out=.ret (.sl H.next 0 (x::xs).length (.op 1))/\H'=H.push (.cells (x::xs))):=by
 refine⟨nk,fun Z σ w vs hW hv=>?_⟩
 cases hv with
 | cons h1 hv=>
 cases hv with
 | cons h2 hv=>
 cases hv
 cases h1
 cases h2 with
 | fn g1 g2=>
 rename_i vf vc
 have hvf:vf=#[]:=by
  cases hvf:vf.toList with
  | nil=>exact DE (by simpa using hvf)
  | cons _ _=>rw[hvf]at g1;cases g1
 subst hvf
 obtain⟨p,hvc,hp⟩:∃p:Ip,vc=#[.pointer (some ⟨p.b,p.base+o,none⟩)]/\σ r=some p:=by
  cases hvc:vc.toList with
  | nil=>rw[hvc]at g2;cases g2
  | cons y ys=>
   rw[hvc]at g2
   cases g2 with
   | cons q1 q2=>
    cases q2
    cases q1 with
    | ptr hs=>exact⟨_,DE (by simpa using hvc),hs⟩
 subst hvc
 obtain⟨z0,cc,e,fr,hb1,hb2,hb3,hb4,hb5,hb6⟩:=hW.row hl hp
 have hblt:p.b<w.heap.size:=(Aj.1 hb1).1
 have cellOf:∀(k n:Nat),word l (o+k)=some n->w.cell? ⟨p.b,p.base+o+k,none⟩=some (.int .u64 (n:Int))/\n<18446744073709551616:=fun k n hk=>by
  obtain⟨q1,q2⟩:=ZF hk
  refine⟨?_,q2⟩
  obtain⟨v,q3,q4⟩:=hb5.get q1
  have hlt:o+k<l.length:=(CJ.1 q1).1
  rw[D0,if_pos hlt,DD]at q3
  have q3:cc[p.base+(o+k)]?=some v:=by simpa using q3
  cases q4
  simp only[World.cell?,hb1]
  rw[Fg]
  simpa using q3
 obtain⟨oo,ho1,ho2⟩:=hC.TH
 have hT:M0 w:=ho2 w (hW.z 1 oo (hW.rest.2.2 1 oo (by rw[hg];exact ho1)).1)
 have c0:=cellOf 0 a ha
 have c1:=cellOf 1 b hb
 have c2:=cellOf 2 c hc
 have c3:=cellOf 3 d hd
 have hcall:=callsIn_wide.1 (Cb.appendSeq_in p.b (p.base+o) a b c d w hT hblt c0.1 c1.1 c2.1 c3.1 c0.2 c1.2 c2.2 c3.2)
 refine Calls.mono hcall ?_
 rintro en w' ⟨v,rfl,hrow,hnil,hbel⟩
 generalize hss:TJ a b c d=ss at hrow hnil
 cases ss with
 | nil=>
  have hv0:=hnil.2 rfl
  subst hv0
  exact⟨Z,σ,H,.ret .nils,CO.refl _,Nw.refl _ _,A4 _,hW.below hbel,⟨_,rfl,.nils⟩,rfl,rfl⟩
 | cons x xs=>
  rcases hrow.2 with⟨_,h0⟩ | ⟨g,cap,cur,rfl,q1,q2,q3,q4,q5,q6⟩
  ·simp at h0
  ·have hcur:cur.size=cap:=by omega
   have htk:cur.toList.take ((x::xs).map bv).length=(x::xs).map Mq:=by
    have:((x::xs).map bv).length=(x::xs).length*1:=by simp
    rw[this];exact q6
   have hne:cap≠0:=by simp at q3;omega
   refine⟨Z,σ.add H.next ⟨g,0,cap⟩,H.push (.cells ((x::xs).map bv)),.ret (.sl H.next 0 ((x::xs).map bv).length (.op 1)),CO.refl _,Nw.add _ _ _,by simp,hW.newAt hbel q1 ?_,⟨_,rfl,?_⟩,rfl,rfl⟩
   ·refine .cells (c:=cur) (e:=5) (fr:=(0,0)) q2 hcur (.inl rfl) ?_ ?_ ?_
    ·show 0+((x::xs).map bv).length<=cur.size
     rw[Au,hcur];omega
    ·show CC Z _ ((x::xs).map bv) ((cur.toList.drop 0).take ((x::xs).map bv).length)
     rw[B5,htk]
     exact XS _ _ (x::xs)
    ·show ∀v∈(cur.toList.drop 0).take ((x::xs).map bv).length,v.oneCell'=true
     rw[B5,htk]
     intro v hv
     obtain⟨y,_,rfl⟩:=Bk.1 hv
     rfl
   ·have:((x::xs).map bv).length=(x::xs).length:=by simp
    rw[this]
    exact .slo (p:=⟨g,0,cap⟩) (Sg.add_same _ _ _) q3 (by show 0+0+cap*1<=cap;omega)
theorem mM [Bq]:AT prog Mf:=by
 intro g ar h
 have key:∀kc,Mf g ar h=kc->kc=.bad\/∃r o l a b c d,g=410/\ar=[.nils,.fn (.func 411) [] [.ptr r o]]/\Bx h r=some l/\word l o=some a/\word l (o+1)=some b/\word l (o+2)=some c/\word l (o+3)=some d /\
   (match Ew a 0 64 (Ew b 64 64 (Ew c 128 64 (Ew d 192 64 [])))with
    | []=>KC.ret .nils h
    | x::xs=>h.Ie (x::xs) .bad fun nx h'=>.ret (.sl nx 0 (FX (x::xs)) (.op 1)) h')=kc:=by
  intro kc hk
  unfold Mf at hk
  cases hg:Nat.beq g 410 with
  | false=>rw[hg]at hk;exact .inl hk.symm
  | true=>
   rw[hg]at hk
   simp only[cond_true]at hk
   split at hk
   ·rename_i f r o
    cases hf:Nat.beq f 411 with
    | false=>rw[hf]at hk;exact .inl hk.symm
    | true=>
     rw[hf]at hk
     simp only[cond_true]at hk
     split at hk
     ·rename_i l hl
      split at hk
      ·rename_i a b c d ha hb hc hd
       have e1:=Cp hg
       have e2:=Cp hf
       subst e1;subst e2
       exact .inr ⟨r,o,l,a,b,c,d,rfl,rfl,hl,ha,hb,hc,hd,hk⟩
      ·exact .inl hk.symm
     ·exact .inl hk.symm
   ·exact .inl hk.symm
 have main:∀v h',Mf g ar h=.ret v h'->AQ prog g ar (Ah h) (fun o H'=>o=.ret v/\H'=Ah h'):=fun v h' hk=>by
  rcases key _ hk with h0 | ⟨r,o,l,a,b,c,d,rfl,rfl,hl,ha,hb,hc,hd,hm⟩
  ·cases h0
  ·refine(call410 (H:=Ah h) rfl (by rw[<- Bn];exact hl) ha hb hc hd).mono fun out H' hp=>?_
   rw[nz]at hm
   cases hs:(TJ a b c d).map bv with
   | nil=>rw[hs]at hm hp;cases hm;exact hp
   | cons x xs=>
    rw[hs]at hm hp
    obtain⟨h1,q1,q2⟩:=KH.DA hm (by simp)
    cases q2
    rw[FI]
    exact⟨hp.1,by rw[q1];exact hp.2⟩
 refine⟨main,fun v h' hk=>?_⟩
 rcases key _ hk with h0 | ⟨r,o,l,a,b,c,d,rfl,rfl,hl,ha,hb,hc,hd,hm⟩
 ·cases h0
 ·exfalso
  cases hs:Ew a 0 64 (Ew b 64 64 (Ew c 128 64 (Ew d 192 64 [])))with
  | nil=>rw[hs]at hm;cases hm
  | cons x xs=>
   rw[hs]at hm
   obtain⟨h1,q1,q2⟩:=KH.DA hm (by simp)
   cases q2
end
section
open Go Go.AL
variable [BQ]
def G5 (v0 v1 v2:AV) (h:AH) (g:Al->AH->Prop):Prop:=(
 AO (.box v0) h fun v3 h3=>
 AO (.box v1) h3 fun v4 h4=>
 AF prog 6 [] h4 (yp g) fun v5 h5=>
 AB (.build (BD 32 (N .u8 0) []) [(0,1,(N .u8 9))]) fun v6=>
 AG (.load (some 3) v3) h5 fun v7=>
 AG (.load (some 32) v4) h5 fun v8=>
 AF prog 10 [v6,v7,v8] h5 (yp g) fun v9 h9=>
 AO (.alloc (BD 32 (N .u8 0) (.nils::(BD 32 (N .u8 0) [])))) h9 fun b b4=>
 AO (.store 65 b v9) b4 fun f3 W=>
 AB (.convI .i64 v2) fun c2=>
 AB (.fieldAddr 32 b) fun c3=>
 AG (.load none c3) W fun c4=>
 AB (.len c4) fun c5=>
 AB (.bin .add c5 (I 96)) fun c6=>
 AB (.bin .rem c2 c6) fun c=>
 AB (.bin .rem v2 (N .u16 8)) fun c7=>
 AB (.bin .shl (N .u8 1) c7) fun L=>
 AB (.fieldAddr 0 b) fun a8=>
 AG (.load (some 32) a8) W fun a9=>
 Lb (.buildSlice 1 0 [] []) W fun c9 E=>
 AB (.fieldAddr 32 b) fun d0=>
 AG (.load none d0) E fun d1=>
 AB (.fieldAddr 33 b) fun b0=>
 AG (.load (some 32) b0) E fun b1=>
 Lb (.alloc (BD 32 (N .u8 0) (.nils::(BD 32 (N .u8 0) [])))) E fun d b5=>
 AO (.append 1 1 c9 d1) b5 fun d2 G=>
 (Yi (.alloc (BD 32 (N .u8 0) (.nils::(BD 32 (N .u8 0) [])))) E.next G/\(Am (.load (some 32) b0) b1 G/\(Am (.load (some 32) a8) a9 G/\True)))/\AB (.build (BD 32 (N .u8 0) (.nils::(BD 32 (N .u8 0) []))) [(0,32,a9),(32,1,d2),(33,32,b1)]) fun d3=>
 AO (.store 65 d d3) G fun f4 a5=>
 True/\AG (.load (some 32) v4) a5 fun d4=>
 AO (.alloc (BD 32 (N .u8 0) [])) a5 fun n b6=>
 AO (.store 32 n d4) b6 fun f5 a=>
 AB (.fieldAddr 32 b) fun d5=>
 AG (.load none d5) a fun d6=>
 AB (.len d6) fun d7=>
 AB (.bin .lss c d7) fun d8=>
 MU d8 (fun(a1 j o:AV) (X:AH)=>
 AG (.load (some 65) j) X fun C=>
 AG (.load (some 32) o) X fun D=>
 AF prog 7 [C,D] X (yp g) fun k b7=>
 AB (.extract 0 k) fun p=>
 AB (.extract 1 k) fun l=>
 AO (.alloc [(I 0),(I 0),.nils]) b7 fun x Y=>
 AO (.store 3 x p) Y fun M B=>
 AG (.load (some 32) o) B fun m=>
 AB (.fieldAddr 0 j) fun q=>
 AG (.load (some 32) q) B fun r=>
 AB (.fieldAddr 32 j) fun s=>
 AG (.load none s) B fun t=>
 AB (.fieldAddr 33 j) fun e=>
 AG (.load (some 32) e) B fun f=>
 AF prog 15 [r,t] B (yp g) fun u Z=>
 (Am (.load (some 32) e) f Z/\(Am (.load (some 32) o) m Z/\True))/\AF prog 14 [m,u] Z (yp g) fun v a0=>
 (Am (.load (some 32) e) f a0/\True)/\AB (.eq false (.wide (true,[(.i .u8),(.i .u8),(.i .u8),(.i .u8),(.i .u8),(.i .u8),(.i .u8),(.i .u8),(.i .u8),(.i .u8),(.i .u8),(.i .u8),(.i .u8),(.i .u8),(.i .u8),(.i .u8),(.i .u8),(.i .u8),(.i .u8),(.i .u8),(.i .u8),(.i .u8),(.i .u8),(.i .u8),(.i .u8),(.i .u8),(.i .u8),(.i .u8),(.i .u8),(.i .u8),(.i .u8),(.i .u8)])) v f) fun y=>
 DG true a1 (fun(O w z:AV) (a6:AH)=>
 DG false z (fun(Q:AV) (a7:AH)=>
 DG true a1 (fun(b2:AV) (c1:AH)=>
 AB (.pick a1 b2 (.cst (.bool false))) fun e2=>
 g (.ret e2) c1) (fun V=>
 AB (.pick z (.cst (.bool true)) Q) fun e1=>
 V e1 a7) (fun V=>V Bp a7)) (fun U=>
 U y a6) (fun U=>U Bp a6)) (fun R=>
 AB (.bin .eql l (I 280)) fun w=>
 R l w w a0) (fun R=>R Bp Bp Bp a0))
 (fun A=>AB (.fieldAddr 32 d) fun j=>
 AG (.load none j) a fun o=>
 AB (.fieldAddr 32 d) fun a2=>
 AG (.load none a2) a fun C=>
 AB (.indexAddrS 1 C c) fun D=>
 AG (.load none D) a fun k=>
 AB (.bin .xor k L) fun p=>
 AB (.indexAddrS 1 o c) fun l=>
 AO (.store 1 l p) a fun x Y=>
 A v5 d n Y)
 (fun A=>AB (.fieldAddr 32 b) fun j=>
 AG (.load none j) a fun o=>
 AB (.len o) fun a2=>
 AB (.bin .add a2 (I 32)) fun C=>
 AB (.bin .lss c C) fun D=>
 AZ D
 (AB (.fieldAddr 32 b) fun k=>
 AG (.load none k) a fun p=>
 AB (.len p) fun l=>
 AB (.bin .sub c l) fun x=>
 AB (.fieldAddr 32 b) fun M=>
 AG (.load none M) a fun m=>
 AB (.len m) fun q=>
 AB (.bin .sub c q) fun r=>
 AB (.fieldAddr 0 d) fun s=>
 AB (.indexAddrA 32 1 s r) fun t=>
 AG (.load none t) a fun e=>
 AB (.bin .xor e L) fun f=>
 AB (.fieldAddr 0 d) fun u=>
 AB (.indexAddrA 32 1 u x) fun v=>
 AO (.store 1 v f) a fun y b8=>
 A v5 d n b8)
 (AB (.fieldAddr 32 b) fun k=>
 AG (.load none k) a fun p=>
 AB (.len p) fun l=>
 AB (.bin .add l (I 64)) fun x=>
 AB (.bin .lss c x) fun M=>
 AZ M
 (AB (.fieldAddr 32 b) fun m=>
 AG (.load none m) a fun q=>
 AB (.len q) fun r=>
 AB (.bin .sub c r) fun s=>
 AB (.bin .sub s (I 32)) fun t=>
 AB (.fieldAddr 32 b) fun e=>
 AG (.load none e) a fun f=>
 AB (.len f) fun u=>
 AB (.bin .sub c u) fun v=>
 AB (.bin .sub v (I 32)) fun y=>
 AB (.fieldAddr 33 d) fun O=>
 AB (.indexAddrA 32 1 O y) fun w=>
 AG (.load none w) a fun z=>
 AB (.bin .xor z L) fun a3=>
 AB (.fieldAddr 33 d) fun Q=>
 AB (.indexAddrA 32 1 Q t) fun e0=>
 AO (.store 1 e0 a3) a fun b2 c0=>
 A v5 d n c0)
 (AB (.fieldAddr 32 b) fun m=>
 AG (.load none m) a fun q=>
 AB (.len q) fun r=>
 AB (.bin .sub c r) fun s=>
 AB (.bin .sub s (I 64)) fun t=>
 AB (.fieldAddr 32 b) fun e=>
 AG (.load none e) a fun f=>
 AB (.len f) fun u=>
 AB (.bin .sub c u) fun v=>
 AB (.bin .sub v (I 64)) fun y=>
 AB (.indexAddrA 32 1 n y) fun O=>
 AG (.load none O) a fun w=>
 AB (.bin .xor w L) fun z=>
 AB (.indexAddrA 32 1 n t) fun a3=>
 AO (.store 1 a3 z) a fun Q b9=>
 A v5 d n b9))))
theorem T5 {v0 v1 v2 h Post}(hG:G5 v0 v1 v2 h Post):AQ prog 5 [v0,v1,v2] h Post:=tP func5 (by kernel_rfl) (by kernel_rfl) hG
def xq (y z:AV) (h:AH) (a:Al->AH->Prop):Prop:=(
 AO (.box y) h fun q t=>
 AO (.alloc (BD 32 (N .u8 0) [])) t fun r g=>
 AG (.load (some 32) q) g fun A=>
 AF prog 30 [A,(N .u8 54)] g (yp a) fun B u=>
 AO (.append 1 1 B z) u fun C v=>
 AF prog 31 [C] v (yp a) fun D w=>
 AO (.alloc (BD 32 (N .u8 0) [])) w fun s x=>
 AO (.store 32 s D) x fun G i=>
 AG (.load (some 32) q) i fun j=>
 AF prog 30 [j,(N .u8 92)] i (yp a) fun k b=>
 AG (.load (some 32) s) b fun l=>
 AF prog 32 [l] b (yp a) fun m d=>
 AO (.append 1 1 k m) d fun n e=>
 AF prog 31 [n] e (yp a) fun o f=>
 AO (.store 32 r o) f fun E c=>
 AG (.load (some 32) r) c fun p=>
 a (.ret p) c)
theorem T14 {v0 v1 h Post}(hG:xq v0 v1 h Post):AQ prog 14 [v0,v1] h Post:=tP func14 (by kernel_rfl) (by kernel_rfl) hG
def xp (e f:AV) (h:AH) (a:Al->AH->Prop):Prop:=(
 AO (.box e) h fun g b=>
 AG (.load (some 32) g) b fun i=>
 AF prog 32 [i] b (yp a) fun j c=>
 AO (.append 1 1 j f) c fun k d=>
 a (.ret k) d)
theorem T15 {v0 v1 h Post}(hG:xp v0 v1 h Post):AQ prog 15 [v0,v1] h Post:=tP func15 (by kernel_rfl) (by kernel_rfl) hG
def xk (y z:AV) (h:AH) (i:Al->AH->Prop):Prop:=(
 AO (.box y) h fun A w=>
 AO (.buildSlice 1 0 [] []) w fun B x=>
 Ak [1,2,5,6] (fun v=>(fun(g j k e:AV) (f:AH)=>
 AB (.bin .lss e (I 64)) fun o=>
 AZ o
 (AB (.bin .lss e (I 32)) fun p=>
 MU p (fun(q b c d r:AV) (l:AH)=>
 AO (.buildSlice 1 1 [(N .u8 0)] [(0,1,r)]) l fun s m=>
 AO (.append 1 1 c s) m fun t n=>
 AB (.bin .add d (I 1)) fun u=>
 v q b t u n)
 (fun a=>AB (.indexAddrA 32 1 j e) fun b=>
 AG (.load none b) f fun c=>
 AB (.bin .xor c g) fun d=>
 a g j k e d f)
 (fun a=>a g j k e g f))
 (i (.ret k) f))) ((((A5.set 1 z).set 2 A).set 5 B).set 6 (I 0)) x)
theorem T30 {v0 v1 h Post}(hG:xk v0 v1 h Post):AQ prog 30 [v0,v1] h Post:=tP func30 (by kernel_rfl) (by kernel_rfl) hG
def xj (v0:AV) (h:AH) (a:Al->AH->Prop):Prop:=(
 AO (.alloc (BD 32 (N .u8 0) [])) h fun v1 V=>
 AF prog 65 [] V (yp a) fun v2 W=>
 AF prog 66 [v0] W (yp a) fun v3 X=>
 AO (.alloc (BD 8 (N .u32 0) [])) X fun Q Y=>
 AO (.store 8 Q v2) Y fun v5 Z=>
 Ak [2,3,4,5] (fun U=>(fun(R n r d:AV) (i:AH)=>
 AB (.len r) fun y=>
 AB (.bin .lss d y) fun z=>
 AZ z
 (AG (.load (some 8) n) i fun j=>
 AB (.bin .add d (I 64)) fun e=>
 AB (.sliceS 1 r (some d) (some e) none) fun p=>
 AF prog 67 [j,p] i (yp a) fun A v=>
 AO (.store 8 n A) v fun f w=>
 AB (.bin .add d (I 64)) fun g=>
 U R n r g w)
 (AB (.build (BD 32 (N .u8 0) []) []) fun j=>
 AO (.alloc (BD 32 (N .u8 0) [])) i fun e t=>
 AO (.store 32 e j) t fun p u=>
 Ak [2,3,6,7] (fun s=>(fun(f g k b:AV) (c:AH)=>
 AB (.bin .lss b (I 32)) fun B=>
 AZ B
 (AB (.bin .quo b (I 4)) fun l=>
 AB (.indexAddrA 8 1 g l) fun q=>
 AG (.load none q) c fun m=>
 AB (.bin .rem b (I 4)) fun C=>
 AB (.bin .mul (I 8) C) fun D=>
 AB (.bin .sub (I 24) D) fun E=>
 AB (.bin .shr m E) fun G=>
 AB (.convI .u8 G) fun L=>
 AB (.indexAddrA 32 1 k b) fun M=>
 AO (.store 1 M L) c fun a4 x=>
 AB (.bin .add b (I 1)) fun O=>
 s f g k O x)
 (AG (.load (some 32) k) c fun l=>
 AO (.store 32 f l) c fun q o=>
 AG (.load (some 32) f) o fun m=>
 a (.ret m) o))) ((((A5.set 2 R).set 3 n).set 6 e).set 7 (I 0)) u))) ((((A5.set 2 v1).set 3 Q).set 4 v3).set 5 (I 0)) Z)
theorem T31 {v0 h Post}(hG:xj v0 h Post):AQ prog 31 [v0] h Post:=tP func31 (by kernel_rfl) (by kernel_rfl) hG
def xi (p:AV) (h:AH) (a:Al->AH->Prop):Prop:=(
 AO (.box p) h fun q n=>
 AO (.buildSlice 1 0 [] []) n fun r o=>
 Ak [1,3,4] (fun m=>(fun(k l c:AV) (b:AH)=>
 AB (.bin .lss c (I 32)) fun s=>
 AZ s
 (AB (.indexAddrA 32 1 k c) fun t=>
 AG (.load none t) b fun f=>
 AO (.buildSlice 1 1 [(N .u8 0)] [(0,1,f)]) b fun g d=>
 AO (.append 1 1 l g) d fun i e=>
 AB (.bin .add c (I 1)) fun j=>
 m k i j e)
 (a (.ret l) b))) (((A5.set 1 q).set 3 r).set 4 (I 0)) o)
theorem T32 {v0 h Post}(hG:xi v0 h Post):AQ prog 32 [v0] h Post:=tP func32 (by kernel_rfl) (by kernel_rfl) hG
def xW (h:AH) (a:Al->AH->Prop):Prop:=(
 AO (.alloc (BD 8 (N .u32 0) [])) h fun c d=>
 AB (.build (BD 8 (N .u32 0) []) [(0,1,(N .u32 1779033703)),(1,1,(N .u32 3144134277)),(2,1,(N .u32 1013904242)),(3,1,(N .u32 2773480762)),(4,1,(N .u32 1359893119)),(5,1,(N .u32 2600822924)),(6,1,(N .u32 528734635)),(7,1,(N .u32 1541459225))]) fun e=>
 AO (.store 8 c e) d fun g b=>
 AG (.load (some 8) c) b fun f=>
 a (.ret f) b)
theorem T65 {h Post}(hG:xW  h Post):AQ prog 65 [] h Post:=tP func65 (by kernel_rfl) (by kernel_rfl) hG
def xV (p:AV) (h:AH) (g:Al->AH->Prop):Prop:=(
 AO (.buildSlice 1 0 [] []) h fun M D=>
 AO (.append 1 1 M p) D fun O E=>
 AO (.buildSlice 1 1 [(N .u8 0)] [(0,1,(N .u8 128))]) E fun Q G=>
 AO (.append 1 1 O Q) G fun R L=>
 Ak [0,3] (fun C=>(fun(B i:AV) (o:AH)=>
 AB (.len i) fun U=>
 AB (.bin .rem U (I 64)) fun q=>
 AB (.bin .neq q (I 56)) fun r=>
 AZ r
 (AO (.buildSlice 1 1 [(N .u8 0)] [(0,1,(N .u8 0))]) o fun a k=>
 AO (.append 1 1 i a) k fun b l=>
 C B b l)
 (AB (.len B) fun a=>
 AB (.convI .u64 a) fun b=>
 AB (.bin .mul b (N .u64 8)) fun s=>
 Ak [3,4,5] (fun j=>(fun(e f c:AV) (d:AH)=>
 AB (.bin .lss c (I 8)) fun t=>
 AZ t
 (AB (.bin .mul (I 8) c) fun u=>
 AB (.bin .sub (I 56) u) fun v=>
 AB (.bin .shr f v) fun w=>
 AB (.convI .u8 w) fun x=>
 AO (.buildSlice 1 1 [(N .u8 0)] [(0,1,x)]) d fun y m=>
 AO (.append 1 1 e y) m fun z n=>
 AB (.bin .add c (I 1)) fun A=>
 j z f A n)
 (g (.ret e) d))) (((A5.set 3 i).set 4 s).set 5 (I 0)) o))) ((A5.set 0 p).set 3 R) L)
theorem T66 {v0 h Post}(hG:xV v0 h Post):AQ prog 66 [v0] h Post:=tP func66 (by kernel_rfl) (by kernel_rfl) hG
def xU (v0 v1:AV) (h:AH) (b:Al->AH->Prop):Prop:=(
 AO (.box v0) h fun v2 h2=>
 AO (.alloc (BD 8 (N .u32 0) [])) h2 fun v3 h3=>
 AF prog 130 [v1] h3 (yp b) fun v4 h4=>
 AF prog 131 [] h4 (yp b) fun v5 h5=>
 AO (.alloc (BD 64 (N .u32 0) [])) h5 fun v6 h6=>
 AO (.alloc (BD 64 (N .u32 0) [])) h6 fun v7 h7=>
 AO (.store 64 v6 v4) h7 fun v8 h8=>
 AO (.store 64 v7 v5) h8 fun v9 h9=>
 AG (.load (some 8) v2) h9 fun a8=>
 AO (.alloc (BD 8 (N .u32 0) [])) h9 fun U a3=>
 AO (.store 8 U a8) a3 fun g3 a4=>
 Ak [2,4,5,6,7,8] (fun a1=>(fun(V W X Y a v:AV) (g:AH)=>
 AB (.bin .lss v (I 64)) fun b0=>
 AZ b0
 (AB (.indexAddrA 8 1 a (I 4)) fun b1=>
 AG (.load none b1) g fun i=>
 AB (.indexAddrA 8 1 a (I 0)) fun t=>
 AG (.load none t) g fun e=>
 AB (.indexAddrA 8 1 a (I 7)) fun f=>
 AG (.load none f) g fun w=>
 AB (.indexAddrA 8 1 a (I 5)) fun m=>
 AG (.load none m) g fun j=>
 AB (.bin .and i j) fun x=>
 AB (.bin .sub (N .u32 4294967295) i) fun u=>
 AB (.indexAddrA 8 1 a (I 6)) fun n=>
 AG (.load none n) g fun o=>
 AB (.bin .and u o) fun Q=>
 AB (.bin .xor x Q) fun Z=>
 AB (.indexAddrA 64 1 Y v) fun p=>
 AG (.load none p) g fun y=>
 AB (.indexAddrA 64 1 X v) fun z=>
 AG (.load none z) g fun A=>
 AF prog 132 [i,(I 6)] g (yp b) fun b2 k=>
 (Am (.load none z) A k/\(Am (.load none p) y k/\(Am (.load none n) o k/\(Am (.load none m) j k/\(Am (.load none f) w k/\True)))))/\AF prog 132 [i,(I 11)] k (yp b) fun b3 l=>
 (Am (.load none z) A l/\(Am (.load none p) y l/\(Am (.load none n) o l/\(Am (.load none m) j l/\(Am (.load none f) w l/\True)))))/\AB (.bin .xor b2 b3) fun b4=>
 AF prog 132 [i,(I 25)] l (yp b) fun b5 d=>
 (Am (.load none z) A d/\(Am (.load none p) y d/\(Am (.load none n) o d/\(Am (.load none m) j d/\(Am (.load none f) w d/\True)))))/\AB (.bin .xor b4 b5) fun b6=>
 AB (.bin .add w b6) fun b7=>
 AB (.bin .add b7 Z) fun b8=>
 AB (.bin .add b8 y) fun b9=>
 AB (.bin .add b9 A) fun a0=>
 AB (.indexAddrA 8 1 a (I 1)) fun B=>
 AG (.load none B) d fun C=>
 AB (.bin .and e C) fun c0=>
 AB (.indexAddrA 8 1 a (I 2)) fun D=>
 AG (.load none D) d fun E=>
 AB (.bin .and e E) fun c1=>
 AB (.bin .xor c0 c1) fun c2=>
 AB (.indexAddrA 8 1 a (I 1)) fun G=>
 AG (.load none G) d fun L=>
 AB (.indexAddrA 8 1 a (I 2)) fun M=>
 AG (.load none M) d fun O=>
 AB (.bin .and L O) fun c4=>
 AB (.bin .xor c2 c4) fun c5=>
 AF prog 132 [e,(I 2)] d (yp b) fun c6 r=>
 (Am (.load none M) O r/\(Am (.load none G) L r/\(Am (.load none D) E r/\(Am (.load none B) C r/\True))))/\AF prog 132 [e,(I 13)] r (yp b) fun c7 s=>
 (Am (.load none M) O s/\(Am (.load none G) L s/\(Am (.load none D) E s/\(Am (.load none B) C s/\True))))/\AB (.bin .xor c6 c7) fun c8=>
 AF prog 132 [e,(I 22)] s (yp b) fun c9 c=>
 (Am (.load none M) O c/\(Am (.load none G) L c/\(Am (.load none D) E c/\(Am (.load none B) C c/\True))))/\AB (.bin .xor c8 c9) fun d0=>
 AB (.bin .add d0 c5) fun d1=>
 AB (.bin .add a0 d1) fun d2=>
 AB (.indexAddrA 8 1 a (I 0)) fun d3=>
 AG (.load none d3) c fun d5=>
 AB (.indexAddrA 8 1 a (I 1)) fun d6=>
 AG (.load none d6) c fun d7=>
 AB (.indexAddrA 8 1 a (I 2)) fun d8=>
 AG (.load none d8) c fun d9=>
 AB (.indexAddrA 8 1 a (I 3)) fun e0=>
 AG (.load none e0) c fun e1=>
 AB (.bin .add e1 a0) fun e2=>
 AB (.indexAddrA 8 1 a (I 4)) fun e3=>
 AG (.load none e3) c fun e4=>
 AB (.indexAddrA 8 1 a (I 5)) fun e5=>
 AG (.load none e5) c fun e6=>
 AB (.indexAddrA 8 1 a (I 6)) fun e7=>
 AG (.load none e7) c fun e8=>
 AB (.build (BD 8 (N .u32 0) []) [(0,1,d2),(1,1,d5),(2,1,d7),(3,1,d9),(4,1,e2),(5,1,e4),(6,1,e6),(7,1,e8)]) fun e9=>
 AO (.store 8 a e9) c fun g4 a6=>
 AB (.bin .add v (I 1)) fun f0=>
 a1 V W X Y a f0 a6)
 (Ak [2,4,7,13] (fun a2=>(fun(i t e f:AV) (q:AH)=>
 AB (.bin .lss f (I 8)) fun m=>
 AZ m
 (AB (.indexAddrA 8 1 e f) fun j=>
 AG (.load none j) q fun x=>
 AB (.indexAddrA 8 1 i f) fun u=>
 AG (.load none u) q fun n=>
 AB (.bin .add x n) fun o=>
 AB (.indexAddrA 8 1 e f) fun Q=>
 AO (.store 1 Q o) q fun Z a5=>
 AB (.bin .add f (I 1)) fun p=>
 a2 i t e p a5)
 (AG (.load (some 8) e) q fun j=>
 AO (.store 8 t j) q fun x R=>
 AG (.load (some 8) t) R fun u=>
 b (.ret u) R))) ((((A5.set 2 V).set 4 W).set 7 a).set 13 (I 0)) g))) ((((((A5.set 2 v2).set 4 v3).set 5 v6).set 6 v7).set 7 U).set 8 (I 0)) a4)
theorem T67 {v0 v1 h Post}(hG:xU v0 v1 h Post):AQ prog 67 [v0,v1] h Post:=tP func67 (by kernel_rfl) (by kernel_rfl) hG
def o7 (v0:AV) (h:AH) (c:Al->AH->Prop):Prop:=(
 AO (.alloc (BD 64 (N .u32 0) [])) h fun v1 h1=>
 AB (.build (BD 64 (N .u32 0) []) []) fun v2=>
 AO (.alloc (BD 64 (N .u32 0) [])) h1 fun v3 h3=>
 AO (.store 64 v3 v2) h3 fun v4 h4=>
 Ak [0,2,3,4] (fun J5=>(fun(o W k b:AV) (a:AH)=>
 AB (.bin .lss b (I 64)) fun a0=>
 AZ a0
 (AB (.bin .lss b (I 16)) fun v=>
 MU v (fun(Y d l e:AV) (Z:AH)=>
 AB (.bin .add e (I 1)) fun m=>
 J5 Y d l m Z)
 (fun p=>AB (.bin .mul (I 4) b) fun d=>
 AB (.indexAddrS 1 o d) fun l=>
 AG (.load none l) a fun e=>
 AB (.convI .u32 e) fun w=>
 AB (.bin .shl w (N .u64 24)) fun m=>
 AB (.bin .mul (I 4) b) fun n=>
 AB (.bin .add n (I 1)) fun x=>
 AB (.indexAddrS 1 o x) fun f=>
 AG (.load none f) a fun g=>
 AB (.convI .u32 g) fun y=>
 AB (.bin .shl y (N .u64 16)) fun z=>
 AB (.bin .add m z) fun i=>
 AB (.bin .mul (I 4) b) fun j=>
 AB (.bin .add j (I 2)) fun A=>
 AB (.indexAddrS 1 o A) fun B=>
 AG (.load none B) a fun C=>
 AB (.convI .u32 C) fun D=>
 AB (.bin .shl D (N .u64 8)) fun E=>
 AB (.bin .add i E) fun G=>
 AB (.bin .mul (I 4) b) fun L=>
 AB (.bin .add L (I 3)) fun M=>
 AB (.indexAddrS 1 o M) fun O=>
 AG (.load none O) a fun Q=>
 AB (.convI .u32 Q) fun R=>
 AB (.bin .add G R) fun U=>
 AB (.indexAddrA 64 1 k b) fun V=>
 AO (.store 1 V U) a fun a2 u=>
 p o W k b u)
 (fun p=>AB (.bin .sub b (I 15)) fun d=>
 AB (.indexAddrA 64 1 k d) fun l=>
 AG (.load none l) a fun e=>
 AB (.bin .sub b (I 2)) fun w=>
 AB (.indexAddrA 64 1 k w) fun m=>
 AG (.load none m) a fun n=>
 AB (.bin .sub b (I 16)) fun x=>
 AB (.indexAddrA 64 1 k x) fun f=>
 AG (.load none f) a fun g=>
 AB (.bin .shr e (N .u64 3)) fun y=>
 AB (.bin .sub b (I 7)) fun z=>
 AB (.indexAddrA 64 1 k z) fun i=>
 AG (.load none i) a fun j=>
 AB (.bin .shr n (N .u64 10)) fun A=>
 AF prog 132 [e,(I 7)] a (yp c) fun B q=>
 (Am (.load none i) j q/\(Am (.load none f) g q/\True))/\AF prog 132 [e,(I 18)] q (yp c) fun C r=>
 (Am (.load none i) j r/\(Am (.load none f) g r/\True))/\AB (.bin .xor B C) fun D=>
 AB (.bin .xor D y) fun E=>
 AB (.bin .add g E) fun G=>
 AB (.bin .add G j) fun L=>
 AF prog 132 [n,(I 17)] r (yp c) fun M s=>
 (Am (.load none i) j s/\(Am (.load none f) g s/\True))/\AF prog 132 [n,(I 19)] s (yp c) fun O t=>
 (Am (.load none i) j t/\(Am (.load none f) g t/\True))/\AB (.bin .xor M O) fun Q=>
 AB (.bin .xor Q A) fun R=>
 AB (.bin .add L R) fun U=>
 AB (.indexAddrA 64 1 k b) fun V=>
 AO (.store 1 V U) t fun a2 u=>
 True/\p o W k b u))
 (AG (.load (some 64) k) a fun v=>
 AO (.store 64 W v) a fun Y X=>
 AG (.load (some 64) W) X fun d=>
 c (.ret d) X))) ((((A5.set 0 v0).set 2 v1).set 3 v3).set 4 (I 0)) h4)
theorem tF {v0 h Post}(hG:o7 v0 h Post):AQ prog 130 [v0] h Post:=tP func130 (by kernel_rfl) (by kernel_rfl) hG
def o6 (h:AH) (a:Al->AH->Prop):Prop:=(
 AO (.alloc (BD 64 (N .u32 0) [])) h fun c d=>
 AB (.build (BD 64 (N .u32 0) []) [(0,1,(.cst (N .u32 1116352408))),(1,1,(.cst (N .u32 1899447441))),(2,1,(.cst (N .u32 3049323471))),(3,1,(.cst (N .u32 3921009573))),(4,1,(.cst (N .u32 961987163))),(5,1,(.cst (N .u32 1508970993))),(6,1,(.cst (N .u32 2453635748))),(7,1,(.cst (N .u32 2870763221))),(8,1,(.cst (N .u32 3624381080))),(9,1,(.cst (N .u32 310598401))),(10,1,(.cst (N .u32 607225278))),(11,1,(.cst (N .u32 1426881987))),(12,1,(.cst (N .u32 1925078388))),(13,1,(.cst (N .u32 2162078206))),(14,1,(.cst (N .u32 2614888103))),(15,1,(.cst (N .u32 3248222580))),(16,1,(.cst (N .u32 3835390401))),(17,1,(.cst (N .u32 4022224774))),(18,1,(.cst (N .u32 264347078))),(19,1,(.cst (N .u32 604807628))),(20,1,(.cst (N .u32 770255983))),(21,1,(.cst (N .u32 1249150122))),(22,1,(.cst (N .u32 1555081692))),(23,1,(.cst (N .u32 1996064986))),(24,1,(.cst (N .u32 2554220882))),(25,1,(.cst (N .u32 2821834349))),(26,1,(.cst (N .u32 2952996808))),(27,1,(.cst (N .u32 3210313671))),(28,1,(.cst (N .u32 3336571891))),(29,1,(.cst (N .u32 3584528711))),(30,1,(.cst (N .u32 113926993))),(31,1,(.cst (N .u32 338241895))),(32,1,(.cst (N .u32 666307205))),(33,1,(.cst (N .u32 773529912))),(34,1,(.cst (N .u32 1294757372))),(35,1,(.cst (N .u32 1396182291))),(36,1,(.cst (N .u32 1695183700))),(37,1,(.cst (N .u32 1986661051))),(38,1,(.cst (N .u32 2177026350))),(39,1,(.cst (N .u32 2456956037))),(40,1,(.cst (N .u32 2730485921))),(41,1,(.cst (N .u32 2820302411))),(42,1,(.cst (N .u32 3259730800))),(43,1,(.cst (N .u32 3345764771))),(44,1,(.cst (N .u32 3516065817))),(45,1,(.cst (N .u32 3600352804))),(46,1,(.cst (N .u32 4094571909))),(47,1,(.cst (N .u32 275423344))),(48,1,(.cst (N .u32 430227734))),(49,1,(.cst (N .u32 506948616))),(50,1,(.cst (N .u32 659060556))),(51,1,(.cst (N .u32 883997877))),(52,1,(.cst (N .u32 958139571))),(53,1,(.cst (N .u32 1322822218))),(54,1,(.cst (N .u32 1537002063))),(55,1,(.cst (N .u32 1747873779))),(56,1,(.cst (N .u32 1955562222))),(57,1,(.cst (N .u32 2024104815))),(58,1,(.cst (N .u32 2227730452))),(59,1,(.cst (N .u32 2361852424))),(60,1,(.cst (N .u32 2428436474))),(61,1,(.cst (N .u32 2756734187))),(62,1,(.cst (N .u32 3204031479))),(63,1,(.cst (N .u32 3329325298)))]) fun e=>
 AO (.store 64 c e) d fun g b=>
 AG (.load (some 64) c) b fun f=>
 a (.ret f) b)
theorem tE {h Post}(hG:o6  h Post):AQ prog 131 [] h Post:=tP func131 (by kernel_rfl) (by kernel_rfl) hG
def o5 (b c:AV) (h:AH) (a:Al->AH->Prop):Prop:=(
 AB (.bin .shr b c) fun d=>
 AB (.bin .sub (I 32) c) fun e=>
 AB (.bin .shl b e) fun f=>
 AB (.bin .or d f) fun g=>
 a (.ret g) h)
theorem tD {v0 v1 h Post}(hG:o5 v0 v1 h Post):AQ prog 132 [v0,v1] h Post:=tP func132 (by kernel_rfl) (by kernel_rfl) hG
end
end Go.Proofs.YtlmkmpomgdbjhaaGreatDoor
namespace Go.AL
section
open Co
variable [BQ] {P:Program}
section
variable {H0 H:AH}{p:Nat}{L:List (Nat × List AV)}{l:List UInt8}
theorem Ei.Wm {a b c:Ty}{β:Type}{res:Rs β}{f:(Ty.pair (.pair a b) c).D->β}{ok:β->AV->AH->Prop}{g:FuncId}{ar:List AV}{K:AV->AH->Prop}(s:Ei H0 p L H l) (hres:res=((Ty.pair (.pair a b) c).dec l).bind fun y r=>.ok (f y) r)
  (hC:AQ P g ar H (Ce H p (a.dec l) fun d x _=>RV a d x)) (hK:∀d cl x r H',Ei H0 p L H' r->(res=((Ty.pair b c).dec r).bind fun y r'=>.ok (f ((d,y.1),y.2)) r')->x.cellsOf=some cl->RX a d cl->cl.length=Dd a->K x H'):AF P g ar H (yp (Ce H0 p res ok)) K:=by
 rw[YM]at hres
 exact s.step (a:=a) (b:=.pair b c) hres hC hK
theorem Ei.own (s:Ei H0 p L H l):∀x∈L,x.1<H.next/\x.1≠p/\H.get x.1=some (.cells x.2):=fun x hx=>by
 obtain⟨h1,h2,h3⟩:=s.l x hx
 have hp:=s.p0
 exact⟨h2,by omega,h3⟩
theorem Ei.ri {q q1 n:Nat}{c z:List AV}{K:AV->AH->Prop}(s:Ei H0 p ((q,c)::(q1,z)::L) H l) (hne:∀x∈(q,c)::L,x.1≠q1) (hc:c.length=n) (hz:z.length=n) (hK:∀H',Ei H0 p ((q1,c)::(q,c)::L) H' l->K (.agg c) H') :
  AG (.load (some n) (.cst (.ptr q 0))) H fun v27=>AO (.store n (.cst (.ptr q1 0)) (.cst v27)) H fun _ h28=>AG (.load (some n) (.cst (.ptr q1 0))) h28 fun v29=>K v29 h28:=by
 refine s.Gx (.head _) hc ?_
 refine s.swap.DZ hne hc hz fun H' s'=>?_
 exact s'.Gx (.head _) hc (hK _ s')
end
end
end Go.AL
namespace Go.Proofs.YtlmkmpomgdbjhaaGreatDoor
open Tryz
section
open Go Go.AL Go.AL.Co
variable [BQ]
set_option maxHeartbeats 4000000 in
theorem D64:LD prog 92 Ge:=fun{H p b} hR=>by
 obtain⟨res,hres⟩:∃res,res=Ge.dec b:=⟨_,rfl⟩
 rw[<- hres]
 rw[OW (Ge.dec b)]at hres
 refine z7 ?_
 unfold xQ
 generalize hz:((I 0)::(BD 6 .nils ((I 0)::(BD 4 .nils (BD 4 (I 0) ((.bool false)::((I 0)::((.bool false)::[]))))))))=z
 have hzl:z.length=19:=by rw[<- hz];rfl
 refine(Ei.start hR).box rfl fun q0 H1 s1 _=>s1.alloc fun q2 H2 s2 hn2=>s2.alloc fun q H4 s4 hn=>?_
 have hne2:q0≠q2:=hn2 _ (.head _)
 have hneq:q2≠q:=hn _ (.head _)
 have hne:∀(c:List AV),∀x∈[(q,c),(q0,[AV.ptr p 0])],x.1≠q2:=fun c x hx=>by
  simp only[DF,G8,or_false]at hx
  rcases hx with rfl | rfl
  ·exact fun h=>hneq h.symm
  ·exact hne2
 refine AA (v:=.ptr q 0) rfl ?_
 refine s4.ld (.tail _ (.tail _ (.head _))) rfl ?_
 refine s4.step (a:=.int) (b:=(.pair CG (.pair CG (.pair (.list Bl) (.pair (.list BM) (.pair (.list .bool) (.pair BM (.pair .int (.pair (.list Bl) (.pair (.list (.list DH)) (.pair (.list .bool) (.pair (.list Ch) (.pair tQ (.pair .int .bool)))))))))))))) hres (Q1 s4.rd) fun d0 c0 x r H5 s5 hres hx Uc l0=>?_
 refine AA (v:=.ptr q 0) rfl ?_
 refine AA (v:=.ptr q 0) rfl ?_
 refine s5.put (pre:=[]) (z:=z) (o:=0) hn rfl hx l0 (by rw[hzl];decide) fun H6 s6 p6=>?_
 refine s6.ld (.tail _ (.tail _ (.head _))) rfl ?_
 refine s6.step (a:=CG) (b:=(.pair CG (.pair (.list Bl) (.pair (.list BM) (.pair (.list .bool) (.pair BM (.pair .int (.pair (.list Bl) (.pair (.list (.list DH)) (.pair (.list .bool) (.pair (.list Ch) (.pair tQ (.pair .int .bool))))))))))))) hres (fP s6.rd) fun d1 c1 x r H7 s7 hres hx Sn l1=>?_
 refine AA (v:=.ptr q 0) rfl ?_
 refine AA (v:=.ptr q 1) rfl ?_
 refine s7.put hn p6 hx l1 (by rw[hzl];decide) fun H8 s8 p8=>?_
 refine s8.ld (.tail _ (.tail _ (.head _))) rfl ?_
 refine s8.step (a:=CG) (b:=(.pair (.list Bl) (.pair (.list BM) (.pair (.list .bool) (.pair BM (.pair .int (.pair (.list Bl) (.pair (.list (.list DH)) (.pair (.list .bool) (.pair (.list Ch) (.pair tQ (.pair .int .bool)))))))))))) hres (fP s8.rd) fun d2 c2 x r H9 s9 hres hx Ub l2=>?_
 refine AA (v:=.ptr q 0) rfl ?_
 refine AA (v:=.ptr q 2) rfl ?_
 refine s9.put hn p8 hx l2 (by rw[hzl];decide) fun H10 s10 p10=>?_
 refine s10.ld (.tail _ (.tail _ (.head _))) rfl ?_
 refine s10.ld (.tail _ (.tail _ (.head _))) rfl ?_
 refine s10.step (a:=(.list Bl)) (b:=(.pair (.list BM) (.pair (.list .bool) (.pair BM (.pair .int (.pair (.list Bl) (.pair (.list (.list DH)) (.pair (.list .bool) (.pair (.list Ch) (.pair tQ (.pair .int .bool))))))))))) hres (qH (L:=[]) s10.rd (by simp) (qJ.one _ _)) fun d3 c3 x r H11 s11 hres hx Py l3=>?_
 refine AA (v:=.ptr q 0) rfl ?_
 refine AA (v:=.ptr q 3) rfl ?_
 refine AA (v:=.ptr q 3) rfl ?_
 refine s11.put hn p10 hx l3 (by rw[hzl];decide) fun H12 s12 p12=>?_
 refine s12.ld (.tail _ (.tail _ (.head _))) rfl ?_
 refine s12.ld (.tail _ (.tail _ (.head _))) rfl ?_
 refine s12.step (a:=(.list BM)) (b:=(.pair (.list .bool) (.pair BM (.pair .int (.pair (.list Bl) (.pair (.list (.list DH)) (.pair (.list .bool) (.pair (.list Ch) (.pair tQ (.pair .int .bool)))))))))) hres (x8 (L:=[]) s12.rd (by simp) (qI.one _ _)) fun d4 c4 x r H13 s13 hres hx Vx l4=>?_
 refine AA (v:=.ptr q 0) rfl ?_
 refine AA (v:=.ptr q 3) rfl ?_
 refine AA (v:=.ptr q 4) rfl ?_
 refine s13.put hn p12 hx l4 (by rw[hzl];decide) fun H14 s14 p14=>?_
 refine s14.ld (.tail _ (.tail _ (.head _))) rfl ?_
 refine s14.ld (.tail _ (.tail _ (.head _))) rfl ?_
 refine s14.step (a:=(.list .bool)) (b:=(.pair BM (.pair .int (.pair (.list Bl) (.pair (.list (.list DH)) (.pair (.list .bool) (.pair (.list Ch) (.pair tQ (.pair .int .bool))))))))) hres (qG (L:=[]) s14.rd (by simp) (cR.one _ _)) fun d5 c5 x r H15 s15 hres hx cV l5=>?_
 refine AA (v:=.ptr q 0) rfl ?_
 refine AA (v:=.ptr q 3) rfl ?_
 refine AA (v:=.ptr q 5) rfl ?_
 refine s15.put hn p14 hx l5 (by rw[hzl];decide) fun H16 s16 p16=>?_
 refine s16.ld (.tail _ (.tail _ (.head _))) rfl ?_
 refine s16.step (a:=BM) (b:=(.pair .int (.pair (.list Bl) (.pair (.list (.list DH)) (.pair (.list .bool) (.pair (.list Ch) (.pair tQ (.pair .int .bool)))))))) hres (qI s16.rd) fun d6 c6 x r H17 s17 hres hx fu l6=>?_
 refine AA (v:=.ptr q 0) rfl ?_
 refine AA (v:=.ptr q 6) rfl ?_
 refine AA (v:=.ptr q 6) rfl ?_
 refine s17.put hn p16 hx l6 (by rw[hzl];decide) fun H18 s18 iG=>?_
 refine s18.ld (.tail _ (.tail _ (.head _))) rfl ?_
 refine s18.step (a:=.int) (b:=(.pair (.list Bl) (.pair (.list (.list DH)) (.pair (.list .bool) (.pair (.list Ch) (.pair tQ (.pair .int .bool))))))) hres (Q1 s18.rd) fun d7 c7 x r H19 s19 hres hx ft l7=>?_
 refine AA (v:=.ptr q 0) rfl ?_
 refine AA (v:=.ptr q 6) rfl ?_
 refine AA (v:=.ptr q 7) rfl ?_
 refine s19.put hn iG hx l7 (by rw[hzl];decide) fun H20 s20 p20=>?_
 refine s20.ld (.tail _ (.tail _ (.head _))) rfl ?_
 refine s20.ld (.tail _ (.tail _ (.head _))) rfl ?_
 refine s20.step (a:=(.list Bl)) (b:=(.pair (.list (.list DH)) (.pair (.list .bool) (.pair (.list Ch) (.pair tQ (.pair .int .bool)))))) hres (qH (L:=[]) s20.rd (by simp) (qJ.one _ _)) fun d8 c8 x r H21 s21 hres hx il l8=>?_
 refine AA (v:=.ptr q 0) rfl ?_
 refine AA (v:=.ptr q 8) rfl ?_
 refine AA (v:=.ptr q 8) rfl ?_
 refine s21.put hn p20 hx l8 (by rw[hzl];decide) fun H22 s22 rh=>?_
 refine s22.ld (.tail _ (.tail _ (.head _))) rfl ?_
 refine s22.step (a:=(.list (.list DH))) (b:=(.pair (.list .bool) (.pair (.list Ch) (.pair tQ (.pair .int .bool))))) hres (vG s22.rd s22.own (vL (.tail _ (.tail _ (.head _))))) fun d9 c9 x r xN s23 hres hx fq l9=>?_
 refine AA (v:=.ptr q 0) rfl ?_
 refine AA (v:=.ptr q 8) rfl ?_
 refine AA (v:=.ptr q 9) rfl ?_
 refine s23.put hn rh hx l9 (by rw[hzl];decide) fun H24 s24 p24=>?_
 refine s24.ld (.tail _ (.tail _ (.head _))) rfl ?_
 refine s24.ld (.tail _ (.tail _ (.head _))) rfl ?_
 refine s24.step (a:=(.list .bool)) (b:=(.pair (.list Ch) (.pair tQ (.pair .int .bool)))) hres (qG (L:=[]) s24.rd (by simp) (cR.one _ _)) fun d10 c10 x r H25 s25 hres hx eW l10=>?_
 refine AA (v:=.ptr q 0) rfl ?_
 refine AA (v:=.ptr q 8) rfl ?_
 refine AA (v:=.ptr q 10) rfl ?_
 refine s25.put hn p24 hx l10 (by rw[hzl];decide) fun H26 s26 p26=>?_
 refine s26.ld (.tail _ (.tail _ (.head _))) rfl ?_
 refine s26.step (a:=(.list Ch)) (b:=(.pair tQ (.pair .int .bool))) hres (vE s26.rd s26.own (vJ (.tail _ (.tail _ (.head _))))) fun d11 c11 x r H27 s27 hres hx V1 l11=>?_
 refine AA (v:=.ptr q 0) rfl ?_
 refine AA (v:=.ptr q 8) rfl ?_
 refine AA (v:=.ptr q 11) rfl ?_
 refine s27.put hn p26 hx l11 (by rw[hzl];decide) fun H28 s28 p28=>?_
 refine s28.ld (.tail _ (.tail _ (.head _))) rfl ?_
 refine s28.Wm (a:=.int) (b:=(.pair .int (.pair .int (.pair .int .bool)))) (c:=(.pair .int .bool)) hres (Q1 s28.rd) fun d12 c12 x r H29 s29 hres hx eV l12=>?_
 refine AA (v:=.ptr q 0) rfl ?_
 refine AA (v:=.ptr q 12) rfl ?_
 refine AA (v:=.ptr q 12) rfl ?_
 refine s29.put hn p28 hx l12 (by rw[hzl];decide) fun H30 s30 p30=>?_
 refine s30.ld (.tail _ (.tail _ (.head _))) rfl ?_
 refine s30.Wm (a:=.int) (b:=(.pair .int (.pair .int .bool))) (c:=(.pair .int .bool)) hres (Q1 s30.rd) fun d13 c13 x r H31 s31 hres hx V0 l13=>?_
 refine AA (v:=.ptr q 0) rfl ?_
 refine AA (v:=.ptr q 12) rfl ?_
 refine AA (v:=.ptr q 13) rfl ?_
 refine s31.put hn p30 hx l13 (by rw[hzl];decide) fun H32 s32 p32=>?_
 refine s32.ld (.tail _ (.tail _ (.head _))) rfl ?_
 refine s32.Wm (a:=.int) (b:=(.pair .int .bool)) (c:=(.pair .int .bool)) hres (Q1 s32.rd) fun d14 c14 x r H33 s33 hres hx bM l14=>?_
 refine AA (v:=.ptr q 0) rfl ?_
 refine AA (v:=.ptr q 12) rfl ?_
 refine AA (v:=.ptr q 14) rfl ?_
 refine s33.put hn p32 hx l14 (by rw[hzl];decide) fun H34 s34 p34=>?_
 refine s34.ld (.tail _ (.tail _ (.head _))) rfl ?_
 refine s34.Wm (a:=.int) (b:=.bool) (c:=(.pair .int .bool)) hres (Q1 s34.rd) fun d15 c15 x r xM s35 hres hx eU l15=>?_
 refine AA (v:=.ptr q 0) rfl ?_
 refine AA (v:=.ptr q 12) rfl ?_
 refine AA (v:=.ptr q 15) rfl ?_
 refine s35.put hn p34 hx l15 (by rw[hzl];decide) fun H36 s36 p36=>?_
 refine s36.ld (.tail _ (.tail _ (.head _))) rfl ?_
 refine s36.step (a:=.bool) (b:=(.pair .int .bool)) hres (cR s36.rd) fun d16 c16 x r H37 s37 hres hx YF l16=>?_
 refine AA (v:=.ptr q 0) rfl ?_
 refine AA (v:=.ptr q 12) rfl ?_
 refine AA (v:=.ptr q 16) rfl ?_
 refine s37.put hn p36 hx l16 (by rw[hzl];decide) fun H38 s38 p38=>?_
 refine s38.ld (.tail _ (.tail _ (.head _))) rfl ?_
 refine s38.step (a:=.int) (b:=.bool) hres (Q1 s38.rd) fun d17 c17 x r H39 s39 hres hx Vz l17=>?_
 refine AA (v:=.ptr q 0) rfl ?_
 refine AA (v:=.ptr q 17) rfl ?_
 refine s39.put hn p38 hx l17 (by rw[hzl];decide) fun H40 s40 p40=>?_
 refine s40.ld (.tail _ (.tail _ (.head _))) rfl ?_
 refine s40.last (a:=.bool) hres (cR s40.rd) fun d18 vw x r H41 s41 hres hx Jb l18=>?_
 refine AA (v:=.ptr q 18) rfl ?_
 refine s41.put hn p40 hx l18 (by rw[hzl];decide) fun H42 s42 p42=>?_
 refine(s42.done (by rw[hzl];decide)).ri (hne _) p42 hzl fun H43 s43=>s43.fin hres ⟨_,rfl,?_⟩
 simp only[Bf,Ar]
 exact⟨_,_,rfl,Uc,_,_,rfl,Sn,_,_,rfl,Ub,_,_,rfl,Py,_,_,rfl,Vx,_,_,rfl,cV,_,_,rfl,fu,_,_,rfl,ft,_,_,rfl,il,_,_,rfl,fq,_,_,rfl,eW,_,_,rfl,V1,c12++(c13++(c14++(c15++c16))),_,by simp only[Ar],⟨_,_,rfl,eV,_,_,rfl,V0,_,_,rfl,bM,_,_,rfl,eU,YF⟩,_,_,rfl,Vz,Jb⟩
end
section
open Go Go.AL Go.AL.Co
variable [BQ]
set_option maxHeartbeats 2000000 in
theorem D29:LD prog 48 HC:=fun{H p b} hR=>by
 obtain⟨res,hres⟩:∃res,res=HC.dec b:=⟨_,rfl⟩
 rw[<- hres]
 rw[OW (HC.dec b)]at hres
 refine T48 ?_
 unfold xe
 generalize hz:(BD 5 (I 0) (BD 6 .nils ((I 0)::(BD 4 .nils (BD 4 (I 0) ((.bool false)::((I 0)::((.bool false)::(BD 4 .nils [])))))))))=z
 have hzl:z.length=27:=by rw[<- hz];rfl
 refine(Ei.start hR).alloc fun q1 H1 s1 hn1=>?_
 refine s1.step (a:=.int) (b:=.pair .int (.pair .int (.pair .int (.pair Ge (.pair BM (.pair (.list BM) (.pair (.list Em) (.list IK)))))))) hres (Q1 s1.rd) fun d0 c0 x r H2 s2 hres hx Uc l0=>?_
 refine AA (bw hx (n:=1) l0 (by omega)) ?_
 refine s2.alloc fun q H3 s3 hn=>?_
 have hne:q1≠q:=hn _ (.head _)
 refine s3.DZ hn (by rw[AW,B3,l0,hzl];rfl) hzl fun H4 s4=>?_
 refine s4.step (a:=.int) (b:=.pair .int (.pair .int (.pair Ge (.pair BM (.pair (.list BM) (.pair (.list Em) (.list IK))))))) hres (Q1 s4.rd) fun d1 c1 x r H5 s5 hres hx Sn l1=>?_
 refine AA (v:=.ptr q 1) rfl (s5.put hn l0 hx l1 (by rw[hzl];decide) fun H6 s6 p6=>?_)
 refine s6.step (a:=.int) (b:=.pair .int (.pair Ge (.pair BM (.pair (.list BM) (.pair (.list Em) (.list IK)))))) hres (Q1 s6.rd) fun d2 c2 x r H7 s7 hres hx Ub l2=>?_
 refine AA (v:=.ptr q 2) rfl (s7.put hn p6 hx l2 (by rw[hzl];decide) fun H8 s8 p8=>?_)
 refine s8.step (a:=.int) (b:=.pair Ge (.pair BM (.pair (.list BM) (.pair (.list Em) (.list IK))))) hres (Q1 s8.rd) fun d3 c3 x r H9 s9 hres hx Py l3=>?_
 refine AA (v:=.ptr q 3) rfl (s9.put hn p8 hx l3 (by rw[hzl];decide) fun H10 s10 p10=>?_)
 refine s10.step (a:=Ge) (b:=.pair BM (.pair (.list BM) (.pair (.list Em) (.list IK)))) hres (D64 s10.rd) fun d4 c4 x r H11 s11 hres hx Vx l4=>?_
 have l4:c4.length=19:=l4
 refine AA (v:=.ptr q 4) rfl (s11.put hn p10 hx l4 (by rw[hzl];decide) fun H12 s12 p12=>?_)
 refine s12.step (a:=BM) (b:=.pair (.list BM) (.pair (.list Em) (.list IK))) hres (qI s12.rd) fun d5 c5 x r H13 s13 hres hx cV l5=>?_
 refine AA (v:=.ptr q 23) rfl (s13.put hn p12 hx l5 (by rw[hzl];decide) fun H14 s14 p14=>?_)
 refine s14.step (a:=.list BM) (b:=.pair (.list Em) (.list IK)) hres (x8 (L:=[]) s14.rd (by simp) (qI.one _ _)) fun d6 c6 x r H15 s15 hres hx fu l6=>?_
 refine AA (v:=.ptr q 24) rfl (s15.put hn p14 hx l6 (by rw[hzl];decide) fun H16 s16 p16=>?_)
 refine s16.step (a:=.list Em) (b:=.list IK) hres (E67 (L:=[]) s16.rd (by simp) (D68.one _ _)) fun d7 c7 x r H17 s17 hres hx ft l7=>?_
 refine AA (v:=.ptr q 25) rfl (s17.put hn p16 hx l7 (by rw[hzl];decide) fun H18 s18 iG=>?_)
 refine s18.last (a:=.list IK) hres (E69 (L:=[]) s18.rd (by simp) (D70.one _ _)) fun d8 c8 x r H19 s19 hres hx il l8=>?_
 refine AA (v:=.ptr q 26) rfl (s19.put hn iG hx l8 (by rw[hzl];decide) fun H20 s20 p20=>?_)
 refine(s20.done (by rw[hzl];decide)).out hne p20 hzl fun H21 s21=>s21.fin hres ⟨_,rfl,?_⟩
 simp only[Ar]
 exact⟨_,_,rfl,Uc,_,_,rfl,Sn,_,_,rfl,Ub,_,_,rfl,Py,_,_,rfl,Vx,_,_,rfl,cV,_,_,rfl,fu,_,_,rfl,ft,il⟩
end
end Go.Proofs.YtlmkmpomgdbjhaaGreatDoor
namespace Go.AL
section
open Co
variable [BQ] {P:Program}
theorem aC {a b:String}(h:(a==b)=false):a≠b:=by simpa using h
theorem cu {e:Env}{H:AH}{K:Env->AH->Prop}{Kp:AV->Env->AH->Prop}{l:List A_}{d:Option Nat}{f:AE}{args:List AE}{g:FuncId}{first cap ds:List AV}(hf:f.ev e=.fn (.func g) first cap) (hd:e AM=.tup ds)
  (hK:CI P l ((e.set AM (.tup (.tup [.fn (.func g) [] [],.tup (first++args.map (·.ev e)++cap)]::ds))).put d .unk) H K Kp):CI P (⟨d,.defer f args,none⟩::l) e H K Kp:=by
 simp only[CI,hf,hd];exact hK
def gL:List A_:=[
 ⟨(some 6),.move (.tmp 2),none⟩,
 ⟨(some 7),.eq true .iface (.tmp 6) (.cst .nili),none⟩]
def gJ:List A_:=[
 ⟨(some 9),.move (.tmp 2),none⟩,
 ⟨(some 10),.tass 139 (.agg [(.int .i64 0)]) (.tmp 9),none⟩,
 ⟨(some 8),.move (.tmp 10),none⟩,
 ⟨(some 11),.extract 0 (.tmp 8),none⟩,
 ⟨(some 12),.extract 1 (.tmp 8),none⟩,
 ⟨(some 3),.alloc [(.int .i64 0)],none⟩,
 ⟨none,.store 1 (.tmp 3) (.tmp 11),none⟩,
 ⟨(some 4),.move (.tmp 12),none⟩]
def gI:List A_:=[
 ⟨(some 13),.move (.tmp 4),none⟩,
 ⟨(some 14),.un .not (.tmp 13),none⟩]
def oG:List A_:=[
 ⟨(some 15),.move (.tmp 2),none⟩,
 ⟨none,.panic (.tmp 15),none⟩]
def gH:List DX:=[
 ⟨0,⟨(some 16),.fieldAddr 0 (.tmp 3),none⟩,0,[],false⟩,
 ⟨1,⟨(some 17),.load none (.tmp 16),none⟩,1,[],false⟩,
 ⟨2,⟨none,.store 1 (.tmp 0) (.cst .nils),none⟩,0,[1],true⟩,
 ⟨3,⟨none,.store 1 (.tmp 1) (.tmp 17),none⟩,7,[],true⟩]
def sW:Hints:=[(5,[(0,0,[],false),(1,1,[],false),(2,0,[1],true),(3,7,[],true)])]
def jS:Ay:=.seq (.reg gL) (.cond (.tmp 7) (.seq (.reg gJ) (.seq (.seq (.reg gI) (.cond (.tmp 14) (.reg oG) .skip)) (.dreg gH))) .skip)
theorem d27 {H:AH}{a b:Nat}{x y:AV}(ha:H.get a=some (.cells [x])) (hb:H.get b=some (.cells [y])) (hal:a<H.next) (hbl:b<H.next) (hab:a≠b){m:Option AV}{n:Int}(hm:m=none\/m=some (.ifc 139 (.agg [.int .i64 n]))) :
  D P jS (fun x e H'=>e AM=.tup []/\(match x with | .normal | .ret=>(m=none->H'=H)/\(m≠none->H.next<=H'.next/\H'.gl=H.gl/\H'.get a=some (.cells [.nils])/\H'.get b=some (.cells [.int .i64 n])/\∀q,q<H.next->q≠a->q≠b->H'.get q=H.get q) | _=>False))
   (((CH [.ptr a 0,.ptr b 0]).set 5 (Mv m)).set 2 (Mv m)) H:=by
 unfold jS gL
 refine Dx ?_
 rcases hm with rfl | rfl
 ·refine A0 (v:=.nili) (H1:=H) (by simp[A6,AJ,AE.ev,Env.AN,Mv]) rfl ?_
  refine A0 (v:=.bool false) (H1:=H) (by simp[A6,AJ,AE.ev,Env.put,Env.AN,Yg]) rfl ?_
  refine HJ (Ji (t:=false) (by simp[AE.ev,Env.put,Env.AN]) (fun h=>by cases h) (fun _=>K7 ?_))
  exact⟨by simp[Env.put,Env.AN,CH,AM],fun _=>rfl,fun h=>absurd rfl h⟩
 ·refine A0 (v:=.ifc 139 (.agg [.int .i64 n])) (H1:=H) (by simp[A6,AJ,AE.ev,Env.AN,Mv]) rfl ?_
  refine A0 (v:=.bool true) (H1:=H) (by simp[A6,AJ,AE.ev,Env.put,Env.AN,Yg]) rfl ?_
  refine HJ (Ji (t:=true) (by simp[AE.ev,Env.put,Env.AN]) (fun _=>?_) (fun h=>by cases h))
  unfold gJ gI gH
  have na:a≠H.next:=by omega
  have nb:b≠H.next:=by omega
  refine Dx ?_
  refine A0 (v:=.ifc 139 (.agg [.int .i64 n])) (H1:=H) (by simp[A6,AJ,AE.ev,Env.put,Env.AN,Mv]) rfl ?_
  refine A0 (v:=.tup [.agg [.int .i64 n],.bool true]) (H1:=H) (by simp[A6,AJ,AE.ev,Env.put,Env.AN]) rfl ?_
  refine A0 (v:=.tup [.agg [.int .i64 n],.bool true]) (H1:=H) (by simp[A6,AJ,AE.ev,Env.put,Env.AN]) rfl ?_
  refine A0 (v:=.agg [.int .i64 n]) (H1:=H) (by simp[A6,AJ,AE.ev,Env.put,Env.AN]) rfl ?_
  refine A0 (v:=.bool true) (H1:=H) (by simp[A6,AJ,AE.ev,Env.put,Env.AN]) rfl ?_
  refine A0 (v:=.ptr H.next 0) (H1:=H.push (.cells [.int .i64 0])) (by simp[A6,AJ,AY,BC,AE.ev,Env.put,Env.AN]) rfl ?_
  refine A0 (v:=.unk) (H1:=(H.push (.cells [.int .i64 0])).set H.next (.cells [.int .i64 n])) (by simp[A6,AJ,AY,BC,AE.ev,Env.put,Env.AN,AH.cells?,AH.Ai,AV.cellsOf,Ap]) rfl ?_
  generalize hH1:(H.push (.cells [.int .i64 0])).set H.next (.cells [.int .i64 n])=H1
  have g0:H1.get H.next=some (.cells [.int .i64 n]):=by rw[<- hH1];simp[AH.AU]
  have g1:∀q,q<H.next->H1.get q=H.get q:=fun q hq=>by
   have:q≠H.next:=by omega
   rw[<- hH1];simp[AH.AU,AH.Ai,this]
  have g2:H1.next=H.next+1:=by rw[<- hH1];simp
  have g3:H1.gl=H.gl:=by rw[<- hH1];rfl
  refine A0 (v:=.bool true) (H1:=H1) (by simp[A6,AJ,AE.ev,Env.put,Env.AN]) rfl ?_
  refine HJ (QD (QD (Gs ?_)))
  refine A0 (v:=.bool true) (H1:=H1) (by simp[A6,AJ,AE.ev,Env.put,Env.AN]) rfl ?_
  refine A0 (v:=.bool false) (H1:=H1) (by simp[A6,AJ,AE.ev,Env.put,Env.AN,km]) rfl ?_
  refine HJ (Ji (t:=false) (by simp[AE.ev,Env.put,Env.AN]) (fun h=>by cases h) (fun _=>K7 (Q9 (OT ?_))))
  have ga:H1.get a=some (.cells [x]):=by rw[g1 a hal];exact ha
  have gb:H1.get b=some (.cells [y]):=by rw[g1 b hbl];exact hb
  refine JR (v:=.ptr H.next 0) (by simp[AJ,AE.ev,Env.put,Env.AN,Fc]) ?_
  refine PT (v:=.int .i64 n) rfl (by simp[AY,BJ,AE.ev,Env.put,Env.AN,AH.cells?,g0,apart]) ?_
  refine mG (v:=(.unk,H1.set a (.cells [.nils]))) (by simp[A6,AJ,AY,BC,AE.ev,Env.put,Env.AN,CH,AM,AH.cells?,ga,AV.cellsOf,Ap]) rfl ?_ ?_
  ·refine⟨?_,trivial⟩
   have:¬H.next=a:=fun h=>na h.symm
   show AY _ _ _=_
   simp[AY,BJ,AE.ev,Env.put,Env.AN,AH.cells?,AH.AU,g0,this,apart]
  have nba:¬b=a:=fun h=>hab h.symm
  refine mG (v:=(.unk,(H1.set a (.cells [.nils])).set b (.cells [.int .i64 n]))) (by simp[A6,AJ,AY,BC,AE.ev,Env.put,Env.AN,CH,AM,AH.cells?,AH.AU,nba,gb,AV.cellsOf,Ap]) rfl trivial ?_
  refine mH (Fj ⟨by simp[Env.put,Env.AN,CH,AM],fun h=>(by cases h),fun _=>⟨by simp[g2],by simp[g3,AH.set],?_,?_,fun q hq hqa hqb=>?_⟩⟩)
  ·simp[AH.AU,hab]
  ·simp[AH.AU]
  ·rw[<- g1 q hq];simp[AH.AU,hqa,hqb]
end
end Go.AL
namespace Go.Proofs.YtlmkmpomgdbjhaaGreatDoor
open Tryz
section
open Go Go.AL Go.AL.Co
variable [BQ]
theorem A27 {H:AH}{a b:Nat}{x y:AV}(ha:H.get a=some (.cells [x])) (hb:H.get b=some (.cells [y])) (hal:a<H.next) (hbl:b<H.next) (hab:a≠b){m:Option AV}{n:Int}(hm:m=none\/m=some (.ifc 139 (.agg [.int .i64 n]))) :
  FO prog 46 [.ptr a 0,.ptr b 0] m H (fun H'=>(m=none->H'=H)/\(m≠none->H.next<=H'.next/\H'.gl=H.gl/\H'.get a=some (.cells [.nils])/\H'.get b=some (.cells [.int .i64 n])/\∀q,q<H.next->q≠a->q≠b->H'.get q=H.get q)):=
 Rq (fn:=f46) (hs:=sW) (ra:=5) (rb:=2) (rest:=jS) mix (by kernel_rfl) (aC (by kernel_rfl)) rfl (Aa (by kernel_rfl)) (by show 2<=18;omega) (by kernel_rfl) (by kernel_rfl) (d27 ha hb hal hbl hab hm)
def yz:Hints:=[]
def oE:List A_:=[
 ⟨(some 2),.alloc [.nils],none⟩,
 ⟨(some 3),.alloc [(.int .i64 0)],none⟩]
def oD:List A_:=[
 ⟨(some 5),.mkFunc (.func 46) [] [(.tmp 2),(.tmp 3)],none⟩,
 ⟨none,.defer (.tmp 5) [],none⟩]
def oC:List A_:=[
 ⟨(some 6),.move (.tmp 0),none⟩,
 ⟨(some 7),.build [.nils] [(0,1,(.tmp 6))],none⟩,
 ⟨(some 8),.box (.tmp 7),none⟩,
 ⟨(some 4),.move (.tmp 8),none⟩]
def jR:List A_:=[
 ⟨(some 9),.move (.tmp 4),none⟩,
 ⟨(some 10),.move (.tmp 4),none⟩,
 ⟨(some 11),.mkFunc (.func 48) [(.tmp 10)] [],none⟩,
 ⟨(some 12),.call (.fnc 47) [(.tmp 9),(.tmp 11)],none⟩,
 ⟨none,.store 1 (.tmp 2) (.tmp 12),none⟩]
def jQ:List A_:=[
 ⟨(some 13),.move (.tmp 4),none⟩,
 ⟨(some 14),.nilCheck (.tmp 13),none⟩,
 ⟨(some 15),.fieldAddr 0 (.tmp 14),none⟩,
 ⟨(some 16),.load none (.tmp 15),none⟩,
 ⟨(some 17),.len (.tmp 16),none⟩,
 ⟨(some 18),.bin .gtr (.tmp 17) (.cst (.int .i64 0)),none⟩]
def jP:List A_:=[
 ⟨none,.store 1 (.tmp 2) (.cst .nils),none⟩,
 ⟨none,.store 1 (.tmp 3) (.cst (.int .i64 4)),none⟩]
def jO:List A_:=[
 ⟨(some 19),.load none (.tmp 2),none⟩,
 ⟨none,.store 1 (.tmp 2) (.tmp 19),none⟩,
 ⟨none,.store 1 (.tmp 3) (.cst (.int .i64 0)),none⟩]
def a7:Ay:=(.seq (.reg oE) (.seq (.reg oD) (.seq (.reg oC) (.seq (.reg jR) (.seq (.seq (.reg jQ) (.cond (.tmp 18) (.seq (.reg jP) .ret) .skip)) (.seq (.reg jO) .ret))))))
def oF:List CZ:=[.cell 2 none,.cell 3 none]
def U9 (H:AH) (res:Rs Ad.D):Al->AH->Prop:=fun o H'=>C9 H H'/\match res with
 | .ok d []=>∃x,o=.ret (.tup [x,.int .i64 0])/\RX Ad d [x]
 | .ok _ (_::_)=>o=.ret (.tup [.nils,.int .i64 4])
 | .err e=>o=.ret (.tup [.nils,.int .i64 (jC e)])
set_option maxHeartbeats 2000000 in
theorem P7 {H:AH}{v:AV}{b:List UInt8}(hv:TF H H.next b v) (hl:b.length<274877906944):AQ prog 23 [v] H (U9 H (Ad.dec b)):=by
 have hv1:v.cellsOf=some [v]:=by cases hv<;>rfl
 obtain⟨H3,hH3⟩:∃H3,H3=((H.push (.cells [.nils])).push (.cells [.int .i64 0])).push (.cells [v]):=⟨_,rfl⟩
 have n3:H3.next=H.next+3:=by rw[hH3];rfl
 have l3:H3.gl=H.gl:=by rw[hH3];rfl
 have ga:H3.get H.next=some (.cells [.nils]):=by
  have e1:H.next≠H.next+2:=by omega
  rw[hH3];simp[AH.Ai,e1]
 have gb:H3.get (H.next+1)=some (.cells [.int .i64 0]):=by rw[hH3];simp[AH.Ai]
 have gc:H3.get (H.next+2)=some (.cells [v]):=by rw[hH3];simp[AH.Ai]
 have go:∀q,q<H.next->H3.get q=H.get q:=fun q hq=>by
  have e1:q≠H.next:=by omega
  have e2:q≠H.next+1:=by omega
  have e3:q≠H.next+2:=by omega
  rw[hH3];simp[AH.Ai,e1,e2,e3]
 have hv3:TF H3 (H.next+2) b v:=by
  cases hv with
  | nils=>exact .nils
  | sim _ ex=>exact .sim _ ex
  | own hlt hc ho hm hes=>exact .own (by omega) (by rw[go _ hlt];exact hc) ho hm hes
 have hR:Rd H3 (H.next+2) b:=⟨by omega,hl,v,gc,hv3⟩
 have hE:AQ prog 47 [.ptr (H.next+2) 0,.fn (.func 48) [.ptr (H.next+2) 0] []] H3 (Ce H3 (H.next+2) (Ad.dec b) fun d x _=>RX Ad d [x]):=u_ (L:=[]) hR (by simp) (D29.one _ _)
 clear hR hv3
 generalize Ad.dec b=res at hE ⊢
 have fin:∀(H5:AH) (x y:AV) (m:Option AV) (n:Int),(m=none\/m=some (.ifc 139 (.agg [.int .i64 n])))->H.next+3<=H5.next->H5.gl=H.gl->H5.get H.next=some (.cells [x])->H5.get (H.next+1)=some (.cells [y])->(∀q,q<H.next->H5.get q=H.get q) ->
   (∀H',C9 H H'->(m=none->U9 H res (.ret (.tup [x,y])) H')/\(m≠none->U9 H res (.ret (.tup [.nils,.int .i64 n])) H'))->∀(e:Env),e 2=.ptr H.next 0->e 3=.ptr (H.next+1) 0 ->
   FO prog 46 [.ptr H.next 0,.ptr (H.next+1) 0] m H5 fun H'=>match DU e H' oF with
    | some vs=>U9 H res (.ret (Im vs)) H'
    | none=>False:=fun H5 x y m n hm hn hg h1 h2 h3 hD e e2 e3=>by
  refine(A27 (n:=n) h1 h2 (by omega) (by omega) (by omega) hm).mono fun H' hp=>?_
  rcases hm with rfl | rfl
  ·have e:=hp.1 rfl
   subst e
   simp only[oF,DU,e2,e3,BJ,AH.cells?,h1,h2,apart,Option.map,E6,Im]
   exact(hD _ ⟨by omega,h3,hg⟩).1 rfl
  ·obtain⟨p1,p2,p3,p4,p5⟩:=hp.2 (by simp)
   simp only[oF,DU,e2,e3,BJ,AH.cells?,p3,p4,apart,Option.map,E6,Im]
   refine(hD _ ⟨by omega,fun q hq=>?_,by rw[p2];exact hg⟩).2 (by simp)
   rw[p5 q (by omega) (by omega) (by omega)];exact h3 q hq
 refine U3 (fn:=f23) (hs:=yz) (ac:=a7) (ars:=oF) mix (by kernel_rfl) (aC (by kernel_rfl)) rfl (Aa (by kernel_rfl)) (by show 1<=20;omega) (by kernel_rfl) (by kernel_rfl) ?_
 unfold a7 oE oD oC
 refine Dx ?_
 refine A0 (v:=.ptr H.next 0) (H1:=H.push (.cells [.nils])) (by simp[A6,AJ,AY,BC]) rfl ?_
 refine A0 (v:=.ptr (H.next+1) 0) (H1:=(H.push (.cells [.nils])).push (.cells [.int .i64 0])) (by simp[A6,AJ,AY,BC]) rfl ?_
 refine HJ (Dx ?_)
 refine A0 (v:=.fn (.func 46) [] [.ptr H.next 0,.ptr (H.next+1) 0]) (H1:=(H.push (.cells [.nils])).push (.cells [.int .i64 0])) (by simp[A6,AJ,AE.ev,Env.put,Env.AN]) rfl ?_
 refine cu (g:=46) (first:=[]) (cap:=[.ptr H.next 0,.ptr (H.next+1) 0]) (ds:=[]) (by simp[AE.ev,Env.put,Env.AN]) (by simp[Env.put,Env.AN,CH,AM]) ?_
 refine HJ (Dx ?_)
 refine A0 (v:=v) (H1:=(H.push (.cells [.nils])).push (.cells [.int .i64 0])) (by simp[A6,AJ,AE.ev,Env.put,Env.AN,CH,AM]) rfl ?_
 refine A0 (v:=.agg [v]) (H1:=(H.push (.cells [.nils])).push (.cells [.int .i64 0])) (by simp[A6,AJ,Bv,AE.ev,Env.put,Env.AN,hv1]) rfl ?_
 refine A0 (v:=.ptr (H.next+2) 0) (H1:=H3) (by simp[A6,AJ,AY,BC,AE.ev,Env.put,Env.AN,AV.cellsOf,hH3]) rfl ?_
 refine A0 (v:=.ptr (H.next+2) 0) (H1:=H3) (by simp[A6,AJ,AE.ev,Env.put,Env.AN]) rfl ?_
 refine HJ ?_
 have hgen:∀e:Env,e 2=.ptr H.next 0->e 3=.ptr (H.next+1) 0->e 4=.ptr (H.next+2) 0->e AM=.tup [.tup [.fn (.func 46) [] [],.tup [.ptr H.next 0,.ptr (H.next+1) 0]]] ->
   D prog (.seq (.reg jR) (.seq (.seq (.reg jQ) (.cond (.tmp 18) (.seq (.reg jP) .ret) .skip)) (.seq (.reg jO) .ret))) (dpost prog oF (U9 H res)) e H3:=by
  intro e e2 e3 e4 ed
  have ed:e 1000000=.tup [.tup [.fn (.func 46) [] [],.tup [.ptr H.next 0,.ptr (H.next+1) 0]]]:=ed
  unfold jR jQ jP jO
  refine Dx ?_
  refine A0 (v:=.ptr (H.next+2) 0) (H1:=H3) (by simp[A6,AJ,AE.ev,e4]) rfl ?_
  refine A0 (v:=.ptr (H.next+2) 0) (H1:=H3) (by simp[A6,AJ,AE.ev,Env.put,Env.AN,e4]) rfl ?_
  refine A0 (v:=.fn (.func 48) [.ptr (H.next+2) 0] []) (H1:=H3) (by simp[A6,AJ,AE.ev,Env.put,Env.AN]) rfl ?_
  refine cx (first:=[]) (cap:=[]) rfl (by simp[AE.ev,Env.put,Env.AN]) hE (fun x H4 h4=>?_) (fun x H4 h4=>?_)
  ·obtain⟨k4,h4⟩:=h4
   cases res with
   | err er=>cases h4.1
   | ok d r=>
   obtain⟨x',hx',hrv,hr4⟩:=h4
   cases hx'
   have hx1:x.cellsOf=some [x]:=wC (t:=HC) hrv
   have ga4:H4.get H.next=some (.cells [.nils]):=by rw[k4.get _ (by omega) (by omega)];exact ga
   have gb4:H4.get (H.next+1)=some (.cells [.int .i64 0]):=by rw[k4.get _ (by omega) (by omega)];exact gb
   have go4:∀q,q<H.next->H4.get q=H.get q:=fun q hq=>by rw[k4.get _ (by omega) (by omega)];exact go q hq
   have n4:=k4.nx
   have l4:H4.gl=H.gl:=by rw[k4.gl];exact l3
   obtain⟨_,_,vr,Vx,hi4⟩:=hr4
   refine A0 (v:=.unk) (H1:=H4.set H.next (.cells [x])) (by simp[A6,AJ,AY,BC,AE.ev,Env.put,Env.AN,e2,AH.cells?,ga4,hx1,Ap]) rfl ?_
   generalize hH5:H4.set H.next (.cells [x])=H5
   have ga5:H5.get H.next=some (.cells [x]):=by rw[<- hH5];simp[AH.AU]
   have gb5:H5.get (H.next+1)=some (.cells [.int .i64 0]):=by rw[<- hH5];simp[AH.AU,gb4]
   have gc5:H5.get (H.next+2)=some (.cells [vr]):=by rw[<- hH5];simp[AH.AU,Vx]
   have go5:∀q,q<H.next->H5.get q=H.get q:=fun q hq=>by
    have:q≠H.next:=by omega
    rw[<- hH5];simp[AH.AU,this,go4 q hq]
   have n5:H5.next=H4.next:=by rw[<- hH5];rfl
   have l5:H5.gl=H.gl:=by rw[<- hH5];exact l4
   have hlen:=hi4.len
   refine HJ (QD (Dx ?_))
   refine A0 (v:=.ptr (H.next+2) 0) (H1:=H5) (by simp[A6,AJ,AE.ev,Env.put,Env.AN,e4]) rfl ?_
   refine A0 (v:=.ptr (H.next+2) 0) (H1:=H5) (by simp[A6,AJ,AE.ev,Env.put,Env.AN,Ik]) rfl ?_
   refine A0 (v:=.ptr (H.next+2) 0) (H1:=H5) (by simp[A6,AJ,AE.ev,Env.put,Env.AN,Fc]) rfl ?_
   refine A0 (v:=vr) (H1:=H5) (by simp[A6,AJ,AY,BJ,AE.ev,Env.put,Env.AN,AH.cells?,gc5,apart]) rfl ?_
   refine A0 (v:=.int .i64 (r.length:Int)) (H1:=H5) (by
    cases hi4<;>simp[A6,AJ,AE.ev,Env.put,Env.AN,YU]) rfl ?_
   refine A0 (v:=.bool (decide ((r.length:Int)>0))) (H1:=H5) (by simp[A6,AJ,AE.ev,Env.put,Env.AN,Dj]) rfl ?_
   refine HJ (Ji (t:=decide ((r.length:Int)>0)) (by simp[AE.ev,Env.put,Env.AN]) (fun ht=>?_) (fun ht=>?_))
   ·have hpos:0<r.length:=by have:=of_decide_eq_true ht;omega
    refine Dx ?_
    refine A0 (v:=.unk) (H1:=H5.set H.next (.cells [.nils])) (by simp[A6,AJ,AY,BC,AE.ev,Env.put,Env.AN,e2,AH.cells?,ga5,AV.cellsOf,Ap]) rfl ?_
    refine A0 (v:=.unk) (H1:=(H5.set H.next (.cells [.nils])).set (H.next+1) (.cells [.int .i64 4])) (by simp[A6,AJ,AY,BC,AE.ev,Env.put,Env.AN,e3,AH.cells?,AH.AU,gb5,AV.cellsOf,Ap]) rfl ?_
    refine HJ (gA (Xt ⟨46,[.ptr H.next 0,.ptr (H.next+1) 0],none,by simp[Env.put,Env.AN,AM,ed],rfl,?_⟩))
    refine fin _ .nils (.int .i64 4) none 0 (.inl rfl) (by simp;omega) (by simp[AH.set,l5]) (by simp[AH.AU]) (by simp[AH.AU]) (fun q hq=>?_) (fun H' hk=>⟨fun _=>⟨hk,?_⟩,fun h=>absurd rfl h⟩) _ (by simp[Env.put,Env.AN,e2]) (by simp[Env.put,Env.AN,e3])
    ·have a1:q≠H.next:=by omega
     have a2:q≠H.next+1:=by omega
     simp[AH.AU,a1,a2,go5 q hq]
    ·cases r with
     | nil=>simp at hpos
     | cons y r=>rfl
   ·have hz:r=[]:=by
     have:=of_decide_eq_false ht
     cases r with
     | nil=>rfl
     | cons y r=>exfalso;apply this;simp only[Be];omega
    subst hz
    refine K7 (Q9 (Dx ?_))
    refine A0 (v:=x) (H1:=H5) (by simp[A6,AJ,AY,BJ,AE.ev,Env.put,Env.AN,e2,AH.cells?,ga5,apart]) rfl ?_
    refine A0 (v:=.unk) (H1:=H5.set H.next (.cells [x])) (by simp[A6,AJ,AY,BC,AE.ev,Env.put,Env.AN,e2,AH.cells?,ga5,hx1,Ap]) rfl ?_
    refine A0 (v:=.unk) (H1:=(H5.set H.next (.cells [x])).set (H.next+1) (.cells [.int .i64 0])) (by simp[A6,AJ,AY,BC,AE.ev,Env.put,Env.AN,e3,AH.cells?,AH.AU,gb5,AV.cellsOf,Ap]) rfl ?_
    refine HJ (gA ⟨46,[.ptr H.next 0,.ptr (H.next+1) 0],none,by simp[Env.put,Env.AN,AM,ed],rfl,?_⟩)
    refine fin _ x (.int .i64 0) none 0 (.inl rfl) (by simp;omega) (by simp[AH.set,l5]) (by simp[AH.AU]) (by simp[AH.AU]) (fun q hq=>?_) (fun H' hk=>⟨fun _=>⟨hk,x,rfl,hrv⟩,fun h=>absurd rfl h⟩) _ (by simp[Env.put,Env.AN,e2]) (by simp[Env.put,Env.AN,e3])
    have a1:q≠H.next:=by omega
    have a2:q≠H.next+1:=by omega
    simp[AH.AU,a1,a2,go5 q hq]
  ·obtain⟨k4,h4⟩:=h4
   cases res with
   | ok d r=>obtain⟨_,h,_⟩:=h4;cases h
   | err er=>
   obtain⟨hx,r,hr⟩:=h4
   cases hx
   have n4:=k4.nx
   refine⟨46,[.ptr H.next 0,.ptr (H.next+1) 0],some (fail er),by simp[Env.put,Env.AN,AM,ed],rfl,?_⟩
   refine fin _ .nils (.int .i64 0) _ (jC er) (.inr rfl) (by omega) (by rw[k4.gl];exact l3) (by rw[k4.get _ (by omega) (by omega)];exact ga) (by rw[k4.get _ (by omega) (by omega)];exact gb) (fun q hq=>by rw[k4.get _ (by omega) (by omega)];exact go q hq)
    (fun H' hk=>⟨fun h=>(by cases h),fun _=>⟨hk,rfl⟩⟩) _ (by simp[Env.put,Env.AN,e2]) (by simp[Env.put,Env.AN,e3])
 exact hgen _ (by simp[Env.put,Env.AN,AM]) (by simp[Env.put,Env.AN,AM]) (by simp[Env.put,Env.AN,AM]) (by simp[Env.put,Env.AN,CH,AM,AE.ev])
end
end Go.Proofs.YtlmkmpomgdbjhaaGreatDoor
namespace Go.AL
section
open Sha
variable [BQ]
theorem QQ:∀a:List UInt8,Rp (List.replicate a.length (.i .u8)) (a.map bv)=some (a.map fun x=>Lit.int .u8 (x.toNat:Int))
 | []=>rfl
 | x::a=>by
  have hx:(Lit.int .u8 (x.toNat:Int)).wf=true:=by
   have:=x.toNat_lt
   show(decide ((0:Int)<=(x.toNat:Int))&&decide ((x.toNat:Int)<=255))=true
   simp;omega
  have h1:YT (.i .u8) (bv x)=some (.int .u8 (x.toNat:Int)):=if_pos ⟨rfl,hx⟩
  rw[Be,OA,B1,B1]
  simp only[Rp,h1,QQ a]
theorem XA:∀a b:List UInt8,(a.map fun x=>Lit.int .u8 (x.toNat:Int))=(b.map fun x=>Lit.int .u8 (x.toNat:Int))↔a=b
 | [],[]=>by simp
 | [],_::_=>by simp
 | _::_,[]=>by simp
 | x::a,y::b=>by
  rw[B1,B1,Ny,Ny,XA a b]
  constructor
  ·rintro⟨h,rfl⟩
   simp only[Lit.int.injEq,true_and]at h
   exact⟨UInt8.toNat_inj.1 (by omega),rfl⟩
  ·rintro⟨rfl,rfl⟩;exact⟨rfl,rfl⟩
theorem bX {a b:List UInt8}(ha:a.length=32) (hb:b.length=32) (neg:Bool):AJ (.eq neg (.wide (true,List.replicate 32 (.i .u8))) (.cst (.agg (a.map bv))) (.cst (.agg (b.map bv)))) emp=some (.bool (bif neg then !decide (a=b)else decide (a=b))):=by
 have h1:MM (true,List.replicate 32 (.i .u8)) (.agg (a.map bv))=some (a.map fun x=>Lit.int .u8 (x.toNat:Int)):=by rw[<- ha];exact QQ a
 have h2:MM (true,List.replicate 32 (.i .u8)) (.agg (b.map bv))=some (b.map fun x=>Lit.int .u8 (x.toNat:Int)):=by rw[<- hb];exact QQ b
 have h3:FH (a.map fun x=>Lit.int .u8 (x.toNat:Int)) (b.map fun x=>Lit.int .u8 (x.toNat:Int))=decide (a=b):=by
  by_cases h:a=b
  ·rw[decide_eq_true h,h];exact Eg.2 rfl
  ·rw[decide_eq_false h]
   cases e:FH (a.map fun x=>Lit.int .u8 (x.toNat:Int)) (b.map fun x=>Lit.int .u8 (x.toNat:Int))with
   | false=>rfl
   | true=>exact absurd ((XA a b).1 (Eg.1 e)) h
 show((Yg (.wide (true,List.replicate 32 (.i .u8))) (.agg (a.map bv)) (.agg (b.map bv))).map fun b=>AV.bool (bif neg then !b else b))=_
 simp only[Yg,h1,h2,h3]
 rfl
end
section
open Sha Go.AL.Co
def wI (l:List UInt8):Int:=IntKind.i64.wrap (Ks l:Int)
def items:Nat->Int->List UInt8->Option (List Ad.D × List UInt8)
 | 0,n,b=>if n<=0 then some ([],b)else none
 | f+1,n,b=>if n<=0 then some ([],b)else if b.length<8 then none else
  if wI (b.take 8)<0\/((b.drop 8).length:Int)<wI (b.take 8)then none else match Ad.dec ((b.drop 8).take (wI (b.take 8)).toNat)with
   | .ok d []=>(items f (n-1) ((b.drop 8).drop (wI (b.take 8)).toNat)).map fun p=>(d::p.1,p.2)
   | _=>none
def Fw (b:List UInt8):Option (Int × Int × List Ad.D):=
 if b.length<24 then none else if wI ((b.drop 16).take 8)<0 then none else match items b.length (wI ((b.drop 16).take 8)) (b.drop 24)with
  | some (l,[])=>some (wI (b.take 8),wI ((b.drop 8).take 8),l)
  | _=>none
variable [BQ]
end
end Go.AL
namespace Go.Proofs.YtlmkmpomgdbjhaaGreatDoor
open Tryz
section
open Go Go.AL
variable [BQ]
end
section
open Go Go.AL Go.AL.Co
variable [BQ]
end
section
open Go Go.AL Go.AL.Sha Go.AL.Co
variable [BQ]
end
end Go.Proofs.YtlmkmpomgdbjhaaGreatDoor
namespace Go.AL
section
open Go.AL.Co
variable [BQ]
theorem lz {t:Ty}{l:(Ty.list t).D}{y:AV}(h:FL (Dd t) (fun i c=>∀d,(GA l)[i]?=some d->RC t d c) (GA l).length y):RC (.list t) l [y]:=by
 rcases h.ex with⟨h0,rfl⟩ | ⟨css,b,rfl,h2,h3,h4⟩
 ·refine⟨.nils,[],rfl,by rw[h0];exact .nil,[],rfl,by rw[h0];rfl,fun i x y _ hy=>by simp at hy⟩
 ·refine⟨_,css.flatten,rfl,.sim ?_,css,rfl,h3,fun i x y hx hy=>(h4 i y hy).2.2 x hx⟩
  rw[F2 css (z:=Dd t) fun c hc=>?_,h3]
  obtain⟨i,hi⟩:=DC hc
  exact(h4 i c hi).1
end
section
open Sha Go.AL.Co
variable [BQ]
theorem GL.mS {R:List (Nat × List AV)}{z n:Nat}{Pr Pr':Nat->List AV->Prop}{cs:List AV}(h:GL R z Pr n cs) (hp:∀i c,i<n->Pr i c->Pr' i c):GL R z Pr' n cs:=by
 obtain⟨⟨css,h1,h2,h3⟩,h4⟩:=h
 exact⟨⟨css,h1,h2,fun i c hc=>by
  obtain⟨g1,g2,g3⟩:=h3 i c hc
  exact⟨g1,g2,hp i c (by rw[<- h2];exact(CJ.1 hc).1) g3⟩⟩,h4⟩
def PD (ds:List Ad.D) (i:Nat) (c:List AV):Prop:=∀d,ds[i]?=some d->RC Ad d c
theorem GL.sO {ds:List Ad.D}{d:Ad.D}{cs:List AV}{x:AV}(h:GL [] 1 (PD ds) ds.length cs) (hs:∀k,Sc k x) (hx:RC Ad d [x]):GL [] 1 (PD (ds++[d])) (ds++[d]).length (cs++[x]):=by
 have h2:GL [] 1 (PD (ds++[d])) ds.length cs:=h.mS fun i c hi hp e he=>hp e (by rw[Dr hi]at he;exact he)
 rw[AW,Ok]
 refine h2.sN rfl (fun k=>.cons (hs k) .nil) fun e he=>?_
 rw[C4 (A4 _),HB]at he
 cases he
 exact hx
theorem Px (f:Nat) (n:Int) (b:List UInt8):items (f+1) n b=if n<=0 then some ([],b)else if b.length<8 then none else
  if wI (b.take 8)<0\/((b.drop 8).length:Int)<wI (b.take 8)then none else match Ad.dec ((b.drop 8).take (wI (b.take 8)).toNat)with
   | .ok d []=>(items f (n-1) ((b.drop 8).drop (wI (b.take 8)).toNat)).map fun p=>(d::p.1,p.2)
   | _=>none:=rfl
theorem Vt {f:Nat}{n i:Int}{b:List UInt8}(h:i<n) (hb:b.length<=f) :
  (b.length<8->items f (n-i) b=none)/\(8<=b.length->(wI (b.take 8)<0\/((b.drop 8).length:Int)<wI (b.take 8)->items f (n-i) b=none) /\
   (0<=wI (b.take 8)->wI (b.take 8)<=((b.drop 8).length:Int)->∃f',((b.drop 8).drop (wI (b.take 8)).toNat).length<=f' /\
    (∀d,Ad.dec ((b.drop 8).take (wI (b.take 8)).toNat)=.ok d []->items f (n-i) b=(items f' (n-(i+1)) ((b.drop 8).drop (wI (b.take 8)).toNat)).map fun p=>(d::p.1,p.2)) /\
    ((∀d,Ad.dec ((b.drop 8).take (wI (b.take 8)).toNat)≠.ok d [])->items f (n-i) b=none))):=by
 have hpos:¬n-i<=0:=by omega
 match f,hb with
 | 0,hb=>
  refine⟨fun _=>?_,fun h8=>by omega⟩
  unfold items;rw[if_neg hpos]
 | f+1,hb=>
  refine⟨fun h8=>?_,fun h8=>⟨fun hk=>?_,fun h0 h1=>⟨f,?_,fun d hd=>?_,fun hd=>?_⟩⟩⟩
  ·unfold items;rw[if_neg hpos,if_pos h8]
  ·unfold items;rw[if_neg hpos,if_neg (by omega),if_pos hk]
  ·rw[B3,B3];omega
  ·rw[Px,if_neg hpos,if_neg (by omega),if_neg (by omega),hd,show n-i-1=n-(i+1)by omega]
  ·rw[Px,if_neg hpos,if_neg (by omega),if_neg (by omega)]
   generalize Ad.dec ((b.drop 8).take (wI (b.take 8)).toNat)=r at hd
   match r,hd with
   | .err e,_=>rfl
   | .ok d [],hd=>exact absurd rfl (hd d)
   | .ok d (_::_),_=>rfl
end
end Go.AL
namespace Go.Proofs.YtlmkmpomgdbjhaaGreatDoor
open Tryz
section
open Go Go.AL Go.AL.Sha Go.AL.Co
variable [BQ]
theorem bS {z n:Nat}{v:AV}{c:List AV}(h:fO z v c n):v.cellsOf=some [v]:=by cases h<;>rfl
theorem jU {d:Ad.D}{x:AV}(h:RX Ad d [x]):(∀k,Sc k x)/\x.cellsOf=some [x]:=by
 refine⟨fun k=>by cases U6 k Ad d [x] h with | cons a _=>exact a,?_⟩
 obtain⟨v,cs,hv,hf,_⟩:=h
 cases hv
 exact bS hf
theorem lD {H0 H:AH}{L:List (Nat × List AV)}{v:AV}{b:List UInt8}{Kp K:AV->AH->Prop}(s:A2 H0 L H) (hv:It b v) (hl:b.length<68719400000)
  (hK:∀x en d H',A2 H0 L H'->RC Ad d [x]->(∀k,Sc k x)->x.cellsOf=some [x]->((en=0/\Ad.dec b=.ok d [])\/(en≠0/\∀d,Ad.dec b≠.ok d []))->K (.tup [x,iv en]) H'):AF prog 23 [v] H Kp K:=by
 have hI:TF H H.next b v:=by
  rcases hv with⟨rfl,rfl⟩ | ⟨ex,rfl⟩
  ·exact .nils
  ·exact .sim _ ex
 have hnil:RC Ad [] [.nils]:=⟨.nils,[],rfl,.nil,[],rfl,rfl,fun i x y _ hy=>by simp at hy⟩
 refine BA (P7 hI (by omega)) (fun v H' h=>?_) (fun v H' h=>?_)
 ·obtain⟨hk,h⟩:=h
  have s':=s.GJ hk
  generalize Ad.dec b=r at h hK
  match r,h with
  | .ok d [],h=>
   obtain⟨x,hx,hr⟩:=h
   cases hx
   obtain⟨h1,h2⟩:=jU hr
   exact hK x 0 d H' s' (U7 _ _ _ hr) h1 h2 (.inl ⟨rfl,rfl⟩)
  | .ok _ (_::_),h=>
   cases h
   exact hK .nils 4 [] H' s' hnil (fun _=>.nils) rfl (.inr ⟨by decide,fun d h=>by cases h⟩)
  | .err e,h=>
   cases h
   exact hK .nils _ [] H' s' hnil (fun _=>.nils) rfl (.inr ⟨by cases e<;>decide,fun d h=>by cases h⟩)
 ·obtain⟨hk,h⟩:=h
  generalize Ad.dec b=r at h
  match r,h with
  | .ok d [],h=>obtain⟨_,h,_⟩:=h;cases h
  | .ok _ (_::_),h=>cases h
  | .err e,h=>cases h
end
end Go.Proofs.YtlmkmpomgdbjhaaGreatDoor
