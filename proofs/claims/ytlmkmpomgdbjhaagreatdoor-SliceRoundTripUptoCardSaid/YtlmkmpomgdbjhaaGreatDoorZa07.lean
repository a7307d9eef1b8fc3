import Derived.Test.YtlmkmpomgdbjhaaGreatDoorZa06
/-
  a part of the proof.
-/
set_option linter.unusedSectionVars false
set_option linter.unusedVariables false
set_option linter.unusedSimpArgs false
namespace Go.AL
section
open Co
variable [BX] {P:Program}
theorem DN {n:Int}(h:-9223372036854775808<=n/\n<=9223372036854775807):IntKind.i64.wrap n=n:=by
 rw[Gp];split<;>omega
theorem DP {l:List Int}{i:Nat}{x:Int}(h:l[i]?=some x):(l.take (i+1)).flatMap BY=(l.take i).flatMap BY++BY x:=by
 rw[DZ,h];simp
theorem Il (l:List Int) (i:Nat):((l.take i).flatMap BY).length<=(l.flatMap BY).length:=by
 conv=>rhs;rw[<- Fw i l]
 rw[O9,Aa];omega
def nc (l:List Int):List AV:=l.map fun n=>.int .i64 n
theorem V3 {l:List Int}{i:Nat}{x:Int}(h:l[i]?=some x):(nc l)[i]?=some (.int .i64 x):=by simp[nc,h]
end
end Go.AL
namespace Go.Proofs.YtlmkmpomgdbjhaaGreatDoor
open Tryz
section
open Go Go.AL Go.AL.Co
variable [BX]
theorem rh {L:List (Nat × List AV)}{p q:Nat}(hq:(q,[AV.ptr p 0])∈L):Nv prog L p (.fn (.func 58) [] [.ptr q 0]) DF:=by
 intro d c hR hw H ro bs hW hL hb
 obtain⟨k,m,r,d1,x,k1,nx,el⟩:=d
 obtain⟨c1,c2,rfl,h1,c3,c4,rfl,h2,c5,c6,rfl,h3,c7,c8,rfl,h4,c9,c10,rfl,h5,c11,c12,rfl,h6,c13,c14,rfl,h7,h8⟩:=hR
 obtain⟨v,hv⟩:∃v,c3=[v]:=by obtain⟨v,_,h,_⟩:=h2;exact⟨v,h⟩
 have h1:c1=[.int .i64 k]:=h1
 have h3:c5=[.int .i64 r]:=h3
 have h4:c7=[.int .i64 d1]:=h4
 have h5:c9=[.int .i64 x]:=h5
 have h6:c11=[.int .i64 k1]:=h6
 have h7:c13=[.int .i64 nx]:=h7
 have h8:c14=[.int .i64 el]:=h8
 subst hv h1 h3 h4 h5 h6 h7 h8
 obtain⟨w1,w2,w3,w4,w5,w6,w7,w8⟩:=hw
 obtain⟨k',rfl⟩:∃k':Int,k'=k:=⟨k,rfl⟩
 obtain⟨r',rfl⟩:∃r':Int,r'=r:=⟨r,rfl⟩
 obtain⟨d1',rfl⟩:∃d1':Int,d1'=d1:=⟨d1,rfl⟩
 obtain⟨x',rfl⟩:∃x':Int,x'=x:=⟨x,rfl⟩
 obtain⟨k1',rfl⟩:∃k1':Int,k1'=k1:=⟨k1,rfl⟩
 obtain⟨nx',rfl⟩:∃nx':Int,nx'=nx:=⟨nx,rfl⟩
 obtain⟨el',rfl⟩:∃el':Int,el'=el:=⟨el,rfl⟩
 let ns:List Int:=[r',d1',x',k1',nx',el']
 have hns:∀y∈ns,GZ y:=by
  intro y hy
  simp only[ns,DM,HQ,or_false]at hy
  rcases hy with rfl | rfl | rfl | rfl | rfl | rfl<;>assumption
 have he:DF.enc (k',m,r',d1',x',k1',nx',el')=BY k'++(A4.enc m++ns.flatMap BY):=by
  show BY k'++(A4.enc m++(BY r'++(BY d1'++(BY x'++(BY k1'++(BY nx'++BY el'))))))=_
  simp[ns]
 rw[he]at hb ⊢
 refine T58 ?_
 unfold yk
 refine(St.start hW hL).box rfl fun H1 s1=>?_
 refine s1.ld (.tail _ hq) rfl (AA (v:=.ptr H.next 0) rfl (s1.ld (.head _) rfl ?_))
 refine s1.call (OF w1 s1.w (by simp only[Aa]at hb ⊢;omega)) fun H2 r2 s2 _=>?_
 refine s2.ld (.tail _ hq) rfl (AA (v:=.ptr H.next 1) rfl (s2.ld (.head _) rfl ?_))
 refine s2.call (o_ (d:=m) h2 w2 s2.w (by simp only[Aa]at hb ⊢;omega)) fun H3 r3 s3 hr3=>?_
 refine AA (v:=.ptr H.next 2) rfl (s3.ld (.head _) rfl ?_)
 refine AA (v:=.ptr H.next 3) rfl (s3.ld (.head _) rfl ?_)
 refine AA (v:=.ptr H.next 4) rfl (s3.ld (.head _) rfl ?_)
 refine AA (v:=.ptr H.next 5) rfl (s3.ld (.head _) rfl ?_)
 refine AA (v:=.ptr H.next 6) rfl (s3.ld (.head _) rfl ?_)
 refine AA (v:=.ptr H.next 7) rfl (s3.ld (.head _) rfl ?_)
 refine Ap (v:=.sl H3.next 0 6 (.ex 6)) (H':=H3.push (.cells (nc ns))) (by rfl) ?_
 refine AA (v:=.int .i64 6) rfl ?_
 have s4:=s3.push (c:=nc ns)
 let Iv:AV->AV->AV->AV->AH->Prop:=fun a b c d H'=>a=.ptr q 0/\b=.sl H3.next 0 6 (.ex 6)/\c=.int .i64 6/\∃(i rx:Nat),d=.int .i64 (i:Int)/\i<=6/\H.next<=rx /\
  St H p ro ((H3.next,nc ns)::(H.next,[.int .i64 k']++([v]++([.int .i64 r']++([.int .i64 d1']++([.int .i64 x']++([.int .i64 k1']++([.int .i64 nx']++[.int .i64 el'])))))))::L) H' (some rx) (bs++BY k'++A4.enc m++(ns.take i).flatMap BY)
 let μ:AV->AV->AV->AV->AH->Nat:=fun _ _ _ d _=>match d with
  | .int _ j=>(6-j).toNat
  | _=>0
 refine⟨Iv,μ,⟨rfl,rfl,rfl,0,r3,rfl,by omega,hr3,by simpa using s4⟩,?_⟩
 intro e H5 hI
 obtain⟨e1,e2,e3,i,rx,e4,hi,hrx,s5⟩:=(hI:Iv (e 1) (e 25) (e 26) (e 27) H5)
 show AB (.bin .lss (.cst (e 27)) (.cst (e 26))) _
 rw[e4,e3]
 refine AA (v:=.bool (decide ((i:Int)<6))) rfl (B3 (fun ht=>?_) (fun ht=>?_))
 ·have hlt:i<6:=by have:=of_decide_eq_true ht;omega
  rw[e2,e1]
  obtain⟨y,hy⟩:∃y,ns[i]?=some y:=⟨ns[i]'(by simpa[ns]using hlt),Ak _⟩
  have hc:AI (.indexAddrS 1 (.cst (.sl H3.next 0 6 (.ex 6))) (.cst (.int .i64 (i:Int)))) emp=some (.ptr H3.next i):=by
   have h1:(0:Int)<=(i:Int)/\(i:Int)<6:=by omega
   simp[AI,AF.ev,E0,h1]
  refine AA hc (s5.ld (.head _) (V3 hy) (s5.ld (.tail _ (.tail _ hq)) rfl ?_))
  have hsub:=Il ns (i+1)
  rw[DP hy]at hsub
  refine s5.call (OF (hns y (CU hy)) s5.w (by simp only[Aa]at hb hsub ⊢;omega)) fun H6 r6 s6 hr6=>?_
  refine AA (v:=.int .i64 ((i+1:Nat):Int)) (by
   show some (AV.int .i64 (IntKind.i64.wrap ((i:Int)+1)))=_
   rw[DN (by omega)];rfl) ?_
  refine⟨⟨rfl,rfl,rfl,i+1,r6,rfl,hlt,hr6,?_⟩,?_⟩
  ·have e:=Ao (bs++BY k'++A4.enc m) (List.flatMap BY (ns.take i)) (BY y)
   rw[DP hy,<- e];exact s6
  ·show((6:Int)-((i+1:Nat):Int)).toNat<μ (e 1) (e 25) (e 26) (e 27) H5
   rw[e4]
   show((6:Int)-((i+1:Nat):Int)).toNat<((6:Int)-(i:Int)).toNat
   omega
 ·have hge:i=6:=by have:=of_decide_eq_false ht;omega
  subst hge
  have:=s5.fin hrx
  rw[show ns.take 6=ns from rfl]at this
  simpa[Ao]using this
end
end Go.Proofs.YtlmkmpomgdbjhaaGreatDoor
namespace Go.AL
section
open Co
variable [BX] {P:Program}
theorem St.put {H0 H H':AH}{p r':Nat}{ro0 ro:Option Nat}{L:List (Nat × List AV)}{bs bs':List UInt8}(h:St H0 p ro0 L H ro bs) (q1:H.next<=r') (q2:Wr H' p (some r') bs') (q3:Gc H p ro H'):St H0 p ro0 L H' (some r') bs'/\H0.next<=r':=by
 have hn:=h.kw.nx
 refine⟨⟨q2,h.k.GI q3 q1,h.kw.trans (ro1:=ro) (fun r hr=>?_) q3,.inr ⟨r',rfl,by omega⟩⟩,by omega⟩
 rcases h.fr with e | ⟨r1,e1,e2⟩
 ·exact .inr (by rw[<- e,hr])
 ·rw[hr]at e1;cases e1;exact .inl e2
theorem W9:∀(l:List UInt8) (k:Nat) (x:UInt8),l[k]?=some x->w8 l / 256 ^ k % 256=x.toNat
 | [],k,x,h=>by simp at h
 | y::l,0,x,h=>by
  have e:y=x:=by simpa using h
  subst e
  have:=y.toNat_lt
  show(y.toNat+256*w8 l) / 256 ^ 0 % 256=_
  rw[Nat.pow_zero,Nat.div_one];omega
 | y::l,k+1,x,h=>by
  have h':l[k]?=some x:=by simpa using h
  have:=W9 l k x h'
  have hy:=y.toNat_lt
  show(y.toNat+256*w8 l) / 256 ^ (k+1) % 256=_
  rw[JE,Gy (256 ^ k) 256,<- JF]
  have e:(y.toNat+256*w8 l) / 256=w8 l:=by omega
  rw[e];exact this
theorem Z8 {n k:Nat}(hk:k<8):(n:Int).fdiv (2 ^ (min (8*k) 64))=((n / 256 ^ k:Nat):Int):=by
 have e:min (8*k) 64=8*k:=by omega
 have e2:(2:Nat) ^ (8*k)=256 ^ k:=by rw[Nat.pow_mul]
 rw[e,E6]
 ·have:((2:Int) ^ (8*k))=((256 ^ k:Nat):Int):=by
   rw[<- e2];simp
  rw[this];simp
 ·exact Int.le_of_lt (Int.pow_pos (by decide))
theorem XB (n:Nat):IntKind.u8.wrap (n:Int)=((n % 256:Nat):Int):=by
 simp[IntKind.wrap,IntKind.bits,IntKind.signed]
end
end Go.AL
namespace Go.Proofs.YtlmkmpomgdbjhaaGreatDoor
open Tryz
section
open Go Go.AL Go.AL.Co
variable [BX]
theorem xV {L:List (Nat × List AV)}{p:Nat}:Nv prog L p (.fn (.func 103) [.ptr p 0] []) BA:=by
 intro d c hR hw H ro bs hW hL hb
 obtain⟨hl,hcl,hcw⟩:=hR
 have hl:(No d).length=32:=hl
 have he:BA.enc d=No d:=rfl
 rw[he]at hb ⊢
 have hcl:c.length=4:=hcl
 refine ug ?_
 unfold qD
 refine(St.start hW hL).box (x:=.agg c) rfl fun H1 s1=>?_
 refine AX (v:=.agg c) (by
  obtain⟨_,_,_,h4⟩:=s1.k _ (.head _)
  simp[AZ,BC,AF.ev,AH.cells?,h4,apart,hcl]
  exact Ac (by omega)) ?_
 let Iv:AV->AV->AV->AH->Prop:=fun a b d' H'=>a=.ptr p 0/\b=.agg c/\∃(i:Nat) (rx:Option Nat),d'=.int .i64 (i:Int)/\i<=4/\(i=4->∃r,rx=some r/\H.next<=r)/\St H p ro ((H.next,c)::L) H' rx (bs++(No d).take (8*i))
 let μ:AV->AV->AV->AH->Nat:=fun _ _ d' _=>match d' with
  | .int _ j=>(4-j).toNat
  | _=>0
 refine⟨Iv,μ,⟨rfl,rfl,0,ro,rfl,by omega,by intro h;omega,by simpa using s1⟩,?_⟩
 intro e H2 hI
 obtain⟨e1,e2,i,rx,e3,hi,hfin,s2⟩:=(hI:Iv (e 0) (e 7) (e 8) H2)
 show AB (.bin .lss (.cst (e 8)) (.cst (I 4))) _
 rw[e3]
 refine AA (v:=.bool (decide ((i:Int)<4))) rfl (B3 (fun ht=>?_) (fun ht=>?_))
 ·have hlt:i<4:=by have:=of_decide_eq_true ht;omega
  rw[e2,e1]
  have hwd:=hcw i (by show i<32 / 8;omega)
  refine AA (v:=.int .u64 ((w8 (((No d).drop (8*i)).take 8):Nat):Int)) (by
   have h1:(0:Int)<=(i:Int)/\(i:Int)<((4:Nat):Int):=by omega
   simp only[AI,AF.ev,apart]
   rw[if_pos h1]
   simpa using hwd) ?_
  let Iw:AV->AV->AV->AV->AV->AH->Prop:=fun a w b d' k' H'=>a=.ptr p 0/\w=.int .u64 ((w8 (((No d).drop (8*i)).take 8):Nat):Int)/\b=.agg c/\d'=.int .i64 (i:Int)/\∃(k:Nat) (ry:Option Nat),k'=.int .i64 (k:Int)/\k<=8/\(k=8->∃r,ry=some r/\H.next<=r) /\
   St H p ro ((H.next,c)::L) H' ry (bs++(No d).take (8*i+k))
  let μ2:AV->AV->AV->AV->AV->AH->Nat:=fun _ _ _ _ k' _=>match k' with
   | .int _ j=>(8-j).toNat
   | _=>0
  refine⟨Iw,μ2,⟨rfl,rfl,rfl,rfl,0,rx,rfl,by omega,by intro h;omega,by simpa using s2⟩,?_⟩
  intro e' H3 hJ
  obtain⟨f1,f2,f3,f4,k,ry,f5,hk,hfk,s3⟩:=(hJ:Iw (e' 0) (e' 5) (e' 7) (e' 8) (e' 11) H3)
  show AB (.bin .lss (.cst (e' 11)) (.cst (I 8))) _
  rw[f5]
  refine AA (v:=.bool (decide ((k:Int)<8))) rfl (B3 (fun ht2=>?_) (fun ht2=>?_))
  ·have hk8:k<8:=by have:=of_decide_eq_true ht2;omega
   rw[f1,f2,f3,f4]
   refine AA (v:=.ptr p 0) rfl (AA (v:=.ptr p 0) rfl (Wz s3.w ?_))
   refine AA (v:=.int .i64 ((8*k:Nat):Int)) (by
    show some (AV.int .i64 (IntKind.i64.wrap ((8:Int)*(k:Int))))=_
    rw[DN (by omega)];simp) ?_
   obtain⟨x,hx⟩:∃x,(No d)[8*i+k]?=some x:=⟨(No d)[8*i+k]'(by omega),Ak _⟩
   have hxc:(((No d).drop (8*i)).take 8)[k]?=some x:=by
    rw[EE,if_pos hk8,DX];exact hx
   refine AA (v:=.int .u64 ((w8 (((No d).drop (8*i)).take 8) / 256 ^ k:Nat):Int)) (by
    have h1:(0:Int)<=((8*k:Nat):Int):=by omega
    simp only[AI,AF.ev,Dl,h1,if_true,IntKind.bits,Cp]
    rw[Z8 hk8]) ?_
   refine AA (v:=bv x) (by
    show some (AV.int .u8 (IntKind.u8.wrap ((w8 (((No d).drop (8*i)).take 8) / 256 ^ k:Nat):Int)))=_
    rw[XB,W9 _ k x hxc];rfl) ?_
   refine Wu (c:=[bv x]) (f:=fun r=>.sl r 0 1 (.ex 1)) (by simp[FQ,B5,AF.ev,AV.cellsOf,bv,N]) ?_
   have htk:(No d).take (8*i+(k+1))=(No d).take (8*i+k)++[x]:=by
    rw[<- Fs,DZ,hx];rfl
   refine Vf s3.w (by
    have:((No d).take (8*i+k)).length<=(No d).length:=by rw[BI];omega
    simp only[Aa]at hb ⊢
    show _<OH;omega) fun H4 r4 q1 q2 q3=>?_
   obtain⟨s4,hr4⟩:=s3.put q1 q2 q3
   refine AA (v:=.int .i64 ((k+1:Nat):Int)) (by
    show some (AV.int .i64 (IntKind.i64.wrap ((k:Int)+1)))=_
    rw[DN (by omega)];rfl) ?_
   refine⟨⟨rfl,rfl,rfl,rfl,k+1,some r4,rfl,hk8,fun _=>⟨r4,rfl,hr4⟩,?_⟩,?_⟩
   ·rw[htk,<- Ao];exact s4
   ·show((8:Int)-((k+1:Nat):Int)).toNat<μ2 (e' 0) (e' 5) (e' 7) (e' 8) (e' 11) H3
    rw[f5]
    show((8:Int)-((k+1:Nat):Int)).toNat<((8:Int)-(k:Int)).toNat
    omega
  ·have hk8:k=8:=by have:=of_decide_eq_false ht2;omega
   subst hk8
   rw[f1,f3,f4]
   refine AA (v:=.int .i64 ((i+1:Nat):Int)) (by
    show some (AV.int .i64 (IntKind.i64.wrap ((i:Int)+1)))=_
    rw[DN (by omega)];rfl) ?_
   refine⟨⟨rfl,rfl,i+1,ry,rfl,hlt,fun _=>hfk rfl,?_⟩,?_⟩
   ·have e8:8*(i+1)=8*i+8:=by omega
    rw[e8];exact s3
   ·show((4:Int)-((i+1:Nat):Int)).toNat<μ (e 0) (e 7) (e 8) H2
    rw[e3]
    show((4:Int)-((i+1:Nat):Int)).toNat<((4:Int)-(i:Int)).toNat
    omega
 ·have h4:i=4:=by have:=of_decide_eq_false ht;omega
  subst h4
  obtain⟨r,hr1,hr2⟩:=hfin rfl
  subst hr1
  have:=s2.fin hr2
  rw[Ac (by omega)]at this
  exact this
end
end Go.Proofs.YtlmkmpomgdbjhaaGreatDoor
namespace Go.AL
section
open Co
variable [BX] {P:Program}
theorem DH {t:Ty}{l:(Ty.list t).D}{c:List AV}(h:RC (.list t) l c):∃v,c=[v]:=by obtain⟨v,_,h,_⟩:=h;exact⟨v,h⟩
theorem St.Hc {H0 H:AH}{p:Nat}{ro0 ro:Option Nat}{L:List (Nat × List AV)}{bs:List UInt8}{q o k:Nat}{c:List AV}{K:AV->Prop}(h:St H0 p ro0 L H ro bs) (hm:(q,c)∈L) (hx:o+k<=c.length) (hK:K (.agg ((c.drop o).take k))):AE (.load (some k) (.cst (.ptr q o))) H K:=by
 obtain⟨_,_,_,h4⟩:=h.k _ hm
 exact AX (v:=.agg ((c.drop o).take k)) (by simp[AZ,BC,AF.ev,AH.cells?,h4,apart,hx]) hK
theorem St.copy {H0 H:AH}{p:Nat}{ro0 ro:Option Nat}{L:List (Nat × List AV)}{bs:List UInt8}{k:Nat}{z c:List AV}{K:AV->AH->Prop}(h:St H0 p ro0 L H ro bs) (hz:z.length=k) (hc:c.length=k)
  (hK:∀H',St H0 p ro0 ((H.next,c)::L) H' ro bs->K (.ptr H.next 0) H'):AQ (.alloc z) H fun v15 h15=>AQ (.store k (.cst v15) (.cst (.agg c))) h15 fun _ h16=>K v15 h16:=by
 refine Ap (v:=.ptr H.next 0) (H':=H.push (.cells z)) rfl ?_
 have hs:As z 0 c=c:=by rw[DB (by omega)];simp[hc,hz]
 refine Ap (v:=.unk) (H':=(H.push (.cells z)).set H.next (.cells c)) (by simp[BL,AF.ev,AH.cells?,AH.Af,AV.cellsOf,hs,hc,hz]) (hK _ ?_)
 have e:(H.push (.cells z)).set H.next (.cells c)=H.push (.cells c):=by
  refine AH.ext (fun r=>?_) rfl rfl
  rw[AH.AY,AH.Af,AH.Af]
  by_cases hr:r=H.next<;>simp[hr]
 rw[e]
 exact h.push
end
end Go.AL
namespace Go.Proofs.YtlmkmpomgdbjhaaGreatDoor
open Tryz
section
open Go Go.AL Go.AL.Co
variable [BX]
set_option maxHeartbeats 4000000 in
set_option maxRecDepth 4000 in
theorem P19 {H:AH}{p:Nat}{ro:Option Nat}{bs:List UInt8}{d:FF.D}{c:List AV}(hR:RC FF d c) (hw:FF.wf d) (hW:Wr H p ro bs) (hb:(bs++FF.enc d).length<OH) :
  AP prog 54 [.ptr p 0,.agg c] H (DU H p ro (bs++FF.enc d)):=by
 obtain⟨kd,t,u,dc,dn,da,ra,rc,mc,mm,mf,me,⟨qb,qd,qt,qo,qz⟩,nn,nt⟩:=d
 obtain⟨c1,_,rfl,h1,c2,_,rfl,h2,c3,_,rfl,h3,c4,_,rfl,h4,c5,_,rfl,h5,c6,_,rfl,h6,c7,_,rfl,h7,c8,_,rfl,h8,c9,_,rfl,h9,c10,_,rfl,h10,c11,_,rfl,h11,c12,_,rfl,h12,c13,_,rfl,h13,c14,c15,rfl,h14,h15⟩:=hR
 obtain⟨q1,_,rfl,g1,q2,_,rfl,g2,q3,_,rfl,g3,q4,q5,rfl,g4,g5⟩:=h13
 obtain⟨v2,rfl⟩:=DH h2
 obtain⟨v3,rfl⟩:=DH h3
 obtain⟨v4,rfl⟩:=DH h4
 obtain⟨v5,rfl⟩:=DH h5
 obtain⟨v6,rfl⟩:=DH h6
 obtain⟨v7,rfl⟩:=DH h7
 obtain⟨v9,rfl⟩:=DH h9
 obtain⟨v10,rfl⟩:=DH h10
 obtain⟨v11,rfl⟩:=DH h11
 obtain⟨v12,rfl⟩:=DH h12
 have h1:c1=[.int .i64 kd]:=h1
 have h8:c8=[.int .i64 rc]:=h8
 have g1:q1=[.int .i64 qb]:=g1
 have g2:q2=[.int .i64 qd]:=g2
 have g3:q3=[.int .i64 qt]:=g3
 have g4:q4=[.int .i64 qo]:=g4
 have g5:q5=[.bool qz]:=g5
 have h14:c14=[.int .i64 nn]:=h14
 have h15:c15=[.bool nt]:=h15
 subst h1 h8 g1 g2 g3 g4 g5 h14 h15
 obtain⟨w1,w2,w3,w4,w5,w6,w7,w8,w9,w10,w11,w12,⟨u1,u2,u3,u4,u5⟩,w14,w15⟩:=hw
 obtain⟨qb',rfl⟩:∃x:Int,x=qb:=⟨qb,rfl⟩
 obtain⟨qd',rfl⟩:∃x:Int,x=qd:=⟨qd,rfl⟩
 obtain⟨qt',rfl⟩:∃x:Int,x=qt:=⟨qt,rfl⟩
 obtain⟨qo',rfl⟩:∃x:Int,x=qo:=⟨qo,rfl⟩
 let ns:List Int:=[qb',qd',qt',qo']
 have hns:∀y∈ns,GZ y:=by
  intro y hy
  simp only[ns,DM,HQ,or_false]at hy
  rcases hy with rfl | rfl | rfl | rfl<;>assumption
 have he:FF.enc (kd,t,u,dc,dn,da,ra,rc,mc,mm,mf,me,(qb',qd',qt',qo',qz),nn,nt) =
   (BY kd:List UInt8)++((B9.enc t:List UInt8)++((B9.enc u:List UInt8)++(((Ty.list BA).enc dc:List UInt8)++(((Ty.list A4).enc dn:List UInt8)++(((Ty.list .bool).enc da:List UInt8)++((A4.enc ra:List UInt8)++((BY rc:List UInt8)++(((Ty.list BA).enc mc:List UInt8)++(((Ty.list (.list CA)).enc mm:List UInt8)++(((Ty.list .bool).enc mf:List UInt8)++(((Ty.list Bo).enc me:List UInt8)++((ns.flatMap BY:List UInt8)++((Ty.bool.enc qz:List UInt8)++((BY nn:List UInt8)++((Ty.bool.enc nt:List UInt8)))))))))))))))):=by
  show(BY kd:List UInt8)++((B9.enc t:List UInt8)++((B9.enc u:List UInt8)++(((Ty.list BA).enc dc:List UInt8)++(((Ty.list A4).enc dn:List UInt8)++(((Ty.list .bool).enc da:List UInt8)++((A4.enc ra:List UInt8)++((BY rc:List UInt8)++(((Ty.list BA).enc mc:List UInt8)++(((Ty.list (.list CA)).enc mm:List UInt8)++(((Ty.list .bool).enc mf:List UInt8)++(((Ty.list Bo).enc me:List UInt8)++((BY qb'++(BY qd'++(BY qt'++(BY qo'++(Ty.bool.enc qz:List UInt8)))))++((BY nn:List UInt8)++((Ty.bool.enc nt:List UInt8)))))))))))))))=_
  simp[ns,Ao]
 rw[he]at hb ⊢
 have bd:∀{a b:List UInt8},a.length<=b.length->b.length<OH->a.length<OH:=fun h1 h2=>B1 h1 h2
 refine T54 ?_
 unfold yn
 refine(St.start (L:=[]) hW (fun _ h=>by cases h)).box (x:=.ptr p 0) rfl fun H1 s1=>?_
 refine s1.box (x:=.agg _) rfl fun H2 s2=>?_
 refine AA (v:=.ptr H1.next 0) rfl (s2.Hc (.head _) (by simp) ?_)
 refine s2.copy rfl (by simp) fun H3 s3=>?_
 refine s3.ld (.tail _ (.tail _ (.head _))) rfl (AA (v:=.ptr H2.next 0) rfl (s3.ld (o:=0) (.head _) rfl ?_))
 refine s3.call (OF w1 s3.w (by simp only[Aa]at hb ⊢;omega)) fun H4 r4 s4 hr4=>?_
 refine s4.ld (.tail _ (.tail _ (.head _))) rfl (AA (v:=.ptr H2.next 1) rfl (s4.ld (o:=1) (.head _) rfl ?_))
 refine s4.call (rj (d:=t) h2 w2 s4.w (by simp only[Aa]at hb ⊢;omega)) fun H5 r5 s5 hr5=>?_
 refine s5.ld (.tail _ (.tail _ (.head _))) rfl (AA (v:=.ptr H2.next 2) rfl (s5.ld (o:=2) (.head _) rfl ?_))
 refine s5.call (rj (d:=u) h3 w3 s5.w (by simp only[Aa]at hb ⊢;omega)) fun H6 r6 s6 hr6=>?_
 refine s6.ld (.tail _ (.tail _ (.head _))) rfl (AA (v:=.ptr H2.next 3) rfl (AA (v:=.ptr H2.next 3) rfl (s6.ld (o:=3) (.head _) rfl (s6.ld (.tail _ (.tail _ (.head _))) rfl ?_))))
 refine s6.call (ow (Eo (t:=BA) OF rfl h4 w4 s6.w s6.k xV (by simp only[Aa]at hb ⊢;omega))) fun H7 r7 s7 hr7=>?_
 refine s7.ld (.tail _ (.tail _ (.head _))) rfl (AA (v:=.ptr H2.next 3) rfl (AA (v:=.ptr H2.next 4) rfl (s7.ld (o:=4) (.head _) rfl (s7.ld (.tail _ (.tail _ (.head _))) rfl ?_))))
 refine s7.call (xT (Ep (t:=A4) OF rfl h5 w5 s7.w s7.k (o_.step _ p) (by simp only[Aa]at hb ⊢;omega))) fun H8 r8 s8 hr8=>?_
 refine s8.ld (.tail _ (.tail _ (.head _))) rfl (AA (v:=.ptr H2.next 3) rfl (AA (v:=.ptr H2.next 5) rfl (s8.ld (o:=5) (.head _) rfl (s8.ld (.tail _ (.tail _ (.head _))) rfl ?_))))
 refine s8.call (ov (Ep (t:=.bool) OF rfl h6 w6 s8.w s8.k (o9.step _ p) (by simp only[Aa]at hb ⊢;omega))) fun H9 r9 s9 hr9=>?_
 refine s9.ld (.tail _ (.tail _ (.head _))) rfl (AA (v:=.ptr H2.next 6) rfl (AA (v:=.ptr H2.next 6) rfl (s9.ld (o:=6) (.head _) rfl ?_)))
 refine s9.call (o_ (d:=ra) h7 w7 s9.w (by simp only[Aa]at hb ⊢;omega)) fun H10 r10 s10 hr10=>?_
 refine s10.ld (.tail _ (.tail _ (.head _))) rfl (AA (v:=.ptr H2.next 6) rfl (AA (v:=.ptr H2.next 7) rfl (s10.ld (o:=7) (.head _) rfl ?_)))
 refine s10.call (OF w8 s10.w (by simp only[Aa]at hb ⊢;omega)) fun H11 xB s11 hr11=>?_
 refine s11.ld (.tail _ (.tail _ (.head _))) rfl (AA (v:=.ptr H2.next 8) rfl (AA (v:=.ptr H2.next 8) rfl (s11.ld (o:=8) (.head _) rfl (s11.ld (.tail _ (.tail _ (.head _))) rfl ?_))))
 refine s11.call (ow (Eo (t:=BA) OF rfl h9 w9 s11.w s11.k xV (by simp only[Aa]at hb ⊢;omega))) fun H12 r12 s12 hr12=>?_
 refine s12.ld (.tail _ (.tail _ (.head _))) rfl (AA (v:=.ptr H2.next 8) rfl (AA (v:=.ptr H2.next 9) rfl (s12.ld (o:=9) (.head _) rfl ?_)))
 refine s12.call (ue (Ep (t:=.list CA) OF rfl h10 w10 s12.w s12.k (S51 (.tail _ (.tail _ (.head _)))) (by simp only[Aa]at hb ⊢;omega))) fun H13 xA s13 hr13=>?_
 refine s13.ld (.tail _ (.tail _ (.head _))) rfl (AA (v:=.ptr H2.next 8) rfl (AA (v:=.ptr H2.next 10) rfl (s13.ld (o:=10) (.head _) rfl (s13.ld (.tail _ (.tail _ (.head _))) rfl ?_))))
 refine s13.call (ov (Ep (t:=.bool) OF rfl h11 w11 s13.w s13.k (o9.step _ p) (by simp only[Aa]at hb ⊢;omega))) fun H14 r14 s14 hr14=>?_
 refine s14.ld (.tail _ (.tail _ (.head _))) rfl (AA (v:=.ptr H2.next 8) rfl (AA (v:=.ptr H2.next 11) rfl (s14.ld (o:=11) (.head _) rfl ?_)))
 refine s14.call (uX (Ep (t:=Bo) OF rfl h12 w12 s14.w s14.k (S58 (.tail _ (.tail _ (.head _)))) (by simp only[Aa]at hb ⊢;omega))) fun H15 r15 s15 hr15=>?_
 refine AA (v:=.ptr H2.next 12) rfl (AA (v:=.ptr H2.next 12) rfl (s15.ld (o:=12) (.head _) rfl ?_))
 refine AA (v:=.ptr H2.next 12) rfl (AA (v:=.ptr H2.next 13) rfl (s15.ld (o:=13) (.head _) rfl ?_))
 refine AA (v:=.ptr H2.next 12) rfl (AA (v:=.ptr H2.next 14) rfl (s15.ld (o:=14) (.head _) rfl ?_))
 refine AA (v:=.ptr H2.next 12) rfl (AA (v:=.ptr H2.next 15) rfl (s15.ld (o:=15) (.head _) rfl ?_))
 refine Ap (v:=.sl H15.next 0 4 (.ex 4)) (H':=H15.push (.cells (nc ns))) (by rfl) ?_
 refine AA (v:=.int .i64 4) rfl ?_
 have s16:=s15.push (c:=nc ns)
 obtain⟨B,hB⟩:∃B:List UInt8,B=((((((((((((bs++(BY kd:List UInt8))++(B9.enc t:List UInt8))++(B9.enc u:List UInt8))++((Ty.list BA).enc dc:List UInt8))++((Ty.list A4).enc dn:List UInt8))++((Ty.list .bool).enc da:List UInt8))++(A4.enc ra:List UInt8))++(BY rc:List UInt8))++((Ty.list BA).enc mc:List UInt8))++((Ty.list (.list CA)).enc mm:List UInt8))++((Ty.list .bool).enc mf:List UInt8))++((Ty.list Bo).enc me:List UInt8)):=⟨_,rfl⟩
 have s16:St H p ro _ _ (some r15) B:=hB▸s16
 have hbB:(B++((ns.flatMap BY:List UInt8)++((Ty.bool.enc qz:List UInt8)++((BY nn:List UInt8)++(Ty.bool.enc nt:List UInt8))))).length<OH:=by
  rw[hB];simpa only[Ao]using hb
 have hfin:bs++((BY kd:List UInt8)++((B9.enc t:List UInt8)++((B9.enc u:List UInt8)++(((Ty.list BA).enc dc:List UInt8)++(((Ty.list A4).enc dn:List UInt8)++(((Ty.list .bool).enc da:List UInt8)++((A4.enc ra:List UInt8)++((BY rc:List UInt8)++(((Ty.list BA).enc mc:List UInt8)++(((Ty.list (.list CA)).enc mm:List UInt8)++(((Ty.list .bool).enc mf:List UInt8)++(((Ty.list Bo).enc me:List UInt8)++((ns.flatMap BY:List UInt8)++((Ty.bool.enc qz:List UInt8)++((BY nn:List UInt8)++((Ty.bool.enc nt:List UInt8)))))))))))))))))=B++((ns.flatMap BY:List UInt8)++((Ty.bool.enc qz:List UInt8)++((BY nn:List UInt8)++(Ty.bool.enc nt:List UInt8)))):=by
  rw[hB];simp only[Ao]
 rw[hfin]
 clear hb hfin hB
 obtain⟨LL,s16,hm0,hm1,hm2,hm3⟩:∃LL,St H p ro LL (H15.push (.cells (nc ns))) (some r15) B/\(H.next,[AV.ptr p 0])∈LL/\(H1.next,([AV.int .i64 kd]++([v2]++([v3]++([v4]++([v5]++([v6]++([v7]++([AV.int .i64 rc]++([v9]++([v10]++([v11]++([v12]++(([AV.int .i64 qb']++([AV.int .i64 qd']++([AV.int .i64 qt']++([AV.int .i64 qo']++[AV.bool qz]))))++([AV.int .i64 nn]++[AV.bool nt])))))))))))))))∈LL/\(H2.next,((([AV.int .i64 kd]++([v2]++([v3]++([v4]++([v5]++([v6]++([v7]++([AV.int .i64 rc]++([v9]++([v10]++([v11]++([v12]++(([AV.int .i64 qb']++([AV.int .i64 qd']++([AV.int .i64 qt']++([AV.int .i64 qo']++[AV.bool qz]))))++([AV.int .i64 nn]++[AV.bool nt]))))))))))))))).drop 0).take 18)∈LL/\(H15.next,nc ns)∈LL:=
  ⟨_,s16,List.Mem.tail _ (List.Mem.tail _ (List.Mem.tail _ (List.Mem.head _))),List.Mem.tail _ (List.Mem.tail _ (List.Mem.head _)),List.Mem.tail _ (List.Mem.head _),List.Mem.head _⟩
 let Iv:AV->AV->AV->AV->AV->AV->AH->Prop:=fun a b c s l d H'=>a=.ptr H.next 0/\b=.ptr H1.next 0/\c=.ptr H2.next 0/\s=.sl H15.next 0 4 (.ex 4)/\l=.int .i64 4/\∃(i rx:Nat),d=.int .i64 (i:Int)/\i<=4/\H.next<=rx /\
  St H p ro LL H' (some rx) (B++(ns.take i).flatMap BY)
 let μ:AV->AV->AV->AV->AV->AV->AH->Nat:=fun _ _ _ _ _ d _=>match d with
  | .int _ j=>(4-j).toNat
  | _=>0
 refine⟨Iv,μ,⟨rfl,rfl,rfl,rfl,rfl,0,r15,rfl,by omega,hr15,by simpa using s16⟩,?_⟩
 intro e H5 hI
 obtain⟨e1,e2,e3,e4,e5,i,rx,e6,hi,hrx,s5⟩:=(hI:Iv (e 2) (e 3) (e 4) (e 90) (e 91) (e 92) H5)
 show AB (.bin .lss (.cst (e 92)) (.cst (e 91))) _
 rw[e6,e5]
 refine AA (v:=.bool (decide ((i:Int)<4))) rfl (B3 (fun ht=>?_) (fun ht=>?_))
 ·have hlt:i<4:=by have:=of_decide_eq_true ht;omega
  rw[e4,e1,e2,e3]
  obtain⟨y,hy⟩:∃y,ns[i]?=some y:=⟨ns[i]'(by simpa[ns]using hlt),Ak _⟩
  have hc:AI (.indexAddrS 1 (.cst (.sl H15.next 0 4 (.ex 4))) (.cst (.int .i64 (i:Int)))) emp=some (.ptr H15.next i):=by
   have h1:(0:Int)<=(i:Int)/\(i:Int)<((4:Nat):Int):=by omega
   simp only[AI,AF.ev,E0]
   rw[if_pos h1];simp
  refine AA hc (s5.ld hm3 (V3 hy) (s5.ld hm0 rfl ?_))
  have hsub:=Il ns (i+1)
  rw[DP hy]at hsub
  refine s5.call (OF (hns y (CU hy)) s5.w (by simp only[Aa]at hbB hsub ⊢;omega)) fun H6 r6 s6 hr6=>?_
  refine AA (v:=.int .i64 ((i+1:Nat):Int)) (by
   show some (AV.int .i64 (IntKind.i64.wrap ((i:Int)+1)))=_
   rw[DN (by omega)];rfl) ?_
  refine⟨⟨rfl,rfl,rfl,rfl,rfl,i+1,r6,rfl,hlt,hr6,?_⟩,?_⟩
  ·rw[DP hy,<- Ao];exact s6
  ·show((4:Int)-((i+1:Nat):Int)).toNat<μ (e 2) (e 3) (e 4) (e 90) (e 91) (e 92) H5
   rw[e6]
   show((4:Int)-((i+1:Nat):Int)).toNat<((4:Int)-(i:Int)).toNat
   omega
 ·have hge:i=4:=by have:=of_decide_eq_false ht;omega
  subst hge
  rw[show ns.take 4=ns from rfl]at s5
  rw[e1,e2,e3]
  refine s5.ld hm0 rfl (AA (v:=.ptr H2.next 12) rfl (AA (v:=.ptr H2.next 16) rfl (s5.ld (o:=16) hm2 rfl ?_)))
  refine s5.call (o9 (d:=qz) rfl trivial s5.w (by simp only[Aa]at hbB ⊢;omega)) fun H6 r6 s6 hr6=>?_
  refine s6.ld hm0 rfl (AA (v:=.ptr H2.next 17) rfl (s6.ld (o:=17) hm2 rfl ?_))
  refine s6.call (OF w14 s6.w (by simp only[Aa]at hbB ⊢;omega)) fun H7 r7 s7 hr7=>?_
  refine s7.ld hm0 rfl (AA (v:=.ptr H1.next 18) rfl (s7.ld (o:=18) hm1 rfl ?_))
  refine s7.call (o9 (d:=nt) rfl trivial s7.w (by simp only[Aa]at hbB ⊢;omega)) fun H8 r8 s8 hr8=>?_
  have:=s8.fin hr8
  simpa only[Ao]using this
end
section
open Go Go.AL Go.AL.Co
variable [BX]
set_option maxHeartbeats 4000000 in
set_option maxRecDepth 4000 in
theorem S17 {L:List (Nat × List AV)}{p q:Nat}(hq:(q,[AV.ptr p 0])∈L):Nv prog L p (.fn (.func 52) [] [.ptr q 0]) EN:=by
 intro d c hR hw H ro bs hW hL hb
 obtain⟨ru,l,r,x,li,us,st,rows,gr⟩:=d
 obtain⟨c1,_,rfl,h1,c2,_,rfl,h2,c3,_,rfl,h3,c4,_,rfl,h4,cL,_,rfl,h5,c6,_,rfl,h6,c7,_,rfl,h7,c8,c9,rfl,h8,h9⟩:=hR
 obtain⟨v6,rfl⟩:=DH h6
 obtain⟨v7,rfl⟩:=DH h7
 obtain⟨v8,rfl⟩:=DH h8
 obtain⟨v9,rfl⟩:=DH h9
 have hcl:cL.length=19:=GY FF _ _ h5
 have h1:c1=[.int .i64 ru]:=h1
 have h2:c2=[.int .i64 l]:=h2
 have h3:c3=[.int .i64 r]:=h3
 have h4:c4=[.int .i64 x]:=h4
 subst h1 h2 h3 h4
 obtain⟨w1,w2,w3,w4,w5,w6,w7,w8,w9⟩:=hw
 obtain⟨ru',rfl⟩:∃y:Int,y=ru:=⟨ru,rfl⟩
 obtain⟨l',rfl⟩:∃y:Int,y=l:=⟨l,rfl⟩
 obtain⟨rr',rfl⟩:∃y:Int,y=r:=⟨r,rfl⟩
 obtain⟨x',rfl⟩:∃y:Int,y=x:=⟨x,rfl⟩
 let ns:List Int:=[ru',l',rr',x']
 have hns:∀y∈ns,GZ y:=by
  intro y hy
  simp only[ns,DM,HQ,or_false]at hy
  rcases hy with rfl | rfl | rfl | rfl<;>assumption
 have he:EN.enc (ru',l',rr',x',li,us,st,rows,gr)=(ns.flatMap BY:List UInt8)++((FF.enc li:List UInt8)++((A4.enc us:List UInt8)++(((Ty.list A4).enc st:List UInt8)++(((Ty.list DF).enc rows:List UInt8)++((Ty.list FU).enc gr:List UInt8))))):=by
  show BY ru'++(BY l'++(BY rr'++(BY x'++((FF.enc li:List UInt8)++((A4.enc us:List UInt8)++(((Ty.list A4).enc st:List UInt8)++(((Ty.list DF).enc rows:List UInt8)++((Ty.list FU).enc gr:List UInt8))))))))=_
  simp[ns,Ao]
 rw[he]at hb ⊢
 refine T52 ?_
 unfold yo
 refine(St.start hW hL).box (x:=.agg _) rfl fun H1 s1=>?_
 refine AA (v:=.ptr H.next 0) rfl (s1.ld (o:=0) (.head _) rfl ?_)
 refine AA (v:=.ptr H.next 1) rfl (s1.ld (o:=1) (.head _) rfl ?_)
 refine AA (v:=.ptr H.next 2) rfl (s1.ld (o:=2) (.head _) rfl ?_)
 refine AA (v:=.ptr H.next 3) rfl (s1.ld (o:=3) (.head _) rfl ?_)
 refine Ap (v:=.sl H1.next 0 4 (.ex 4)) (H':=H1.push (.cells (nc ns))) (by rfl) ?_
 refine AA (v:=.int .i64 4) rfl ?_
 have s2:=s1.push (c:=nc ns)
 obtain⟨LL,s2,hm0,hm1,hm2⟩:∃LL,St H p ro LL (H1.push (.cells (nc ns))) ro bs/\(q,[AV.ptr p 0])∈LL/\(H.next,[AV.int .i64 ru']++([AV.int .i64 l']++([AV.int .i64 rr']++([AV.int .i64 x']++(cL++([v6]++([v7]++([v8]++[v9]))))))))∈LL/\(H1.next,nc ns)∈LL:=
  ⟨_,s2,List.Mem.tail _ (List.Mem.tail _ hq),List.Mem.tail _ (List.Mem.head _),List.Mem.head _⟩
 let Iv:AV->AV->AV->AV->AV->AH->Prop:=fun a b s l d H'=>a=.ptr q 0/\b=.ptr H.next 0/\s=.sl H1.next 0 4 (.ex 4)/\l=.int .i64 4/\∃(i:Nat) (rx:Option Nat),d=.int .i64 (i:Int)/\i<=4/\St H p ro LL H' rx (bs++(ns.take i).flatMap BY)
 let μ:AV->AV->AV->AV->AV->AH->Nat:=fun _ _ _ _ d _=>match d with
  | .int _ j=>(4-j).toNat
  | _=>0
 refine⟨Iv,μ,⟨rfl,rfl,rfl,rfl,0,ro,rfl,by omega,by simpa using s2⟩,?_⟩
 intro e H5 hI
 obtain⟨e1,e2,e3,e4,i,rx,e5,hi,s5⟩:=(hI:Iv (e 1) (e 2) (e 13) (e 14) (e 15) H5)
 show AB (.bin .lss (.cst (e 15)) (.cst (e 14))) _
 rw[e5,e4]
 refine AA (v:=.bool (decide ((i:Int)<4))) rfl (B3 (fun ht=>?_) (fun ht=>?_))
 ·have hlt:i<4:=by have:=of_decide_eq_true ht;omega
  rw[e1,e2,e3]
  obtain⟨y,hy⟩:∃y,ns[i]?=some y:=⟨ns[i]'(by simpa[ns]using hlt),Ak _⟩
  have hc:AI (.indexAddrS 1 (.cst (.sl H1.next 0 4 (.ex 4))) (.cst (.int .i64 (i:Int)))) emp=some (.ptr H1.next i):=by
   have h1:(0:Int)<=(i:Int)/\(i:Int)<((4:Nat):Int):=by omega
   simp only[AI,AF.ev,E0]
   rw[if_pos h1];simp
  refine AA hc (s5.ld hm2 (V3 hy) (s5.ld hm0 rfl ?_))
  have hsub:=Il ns (i+1)
  rw[DP hy]at hsub
  refine s5.call (OF (hns y (CU hy)) s5.w (by simp only[Aa]at hb hsub ⊢;omega)) fun H6 r6 s6 hr6=>?_
  refine AA (v:=.int .i64 ((i+1:Nat):Int)) (by
   show some (AV.int .i64 (IntKind.i64.wrap ((i:Int)+1)))=_
   rw[DN (by omega)];rfl) ?_
  refine⟨⟨rfl,rfl,rfl,rfl,i+1,some r6,rfl,hlt,?_⟩,?_⟩
  ·rw[DP hy,<- Ao];exact s6
  ·show((4:Int)-((i+1:Nat):Int)).toNat<μ (e 1) (e 2) (e 13) (e 14) (e 15) H5
   rw[e5]
   show((4:Int)-((i+1:Nat):Int)).toNat<((4:Int)-(i:Int)).toNat
   omega
 ·have hge:i=4:=by have:=of_decide_eq_false ht;omega
  subst hge
  rw[show ns.take 4=ns from rfl]at s5
  rw[e1,e2]
  refine s5.ld hm0 rfl (AA (v:=.ptr H.next 4) rfl (s5.Hc (o:=4) (k:=19) hm1 (by simp[hcl]) ?_))
  have hcL:(([AV.int .i64 ru']++([AV.int .i64 l']++([AV.int .i64 rr']++([AV.int .i64 x']++(cL++([v6]++([v7]++([v8]++[v9])))))))).drop 4).take 19=cL:=by
   simp[<- hcl]
  rw[hcL]
  refine s5.call (P19 h5 w5 s5.w (by simp only[Aa]at hb ⊢;omega)) fun H6 r6 s6 hr6=>?_
  refine s6.ld hm0 rfl (AA (v:=.ptr H.next 23) rfl (s6.ld (o:=23) (x:=v6) hm1 (by simp[JG,hcl]) ?_))
  refine s6.call (o_ (d:=us) h6 w6 s6.w (by simp only[Aa]at hb ⊢;omega)) fun H7 r7 s7 hr7=>?_
  refine s7.ld hm0 rfl (AA (v:=.ptr H.next 24) rfl (s7.ld (o:=24) (x:=v7) hm1 (by simp[JG,hcl]) (s7.ld hm0 rfl ?_)))
  refine s7.call (xT (Ep (t:=A4) OF rfl h7 w7 s7.w s7.k (o_.step _ p) (by simp only[Aa]at hb ⊢;omega))) fun H8 r8 s8 hr8=>?_
  refine s8.ld hm0 rfl (AA (v:=.ptr H.next 25) rfl (s8.ld (o:=25) (x:=v8) hm1 (by simp[JG,hcl]) ?_))
  refine s8.call (T57 (Eo (t:=DF) OF rfl h8 w8 s8.w s8.k (rh hm0) (by simp only[Aa]at hb ⊢;omega))) fun H9 r9 s9 hr9=>?_
  refine s9.ld hm0 rfl (AA (v:=.ptr H.next 26) rfl (s9.ld (o:=26) (x:=v9) hm1 (by simp[JG,hcl]) ?_))
  refine s9.call (T59 (Eo (t:=FU) OF rfl h9 w9 s9.w s9.k (vQ hm0) (by simp only[Aa]at hb ⊢;omega))) fun H10 r10 s10 hr10=>?_
  have:=s10.fin hr10
  simpa only[Ao]using this
end
section
open Go Go.AL Go.AL.Co
variable [BX]
def EPost (H:AH) (bs:List UInt8):Am->AH->Prop:=fun o H'=>∃r,H.next<=r/\r<H'.next/\o=.ret (.sl r 0 bs.length (.op 1))/\H'.get r=some (.cells (bs.map bv))/\BT H H'
theorem P6 {H:AH}{v0:AV}{d:AR.D}(hR:RC AR d [v0]) (hw:AR.wf d) (hb:(AR.enc d).length<OH):AP prog 26 [v0] H (EPost H (AR.enc d)):=by
 refine T26 ?_
 unfold yw
 refine AA (v:=.agg [.nils]) rfl (TP rfl ?_)
 refine Ap (v:=.ptr (H.next+1) 0) (H':=(H.push (.cells [.nils])).push (.cells [.nilp])) rfl ?_
 refine Ap (v:=.unk) (H':=((H.push (.cells [.nils])).push (.cells [.nilp])).set (H.next+1) (.cells [.ptr H.next 0])) (by simp[BL,AF.ev,AH.cells?,AH.Af,AV.cellsOf,As]) ?_
 generalize hH4:((H.push (.cells [.nils])).push (.cells [.nilp])).set (H.next+1) (.cells [.ptr H.next 0])=H4
 have g0:H4.get H.next=some (.cells [.nils]):=by
  subst hH4
  have:H.next≠H.next+1:=by omega
  simp[AH.AY,AH.Af,this]
 have g1:H4.get (H.next+1)=some (.cells [.ptr H.next 0]):=by subst hH4;simp[AH.AY]
 have g2:H4.next=H.next+2:=by subst hH4;rfl
 have g3:BT H H4:=by
  refine⟨by omega,fun x hx=>?_,by subst hH4;rfl⟩
  subst hH4
  have h1:x≠H.next:=by omega
  have h2:x≠H.next+1:=by omega
  simp[AH.AY,AH.Af,h1,h2]
 have hW:Wr H4 H.next none []:=.nil g0 (by omega)
 have hL:X8 [(H.next+1,[AV.ptr H.next 0])] H.next H4 none:=fun x hx=>by
  cases hx with
  | head=>exact⟨by show H.next+1<H4.next;omega,by show H.next+1≠H.next;omega,by simp,g1⟩
  | tail _ h=>cases h
 have s0:=St.start hW hL
 refine s0.ld (.head _) rfl ?_
 refine s0.call (bs':=[]++AR.enc d) (T51 (Eo (t:=EN) OF rfl hR hw hW hL (S17 (.head _)) (by rw[B7];exact hb))) fun H5 r5 s5 hr5=>?_
 refine s5.ld (.head _) rfl (AA (v:=.ptr H.next 0) rfl (AA (v:=.ptr H.next 0) rfl ?_))
 have hw5:=s5.w
 rw[B7]at hw5
 refine Wz hw5 ?_
 cases hw5 with
 | row hp hr hne hl0 hrt=>
  refine⟨r5,by omega,hrt,rfl,hr,?_⟩
  have hk:=s5.kw
  have hn:=hk.nx
  exact⟨by omega,fun x hx=>by rw[hk.get x (by omega) (by omega) (by simp),g3.get x hx],hk.gl.trans g3.gl⟩
end
end Go.Proofs.YtlmkmpomgdbjhaaGreatDoor
namespace Go.AL
section
open Co
variable [BX]
inductive fw (z:Nat):AV->List AV->Nat->Prop
 | nil:fw z .nils [] 0
 | sim {c:List AV} {n:Nat} (h:c.length=n*z) (hn:0<n):fw z (.sim c n false) c n
def RX:(t:Ty)->t.D->List AV->Prop
 | .int,n,c=>c=[.int .i64 n]
 | .byte,x,c=>c=[bv x]
 | .bool,b,c=>c=[.bool b]
 | .list t,l,c=>∃v cs,c=[v]/\fw (C9 t) v cs (Cm l).length/\∃css:List (List AV),cs=css.flatten/\css.length=(Cm l).length/\∀(i:Nat) (x:t.D) (y:List AV),(Cm l)[i]?=some x->css[i]?=some y->RX t x y
 | .pair a b,p,c=>∃c1 c2,c=c1++c2/\RX a p.1 c1/\RX b p.2 c2
 | .vec n,l,c=>(No l).length=n/\c.length=n / 8/\∀i,i<n / 8->c[i]?=some (.int .u64 ((w8 (((No l).drop (8*i)).take 8):Nat):Int))
theorem VP:∀(t:Ty) (d:t.D) (c:List AV),RX t d c->RC t d c
 | .int,_,_,h=>h
 | .byte,_,_,h=>h
 | .bool,_,_,h=>h
 | .list t,_,_,h=>by
  obtain⟨v,cs,rfl,hf,css,h1,h2,h3⟩:=h
  refine⟨v,cs,rfl,?_,css,h1,h2,fun i x y hx hy=>VP t _ _ (h3 i x y hx hy)⟩
  clear h2 h3
  generalize (Cm _).length=n at hf ⊢
  cases hf with
  | nil=>exact .nil
  | sim h _=>exact .sim h
 | .pair a b,_,_,h=>by
  obtain⟨c1,c2,rfl,h1,h2⟩:=h
  exact⟨c1,c2,rfl,VP a _ _ h1,VP b _ _ h2⟩
 | .vec _,_,_,h=>h
theorem Qp (t:Ty) (d:t.D) (c:List AV) (h:RX t d c):c.length=C9 t:=GY t d c (VP t d c h)
def QV:(t:Ty)->t.D->AV->Prop
 | .pair a b,d,x=>∃c,x=.agg c/\RC (.pair a b) d c
 | .int,d,x=>RC .int d [x]
 | .byte,d,x=>RC .byte d [x]
 | .bool,d,x=>RC .bool d [x]
 | .list t,d,x=>RC (.list t) d [x]
 | .vec n,d,x=>∃c,x=.agg c/\RC (.vec n) d c
end
section
open Co
variable [BX] {P:Program}
theorem IF {a b c n:Nat}{e0:Env}{H0:AH}{x y:AV}{body:JP [a,b,c]->JP [a,b,c]}(hab:a≠b) (hac:a≠c) (hbc:b≠c) (ha:e0 a=x) (hb:e0 b=y) (hc:e0 c=.int .i64 ((0:Nat):Int)){Q:AH->Prop}(h0:Q H0)
  (hbody:∀(i:Nat) (H:AH) (J:AV->AV->AV->AH->Prop),i<=n->Q H->(i<n->∀H',Q H'->J x y (.int .i64 ((i+1:Nat):Int)) H')->(body J:AV->AV->AV->AH->Prop) x y (.int .i64 (i:Int)) H):Ah [a,b,c] body e0 H0:=by
 let Iv:AV->AV->AV->AH->Prop:=fun u v w H'=>u=x/\v=y/\∃i:Nat,w=.int .i64 (i:Int)/\i<=n/\Q H'
 let μ:AV->AV->AV->AH->Nat:=fun _ _ w _=>match w with
  | .int _ j=>(n-j).toNat
  | _=>0
 refine⟨Iv,μ,⟨ha,hb,0,hc,ON _,h0⟩,?_⟩
 intro e H hI
 obtain⟨e1,e2,i,e3,hi,hq⟩:=(hI:Iv (e a) (e b) (e c) H)
 show(body _:AV->AV->AV->AH->Prop) (e a) (e b) (e c) H
 rw[e1,e2,e3]
 refine hbody i H _ hi hq fun hlt H' hq'=>?_
 have g1:(((emp.set a x).set b y).set c (.int .i64 ((i+1:Nat):Int))) a=x:=by simp[Env.AM,hab,hac]
 have g2:(((emp.set a x).set b y).set c (.int .i64 ((i+1:Nat):Int))) b=y:=by simp[Env.AM,hbc]
 have g3:(((emp.set a x).set b y).set c (.int .i64 ((i+1:Nat):Int))) c=.int .i64 ((i+1:Nat):Int):=by simp[Env.AM]
 show Iv ((((emp.set a x).set b y).set c (.int .i64 ((i+1:Nat):Int))) a) ((((emp.set a x).set b y).set c (.int .i64 ((i+1:Nat):Int))) b) ((((emp.set a x).set b y).set c (.int .i64 ((i+1:Nat):Int))) c) H'/\μ ((((emp.set a x).set b y).set c (.int .i64 ((i+1:Nat):Int))) a) ((((emp.set a x).set b y).set c (.int .i64 ((i+1:Nat):Int))) b) ((((emp.set a x).set b y).set c (.int .i64 ((i+1:Nat):Int))) c) H'<μ (e a) (e b) (e c) H
 rw[g1,g2,g3,e3]
 refine⟨⟨rfl,rfl,i+1,rfl,hlt,hq'⟩,?_⟩
 show((n:Int)-((i+1:Nat):Int)).toNat<((n:Int)-(i:Int)).toNat
 omega
theorem nE {a b b' c n:Nat}{e0:Env}{H0:AH}{x y z:AV}{body:JP [a,b,b',c]->JP [a,b,b',c]}(hab:a≠b) (hab':a≠b') (hac:a≠c) (hbb:b≠b') (hbc:b≠c) (hbc':b'≠c) (ha:e0 a=x) (hb:e0 b=y) (hb':e0 b'=z) (hc:e0 c=.int .i64 ((0:Nat):Int)){Q:AH->Prop}(h0:Q H0)
  (hbody:∀(i:Nat) (H:AH) (J:AV->AV->AV->AV->AH->Prop),i<=n->Q H->(i<n->∀H',Q H'->J x y z (.int .i64 ((i+1:Nat):Int)) H')->(body J:AV->AV->AV->AV->AH->Prop) x y z (.int .i64 (i:Int)) H):Ah [a,b,b',c] body e0 H0:=by
 let Iv:AV->AV->AV->AV->AH->Prop:=fun u v v' w H'=>u=x/\v=y/\v'=z/\∃i:Nat,w=.int .i64 (i:Int)/\i<=n/\Q H'
 let μ:AV->AV->AV->AV->AH->Nat:=fun _ _ _ w _=>match w with
  | .int _ j=>(n-j).toNat
  | _=>0
 refine⟨Iv,μ,⟨ha,hb,hb',0,hc,ON _,h0⟩,?_⟩
 intro e H hI
 obtain⟨e1,e2,e2',i,e3,hi,hq⟩:=(hI:Iv (e a) (e b) (e b') (e c) H)
 show(body _:AV->AV->AV->AV->AH->Prop) (e a) (e b) (e b') (e c) H
 rw[e1,e2,e2',e3]
 refine hbody i H _ hi hq fun hlt H' hq'=>?_
 obtain⟨E,hE⟩:∃E,E=(((emp.set a x).set b y).set b' z).set c (.int .i64 ((i+1:Nat):Int)):=⟨_,rfl⟩
 have g1:E a=x:=by simp[hE,Env.AM,hab,hab',hac]
 have g2:E b=y:=by simp[hE,Env.AM,hbb,hbc]
 have g2':E b'=z:=by simp[hE,Env.AM,hbc']
 have g3:E c=.int .i64 ((i+1:Nat):Int):=by simp[hE,Env.AM]
 have:Iv (E a) (E b) (E b') (E c) H'/\μ (E a) (E b) (E b') (E c) H'<μ (e a) (e b) (e b') (e c) H:=by
  rw[g1,g2,g2',g3,e3]
  refine⟨⟨rfl,rfl,rfl,i+1,rfl,hlt,hq'⟩,?_⟩
  show((n:Int)-((i+1:Nat):Int)).toNat<((n:Int)-(i:Int)).toNat
  omega
 rw[hE]at this
 exact this
structure LR (t:Ty) (l:List t.D) (v:AV):Prop where
 one:v.cellsOf=some [v]
 len:AI (.len (.cst v)) emp=some (.int .i64 (l.length:Int))
 at_:∀(i:Nat) (hi:i<l.length),∃cs c,AI (.indexAddrS (C9 t) (.cst v) (.cst (.int .i64 (i:Int)))) emp=some (.pim cs (i*C9 t))/\RC t (l[i]'hi) c/\c.length=C9 t/\(∀j,j<C9 t->cs[i*C9 t+j]?=c[j]?) /\
  (∀H,AZ (.load (some (C9 t)) (.cst (.pim cs (i*C9 t)))) emp H=some (.agg c))
 cells:∃cs,(∀H,Aj (C9 t) v H=some (l.length,cs))/\∃css:List (List AV),cs=css.flatten/\css.length=l.length/\∀(i:Nat) (x:t.D) (y:List AV),l[i]?=some x->css[i]?=some y->RC t x y
theorem UU {t:Ty}{l:(Ty.list t).D}{v:AV}(h:RC (.list t) l [v]):LR t (Cm l) v:=by
 obtain⟨cs,css,hf,h1,h2,h3,h4⟩:=LI h
 generalize hn:(Cm l).length=n at hf h2
 refine⟨by cases hf<;>rfl,by rw[hn];cases hf<;>rfl,fun i hi=>?_,?_⟩
 ·have hi':i<css.length:=by omega
  have hc:css[i]?=some (css[i]'hi'):=Ak hi'
  have hR:=h4 i _ _ (Ak hi) hc
  have hx:=Ju css i _ h3 hc
  have hl:=h3 _ (Ox hi')
  cases hf with
  | nil=>omega
  | sim hcs=>
   have hm:i*C9 t+C9 t<=n*C9 t:=by
    have:(i+1)*C9 t<=n*C9 t:=DW _ (by omega)
    rw[EG,Gw]at this;exact this
   refine⟨cs,css[i]'hi',?_,hR,hl,fun j hj=>?_,fun H=>?_⟩
   ·have h9:(0:Int)<=(i:Int)/\(i:Int)<(n:Int):=by omega
    simp[AI,AF.ev,E0,h9]
   ·rw[h1,<- hx,EE,if_pos hj,DX]
   ·have:i*C9 t+C9 t<=cs.length:=by omega
    simp only[AZ,BC,AF.ev,apart,this,if_true]
    rw[h1,hx]
 ·refine⟨cs,fun H=>?_,css,h1,by rw[h2,hn],h4⟩
  rw[hn]
  cases hf with
  | nil=>rfl
  | sim hcs=>simp[Aj,hcs]
theorem QV.lr {t:Ty}{l:(Ty.list t).D}{v:AV}(h:QV (.list t) l v):LR t (Cm l) v:=UU h
theorem X0:∀l:List UInt8,FN (l.map bv)=some l
 | []=>rfl
 | x::l=>by
  show(FN (l.map bv)).map (UInt8.ofNat ((x.toNat:Int)).toNat::·)=_
  rw[X0 l,Cp]
  simp
theorem LR.bytes {l:List UInt8}{v:AV}(h:LR .byte l v) (H:AH):AZ (.strOfBytes (.cst v)) emp H=some (.str l):=by
 obtain⟨cs,h1,css,h2,h3,h4⟩:=h.cells
 have hcl:css.length=l.length:=h3
 have hcs:cs=l.map bv:=by
  have:css=l.map fun x=>[bv x]:=by
   refine Hr fun i=>?_
   rw[Bf]
   rcases B8 i l.length with hi | hi
   ·have a1:=Ak hi
    have a2:css[i]?=some (css[i]'(by omega)):=Ak (by omega)
    rw[a1,a2]
    have:css[i]'(by omega)=[bv (l[i]'hi)]:=h4 i _ _ a1 a2
    rw[this];rfl
   ·rw[BM (by omega),BM hi];rfl
  rw[h2,this]
  clear h1 h2 h3 h4 this h hcl
  induction l with
  | nil=>rfl
  | cons x l ih=>simp only[B6,Lj,ih];rfl
 have h1:Aj 1 v H=some (l.length,cs):=h1 H
 show(match Aj 1 v H with | some (_,xs)=>(FN xs).map AV.str | none=>none)=_
 rw[h1,hcs]
 show(FN (l.map bv)).map AV.str=_
 rw[X0];rfl
theorem EY {n:Nat}{v0 v1:AV}{A B:Prop}(h0:AI (.len (.cst v0)) emp=some (.int .i64 (n:Int))) (h1:AI (.len (.cst v1)) emp=some (.int .i64 (n:Int))) (hB:B) :
  AB (.len (.cst v0)) fun v2=>AB (.len (.cst v1)) fun v3=>AB (.bin .neq (.cst v2) (.cst v3)) fun v4=>AU v4 A B:=
 AA h0 (AA h1 (AA (v:=.bool false) (by show some (AV.bool ((n:Int) != (n:Int)))=_;simp) (B3 (fun h=>by cases h) fun _=>hB)))
theorem Dy {i n:Nat}{v0:AV}{A B:Prop}(h0:AI (.len (.cst v0)) emp=some (.int .i64 (n:Int))) (hA:i<n->A) (hB:n<=i->B) :
  AB (.len (.cst v0)) fun v2=>AB (.bin .lss (.cst (.int .i64 (i:Int))) (.cst v2)) fun v4=>AU v4 A B:=
 AA h0 (AA (v:=.bool (decide ((i:Int)<(n:Int)))) rfl (B3 (fun h=>hA (by have:=of_decide_eq_true h;omega)) fun h=>hB (by have:=of_decide_eq_false h;omega)))
theorem Dx {i n:Nat}{K:AV->Prop}(hn:GZ (n:Int)) (hi:i<n) (hK:K (.int .i64 ((i+1:Nat):Int))):AB (.bin .add (.cst (.int .i64 (i:Int))) (.cst (I 1))) K:=by
 have h2:=hn.2
 refine AA (v:=.int .i64 ((i+1:Nat):Int)) ?_ hK
 have hwr:IntKind.i64.wrap ((i:Int)+1)=((i+1:Nat):Int):=by
  have:((i+1:Nat):Int)=(i:Int)+1:=by omega
  rw[this,Gp];split<;>omega
 show some (AV.int .i64 (IntKind.i64.wrap ((i:Int)+1)))=_
 rw[hwr]
theorem GJ {T:Type}{J:T}{A B:T->Prop}(h:A J):BF true (.bool true) J A B:=⟨fun _=>h,fun h=>absurd rfl h⟩
theorem Hd {T:Type}{J:T}{A B:T->Prop}(h:A J):BF false (.bool false) J A B:=⟨fun _=>h,fun h=>absurd rfl h⟩
theorem GV {K:AV->Prop}(hK:K (.bool false)):AB (.un .not (.cst (.bool true))) K:=AA rfl hK
theorem DG (n:Int):AI (.bin .neq (.cst (.int .i64 n)) (.cst (.int .i64 n))) emp=some (.bool false):=by show some (AV.bool (n != n))=_;simp
theorem HD (n:Int):AI (.bin .eql (.cst (.int .i64 n)) (.cst (.int .i64 n))) emp=some (.bool true):=by show some (AV.bool (n==n))=_;simp
theorem eX (l:List UInt8):AI (.bin .neq (.cst (.str l)) (.cst (.str l))) emp=some (.bool false):=by show some (AV.bool (!(l==l)))=_;simp
theorem fT (b:Bool):AI (.eq true .bool (.cst (.bool b)) (.cst (.bool b))) emp=some (.bool false):=by cases b<;>rfl
theorem cK (b:Bool):AI (.eq false .bool (.cst (.bool b)) (.cst (.bool b))) emp=some (.bool true):=by cases b<;>rfl
def X5 (H:AH):Am->AH->Prop:=fun o H'=>o=.ret (.bool true)/\BT H H'
structure Sm (H0:AH) (L:List (Nat × List AV)) (H:AH):Prop where
 k:BT H0 H
 l:∀x∈L,x.1<H.next/\H.get x.1=some (.cells x.2)
theorem Sm.start (H:AH):Sm H [] H:=⟨BT.refl _,fun x hx=>by cases hx⟩
theorem Sm.GI {H0 H H':AH}{L:List (Nat × List AV)}(s:Sm H0 L H) (h:BT H H'):Sm H0 L H':=⟨s.k.trans h,fun x hx=>by
 obtain⟨h1,h2⟩:=s.l x hx
 exact⟨DD h1 h.nx,by rw[h.get _ h1];exact h2⟩⟩
theorem Sm.box {H0 H:AH}{L:List (Nat × List AV)}{x:AV}{c:List AV}{K:AV->AH->Prop}(s:Sm H0 L H) (hx:x.cellsOf=some c) (hK:∀q H',Sm H0 ((q,c)::L) H'->K (.ptr q 0) H'):AQ (.box (.cst x)) H K:=by
 refine TP hx (hK _ _ ?_)
 have s':=s.GI (BT.push H (.cells c))
 refine⟨s'.k,fun x hx=>?_⟩
 cases hx with
 | head=>exact⟨by simp,by simp⟩
 | tail _ hx=>exact s'.l x hx
theorem Sm.copy {H0 H:AH}{L:List (Nat × List AV)}{c z:List AV}{n:Nat}{K:AV->AV->AH->Prop}(s:Sm H0 L H) (hz:z.length=n) (hc:c.length=n) (hK:∀q H',Sm H0 ((q,c)::L) H'->K (.ptr q 0) .unk H') :
  AQ (.alloc z) H fun v15 h15=>AQ (.store n (.cst v15) (.cst (.agg c))) h15 fun v16 h16=>K v15 v16 h16:=by
 refine Ap (v:=.ptr H.next 0) (H':=H.push (.cells z)) rfl ?_
 have hs:As z 0 c=c:=by rw[DB (by omega)];simp[hc,hz]
 refine Ap (v:=.unk) (H':=(H.push (.cells z)).set H.next (.cells c)) (by simp[BL,AF.ev,AH.cells?,AH.Af,AV.cellsOf,hs,hc,hz]) (hK _ _ ?_)
 have k1:BT H ((H.push (.cells z)).set H.next (.cells c)):=⟨by simp,fun q hq=>by
  have:q≠H.next:=by omega
  simp[AH.AY,AH.Af,this],rfl⟩
 have s':=s.GI k1
 refine⟨s'.k,fun x hx=>?_⟩
 cases hx with
 | head=>exact⟨by simp,by simp[AH.AY]⟩
 | tail _ hx=>exact s'.l x hx
theorem Sm.call {H0 H:AH}{L:List (Nat × List AV)}{g:FuncId}{ar:List AV}{K:AV->AH->Prop}{Kp:AV->AH->Prop}(s:Sm H0 L H) (hC:AP P g ar H (X5 H)) (hK:∀H',Sm H0 L H'->K (.bool true) H'):AG P g ar H Kp K:=
 BK hC (fun v H' h=>by obtain⟨h1,h2⟩:=h;cases h1;exact hK _ (s.GI h2)) (fun v H' h=>by cases h.1)
theorem Sm.fin {H0 H:AH}{L:List (Nat × List AV)}(s:Sm H0 L H):X5 H0 (.ret (.bool true)) H:=⟨rfl,s.k⟩
def Bj (c:List AV) (o:Nat) (t:Ty) (d:t.D):Prop:=o+C9 t<=c.length/\RC t d ((c.drop o).take (C9 t))
theorem Bj.start {t:Ty}{d:t.D}{c:List AV}(h:RC t d c):Bj c 0 t d:=by
 have:=GY _ _ _ h
 refine⟨by omega,?_⟩
 rw[B_,Ac (by omega)];exact h
theorem Bj.fst {a b:Ty}{d:(Ty.pair a b).D}{c:List AV}{o:Nat}(h:Bj c o (.pair a b) d):Bj c o a d.1:=by
 obtain⟨h1,c1,c2,h2,h3,h4⟩:=h
 have l1:=GY _ _ _ h3
 have h1:o+(C9 a+C9 b)<=c.length:=h1
 have h2:(c.drop o).take (C9 a+C9 b)=c1++c2:=h2
 refine⟨by omega,?_⟩
 have:(c.drop o).take (C9 a)=c1:=by
  have h5:=congrArg (List.take (C9 a)) h2
  rw[EH,Dd (by omega),Ac (l:=c1) (by omega)]at h5
  rw[<- h5];congr 1;omega
 rw[this];exact h3
theorem Bj.snd {a b:Ty}{d:(Ty.pair a b).D}{c:List AV}{o:Nat}(h:Bj c o (.pair a b) d):Bj c (o+C9 a) b d.2:=by
 obtain⟨h1,c1,c2,h2,h3,h4⟩:=h
 have l1:=GY _ _ _ h3
 have l2:=GY _ _ _ h4
 have h1:o+(C9 a+C9 b)<=c.length:=h1
 have h2:(c.drop o).take (C9 a+C9 b)=c1++c2:=h2
 refine⟨by omega,?_⟩
 have:(c.drop (o+C9 a)).take (C9 b)=c2:=by
  have h5:=congrArg (List.drop (C9 a)) h2
  rw[E9,C0,JJ (by omega),Bu (l:=c1) (by omega),B7]at h5
  rw[<- h5];congr 1;omega
 rw[this];exact h4
theorem Bj.one {t:Ty}{d:t.D}{c:List AV}{o:Nat}(h:Bj c o t d) (ht:C9 t=1):∃x,c[o]?=some x/\RC t d [x]:=by
 obtain⟨h1,h2⟩:=h
 rw[ht]at h1 h2
 have hlt:o<c.length:=by omega
 refine⟨c[o]'hlt,Ak hlt,?_⟩
 have:(c.drop o).take 1=[c[o]'hlt]:=by rw[C8 hlt];rfl
 rw[<- this];exact h2
theorem Bj.agg {t:Ty}{d:t.D}{c:List AV}{o:Nat}(h:Bj c o t d):∃c1,(c.drop o).take (C9 t)=c1/\c1.length=C9 t/\o+C9 t<=c.length/\RC t d c1:=⟨_,rfl,GY _ _ _ h.2,h.1,h.2⟩
theorem Bj.int {d:Int}{c:List AV}{o:Nat}(h:Bj c o .int d):c[o]?=some (.int .i64 d):=by
 obtain⟨x,h1,h2⟩:=h.one rfl
 have h2:[x]=[AV.int .i64 d]:=h2
 cases h2;exact h1
theorem Bj.bool {d:Bool}{c:List AV}{o:Nat}(h:Bj c o .bool d):c[o]?=some (.bool d):=by
 obtain⟨x,h1,h2⟩:=h.one rfl
 have h2:[x]=[AV.bool d]:=h2
 cases h2;exact h1
theorem Bj.list {t:Ty}{d:(Ty.list t).D}{c:List AV}{o:Nat}(h:Bj c o (.list t) d):∃x,c[o]?=some x/\QV (.list t) d x:=by
 obtain⟨x,h1,h2⟩:=h.one rfl
 exact⟨x,h1,h2⟩
theorem Sm.ld {H0 H:AH}{L:List (Nat × List AV)}{q o:Nat}{c:List AV}{x:AV}{K:AV->Prop}(s:Sm H0 L H) (hm:(q,c)∈L) (hx:c[o]?=some x) (hK:K x):AE (.load none (.cst (.ptr q o))) H K:=by
 obtain⟨_,h3⟩:=s.l _ hm
 exact AX (v:=x) (by simpa[AZ,BC,AF.ev,AH.cells?,h3,apart]using hx) hK
theorem Sm.Hc {H0 H:AH}{L:List (Nat × List AV)}{q o k:Nat}{c c1:List AV}{K:AV->Prop}(s:Sm H0 L H) (hm:(q,c)∈L) (hx:(c.drop o).take k=c1) (hl:o+k<=c.length) (hK:K (.agg c1)):AE (.load (some k) (.cst (.ptr q o))) H K:=by
 obtain⟨_,h3⟩:=s.l _ hm
 exact AX (v:=.agg c1) (by simp[AZ,BC,AF.ev,AH.cells?,h3,apart,hl,hx]) hK
theorem LR.Om {t:Ty}{l:List t.D}{v:AV}(h:LR t l v) (ht:C9 t=1){i:Nat}(hi:i<l.length):∃a x,AI (.indexAddrS 1 (.cst v) (.cst (.int .i64 (i:Int)))) emp=some a/\(∀H,AZ (.load none (.cst a)) emp H=some x)/\RC t (l[i]'hi) [x]:=by
 obtain⟨cs,c,a1,a2,a3,a4,_⟩:=h.at_ i hi
 rw[ht]at a1 a3 a4
 match c,a3 with
 | [x],_=>exact⟨_,x,a1,fun H=>by simpa[AZ,BC,AF.ev,apart]using a4 0 (by omega),a2⟩
theorem LR.X1 {t:Ty}{l:List t.D}{v:AV}(h:LR t l v){k:Nat}(ht:C9 t=k){i:Nat}(hi:i<l.length):∃a c,AI (.indexAddrS k (.cst v) (.cst (.int .i64 (i:Int)))) emp=some a/\(∀H,AZ (.load (some k) (.cst a)) emp H=some (.agg c))/\RC t (l[i]'hi) c/\c.length=k /\
  ∀j,j<k->∃a',AI (.fieldAddr j (.cst a)) emp=some a'/\∀H,AZ (.load none (.cst a')) emp H=c[j]?:=by
 subst ht
 obtain⟨cs,c,a1,a2,a3,a4,a5⟩:=h.at_ i hi
 exact⟨_,c,a1,a5,a2,a3,fun j hj=>⟨.pim cs (i*C9 t+j),rfl,fun H=>by simpa[AZ,BC,AF.ev,apart]using a4 j hj⟩⟩
theorem Nn {t:Ty}{l:(Ty.list t).D}(hw:(Ty.list t).wf l){i:Nat}(hi:i<(Cm l).length):t.wf ((Cm l)[i]'hi):=hw.2 _ (Ox hi)
def Ki (P:Program) (g:FuncId) (t:Ty):Prop:=∀{H:AH}{v0 v1:AV}{d:t.D},QV t d v0->QV t d v1->t.wf d->AP P g [v0,v1] H (X5 H)
theorem UY {n:Int}(h:GZ n):(Lit.int .i64 n).wf=true:=by
 obtain⟨h1,h2⟩:=h
 show(decide ((-9223372036854775808:Int)<=n)&&decide (n<=9223372036854775807))=true
 simp[h1,h2]
end
end Go.AL
namespace Go.Proofs.YtlmkmpomgdbjhaaGreatDoor
open Tryz
section
open Go Go.AL
variable [BX]
def pe (b:AV) (h:AH) (a:Am->AH->Prop):Prop:=(
 AB (.nilCheck b) fun m=>
 AB (.fieldAddr 0 m) fun n=>
 AE (.load none n) h fun o=>
 AB (.len o) fun p=>
 AB (.bin .eql p (I 0)) fun q=>
 AU q
 (AB (.build [(I 0)] [(0,1,(I 5))]) fun c=>
 CF (.ifc 139 c) h (yp a))
 (AB (.nilCheck b) fun c=>
 AB (.fieldAddr 0 c) fun r=>
 AE (.load none r) h fun s=>
 AB (.indexAddrS 1 s (I 0)) fun t=>
 AE (.load none t) h fun e=>
 AB (.nilCheck b) fun f=>
 AB (.fieldAddr 0 f) fun g=>
 AE (.load none g) h fun i=>
 AB (.sliceS 1 i (some (I 1)) none none) fun j=>
 AB (.nilCheck b) fun k=>
 AB (.fieldAddr 0 k) fun l=>
 AQ (.store 1 l j) h fun u d=>
 a (.ret e) d))
theorem uK {v0 h Post}(hG:pe v0 h Post):AP prog 184 [v0] h Post:=tP func184 (by kernel_rfl) (by kernel_rfl) hG
def pc (b:AV) (h:AH) (a:Am->AH->Prop):Prop:=(
 AG prog 305 [b,(.fn (.func 306) [b] [])] h (yp a) fun d c=>
 a (.ret d) c)
theorem uJ {v0 h Post}(hG:pc v0 h Post):AP prog 185 [v0] h Post:=tP func185 (by kernel_rfl) (by kernel_rfl) hG
def wM (n u:AV) (h:AH) (a:Am->AH->Prop):Prop:=(
 AG prog 91 [n] h (yp a) fun i b=>
 AB (.bin .lss i (I 0)) fun v=>
 AU v
 (AB (.build [(I 0)] [(0,1,(I 4))]) fun j=>
 CF (.ifc 139 j) b (yp a))
 (AB (.nilCheck n) fun j=>
 AB (.fieldAddr 0 j) fun w=>
 AE (.load none w) b fun x=>
 AB (.len x) fun y=>
 AB (.bin .gtr i y) fun z=>
 AU z
 (AB (.build [(I 0)] [(0,1,(I 5))]) fun A=>
 CF (.ifc 139 A) b (yp a))
 (Ah [1,6,22,23] (fun t=>(fun(d e f g:AV) (c:AH)=>
 AB (.bin .lss g f) fun o=>
 AU o
 (DT prog d [] c (yp a) fun p k=>
 AQ (.buildSlice 4 1 (Bl 4 (N .u64 0) []) [(0,4,p)]) k fun q l=>
 AQ (.append 4 32 e q) l fun r m=>
 AB (.bin .add g (I 1)) fun s=>
 t d r f s m)
 (a (.ret e) c))) ((((Ar.set 1 u).set 6 .nils).set 22 i).set 23 (I 0)) b)))
theorem uI {v0 v1 h Post}(hG:wM v0 v1 h Post):AP prog 186 [v0,v1] h Post:=tP func186 (by kernel_rfl) (by kernel_rfl) hG
def pb (y:AV) (h:AH) (c:Am->AH->Prop):Prop:=(
 AQ (.alloc (Bl 4 (N .u64 0) [])) h fun z w=>
 AQ (.alloc (Bl 4 (N .u64 0) [])) w fun A x=>
 Ah [0,2,3,5] (fun v=>(fun(u k f g:AV) (e:AH)=>
 AB (.bin .lss g (I 32)) fun B=>
 AU B
 (AB (.bin .quo g (I 8)) fun a=>
 AB (.indexAddrA 4 1 f a) fun d=>
 AE (.load none d) e fun b=>
 AB (.bin .rem g (I 8)) fun m=>
 AB (.bin .mul (I 8) m) fun n=>
 AG prog 184 [u] e (yp c) fun o j=>
 (Ba (.load none d) b j/\True)/\AB (.convI .u64 o) fun p=>
 AB (.bin .shl p n) fun q=>
 AB (.bin .or b q) fun r=>
 AB (.indexAddrA 4 1 f a) fun s=>
 AQ (.store 1 s r) j fun C l=>
 True/\AB (.bin .add g (I 1)) fun t=>
 v u k f t l)
 (AE (.load (some 4) f) e fun a=>
 AQ (.store 4 k a) e fun d i=>
 AE (.load (some 4) k) i fun b=>
 c (.ret b) i))) ((((Ar.set 0 y).set 2 z).set 3 A).set 5 (I 0)) x)
theorem uH {v0 h Post}(hG:pb v0 h Post):AP prog 187 [v0] h Post:=tP func187 (by kernel_rfl) (by kernel_rfl) hG
def wL (n u:AV) (h:AH) (a:Am->AH->Prop):Prop:=(
 AG prog 91 [n] h (yp a) fun i b=>
 AB (.bin .lss i (I 0)) fun v=>
 AU v
 (AB (.build [(I 0)] [(0,1,(I 4))]) fun j=>
 CF (.ifc 139 j) b (yp a))
 (AB (.nilCheck n) fun j=>
 AB (.fieldAddr 0 j) fun w=>
 AE (.load none w) b fun x=>
 AB (.len x) fun y=>
 AB (.bin .gtr i y) fun z=>
 AU z
 (AB (.build [(I 0)] [(0,1,(I 5))]) fun A=>
 CF (.ifc 139 A) b (yp a))
 (Ah [1,6,22,23] (fun t=>(fun(d e f g:AV) (c:AH)=>
 AB (.bin .lss g f) fun o=>
 AU o
 (DT prog d [] c (yp a) fun p k=>
 AQ (.buildSlice 1 1 [(.bool false)] [(0,1,p)]) k fun q l=>
 AQ (.append 1 1 e q) l fun r m=>
 AB (.bin .add g (I 1)) fun s=>
 t d r f s m)
 (a (.ret e) c))) ((((Ar.set 1 u).set 6 .nils).set 22 i).set 23 (I 0)) b)))
theorem uG {v0 v1 h Post}(hG:wL v0 v1 h Post):AP prog 188 [v0,v1] h Post:=tP func188 (by kernel_rfl) (by kernel_rfl) hG
def pa (e:AV) (h:AH) (a:Am->AH->Prop):Prop:=(
 AG prog 184 [e] h (yp a) fun d c=>
 AB (.bin .gtr d (N .u8 1)) fun f=>
 AU f
 (AB (.build [(I 0)] [(0,1,(I 4))]) fun b=>
 CF (.ifc 139 b) c (yp a))
 (AB (.bin .eql d (N .u8 1)) fun b=>
 a (.ret b) c))
theorem uF {v0 h Post}(hG:pa v0 h Post):AP prog 189 [v0] h Post:=tP func189 (by kernel_rfl) (by kernel_rfl) hG
def wK (n u:AV) (h:AH) (a:Am->AH->Prop):Prop:=(
 AG prog 91 [n] h (yp a) fun i b=>
 AB (.bin .lss i (I 0)) fun v=>
 AU v
 (AB (.build [(I 0)] [(0,1,(I 4))]) fun j=>
 CF (.ifc 139 j) b (yp a))
 (AB (.nilCheck n) fun j=>
 AB (.fieldAddr 0 j) fun w=>
 AE (.load none w) b fun x=>
 AB (.len x) fun y=>
 AB (.bin .gtr i y) fun z=>
 AU z
 (AB (.build [(I 0)] [(0,1,(I 5))]) fun A=>
 CF (.ifc 139 A) b (yp a))
 (Ah [1,6,22,23] (fun t=>(fun(d e f g:AV) (c:AH)=>
 AB (.bin .lss g f) fun o=>
 AU o
 (DT prog d [] c (yp a) fun p k=>
 AQ (.buildSlice 1 1 [.nils] [(0,1,p)]) k fun q l=>
 AQ (.append 1 24 e q) l fun r m=>
 AB (.bin .add g (I 1)) fun s=>
 t d r f s m)
 (a (.ret e) c))) ((((Ar.set 1 u).set 6 .nils).set 22 i).set 23 (I 0)) b)))
theorem uE {v0 v1 h Post}(hG:wK v0 v1 h Post):AP prog 190 [v0,v1] h Post:=tP func190 (by kernel_rfl) (by kernel_rfl) hG
def pZ (b:AV) (h:AH) (a:Am->AH->Prop):Prop:=(
 AE (.load none b) h fun d=>
 AE (.load none b) h fun e=>
 AG prog 192 [d,(.fn (.func 193) [e] [])] h (yp a) fun f c=>
 a (.ret f) c)
theorem uD {v0 h Post}(hG:pZ v0 h Post):AP prog 191 [v0] h Post:=tP func191 (by kernel_rfl) (by kernel_rfl) hG
def wJ (n u:AV) (h:AH) (a:Am->AH->Prop):Prop:=(
 AG prog 91 [n] h (yp a) fun i b=>
 AB (.bin .lss i (I 0)) fun v=>
 AU v
 (AB (.build [(I 0)] [(0,1,(I 4))]) fun j=>
 CF (.ifc 139 j) b (yp a))
 (AB (.nilCheck n) fun j=>
 AB (.fieldAddr 0 j) fun w=>
 AE (.load none w) b fun x=>
 AB (.len x) fun y=>
 AB (.bin .gtr i y) fun z=>
 AU z
 (AB (.build [(I 0)] [(0,1,(I 5))]) fun A=>
 CF (.ifc 139 A) b (yp a))
 (Ah [1,6,22,23] (fun t=>(fun(d e f g:AV) (c:AH)=>
 AB (.bin .lss g f) fun o=>
 AU o
 (DT prog d [] c (yp a) fun p k=>
 AQ (.buildSlice 2 1 [(I 0),.nils] [(0,2,p)]) k fun q l=>
 AQ (.append 2 32 e q) l fun r m=>
 AB (.bin .add g (I 1)) fun s=>
 t d r f s m)
 (a (.ret e) c))) ((((Ar.set 1 u).set 6 .nils).set 22 i).set 23 (I 0)) b)))
theorem uC {v0 v1 h Post}(hG:wJ v0 v1 h Post):AP prog 192 [v0,v1] h Post:=tP func192 (by kernel_rfl) (by kernel_rfl) hG
def wH (b:AV) (h:AH) (a:Am->AH->Prop):Prop:=(
 AQ (.alloc [(I 0),.nils]) h fun d e=>
 AG prog 91 [b] e (yp a) fun i f=>
 AG prog 307 [b,(.fn (.func 308) [b] [])] f (yp a) fun j g=>
 AB (.build [(I 0),.nils] [(0,1,i),(1,1,j)]) fun k=>
 AQ (.store 2 d k) g fun m c=>
 AE (.load (some 2) d) c fun l=>
 a (.ret l) c)
theorem uB {v0 h Post}(hG:wH v0 h Post):AP prog 193 [v0] h Post:=tP func193 (by kernel_rfl) (by kernel_rfl) hG
def wG (n u:AV) (h:AH) (a:Am->AH->Prop):Prop:=(
 AG prog 91 [n] h (yp a) fun i b=>
 AB (.bin .lss i (I 0)) fun v=>
 AU v
 (AB (.build [(I 0)] [(0,1,(I 4))]) fun j=>
 CF (.ifc 139 j) b (yp a))
 (AB (.nilCheck n) fun j=>
 AB (.fieldAddr 0 j) fun w=>
 AE (.load none w) b fun x=>
 AB (.len x) fun y=>
 AB (.bin .gtr i y) fun z=>
 AU z
 (AB (.build [(I 0)] [(0,1,(I 5))]) fun A=>
 CF (.ifc 139 A) b (yp a))
 (Ah [1,6,22,23] (fun t=>(fun(d e f g:AV) (c:AH)=>
 AB (.bin .lss g f) fun o=>
 AU o
 (DT prog d [] c (yp a) fun p k=>
 AQ (.buildSlice 1 1 [.nils] [(0,1,p)]) k fun q l=>
 AQ (.append 1 24 e q) l fun r m=>
 AB (.bin .add g (I 1)) fun s=>
 t d r f s m)
 (a (.ret e) c))) ((((Ar.set 1 u).set 6 .nils).set 22 i).set 23 (I 0)) b)))
theorem uA {v0 v1 h Post}(hG:wG v0 v1 h Post):AP prog 194 [v0,v1] h Post:=tP func194 (by kernel_rfl) (by kernel_rfl) hG
def pY (b:AV) (h:AH) (a:Am->AH->Prop):Prop:=(
 AE (.load none b) h fun d=>
 AE (.load none b) h fun e=>
 AG prog 196 [d,(.fn (.func 184) [e] [])] h (yp a) fun f c=>
 a (.ret f) c)
theorem t_ {v0 h Post}(hG:pY v0 h Post):AP prog 195 [v0] h Post:=tP func195 (by kernel_rfl) (by kernel_rfl) hG
def wF (n u:AV) (h:AH) (a:Am->AH->Prop):Prop:=(
 AG prog 91 [n] h (yp a) fun i b=>
 AB (.bin .lss i (I 0)) fun v=>
 AU v
 (AB (.build [(I 0)] [(0,1,(I 4))]) fun j=>
 CF (.ifc 139 j) b (yp a))
 (AB (.nilCheck n) fun j=>
 AB (.fieldAddr 0 j) fun w=>
 AE (.load none w) b fun x=>
 AB (.len x) fun y=>
 AB (.bin .gtr i y) fun z=>
 AU z
 (AB (.build [(I 0)] [(0,1,(I 5))]) fun A=>
 CF (.ifc 139 A) b (yp a))
 (Ah [1,6,22,23] (fun t=>(fun(d e f g:AV) (c:AH)=>
 AB (.bin .lss g f) fun o=>
 AU o
 (DT prog d [] c (yp a) fun p k=>
 AQ (.buildSlice 1 1 [(N .u8 0)] [(0,1,p)]) k fun q l=>
 AQ (.append 1 1 e q) l fun r m=>
 AB (.bin .add g (I 1)) fun s=>
 t d r f s m)
 (a (.ret e) c))) ((((Ar.set 1 u).set 6 .nils).set 22 i).set 23 (I 0)) b)))
theorem tz {v0 v1 h Post}(hG:wF v0 v1 h Post):AP prog 196 [v0,v1] h Post:=tP func196 (by kernel_rfl) (by kernel_rfl) hG
def pW (c d:AV) (h:AH) (a:Am->AH->Prop):Prop:=(
 AG prog 318 [c,d] h (yp a) fun e b=>
 a (.ret e) b)
theorem tv {v0 v1 h Post}(hG:pW v0 v1 h Post):AP prog 208 [v0,v1] h Post:=tP func208 (by kernel_rfl) (by kernel_rfl) hG
def wD (n u:AV) (h:AH) (a:Am->AH->Prop):Prop:=(
 AG prog 91 [n] h (yp a) fun i b=>
 AB (.bin .lss i (I 0)) fun v=>
 AU v
 (AB (.build [(I 0)] [(0,1,(I 4))]) fun j=>
 CF (.ifc 139 j) b (yp a))
 (AB (.nilCheck n) fun j=>
 AB (.fieldAddr 0 j) fun w=>
 AE (.load none w) b fun x=>
 AB (.len x) fun y=>
 AB (.bin .gtr i y) fun z=>
 AU z
 (AB (.build [(I 0)] [(0,1,(I 5))]) fun A=>
 CF (.ifc 139 A) b (yp a))
 (Ah [1,6,22,23] (fun t=>(fun(d e f g:AV) (c:AH)=>
 AB (.bin .lss g f) fun o=>
 AU o
 (DT prog d [] c (yp a) fun p k=>
 AQ (.buildSlice 2 1 [(I 0),(N .u8 0)] [(0,2,p)]) k fun q l=>
 AQ (.append 2 16 e q) l fun r m=>
 AB (.bin .add g (I 1)) fun s=>
 t d r f s m)
 (a (.ret e) c))) ((((Ar.set 1 u).set 6 .nils).set 22 i).set 23 (I 0)) b)))
theorem tr {v0 v1 h Post}(hG:wD v0 v1 h Post):AP prog 305 [v0,v1] h Post:=tP func305 (by kernel_rfl) (by kernel_rfl) hG
def wC (c:AV) (h:AH) (a:Am->AH->Prop):Prop:=(
 AQ (.alloc [(I 0),(N .u8 0)]) h fun d e=>
 AG prog 91 [c] e (yp a) fun i f=>
 AG prog 184 [c] f (yp a) fun j g=>
 AB (.build [(I 0),(N .u8 0)] [(0,1,i),(1,1,j)]) fun k=>
 AQ (.store 2 d k) g fun m b=>
 AE (.load (some 2) d) b fun l=>
 a (.ret l) b)
theorem tq {v0 h Post}(hG:wC v0 h Post):AP prog 306 [v0] h Post:=tP func306 (by kernel_rfl) (by kernel_rfl) hG
def pT (v0 v1:AV) (h:AH) (a:Am->AH->Prop):Prop:=(
 AQ (.box v0) h fun u h2=>
 AQ (.box v1) h2 fun v A=>
 AB (.fieldAddr 0 u) fun v4=>
 AE (.load none v4) A fun v5=>
 AB (.fieldAddr 0 v) fun v6=>
 AE (.load none v6) A fun v7=>
 AG prog 416 [v5,v7] A (yp a) fun v8 t=>
 AB (.un .not v8) fun v9=>
 BF false v9 (fun(b3 j k l m d:AV) (c:AH)=>
 AB (.pick v9 (.cst (.bool true)) d) fun y=>
 BF false y (fun(b4 n o p q r e:AV) (w:AH)=>
 AB (.pick y (.cst (.bool true)) e) fun G=>
 AU G
 (a (.ret (.bool false)) w)
 (Ah [2,3,5] (fun B=>(fun(s z f:AV) (b:AH)=>
 AB (.fieldAddr 1 s) fun L=>
 AE (.load none L) b fun M=>
 AB (.len M) fun O=>
 AB (.bin .lss f O) fun Q=>
 AU Q
 (AB (.fieldAddr 1 s) fun R=>
 AE (.load none R) b fun U=>
 AB (.indexAddrS 1 U f) fun V=>
 AE (.load none V) b fun W=>
 AB (.fieldAddr 1 z) fun X=>
 AE (.load none X) b fun Y=>
 AB (.indexAddrS 1 Y f) fun Z=>
 AE (.load none Z) b fun a0=>
 AG prog 316 [W,a0] b (yp a) fun a1 x=>
 AB (.un .not a1) fun a2=>
 AU a2
 (a (.ret (.bool false)) x)
 (AB (.bin .add f (I 1)) fun a3=>
 B s z a3 x))
 (a (.ret (.bool true)) b))) (((Ar.set 2 u).set 3 v).set 5 (I 0)) w)) (fun i=>
 AB (.fieldAddr 1 u) fun n=>
 AE (.load none n) c fun o=>
 AB (.len o) fun p=>
 AB (.fieldAddr 1 v) fun q=>
 AE (.load none q) c fun r=>
 AB (.len r) fun e=>
 AB (.bin .neq p e) fun E=>
 i n o p q r e E c) (fun i=>i Ad Ad Ad Ad Ad Ad Ad c)) (fun g=>
 AB (.fieldAddr 2 u) fun j=>
 AE (.load none j) t fun k=>
 AB (.fieldAddr 2 v) fun l=>
 AE (.load none l) t fun m=>
 AG prog 417 [k,m] t (yp a) fun d C=>
 AB (.un .not d) fun D=>
 g j k l m d D C) (fun g=>g Ad Ad Ad Ad Ad Ad t))
theorem tk {v0 v1 h Post}(hG:pT v0 v1 h Post):AP prog 315 [v0,v1] h Post:=tP func315 (by kernel_rfl) (by kernel_rfl) hG
def pS (e f:AV) (h:AH) (a:Am->AH->Prop):Prop:=(
 AB (.len e) fun r=>
 AB (.len f) fun s=>
 AB (.bin .neq r s) fun t=>
 AU t
 (a (.ret (.bool false)) h)
 (Ah [0,1,5] (fun q=>(fun(d p c:AV) (b:AH)=>
 AB (.len d) fun g=>
 AB (.bin .lss c g) fun i=>
 AU i
 (AB (.indexAddrS 1 d c) fun j=>
 AE (.load none j) b fun k=>
 AB (.indexAddrS 1 p c) fun l=>
 AE (.load none l) b fun m=>
 AB (.bin .neq k m) fun n=>
 AU n
 (a (.ret (.bool false)) b)
 (AB (.bin .add c (I 1)) fun o=>
 q d p o b))
 (a (.ret (.bool true)) b))) (((Ar.set 0 e).set 1 f).set 5 (I 0)) h))
theorem tj {v0 v1 h Post}(hG:pS v0 v1 h Post):AP prog 316 [v0,v1] h Post:=tP func316 (by kernel_rfl) (by kernel_rfl) hG
def pR (v0 v1:AV) (h:AH) (a:Am->AH->Prop):Prop:=(
 AQ (.box v0) h fun v h2=>
 AQ (.box v1) h2 fun C X=>
 AB (.fieldAddr 0 v) fun v4=>
 AE (.load none v4) X fun v5=>
 AB (.fieldAddr 0 C) fun v6=>
 AE (.load none v6) X fun v7=>
 AG prog 416 [v5,v7] X (yp a) fun v8 O=>
 AB (.un .not v8) fun v9=>
 BF false v9 (fun(f0 q r s t g:AV) (e:AH)=>
 AB (.pick v9 (.cst (.bool true)) g) fun U=>
 BF false U (fun(f1 u w x y i:AV) (f:AH)=>
 AB (.pick U (.cst (.bool true)) i) fun V=>
 BF false V (fun(f2 z A B D E j:AV) (Q:AH)=>
 AB (.pick V (.cst (.bool true)) j) fun a5=>
 AU a5
 (a (.ret (.bool false)) Q)
 (Ah [2,3,5] (fun Y=>(fun(G W k:AV) (c:AH)=>
 AB (.fieldAddr 1 G) fun a6=>
 AE (.load none a6) c fun a7=>
 AB (.len a7) fun a8=>
 AB (.bin .lss k a8) fun a9=>
 AU a9
 (AB (.fieldAddr 1 G) fun b0=>
 AE (.load none b0) c fun b1=>
 AB (.indexAddrS 1 b1 k) fun b2=>
 AE (.load none b2) c fun b3=>
 AB (.len b3) fun b4=>
 AB (.fieldAddr 1 W) fun b5=>
 AE (.load none b5) c fun b6=>
 AB (.indexAddrS 1 b6 k) fun b7=>
 AE (.load none b7) c fun b8=>
 AB (.len b8) fun b9=>
 AB (.bin .neq b4 b9) fun c0=>
 AU c0
 (a (.ret (.bool false)) c)
 (Ah [2,3,5,6] (fun Z=>(fun(l L d m:AV) (b:AH)=>
 AB (.fieldAddr 1 l) fun c1=>
 AE (.load none c1) b fun c2=>
 AB (.indexAddrS 1 c2 d) fun c3=>
 AE (.load none c3) b fun c4=>
 AB (.len c4) fun c5=>
 AB (.bin .lss m c5) fun c6=>
 AU c6
 (AB (.fieldAddr 1 l) fun M=>
 AE (.load none M) b fun c7=>
 AB (.indexAddrS 1 c7 d) fun c8=>
 AE (.load none c8) b fun c9=>
 AB (.indexAddrS 2 c9 m) fun d0=>
 AE (.load (some 2) d0) b fun d1=>
 AB (.fieldAddr 1 L) fun d2=>
 AE (.load none d2) b fun d3=>
 AB (.indexAddrS 1 d3 d) fun d4=>
 AE (.load none d4) b fun d5=>
 AB (.indexAddrS 2 d5 m) fun d6=>
 AE (.load (some 2) d6) b fun d7=>
 AG prog 419 [d1,d7] b (yp a) fun d8 R=>
 AB (.un .not d8) fun d9=>
 AU d9
 (a (.ret (.bool false)) R)
 (AB (.bin .add m (I 1)) fun e0=>
 Z l L d e0 R))
 (AB (.bin .add d (I 1)) fun M=>
 Y l L M b))) ((((Ar.set 2 G).set 3 W).set 5 k).set 6 (I 0)) c))
 (a (.ret (.bool true)) c))) (((Ar.set 2 v).set 3 C).set 5 (I 0)) Q)) (fun p=>
 AB (.fieldAddr 1 v) fun z=>
 AE (.load none z) f fun A=>
 AB (.len A) fun B=>
 AB (.fieldAddr 1 C) fun D=>
 AE (.load none D) f fun E=>
 AB (.len E) fun j=>
 AB (.bin .neq B j) fun a4=>
 p z A B D E j a4 f) (fun p=>p Ad Ad Ad Ad Ad Ad Ad f)) (fun o=>
 AB (.fieldAddr 3 v) fun u=>
 AE (.load none u) e fun w=>
 AB (.fieldAddr 3 C) fun x=>
 AE (.load none x) e fun y=>
 AG prog 418 [w,y] e (yp a) fun i a1=>
 AB (.un .not i) fun a3=>
 o u w x y i a3 a1) (fun o=>o Ad Ad Ad Ad Ad Ad e)) (fun n=>
 AB (.fieldAddr 2 v) fun q=>
 AE (.load none q) O fun r=>
 AB (.fieldAddr 2 C) fun s=>
 AE (.load none s) O fun t=>
 AG prog 417 [r,t] O (yp a) fun g a0=>
 AB (.un .not g) fun a2=>
 n q r s t g a2 a0) (fun n=>n Ad Ad Ad Ad Ad Ad O))
theorem ti {v0 v1 h Post}(hG:pR v0 v1 h Post):AP prog 317 [v0,v1] h Post:=tP func317 (by kernel_rfl) (by kernel_rfl) hG
def pQ (e f:AV) (h:AH) (a:Am->AH->Prop):Prop:=(
 AB (.len e) fun s=>
 AB (.len f) fun t=>
 AB (.bin .neq s t) fun u=>
 AU u
 (a (.ret (.bool false)) h)
 (Ah [0,1,5] (fun r=>(fun(d q c:AV) (b:AH)=>
 AB (.len d) fun g=>
 AB (.bin .lss c g) fun j=>
 AU j
 (AB (.indexAddrS 2 d c) fun k=>
 AE (.load (some 2) k) b fun l=>
 AB (.indexAddrS 2 q c) fun m=>
 AE (.load (some 2) m) b fun n=>
 AB (.eq true (.wide (true,[(.i .i64),(.i .u8)])) l n) fun o=>
 AU o
 (a (.ret (.bool false)) b)
 (AB (.bin .add c (I 1)) fun p=>
 r d q p b))
 (a (.ret (.bool true)) b))) (((Ar.set 0 e).set 1 f).set 5 (I 0)) h))
theorem th {v0 v1 h Post}(hG:pQ v0 v1 h Post):AP prog 318 [v0,v1] h Post:=tP func318 (by kernel_rfl) (by kernel_rfl) hG
def pP (e f:AV) (h:AH) (a:Am->AH->Prop):Prop:=(
 AB (.len e) fun s=>
 AB (.len f) fun t=>
 AB (.bin .neq s t) fun u=>
 AU u
 (a (.ret (.bool false)) h)
 (Ah [0,1,5] (fun r=>(fun(d q c:AV) (b:AH)=>
 AB (.len d) fun g=>
 AB (.bin .lss c g) fun j=>
 AU j
 (AB (.indexAddrS 4 d c) fun k=>
 AE (.load (some 4) k) b fun l=>
 AB (.indexAddrS 4 q c) fun m=>
 AE (.load (some 4) m) b fun n=>
 AB (.eq true (.wide (true,[(.i .u64),(.i .u64),(.i .u64),(.i .u64)])) l n) fun o=>
 AU o
 (a (.ret (.bool false)) b)
 (AB (.bin .add c (I 1)) fun p=>
 r d q p b))
 (a (.ret (.bool true)) b))) (((Ar.set 0 e).set 1 f).set 5 (I 0)) h))
theorem tg {v0 v1 h Post}(hG:pP v0 v1 h Post):AP prog 416 [v0,v1] h Post:=tP func416 (by kernel_rfl) (by kernel_rfl) hG
def pO (e f:AV) (h:AH) (a:Am->AH->Prop):Prop:=(
 AB (.len e) fun r=>
 AB (.len f) fun s=>
 AB (.bin .neq r s) fun t=>
 AU t
 (a (.ret (.bool false)) h)
 (Ah [0,1,5] (fun q=>(fun(d p c:AV) (b:AH)=>
 AB (.len d) fun g=>
 AB (.bin .lss c g) fun i=>
 AU i
 (AB (.indexAddrS 1 d c) fun j=>
 AE (.load none j) b fun k=>
 AB (.indexAddrS 1 p c) fun l=>
 AE (.load none l) b fun m=>
 AB (.eq true .bool k m) fun n=>
 AU n
 (a (.ret (.bool false)) b)
 (AB (.bin .add c (I 1)) fun o=>
 q d p o b))
 (a (.ret (.bool true)) b))) (((Ar.set 0 e).set 1 f).set 5 (I 0)) h))
theorem tf {v0 v1 h Post}(hG:pO v0 v1 h Post):AP prog 417 [v0,v1] h Post:=tP func417 (by kernel_rfl) (by kernel_rfl) hG
def pN (e f:AV) (h:AH) (a:Am->AH->Prop):Prop:=(
 AB (.len e) fun t=>
 AB (.len f) fun u=>
 AB (.bin .neq t u) fun v=>
 AU v
 (a (.ret (.bool false)) h)
 (Ah [0,1,5] (fun s=>(fun(d r c:AV) (b:AH)=>
 AB (.len d) fun g=>
 AB (.bin .lss c g) fun i=>
 AU i
 (AB (.indexAddrS 1 d c) fun j=>
 AE (.load none j) b fun k=>
 AE (.strOfBytes k) b fun l=>
 AB (.indexAddrS 1 r c) fun m=>
 AE (.load none m) b fun n=>
 AE (.strOfBytes n) b fun o=>
 AB (.bin .neq l o) fun p=>
 AU p
 (a (.ret (.bool false)) b)
 (AB (.bin .add c (I 1)) fun q=>
 s d r q b))
 (a (.ret (.bool true)) b))) (((Ar.set 0 e).set 1 f).set 5 (I 0)) h))
theorem te {v0 v1 h Post}(hG:pN v0 v1 h Post):AP prog 418 [v0,v1] h Post:=tP func418 (by kernel_rfl) (by kernel_rfl) hG
def pM (V W:AV) (h:AH) (c:Am->AH->Prop):Prop:=(
 AQ (.box V) h fun r U=>
 AQ (.box W) U fun s f=>
 AB (.fieldAddr 0 r) fun X=>
 AE (.load none X) f fun Y=>
 AB (.fieldAddr 0 s) fun Z=>
 AE (.load none Z) f fun v7=>
 AB (.bin .neq Y v7) fun R=>
 BF false R (fun(v9 g j k l m d:AV) (o:AH)=>
 AB (.pick R (.cst (.bool true)) d) fun v=>
 AU v
 (c (.ret (.bool false)) o)
 (Ah [2,3,5] (fun t=>(fun(n p e:AV) (a:AH)=>
 AB (.fieldAddr 1 n) fun w=>
 AE (.load none w) a fun x=>
 AB (.len x) fun y=>
 AB (.bin .lss e y) fun z=>
 AU z
 (AB (.fieldAddr 1 n) fun A=>
 AE (.load none A) a fun B=>
 AB (.indexAddrS 2 B e) fun C=>
 AE (.load (some 2) C) a fun D=>
 AB (.fieldAddr 1 p) fun E=>
 AE (.load none E) a fun G=>
 AB (.indexAddrS 2 G e) fun L=>
 AE (.load (some 2) L) a fun M=>
 AB (.eq true (.wide (true,[.b,(.i .u8)])) D M) fun O=>
 AU O
 (c (.ret (.bool false)) a)
 (AB (.bin .add e (I 1)) fun Q=>
 t n p Q a))
 (c (.ret (.bool true)) a))) (((Ar.set 2 r).set 3 s).set 5 (I 0)) o)) (fun q=>
 AB (.fieldAddr 1 r) fun g=>
 AE (.load none g) f fun j=>
 AB (.len j) fun k=>
 AB (.fieldAddr 1 s) fun l=>
 AE (.load none l) f fun m=>
 AB (.len m) fun d=>
 AB (.bin .neq k d) fun u=>
 q g j k l m d u f) (fun q=>q Ad Ad Ad Ad Ad Ad Ad f))
theorem td {v0 v1 h Post}(hG:pM v0 v1 h Post):AP prog 419 [v0,v1] h Post:=tP func419 (by kernel_rfl) (by kernel_rfl) hG
end
section
open Go Go.AL
variable [BX]
def wE (n u:AV) (h:AH) (a:Am->AH->Prop):Prop:=(
 AG prog 91 [n] h (yp a) fun i b=>
 AB (.bin .lss i (I 0)) fun v=>
 AU v
 (AB (.build [(I 0)] [(0,1,(I 4))]) fun j=>
 CF (.ifc 139 j) b (yp a))
 (AB (.nilCheck n) fun j=>
 AB (.fieldAddr 0 j) fun w=>
 AE (.load none w) b fun x=>
 AB (.len x) fun y=>
 AB (.bin .gtr i y) fun z=>
 AU z
 (AB (.build [(I 0)] [(0,1,(I 5))]) fun A=>
 CF (.ifc 139 A) b (yp a))
 (Ah [1,6,22,23] (fun t=>(fun(d e f g:AV) (c:AH)=>
 AB (.bin .lss g f) fun o=>
 AU o
 (DT prog d [] c (yp a) fun p k=>
 AQ (.buildSlice 1 1 [(I 0)] [(0,1,p)]) k fun q l=>
 AQ (.append 1 8 e q) l fun r m=>
 AB (.bin .add g (I 1)) fun s=>
 t d r f s m)
 (a (.ret e) c))) ((((Ar.set 1 u).set 6 .nils).set 22 i).set 23 (I 0)) b)))
theorem tx {v0 v1 h Post}(hG:wE v0 v1 h Post):AP prog 197 [v0,v1] h Post:=tP func197 (by kernel_rfl) (by kernel_rfl) hG
def wB (n u:AV) (h:AH) (a:Am->AH->Prop):Prop:=(
 AG prog 91 [n] h (yp a) fun i b=>
 AB (.bin .lss i (I 0)) fun v=>
 AU v
 (AB (.build [(I 0)] [(0,1,(I 4))]) fun j=>
 CF (.ifc 139 j) b (yp a))
 (AB (.nilCheck n) fun j=>
 AB (.fieldAddr 0 j) fun w=>
 AE (.load none w) b fun x=>
 AB (.len x) fun y=>
 AB (.bin .gtr i y) fun z=>
 AU z
 (AB (.build [(I 0)] [(0,1,(I 5))]) fun A=>
 CF (.ifc 139 A) b (yp a))
 (Ah [1,6,22,23] (fun t=>(fun(d e f g:AV) (c:AH)=>
 AB (.bin .lss g f) fun o=>
 AU o
 (DT prog d [] c (yp a) fun p k=>
 AQ (.buildSlice 2 1 [(.bool false),(N .u8 0)] [(0,2,p)]) k fun q l=>
 AQ (.append 2 2 e q) l fun r m=>
 AB (.bin .add g (I 1)) fun s=>
 t d r f s m)
 (a (.ret e) c))) ((((Ar.set 1 u).set 6 .nils).set 22 i).set 23 (I 0)) b)))
theorem tp {v0 v1 h Post}(hG:wB v0 v1 h Post):AP prog 307 [v0,v1] h Post:=tP func307 (by kernel_rfl) (by kernel_rfl) hG
def wA (c:AV) (h:AH) (a:Am->AH->Prop):Prop:=(
 AQ (.alloc [(.bool false),(N .u8 0)]) h fun d e=>
 AG prog 189 [c] e (yp a) fun i f=>
 AG prog 184 [c] f (yp a) fun j g=>
 AB (.build [(.bool false),(N .u8 0)] [(0,1,i),(1,1,j)]) fun k=>
 AQ (.store 2 d k) g fun m b=>
 AE (.load (some 2) d) b fun l=>
 a (.ret l) b)
theorem tm {v0 h Post}(hG:wA v0 h Post):AP prog 308 [v0] h Post:=tP func308 (by kernel_rfl) (by kernel_rfl) hG
end
end Go.Proofs.YtlmkmpomgdbjhaaGreatDoor
namespace Go.AL
section
open Co
variable [BX] {P:Program}
inductive TZ (H:AH) (p:Nat):List UInt8->AV->Prop
 | nils:TZ H p [] .nils
 | sim (b:List UInt8) (ex:Bool):TZ H p b (.sim (b.map bv) b.length ex)
 | own {b:List UInt8} {r o:Nat} {l:SI} {c:List AV} (hlt:r<p) (hc:H.get r=some (.cells c)) (ho:(c.drop o).take b.length=b.map bv) (hl:∀m,l=.ex m->b.length<=m) (hes:∀es,l=.op es->es=1):TZ H p b (.sl r o b.length l)
structure Rd (H:AH) (p:Nat) (b:List UInt8):Prop where
 lt:p<H.next
 len:b.length<274877906944
 inp:∃v,H.get p=some (.cells [v])/\TZ H p b v
structure FT (H:AH) (p:Nat) (H':AH):Prop where
 nx:H.next<=H'.next
 get:∀q,q<H.next->q≠p->H'.get q=H.get q
 gl:H'.gl=H.gl
theorem FT.refl (H:AH) (p:Nat):FT H p H:=⟨A5 _,fun _ _ _=>rfl,rfl⟩
theorem FT.trans {H H1 H2:AH}{p:Nat}(h1:FT H p H1) (h2:FT H1 p H2):FT H p H2:=
 ⟨Cs h1.nx h2.nx,fun q hq hp=>by rw[h2.get q (DD hq h1.nx) hp,h1.get q hq hp],h2.gl.trans h1.gl⟩
def jb:Er->Int
 | .form=>4
 | .short=>5
def fail (e:Er):AV:=.ifc 139 (.agg [.int .i64 (jb e)])
def Ch {α:Type}(H:AH) (p:Nat) (res:Rs α) (ok:α->AV->AH->Prop):Am->AH->Prop:=fun o H'=>FT H p H'/\match res with
 | .ok d r=>∃x,o=.ret x/\ok d x H'/\Rd H' p r
 | .err e=>o=.Bi (fail e)/\∃r,Rd H' p r
theorem TZ.len {H:AH}{p:Nat}{b:List UInt8}{v:AV}(h:TZ H p b v):AI (.len (.cst v)) emp=some (.int .i64 (b.length:Int)):=by
 cases h<;>rfl
theorem TZ.first {H:AH}{p:Nat}{x:UInt8}{b:List UInt8}{v:AV}(h:TZ H p (x::b) v):∃a,AI (.indexAddrS 1 (.cst v) (.cst (I 0))) emp=some a/\AZ (.load none (.cst a)) emp H=some (bv x):=by
 cases h with
 | sim _ ex=>
  refine⟨.pim ((x::b).map bv) 0,?_,?_⟩
  ·simp[AI,AF.ev,E0,I]
  ·simp[AZ,BC,AF.ev,apart]
 | own hlt hc ho hl hes=>
  rename_i r o l c
  refine⟨.ptr r o,?_,?_⟩
  ·simp[AI,AF.ev,E0,I]
  ·have h0:c[o]?=some (bv x):=by
    have h1:=congrArg (·[0]?) ho
    simp only[BV,B6,EU]at h1
    rw[EE,if_pos (by omega),DX]at h1
    simpa using h1
   simp[AZ,BC,AF.ev,AH.cells?,hc,apart,h0]
theorem TZ.rest {H:AH}{p:Nat}{x:UInt8}{b:List UInt8}{v:AV}(h:TZ H p (x::b) v):∃v',AI (.sliceS 1 (.cst v) (some (.cst (I 1))) none none) emp=some v'/\TZ H p b v':=by
 cases h with
 | sim _ ex=>
  refine⟨.sim (b.map bv) b.length ex,?_,.sim b ex⟩
  have h1:((b.length:Int)+1-1).toNat=b.length:=by omega
  have h2:(1:Int)<=(b.length:Int)+1:=by omega
  simp only[AI,AF.ints,AF.ev,I,M7,B6,BV]
  simp[h1]
  exact⟨by omega,Ac (by simp)⟩
 | own hlt hc ho hl hes=>
  rename_i r o l c
  have ho':(c.drop (o+1)).take b.length=b.map bv:=by
   have h1:=congrArg (List.drop 1) ho
   simp only[BV,B6,List.drop_succ_cons,B_]at h1
   rw[E9,C0]at h1
   simpa using h1
  cases l with
  | ex m=>
   have hm:b.length+1<=m:=hl m rfl
   refine⟨.sl r (o+1) b.length (.ex (m-1)),?_,.own hlt hc ho' (fun m' hm'=>by cases hm';omega) (fun es h=>by cases h)⟩
   simp only[AI,AF.ints,AF.ev,I,M7,BV]
   simp
   omega
  | op es=>
   have he:es=1:=hes es rfl
   subst he
   refine⟨.sl r (o+1) b.length (.op 1),?_,.own hlt hc ho' (fun m' hm'=>by cases hm') (fun es h=>by cases h;rfl)⟩
   simp only[AI,AF.ints,AF.ev,I,M7,BV]
   simp
   omega
theorem TZ.GI {H H':AH}{p:Nat}{b:List UInt8}{v:AV}(h:TZ H p b v) (hp:p<H.next) (hk:∀q,q<p->H'.get q=H.get q):TZ H' p b v:=by
 cases h with
 | nils=>exact .nils
 | sim _ ex=>exact .sim b ex
 | own hlt hc ho hl hes=>exact .own hlt (by rw[hk _ hlt];exact hc) ho hl hes
theorem TZ.sc {H:AH}{p k:Nat}{b:List UInt8}{v:AV}(h:TZ H p b v) (hp:p<k):Sc k v:=by
 cases h with
 | nils=>exact .nils
 | sim _ ex=>exact .sim (HK.Ii fun x hx=>by obtain⟨y,_,rfl⟩:=Bt.1 hx;exact .int _ _)
 | own hlt _ _ _ _=>exact .sl (by omega)
theorem Rd.GI {H H':AH}{p:Nat}{b:List UInt8}(h:Rd H p b) (hn:p<H'.next) (hk:∀q,q<=p->H'.get q=H.get q):Rd H' p b:=by
 obtain⟨h1,h2,v,h3,h4⟩:=h
 exact⟨hn,h2,v,by rw[hk _ (A5 _)];exact h3,h4.GI h1 fun q hq=>hk q (Nat.le_of_lt hq)⟩
end
end Go.AL
namespace Go.Proofs.YtlmkmpomgdbjhaaGreatDoor
open Tryz
section
open Go Go.AL Go.AL.Co
variable [BX]
theorem fq {H:AH}{p:Nat}{b:List UInt8}(hR:Rd H p b):AP prog 184 [.ptr p 0] H (Ch H p (CN b) fun x v _=>v=bv x):=by
 have hR0:=hR
 obtain⟨hlt,hlen,v,hp,hi⟩:=hR
 refine uK ?_
 unfold pe
 have hld:AZ (.load none (.cst (.ptr p 0))) emp H=some v:=by simp[AZ,BC,AF.ev,AH.cells?,hp,apart]
 refine AA (v:=.ptr p 0) rfl (AA (v:=.ptr p 0) rfl (AX hld (AA hi.len ?_)))
 cases b with
 | nil=>
  refine AA (v:=.bool true) rfl (B3 (fun _=>?_) (fun h=>by cases h))
  refine AA (v:=.agg [.int .i64 5]) (by rfl) ?_
  exact⟨FT.refl _ _,rfl,_,hR0⟩
 | cons x b=>
  refine AA (v:=.bool false) (by
   show some (AV.bool ((((x::b).length:Nat):Int)==0))=_
   have:¬(((x::b).length:Nat):Int)=0:=by simp only[BV];omega
   simp;omega) (B3 (fun h=>by cases h) (fun _=>?_))
  obtain⟨a,h1,h2⟩:=hi.first
  obtain⟨v',h3,h4⟩:=hi.rest
  refine AA (v:=.ptr p 0) rfl (AA (v:=.ptr p 0) rfl (AX hld (AA h1 (AX h2 ?_))))
  refine AA (v:=.ptr p 0) rfl (AA (v:=.ptr p 0) rfl (AX hld (AA h3 ?_)))
  refine AA (v:=.ptr p 0) rfl (AA (v:=.ptr p 0) rfl ?_)
  have hv1:v'.cellsOf=some [v']:=by cases h4<;>rfl
  refine Ap (v:=.unk) (H':=H.set p (.cells [v'])) (by simp[BL,AF.ev,AH.cells?,hp,hv1,As]) ?_
  have hk:FT H p (H.set p (.cells [v'])):=⟨by simp,fun q _ hq=>by simp[AH.AY,hq],rfl⟩
  have hk':∀q,q<p->(H.set p (.cells [v'])).get q=H.get q:=fun q hq=>by
   have:q≠p:=by omega
   simp[AH.AY,this]
  exact⟨hk,bv x,rfl,rfl,by simpa using hlt,by simp only[BV]at hlen;omega,v',by simp[AH.AY],h4.GI hlt hk'⟩
end
end Go.Proofs.YtlmkmpomgdbjhaaGreatDoor
namespace Go.AL
section
open Co
variable [BX] {P:Program}
theorem Fe {n:Nat}(h:n<18446744073709551616):IntKind.u64.wrap (n:Int)=(n:Int):=by
 simp[IntKind.wrap,IntKind.bits,IntKind.signed];omega
theorem cy (k:IntKind) (a b:Nat):Dl .and (.int k (.ofNat a)) (.int k (.ofNat b))=some (.int k (k.wrap (((a &&& b) % NW k:Nat):Int))):=by
 rw[<- MO]
 show(bif kq k k then some (AV.int k (Da k (Nat.mod (Nat.land a b) (NW k))))else none)=_
 rw[IG];cases k<;>rfl
theorem gw (k:IntKind) (a b:Nat):Dl .or (.int k (.ofNat a)) (.int k (.ofNat b))=some (.int k (k.wrap (((a ||| b) % NW k:Nat):Int))):=by
 rw[<- MO]
 show(bif kq k k then some (AV.int k (Da k (Nat.mod (Nat.lor a b) (NW k))))else none)=_
 rw[IG];cases k<;>rfl
theorem aZ {u x i:Nat}(hu:u<2 ^ i):u ||| (x*2 ^ i)=u+x*2 ^ i:=by
 rw[Nat.or_comm,Gy,<- Lx hu];omega
end
end Go.AL
namespace Go.Proofs.YtlmkmpomgdbjhaaGreatDoor
open Tryz
section
open Go Go.AL Go.AL.Co
variable [BX]
theorem ah {u x i:Nat}(hi:i<=9) (hu:u<2 ^ (7*i)) (hx:x<256) (hb:¬(i=9/\1<x)):u+(x % 128)*2 ^ (7*i)<18446744073709551616:=by
 have hm:x % 128<128:=JR _ (by omega)
 rcases B8 i 9 with h | h
 ·have h1:(2:Nat) ^ (7*i)<=2 ^ 56:=HU (by omega) (by omega)
  have h2:(x % 128)*2 ^ (7*i)<=127*2 ^ 56:=Ou (by omega) h1
  have h3:(2:Nat) ^ 56=72057594037927936:=by decide
  omega
 ·have h9:i=9:=by omega
  subst h9
  have hx1:x<=1:=by
   rcases B8 1 x with h | h
   ·exact absurd ⟨rfl,h⟩ hb
   ·exact h
  have h3:(2:Nat) ^ (7*9)=9223372036854775808:=by decide
  rw[h3]at hu ⊢
  have:x % 128=x:=C6 (by omega)
  rw[this]
  have:x*9223372036854775808<=1*9223372036854775808:=DW _ hx1
  omega
theorem je {i:Nat}{x:UInt8}{H:AH}{BAD GOOD:AH->Prop}(hb:(i=9/\1<x.toNat)\/(0<i/\x.toNat=0)->BAD H) (hg:¬((i=9/\1<x.toNat)\/(0<i/\x.toNat=0))->GOOD H) :
  AB (.bin .eql (.cst (.int .i64 (.ofNat i))) (.cst (I 9))) fun v7=>
  BF true v7 (fun(_ v9:AV) (h10:AH)=>
  AB (.pick (.cst v7) (.cst v9) (.cst (.bool false))) fun v11=>
  BF false v11 (fun(_ _ v14:AV) (h15:AH)=>
  BF true v14 (fun(_ v17:AV) (h18:AH)=>
  BF false v11 (fun(v19:AV) (h20:AH)=>
  AB (.pick (.cst v11) (.cst (.bool true)) (.cst v19)) fun v21=>
  AU v21 (BAD h20) (GOOD h20)) (fun J19=>
  AB (.pick (.cst v14) (.cst v17) (.cst (.bool false))) fun v20=>
  J19 v20 h18) (fun J19=>J19 Ad h18)) (fun J16=>
  AB (.bin .eql (.cst (bv x)) (.cst (N .u8 0))) fun v17=>
  J16 (bv x) v17 h15) (fun J16=>J16 Ad Ad h15)) (fun J12=>
  AB (.bin .gtr (.cst (.int .i64 (.ofNat i))) (.cst (I 0))) fun v13=>
  J12 (.int .i64 (.ofNat i)) v13 v13 h10) (fun J12=>J12 Ad Ad Ad h10)) (fun J8=>
  AB (.bin .gtr (.cst (bv x)) (.cst (N .u8 1))) fun v9=>
  J8 (bv x) v9 H) (fun J8=>J8 Ad Ad H):=by
 have q1:AI (.bin .eql (.cst (.int .i64 (.ofNat i))) (.cst (I 9))) emp=some (.bool (decide (i=9))):=by
  show some (AV.bool ((Int.ofNat i)==9))=_
  have:((Int.ofNat i)==(9:Int))=decide (i=9):=by
   by_cases h:i=9
   ·subst h;rfl
   ·have h':¬(Int.ofNat i=9):=fun hh=>h (Int.ofNat.inj hh)
    simp only[h,decide_false,beq_eq_false_iff_ne,ne_eq];exact h'
  rw[this]
 have q2:AI (.bin .gtr (.cst (bv x)) (.cst (N .u8 1))) emp=some (.bool (decide (1<x.toNat))):=by
  show some (AV.bool (decide ((x.toNat:Int)>1)))=_
  congr 2;simp only[decide_eq_decide];omega
 have q3:AI (.bin .gtr (.cst (.int .i64 (.ofNat i))) (.cst (I 0))) emp=some (.bool (decide (0<i))):=by
  show some (AV.bool (decide ((i:Int)>0)))=_
  congr 2;simp only[decide_eq_decide];omega
 have q4:AI (.bin .eql (.cst (bv x)) (.cst (N .u8 0))) emp=some (.bool (decide (x.toNat=0))):=by
  show some (AV.bool ((x.toNat:Int)==0))=_
  have:((x.toNat:Int)==(0:Int))=decide (x.toNat=0):=by
   by_cases h:x.toNat=0
   ·simp[h]
   ·have h':¬((x.toNat:Int)=0):=by omega
    simp only[h,decide_false,beq_eq_false_iff_ne,ne_eq];exact h'
  rw[this]
 have hif:∀t:Bool,(t=true↔(i=9/\1<x.toNat)\/(0<i/\x.toNat=0))->AU (.bool t) (BAD H) (GOOD H):=fun t ht=>B3 (fun h=>hb (ht.1 h)) (fun h=>hg fun hh=>by rw[ht.2 hh]at h;cases h)
 have pk:∀(p a b:Bool),AI (.pick (.cst (.bool p)) (.cst (.bool a)) (.cst (.bool b))) emp=some (.bool (bif p then a else b)):=fun p a b=>by cases p<;>rfl
 have pk1:∀(a:AV) (b:Bool),AI (.pick (.cst (.bool false)) (.cst Ad) (.cst (.bool b))) emp=some (.bool b):=fun a b=>rfl
 have cont:∀t1:Bool,(t1=true↔i=9/\1<x.toNat)->BF false (.bool t1) (fun(_ _ v14:AV) (h15:AH)=>
  BF true v14 (fun(_ v17:AV) (h18:AH)=>
  BF false (.bool t1) (fun(v19:AV) (h20:AH)=>
  AB (.pick (.cst (.bool t1)) (.cst (.bool true)) (.cst v19)) fun v21=>
  AU v21 (BAD h20) (GOOD h20)) (fun J19=>
  AB (.pick (.cst v14) (.cst v17) (.cst (.bool false))) fun v20=>
  J19 v20 h18) (fun J19=>J19 Ad h18)) (fun J16=>
  AB (.bin .eql (.cst (bv x)) (.cst (N .u8 0))) fun v17=>
  J16 (bv x) v17 h15) (fun J16=>J16 Ad Ad h15)) (fun J12=>
  AB (.bin .gtr (.cst (.int .i64 (.ofNat i))) (.cst (I 0))) fun v13=>
  J12 (.int .i64 (.ofNat i)) v13 v13 H) (fun J12=>J12 Ad Ad Ad H):=by
  intro t1 h1
  refine D3 (fun ht=>?_) (fun ht=>?_)
  ·subst ht
   refine AA q3 (D3 (fun h0=>?_) (fun h0=>?_))
   ·refine AA q4 (D3 (fun _=>?_) (fun h=>absurd rfl h))
    refine AA (pk _ _ _) (AA (pk _ _ _) (hif _ ?_))
    rw[h0]
    simp only[cond_true,cond_false,decide_eq_true_eq]
    have h0':0<i:=of_decide_eq_true h0
    constructor
    ·intro h;exact .inr ⟨h0',h⟩
    ·rintro(h | h)
     ·exact absurd (h1.2 h) (by simp)
     ·exact h.2
   ·refine D3 (fun _=>?_) (fun h=>absurd rfl h)
    have h0f:decide (0<i)=false:=by cases hh:decide (0<i)with
     | true=>exact absurd hh h0
     | false=>rfl
    rw[h0f]
    refine AA (v:=.bool false) rfl (AA (pk _ _ _) (hif _ ?_))
    have h0':¬0<i:=of_decide_eq_false h0f
    simp only[cond_false]
    constructor
    ·intro h;cases h
    ·rintro(h | h)
     ·exact absurd (h1.2 h) (by simp)
     ·exact absurd h.1 h0'
  ·have ht1:t1=true:=by cases t1<;>simp at ht ⊢
   subst ht1
   have hh:=h1.1 rfl
   have g1:Mc Ad=some none:=rfl
   show Tm true Ad _ _
   unfold Tm
   simp only[g1]
   refine⟨fun h=>(by cases h),fun _=>?_⟩
   refine D3 (fun h=>by cases h) (fun _=>?_)
   refine AA (v:=.bool true) rfl (hif _ ?_)
   simp only[true_iff];exact .inl hh
 refine AA q1 (D3 (fun h9=>?_) (fun h9=>?_))
 ·refine AA q2 (AA (pk _ _ _) (cont _ ?_))
  rw[h9]
  have h9':i=9:=of_decide_eq_true h9
  simp only[cond_true,decide_eq_true_eq]
  exact⟨fun h=>⟨h9',h⟩,fun h=>h.2⟩
 ·have h9f:decide (i=9)=false:=by cases hh:decide (i=9)with
   | true=>exact absurd hh h9
   | false=>rfl
  rw[h9f]
  refine AA (v:=.bool false) rfl (cont _ ?_)
  have h9':¬i=9:=of_decide_eq_false h9f
  exact⟨fun h=>(by cases h),fun h=>absurd h.1 h9'⟩
set_option maxRecDepth 4000 in
set_option maxHeartbeats 1000000 in
theorem xX {H:AH}{p:Nat}{b:List UInt8}(hR:Rd H p b):AP prog 91 [.ptr p 0] H (Ch H p (M4 b) fun n v _=>v=.int .i64 n):=by
 refine T91 ?_
 unfold ye
 let Iv:AV->AV->AV->AH->Prop:=fun a u' i' H'=>a=.ptr p 0/\∃(i u:Nat) (b':List UInt8),u'=.int .u64 (.ofNat u)/\i'=.int .i64 (.ofNat i)/\i<=9/\u<2 ^ (7*i)/\Rd H' p b'/\FT H p H' /\
  M4 b=(LW i b').bind fun v r=>.ok (OA (u+v*2 ^ (7*i))) r
 let μ:AV->AV->AV->AH->Nat:=fun _ _ d _=>match d with
  | .int _ j=>(10-j).toNat
  | _=>0
 refine⟨Iv,μ,⟨rfl,0,0,b,rfl,rfl,by omega,by decide,hR,FT.refl _ _,?_⟩,?_⟩
 ·simp[M4]
 intro e H5 hI
 obtain⟨e1,i,u,b',e2,e3,hi,hu,hr,hk,hd⟩:=(hI:Iv (e 0) (e 3) (e 4) H5)
 show AG prog 184 [e 0] H5 _ _
 rw[e1,e2,e3]
 refine BK (fq hr) (fun v H6 h6=>?_) (fun v H6 h6=>?_)
 case refine_2=>
  obtain⟨k6,h6⟩:=h6
  cases b' with
  | nil=>
   refine⟨hk.trans k6,?_⟩
   rw[hd];exact h6
  | cons x r=>obtain⟨_,h,_⟩:=h6;cases h
 obtain⟨k6,h6⟩:=h6
 cases b' with
 | nil=>cases h6.1
 | cons x r=>
 obtain⟨v',hv,rfl,hr6⟩:=h6
 cases hv
 have hx:=x.toNat_lt
 refine je (fun hbad=>?_) (fun hgood=>?_)
 ·refine AA (v:=.agg [.int .i64 4]) (by rfl) ?_
  refine⟨hk.trans k6,?_⟩
  rw[hd]
  have:LW i (x::r)=.err .form:=by unfold LW;rw[if_pos hbad]
  rw[this];exact⟨rfl,_,hr6⟩
 have hns:=ah hi hu hx (fun h=>hgood (.inl h))
 have hm:x.toNat % 128<128:=JR _ (by omega)
 have s1:AI (.bin .and (.cst (bv x)) (.cst (N .u8 127))) emp=some (.int .u8 (.ofNat (x.toNat % 128))):=by
  show Dl .and (.int .u8 (.ofNat x.toNat)) (.int .u8 (.ofNat 127))=_
  rw[cy,show x.toNat &&& 127=x.toNat % 128 from Ln x.toNat 7,XB]
  show some (AV.int .u8 (((x.toNat % 128 % 256 % 256:Nat)):Int))=_
  rw[C6 (show x.toNat % 128 % 256<256 by omega),C6 (show x.toNat % 128<256 by omega)];rfl
 refine AA s1 (AA (v:=.int .u64 (.ofNat (x.toNat % 128))) (by
  show some (AV.int .u64 (IntKind.u64.wrap ((x.toNat % 128:Nat):Int)))=_
  rw[Fe (by omega)];rfl) ?_)
 refine AA (v:=.int .i64 (.ofNat (7*i))) (by
  show some (AV.int .i64 (IntKind.i64.wrap ((7:Int)*(i:Int))))=_
  rw[DN (by omega)]
  have:(7:Int)*(i:Int)=((7*i:Nat):Int):=by omega
  rw[this];rfl) ?_
 refine AA (v:=.int .u64 (.ofNat (x.toNat % 128*2 ^ (7*i)))) (by
  have h1:(0:Int)<=Int.ofNat (7*i):=KO _
  show(if (0:Int)<=Int.ofNat (7*i)then some (AV.int .u64 (IntKind.u64.wrap (Int.ofNat (x.toNat % 128)*2 ^ (min (Int.ofNat (7*i)).toNat IntKind.u64.bits))))else none)=_
  rw[if_pos h1]
  have h2:min (Int.ofNat (7*i)).toNat IntKind.u64.bits=7*i:=by
   show min (7*i) 64=7*i;omega
  have h3:Int.ofNat (x.toNat % 128)*2 ^ (7*i)=((x.toNat % 128*2 ^ (7*i):Nat):Int):=by simp
  rw[h2,h3,Fe (by omega)];rfl) ?_
 generalize hU:u+x.toNat % 128*2 ^ (7*i)=U at hns
 refine AA (v:=.int .u64 (.ofNat U)) (by
  show Dl .or (.int .u64 (.ofNat u)) (.int .u64 (.ofNat (x.toNat % 128*2 ^ (7*i))))=_
  rw[gw,aZ hu,hU]
  show some (AV.int .u64 (IntKind.u64.wrap ((U % 18446744073709551616:Nat):Int)))=_
  rw[C6 hns,Fe hns];rfl) ?_
 refine AA (v:=.bool (decide (x.toNat<128))) (by
  show some (AV.bool (decide ((x.toNat:Int)<128)))=_
  congr 2;simp only[decide_eq_decide];omega) ?_
 refine B3 (fun hl=>?_) (fun hl=>?_)
 ·have hl:x.toNat<128:=of_decide_eq_true hl
  have hdu:LW i (x::r)=.ok x.toNat r:=by unfold LW;rw[if_neg hgood,if_pos hl]
  rw[C6 hl]at hU
  have hres:M4 b=.ok (OA U) r:=by rw[hd,hdu,<- hU];rfl
  have p1:AI (.bin .and (.cst (.int .u64 (.ofNat U))) (.cst (N .u64 1))) emp=some (.int .u64 (.ofNat (U % 2))):=by
   show Dl .and (.int .u64 (.ofNat U)) (.int .u64 (.ofNat 1))=_
   rw[cy,show U &&& 1=U % 2 from Ln U 1]
   show some (AV.int .u64 (IntKind.u64.wrap ((U % 2 % 18446744073709551616:Nat):Int)))=_
   rw[C6 (show U % 2<18446744073709551616 by omega),Fe (by omega)];rfl
  have p2:AI (.bin .shr (.cst (.int .u64 (.ofNat U))) (.cst (N .u64 1))) emp=some (.int .u64 (.ofNat (U / 2))):=by
   show some (AV.int .u64 ((U:Int).fdiv (2 ^ 1)))=_
   rw[E6 _ (by decide)]
   have:(U:Int) / 2 ^ 1=((U / 2:Nat):Int):=by simp
   rw[this];rfl
  have p3:AI (.convI .i64 (.cst (.int .u64 (.ofNat (U / 2))))) emp=some (.int .i64 (.ofNat (U / 2))):=by
   show some (AV.int .i64 (IntKind.i64.wrap ((U / 2:Nat):Int)))=_
   rw[DN (by omega)];rfl
  refine AA p1 (AA (v:=.bool (decide (U % 2=1))) (by
   show some (AV.bool (((U % 2:Nat):Int)==1))=_
   have:(((U % 2:Nat):Int)==(1:Int))=decide (U % 2=1):=by
    by_cases h:U % 2=1
    ·simp[h]
    ·have h':¬(((U % 2:Nat):Int)=1):=by omega
     simp only[h,decide_false,beq_eq_false_iff_ne,ne_eq];exact h'
   rw[this]) (B3 (fun ho=>?_) (fun ho=>?_)))
  ·have ho:U % 2=1:=of_decide_eq_true ho
   refine AA p2 (AA p3 (AA (v:=.int .i64 (OA U)) ?_ ?_))
   ·have hz:OA U=-((U / 2:Nat):Int)-1:=by unfold OA;rw[if_pos ho]
    rw[hz]
    show some (AV.int .i64 (IntKind.i64.wrap (((BitVec.ofInt 64 (-1) ^^^ BitVec.ofInt 64 ((U / 2:Nat):Int)).toNat:Nat):Int)))=_
    rw[xor_not,Gp]
    congr 2
    split<;>omega
   ·refine⟨hk.trans k6,?_⟩
    rw[hres]
    exact⟨_,rfl,rfl,hr6⟩
  ·have ho:¬U % 2=1:=of_decide_eq_false ho
   refine AA p2 (AA p3 ⟨hk.trans k6,?_⟩)
   rw[hres]
   refine⟨_,rfl,?_,hr6⟩
   have hz:OA U=((U / 2:Nat):Int):=by unfold OA;rw[if_neg ho]
   rw[hz];rfl
 ·have hl:¬x.toNat<128:=of_decide_eq_false hl
  have hi9:i<9:=by
   rcases B8 i 9 with h | h
   ·exact h
   ·exact absurd (Or.inl ⟨by omega,by omega⟩) hgood
  have hdu:LW i (x::r)=(LW (i+1) r).bind fun v r'=>.ok (x.toNat-128+128*v) r':=by
   conv=>lhs;unfold LW
   rw[if_neg hgood,if_neg hl]
  have hxm:x.toNat % 128=x.toNat-128:=by omega
  refine AA (v:=.int .i64 (.ofNat (i+1))) (by
   show some (AV.int .i64 (IntKind.i64.wrap ((i:Int)+1)))=_
   rw[DN (by omega)];rfl) ?_
  have hp:(2:Nat) ^ (7*(i+1))=128*2 ^ (7*i):=by rw[O6,Tg];omega
  refine⟨⟨rfl,i+1,U,r,rfl,rfl,by omega,?_,hr6,hk.trans k6,?_⟩,?_⟩
  ·rw[hp,<- hU]
   have:x.toNat % 128*2 ^ (7*i)<=127*2 ^ (7*i):=DW _ (by omega)
   omega
  ·rw[hd,hdu]
   cases LW (i+1) r with
   | err er=>rfl
   | ok v r'=>
    show Rs.ok (OA (u+(x.toNat-128+128*v)*2 ^ (7*i))) r'=Rs.ok (OA (U+v*2 ^ (7*(i+1)))) r'
    have:u+(x.toNat-128+128*v)*2 ^ (7*i)=U+v*2 ^ (7*(i+1)):=by
     rw[hp,<- hU,hxm,EG,Gy 128 v,Nat.mul_assoc];omega
    rw[this]
  ·show((10:Int)-Int.ofNat (i+1)).toNat<μ (e 0) (e 3) (e 4) H5
   rw[e3]
   show((10:Int)-((i+1:Nat):Int)).toNat<((10:Int)-(i:Int)).toNat
   omega
end
end Go.Proofs.YtlmkmpomgdbjhaaGreatDoor
namespace Go.AL
section
open Co
variable [BX] {P:Program}
theorem Ch.mono {α:Type}{H:AH}{p:Nat}{res:Rs α}{ok ok':α->AV->AH->Prop}(h:∀d x H',ok d x H'->ok' d x H'){o:Am}{H':AH}(hp:Ch H p res ok o H'):Ch H p res ok' o H':=by
 obtain⟨h1,h2⟩:=hp
 refine⟨h1,?_⟩
 cases res with
 | err e=>exact h2
 | ok d r=>obtain⟨x,q1,q2,q3⟩:=h2;exact⟨x,q1,h _ _ _ q2,q3⟩
theorem Ch.scope {α:Type}{g:FuncId}{ar:List AV}{H:AH}{p:Nat}{b:List UInt8}{res:Rs α}{ok ok':α->AV->AH->Prop}(hR:Rd H p b) (h:AP P g ar H (Ch H p res ok))
  (hok:∀d x H',FT H p H'->ok d x H'->∃y,GS H' H.next x y/\∀H'',ok' d y H''):AP P g ar H (Ch H p res ok'):=by
 refine AP.scope (fun _ _=>h) h.1 fun _ htop o H' hp=>?_
 obtain⟨hk,hp⟩:=hp
 have hlt:=hR.lt
 have hcut:∀q,q<H.next->(H'.cut H.next H.gl).get q=H'.get q:=fun q hq=>by simp[AH.cut,hq]
 have hkc:FT H p (H'.cut H.next H.gl):=⟨A5 _,fun q hq hqp=>by rw[hcut q hq];exact hk.get q hq hqp,rfl⟩
 have hrd:∀r,Rd H' p r->Rd (H'.cut H.next H.gl) p r:=fun r hr=>hr.GI hlt fun q hq=>hcut q (by omega)
 have hsc:∀r,Rd H' p r->∀q o,q<H.next->H'.get q=some o->H.get q=some o\/lT H.next o:=fun r hr q o hq ho=>by
  by_cases hqp:q=p
  ·subst hqp
   obtain⟨_,_,v,h3,h4⟩:=hr
   rw[h3]at ho
   cases ho
   exact .inr (.cons (h4.sc hlt) .nil)
  ·exact .inl (by rw[<- hk.get q hq hqp];exact ho)
 cases res with
 | err e=>
  obtain⟨rfl,r,hr⟩:=hp
  exact⟨.Bi (fail e),.low (.ifc (.agg (.cons (.int _ _) .nil))),hsc r hr,hkc,rfl,r,hrd r hr⟩
 | ok d r=>
  obtain⟨x,rfl,h1,hr⟩:=hp
  obtain⟨y,h2,h3⟩:=hok d x H' hk h1
  exact⟨.ret y,h2,hsc r hr,hkc,y,rfl,h3 _,hrd r hr⟩
theorem VO (k:Nat):∀(t:Ty) (d:t.D) (c:List AV),RX t d c->HK k c
 | .int,d,c,h=>by have h:c=_:=h;subst h;exact .cons (.int _ _) .nil
 | .byte,d,c,h=>by have h:c=_:=h;subst h;exact .cons (.int _ _) .nil
 | .bool,d,c,h=>by have h:c=_:=h;subst h;exact .cons (.bool _) .nil
 | .list t,l,c,h=>by
  obtain⟨v,cs,rfl,hf,css,hcc,hl,hc⟩:=h
  refine .cons ?_ .nil
  generalize hln:(Cm l).length=ln at hf
  cases hf with
  | nil=>exact .nils
  | sim _ _=>
   subst hcc
   refine .sim (HK.Ii fun x hx=>?_)
   obtain⟨y,hy,hxy⟩:=Ow.1 hx
   obtain⟨i,hi⟩:=Cd hy
   have hlt:i<css.length:=by
    rcases B8 i css.length with h | h
    ·exact h
    ·rw[BM h]at hi;cases hi
   have hx:(Cm l)[i]?=some ((Cm l)[i]'(by omega)):=Ak (by omega)
   exact(VO k t _ _ (hc i _ y hx hi)).mem hxy
 | .pair a b,d,c,h=>by
  obtain⟨c1,c2,rfl,h1,h2⟩:=h
  exact HK.Ii fun x hx=>by
   rcases BW.1 hx with h | h
   ·exact(VO k a _ _ h1).mem h
   ·exact(VO k b _ _ h2).mem h
 | .vec n,d,c,h=>by
  obtain⟨_,h2,h3⟩:=h
  refine HK.Ii fun x hx=>?_
  obtain⟨i,hi⟩:=Cd hx
  have hlt:i<n / 8:=by
   rcases B8 i c.length with h | h
   ·omega
   ·rw[BM h]at hi;cases hi
  rw[h3 i hlt]at hi
  cases hi;exact .int _ _
def RV (t:Ty) (d:t.D) (x:AV):Prop:=∃c,x.cellsOf=some c/\RX t d c
def One (P:Program) (L:List (Nat × List AV)) (p:Nat) (fv:AV) (t:Ty):Prop:=∀H b,Rd H p b->(∀x∈L,x.1<H.next/\x.1≠p/\H.get x.1=some (.cells x.2))->HJ P fv [] H (Ch H p (t.dec b) fun d x _=>RV t d x)
def fN (P:Program) (k bytes:Nat) (z:List AV) (v0 v1:AV) (h:AH) (Post:Am->AH->Prop):Prop:=(
 AG P 91 [v0] h (yp Post) fun v2 h2=>
 AB (.bin .lss (.cst v2) (.cst (I 0))) fun v3=>
 AU v3
 (AB (.build [(I 0)] [(0,1,(.cst (I 4)))]) fun v4=>
 CF (.ifc 139 v4) h2 (yp Post))
 (AB (.nilCheck (.cst v0)) fun v4=>
 AB (.fieldAddr 0 (.cst v4)) fun v5=>
 AE (.load none (.cst v5)) h2 fun v6=>
 AB (.len (.cst v6)) fun v7=>
 AB (.bin .gtr (.cst v2) (.cst v7)) fun v8=>
 AU v8
 (AB (.build [(I 0)] [(0,1,(.cst (I 5)))]) fun v9=>
 CF (.ifc 139 v9) h2 (yp Post))
 (Ah [1,6,22,23] (fun J9=>(fun(v10 v11 v12 v13:AV) (h14:AH)=>
 AB (.bin .lss (.cst v13) (.cst v12)) fun v15=>
 AU v15
 (DT P v10 [] h14 (yp Post) fun v16 h16=>
 AQ (.buildSlice k 1 z [(0,k,(.cst v16))]) h16 fun v17 h17=>
 AQ (.append k bytes (.cst v11) (.cst v17)) h17 fun v18 h18=>
 AB (.bin .add (.cst v13) (.cst (I 1))) fun v19=>
 J9 v10 v18 v12 v19 h18)
 (Post (.ret v11) h14))) ((((Ar.set 1 v1).set 6 .nils).set 22 v2).set 23 (I 0)) h2)))
def Own (H0 H:AH) (k:Nat) (n:Nat) (v:AV) (cs:List AV):Prop:=(n=0/\v=.nils/\cs=[])\/(∃r,H0.next<=r/\r<H.next/\v=.sl r 0 n (.op k)/\H.get r=some (.cells cs)/\0<n)
theorem Own.GI {H0 H H':AH}{k n p:Nat}{v:AV}{cs:List AV}(h:Own H0 H k n v cs) (hk:FT H p H') (hp:p<H0.next):Own H0 H' k n v cs:=by
 rcases h with h | ⟨r,h1,h2,h3,h4,h5⟩
 ·exact .inl h
 ·exact .inr ⟨r,h1,DD h2 hk.nx,h3,by rw[hk.get r h2 (by omega)];exact h4,h5⟩
theorem eV {H0 H:AH}{p k bytes n:Nat}{z c cs:List AV}{v x:AV}{b:List UInt8}{K:AV->AH->Prop}(ho:Own H0 H k n v cs) (hcs:cs.length=n*k) (hR:Rd H p b) (hp:p<H0.next) (hk0:FT H0 p H)
  (hz:z.length=k) (hx:x.cellsOf=some c) (hc:c.length=k) (hn:n<274877906944) (hby:bytes<=500)
  (hK:∀v' H',Own H0 H' k (n+1) v' (cs++c)->Rd H' p b->FT H0 p H'->K v' H') :
  AQ (.buildSlice k 1 z [(0,k,(.cst x))]) H fun v17 h17=>AQ (.append k bytes (.cst v) (.cst v17)) h17 K:=by
 have hnx:=hk0.nx
 have hlt:=hR.lt
 have hd:z.drop k=[]:=Bu (by omega)
 refine Ap (v:=.sl H.next 0 1 (.ex 1)) (H':=H.push (.cells c)) (by
  simp[BL,B5,AF.ev,hx,hc,hz,hd]) ?_
 have hb:(n+1)*bytes<=140737488355328:=by
  have:(n+1)*bytes<=274877906944*500:=Ou (by omega) hby
  omega
 have htk:c.take k=c:=Ac (by omega)
 rcases ho with⟨rfl,rfl,rfl⟩ | ⟨r,h1,h2,rfl,h4,_⟩
 ·have hb':bytes<=140737488355328:=by omega
  refine Ap (v:=.sl (H.next+1) 0 1 (.op k)) (H':=(H.push (.cells c)).push (.cells c)) (by
   simp[BL,AF.ev,Bx,Aj,AH.cells?,AH.Af,hc,htk,hb']) ?_
  have hold:∀q,q<H.next->((H.push (.cells c)).push (.cells c)).get q=H.get q:=fun q hq=>by
   have e1:q≠H.next:=by omega
   have e2:q≠H.next+1:=by omega
   simp[AH.Af,e1,e2]
  refine hK _ _ (.inr ⟨H.next+1,by omega,by simp,rfl,by simp[AH.Af],JU _⟩) (hR.GI (by simp;omega) fun q hq=>hold q (by omega)) ⟨by simp;omega,fun q hq hqp=>?_,hk0.gl⟩
  rw[hold q (by omega)];exact hk0.get q hq hqp
 ·have e3:r≠H.next:=by omega
  have htk2:cs.take (n*k)=cs:=Ac (by omega)
  refine Ap (v:=.sl (H.next+1) 0 (n+1) (.op k)) (H':=((H.push (.cells c)).erase r).push (.cells (cs++c))) (by
   have hn1:n+1<=9223372036854775807:=by omega
   simp[BL,AF.ev,Bx,Aj,AH.cells?,AH.Af,hc,htk,h4,e3,hcs,hb,htk2,hn1]) ?_
  have hold:∀q,q<H.next->q≠r->(((H.push (.cells c)).erase r).push (.cells (cs++c))).get q=H.get q:=fun q hq hqr=>by
   have e1:q≠H.next:=by omega
   have e2:q≠H.next+1:=by omega
   simp[AH.Af,AH.get_erase,e1,e2,hqr]
  refine hK _ _ (.inr ⟨H.next+1,by omega,by simp,rfl,by simp[AH.Af],JU _⟩) (hR.GI (by simp;omega) fun q hq=>hold q (by omega) (by omega)) ⟨by simp;omega,fun q hq hqp=>?_,hk0.gl⟩
  rw[hold q (by omega) (by omega)];exact hk0.get q hq hqp
def xZ (P:Program):Prop:=∀{H:AH}{p:Nat}{b:List UInt8},Rd H p b->AP P 91 [.ptr p 0] H (Ch H p (M4 b) fun n v _=>v=.int .i64 n)
def fu (H0:AH) (t:Ty) (l:(Ty.list t).D) (v:AV) (H:AH):Prop:=∃css:List (List AV),Own H0 H (C9 t) (Cm l).length v css.flatten/\css.length=(Cm l).length/\∀(i:Nat) (x:t.D) (y:List AV),(Cm l)[i]?=some x->css[i]?=some y->RX t x y
theorem Rd.ld {H:AH}{p:Nat}{b:List UInt8}(h:Rd H p b):∃v,AZ (.load none (.cst (.ptr p 0))) emp H=some v/\AI (.len (.cst v)) emp=some (.int .i64 (b.length:Int)):=by
 obtain⟨_,_,v,h3,h4⟩:=h
 exact⟨v,by simp[AZ,BC,AF.ev,AH.cells?,h3,apart],h4.len⟩
set_option maxHeartbeats 1000000 in
theorem Xp (h63:xZ P){t:Ty}{bytes:Nat}{z:List AV}(hz:z.length=C9 t) (hby:bytes<=500){L:List (Nat × List AV)}{H:AH}{p:Nat}{b:List UInt8}{fv:AV}(hR:Rd H p b)
  (hL:∀x∈L,x.1<H.next/\x.1≠p/\H.get x.1=some (.cells x.2)) (hf:One P L p fv t):fN P (C9 t) bytes z (.ptr p 0) fv H (Ch H p ((Ty.list t).dec b) (fu H t)):=by
 obtain⟨res,hres⟩:∃res,res=(Ty.list t).dec b:=⟨_,rfl⟩
 rw[<- hres]
 have hres:res=(M4 b).bind (fun n r=>if n<0 then .err .form else if (r.length:Int)<n then .err .short else many t.dec n.toNat r):=hres
 unfold fN
 refine BK (h63 hR) (fun v H1 h1=>?_) (fun v H1 h1=>?_)
 case refine_2=>
  obtain⟨k1,h1⟩:=h1
  cases hd:M4 b with
  | ok n r=>rw[hd]at h1;obtain⟨_,h,_⟩:=h1;cases h
  | err e=>
   rw[hd]at h1 hres
   refine⟨k1,?_⟩
   rw[hres];exact h1
 obtain⟨k1,h1⟩:=h1
 cases hd:M4 b with
 | err e=>rw[hd]at h1;cases h1.1
 | ok n r=>
 rw[hd]at h1 hres
 obtain⟨v',hv,rfl,hr⟩:=h1
 cases hv
 have hres:res=if n<0 then .err .form else if (r.length:Int)<n then .err .short else many t.dec n.toNat r:=hres
 refine AA (v:=.bool (decide (n<0))) rfl (B3 (fun h0=>?_) (fun h0=>?_))
 ·refine AA (v:=.agg [.int .i64 4]) (by rfl) ⟨k1,?_⟩
  rw[hres,if_pos (of_decide_eq_true h0)]
  exact⟨rfl,r,hr⟩
 rw[if_neg (of_decide_eq_false h0)]at hres
 have h0:=of_decide_eq_false h0
 obtain⟨vr,q1,q2⟩:=hr.ld
 refine AA (v:=.ptr p 0) rfl (AA (v:=.ptr p 0) rfl (AX q1 (AA q2 ?_)))
 refine AA (v:=.bool (decide (n>(r.length:Int)))) rfl (B3 (fun hg=>?_) (fun hg=>?_))
 ·refine AA (v:=.agg [.int .i64 5]) (by rfl) ⟨k1,?_⟩
  rw[hres,if_pos (of_decide_eq_true hg)]
  exact⟨rfl,r,hr⟩
 rw[if_neg (of_decide_eq_false hg)]at hres
 have hg:=of_decide_eq_false hg
 have hlen:=hr.len
 obtain⟨N,rfl⟩:∃N:Nat,n=(N:Int):=⟨n.toNat,by omega⟩
 rw[Cp]at hres
 have hN:N<274877906944:=by omega
 have hp:=hR.lt
 let Iv:AV->AV->AV->AV->AH->Prop:=fun a v c d H'=>a=fv/\c=.int .i64 (N:Int)/\∃(i:Nat) (l1:List t.D) (css:List (List AV)) (b':List UInt8),d=.int .i64 (i:Int)/\i<=N/\l1.length=i/\css.length=i /\
  (∀(j:Nat) (x:t.D) (y:List AV),l1[j]?=some x->css[j]?=some y->RX t x y)/\Own H H' (C9 t) i v css.flatten/\Rd H' p b'/\FT H p H'/\res=(many t.dec (N-i) b').bind fun l2 r'=>.ok (l1++l2) r'
 let μ:AV->AV->AV->AV->AH->Nat:=fun _ _ _ d _=>match d with
  | .int _ j=>(N-j).toNat
  | _=>0
 refine⟨Iv,μ,⟨rfl,rfl,0,[],[],r,rfl,by omega,rfl,rfl,fun j x y h=>by simp at h,.inl ⟨rfl,rfl,rfl⟩,hr,k1,?_⟩,?_⟩
 ·rw[hres,Nat.sub_zero]
  cases many t.dec N r<;>rfl
 intro e H2 hI
 obtain⟨e1,e3,i,l1,css,b',e4,hi,hl1,hcs,hrc,ho,hr2,k2,hres2⟩:=(hI:Iv (e 1) (e 6) (e 22) (e 23) H2)
 have e2:∃v,e 6=v:=⟨_,rfl⟩
 obtain⟨v,e2⟩:=e2
 show AB (.bin .lss (.cst (e 23)) (.cst (e 22))) _
 rw[e4,e3]
 rw[e2]at ho
 have hcl:∀x∈css,x.length=C9 t:=fun x hx=>by
  obtain⟨j,hj⟩:=Cd hx
  have hlt:j<css.length:=by
   rcases B8 j css.length with h | h
   ·exact h
   ·rw[BM h]at hj;cases hj
  exact Qp t _ _ (hrc j _ x (Ak (by omega)) hj)
 refine AA (v:=.bool (decide ((i:Int)<N))) rfl (B3 (fun ht=>?_) (fun ht=>?_))
 ·have hlt:i<N:=by have:=of_decide_eq_true ht;omega
  rw[e1,e2]
  have hL2:∀x∈L,x.1<H2.next/\x.1≠p/\H2.get x.1=some (.cells x.2):=fun x hx=>by
   obtain⟨q1,q2,q3⟩:=hL x hx
   exact⟨DD q1 k2.nx,q2,by rw[k2.get _ q1 q2];exact q3⟩
  have hni:N-i=(N-(i+1))+1:=by omega
  rw[hni]at hres2
  have hres2:res=((t.dec b').bind fun x r=>(many t.dec (N-(i+1)) r).bind fun l r'=>.ok (x::l) r').bind fun l2 r'=>.ok (l1++l2) r':=hres2
  refine SY (hf H2 b' hr2 hL2) (fun x H3 h3=>?_) (fun x H3 h3=>?_)
  case refine_2=>
   obtain⟨k3,h3⟩:=h3
   cases hd2:t.dec b' with
   | ok d r2=>rw[hd2]at h3;obtain⟨_,h,_⟩:=h3;cases h
   | err er=>
    rw[hd2]at h3 hres2
    refine⟨k2.trans k3,?_⟩
    rw[hres2];exact h3
  obtain⟨k3,h3⟩:=h3
  cases hd2:t.dec b' with
  | err er=>rw[hd2]at h3;cases h3.1
  | ok d r2=>
  rw[hd2]at h3 hres2
  obtain⟨x',hx',⟨c,TD,Us⟩,hr3⟩:=h3
  cases hx'
  have hfl:css.flatten.length=i*C9 t:=by rw[GO css hcl,hcs]
  refine eV (ho.GI k3 hp) hfl hr3 hp (k2.trans k3) hz TD (Qp t d c Us) (by omega) hby fun v' H4 ho4 hr4 k4=>?_
  have hwr:IntKind.i64.wrap ((i:Int)+1)=((i+1:Nat):Int):=by
   rw[DN (by omega)];omega
  refine AA (v:=.int .i64 ((i+1:Nat):Int)) (by show some (AV.int .i64 (IntKind.i64.wrap ((i:Int)+1)))=_;rw[hwr]) ?_
  refine⟨⟨rfl,rfl,i+1,l1++[d],css++[c],r2,rfl,hlt,by simp[hl1],by simp[hcs],fun j x y hj1 hj2=>?_,(by
   have hfe:(css++[c]).flatten=css.flatten++c:=by simp
   show Own H H4 (C9 t) (i+1) v' (css++[c]).flatten
   rw[hfe];exact ho4),hr4,k4,?_⟩,?_⟩
  ·rcases B8 j i with h | h
   ·rw[ED (by omega)]at hj1 hj2
    exact hrc j x y hj1 hj2
   ·rw[De (by omega)]at hj1 hj2
    rw[hl1]at hj1
    rw[hcs]at hj2
    have hj0:j-i=0:=by
     rcases DE (j-i)with h | h
     ·exact h
     ·rw[BM (by simp;omega)]at hj1;cases hj1
    rw[hj0]at hj1 hj2
    cases hj1;cases hj2;exact Us
  ·rw[hres2]
   show Rs.bind (Rs.bind (many t.dec (N-(i+1)) r2) _) _=Rs.bind (many t.dec (N-(i+1)) r2) _
   cases many t.dec (N-(i+1)) r2 with
   | err er=>rfl
   | ok l2 r3=>
    show Rs.ok (l1++d::l2) r3=Rs.ok ((l1++[d])++l2) r3
    rw[Ao];rfl
  ·show((N:Int)-((i+1:Nat):Int)).toNat<μ (e 1) (e 6) (e 22) (e 23) H2
   rw[e4]
   show((N:Int)-((i+1:Nat):Int)).toNat<((N:Int)-(i:Int)).toNat
   omega
 ·have hge:i=N:=by have:=of_decide_eq_false ht;omega
  subst hge
  rw[e2]
  refine⟨k2,?_⟩
  have:res=.ok l1 b':=by rw[hres2,Ia];show Rs.ok (l1++[]) b'=_;rw[DY];rfl
  rw[this]
  refine⟨v,rfl,⟨css,?_,?_,hrc⟩,hr2⟩
  ·show Own H H2 (C9 t) l1.length v css.flatten
   rw[hl1];exact ho
  ·show css.length=l1.length
   omega
theorem fu.QI {H0 H:AH}{t:Ty}{l:(Ty.list t).D}{v:AV}(h:fu H0 t l v H):∃y,GS H H0.next v y/\RX (.list t) l [y]:=by
 obtain⟨css,ho,h2,h3⟩:=h
 have hcl:∀x∈css,x.length=C9 t:=fun x hx=>by
  obtain⟨j,hj⟩:=Cd hx
  have hlt:j<css.length:=by
   rcases B8 j css.length with h | h
   ·exact h
   ·rw[BM h]at hj;cases hj
  exact Qp t _ _ (h3 j _ x (Ak (by omega)) hj)
 have hfl:css.flatten.length=(Cm l).length*C9 t:=by rw[GO css hcl,h2]
 rcases ho with⟨q1,q2,q3⟩ | ⟨r,q1,q2,q3,q4,q5⟩
 ·subst q2
  refine⟨.nils,.low .nils,.nils,css.flatten,rfl,?_,css,rfl,h2,h3⟩
  rw[q1,q3];exact .nil
 ·subst q3
  refine⟨.sim css.flatten (Cm l).length false,.sl (l:=css.flatten) (m:=css.flatten.length) q1 (by simp[AH.cells?,q4]) (by simp) ?_ (fun h=>by rw[hfl,h];simp) (fun h=>by cases h),.sim css.flatten (Cm l).length false,css.flatten,rfl,.sim hfl q5,css,rfl,h2,h3⟩
  rw[B_,Gh]
  refine CH.low (HK.Ii fun x hx=>?_)
  obtain⟨y,hy,hxy⟩:=Ow.1 hx
  obtain⟨i,hi⟩:=Cd hy
  have hlt:i<css.length:=by
   rcases B8 i css.length with h | h
   ·exact h
   ·rw[BM h]at hi;cases hi
  have hx:(Cm l)[i]?=some ((Cm l)[i]'(by omega)):=Ak (by omega)
  exact(VO H0.next t _ _ (h3 i _ y hx hi)).mem hxy
theorem cB {g:FuncId}{ar:List AV}{H:AH}{p:Nat}{b:List UInt8}{t:Ty}(hR:Rd H p b) (h:AP P g ar H (Ch H p ((Ty.list t).dec b) (fu H t))):AP P g ar H (Ch H p ((Ty.list t).dec b) fun l v _=>RX (.list t) l [v]):=
 Ch.scope hR h fun d x H' _ ho=>by
  obtain⟨y,h1,h2⟩:=ho.QI
  exact⟨y,h1,fun _=>h2⟩
end
section
open Co
variable [BX] {P:Program}
structure Ek (H0:AH) (p:Nat) (L:List (Nat × List AV)) (H:AH) (b:List UInt8):Prop where
 rd:Rd H p b
 k:FT H0 p H
 l:∀x∈L,H0.next<=x.1/\x.1<H.next/\H.get x.1=some (.cells x.2)
 p0:p<H0.next
section
variable {H0 H:AH}{p:Nat}{L:List (Nat × List AV)}{b:List UInt8}
theorem Ek.start (h:Rd H p b):Ek H p [] H b:=⟨h,FT.refl _ _,fun x hx=>(by cases hx),h.lt⟩
theorem Ek.push {o:List AV}(s:Ek H0 p L H b):Ek H0 p ((H.next,o)::L) (H.push (.cells o)) b:=by
 have hn:=s.k.nx
 have hp:=s.p0
 have hold:∀q,q<H.next->(H.push (.cells o)).get q=H.get q:=fun q hq=>AH.Ae _ _ (by omega)
 refine⟨s.rd.GI (by simp;omega) fun q hq=>hold q (by omega),⟨by simp;omega,fun q hq hqp=>by rw[hold q (by omega)];exact s.k.get q hq hqp,s.k.gl⟩,fun x hx=>?_,hp⟩
 cases hx with
 | head=>exact⟨hn,by simp,by simp⟩
 | tail _ hx=>
  obtain⟨h1,h2,h3⟩:=s.l x hx
  exact⟨h1,by simp;omega,by rw[hold _ h2];exact h3⟩
theorem Ek.lt {x:Nat × List AV}(s:Ek H0 p L H b) (hx:x∈L):x.1<H.next:=(s.l x hx).2.1
theorem Ek.alloc {z:List AV}{K:AV->AH->Prop}(s:Ek H0 p L H b) (hK:∀q H',Ek H0 p ((q,z)::L) H' b->(∀x∈L,x.1≠q)->K (.ptr q 0) H'):AQ (.alloc z) H K:=
 Ap (v:=.ptr H.next 0) (H':=H.push (.cells z)) rfl (hK _ _ s.push fun x hx=>by have:=s.lt hx;omega)
theorem Ek.box {x:AV}{c:List AV}{K:AV->AH->Prop}(s:Ek H0 p L H b) (hx:x.cellsOf=some c) (hK:∀q H',Ek H0 p ((q,c)::L) H' b->(∀x∈L,x.1≠q)->K (.ptr q 0) H'):AQ (.box (.cst x)) H K:=
 Ap (v:=.ptr H.next 0) (H':=H.push (.cells c)) (by simp[BL,AF.ev,hx]) (hK _ _ s.push fun x hx=>by have:=s.lt hx;omega)
theorem Ek.swap {x y:Nat × List AV}(s:Ek H0 p (x::y::L) H b):Ek H0 p (y::x::L) H b:=⟨s.rd,s.k,fun w hw=>s.l w (by
 simp only[DM]at hw ⊢
 rcases hw with h | h | h
 ·exact .inr (.inl h)
 ·exact .inl h
 ·exact .inr (.inr h)),s.p0⟩
theorem Ek.put {q o n:Nat}{pre z vs:List AV}{x:AV}{K:AV->AH->Prop}(s:Ek H0 p ((q,pre++z.drop o)::L) H b) (hne:∀x∈L,x.1≠q) (hpre:pre.length=o) (hx:x.cellsOf=some vs) (hv:vs.length=n) (hz:o+n<=z.length)
  (hK:∀H',Ek H0 p ((q,(pre++vs)++z.drop (o+n))::L) H' b->(pre++vs).length=o+n->K .unk H'):AQ (.store n (.cst (.ptr q o)) (.cst x)) H K:=by
 obtain⟨h1,h2,h3⟩:=s.l _ (.head _)
 have hp:=s.p0
 have hs:As (pre++z.drop o) o vs=(pre++vs)++z.drop (o+n):=by
  rw[DB (by simp;omega),Dd (by omega),Ac (by omega),Ft,Bu (by omega),B7,C0]
  congr 2;omega
 have hle:o+n<=(pre++z.drop o).length:=by simp;omega
 refine Ap (v:=.unk) (H':=H.set q (.cells ((pre++vs)++z.drop (o+n)))) (by
  simp only[BL,AF.ev,AH.cells?,h3,hx]
  rw[if_pos ⟨hv,hle⟩,hs]) ?_
 have hold:∀r,r≠q->(H.set q (.cells ((pre++vs)++z.drop (o+n)))).get r=H.get r:=fun r hr=>by simp[AH.AY,hr]
 refine hK _ ⟨s.rd.GI (by have:=s.rd.lt;simpa using this) fun r hr=>hold r (by simp only at h1;omega),⟨by simpa using s.k.nx,fun r hr hrp=>by rw[hold r (by simp only at h1;omega)];exact s.k.get r hr hrp,s.k.gl⟩,fun w hw=>?_,hp⟩ (by simp[hpre,hv])
 cases hw with
 | head=>exact⟨h1,by simpa using h2,by simp[AH.AY]⟩
 | tail _ hw=>
  obtain⟨g1,g2,g3⟩:=s.l w (.tail _ hw)
  exact⟨g1,by simpa using g2,by rw[hold _ (hne w hw)];exact g3⟩
theorem Ek.Gk {q n:Nat}{z c:List AV}{K:AV->AH->Prop}(s:Ek H0 p ((q,z)::L) H b) (hne:∀x∈L,x.1≠q) (hv:c.length=n) (hz:z.length=n) (hK:∀H',Ek H0 p ((q,c)::L) H' b->K .unk H') :
  AQ (.store n (.cst (.ptr q 0)) (.cst (.agg c))) H K:=by
 refine Ek.put (pre:=[]) (z:=z) (vs:=c) (by simpa using s) hne rfl rfl hv (by omega) fun H' s' _=>hK H' ?_
 have:z.drop n=[]:=Bu (by omega)
 simpa[this]using s'
theorem Ek.Hc {q k:Nat}{c:List AV}{K:AV->Prop}(s:Ek H0 p L H b) (hm:(q,c)∈L) (hc:c.length=k) (hK:K (.agg c)):AE (.load (some k) (.cst (.ptr q 0))) H K:=by
 obtain⟨_,_,h3⟩:=s.l _ hm
 exact AX (v:=.agg c) (by simp[AZ,BC,AF.ev,AH.cells?,h3,apart,hc];exact Ac (by omega)) hK
theorem Ek.ld {q o:Nat}{c:List AV}{x:AV}{K:AV->Prop}(s:Ek H0 p L H b) (hm:(q,c)∈L) (hx:c[o]?=some x) (hK:K x):AE (.load none (.cst (.ptr q o))) H K:=by
 obtain⟨_,_,h3⟩:=s.l _ hm
 exact AX (v:=x) (by simpa[AZ,BC,AF.ev,AH.cells?,h3,apart]using hx) hK
theorem Ek.fin {α:Type}{res:Rs α}{ok:α->AV->AH->Prop}{d:α}{x:AV}(s:Ek H0 p L H b) (hres:res=.ok d b) (hok:ok d x H):Ch H0 p res ok (.ret x) H:=by
 subst hres;exact⟨s.k,x,rfl,hok,s.rd⟩
theorem Ek.rQ {α β:Type}{res:Rs β}{r1:Rs α}{k:α->List UInt8->Rs β}{ok:β->AV->AH->Prop}{ok1:α->AV->AH->Prop}{g:FuncId}{ar:List AV}{K:AV->AH->Prop}(s:Ek H0 p L H b) (hres:res=r1.bind k) (hC:AP P g ar H (Ch H p r1 ok1))
  (hK:∀d x r H',Ek H0 p L H' r->res=k d r->ok1 d x H'->K x H'):AG P g ar H (yp (Ch H0 p res ok)) K:=by
 have hp:=s.p0
 have hn:=s.k.nx
 refine BK hC (fun x H' h=>?_) (fun x H' h=>?_)
 ·obtain⟨k1,h⟩:=h
  cases r1 with
  | err e=>cases h.1
  | ok d r=>
   obtain⟨x',hx,h1,h2⟩:=h
   cases hx
   exact hK d _ r H' ⟨h2,s.k.trans k1,fun w hw=>by
    obtain⟨g1,g2,g3⟩:=s.l w hw
    exact⟨g1,DD g2 k1.nx,by rw[k1.get _ g2 (by omega)];exact g3⟩,hp⟩ hres h1
 ·obtain⟨k1,h⟩:=h
  cases r1 with
  | ok d r=>obtain⟨_,h,_⟩:=h;cases h
  | err e=>
   refine⟨s.k.trans k1,?_⟩
   rw[hres];exact h
end
theorem Ol {α:Type}(x:Rs α):x=x.bind fun y r=>.ok (id y) r:=by cases x<;>rfl
theorem cP {a b:Ty}{β:Type}(f:(Ty.pair a b).D->β) (l:List UInt8):(((Ty.pair a b).dec l).bind fun y r=>.ok (f y) r)=(a.dec l).bind fun x r=>(b.dec r).bind fun y r'=>.ok (f (x,y)) r':=by
 show Rs.bind (Rs.bind (a.dec l) fun x r=>(b.dec r).bind fun y r'=>.ok (x,y) r') _=_
 cases a.dec l with
 | err e=>rfl
 | ok x r=>
  show Rs.bind (Rs.bind (b.dec r) fun y r'=>.ok (x,y) r') _=Rs.bind (b.dec r) _
  cases b.dec r<;>rfl
theorem Yu {a b c:Ty}{β:Type}(f:(Ty.pair (.pair a b) c).D->β) (l:List UInt8):(((Ty.pair (.pair a b) c).dec l).bind fun y r=>.ok (f y) r)=((Ty.pair a (.pair b c)).dec l).bind fun y r=>.ok (f ((y.1,y.2.1),y.2.2)) r:=by
 show Rs.bind (Rs.bind (Rs.bind (a.dec l) fun x r=>(b.dec r).bind fun y r'=>.ok (x,y) r') fun x r=>(c.dec r).bind fun y r'=>.ok (x,y) r') _=Rs.bind (Rs.bind (a.dec l) fun x r=>Rs.bind (Rs.bind (b.dec r) fun x r=>(c.dec r).bind fun y r'=>.ok (x,y) r') fun y r'=>.ok (x,y) r') _
 cases a.dec l with
 | err e=>rfl
 | ok x r=>
  show Rs.bind (Rs.bind (Rs.bind (b.dec r) fun y r'=>.ok (x,y) r') _) _=Rs.bind (Rs.bind (Rs.bind (b.dec r) fun x r=>(c.dec r).bind fun y r'=>.ok (x,y) r') fun y r'=>.ok (x,y) r') _
  cases b.dec r with
  | err e=>rfl
  | ok y r1=>
   show Rs.bind (Rs.bind (c.dec r1) fun z r'=>.ok ((x,y),z) r') _=Rs.bind (Rs.bind (Rs.bind (c.dec r1) fun z r'=>.ok (y,z) r') fun y r'=>.ok (x,y) r') _
   cases c.dec r1<;>rfl
def Lc (P:Program) (g:FuncId) (t:Ty):Prop:=∀{H:AH}{p:Nat}{b:List UInt8},Rd H p b->AP P g [.ptr p 0] H (Ch H p (t.dec b) fun d x _=>RV t d x)
theorem Lc.one {g:FuncId}{t:Ty}(h:Lc P g t) (L:List (Nat × List AV)) (p:Nat):One P L p (.fn (.func g) [.ptr p 0] []) t:=fun _ _ hR _=>h hR
section
variable {H0 H:AH}{p:Nat}{L:List (Nat × List AV)}{l:List UInt8}
theorem Ek.step {a b:Ty}{β:Type}{res:Rs β}{f:(Ty.pair a b).D->β}{ok:β->AV->AH->Prop}{g:FuncId}{ar:List AV}{K:AV->AH->Prop}(s:Ek H0 p L H l) (hres:res=((Ty.pair a b).dec l).bind fun y r=>.ok (f y) r)
  (hC:AP P g ar H (Ch H p (a.dec l) fun d x _=>RV a d x)) (hK:∀d c x r H',Ek H0 p L H' r->(res=(b.dec r).bind fun y r'=>.ok (f (d,y)) r')->x.cellsOf=some c->RX a d c->c.length=C9 a->K x H'):AG P g ar H (yp (Ch H0 p res ok)) K:=by
 rw[cP]at hres
 exact s.rQ hres hC fun d x r H' s' h1 h2=>by
  obtain⟨c,h2,h3⟩:=h2
  exact hK d c x r H' s' h1 h2 h3 (Qp _ _ _ h3)
theorem Ek.last {a:Ty}{β:Type}{res:Rs β}{f:a.D->β}{ok:β->AV->AH->Prop}{g:FuncId}{ar:List AV}{K:AV->AH->Prop}(s:Ek H0 p L H l) (hres:res=(a.dec l).bind fun y r=>.ok (f y) r)
  (hC:AP P g ar H (Ch H p (a.dec l) fun d x _=>RV a d x)) (hK:∀d c x r H',Ek H0 p L H' r->res=.ok (f d) r->x.cellsOf=some c->RX a d c->c.length=C9 a->K x H'):AG P g ar H (yp (Ch H0 p res ok)) K:=
 s.rQ hres hC fun d x r H' s' h1 h2=>by
  obtain⟨c,h2,h3⟩:=h2
  exact hK d c x r H' s' h1 h2 h3 (Qp _ _ _ h3)
end
theorem cf {x:AV}{c z:List AV}{n:Nat}(hx:x.cellsOf=some c) (hc:c.length=n) (hz:n<=z.length):AI (.build z [(0,n,.cst x)]) emp=some (.agg (c++z.drop n)):=by
 simp[AI,B5,AF.ev,hx,hc,hz]
theorem jg {x y:AV}{c c' z:List AV}(hx:x.cellsOf=some c) (hy:y.cellsOf=some c') (hc:c.length=1) (hc':c'.length=1) (hz:z.length=2):AI (.build z [(0,1,.cst x),(1,1,.cst y)]) emp=some (.agg (c++c')):=by
 match c,c',z,hc,hc',hz with
 | [u],[v],[z0,z1],_,_,_=>simp[AI,B5,AF.ev,hx,hy]
theorem xW {t:Ty}{l:(Ty.list t).D}{v:AV}(h:RX (.list t) l [v]):v.cellsOf=some [v]:=by
 obtain⟨v',cs,e,hf,_⟩:=h
 have:v=v':=by simpa using e
 subst this
 generalize (Cm l).length=ln at hf
 cases hf<;>rfl
theorem Ch.list {t:Ty}{H:AH}{p:Nat}{b:List UInt8}{o:Am}{H':AH}(h:Ch H p ((Ty.list t).dec b) (fun l v _=>RX (.list t) l [v]) o H'):Ch H p ((Ty.list t).dec b) (fun l v _=>RV (.list t) l v) o H':=
 h.mono fun d x _ hd=>⟨[x],xW hd,hd⟩
def gL (P:Program) (z:List AV) (f1 f2:FuncId) (a1 a2:List AV) (h:AH) (Post:Am->AH->Prop):Prop:=(
 AQ (.alloc z) h fun v1 h1=>
 AG P f1 a1 h1 (yp Post) fun v2 h2=>
 AG P f2 a2 h2 (yp Post) fun v3 h3=>
 AB (.build z [(0,1,(.cst v2)),(1,1,(.cst v3))]) fun v4=>
 AQ (.store 2 (.cst v1) (.cst v4)) h3 fun v5 h5=>
 AE (.load (some 2) (.cst v1)) h5 fun v6=>
 Post (.ret v6) h5)
theorem MF {a b:Ty}{z:List AV}{f1 f2:FuncId}{a1 a2:List AV}{H:AH}{p:Nat}{l:List UInt8}(hz:z.length=2) (ha:C9 a=1) (hb:C9 b=1) (hR:Rd H p l)
  (h1:∀H r,Rd H p r->AP P f1 a1 H (Ch H p (a.dec r) fun d x _=>RV a d x)) (h2:∀H r,Rd H p r->AP P f2 a2 H (Ch H p (b.dec r) fun d x _=>RV b d x)) :
  gL P z f1 f2 a1 a2 H (Ch H p ((Ty.pair a b).dec l) fun d x _=>RV (.pair a b) d x):=by
 obtain⟨res,hres⟩:∃res,res=(Ty.pair a b).dec l:=⟨_,rfl⟩
 rw[<- hres]
 rw[Ol ((Ty.pair a b).dec l)]at hres
 unfold gL
 refine(Ek.start hR).alloc fun q H1 s1 hn1=>?_
 refine s1.step hres (h1 _ _ s1.rd) fun d c x r H2 s2 hres2 hx hc hcl=>?_
 refine s2.last hres2 (h2 _ _ s2.rd) fun d' c' x' r' H3 s3 hres3 hx' hc' hcl'=>?_
 refine AA (jg hx hx' (by omega) (by omega) hz) ?_
 refine s3.Gk hn1 (by simp;omega) hz fun H4 s4=>?_
 refine s4.Hc (.head _) (by simp;omega) ?_
 exact s4.fin hres3 ⟨_,rfl,c,c',rfl,hc,hc'⟩
end
end Go.AL
namespace Go.Proofs.YtlmkmpomgdbjhaaGreatDoor
open Tryz
section
open Go Go.AL Go.AL.Co
variable [BX]
theorem w_:xZ prog:=fun h=>xX h
theorem Q_:Lc prog 91 .int:=fun hR=>(xX hR).mono fun _ _ h=>h.mono fun d x _ hd=>⟨[x],by subst hd;rfl,by subst hd;rfl⟩
theorem lH:Lc prog 184 .byte:=fun hR=>(fq hR).mono fun _ _ h=>h.mono fun d x _ hd=>⟨[x],by subst hd;rfl,by subst hd;rfl⟩
theorem dI:Lc prog 189 .bool:=fun{H p b} hR=>by
 refine uF ?_
 unfold pa
 obtain⟨res,hres⟩:∃res,res=Ty.bool.dec b:=⟨_,rfl⟩
 rw[<- hres]
 refine(Ek.start hR).rQ hres (fq hR) fun d x r H' s' h1 h2=>?_
 subst h2
 have hb:=d.toNat_lt
 refine AA (v:=.bool (decide (1<d.toNat))) (by
  show some (AV.bool (decide ((d.toNat:Int)>1)))=_
  congr 2;simp only[decide_eq_decide];omega) (B3 (fun h=>?_) (fun h=>?_))
 ·refine AA (v:=.agg [.int .i64 4]) (by rfl) ⟨s'.k,?_⟩
  rw[h1,if_pos (of_decide_eq_true h)]
  exact⟨rfl,r,s'.rd⟩
 ·rw[if_neg (of_decide_eq_false h)]at h1
  refine AA (v:=.bool (decide (d.toNat=1))) (by
   show some (AV.bool ((d.toNat:Int)==1))=_
   have:((d.toNat:Int)==(1:Int))=decide (d.toNat=1):=by
    by_cases h:d.toNat=1
    ·simp[h]
    ·have h':¬((d.toNat:Int)=1):=by omega
     simp only[h,decide_false,beq_eq_false_iff_ne,ne_eq];exact h'
   rw[this]) ?_
  exact s'.fin h1 ⟨_,rfl,rfl⟩
section
variable {H:AH}{p:Nat}{b:List UInt8}{L:List (Nat × List AV)}{fv:AV}
def ZK (g:FuncId) (t:Ty):Prop:=∀{H:AH}{p:Nat}{b:List UInt8}{L:List (Nat × List AV)}{fv:AV},Rd H p b->(∀x∈L,x.1<H.next/\x.1≠p/\H.get x.1=some (.cells x.2))->One prog L p fv t ->
 AP prog g [.ptr p 0,fv] H (Ch H p ((Ty.list t).dec b) fun l v _=>RV (.list t) l v)
theorem GW {g:FuncId}{t:Ty}{k bytes:Nat}{z:List AV}(hk:C9 t=k) (hz:z.length=k) (hby:bytes<=500) (hT:∀(H:AH) (p:Nat) (fv:AV) (Post:Am->AH->Prop),fN prog k bytes z (.ptr p 0) fv H Post->AP prog g [.ptr p 0,fv] H Post):ZK g t:=fun{H p b L fv} hR hL hf=>by
 subst hk
 exact(cB hR (hT _ _ _ _ (Xp w_ hz hby hR hL hf))).mono fun _ _ h=>h.list
theorem fM {g:FuncId}{t:Ty}{k bytes:Nat}{z:List AV}(hk:C9 t=k) (hz:z.length=k) (hby:bytes<=500) (hT:∀(H:AH) (p:Nat) (fv:AV) (Post:Am->AH->Prop),fN prog k bytes z (.ptr p 0) fv H Post->AP prog g [.ptr p 0,fv] H Post)
  {H:AH} {p:Nat} {b:List UInt8} {L:List (Nat × List AV)} {fv:AV} (hR:Rd H p b) (hL:∀x∈L,x.1<H.next/\x.1≠p/\H.get x.1=some (.cells x.2)) (hf:One prog L p fv t) :
  AP prog g [.ptr p 0,fv] H (Ch H p ((Ty.list t).dec b) fun l v _=>RX (.list t) l [v]):=by
 subst hk
 exact cB hR (hT _ _ _ _ (Xp w_ hz hby hR hL hf))
theorem wZ:ZK 197 .int:=GW (k:=1) (bytes:=8) (z:=[(I 0)]) rfl rfl (by omega) fun _ _ _ _ h=>tx h
theorem wY:ZK 305 FG:=GW (k:=2) (bytes:=16) (z:=[(I 0),(N .u8 0)]) rfl rfl (by omega) fun _ _ _ _ h=>tr h
theorem wX:ZK 307 EP:=GW (k:=2) (bytes:=2) (z:=[(.bool false),(N .u8 0)]) rfl rfl (by omega) fun _ _ _ _ h=>tp h
theorem rC:ZK 188 .bool:=GW (k:=1) (bytes:=1) (z:=[(.bool false)]) rfl rfl (by omega) fun _ _ _ _ h=>uG h
theorem we:ZK 196 .byte:=GW (k:=1) (bytes:=1) (z:=[(N .u8 0)]) rfl rfl (by omega) fun _ _ _ _ h=>tz h
theorem zL:ZK 94 A4:=GW (k:=1) (bytes:=24) (z:=[.nils]) rfl rfl (by omega) fun _ _ _ _ h=>T94 h
theorem wg:ZK 194 Bo:=GW (k:=1) (bytes:=24) (z:=[.nils]) rfl rfl (by omega) fun _ _ _ _ h=>uA h
theorem wh:ZK 192 CA:=GW (k:=2) (bytes:=32) (z:=[(I 0),.nils]) rfl rfl (by omega) fun _ _ _ _ h=>uC h
theorem wi:ZK 190 (.list CA):=GW (k:=1) (bytes:=24) (z:=[.nils]) rfl rfl (by omega) fun _ _ _ _ h=>uE h
theorem rD:ZK 186 BA:=GW (k:=4) (bytes:=32) (z:=(Bl 4 (N .u64 0) [])) rfl rfl (by omega) fun _ _ _ _ h=>uI h
theorem E67:ZK 95 DF:=GW (k:=8) (bytes:=80) (z:=((I 0)::(.nils::(Bl 6 (I 0) [])))) rfl rfl (by omega) fun _ _ _ _ h=>T95 h
theorem E69:ZK 97 FU:=GW (k:=2) (bytes:=48) (z:=[.nils,.nils]) rfl rfl (by omega) fun _ _ _ _ h=>T97 h
theorem wW {H:AH}{p:Nat}{b:List UInt8}{L:List (Nat × List AV)}{fv:AV}(hR:Rd H p b) (hL:∀x∈L,x.1<H.next/\x.1≠p/\H.get x.1=some (.cells x.2)) (hf:One prog L p fv EN) :
  AP prog 47 [.ptr p 0,fv] H (Ch H p ((Ty.list EN).dec b) fun l v _=>RX (.list EN) l [v]):=fM (t:=EN) (k:=27) (bytes:=440) (z:=(Bl 5 (I 0) (Bl 6 .nils ((I 0)::(Bl 4 .nils (Bl 4 (I 0) ((.bool false)::((I 0)::((.bool false)::(Bl 4 .nils [])))))))))) rfl rfl (by omega) (fun _ _ _ _ h=>T47 h) hR hL hf
end
end
section
open Go Go.AL Go.AL.Co
variable [BX]
theorem wk:Lc prog 306 FG:=fun{H p b} hR=>tq (MF (a:=.int) (b:=.byte) rfl rfl rfl hR (fun _ _ h=>Q_ h) (fun _ _ h=>lH h))
theorem wj:Lc prog 308 EP:=fun{H p b} hR=>tm (MF (a:=.bool) (b:=.byte) rfl rfl rfl hR (fun _ _ h=>dI h) (fun _ _ h=>lH h))
theorem fx:Lc prog 185 B9:=fun{H p b} hR=>by
 refine uJ ?_
 unfold pc
 refine BK (wY (L:=[]) hR (by simp) (wk.one _ _)) (fun v H' h=>h) (fun v H' h=>h)
theorem rE:Lc prog 93 A4:=fun{H p b} hR=>by
 refine T93 ?_
 unfold yc
 refine BK (wZ (L:=[]) hR (by simp) (Q_.one _ _)) (fun v H' h=>h) (fun v H' h=>h)
theorem D70:Lc prog 98 FU:=fun{H p b} hR=>T98 (MF (a:=B9) (b:=B9) rfl rfl rfl hR (fun _ _ h=>fx h) (fun _ _ h=>fx h))
theorem wo:Lc prog 193 CA:=fun{H p b} hR=>uB (MF (a:=.int) (b:=.list EP) rfl rfl rfl hR (fun _ _ h=>Q_ h) (fun _ _ h=>wX (L:=[]) h (by simp) (wj.one _ _)))
theorem wq {L:List (Nat × List AV)}{p q:Nat}(hq:(q,[AV.ptr p 0])∈L):One prog L p (.fn (.func 191) [] [.ptr q 0]) (.list CA):=fun H b hR hL=>by
 obtain⟨_,_,h3⟩:=hL _ hq
 have hld:AZ (.load none (.cst (.ptr q 0))) emp H=some (.ptr p 0):=by simp[AZ,BC,AF.ev,AH.cells?,h3,apart]
 show AP prog 191 _ _ _
 refine uD ?_
 unfold pZ
 refine AX hld (AX hld (BK (wh (L:=[]) hR (by simp) (wo.one _ _)) (fun v H' h=>h) (fun v H' h=>h)))
theorem wm {L:List (Nat × List AV)}{p q:Nat}(hq:(q,[AV.ptr p 0])∈L):One prog L p (.fn (.func 195) [] [.ptr q 0]) Bo:=fun H b hR hL=>by
 obtain⟨_,_,h3⟩:=hL _ hq
 have hld:AZ (.load none (.cst (.ptr q 0))) emp H=some (.ptr p 0):=by simp[AZ,BC,AF.ev,AH.cells?,h3,apart]
 show AP prog 195 _ _ _
 refine t_ ?_
 unfold pY
 refine AX hld (AX hld (BK (we (L:=[]) hR (by simp) (lH.one _ _)) (fun v H' h=>h) (fun v H' h=>h)))
end
end Go.Proofs.YtlmkmpomgdbjhaaGreatDoor
namespace Go.AL
section
open Co
variable [BX] {P:Program}
theorem Ek.done {H0 H:AH}{p q o:Nat}{L:List (Nat × List AV)}{b:List UInt8}{pre z:List AV}(s:Ek H0 p ((q,pre++z.drop o)::L) H b) (hz:z.length<=o):Ek H0 p ((q,pre)::L) H b:=by
 rw[Bu hz,DY]at s;exact s
theorem Ek.out {H0 H:AH}{p q q1 n:Nat}{b:List UInt8}{c z:List AV}{K:AV->AH->Prop}(s:Ek H0 p [(q,c),(q1,z)] H b) (hne:q1≠q) (hc:c.length=n) (hz:z.length=n) (hK:∀H',Ek H0 p [(q1,c),(q,c)] H' b->K (.agg c) H') :
  AE (.load (some n) (.cst (.ptr q 0))) H fun v27=>AQ (.store n (.cst (.ptr q1 0)) (.cst v27)) H fun _ h28=>AE (.load (some n) (.cst (.ptr q1 0))) h28 fun v29=>K v29 h28:=by
 refine s.Hc (.head _) hc ?_
 refine s.swap.Gk (fun x hx=>?_) hc hz fun H' s'=>?_
 ·cases hx with
  | head=>exact fun h=>hne h.symm
  | tail _ hx=>cases hx
 ·exact s'.Hc (.head _) hc (hK _ s')
end
end Go.AL
namespace Go.Proofs.YtlmkmpomgdbjhaaGreatDoor
open Tryz
section
open Go Go.AL Go.AL.Co
variable [BX]
set_option maxHeartbeats 1000000 in
theorem D68:Lc prog 96 DF:=fun{H p b} hR=>by
 obtain⟨res,hres⟩:∃res,res=DF.dec b:=⟨_,rfl⟩
 rw[<- hres]
 rw[Ol (DF.dec b)]at hres
 refine T96 ?_
 unfold yb
 generalize hz:(I 0::.nils::Bl 6 (I 0) [])=z
 have hzl:z.length=8:=by rw[<- hz];rfl
 refine(Ek.start hR).alloc fun q1 H1 s1 hn1=>?_
 refine s1.step (a:=.int) (b:=.pair A4 (.pair .int (.pair .int (.pair .int (.pair .int (.pair .int .int)))))) hres (Q_ s1.rd) fun d0 c0 x r H2 s2 hres hx Ut l0=>?_
 refine AA (cf hx (n:=1) l0 (by omega)) ?_
 refine s2.alloc fun q H3 s3 hn=>?_
 have hne:q1≠q:=hn _ (.head _)
 refine s3.Gk hn (by rw[Aa,CK,l0,hzl];rfl) hzl fun H4 s4=>?_
 refine s4.step (a:=A4) (b:=.pair .int (.pair .int (.pair .int (.pair .int (.pair .int .int))))) hres (rE s4.rd) fun d1 c1 x r H5 s5 hres hx TD l1=>?_
 refine AA (v:=.ptr q 1) rfl (s5.put hn l0 hx l1 (by rw[hzl];decide) fun H6 s6 p6=>?_)
 refine s6.step (a:=.int) (b:=.pair .int (.pair .int (.pair .int (.pair .int .int)))) hres (Q_ s6.rd) fun d2 c2 x r H7 s7 hres hx Us l2=>?_
 refine AA (v:=.ptr q 2) rfl (s7.put hn p6 hx l2 (by rw[hzl];decide) fun H8 s8 p8=>?_)
 refine s8.step (a:=.int) (b:=.pair .int (.pair .int (.pair .int .int))) hres (Q_ s8.rd) fun d3 c3 x r H9 s9 hres hx QD l3=>?_
 refine AA (v:=.ptr q 3) rfl (s9.put hn p8 hx l3 (by rw[hzl];decide) fun H10 s10 p10=>?_)
 refine s10.step (a:=.int) (b:=.pair .int (.pair .int .int)) hres (Q_ s10.rd) fun d4 c4 x r H11 s11 hres hx WH l4=>?_
 refine AA (v:=.ptr q 4) rfl (s11.put hn p10 hx l4 (by rw[hzl];decide) fun H12 s12 p12=>?_)
 refine s12.step (a:=.int) (b:=.pair .int .int) hres (Q_ s12.rd) fun d5 c5 x r H13 s13 hres hx dL l5=>?_
 refine AA (v:=.ptr q 5) rfl (s13.put hn p12 hx l5 (by rw[hzl];decide) fun H14 s14 p14=>?_)
 refine s14.step (a:=.int) (b:=.int) hres (Q_ s14.rd) fun d6 c6 x r H15 s15 hres hx gZ l6=>?_
 refine AA (v:=.ptr q 6) rfl (s15.put hn p14 hx l6 (by rw[hzl];decide) fun H16 s16 p16=>?_)
 refine s16.last (a:=.int) hres (Q_ s16.rd) fun d7 c7 x r H17 s17 hres hx gY l7=>?_
 refine AA (v:=.ptr q 7) rfl (s17.put hn p16 hx l7 (by rw[hzl];decide) fun H18 s18 p18=>?_)
 refine(s18.done (by rw[hzl];decide)).out hne p18 hzl fun H19 s19=>s19.fin hres ⟨_,rfl,?_⟩
 simp only[Ao]
 exact⟨_,_,rfl,Ut,_,_,rfl,TD,_,_,rfl,Us,_,_,rfl,QD,_,_,rfl,WH,_,_,rfl,dL,_,_,rfl,gZ,gY⟩
end
end Go.Proofs.YtlmkmpomgdbjhaaGreatDoor
