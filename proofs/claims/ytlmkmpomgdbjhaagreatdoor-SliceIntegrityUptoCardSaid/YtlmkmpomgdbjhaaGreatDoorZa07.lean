import Derived.Test.YtlmkmpomgdbjhaaGreatDoorZa06
/-
  a part of the proof.
-/
set_option linter.unusedSectionVars false
set_option linter.unusedVariables false
set_option linter.unusedSimpArgs false
namespace Go.AL
section
open Co
variable [BQ] {P:Program}
theorem DO {n:Int}(h:-9223372036854775808<=n/\n<=9223372036854775807):IntKind.i64.wrap n=n:=by
 rw[Hc];split<;>omega
theorem DT {l:List Int}{i:Nat}{x:Int}(h:l[i]?=some x):(l.take (i+1)).flatMap Ba=(l.take i).flatMap Ba++Ba x:=by
 rw[Cr,h];simp
theorem IT (l:List Int) (i:Nat):((l.take i).flatMap Ba).length<=(l.flatMap Ba).length:=by
 conv=>rhs;rw[<- Fo i l]
 rw[Ot,AW];omega
def nc (l:List Int):List AV:=l.map fun n=>.int .i64 n
theorem Vj {l:List Int}{i:Nat}{x:Int}(h:l[i]?=some x):(nc l)[i]?=some (.int .i64 x):=by simp[nc,h]
end
end Go.AL
namespace Go.Proofs.YtlmkmpomgdbjhaaGreatDoor
open Tryz
section
open Go Go.AL Go.AL.Co
variable [BQ]
theorem qa {L:List (Nat × List AV)}{p q:Nat}(hq:(q,[AV.ptr p 0])∈L):Ng prog L p (.fn (.func 58) [] [.ptr q 0]) Em:=by
 intro d c hR hw H ro bs hW hL hb
 obtain⟨k,m,r,d1,x,k1,nx,el⟩:=d
 obtain⟨c1,c2,rfl,h1,c3,c4,rfl,h2,c5,c6,rfl,h3,c7,c8,rfl,h4,c9,c10,rfl,h5,c11,c12,rfl,h6,c13,c14,rfl,h7,h8⟩:=hR
 obtain⟨v,hv⟩:∃v,c3=[v]:=by obtain⟨v,_,h,_⟩:=h2;exact⟨v,h⟩
 have h1:c1=[.int .i64 k]:=h1
 have h3:c5=[.int .i64 r]:=h3
 have h4:c7=[.int .i64 d1]:=h4
 have h5:c9=[.int .i64 x]:=h5
 have h6:c11=[.int .i64 k1]:=h6
 have h7:c13=[.int .i64 nx]:=h7
 have h8:c14=[.int .i64 el]:=h8
 subst hv h1 h3 h4 h5 h6 h7 h8
 obtain⟨w1,w2,w3,w4,w5,w6,w7,w8⟩:=hw
 obtain⟨k',rfl⟩:∃k':Int,k'=k:=⟨k,rfl⟩
 obtain⟨r',rfl⟩:∃r':Int,r'=r:=⟨r,rfl⟩
 obtain⟨d1',rfl⟩:∃d1':Int,d1'=d1:=⟨d1,rfl⟩
 obtain⟨x',rfl⟩:∃x':Int,x'=x:=⟨x,rfl⟩
 obtain⟨k1',rfl⟩:∃k1':Int,k1'=k1:=⟨k1,rfl⟩
 obtain⟨nx',rfl⟩:∃nx':Int,nx'=nx:=⟨nx,rfl⟩
 obtain⟨el',rfl⟩:∃el':Int,el'=el:=⟨el,rfl⟩
 let ns:List Int:=[r',d1',x',k1',nx',el']
 have hns:∀y∈ns,Q0 y:=by
  intro y hy
  simp only[ns,DF,G8,or_false]at hy
  rcases hy with rfl | rfl | rfl | rfl | rfl | rfl<;>assumption
 have he:Em.enc (k',m,r',d1',x',k1',nx',el')=Ba k'++(BM.enc m++ns.flatMap Ba):=by
  show Ba k'++(BM.enc m++(Ba r'++(Ba d1'++(Ba x'++(Ba k1'++(Ba nx'++Ba el'))))))=_
  simp[ns]
 rw[he]at hb ⊢
 refine T58 ?_
 unfold xZ
 refine(St.start hW hL).box rfl fun H1 s1=>?_
 refine s1.ld (.tail _ hq) rfl (AA (v:=.ptr H.next 0) rfl (s1.ld (.head _) rfl ?_))
 refine s1.call (No w1 s1.w (by simp only[AW]at hb ⊢;omega)) fun H2 r2 s2 _=>?_
 refine s2.ld (.tail _ hq) rfl (AA (v:=.ptr H.next 1) rfl (s2.ld (.head _) rfl ?_))
 refine s2.call (oQ (d:=m) h2 w2 s2.w (by simp only[AW]at hb ⊢;omega)) fun H3 r3 s3 hr3=>?_
 refine AA (v:=.ptr H.next 2) rfl (s3.ld (.head _) rfl ?_)
 refine AA (v:=.ptr H.next 3) rfl (s3.ld (.head _) rfl ?_)
 refine AA (v:=.ptr H.next 4) rfl (s3.ld (.head _) rfl ?_)
 refine AA (v:=.ptr H.next 5) rfl (s3.ld (.head _) rfl ?_)
 refine AA (v:=.ptr H.next 6) rfl (s3.ld (.head _) rfl ?_)
 refine AA (v:=.ptr H.next 7) rfl (s3.ld (.head _) rfl ?_)
 refine Aq (v:=.sl H3.next 0 6 (.ex 6)) (H':=H3.push (.cells (nc ns))) (by rfl) ?_
 refine AA (v:=.int .i64 6) rfl ?_
 have s4:=s3.push (c:=nc ns)
 let Iv:AV->AV->AV->AV->AH->Prop:=fun a b c d H'=>a=.ptr q 0/\b=.sl H3.next 0 6 (.ex 6)/\c=.int .i64 6/\∃(i rx:Nat),d=.int .i64 (i:Int)/\i<=6/\H.next<=rx /\
  St H p ro ((H3.next,nc ns)::(H.next,[.int .i64 k']++([v]++([.int .i64 r']++([.int .i64 d1']++([.int .i64 x']++([.int .i64 k1']++([.int .i64 nx']++[.int .i64 el'])))))))::L) H' (some rx) (bs++Ba k'++BM.enc m++(ns.take i).flatMap Ba)
 let μ:AV->AV->AV->AV->AH->Nat:=fun _ _ _ d _=>match d with
  | .int _ j=>(6-j).toNat
  | _=>0
 refine⟨Iv,μ,⟨rfl,rfl,rfl,0,r3,rfl,by omega,hr3,by simpa using s4⟩,?_⟩
 intro e H5 hI
 obtain⟨e1,e2,e3,i,rx,e4,hi,hrx,s5⟩:=(hI:Iv (e 1) (e 25) (e 26) (e 27) H5)
 show AB (.bin .lss (.cst (e 27)) (.cst (e 26))) _
 rw[e4,e3]
 refine AA (v:=.bool (decide ((i:Int)<6))) rfl (B_ (fun ht=>?_) (fun ht=>?_))
 ·have hlt:i<6:=by have:=of_decide_eq_true ht;omega
  rw[e2,e1]
  obtain⟨y,hy⟩:∃y,ns[i]?=some y:=⟨ns[i]'(by simpa[ns]using hlt),Ab _⟩
  have hc:AJ (.indexAddrS 1 (.cst (.sl H3.next 0 6 (.ex 6))) (.cst (.int .i64 (i:Int)))) emp=some (.ptr H3.next i):=by
   have h1:(0:Int)<=(i:Int)/\(i:Int)<6:=by omega
   simp[AJ,AE.ev,Ey,h1]
  refine AA hc (s5.ld (.head _) (Vj hy) (s5.ld (.tail _ (.tail _ hq)) rfl ?_))
  have hsub:=IT ns (i+1)
  rw[DT hy]at hsub
  refine s5.call (No (hns y (CK hy)) s5.w (by simp only[AW]at hb hsub ⊢;omega)) fun H6 r6 s6 hr6=>?_
  refine AA (v:=.int .i64 ((i+1:Nat):Int)) (by
   show some (AV.int .i64 (IntKind.i64.wrap ((i:Int)+1)))=_
   rw[DO (by omega)];rfl) ?_
  refine⟨⟨rfl,rfl,rfl,i+1,r6,rfl,hlt,hr6,?_⟩,?_⟩
  ·have e:=Ar (bs++Ba k'++BM.enc m) (List.flatMap Ba (ns.take i)) (Ba y)
   rw[DT hy,<- e];exact s6
  ·show((6:Int)-((i+1:Nat):Int)).toNat<μ (e 1) (e 25) (e 26) (e 27) H5
   rw[e4]
   show((6:Int)-((i+1:Nat):Int)).toNat<((6:Int)-(i:Int)).toNat
   omega
 ·have hge:i=6:=by have:=of_decide_eq_false ht;omega
  subst hge
  have:=s5.fin hrx
  rw[show ns.take 6=ns from rfl]at this
  simpa[Ar]using this
end
end Go.Proofs.YtlmkmpomgdbjhaaGreatDoor
namespace Go.AL
section
open Co
variable [BQ] {P:Program}
theorem St.put {H0 H H':AH}{p r':Nat}{ro0 ro:Option Nat}{L:List (Nat × List AV)}{bs bs':List UInt8}(h:St H0 p ro0 L H ro bs) (q1:H.next<=r') (q2:Wr H' p (some r') bs') (q3:GB H p ro H'):St H0 p ro0 L H' (some r') bs'/\H0.next<=r':=by
 have hn:=h.kw.nx
 refine⟨⟨q2,h.k.GJ q3 q1,h.kw.trans (ro1:=ro) (fun r hr=>?_) q3,.inr ⟨r',rfl,by omega⟩⟩,by omega⟩
 rcases h.fr with e | ⟨r1,e1,e2⟩
 ·exact .inr (by rw[<- e,hr])
 ·rw[hr]at e1;cases e1;exact .inl e2
theorem Wh:∀(l:List UInt8) (k:Nat) (x:UInt8),l[k]?=some x->w8 l / 256 ^ k % 256=x.toNat
 | [],k,x,h=>by simp at h
 | y::l,0,x,h=>by
  have e:y=x:=by simpa using h
  subst e
  have:=y.toNat_lt
  show(y.toNat+256*w8 l) / 256 ^ 0 % 256=_
  rw[Nat.pow_zero,Nat.div_one];omega
 | y::l,k+1,x,h=>by
  have h':l[k]?=some x:=by simpa using h
  have:=Wh l k x h'
  have hy:=y.toNat_lt
  show(y.toNat+256*w8 l) / 256 ^ (k+1) % 256=_
  rw[Iu,HS (256 ^ k) 256,<- Ix]
  have e:(y.toNat+256*w8 l) / 256=w8 l:=by omega
  rw[e];exact this
theorem ZY {n k:Nat}(hk:k<8):(n:Int).fdiv (2 ^ (min (8*k) 64))=((n / 256 ^ k:Nat):Int):=by
 have e:min (8*k) 64=8*k:=by omega
 have e2:(2:Nat) ^ (8*k)=256 ^ k:=by rw[Nat.pow_mul]
 rw[e,E4]
 ·have:((2:Int) ^ (8*k))=((256 ^ k:Nat):Int):=by
   rw[<- e2];simp
  rw[this];simp
 ·exact Int.le_of_lt (Int.pow_pos (by decide))
theorem Wk (n:Nat):IntKind.u8.wrap (n:Int)=((n % 256:Nat):Int):=by
 simp[IntKind.wrap,IntKind.bits,IntKind.signed]
end
end Go.AL
namespace Go.Proofs.YtlmkmpomgdbjhaaGreatDoor
open Tryz
section
open Go Go.AL Go.AL.Co
variable [BQ]
theorem wB {L:List (Nat × List AV)}{p:Nat}:Ng prog L p (.fn (.func 103) [.ptr p 0] []) Bl:=by
 intro d c hR hw H ro bs hW hL hb
 obtain⟨hl,hcl,hcw⟩:=hR
 have hl:(Rl d).length=32:=hl
 have he:Bl.enc d=Rl d:=rfl
 rw[he]at hb ⊢
 have hcl:c.length=4:=hcl
 refine tX ?_
 unfold pF
 refine(St.start hW hL).box (x:=.agg c) rfl fun H1 s1=>?_
 refine BG (v:=.agg c) (by
  obtain⟨_,_,_,h4⟩:=s1.k _ (.head _)
  simp[AY,BJ,AE.ev,AH.cells?,h4,apart,hcl]
  exact AX (by omega)) ?_
 let Iv:AV->AV->AV->AH->Prop:=fun a b d' H'=>a=.ptr p 0/\b=.agg c/\∃(i:Nat) (rx:Option Nat),d'=.int .i64 (i:Int)/\i<=4/\(i=4->∃r,rx=some r/\H.next<=r)/\St H p ro ((H.next,c)::L) H' rx (bs++(Rl d).take (8*i))
 let μ:AV->AV->AV->AH->Nat:=fun _ _ d' _=>match d' with
  | .int _ j=>(4-j).toNat
  | _=>0
 refine⟨Iv,μ,⟨rfl,rfl,0,ro,rfl,by omega,by intro h;omega,by simpa using s1⟩,?_⟩
 intro e H2 hI
 obtain⟨e1,e2,i,rx,e3,hi,hfin,s2⟩:=(hI:Iv (e 0) (e 7) (e 8) H2)
 show AB (.bin .lss (.cst (e 8)) (.cst (I 4))) _
 rw[e3]
 refine AA (v:=.bool (decide ((i:Int)<4))) rfl (B_ (fun ht=>?_) (fun ht=>?_))
 ·have hlt:i<4:=by have:=of_decide_eq_true ht;omega
  rw[e2,e1]
  have hwd:=hcw i (by show i<32 / 8;omega)
  refine AA (v:=.int .u64 ((w8 (((Rl d).drop (8*i)).take 8):Nat):Int)) (by
   have h1:(0:Int)<=(i:Int)/\(i:Int)<((4:Nat):Int):=by omega
   simp only[AJ,AE.ev,apart]
   rw[if_pos h1]
   simpa using hwd) ?_
  let Iw:AV->AV->AV->AV->AV->AH->Prop:=fun a w b d' k' H'=>a=.ptr p 0/\w=.int .u64 ((w8 (((Rl d).drop (8*i)).take 8):Nat):Int)/\b=.agg c/\d'=.int .i64 (i:Int)/\∃(k:Nat) (ry:Option Nat),k'=.int .i64 (k:Int)/\k<=8/\(k=8->∃r,ry=some r/\H.next<=r) /\
   St H p ro ((H.next,c)::L) H' ry (bs++(Rl d).take (8*i+k))
  let μ2:AV->AV->AV->AV->AV->AH->Nat:=fun _ _ _ _ k' _=>match k' with
   | .int _ j=>(8-j).toNat
   | _=>0
  refine⟨Iw,μ2,⟨rfl,rfl,rfl,rfl,0,rx,rfl,by omega,by intro h;omega,by simpa using s2⟩,?_⟩
  intro e' H3 hJ
  obtain⟨f1,f2,f3,f4,k,ry,f5,hk,hfk,s3⟩:=(hJ:Iw (e' 0) (e' 5) (e' 7) (e' 8) (e' 11) H3)
  show AB (.bin .lss (.cst (e' 11)) (.cst (I 8))) _
  rw[f5]
  refine AA (v:=.bool (decide ((k:Int)<8))) rfl (B_ (fun ht2=>?_) (fun ht2=>?_))
  ·have hk8:k<8:=by have:=of_decide_eq_true ht2;omega
   rw[f1,f2,f3,f4]
   refine AA (v:=.ptr p 0) rfl (AA (v:=.ptr p 0) rfl (We s3.w ?_))
   refine AA (v:=.int .i64 ((8*k:Nat):Int)) (by
    show some (AV.int .i64 (IntKind.i64.wrap ((8:Int)*(k:Int))))=_
    rw[DO (by omega)];simp) ?_
   obtain⟨x,hx⟩:∃x,(Rl d)[8*i+k]?=some x:=⟨(Rl d)[8*i+k]'(by omega),Ab _⟩
   have hxc:(((Rl d).drop (8*i)).take 8)[k]?=some x:=by
    rw[D0,if_pos hk8,DD];exact hx
   refine AA (v:=.int .u64 ((w8 (((Rl d).drop (8*i)).take 8) / 256 ^ k:Nat):Int)) (by
    have h1:(0:Int)<=((8*k:Nat):Int):=by omega
    simp only[AJ,AE.ev,Dj,h1,if_true,IntKind.bits,CL]
    rw[ZY hk8]) ?_
   refine AA (v:=bv x) (by
    show some (AV.int .u8 (IntKind.u8.wrap ((w8 (((Rl d).drop (8*i)).take 8) / 256 ^ k:Nat):Int)))=_
    rw[Wk,Wh _ k x hxc];rfl) ?_
   refine OE (c:=[bv x]) (f:=fun r=>.sl r 0 1 (.ex 1)) (by simp[FK,Bv,AE.ev,AV.cellsOf,bv,N]) ?_
   have htk:(Rl d).take (8*i+(k+1))=(Rl d).take (8*i+k)++[x]:=by
    rw[<- Fg,Cr,hx];rfl
   refine VJ s3.w (by
    have:((Rl d).take (8*i+k)).length<=(Rl d).length:=by rw[BL];omega
    simp only[AW]at hb ⊢
    show _<Nq;omega) fun H4 r4 q1 q2 q3=>?_
   obtain⟨s4,hr4⟩:=s3.put q1 q2 q3
   refine AA (v:=.int .i64 ((k+1:Nat):Int)) (by
    show some (AV.int .i64 (IntKind.i64.wrap ((k:Int)+1)))=_
    rw[DO (by omega)];rfl) ?_
   refine⟨⟨rfl,rfl,rfl,rfl,k+1,some r4,rfl,hk8,fun _=>⟨r4,rfl,hr4⟩,?_⟩,?_⟩
   ·rw[htk,<- Ar];exact s4
   ·show((8:Int)-((k+1:Nat):Int)).toNat<μ2 (e' 0) (e' 5) (e' 7) (e' 8) (e' 11) H3
    rw[f5]
    show((8:Int)-((k+1:Nat):Int)).toNat<((8:Int)-(k:Int)).toNat
    omega
  ·have hk8:k=8:=by have:=of_decide_eq_false ht2;omega
   subst hk8
   rw[f1,f3,f4]
   refine AA (v:=.int .i64 ((i+1:Nat):Int)) (by
    show some (AV.int .i64 (IntKind.i64.wrap ((i:Int)+1)))=_
    rw[DO (by omega)];rfl) ?_
   refine⟨⟨rfl,rfl,i+1,ry,rfl,hlt,fun _=>hfk rfl,?_⟩,?_⟩
   ·have e8:8*(i+1)=8*i+8:=by omega
    rw[e8];exact s3
   ·show((4:Int)-((i+1:Nat):Int)).toNat<μ (e 0) (e 7) (e 8) H2
    rw[e3]
    show((4:Int)-((i+1:Nat):Int)).toNat<((4:Int)-(i:Int)).toNat
    omega
 ·have h4:i=4:=by have:=of_decide_eq_false ht;omega
  subst h4
  obtain⟨r,hr1,hr2⟩:=hfin rfl
  subst hr1
  have:=s2.fin hr2
  rw[AX (by omega)]at this
  exact this
end
end Go.Proofs.YtlmkmpomgdbjhaaGreatDoor
namespace Go.AL
section
open Co
variable [BQ] {P:Program}
theorem DI {t:Ty}{l:(Ty.list t).D}{c:List AV}(h:RC (.list t) l c):∃v,c=[v]:=by obtain⟨v,_,h,_⟩:=h;exact⟨v,h⟩
theorem St.Gx {H0 H:AH}{p:Nat}{ro0 ro:Option Nat}{L:List (Nat × List AV)}{bs:List UInt8}{q o k:Nat}{c:List AV}{K:AV->Prop}(h:St H0 p ro0 L H ro bs) (hm:(q,c)∈L) (hx:o+k<=c.length) (hK:K (.agg ((c.drop o).take k))):AG (.load (some k) (.cst (.ptr q o))) H K:=by
 obtain⟨_,_,_,h4⟩:=h.k _ hm
 exact BG (v:=.agg ((c.drop o).take k)) (by simp[AY,BJ,AE.ev,AH.cells?,h4,apart,hx]) hK
theorem St.copy {H0 H:AH}{p:Nat}{ro0 ro:Option Nat}{L:List (Nat × List AV)}{bs:List UInt8}{k:Nat}{z c:List AV}{K:AV->AH->Prop}(h:St H0 p ro0 L H ro bs) (hz:z.length=k) (hc:c.length=k)
  (hK:∀H',St H0 p ro0 ((H.next,c)::L) H' ro bs->K (.ptr H.next 0) H'):AO (.alloc z) H fun v15 h15=>AO (.store k (.cst v15) (.cst (.agg c))) h15 fun _ h16=>K v15 h16:=by
 refine Aq (v:=.ptr H.next 0) (H':=H.push (.cells z)) rfl ?_
 have hs:Ap z 0 c=c:=by rw[Cu (by omega)];simp[hc,hz]
 refine Aq (v:=.unk) (H':=(H.push (.cells z)).set H.next (.cells c)) (by simp[BC,AE.ev,AH.cells?,AH.Ai,AV.cellsOf,hs,hc,hz]) (hK _ ?_)
 have e:(H.push (.cells z)).set H.next (.cells c)=H.push (.cells c):=by
  refine AH.ext (fun r=>?_) rfl rfl
  rw[AH.AU,AH.Ai,AH.Ai]
  by_cases hr:r=H.next<;>simp[hr]
 rw[e]
 exact h.push
end
end Go.AL
namespace Go.Proofs.YtlmkmpomgdbjhaaGreatDoor
open Tryz
section
open Go Go.AL Go.AL.Co
variable [BQ]
set_option maxHeartbeats 4000000 in
set_option maxRecDepth 4000 in
theorem P19 {H:AH}{p:Nat}{ro:Option Nat}{bs:List UInt8}{d:Ge.D}{c:List AV}(hR:RC Ge d c) (hw:Ge.wf d) (hW:Wr H p ro bs) (hb:(bs++Ge.enc d).length<Nq) :
  AQ prog 54 [.ptr p 0,.agg c] H (DW H p ro (bs++Ge.enc d)):=by
 obtain⟨kd,t,u,dc,dn,da,ra,rc,mc,mm,mf,me,⟨qb,qd,qt,qo,qz⟩,nn,nt⟩:=d
 obtain⟨c1,_,rfl,h1,c2,_,rfl,h2,c3,_,rfl,h3,c4,_,rfl,h4,c5,_,rfl,h5,c6,_,rfl,h6,c7,_,rfl,h7,c8,_,rfl,h8,c9,_,rfl,h9,c10,_,rfl,h10,c11,_,rfl,h11,c12,_,rfl,h12,c13,_,rfl,h13,c14,c15,rfl,h14,h15⟩:=hR
 obtain⟨q1,_,rfl,g1,q2,_,rfl,g2,q3,_,rfl,g3,q4,q5,rfl,g4,g5⟩:=h13
 obtain⟨v2,rfl⟩:=DI h2
 obtain⟨v3,rfl⟩:=DI h3
 obtain⟨v4,rfl⟩:=DI h4
 obtain⟨v5,rfl⟩:=DI h5
 obtain⟨v6,rfl⟩:=DI h6
 obtain⟨v7,rfl⟩:=DI h7
 obtain⟨v9,rfl⟩:=DI h9
 obtain⟨v10,rfl⟩:=DI h10
 obtain⟨v11,rfl⟩:=DI h11
 obtain⟨v12,rfl⟩:=DI h12
 have h1:c1=[.int .i64 kd]:=h1
 have h8:c8=[.int .i64 rc]:=h8
 have g1:q1=[.int .i64 qb]:=g1
 have g2:q2=[.int .i64 qd]:=g2
 have g3:q3=[.int .i64 qt]:=g3
 have g4:q4=[.int .i64 qo]:=g4
 have g5:q5=[.bool qz]:=g5
 have h14:c14=[.int .i64 nn]:=h14
 have h15:c15=[.bool nt]:=h15
 subst h1 h8 g1 g2 g3 g4 g5 h14 h15
 obtain⟨w1,w2,w3,w4,w5,w6,w7,w8,w9,w10,w11,w12,⟨u1,u2,u3,u4,u5⟩,w14,w15⟩:=hw
 obtain⟨qb',rfl⟩:∃x:Int,x=qb:=⟨qb,rfl⟩
 obtain⟨qd',rfl⟩:∃x:Int,x=qd:=⟨qd,rfl⟩
 obtain⟨qt',rfl⟩:∃x:Int,x=qt:=⟨qt,rfl⟩
 obtain⟨qo',rfl⟩:∃x:Int,x=qo:=⟨qo,rfl⟩
 let ns:List Int:=[qb',qd',qt',qo']
 have hns:∀y∈ns,Q0 y:=by
  intro y hy
  simp only[ns,DF,G8,or_false]at hy
  rcases hy with rfl | rfl | rfl | rfl<;>assumption
 have he:Ge.enc (kd,t,u,dc,dn,da,ra,rc,mc,mm,mf,me,(qb',qd',qt',qo',qz),nn,nt) =
   (Ba kd:List UInt8)++((CG.enc t:List UInt8)++((CG.enc u:List UInt8)++(((Ty.list Bl).enc dc:List UInt8)++(((Ty.list BM).enc dn:List UInt8)++(((Ty.list .bool).enc da:List UInt8)++((BM.enc ra:List UInt8)++((Ba rc:List UInt8)++(((Ty.list Bl).enc mc:List UInt8)++(((Ty.list (.list DH)).enc mm:List UInt8)++(((Ty.list .bool).enc mf:List UInt8)++(((Ty.list Ch).enc me:List UInt8)++((ns.flatMap Ba:List UInt8)++((Ty.bool.enc qz:List UInt8)++((Ba nn:List UInt8)++((Ty.bool.enc nt:List UInt8)))))))))))))))):=by
  show(Ba kd:List UInt8)++((CG.enc t:List UInt8)++((CG.enc u:List UInt8)++(((Ty.list Bl).enc dc:List UInt8)++(((Ty.list BM).enc dn:List UInt8)++(((Ty.list .bool).enc da:List UInt8)++((BM.enc ra:List UInt8)++((Ba rc:List UInt8)++(((Ty.list Bl).enc mc:List UInt8)++(((Ty.list (.list DH)).enc mm:List UInt8)++(((Ty.list .bool).enc mf:List UInt8)++(((Ty.list Ch).enc me:List UInt8)++((Ba qb'++(Ba qd'++(Ba qt'++(Ba qo'++(Ty.bool.enc qz:List UInt8)))))++((Ba nn:List UInt8)++((Ty.bool.enc nt:List UInt8)))))))))))))))=_
  simp[ns,Ar]
 rw[he]at hb ⊢
 have bd:∀{a b:List UInt8},a.length<=b.length->b.length<Nq->a.length<Nq:=fun h1 h2=>Bz h1 h2
 refine T54 ?_
 unfold xc
 refine(St.start (L:=[]) hW (fun _ h=>by cases h)).box (x:=.ptr p 0) rfl fun H1 s1=>?_
 refine s1.box (x:=.agg _) rfl fun H2 s2=>?_
 refine AA (v:=.ptr H1.next 0) rfl (s2.Gx (.head _) (by simp) ?_)
 refine s2.copy rfl (by simp) fun H3 s3=>?_
 refine s3.ld (.tail _ (.tail _ (.head _))) rfl (AA (v:=.ptr H2.next 0) rfl (s3.ld (o:=0) (.head _) rfl ?_))
 refine s3.call (No w1 s3.w (by simp only[AW]at hb ⊢;omega)) fun H4 r4 s4 hr4=>?_
 refine s4.ld (.tail _ (.tail _ (.head _))) rfl (AA (v:=.ptr H2.next 1) rfl (s4.ld (o:=1) (.head _) rfl ?_))
 refine s4.call (qf (d:=t) h2 w2 s4.w (by simp only[AW]at hb ⊢;omega)) fun H5 r5 s5 hr5=>?_
 refine s5.ld (.tail _ (.tail _ (.head _))) rfl (AA (v:=.ptr H2.next 2) rfl (s5.ld (o:=2) (.head _) rfl ?_))
 refine s5.call (qf (d:=u) h3 w3 s5.w (by simp only[AW]at hb ⊢;omega)) fun H6 r6 s6 hr6=>?_
 refine s6.ld (.tail _ (.tail _ (.head _))) rfl (AA (v:=.ptr H2.next 3) rfl (AA (v:=.ptr H2.next 3) rfl (s6.ld (o:=3) (.head _) rfl (s6.ld (.tail _ (.tail _ (.head _))) rfl ?_))))
 refine s6.call (oL (Eo (t:=Bl) No rfl h4 w4 s6.w s6.k wB (by simp only[AW]at hb ⊢;omega))) fun H7 r7 s7 hr7=>?_
 refine s7.ld (.tail _ (.tail _ (.head _))) rfl (AA (v:=.ptr H2.next 3) rfl (AA (v:=.ptr H2.next 4) rfl (s7.ld (o:=4) (.head _) rfl (s7.ld (.tail _ (.tail _ (.head _))) rfl ?_))))
 refine s7.call (wA (Ep (t:=BM) No rfl h5 w5 s7.w s7.k (oQ.step _ p) (by simp only[AW]at hb ⊢;omega))) fun H8 r8 s8 hr8=>?_
 refine s8.ld (.tail _ (.tail _ (.head _))) rfl (AA (v:=.ptr H2.next 3) rfl (AA (v:=.ptr H2.next 5) rfl (s8.ld (o:=5) (.head _) rfl (s8.ld (.tail _ (.tail _ (.head _))) rfl ?_))))
 refine s8.call (oK (Ep (t:=.bool) No rfl h6 w6 s8.w s8.k (oP.step _ p) (by simp only[AW]at hb ⊢;omega))) fun H9 r9 s9 hr9=>?_
 refine s9.ld (.tail _ (.tail _ (.head _))) rfl (AA (v:=.ptr H2.next 6) rfl (AA (v:=.ptr H2.next 6) rfl (s9.ld (o:=6) (.head _) rfl ?_)))
 refine s9.call (oQ (d:=ra) h7 w7 s9.w (by simp only[AW]at hb ⊢;omega)) fun H10 r10 s10 hr10=>?_
 refine s10.ld (.tail _ (.tail _ (.head _))) rfl (AA (v:=.ptr H2.next 6) rfl (AA (v:=.ptr H2.next 7) rfl (s10.ld (o:=7) (.head _) rfl ?_)))
 refine s10.call (No w8 s10.w (by simp only[AW]at hb ⊢;omega)) fun H11 vV s11 hr11=>?_
 refine s11.ld (.tail _ (.tail _ (.head _))) rfl (AA (v:=.ptr H2.next 8) rfl (AA (v:=.ptr H2.next 8) rfl (s11.ld (o:=8) (.head _) rfl (s11.ld (.tail _ (.tail _ (.head _))) rfl ?_))))
 refine s11.call (oL (Eo (t:=Bl) No rfl h9 w9 s11.w s11.k wB (by simp only[AW]at hb ⊢;omega))) fun H12 r12 s12 hr12=>?_
 refine s12.ld (.tail _ (.tail _ (.head _))) rfl (AA (v:=.ptr H2.next 8) rfl (AA (v:=.ptr H2.next 9) rfl (s12.ld (o:=9) (.head _) rfl ?_)))
 refine s12.call (tV (Ep (t:=.list DH) No rfl h10 w10 s12.w s12.k (S51 (.tail _ (.tail _ (.head _)))) (by simp only[AW]at hb ⊢;omega))) fun H13 vU s13 hr13=>?_
 refine s13.ld (.tail _ (.tail _ (.head _))) rfl (AA (v:=.ptr H2.next 8) rfl (AA (v:=.ptr H2.next 10) rfl (s13.ld (o:=10) (.head _) rfl (s13.ld (.tail _ (.tail _ (.head _))) rfl ?_))))
 refine s13.call (oK (Ep (t:=.bool) No rfl h11 w11 s13.w s13.k (oP.step _ p) (by simp only[AW]at hb ⊢;omega))) fun H14 r14 s14 hr14=>?_
 refine s14.ld (.tail _ (.tail _ (.head _))) rfl (AA (v:=.ptr H2.next 8) rfl (AA (v:=.ptr H2.next 11) rfl (s14.ld (o:=11) (.head _) rfl ?_)))
 refine s14.call (tL (Ep (t:=Ch) No rfl h12 w12 s14.w s14.k (S58 (.tail _ (.tail _ (.head _)))) (by simp only[AW]at hb ⊢;omega))) fun H15 r15 s15 hr15=>?_
 refine AA (v:=.ptr H2.next 12) rfl (AA (v:=.ptr H2.next 12) rfl (s15.ld (o:=12) (.head _) rfl ?_))
 refine AA (v:=.ptr H2.next 12) rfl (AA (v:=.ptr H2.next 13) rfl (s15.ld (o:=13) (.head _) rfl ?_))
 refine AA (v:=.ptr H2.next 12) rfl (AA (v:=.ptr H2.next 14) rfl (s15.ld (o:=14) (.head _) rfl ?_))
 refine AA (v:=.ptr H2.next 12) rfl (AA (v:=.ptr H2.next 15) rfl (s15.ld (o:=15) (.head _) rfl ?_))
 refine Aq (v:=.sl H15.next 0 4 (.ex 4)) (H':=H15.push (.cells (nc ns))) (by rfl) ?_
 refine AA (v:=.int .i64 4) rfl ?_
 have s16:=s15.push (c:=nc ns)
 obtain⟨B,hB⟩:∃B:List UInt8,B=((((((((((((bs++(Ba kd:List UInt8))++(CG.enc t:List UInt8))++(CG.enc u:List UInt8))++((Ty.list Bl).enc dc:List UInt8))++((Ty.list BM).enc dn:List UInt8))++((Ty.list .bool).enc da:List UInt8))++(BM.enc ra:List UInt8))++(Ba rc:List UInt8))++((Ty.list Bl).enc mc:List UInt8))++((Ty.list (.list DH)).enc mm:List UInt8))++((Ty.list .bool).enc mf:List UInt8))++((Ty.list Ch).enc me:List UInt8)):=⟨_,rfl⟩
 have s16:St H p ro _ _ (some r15) B:=hB▸s16
 have hbB:(B++((ns.flatMap Ba:List UInt8)++((Ty.bool.enc qz:List UInt8)++((Ba nn:List UInt8)++(Ty.bool.enc nt:List UInt8))))).length<Nq:=by
  rw[hB];simpa only[Ar]using hb
 have hfin:bs++((Ba kd:List UInt8)++((CG.enc t:List UInt8)++((CG.enc u:List UInt8)++(((Ty.list Bl).enc dc:List UInt8)++(((Ty.list BM).enc dn:List UInt8)++(((Ty.list .bool).enc da:List UInt8)++((BM.enc ra:List UInt8)++((Ba rc:List UInt8)++(((Ty.list Bl).enc mc:List UInt8)++(((Ty.list (.list DH)).enc mm:List UInt8)++(((Ty.list .bool).enc mf:List UInt8)++(((Ty.list Ch).enc me:List UInt8)++((ns.flatMap Ba:List UInt8)++((Ty.bool.enc qz:List UInt8)++((Ba nn:List UInt8)++((Ty.bool.enc nt:List UInt8)))))))))))))))))=B++((ns.flatMap Ba:List UInt8)++((Ty.bool.enc qz:List UInt8)++((Ba nn:List UInt8)++(Ty.bool.enc nt:List UInt8)))):=by
  rw[hB];simp only[Ar]
 rw[hfin]
 clear hb hfin hB
 obtain⟨LL,s16,hm0,hm1,hm2,hm3⟩:∃LL,St H p ro LL (H15.push (.cells (nc ns))) (some r15) B/\(H.next,[AV.ptr p 0])∈LL/\(H1.next,([AV.int .i64 kd]++([v2]++([v3]++([v4]++([v5]++([v6]++([v7]++([AV.int .i64 rc]++([v9]++([v10]++([v11]++([v12]++(([AV.int .i64 qb']++([AV.int .i64 qd']++([AV.int .i64 qt']++([AV.int .i64 qo']++[AV.bool qz]))))++([AV.int .i64 nn]++[AV.bool nt])))))))))))))))∈LL/\(H2.next,((([AV.int .i64 kd]++([v2]++([v3]++([v4]++([v5]++([v6]++([v7]++([AV.int .i64 rc]++([v9]++([v10]++([v11]++([v12]++(([AV.int .i64 qb']++([AV.int .i64 qd']++([AV.int .i64 qt']++([AV.int .i64 qo']++[AV.bool qz]))))++([AV.int .i64 nn]++[AV.bool nt]))))))))))))))).drop 0).take 18)∈LL/\(H15.next,nc ns)∈LL:=
  ⟨_,s16,List.Mem.tail _ (List.Mem.tail _ (List.Mem.tail _ (List.Mem.head _))),List.Mem.tail _ (List.Mem.tail _ (List.Mem.head _)),List.Mem.tail _ (List.Mem.head _),List.Mem.head _⟩
 let Iv:AV->AV->AV->AV->AV->AV->AH->Prop:=fun a b c s l d H'=>a=.ptr H.next 0/\b=.ptr H1.next 0/\c=.ptr H2.next 0/\s=.sl H15.next 0 4 (.ex 4)/\l=.int .i64 4/\∃(i rx:Nat),d=.int .i64 (i:Int)/\i<=4/\H.next<=rx /\
  St H p ro LL H' (some rx) (B++(ns.take i).flatMap Ba)
 let μ:AV->AV->AV->AV->AV->AV->AH->Nat:=fun _ _ _ _ _ d _=>match d with
  | .int _ j=>(4-j).toNat
  | _=>0
 refine⟨Iv,μ,⟨rfl,rfl,rfl,rfl,rfl,0,r15,rfl,by omega,hr15,by simpa using s16⟩,?_⟩
 intro e H5 hI
 obtain⟨e1,e2,e3,e4,e5,i,rx,e6,hi,hrx,s5⟩:=(hI:Iv (e 2) (e 3) (e 4) (e 90) (e 91) (e 92) H5)
 show AB (.bin .lss (.cst (e 92)) (.cst (e 91))) _
 rw[e6,e5]
 refine AA (v:=.bool (decide ((i:Int)<4))) rfl (B_ (fun ht=>?_) (fun ht=>?_))
 ·have hlt:i<4:=by have:=of_decide_eq_true ht;omega
  rw[e4,e1,e2,e3]
  obtain⟨y,hy⟩:∃y,ns[i]?=some y:=⟨ns[i]'(by simpa[ns]using hlt),Ab _⟩
  have hc:AJ (.indexAddrS 1 (.cst (.sl H15.next 0 4 (.ex 4))) (.cst (.int .i64 (i:Int)))) emp=some (.ptr H15.next i):=by
   have h1:(0:Int)<=(i:Int)/\(i:Int)<((4:Nat):Int):=by omega
   simp only[AJ,AE.ev,Ey]
   rw[if_pos h1];simp
  refine AA hc (s5.ld hm3 (Vj hy) (s5.ld hm0 rfl ?_))
  have hsub:=IT ns (i+1)
  rw[DT hy]at hsub
  refine s5.call (No (hns y (CK hy)) s5.w (by simp only[AW]at hbB hsub ⊢;omega)) fun H6 r6 s6 hr6=>?_
  refine AA (v:=.int .i64 ((i+1:Nat):Int)) (by
   show some (AV.int .i64 (IntKind.i64.wrap ((i:Int)+1)))=_
   rw[DO (by omega)];rfl) ?_
  refine⟨⟨rfl,rfl,rfl,rfl,rfl,i+1,r6,rfl,hlt,hr6,?_⟩,?_⟩
  ·rw[DT hy,<- Ar];exact s6
  ·show((4:Int)-((i+1:Nat):Int)).toNat<μ (e 2) (e 3) (e 4) (e 90) (e 91) (e 92) H5
   rw[e6]
   show((4:Int)-((i+1:Nat):Int)).toNat<((4:Int)-(i:Int)).toNat
   omega
 ·have hge:i=4:=by have:=of_decide_eq_false ht;omega
  subst hge
  rw[show ns.take 4=ns from rfl]at s5
  rw[e1,e2,e3]
  refine s5.ld hm0 rfl (AA (v:=.ptr H2.next 12) rfl (AA (v:=.ptr H2.next 16) rfl (s5.ld (o:=16) hm2 rfl ?_)))
  refine s5.call (oP (d:=qz) rfl trivial s5.w (by simp only[AW]at hbB ⊢;omega)) fun H6 r6 s6 hr6=>?_
  refine s6.ld hm0 rfl (AA (v:=.ptr H2.next 17) rfl (s6.ld (o:=17) hm2 rfl ?_))
  refine s6.call (No w14 s6.w (by simp only[AW]at hbB ⊢;omega)) fun H7 r7 s7 hr7=>?_
  refine s7.ld hm0 rfl (AA (v:=.ptr H1.next 18) rfl (s7.ld (o:=18) hm1 rfl ?_))
  refine s7.call (oP (d:=nt) rfl trivial s7.w (by simp only[AW]at hbB ⊢;omega)) fun H8 r8 s8 hr8=>?_
  have:=s8.fin hr8
  simpa only[Ar]using this
end
section
open Go Go.AL Go.AL.Co
variable [BQ]
set_option maxHeartbeats 4000000 in
set_option maxRecDepth 4000 in
theorem S17 {L:List (Nat × List AV)}{p q:Nat}(hq:(q,[AV.ptr p 0])∈L):Ng prog L p (.fn (.func 52) [] [.ptr q 0]) HC:=by
 intro d c hR hw H ro bs hW hL hb
 obtain⟨ru,l,r,x,li,us,st,rows,gr⟩:=d
 obtain⟨c1,_,rfl,h1,c2,_,rfl,h2,c3,_,rfl,h3,c4,_,rfl,h4,cL,_,rfl,h5,c6,_,rfl,h6,c7,_,rfl,h7,c8,c9,rfl,h8,h9⟩:=hR
 obtain⟨v6,rfl⟩:=DI h6
 obtain⟨v7,rfl⟩:=DI h7
 obtain⟨v8,rfl⟩:=DI h8
 obtain⟨v9,rfl⟩:=DI h9
 have hcl:cL.length=19:=LF Ge _ _ h5
 have h1:c1=[.int .i64 ru]:=h1
 have h2:c2=[.int .i64 l]:=h2
 have h3:c3=[.int .i64 r]:=h3
 have h4:c4=[.int .i64 x]:=h4
 subst h1 h2 h3 h4
 obtain⟨w1,w2,w3,w4,w5,w6,w7,w8,w9⟩:=hw
 obtain⟨ru',rfl⟩:∃y:Int,y=ru:=⟨ru,rfl⟩
 obtain⟨l',rfl⟩:∃y:Int,y=l:=⟨l,rfl⟩
 obtain⟨rr',rfl⟩:∃y:Int,y=r:=⟨r,rfl⟩
 obtain⟨x',rfl⟩:∃y:Int,y=x:=⟨x,rfl⟩
 let ns:List Int:=[ru',l',rr',x']
 have hns:∀y∈ns,Q0 y:=by
  intro y hy
  simp only[ns,DF,G8,or_false]at hy
  rcases hy with rfl | rfl | rfl | rfl<;>assumption
 have he:HC.enc (ru',l',rr',x',li,us,st,rows,gr)=(ns.flatMap Ba:List UInt8)++((Ge.enc li:List UInt8)++((BM.enc us:List UInt8)++(((Ty.list BM).enc st:List UInt8)++(((Ty.list Em).enc rows:List UInt8)++((Ty.list IK).enc gr:List UInt8))))):=by
  show Ba ru'++(Ba l'++(Ba rr'++(Ba x'++((Ge.enc li:List UInt8)++((BM.enc us:List UInt8)++(((Ty.list BM).enc st:List UInt8)++(((Ty.list Em).enc rows:List UInt8)++((Ty.list IK).enc gr:List UInt8))))))))=_
  simp[ns,Ar]
 rw[he]at hb ⊢
 refine T52 ?_
 unfold xd
 refine(St.start hW hL).box (x:=.agg _) rfl fun H1 s1=>?_
 refine AA (v:=.ptr H.next 0) rfl (s1.ld (o:=0) (.head _) rfl ?_)
 refine AA (v:=.ptr H.next 1) rfl (s1.ld (o:=1) (.head _) rfl ?_)
 refine AA (v:=.ptr H.next 2) rfl (s1.ld (o:=2) (.head _) rfl ?_)
 refine AA (v:=.ptr H.next 3) rfl (s1.ld (o:=3) (.head _) rfl ?_)
 refine Aq (v:=.sl H1.next 0 4 (.ex 4)) (H':=H1.push (.cells (nc ns))) (by rfl) ?_
 refine AA (v:=.int .i64 4) rfl ?_
 have s2:=s1.push (c:=nc ns)
 obtain⟨LL,s2,hm0,hm1,hm2⟩:∃LL,St H p ro LL (H1.push (.cells (nc ns))) ro bs/\(q,[AV.ptr p 0])∈LL/\(H.next,[AV.int .i64 ru']++([AV.int .i64 l']++([AV.int .i64 rr']++([AV.int .i64 x']++(cL++([v6]++([v7]++([v8]++[v9]))))))))∈LL/\(H1.next,nc ns)∈LL:=
  ⟨_,s2,List.Mem.tail _ (List.Mem.tail _ hq),List.Mem.tail _ (List.Mem.head _),List.Mem.head _⟩
 let Iv:AV->AV->AV->AV->AV->AH->Prop:=fun a b s l d H'=>a=.ptr q 0/\b=.ptr H.next 0/\s=.sl H1.next 0 4 (.ex 4)/\l=.int .i64 4/\∃(i:Nat) (rx:Option Nat),d=.int .i64 (i:Int)/\i<=4/\St H p ro LL H' rx (bs++(ns.take i).flatMap Ba)
 let μ:AV->AV->AV->AV->AV->AH->Nat:=fun _ _ _ _ d _=>match d with
  | .int _ j=>(4-j).toNat
  | _=>0
 refine⟨Iv,μ,⟨rfl,rfl,rfl,rfl,0,ro,rfl,by omega,by simpa using s2⟩,?_⟩
 intro e H5 hI
 obtain⟨e1,e2,e3,e4,i,rx,e5,hi,s5⟩:=(hI:Iv (e 1) (e 2) (e 13) (e 14) (e 15) H5)
 show AB (.bin .lss (.cst (e 15)) (.cst (e 14))) _
 rw[e5,e4]
 refine AA (v:=.bool (decide ((i:Int)<4))) rfl (B_ (fun ht=>?_) (fun ht=>?_))
 ·have hlt:i<4:=by have:=of_decide_eq_true ht;omega
  rw[e1,e2,e3]
  obtain⟨y,hy⟩:∃y,ns[i]?=some y:=⟨ns[i]'(by simpa[ns]using hlt),Ab _⟩
  have hc:AJ (.indexAddrS 1 (.cst (.sl H1.next 0 4 (.ex 4))) (.cst (.int .i64 (i:Int)))) emp=some (.ptr H1.next i):=by
   have h1:(0:Int)<=(i:Int)/\(i:Int)<((4:Nat):Int):=by omega
   simp only[AJ,AE.ev,Ey]
   rw[if_pos h1];simp
  refine AA hc (s5.ld hm2 (Vj hy) (s5.ld hm0 rfl ?_))
  have hsub:=IT ns (i+1)
  rw[DT hy]at hsub
  refine s5.call (No (hns y (CK hy)) s5.w (by simp only[AW]at hb hsub ⊢;omega)) fun H6 r6 s6 hr6=>?_
  refine AA (v:=.int .i64 ((i+1:Nat):Int)) (by
   show some (AV.int .i64 (IntKind.i64.wrap ((i:Int)+1)))=_
   rw[DO (by omega)];rfl) ?_
  refine⟨⟨rfl,rfl,rfl,rfl,i+1,some r6,rfl,hlt,?_⟩,?_⟩
  ·rw[DT hy,<- Ar];exact s6
  ·show((4:Int)-((i+1:Nat):Int)).toNat<μ (e 1) (e 2) (e 13) (e 14) (e 15) H5
   rw[e5]
   show((4:Int)-((i+1:Nat):Int)).toNat<((4:Int)-(i:Int)).toNat
   omega
 ·have hge:i=4:=by have:=of_decide_eq_false ht;omega
  subst hge
  rw[show ns.take 4=ns from rfl]at s5
  rw[e1,e2]
  refine s5.ld hm0 rfl (AA (v:=.ptr H.next 4) rfl (s5.Gx (o:=4) (k:=19) hm1 (by simp[hcl]) ?_))
  have hcL:(([AV.int .i64 ru']++([AV.int .i64 l']++([AV.int .i64 rr']++([AV.int .i64 x']++(cL++([v6]++([v7]++([v8]++[v9])))))))).drop 4).take 19=cL:=by
   simp[<- hcl]
  rw[hcL]
  refine s5.call (P19 h5 w5 s5.w (by simp only[AW]at hb ⊢;omega)) fun H6 r6 s6 hr6=>?_
  refine s6.ld hm0 rfl (AA (v:=.ptr H.next 23) rfl (s6.ld (o:=23) (x:=v6) hm1 (by simp[Iy,hcl]) ?_))
  refine s6.call (oQ (d:=us) h6 w6 s6.w (by simp only[AW]at hb ⊢;omega)) fun H7 r7 s7 hr7=>?_
  refine s7.ld hm0 rfl (AA (v:=.ptr H.next 24) rfl (s7.ld (o:=24) (x:=v7) hm1 (by simp[Iy,hcl]) (s7.ld hm0 rfl ?_)))
  refine s7.call (wA (Ep (t:=BM) No rfl h7 w7 s7.w s7.k (oQ.step _ p) (by simp only[AW]at hb ⊢;omega))) fun H8 r8 s8 hr8=>?_
  refine s8.ld hm0 rfl (AA (v:=.ptr H.next 25) rfl (s8.ld (o:=25) (x:=v8) hm1 (by simp[Iy,hcl]) ?_))
  refine s8.call (T57 (Eo (t:=Em) No rfl h8 w8 s8.w s8.k (qa hm0) (by simp only[AW]at hb ⊢;omega))) fun H9 r9 s9 hr9=>?_
  refine s9.ld hm0 rfl (AA (v:=.ptr H.next 26) rfl (s9.ld (o:=26) (x:=v9) hm1 (by simp[Iy,hcl]) ?_))
  refine s9.call (T59 (Eo (t:=IK) No rfl h9 w9 s9.w s9.k (uH hm0) (by simp only[AW]at hb ⊢;omega))) fun H10 r10 s10 hr10=>?_
  have:=s10.fin hr10
  simpa only[Ar]using this
end
section
open Go Go.AL Go.AL.Co
variable [BQ]
def EPost (H:AH) (bs:List UInt8):Al->AH->Prop:=fun o H'=>∃r,H.next<=r/\r<H'.next/\o=.ret (.sl r 0 bs.length (.op 1))/\H'.get r=some (.cells (bs.map bv))/\C9 H H'
theorem P6 {H:AH}{v0:AV}{d:Ad.D}(hR:RC Ad d [v0]) (hw:Ad.wf d) (hb:(Ad.enc d).length<Nq):AQ prog 26 [v0] H (EPost H (Ad.enc d)):=by
 refine T26 ?_
 unfold xl
 refine AA (v:=.agg [.nils]) rfl (XY rfl ?_)
 refine Aq (v:=.ptr (H.next+1) 0) (H':=(H.push (.cells [.nils])).push (.cells [.nilp])) rfl ?_
 refine Aq (v:=.unk) (H':=((H.push (.cells [.nils])).push (.cells [.nilp])).set (H.next+1) (.cells [.ptr H.next 0])) (by simp[BC,AE.ev,AH.cells?,AH.Ai,AV.cellsOf,Ap]) ?_
 generalize hH4:((H.push (.cells [.nils])).push (.cells [.nilp])).set (H.next+1) (.cells [.ptr H.next 0])=H4
 have g0:H4.get H.next=some (.cells [.nils]):=by
  subst hH4
  have:H.next≠H.next+1:=by omega
  simp[AH.AU,AH.Ai,this]
 have g1:H4.get (H.next+1)=some (.cells [.ptr H.next 0]):=by subst hH4;simp[AH.AU]
 have g2:H4.next=H.next+2:=by subst hH4;rfl
 have g3:C9 H H4:=by
  refine⟨by omega,fun x hx=>?_,by subst hH4;rfl⟩
  subst hH4
  have h1:x≠H.next:=by omega
  have h2:x≠H.next+1:=by omega
  simp[AH.AU,AH.Ai,h1,h2]
 have hW:Wr H4 H.next none []:=.nil g0 (by omega)
 have hL:Xe [(H.next+1,[AV.ptr H.next 0])] H.next H4 none:=fun x hx=>by
  cases hx with
  | head=>exact⟨by show H.next+1<H4.next;omega,by show H.next+1≠H.next;omega,by simp,g1⟩
  | tail _ h=>cases h
 have s0:=St.start hW hL
 refine s0.ld (.head _) rfl ?_
 refine s0.call (bs':=[]++Ad.enc d) (T51 (Eo (t:=HC) No rfl hR hw hW hL (S17 (.head _)) (by rw[Bf];exact hb))) fun H5 r5 s5 hr5=>?_
 refine s5.ld (.head _) rfl (AA (v:=.ptr H.next 0) rfl (AA (v:=.ptr H.next 0) rfl ?_))
 have hw5:=s5.w
 rw[Bf]at hw5
 refine We hw5 ?_
 cases hw5 with
 | row hp hr hne hl0 hrt=>
  refine⟨r5,by omega,hrt,rfl,hr,?_⟩
  have hk:=s5.kw
  have hn:=hk.nx
  exact⟨by omega,fun x hx=>by rw[hk.get x (by omega) (by omega) (by simp),g3.get x hx],hk.gl.trans g3.gl⟩
end
end Go.Proofs.YtlmkmpomgdbjhaaGreatDoor
namespace Go.AL
section
open Co
variable [BQ]
inductive fO (z:Nat):AV->List AV->Nat->Prop
 | nil:fO z .nils [] 0
 | sim {c:List AV} {n:Nat} (h:c.length=n*z) (hn:0<n):fO z (.sim c n false) c n
def RX:(t:Ty)->t.D->List AV->Prop
 | .int,n,c=>c=[.int .i64 n]
 | .byte,x,c=>c=[bv x]
 | .bool,b,c=>c=[.bool b]
 | .list t,l,c=>∃v cs,c=[v]/\fO (Dd t) v cs (GA l).length/\∃css:List (List AV),cs=css.flatten/\css.length=(GA l).length/\∀(i:Nat) (x:t.D) (y:List AV),(GA l)[i]?=some x->css[i]?=some y->RX t x y
 | .pair a b,p,c=>∃c1 c2,c=c1++c2/\RX a p.1 c1/\RX b p.2 c2
 | .vec n,l,c=>(Rl l).length=n/\c.length=n / 8/\∀i,i<n / 8->c[i]?=some (.int .u64 ((w8 (((Rl l).drop (8*i)).take 8):Nat):Int))
theorem U7:∀(t:Ty) (d:t.D) (c:List AV),RX t d c->RC t d c
 | .int,_,_,h=>h
 | .byte,_,_,h=>h
 | .bool,_,_,h=>h
 | .list t,_,_,h=>by
  obtain⟨v,cs,rfl,hf,css,h1,h2,h3⟩:=h
  refine⟨v,cs,rfl,?_,css,h1,h2,fun i x y hx hy=>U7 t _ _ (h3 i x y hx hy)⟩
  clear h2 h3
  generalize (GA _).length=n at hf ⊢
  cases hf with
  | nil=>exact .nil
  | sim h _=>exact .sim h
 | .pair a b,_,_,h=>by
  obtain⟨c1,c2,rfl,h1,h2⟩:=h
  exact⟨c1,c2,rfl,U7 a _ _ h1,U7 b _ _ h2⟩
 | .vec _,_,_,h=>h
theorem Qd (t:Ty) (d:t.D) (c:List AV) (h:RX t d c):c.length=Dd t:=LF t d c (U7 t d c h)
def QV:(t:Ty)->t.D->AV->Prop
 | .pair a b,d,x=>∃c,x=.agg c/\RC (.pair a b) d c
 | .int,d,x=>RC .int d [x]
 | .byte,d,x=>RC .byte d [x]
 | .bool,d,x=>RC .bool d [x]
 | .list t,d,x=>RC (.list t) d [x]
 | .vec n,d,x=>∃c,x=.agg c/\RC (.vec n) d c
end
section
open Co
variable [BQ] {P:Program}
structure LR (t:Ty) (l:List t.D) (v:AV):Prop where
 one:v.cellsOf=some [v]
 len:AJ (.len (.cst v)) emp=some (.int .i64 (l.length:Int))
 at_:∀(i:Nat) (hi:i<l.length),∃cs c,AJ (.indexAddrS (Dd t) (.cst v) (.cst (.int .i64 (i:Int)))) emp=some (.pim cs (i*Dd t))/\RC t (l[i]'hi) c/\c.length=Dd t/\(∀j,j<Dd t->cs[i*Dd t+j]?=c[j]?) /\
  (∀H,AY (.load (some (Dd t)) (.cst (.pim cs (i*Dd t)))) emp H=some (.agg c))
 cells:∃cs,(∀H,Ae (Dd t) v H=some (l.length,cs))/\∃css:List (List AV),cs=css.flatten/\css.length=l.length/\∀(i:Nat) (x:t.D) (y:List AV),l[i]?=some x->css[i]?=some y->RC t x y
theorem fe {t:Ty}{l:(Ty.list t).D}{v:AV}(h:RC (.list t) l [v]):LR t (GA l) v:=by
 obtain⟨cs,css,hf,h1,h2,h3,h4⟩:=Kv h
 generalize hn:(GA l).length=n at hf h2
 refine⟨by cases hf<;>rfl,by rw[hn];cases hf<;>rfl,fun i hi=>?_,?_⟩
 ·have hi':i<css.length:=by omega
  have hc:css[i]?=some (css[i]'hi'):=Ab hi'
  have hR:=h4 i _ _ (Ab hi) hc
  have hx:=Je css i _ h3 hc
  have hl:=h3 _ (List.getElem_mem hi')
  cases hf with
  | nil=>omega
  | sim hcs=>
   have hm:i*Dd t+Dd t<=n*Dd t:=by
    have:(i+1)*Dd t<=n*Dd t:=DY _ (by omega)
    rw[EC,GY]at this;exact this
   refine⟨cs,css[i]'hi',?_,hR,hl,fun j hj=>?_,fun H=>?_⟩
   ·have h9:(0:Int)<=(i:Int)/\(i:Int)<(n:Int):=by omega
    simp[AJ,AE.ev,Ey,h9]
   ·rw[h1,<- hx,D0,if_pos hj,DD]
   ·have:i*Dd t+Dd t<=cs.length:=by omega
    simp only[AY,BJ,AE.ev,apart,this,if_true]
    rw[h1,hx]
 ·refine⟨cs,fun H=>?_,css,h1,by rw[h2,hn],h4⟩
  rw[hn]
  cases hf with
  | nil=>rfl
  | sim hcs=>simp[Ae,hcs]
def oJ (H:AH):Al->AH->Prop:=fun o H'=>o=.ret (.bool true)/\C9 H H'
structure Sm (H0:AH) (L:List (Nat × List AV)) (H:AH):Prop where
 k:C9 H0 H
 l:∀x∈L,x.1<H.next/\H.get x.1=some (.cells x.2)
theorem Sm.start (H:AH):Sm H [] H:=⟨C9.refl _,fun x hx=>by cases hx⟩
theorem Sm.GJ {H0 H H':AH}{L:List (Nat × List AV)}(s:Sm H0 L H) (h:C9 H H'):Sm H0 L H':=⟨s.k.trans h,fun x hx=>by
 obtain⟨h1,h2⟩:=s.l x hx
 exact⟨C6 h1 h.nx,by rw[h.get _ h1];exact h2⟩⟩
theorem Sm.call {H0 H:AH}{L:List (Nat × List AV)}{g:FuncId}{ar:List AV}{K:AV->AH->Prop}{Kp:AV->AH->Prop}(s:Sm H0 L H) (hC:AQ P g ar H (oJ H)) (hK:∀H',Sm H0 L H'->K (.bool true) H'):AF P g ar H Kp K:=
 BA hC (fun v H' h=>by obtain⟨h1,h2⟩:=h;cases h1;exact hK _ (s.GJ h2)) (fun v H' h=>by cases h.1)
def cX (c:List AV) (o:Nat) (t:Ty) (d:t.D):Prop:=o+Dd t<=c.length/\RC t d ((c.drop o).take (Dd t))
theorem cX.start {t:Ty}{d:t.D}{c:List AV}(h:RC t d c):cX c 0 t d:=by
 have:=LF _ _ _ h
 refine⟨by omega,?_⟩
 rw[B5,AX (by omega)];exact h
theorem cX.one {t:Ty}{d:t.D}{c:List AV}{o:Nat}(h:cX c o t d) (ht:Dd t=1):∃x,c[o]?=some x/\RC t d [x]:=by
 obtain⟨h1,h2⟩:=h
 rw[ht]at h1 h2
 have hlt:o<c.length:=by omega
 refine⟨c[o]'hlt,Ab hlt,?_⟩
 have:(c.drop o).take 1=[c[o]'hlt]:=by rw[Gc hlt];rfl
 rw[<- this];exact h2
theorem cX.agg {t:Ty}{d:t.D}{c:List AV}{o:Nat}(h:cX c o t d):∃c1,(c.drop o).take (Dd t)=c1/\c1.length=Dd t/\o+Dd t<=c.length/\RC t d c1:=⟨_,rfl,LF _ _ _ h.2,h.1,h.2⟩
theorem cX.int {d:Int}{c:List AV}{o:Nat}(h:cX c o .int d):c[o]?=some (.int .i64 d):=by
 obtain⟨x,h1,h2⟩:=h.one rfl
 have h2:[x]=[AV.int .i64 d]:=h2
 cases h2;exact h1
theorem cX.bool {d:Bool}{c:List AV}{o:Nat}(h:cX c o .bool d):c[o]?=some (.bool d):=by
 obtain⟨x,h1,h2⟩:=h.one rfl
 have h2:[x]=[AV.bool d]:=h2
 cases h2;exact h1
theorem cX.list {t:Ty}{d:(Ty.list t).D}{c:List AV}{o:Nat}(h:cX c o (.list t) d):∃x,c[o]?=some x/\QV (.list t) d x:=by
 obtain⟨x,h1,h2⟩:=h.one rfl
 exact⟨x,h1,h2⟩
theorem LR.gD {t:Ty}{l:List t.D}{v:AV}(h:LR t l v) (ht:Dd t=1){i:Nat}(hi:i<l.length):∃a x,AJ (.indexAddrS 1 (.cst v) (.cst (.int .i64 (i:Int)))) emp=some a/\(∀H,AY (.load none (.cst a)) emp H=some x)/\RC t (l[i]'hi) [x]:=by
 obtain⟨cs,c,a1,a2,a3,a4,_⟩:=h.at_ i hi
 rw[ht]at a1 a3 a4
 match c,a3 with
 | [x],_=>exact⟨_,x,a1,fun H=>by simpa[AY,BJ,AE.ev,apart]using a4 0 (by omega),a2⟩
end
end Go.AL
namespace Go.Proofs.YtlmkmpomgdbjhaaGreatDoor
open Tryz
section
open Go Go.AL
variable [BQ]
def ov (b:AV) (h:AH) (a:Al->AH->Prop):Prop:=(
 AB (.nilCheck b) fun m=>
 AB (.fieldAddr 0 m) fun n=>
 AG (.load none n) h fun o=>
 AB (.len o) fun p=>
 AB (.bin .eql p (I 0)) fun q=>
 AZ q
 (AB (.build [(I 0)] [(0,1,(I 5))]) fun c=>
 CD (.ifc 139 c) h (yp a))
 (AB (.nilCheck b) fun c=>
 AB (.fieldAddr 0 c) fun r=>
 AG (.load none r) h fun s=>
 AB (.indexAddrS 1 s (I 0)) fun t=>
 AG (.load none t) h fun e=>
 AB (.nilCheck b) fun f=>
 AB (.fieldAddr 0 f) fun g=>
 AG (.load none g) h fun i=>
 AB (.sliceS 1 i (some (I 1)) none none) fun j=>
 AB (.nilCheck b) fun k=>
 AB (.fieldAddr 0 k) fun l=>
 AO (.store 1 l j) h fun u d=>
 a (.ret e) d))
theorem tA {v0 h Post}(hG:ov v0 h Post):AQ prog 184 [v0] h Post:=tP func184 (by kernel_rfl) (by kernel_rfl) hG
def ou (b:AV) (h:AH) (a:Al->AH->Prop):Prop:=(
 AF prog 305 [b,(.fn (.func 306) [b] [])] h (yp a) fun d c=>
 a (.ret d) c)
theorem s_ {v0 h Post}(hG:ou v0 h Post):AQ prog 185 [v0] h Post:=tP func185 (by kernel_rfl) (by kernel_rfl) hG
def uo (n u:AV) (h:AH) (a:Al->AH->Prop):Prop:=(
 AF prog 91 [n] h (yp a) fun i b=>
 AB (.bin .lss i (I 0)) fun v=>
 AZ v
 (AB (.build [(I 0)] [(0,1,(I 4))]) fun j=>
 CD (.ifc 139 j) b (yp a))
 (AB (.nilCheck n) fun j=>
 AB (.fieldAddr 0 j) fun w=>
 AG (.load none w) b fun x=>
 AB (.len x) fun y=>
 AB (.bin .gtr i y) fun z=>
 AZ z
 (AB (.build [(I 0)] [(0,1,(I 5))]) fun A=>
 CD (.ifc 139 A) b (yp a))
 (Ak [1,6,22,23] (fun t=>(fun(d e f g:AV) (c:AH)=>
 AB (.bin .lss g f) fun o=>
 AZ o
 (DV prog d [] c (yp a) fun p k=>
 AO (.buildSlice 4 1 (BD 4 (N .u64 0) []) [(0,4,p)]) k fun q l=>
 AO (.append 4 32 e q) l fun r m=>
 AB (.bin .add g (I 1)) fun s=>
 t d r f s m)
 (a (.ret e) c))) ((((A5.set 1 u).set 6 .nils).set 22 i).set 23 (I 0)) b)))
theorem sy {v0 v1 h Post}(hG:uo v0 v1 h Post):AQ prog 186 [v0,v1] h Post:=tP func186 (by kernel_rfl) (by kernel_rfl) hG
def ot (y:AV) (h:AH) (c:Al->AH->Prop):Prop:=(
 AO (.alloc (BD 4 (N .u64 0) [])) h fun z w=>
 AO (.alloc (BD 4 (N .u64 0) [])) w fun A x=>
 Ak [0,2,3,5] (fun v=>(fun(u k f g:AV) (e:AH)=>
 AB (.bin .lss g (I 32)) fun B=>
 AZ B
 (AB (.bin .quo g (I 8)) fun a=>
 AB (.indexAddrA 4 1 f a) fun d=>
 AG (.load none d) e fun b=>
 AB (.bin .rem g (I 8)) fun m=>
 AB (.bin .mul (I 8) m) fun n=>
 AF prog 184 [u] e (yp c) fun o j=>
 (Am (.load none d) b j/\True)/\AB (.convI .u64 o) fun p=>
 AB (.bin .shl p n) fun q=>
 AB (.bin .or b q) fun r=>
 AB (.indexAddrA 4 1 f a) fun s=>
 AO (.store 1 s r) j fun C l=>
 True/\AB (.bin .add g (I 1)) fun t=>
 v u k f t l)
 (AG (.load (some 4) f) e fun a=>
 AO (.store 4 k a) e fun d i=>
 AG (.load (some 4) k) i fun b=>
 c (.ret b) i))) ((((A5.set 0 y).set 2 z).set 3 A).set 5 (I 0)) x)
theorem sx {v0 h Post}(hG:ot v0 h Post):AQ prog 187 [v0] h Post:=tP func187 (by kernel_rfl) (by kernel_rfl) hG
def um (n u:AV) (h:AH) (a:Al->AH->Prop):Prop:=(
 AF prog 91 [n] h (yp a) fun i b=>
 AB (.bin .lss i (I 0)) fun v=>
 AZ v
 (AB (.build [(I 0)] [(0,1,(I 4))]) fun j=>
 CD (.ifc 139 j) b (yp a))
 (AB (.nilCheck n) fun j=>
 AB (.fieldAddr 0 j) fun w=>
 AG (.load none w) b fun x=>
 AB (.len x) fun y=>
 AB (.bin .gtr i y) fun z=>
 AZ z
 (AB (.build [(I 0)] [(0,1,(I 5))]) fun A=>
 CD (.ifc 139 A) b (yp a))
 (Ak [1,6,22,23] (fun t=>(fun(d e f g:AV) (c:AH)=>
 AB (.bin .lss g f) fun o=>
 AZ o
 (DV prog d [] c (yp a) fun p k=>
 AO (.buildSlice 1 1 [(.bool false)] [(0,1,p)]) k fun q l=>
 AO (.append 1 1 e q) l fun r m=>
 AB (.bin .add g (I 1)) fun s=>
 t d r f s m)
 (a (.ret e) c))) ((((A5.set 1 u).set 6 .nils).set 22 i).set 23 (I 0)) b)))
theorem sw {v0 v1 h Post}(hG:um v0 v1 h Post):AQ prog 188 [v0,v1] h Post:=tP func188 (by kernel_rfl) (by kernel_rfl) hG
def oq (e:AV) (h:AH) (a:Al->AH->Prop):Prop:=(
 AF prog 184 [e] h (yp a) fun d c=>
 AB (.bin .gtr d (N .u8 1)) fun f=>
 AZ f
 (AB (.build [(I 0)] [(0,1,(I 4))]) fun b=>
 CD (.ifc 139 b) c (yp a))
 (AB (.bin .eql d (N .u8 1)) fun b=>
 a (.ret b) c))
theorem su {v0 h Post}(hG:oq v0 h Post):AQ prog 189 [v0] h Post:=tP func189 (by kernel_rfl) (by kernel_rfl) hG
def uk (n u:AV) (h:AH) (a:Al->AH->Prop):Prop:=(
 AF prog 91 [n] h (yp a) fun i b=>
 AB (.bin .lss i (I 0)) fun v=>
 AZ v
 (AB (.build [(I 0)] [(0,1,(I 4))]) fun j=>
 CD (.ifc 139 j) b (yp a))
 (AB (.nilCheck n) fun j=>
 AB (.fieldAddr 0 j) fun w=>
 AG (.load none w) b fun x=>
 AB (.len x) fun y=>
 AB (.bin .gtr i y) fun z=>
 AZ z
 (AB (.build [(I 0)] [(0,1,(I 5))]) fun A=>
 CD (.ifc 139 A) b (yp a))
 (Ak [1,6,22,23] (fun t=>(fun(d e f g:AV) (c:AH)=>
 AB (.bin .lss g f) fun o=>
 AZ o
 (DV prog d [] c (yp a) fun p k=>
 AO (.buildSlice 1 1 [.nils] [(0,1,p)]) k fun q l=>
 AO (.append 1 24 e q) l fun r m=>
 AB (.bin .add g (I 1)) fun s=>
 t d r f s m)
 (a (.ret e) c))) ((((A5.set 1 u).set 6 .nils).set 22 i).set 23 (I 0)) b)))
theorem sr {v0 v1 h Post}(hG:uk v0 v1 h Post):AQ prog 190 [v0,v1] h Post:=tP func190 (by kernel_rfl) (by kernel_rfl) hG
def oj (b:AV) (h:AH) (a:Al->AH->Prop):Prop:=(
 AG (.load none b) h fun d=>
 AG (.load none b) h fun e=>
 AF prog 192 [d,(.fn (.func 193) [e] [])] h (yp a) fun f c=>
 a (.ret f) c)
theorem sq {v0 h Post}(hG:oj v0 h Post):AQ prog 191 [v0] h Post:=tP func191 (by kernel_rfl) (by kernel_rfl) hG
def uj (n u:AV) (h:AH) (a:Al->AH->Prop):Prop:=(
 AF prog 91 [n] h (yp a) fun i b=>
 AB (.bin .lss i (I 0)) fun v=>
 AZ v
 (AB (.build [(I 0)] [(0,1,(I 4))]) fun j=>
 CD (.ifc 139 j) b (yp a))
 (AB (.nilCheck n) fun j=>
 AB (.fieldAddr 0 j) fun w=>
 AG (.load none w) b fun x=>
 AB (.len x) fun y=>
 AB (.bin .gtr i y) fun z=>
 AZ z
 (AB (.build [(I 0)] [(0,1,(I 5))]) fun A=>
 CD (.ifc 139 A) b (yp a))
 (Ak [1,6,22,23] (fun t=>(fun(d e f g:AV) (c:AH)=>
 AB (.bin .lss g f) fun o=>
 AZ o
 (DV prog d [] c (yp a) fun p k=>
 AO (.buildSlice 2 1 [(I 0),.nils] [(0,2,p)]) k fun q l=>
 AO (.append 2 32 e q) l fun r m=>
 AB (.bin .add g (I 1)) fun s=>
 t d r f s m)
 (a (.ret e) c))) ((((A5.set 1 u).set 6 .nils).set 22 i).set 23 (I 0)) b)))
theorem so {v0 v1 h Post}(hG:uj v0 v1 h Post):AQ prog 192 [v0,v1] h Post:=tP func192 (by kernel_rfl) (by kernel_rfl) hG
def ui (b:AV) (h:AH) (a:Al->AH->Prop):Prop:=(
 AO (.alloc [(I 0),.nils]) h fun d e=>
 AF prog 91 [b] e (yp a) fun i f=>
 AF prog 307 [b,(.fn (.func 308) [b] [])] f (yp a) fun j g=>
 AB (.build [(I 0),.nils] [(0,1,i),(1,1,j)]) fun k=>
 AO (.store 2 d k) g fun m c=>
 AG (.load (some 2) d) c fun l=>
 a (.ret l) c)
theorem sk {v0 h Post}(hG:ui v0 h Post):AQ prog 193 [v0] h Post:=tP func193 (by kernel_rfl) (by kernel_rfl) hG
def uh (n u:AV) (h:AH) (a:Al->AH->Prop):Prop:=(
 AF prog 91 [n] h (yp a) fun i b=>
 AB (.bin .lss i (I 0)) fun v=>
 AZ v
 (AB (.build [(I 0)] [(0,1,(I 4))]) fun j=>
 CD (.ifc 139 j) b (yp a))
 (AB (.nilCheck n) fun j=>
 AB (.fieldAddr 0 j) fun w=>
 AG (.load none w) b fun x=>
 AB (.len x) fun y=>
 AB (.bin .gtr i y) fun z=>
 AZ z
 (AB (.build [(I 0)] [(0,1,(I 5))]) fun A=>
 CD (.ifc 139 A) b (yp a))
 (Ak [1,6,22,23] (fun t=>(fun(d e f g:AV) (c:AH)=>
 AB (.bin .lss g f) fun o=>
 AZ o
 (DV prog d [] c (yp a) fun p k=>
 AO (.buildSlice 1 1 [.nils] [(0,1,p)]) k fun q l=>
 AO (.append 1 24 e q) l fun r m=>
 AB (.bin .add g (I 1)) fun s=>
 t d r f s m)
 (a (.ret e) c))) ((((A5.set 1 u).set 6 .nils).set 22 i).set 23 (I 0)) b)))
theorem sj {v0 v1 h Post}(hG:uh v0 v1 h Post):AQ prog 194 [v0,v1] h Post:=tP func194 (by kernel_rfl) (by kernel_rfl) hG
def oi (b:AV) (h:AH) (a:Al->AH->Prop):Prop:=(
 AG (.load none b) h fun d=>
 AG (.load none b) h fun e=>
 AF prog 196 [d,(.fn (.func 184) [e] [])] h (yp a) fun f c=>
 a (.ret f) c)
theorem si {v0 h Post}(hG:oi v0 h Post):AQ prog 195 [v0] h Post:=tP func195 (by kernel_rfl) (by kernel_rfl) hG
def ug (n u:AV) (h:AH) (a:Al->AH->Prop):Prop:=(
 AF prog 91 [n] h (yp a) fun i b=>
 AB (.bin .lss i (I 0)) fun v=>
 AZ v
 (AB (.build [(I 0)] [(0,1,(I 4))]) fun j=>
 CD (.ifc 139 j) b (yp a))
 (AB (.nilCheck n) fun j=>
 AB (.fieldAddr 0 j) fun w=>
 AG (.load none w) b fun x=>
 AB (.len x) fun y=>
 AB (.bin .gtr i y) fun z=>
 AZ z
 (AB (.build [(I 0)] [(0,1,(I 5))]) fun A=>
 CD (.ifc 139 A) b (yp a))
 (Ak [1,6,22,23] (fun t=>(fun(d e f g:AV) (c:AH)=>
 AB (.bin .lss g f) fun o=>
 AZ o
 (DV prog d [] c (yp a) fun p k=>
 AO (.buildSlice 1 1 [(N .u8 0)] [(0,1,p)]) k fun q l=>
 AO (.append 1 1 e q) l fun r m=>
 AB (.bin .add g (I 1)) fun s=>
 t d r f s m)
 (a (.ret e) c))) ((((A5.set 1 u).set 6 .nils).set 22 i).set 23 (I 0)) b)))
theorem sh {v0 v1 h Post}(hG:ug v0 v1 h Post):AQ prog 196 [v0,v1] h Post:=tP func196 (by kernel_rfl) (by kernel_rfl) hG
def ue (n u:AV) (h:AH) (a:Al->AH->Prop):Prop:=(
 AF prog 91 [n] h (yp a) fun i b=>
 AB (.bin .lss i (I 0)) fun v=>
 AZ v
 (AB (.build [(I 0)] [(0,1,(I 4))]) fun j=>
 CD (.ifc 139 j) b (yp a))
 (AB (.nilCheck n) fun j=>
 AB (.fieldAddr 0 j) fun w=>
 AG (.load none w) b fun x=>
 AB (.len x) fun y=>
 AB (.bin .gtr i y) fun z=>
 AZ z
 (AB (.build [(I 0)] [(0,1,(I 5))]) fun A=>
 CD (.ifc 139 A) b (yp a))
 (Ak [1,6,22,23] (fun t=>(fun(d e f g:AV) (c:AH)=>
 AB (.bin .lss g f) fun o=>
 AZ o
 (DV prog d [] c (yp a) fun p k=>
 AO (.buildSlice 2 1 [(I 0),(N .u8 0)] [(0,2,p)]) k fun q l=>
 AO (.append 2 16 e q) l fun r m=>
 AB (.bin .add g (I 1)) fun s=>
 t d r f s m)
 (a (.ret e) c))) ((((A5.set 1 u).set 6 .nils).set 22 i).set 23 (I 0)) b)))
theorem sa {v0 v1 h Post}(hG:ue v0 v1 h Post):AQ prog 305 [v0,v1] h Post:=tP func305 (by kernel_rfl) (by kernel_rfl) hG
def ud (c:AV) (h:AH) (a:Al->AH->Prop):Prop:=(
 AO (.alloc [(I 0),(N .u8 0)]) h fun d e=>
 AF prog 91 [c] e (yp a) fun i f=>
 AF prog 184 [c] f (yp a) fun j g=>
 AB (.build [(I 0),(N .u8 0)] [(0,1,i),(1,1,j)]) fun k=>
 AO (.store 2 d k) g fun m b=>
 AG (.load (some 2) d) b fun l=>
 a (.ret l) b)
theorem sZ {v0 h Post}(hG:ud v0 h Post):AQ prog 306 [v0] h Post:=tP func306 (by kernel_rfl) (by kernel_rfl) hG
end
section
open Go Go.AL
variable [BQ]
def uf (n u:AV) (h:AH) (a:Al->AH->Prop):Prop:=(
 AF prog 91 [n] h (yp a) fun i b=>
 AB (.bin .lss i (I 0)) fun v=>
 AZ v
 (AB (.build [(I 0)] [(0,1,(I 4))]) fun j=>
 CD (.ifc 139 j) b (yp a))
 (AB (.nilCheck n) fun j=>
 AB (.fieldAddr 0 j) fun w=>
 AG (.load none w) b fun x=>
 AB (.len x) fun y=>
 AB (.bin .gtr i y) fun z=>
 AZ z
 (AB (.build [(I 0)] [(0,1,(I 5))]) fun A=>
 CD (.ifc 139 A) b (yp a))
 (Ak [1,6,22,23] (fun t=>(fun(d e f g:AV) (c:AH)=>
 AB (.bin .lss g f) fun o=>
 AZ o
 (DV prog d [] c (yp a) fun p k=>
 AO (.buildSlice 1 1 [(I 0)] [(0,1,p)]) k fun q l=>
 AO (.append 1 8 e q) l fun r m=>
 AB (.bin .add g (I 1)) fun s=>
 t d r f s m)
 (a (.ret e) c))) ((((A5.set 1 u).set 6 .nils).set 22 i).set 23 (I 0)) b)))
theorem sf {v0 v1 h Post}(hG:uf v0 v1 h Post):AQ prog 197 [v0,v1] h Post:=tP func197 (by kernel_rfl) (by kernel_rfl) hG
def uc (n u:AV) (h:AH) (a:Al->AH->Prop):Prop:=(
 AF prog 91 [n] h (yp a) fun i b=>
 AB (.bin .lss i (I 0)) fun v=>
 AZ v
 (AB (.build [(I 0)] [(0,1,(I 4))]) fun j=>
 CD (.ifc 139 j) b (yp a))
 (AB (.nilCheck n) fun j=>
 AB (.fieldAddr 0 j) fun w=>
 AG (.load none w) b fun x=>
 AB (.len x) fun y=>
 AB (.bin .gtr i y) fun z=>
 AZ z
 (AB (.build [(I 0)] [(0,1,(I 5))]) fun A=>
 CD (.ifc 139 A) b (yp a))
 (Ak [1,6,22,23] (fun t=>(fun(d e f g:AV) (c:AH)=>
 AB (.bin .lss g f) fun o=>
 AZ o
 (DV prog d [] c (yp a) fun p k=>
 AO (.buildSlice 2 1 [(.bool false),(N .u8 0)] [(0,2,p)]) k fun q l=>
 AO (.append 2 2 e q) l fun r m=>
 AB (.bin .add g (I 1)) fun s=>
 t d r f s m)
 (a (.ret e) c))) ((((A5.set 1 u).set 6 .nils).set 22 i).set 23 (I 0)) b)))
theorem sY {v0 v1 h Post}(hG:uc v0 v1 h Post):AQ prog 307 [v0,v1] h Post:=tP func307 (by kernel_rfl) (by kernel_rfl) hG
def ub (c:AV) (h:AH) (a:Al->AH->Prop):Prop:=(
 AO (.alloc [(.bool false),(N .u8 0)]) h fun d e=>
 AF prog 189 [c] e (yp a) fun i f=>
 AF prog 184 [c] f (yp a) fun j g=>
 AB (.build [(.bool false),(N .u8 0)] [(0,1,i),(1,1,j)]) fun k=>
 AO (.store 2 d k) g fun m b=>
 AG (.load (some 2) d) b fun l=>
 a (.ret l) b)
theorem sX {v0 h Post}(hG:ub v0 h Post):AQ prog 308 [v0] h Post:=tP func308 (by kernel_rfl) (by kernel_rfl) hG
end
end Go.Proofs.YtlmkmpomgdbjhaaGreatDoor
namespace Go.AL
section
open Co
variable [BQ] {P:Program}
inductive TF (H:AH) (p:Nat):List UInt8->AV->Prop
 | nils:TF H p [] .nils
 | sim (b:List UInt8) (ex:Bool):TF H p b (.sim (b.map bv) b.length ex)
 | own {b:List UInt8} {r o:Nat} {l:Qe} {c:List AV} (hlt:r<p) (hc:H.get r=some (.cells c)) (ho:(c.drop o).take b.length=b.map bv) (hl:∀m,l=.ex m->b.length<=m) (hes:∀es,l=.op es->es=1):TF H p b (.sl r o b.length l)
structure Rd (H:AH) (p:Nat) (b:List UInt8):Prop where
 lt:p<H.next
 len:b.length<274877906944
 inp:∃v,H.get p=some (.cells [v])/\TF H p b v
structure FM (H:AH) (p:Nat) (H':AH):Prop where
 nx:H.next<=H'.next
 get:∀q,q<H.next->q≠p->H'.get q=H.get q
 gl:H'.gl=H.gl
theorem FM.refl (H:AH) (p:Nat):FM H p H:=⟨A4 _,fun _ _ _=>rfl,rfl⟩
theorem FM.trans {H H1 H2:AH}{p:Nat}(h1:FM H p H1) (h2:FM H1 p H2):FM H p H2:=
 ⟨Cq h1.nx h2.nx,fun q hq hp=>by rw[h2.get q (C6 hq h1.nx) hp,h1.get q hq hp],h2.gl.trans h1.gl⟩
def jC:Er->Int
 | .form=>4
 | .short=>5
def fail (e:Er):AV:=.ifc 139 (.agg [.int .i64 (jC e)])
def Ce {α:Type}(H:AH) (p:Nat) (res:Rs α) (ok:α->AV->AH->Prop):Al->AH->Prop:=fun o H'=>FM H p H'/\match res with
 | .ok d r=>∃x,o=.ret x/\ok d x H'/\Rd H' p r
 | .err e=>o=.Bd (fail e)/\∃r,Rd H' p r
theorem TF.len {H:AH}{p:Nat}{b:List UInt8}{v:AV}(h:TF H p b v):AJ (.len (.cst v)) emp=some (.int .i64 (b.length:Int)):=by
 cases h<;>rfl
theorem TF.first {H:AH}{p:Nat}{x:UInt8}{b:List UInt8}{v:AV}(h:TF H p (x::b) v):∃a,AJ (.indexAddrS 1 (.cst v) (.cst (I 0))) emp=some a/\AY (.load none (.cst a)) emp H=some (bv x):=by
 cases h with
 | sim _ ex=>
  refine⟨.pim ((x::b).map bv) 0,?_,?_⟩
  ·simp[AJ,AE.ev,Ey,I]
  ·simp[AY,BJ,AE.ev,apart]
 | own hlt hc ho hl hes=>
  rename_i r o l c
  refine⟨.ptr r o,?_,?_⟩
  ·simp[AJ,AE.ev,Ey,I]
  ·have h0:c[o]?=some (bv x):=by
    have h1:=congrArg (·[0]?) ho
    simp only[Be,B1,E6]at h1
    rw[D0,if_pos (by omega),DD]at h1
    simpa using h1
   simp[AY,BJ,AE.ev,AH.cells?,hc,apart,h0]
theorem TF.rest {H:AH}{p:Nat}{x:UInt8}{b:List UInt8}{v:AV}(h:TF H p (x::b) v):∃v',AJ (.sliceS 1 (.cst v) (some (.cst (I 1))) none none) emp=some v'/\TF H p b v':=by
 cases h with
 | sim _ ex=>
  refine⟨.sim (b.map bv) b.length ex,?_,.sim b ex⟩
  have h1:((b.length:Int)+1-1).toNat=b.length:=by omega
  have h2:(1:Int)<=(b.length:Int)+1:=by omega
  simp only[AJ,AE.ints,AE.ev,I,Mu,B1,Be]
  simp[h1]
  exact⟨by omega,AX (by simp)⟩
 | own hlt hc ho hl hes=>
  rename_i r o l c
  have ho':(c.drop (o+1)).take b.length=b.map bv:=by
   have h1:=congrArg (List.drop 1) ho
   simp only[Be,B1,List.drop_succ_cons,B5]at h1
   rw[Fl,De]at h1
   simpa using h1
  cases l with
  | ex m=>
   have hm:b.length+1<=m:=hl m rfl
   refine⟨.sl r (o+1) b.length (.ex (m-1)),?_,.own hlt hc ho' (fun m' hm'=>by cases hm';omega) (fun es h=>by cases h)⟩
   simp only[AJ,AE.ints,AE.ev,I,Mu,Be]
   simp
   omega
  | op es=>
   have he:es=1:=hes es rfl
   subst he
   refine⟨.sl r (o+1) b.length (.op 1),?_,.own hlt hc ho' (fun m' hm'=>by cases hm') (fun es h=>by cases h;rfl)⟩
   simp only[AJ,AE.ints,AE.ev,I,Mu,Be]
   simp
   omega
theorem TF.GJ {H H':AH}{p:Nat}{b:List UInt8}{v:AV}(h:TF H p b v) (hp:p<H.next) (hk:∀q,q<p->H'.get q=H.get q):TF H' p b v:=by
 cases h with
 | nils=>exact .nils
 | sim _ ex=>exact .sim b ex
 | own hlt hc ho hl hes=>exact .own hlt (by rw[hk _ hlt];exact hc) ho hl hes
theorem TF.sc {H:AH}{p k:Nat}{b:List UInt8}{v:AV}(h:TF H p b v) (hp:p<k):Sc k v:=by
 cases h with
 | nils=>exact .nils
 | sim _ ex=>exact .sim (Gy.Kr fun x hx=>by obtain⟨y,_,rfl⟩:=Bk.1 hx;exact .int _ _)
 | own hlt _ _ _ _=>exact .sl (by omega)
theorem Rd.GJ {H H':AH}{p:Nat}{b:List UInt8}(h:Rd H p b) (hn:p<H'.next) (hk:∀q,q<=p->H'.get q=H.get q):Rd H' p b:=by
 obtain⟨h1,h2,v,h3,h4⟩:=h
 exact⟨hn,h2,v,by rw[hk _ (A4 _)];exact h3,h4.GJ h1 fun q hq=>hk q (Nat.le_of_lt hq)⟩
end
end Go.AL
namespace Go.Proofs.YtlmkmpomgdbjhaaGreatDoor
open Tryz
section
open Go Go.AL Go.AL.Co
variable [BQ]
theorem fL {H:AH}{p:Nat}{b:List UInt8}(hR:Rd H p b):AQ prog 184 [.ptr p 0] H (Ce H p (C7 b) fun x v _=>v=bv x):=by
 have hR0:=hR
 obtain⟨hlt,hlen,v,hp,hi⟩:=hR
 refine tA ?_
 unfold ov
 have hld:AY (.load none (.cst (.ptr p 0))) emp H=some v:=by simp[AY,BJ,AE.ev,AH.cells?,hp,apart]
 refine AA (v:=.ptr p 0) rfl (AA (v:=.ptr p 0) rfl (BG hld (AA hi.len ?_)))
 cases b with
 | nil=>
  refine AA (v:=.bool true) rfl (B_ (fun _=>?_) (fun h=>by cases h))
  refine AA (v:=.agg [.int .i64 5]) (by rfl) ?_
  exact⟨FM.refl _ _,rfl,_,hR0⟩
 | cons x b=>
  refine AA (v:=.bool false) (by
   show some (AV.bool ((((x::b).length:Nat):Int)==0))=_
   have:¬(((x::b).length:Nat):Int)=0:=by simp only[Be];omega
   simp;omega) (B_ (fun h=>by cases h) (fun _=>?_))
  obtain⟨a,h1,h2⟩:=hi.first
  obtain⟨v',h3,h4⟩:=hi.rest
  refine AA (v:=.ptr p 0) rfl (AA (v:=.ptr p 0) rfl (BG hld (AA h1 (BG h2 ?_))))
  refine AA (v:=.ptr p 0) rfl (AA (v:=.ptr p 0) rfl (BG hld (AA h3 ?_)))
  refine AA (v:=.ptr p 0) rfl (AA (v:=.ptr p 0) rfl ?_)
  have hv1:v'.cellsOf=some [v']:=by cases h4<;>rfl
  refine Aq (v:=.unk) (H':=H.set p (.cells [v'])) (by simp[BC,AE.ev,AH.cells?,hp,hv1,Ap]) ?_
  have hk:FM H p (H.set p (.cells [v'])):=⟨by simp,fun q _ hq=>by simp[AH.AU,hq],rfl⟩
  have hk':∀q,q<p->(H.set p (.cells [v'])).get q=H.get q:=fun q hq=>by
   have:q≠p:=by omega
   simp[AH.AU,this]
  exact⟨hk,bv x,rfl,rfl,by simpa using hlt,by simp only[Be]at hlen;omega,v',by simp[AH.AU],h4.GJ hlt hk'⟩
end
end Go.Proofs.YtlmkmpomgdbjhaaGreatDoor
namespace Go.AL
section
open Co
variable [BQ] {P:Program}
theorem FU {n:Nat}(h:n<18446744073709551616):IntKind.u64.wrap (n:Int)=(n:Int):=by
 simp[IntKind.wrap,IntKind.bits,IntKind.signed];omega
theorem cF (k:IntKind) (a b:Nat):Dj .and (.int k (.ofNat a)) (.int k (.ofNat b))=some (.int k (k.wrap (((a &&& b) % NK k:Nat):Int))):=by
 rw[<- L7]
 show(bif kq k k then some (AV.int k (Da k (Nat.mod (Nat.land a b) (NK k))))else none)=_
 rw[Hm];cases k<;>rfl
theorem gF (k:IntKind) (a b:Nat):Dj .or (.int k (.ofNat a)) (.int k (.ofNat b))=some (.int k (k.wrap (((a ||| b) % NK k:Nat):Int))):=by
 rw[<- L7]
 show(bif kq k k then some (AV.int k (Da k (Nat.mod (Nat.lor a b) (NK k))))else none)=_
 rw[Hm];cases k<;>rfl
theorem Z8 {u x i:Nat}(hu:u<2 ^ i):u ||| (x*2 ^ i)=u+x*2 ^ i:=by
 rw[Nat.or_comm,HS,<- N_ hu];omega
end
end Go.AL
namespace Go.Proofs.YtlmkmpomgdbjhaaGreatDoor
open Tryz
section
open Go Go.AL Go.AL.Co
variable [BQ]
theorem aB {u x i:Nat}(hi:i<=9) (hu:u<2 ^ (7*i)) (hx:x<256) (hb:¬(i=9/\1<x)):u+(x % 128)*2 ^ (7*i)<18446744073709551616:=by
 have hm:x % 128<128:=HU _ (by omega)
 rcases CT i 9 with h | h
 ·have h1:(2:Nat) ^ (7*i)<=2 ^ 56:=JC (by omega) (by omega)
  have h2:(x % 128)*2 ^ (7*i)<=127*2 ^ 56:=Oe (by omega) h1
  have h3:(2:Nat) ^ 56=72057594037927936:=by decide
  omega
 ·have h9:i=9:=by omega
  subst h9
  have hx1:x<=1:=by
   rcases CT 1 x with h | h
   ·exact absurd ⟨rfl,h⟩ hb
   ·exact h
  have h3:(2:Nat) ^ (7*9)=9223372036854775808:=by decide
  rw[h3]at hu ⊢
  have:x % 128=x:=B4 (by omega)
  rw[this]
  have:x*9223372036854775808<=1*9223372036854775808:=DY _ hx1
  omega
theorem jG {i:Nat}{x:UInt8}{H:AH}{BAD GOOD:AH->Prop}(hb:(i=9/\1<x.toNat)\/(0<i/\x.toNat=0)->BAD H) (hg:¬((i=9/\1<x.toNat)\/(0<i/\x.toNat=0))->GOOD H) :
  AB (.bin .eql (.cst (.int .i64 (.ofNat i))) (.cst (I 9))) fun v7=>
  DG true v7 (fun(_ v9:AV) (h10:AH)=>
  AB (.pick (.cst v7) (.cst v9) (.cst (.bool false))) fun v11=>
  DG false v11 (fun(_ _ v14:AV) (h15:AH)=>
  DG true v14 (fun(_ v17:AV) (h18:AH)=>
  DG false v11 (fun(v19:AV) (h20:AH)=>
  AB (.pick (.cst v11) (.cst (.bool true)) (.cst v19)) fun v21=>
  AZ v21 (BAD h20) (GOOD h20)) (fun J19=>
  AB (.pick (.cst v14) (.cst v17) (.cst (.bool false))) fun v20=>
  J19 v20 h18) (fun J19=>J19 Bp h18)) (fun J16=>
  AB (.bin .eql (.cst (bv x)) (.cst (N .u8 0))) fun v17=>
  J16 (bv x) v17 h15) (fun J16=>J16 Bp Bp h15)) (fun J12=>
  AB (.bin .gtr (.cst (.int .i64 (.ofNat i))) (.cst (I 0))) fun v13=>
  J12 (.int .i64 (.ofNat i)) v13 v13 h10) (fun J12=>J12 Bp Bp Bp h10)) (fun J8=>
  AB (.bin .gtr (.cst (bv x)) (.cst (N .u8 1))) fun v9=>
  J8 (bv x) v9 H) (fun J8=>J8 Bp Bp H):=by
 have q1:AJ (.bin .eql (.cst (.int .i64 (.ofNat i))) (.cst (I 9))) emp=some (.bool (decide (i=9))):=by
  show some (AV.bool ((Int.ofNat i)==9))=_
  have:((Int.ofNat i)==(9:Int))=decide (i=9):=by
   by_cases h:i=9
   ·subst h;rfl
   ·have h':¬(Int.ofNat i=9):=fun hh=>h (Int.ofNat.inj hh)
    simp only[h,decide_false,beq_eq_false_iff_ne,ne_eq];exact h'
  rw[this]
 have q2:AJ (.bin .gtr (.cst (bv x)) (.cst (N .u8 1))) emp=some (.bool (decide (1<x.toNat))):=by
  show some (AV.bool (decide ((x.toNat:Int)>1)))=_
  congr 2;simp only[decide_eq_decide];omega
 have q3:AJ (.bin .gtr (.cst (.int .i64 (.ofNat i))) (.cst (I 0))) emp=some (.bool (decide (0<i))):=by
  show some (AV.bool (decide ((i:Int)>0)))=_
  congr 2;simp only[decide_eq_decide];omega
 have q4:AJ (.bin .eql (.cst (bv x)) (.cst (N .u8 0))) emp=some (.bool (decide (x.toNat=0))):=by
  show some (AV.bool ((x.toNat:Int)==0))=_
  have:((x.toNat:Int)==(0:Int))=decide (x.toNat=0):=by
   by_cases h:x.toNat=0
   ·simp[h]
   ·have h':¬((x.toNat:Int)=0):=by omega
    simp only[h,decide_false,beq_eq_false_iff_ne,ne_eq];exact h'
  rw[this]
 have hif:∀t:Bool,(t=true↔(i=9/\1<x.toNat)\/(0<i/\x.toNat=0))->AZ (.bool t) (BAD H) (GOOD H):=fun t ht=>B_ (fun h=>hb (ht.1 h)) (fun h=>hg fun hh=>by rw[ht.2 hh]at h;cases h)
 have pk:∀(p a b:Bool),AJ (.pick (.cst (.bool p)) (.cst (.bool a)) (.cst (.bool b))) emp=some (.bool (bif p then a else b)):=fun p a b=>by cases p<;>rfl
 have pk1:∀(a:AV) (b:Bool),AJ (.pick (.cst (.bool false)) (.cst Bp) (.cst (.bool b))) emp=some (.bool b):=fun a b=>rfl
 have cont:∀t1:Bool,(t1=true↔i=9/\1<x.toNat)->DG false (.bool t1) (fun(_ _ v14:AV) (h15:AH)=>
  DG true v14 (fun(_ v17:AV) (h18:AH)=>
  DG false (.bool t1) (fun(v19:AV) (h20:AH)=>
  AB (.pick (.cst (.bool t1)) (.cst (.bool true)) (.cst v19)) fun v21=>
  AZ v21 (BAD h20) (GOOD h20)) (fun J19=>
  AB (.pick (.cst v14) (.cst v17) (.cst (.bool false))) fun v20=>
  J19 v20 h18) (fun J19=>J19 Bp h18)) (fun J16=>
  AB (.bin .eql (.cst (bv x)) (.cst (N .u8 0))) fun v17=>
  J16 (bv x) v17 h15) (fun J16=>J16 Bp Bp h15)) (fun J12=>
  AB (.bin .gtr (.cst (.int .i64 (.ofNat i))) (.cst (I 0))) fun v13=>
  J12 (.int .i64 (.ofNat i)) v13 v13 H) (fun J12=>J12 Bp Bp Bp H):=by
  intro t1 h1
  refine D2 (fun ht=>?_) (fun ht=>?_)
  ·subst ht
   refine AA q3 (D2 (fun h0=>?_) (fun h0=>?_))
   ·refine AA q4 (D2 (fun _=>?_) (fun h=>absurd rfl h))
    refine AA (pk _ _ _) (AA (pk _ _ _) (hif _ ?_))
    rw[h0]
    simp only[cond_true,cond_false,decide_eq_true_eq]
    have h0':0<i:=of_decide_eq_true h0
    constructor
    ·intro h;exact .inr ⟨h0',h⟩
    ·rintro(h | h)
     ·exact absurd (h1.2 h) (by simp)
     ·exact h.2
   ·refine D2 (fun _=>?_) (fun h=>absurd rfl h)
    have h0f:decide (0<i)=false:=by cases hh:decide (0<i)with
     | true=>exact absurd hh h0
     | false=>rfl
    rw[h0f]
    refine AA (v:=.bool false) rfl (AA (pk _ _ _) (hif _ ?_))
    have h0':¬0<i:=of_decide_eq_false h0f
    simp only[cond_false]
    constructor
    ·intro h;cases h
    ·rintro(h | h)
     ·exact absurd (h1.2 h) (by simp)
     ·exact absurd h.1 h0'
  ·have ht1:t1=true:=by cases t1<;>simp at ht ⊢
   subst ht1
   have hh:=h1.1 rfl
   have g1:MN Bp=some none:=rfl
   show TU true Bp _ _
   unfold TU
   simp only[g1]
   refine⟨fun h=>(by cases h),fun _=>?_⟩
   refine D2 (fun h=>by cases h) (fun _=>?_)
   refine AA (v:=.bool true) rfl (hif _ ?_)
   simp only[true_iff];exact .inl hh
 refine AA q1 (D2 (fun h9=>?_) (fun h9=>?_))
 ·refine AA q2 (AA (pk _ _ _) (cont _ ?_))
  rw[h9]
  have h9':i=9:=of_decide_eq_true h9
  simp only[cond_true,decide_eq_true_eq]
  exact⟨fun h=>⟨h9',h⟩,fun h=>h.2⟩
 ·have h9f:decide (i=9)=false:=by cases hh:decide (i=9)with
   | true=>exact absurd hh h9
   | false=>rfl
  rw[h9f]
  refine AA (v:=.bool false) rfl (cont _ ?_)
  have h9':¬i=9:=of_decide_eq_false h9f
  exact⟨fun h=>(by cases h),fun h=>absurd h.1 h9'⟩
set_option maxRecDepth 4000 in
set_option maxHeartbeats 1000000 in
theorem wD {H:AH}{p:Nat}{b:List UInt8}(hR:Rd H p b):AQ prog 91 [.ptr p 0] H (Ce H p (Qt b) fun n v _=>v=.int .i64 n):=by
 refine z8 ?_
 unfold xR
 let Iv:AV->AV->AV->AH->Prop:=fun a u' i' H'=>a=.ptr p 0/\∃(i u:Nat) (b':List UInt8),u'=.int .u64 (.ofNat u)/\i'=.int .i64 (.ofNat i)/\i<=9/\u<2 ^ (7*i)/\Rd H' p b'/\FM H p H' /\
  Qt b=(QB i b').bind fun v r=>.ok (Qj (u+v*2 ^ (7*i))) r
 let μ:AV->AV->AV->AH->Nat:=fun _ _ d _=>match d with
  | .int _ j=>(10-j).toNat
  | _=>0
 refine⟨Iv,μ,⟨rfl,0,0,b,rfl,rfl,by omega,by decide,hR,FM.refl _ _,?_⟩,?_⟩
 ·simp[Qt]
 intro e H5 hI
 obtain⟨e1,i,u,b',e2,e3,hi,hu,hr,hk,hd⟩:=(hI:Iv (e 0) (e 3) (e 4) H5)
 show AF prog 184 [e 0] H5 _ _
 rw[e1,e2,e3]
 refine BA (fL hr) (fun v H6 h6=>?_) (fun v H6 h6=>?_)
 case refine_2=>
  obtain⟨k6,h6⟩:=h6
  cases b' with
  | nil=>
   refine⟨hk.trans k6,?_⟩
   rw[hd];exact h6
  | cons x r=>obtain⟨_,h,_⟩:=h6;cases h
 obtain⟨k6,h6⟩:=h6
 cases b' with
 | nil=>cases h6.1
 | cons x r=>
 obtain⟨v',hv,rfl,hr6⟩:=h6
 cases hv
 have hx:=x.toNat_lt
 refine jG (fun hbad=>?_) (fun hgood=>?_)
 ·refine AA (v:=.agg [.int .i64 4]) (by rfl) ?_
  refine⟨hk.trans k6,?_⟩
  rw[hd]
  have:QB i (x::r)=.err .form:=by unfold QB;rw[if_pos hbad]
  rw[this];exact⟨rfl,_,hr6⟩
 have hns:=aB hi hu hx (fun h=>hgood (.inl h))
 have hm:x.toNat % 128<128:=HU _ (by omega)
 have s1:AJ (.bin .and (.cst (bv x)) (.cst (N .u8 127))) emp=some (.int .u8 (.ofNat (x.toNat % 128))):=by
  show Dj .and (.int .u8 (.ofNat x.toNat)) (.int .u8 (.ofNat 127))=_
  rw[cF,show x.toNat &&& 127=x.toNat % 128 from LV x.toNat 7,Wk]
  show some (AV.int .u8 (((x.toNat % 128 % 256 % 256:Nat)):Int))=_
  rw[B4 (show x.toNat % 128 % 256<256 by omega),B4 (show x.toNat % 128<256 by omega)];rfl
 refine AA s1 (AA (v:=.int .u64 (.ofNat (x.toNat % 128))) (by
  show some (AV.int .u64 (IntKind.u64.wrap ((x.toNat % 128:Nat):Int)))=_
  rw[FU (by omega)];rfl) ?_)
 refine AA (v:=.int .i64 (.ofNat (7*i))) (by
  show some (AV.int .i64 (IntKind.i64.wrap ((7:Int)*(i:Int))))=_
  rw[DO (by omega)]
  have:(7:Int)*(i:Int)=((7*i:Nat):Int):=by omega
  rw[this];rfl) ?_
 refine AA (v:=.int .u64 (.ofNat (x.toNat % 128*2 ^ (7*i)))) (by
  have h1:(0:Int)<=Int.ofNat (7*i):=Jv _
  show(if (0:Int)<=Int.ofNat (7*i)then some (AV.int .u64 (IntKind.u64.wrap (Int.ofNat (x.toNat % 128)*2 ^ (min (Int.ofNat (7*i)).toNat IntKind.u64.bits))))else none)=_
  rw[if_pos h1]
  have h2:min (Int.ofNat (7*i)).toNat IntKind.u64.bits=7*i:=by
   show min (7*i) 64=7*i;omega
  have h3:Int.ofNat (x.toNat % 128)*2 ^ (7*i)=((x.toNat % 128*2 ^ (7*i):Nat):Int):=by simp
  rw[h2,h3,FU (by omega)];rfl) ?_
 generalize hU:u+x.toNat % 128*2 ^ (7*i)=U at hns
 refine AA (v:=.int .u64 (.ofNat U)) (by
  show Dj .or (.int .u64 (.ofNat u)) (.int .u64 (.ofNat (x.toNat % 128*2 ^ (7*i))))=_
  rw[gF,Z8 hu,hU]
  show some (AV.int .u64 (IntKind.u64.wrap ((U % 18446744073709551616:Nat):Int)))=_
  rw[B4 hns,FU hns];rfl) ?_
 refine AA (v:=.bool (decide (x.toNat<128))) (by
  show some (AV.bool (decide ((x.toNat:Int)<128)))=_
  congr 2;simp only[decide_eq_decide];omega) ?_
 refine B_ (fun hl=>?_) (fun hl=>?_)
 ·have hl:x.toNat<128:=of_decide_eq_true hl
  have hdu:QB i (x::r)=.ok x.toNat r:=by unfold QB;rw[if_neg hgood,if_pos hl]
  rw[B4 hl]at hU
  have hres:Qt b=.ok (Qj U) r:=by rw[hd,hdu,<- hU];rfl
  have p1:AJ (.bin .and (.cst (.int .u64 (.ofNat U))) (.cst (N .u64 1))) emp=some (.int .u64 (.ofNat (U % 2))):=by
   show Dj .and (.int .u64 (.ofNat U)) (.int .u64 (.ofNat 1))=_
   rw[cF,show U &&& 1=U % 2 from LV U 1]
   show some (AV.int .u64 (IntKind.u64.wrap ((U % 2 % 18446744073709551616:Nat):Int)))=_
   rw[B4 (show U % 2<18446744073709551616 by omega),FU (by omega)];rfl
  have p2:AJ (.bin .shr (.cst (.int .u64 (.ofNat U))) (.cst (N .u64 1))) emp=some (.int .u64 (.ofNat (U / 2))):=by
   show some (AV.int .u64 ((U:Int).fdiv (2 ^ 1)))=_
   rw[E4 _ (by decide)]
   have:(U:Int) / 2 ^ 1=((U / 2:Nat):Int):=by simp
   rw[this];rfl
  have p3:AJ (.convI .i64 (.cst (.int .u64 (.ofNat (U / 2))))) emp=some (.int .i64 (.ofNat (U / 2))):=by
   show some (AV.int .i64 (IntKind.i64.wrap ((U / 2:Nat):Int)))=_
   rw[DO (by omega)];rfl
  refine AA p1 (AA (v:=.bool (decide (U % 2=1))) (by
   show some (AV.bool (((U % 2:Nat):Int)==1))=_
   have:(((U % 2:Nat):Int)==(1:Int))=decide (U % 2=1):=by
    by_cases h:U % 2=1
    ·simp[h]
    ·have h':¬(((U % 2:Nat):Int)=1):=by omega
     simp only[h,decide_false,beq_eq_false_iff_ne,ne_eq];exact h'
   rw[this]) (B_ (fun ho=>?_) (fun ho=>?_)))
  ·have ho:U % 2=1:=of_decide_eq_true ho
   refine AA p2 (AA p3 (AA (v:=.int .i64 (Qj U)) ?_ ?_))
   ·have hz:Qj U=-((U / 2:Nat):Int)-1:=by unfold Qj;rw[if_pos ho]
    rw[hz]
    show some (AV.int .i64 (IntKind.i64.wrap (((BitVec.ofInt 64 (-1) ^^^ BitVec.ofInt 64 ((U / 2:Nat):Int)).toNat:Nat):Int)))=_
    rw[xor_not,Hc]
    congr 2
    split<;>omega
   ·refine⟨hk.trans k6,?_⟩
    rw[hres]
    exact⟨_,rfl,rfl,hr6⟩
  ·have ho:¬U % 2=1:=of_decide_eq_false ho
   refine AA p2 (AA p3 ⟨hk.trans k6,?_⟩)
   rw[hres]
   refine⟨_,rfl,?_,hr6⟩
   have hz:Qj U=((U / 2:Nat):Int):=by unfold Qj;rw[if_neg ho]
   rw[hz];rfl
 ·have hl:¬x.toNat<128:=of_decide_eq_false hl
  have hi9:i<9:=by
   rcases CT i 9 with h | h
   ·exact h
   ·exact absurd (Or.inl ⟨by omega,by omega⟩) hgood
  have hdu:QB i (x::r)=(QB (i+1) r).bind fun v r'=>.ok (x.toNat-128+128*v) r':=by
   conv=>lhs;unfold QB
   rw[if_neg hgood,if_neg hl]
  have hxm:x.toNat % 128=x.toNat-128:=by omega
  refine AA (v:=.int .i64 (.ofNat (i+1))) (by
   show some (AV.int .i64 (IntKind.i64.wrap ((i:Int)+1)))=_
   rw[DO (by omega)];rfl) ?_
  have hp:(2:Nat) ^ (7*(i+1))=128*2 ^ (7*i):=by rw[On,Nat.pow_add];omega
  refine⟨⟨rfl,i+1,U,r,rfl,rfl,by omega,?_,hr6,hk.trans k6,?_⟩,?_⟩
  ·rw[hp,<- hU]
   have:x.toNat % 128*2 ^ (7*i)<=127*2 ^ (7*i):=DY _ (by omega)
   omega
  ·rw[hd,hdu]
   cases QB (i+1) r with
   | err er=>rfl
   | ok v r'=>
    show Rs.ok (Qj (u+(x.toNat-128+128*v)*2 ^ (7*i))) r'=Rs.ok (Qj (U+v*2 ^ (7*(i+1)))) r'
    have:u+(x.toNat-128+128*v)*2 ^ (7*i)=U+v*2 ^ (7*(i+1)):=by
     rw[hp,<- hU,hxm,EC,HS 128 v,Nat.mul_assoc];omega
    rw[this]
  ·show((10:Int)-Int.ofNat (i+1)).toNat<μ (e 0) (e 3) (e 4) H5
   rw[e3]
   show((10:Int)-((i+1:Nat):Int)).toNat<((10:Int)-(i:Int)).toNat
   omega
end
end Go.Proofs.YtlmkmpomgdbjhaaGreatDoor
namespace Go.AL
section
open Co
variable [BQ] {P:Program}
theorem Ce.mono {α:Type}{H:AH}{p:Nat}{res:Rs α}{ok ok':α->AV->AH->Prop}(h:∀d x H',ok d x H'->ok' d x H'){o:Al}{H':AH}(hp:Ce H p res ok o H'):Ce H p res ok' o H':=by
 obtain⟨h1,h2⟩:=hp
 refine⟨h1,?_⟩
 cases res with
 | err e=>exact h2
 | ok d r=>obtain⟨x,q1,q2,q3⟩:=h2;exact⟨x,q1,h _ _ _ q2,q3⟩
theorem Ce.scope {α:Type}{g:FuncId}{ar:List AV}{H:AH}{p:Nat}{b:List UInt8}{res:Rs α}{ok ok':α->AV->AH->Prop}(hR:Rd H p b) (h:AQ P g ar H (Ce H p res ok))
  (hok:∀d x H',FM H p H'->ok d x H'->∃y,F6 H' H.next x y/\∀H'',ok' d y H''):AQ P g ar H (Ce H p res ok'):=by
 refine AQ.scope (fun _ _=>h) h.1 fun _ htop o H' hp=>?_
 obtain⟨hk,hp⟩:=hp
 have hlt:=hR.lt
 have hcut:∀q,q<H.next->(H'.cut H.next H.gl).get q=H'.get q:=fun q hq=>by simp[AH.cut,hq]
 have hkc:FM H p (H'.cut H.next H.gl):=⟨A4 _,fun q hq hqp=>by rw[hcut q hq];exact hk.get q hq hqp,rfl⟩
 have hrd:∀r,Rd H' p r->Rd (H'.cut H.next H.gl) p r:=fun r hr=>hr.GJ hlt fun q hq=>hcut q (by omega)
 have hsc:∀r,Rd H' p r->∀q o,q<H.next->H'.get q=some o->H.get q=some o\/ku H.next o:=fun r hr q o hq ho=>by
  by_cases hqp:q=p
  ·subst hqp
   obtain⟨_,_,v,h3,h4⟩:=hr
   rw[h3]at ho
   cases ho
   exact .inr (.cons (h4.sc hlt) .nil)
  ·exact .inl (by rw[<- hk.get q hq hqp];exact ho)
 cases res with
 | err e=>
  obtain⟨rfl,r,hr⟩:=hp
  exact⟨.Bd (fail e),.low (.ifc (.agg (.cons (.int _ _) .nil))),hsc r hr,hkc,rfl,r,hrd r hr⟩
 | ok d r=>
  obtain⟨x,rfl,h1,hr⟩:=hp
  obtain⟨y,h2,h3⟩:=hok d x H' hk h1
  exact⟨.ret y,h2,hsc r hr,hkc,y,rfl,h3 _,hrd r hr⟩
theorem U6 (k:Nat):∀(t:Ty) (d:t.D) (c:List AV),RX t d c->Gy k c
 | .int,d,c,h=>by have h:c=_:=h;subst h;exact .cons (.int _ _) .nil
 | .byte,d,c,h=>by have h:c=_:=h;subst h;exact .cons (.int _ _) .nil
 | .bool,d,c,h=>by have h:c=_:=h;subst h;exact .cons (.bool _) .nil
 | .list t,l,c,h=>by
  obtain⟨v,cs,rfl,hf,css,hcc,hl,hc⟩:=h
  refine .cons ?_ .nil
  generalize hln:(GA l).length=ln at hf
  cases hf with
  | nil=>exact .nils
  | sim _ _=>
   subst hcc
   refine .sim (Gy.Kr fun x hx=>?_)
   obtain⟨y,hy,hxy⟩:=TL.1 hx
   obtain⟨i,hi⟩:=DC hy
   have hlt:i<css.length:=by
    rcases CT i css.length with h | h
    ·exact h
    ·rw[BT h]at hi;cases hi
   have hx:(GA l)[i]?=some ((GA l)[i]'(by omega)):=Ab (by omega)
   exact(U6 k t _ _ (hc i _ y hx hi)).mem hxy
 | .pair a b,d,c,h=>by
  obtain⟨c1,c2,rfl,h1,h2⟩:=h
  exact Gy.Kr fun x hx=>by
   rcases BV.1 hx with h | h
   ·exact(U6 k a _ _ h1).mem h
   ·exact(U6 k b _ _ h2).mem h
 | .vec n,d,c,h=>by
  obtain⟨_,h2,h3⟩:=h
  refine Gy.Kr fun x hx=>?_
  obtain⟨i,hi⟩:=DC hx
  have hlt:i<n / 8:=by
   rcases CT i c.length with h | h
   ·omega
   ·rw[BT h]at hi;cases hi
  rw[h3 i hlt]at hi
  cases hi;exact .int _ _
def RV (t:Ty) (d:t.D) (x:AV):Prop:=∃c,x.cellsOf=some c/\RX t d c
def One (P:Program) (L:List (Nat × List AV)) (p:Nat) (fv:AV) (t:Ty):Prop:=∀H b,Rd H p b->(∀x∈L,x.1<H.next/\x.1≠p/\H.get x.1=some (.cells x.2))->Gw P fv [] H (Ce H p (t.dec b) fun d x _=>RV t d x)
def eZ (P:Program) (k bytes:Nat) (z:List AV) (v0 v1:AV) (h:AH) (Post:Al->AH->Prop):Prop:=(
 AF P 91 [v0] h (yp Post) fun v2 h2=>
 AB (.bin .lss (.cst v2) (.cst (I 0))) fun v3=>
 AZ v3
 (AB (.build [(I 0)] [(0,1,(.cst (I 4)))]) fun v4=>
 CD (.ifc 139 v4) h2 (yp Post))
 (AB (.nilCheck (.cst v0)) fun v4=>
 AB (.fieldAddr 0 (.cst v4)) fun v5=>
 AG (.load none (.cst v5)) h2 fun v6=>
 AB (.len (.cst v6)) fun v7=>
 AB (.bin .gtr (.cst v2) (.cst v7)) fun v8=>
 AZ v8
 (AB (.build [(I 0)] [(0,1,(.cst (I 5)))]) fun v9=>
 CD (.ifc 139 v9) h2 (yp Post))
 (Ak [1,6,22,23] (fun J9=>(fun(v10 v11 v12 v13:AV) (h14:AH)=>
 AB (.bin .lss (.cst v13) (.cst v12)) fun v15=>
 AZ v15
 (DV P v10 [] h14 (yp Post) fun v16 h16=>
 AO (.buildSlice k 1 z [(0,k,(.cst v16))]) h16 fun v17 h17=>
 AO (.append k bytes (.cst v11) (.cst v17)) h17 fun v18 h18=>
 AB (.bin .add (.cst v13) (.cst (I 1))) fun v19=>
 J9 v10 v18 v12 v19 h18)
 (Post (.ret v11) h14))) ((((A5.set 1 v1).set 6 .nils).set 22 v2).set 23 (I 0)) h2)))
def Own (H0 H:AH) (k:Nat) (n:Nat) (v:AV) (cs:List AV):Prop:=(n=0/\v=.nils/\cs=[])\/(∃r,H0.next<=r/\r<H.next/\v=.sl r 0 n (.op k)/\H.get r=some (.cells cs)/\0<n)
theorem Own.GJ {H0 H H':AH}{k n p:Nat}{v:AV}{cs:List AV}(h:Own H0 H k n v cs) (hk:FM H p H') (hp:p<H0.next):Own H0 H' k n v cs:=by
 rcases h with h | ⟨r,h1,h2,h3,h4,h5⟩
 ·exact .inl h
 ·exact .inr ⟨r,h1,C6 h2 hk.nx,h3,by rw[hk.get r h2 (by omega)];exact h4,h5⟩
theorem dq {H0 H:AH}{p k bytes n:Nat}{z c cs:List AV}{v x:AV}{b:List UInt8}{K:AV->AH->Prop}(ho:Own H0 H k n v cs) (hcs:cs.length=n*k) (hR:Rd H p b) (hp:p<H0.next) (hk0:FM H0 p H)
  (hz:z.length=k) (hx:x.cellsOf=some c) (hc:c.length=k) (hn:n<274877906944) (hby:bytes<=500)
  (hK:∀v' H',Own H0 H' k (n+1) v' (cs++c)->Rd H' p b->FM H0 p H'->K v' H') :
  AO (.buildSlice k 1 z [(0,k,(.cst x))]) H fun v17 h17=>AO (.append k bytes (.cst v) (.cst v17)) h17 K:=by
 have hnx:=hk0.nx
 have hlt:=hR.lt
 have hd:z.drop k=[]:=Bt (by omega)
 refine Aq (v:=.sl H.next 0 1 (.ex 1)) (H':=H.push (.cells c)) (by
  simp[BC,Bv,AE.ev,hx,hc,hz,hd]) ?_
 have hb:(n+1)*bytes<=140737488355328:=by
  have:(n+1)*bytes<=274877906944*500:=Oe (by omega) hby
  omega
 have htk:c.take k=c:=AX (by omega)
 rcases ho with⟨rfl,rfl,rfl⟩ | ⟨r,h1,h2,rfl,h4,_⟩
 ·have hb':bytes<=140737488355328:=by omega
  refine Aq (v:=.sl (H.next+1) 0 1 (.op k)) (H':=(H.push (.cells c)).push (.cells c)) (by
   simp[BC,AE.ev,BO,Ae,AH.cells?,AH.Ai,hc,htk,hb']) ?_
  have hold:∀q,q<H.next->((H.push (.cells c)).push (.cells c)).get q=H.get q:=fun q hq=>by
   have e1:q≠H.next:=by omega
   have e2:q≠H.next+1:=by omega
   simp[AH.Ai,e1,e2]
  refine hK _ _ (.inr ⟨H.next+1,by omega,by simp,rfl,by simp[AH.Ai],JB _⟩) (hR.GJ (by simp;omega) fun q hq=>hold q (by omega)) ⟨by simp;omega,fun q hq hqp=>?_,hk0.gl⟩
  rw[hold q (by omega)];exact hk0.get q hq hqp
 ·have e3:r≠H.next:=by omega
  have htk2:cs.take (n*k)=cs:=AX (by omega)
  refine Aq (v:=.sl (H.next+1) 0 (n+1) (.op k)) (H':=((H.push (.cells c)).erase r).push (.cells (cs++c))) (by
   have hn1:n+1<=9223372036854775807:=by omega
   simp[BC,AE.ev,BO,Ae,AH.cells?,AH.Ai,hc,htk,h4,e3,hcs,hb,htk2,hn1]) ?_
  have hold:∀q,q<H.next->q≠r->(((H.push (.cells c)).erase r).push (.cells (cs++c))).get q=H.get q:=fun q hq hqr=>by
   have e1:q≠H.next:=by omega
   have e2:q≠H.next+1:=by omega
   simp[AH.Ai,AH.get_erase,e1,e2,hqr]
  refine hK _ _ (.inr ⟨H.next+1,by omega,by simp,rfl,by simp[AH.Ai],JB _⟩) (hR.GJ (by simp;omega) fun q hq=>hold q (by omega) (by omega)) ⟨by simp;omega,fun q hq hqp=>?_,hk0.gl⟩
  rw[hold q (by omega) (by omega)];exact hk0.get q hq hqp
def wF (P:Program):Prop:=∀{H:AH}{p:Nat}{b:List UInt8},Rd H p b->AQ P 91 [.ptr p 0] H (Ce H p (Qt b) fun n v _=>v=.int .i64 n)
def fN (H0:AH) (t:Ty) (l:(Ty.list t).D) (v:AV) (H:AH):Prop:=∃css:List (List AV),Own H0 H (Dd t) (GA l).length v css.flatten/\css.length=(GA l).length/\∀(i:Nat) (x:t.D) (y:List AV),(GA l)[i]?=some x->css[i]?=some y->RX t x y
theorem Rd.ld {H:AH}{p:Nat}{b:List UInt8}(h:Rd H p b):∃v,AY (.load none (.cst (.ptr p 0))) emp H=some v/\AJ (.len (.cst v)) emp=some (.int .i64 (b.length:Int)):=by
 obtain⟨_,_,v,h3,h4⟩:=h
 exact⟨v,by simp[AY,BJ,AE.ev,AH.cells?,h3,apart],h4.len⟩
set_option maxHeartbeats 1000000 in
theorem XQ (h63:wF P){t:Ty}{bytes:Nat}{z:List AV}(hz:z.length=Dd t) (hby:bytes<=500){L:List (Nat × List AV)}{H:AH}{p:Nat}{b:List UInt8}{fv:AV}(hR:Rd H p b)
  (hL:∀x∈L,x.1<H.next/\x.1≠p/\H.get x.1=some (.cells x.2)) (hf:One P L p fv t):eZ P (Dd t) bytes z (.ptr p 0) fv H (Ce H p ((Ty.list t).dec b) (fN H t)):=by
 obtain⟨res,hres⟩:∃res,res=(Ty.list t).dec b:=⟨_,rfl⟩
 rw[<- hres]
 have hres:res=(Qt b).bind (fun n r=>if n<0 then .err .form else if (r.length:Int)<n then .err .short else many t.dec n.toNat r):=hres
 unfold eZ
 refine BA (h63 hR) (fun v H1 h1=>?_) (fun v H1 h1=>?_)
 case refine_2=>
  obtain⟨k1,h1⟩:=h1
  cases hd:Qt b with
  | ok n r=>rw[hd]at h1;obtain⟨_,h,_⟩:=h1;cases h
  | err e=>
   rw[hd]at h1 hres
   refine⟨k1,?_⟩
   rw[hres];exact h1
 obtain⟨k1,h1⟩:=h1
 cases hd:Qt b with
 | err e=>rw[hd]at h1;cases h1.1
 | ok n r=>
 rw[hd]at h1 hres
 obtain⟨v',hv,rfl,hr⟩:=h1
 cases hv
 have hres:res=if n<0 then .err .form else if (r.length:Int)<n then .err .short else many t.dec n.toNat r:=hres
 refine AA (v:=.bool (decide (n<0))) rfl (B_ (fun h0=>?_) (fun h0=>?_))
 ·refine AA (v:=.agg [.int .i64 4]) (by rfl) ⟨k1,?_⟩
  rw[hres,if_pos (of_decide_eq_true h0)]
  exact⟨rfl,r,hr⟩
 rw[if_neg (of_decide_eq_false h0)]at hres
 have h0:=of_decide_eq_false h0
 obtain⟨vr,q1,q2⟩:=hr.ld
 refine AA (v:=.ptr p 0) rfl (AA (v:=.ptr p 0) rfl (BG q1 (AA q2 ?_)))
 refine AA (v:=.bool (decide (n>(r.length:Int)))) rfl (B_ (fun hg=>?_) (fun hg=>?_))
 ·refine AA (v:=.agg [.int .i64 5]) (by rfl) ⟨k1,?_⟩
  rw[hres,if_pos (of_decide_eq_true hg)]
  exact⟨rfl,r,hr⟩
 rw[if_neg (of_decide_eq_false hg)]at hres
 have hg:=of_decide_eq_false hg
 have hlen:=hr.len
 obtain⟨N,rfl⟩:∃N:Nat,n=(N:Int):=⟨n.toNat,by omega⟩
 rw[CL]at hres
 have hN:N<274877906944:=by omega
 have hp:=hR.lt
 let Iv:AV->AV->AV->AV->AH->Prop:=fun a v c d H'=>a=fv/\c=.int .i64 (N:Int)/\∃(i:Nat) (l1:List t.D) (css:List (List AV)) (b':List UInt8),d=.int .i64 (i:Int)/\i<=N/\l1.length=i/\css.length=i /\
  (∀(j:Nat) (x:t.D) (y:List AV),l1[j]?=some x->css[j]?=some y->RX t x y)/\Own H H' (Dd t) i v css.flatten/\Rd H' p b'/\FM H p H'/\res=(many t.dec (N-i) b').bind fun l2 r'=>.ok (l1++l2) r'
 let μ:AV->AV->AV->AV->AH->Nat:=fun _ _ _ d _=>match d with
  | .int _ j=>(N-j).toNat
  | _=>0
 refine⟨Iv,μ,⟨rfl,rfl,0,[],[],r,rfl,by omega,rfl,rfl,fun j x y h=>by simp at h,.inl ⟨rfl,rfl,rfl⟩,hr,k1,?_⟩,?_⟩
 ·rw[hres,Nat.sub_zero]
  cases many t.dec N r<;>rfl
 intro e H2 hI
 obtain⟨e1,e3,i,l1,css,b',e4,hi,hl1,hcs,hrc,ho,hr2,k2,hres2⟩:=(hI:Iv (e 1) (e 6) (e 22) (e 23) H2)
 have e2:∃v,e 6=v:=⟨_,rfl⟩
 obtain⟨v,e2⟩:=e2
 show AB (.bin .lss (.cst (e 23)) (.cst (e 22))) _
 rw[e4,e3]
 rw[e2]at ho
 have hcl:∀x∈css,x.length=Dd t:=fun x hx=>by
  obtain⟨j,hj⟩:=DC hx
  have hlt:j<css.length:=by
   rcases CT j css.length with h | h
   ·exact h
   ·rw[BT h]at hj;cases hj
  exact Qd t _ _ (hrc j _ x (Ab (by omega)) hj)
 refine AA (v:=.bool (decide ((i:Int)<N))) rfl (B_ (fun ht=>?_) (fun ht=>?_))
 ·have hlt:i<N:=by have:=of_decide_eq_true ht;omega
  rw[e1,e2]
  have hL2:∀x∈L,x.1<H2.next/\x.1≠p/\H2.get x.1=some (.cells x.2):=fun x hx=>by
   obtain⟨q1,q2,q3⟩:=hL x hx
   exact⟨C6 q1 k2.nx,q2,by rw[k2.get _ q1 q2];exact q3⟩
  have hni:N-i=(N-(i+1))+1:=by omega
  rw[hni]at hres2
  have hres2:res=((t.dec b').bind fun x r=>(many t.dec (N-(i+1)) r).bind fun l r'=>.ok (x::l) r').bind fun l2 r'=>.ok (l1++l2) r':=hres2
  refine SG (hf H2 b' hr2 hL2) (fun x H3 h3=>?_) (fun x H3 h3=>?_)
  case refine_2=>
   obtain⟨k3,h3⟩:=h3
   cases hd2:t.dec b' with
   | ok d r2=>rw[hd2]at h3;obtain⟨_,h,_⟩:=h3;cases h
   | err er=>
    rw[hd2]at h3 hres2
    refine⟨k2.trans k3,?_⟩
    rw[hres2];exact h3
  obtain⟨k3,h3⟩:=h3
  cases hd2:t.dec b' with
  | err er=>rw[hd2]at h3;cases h3.1
  | ok d r2=>
  rw[hd2]at h3 hres2
  obtain⟨x',hx',⟨c,Sn,Ub⟩,hr3⟩:=h3
  cases hx'
  have hfl:css.flatten.length=i*Dd t:=by rw[F2 css hcl,hcs]
  refine dq (ho.GJ k3 hp) hfl hr3 hp (k2.trans k3) hz Sn (Qd t d c Ub) (by omega) hby fun v' H4 ho4 hr4 k4=>?_
  have hwr:IntKind.i64.wrap ((i:Int)+1)=((i+1:Nat):Int):=by
   rw[DO (by omega)];omega
  refine AA (v:=.int .i64 ((i+1:Nat):Int)) (by show some (AV.int .i64 (IntKind.i64.wrap ((i:Int)+1)))=_;rw[hwr]) ?_
  refine⟨⟨rfl,rfl,i+1,l1++[d],css++[c],r2,rfl,hlt,by simp[hl1],by simp[hcs],fun j x y hj1 hj2=>?_,(by
   have hfe:(css++[c]).flatten=css.flatten++c:=by simp
   show Own H H4 (Dd t) (i+1) v' (css++[c]).flatten
   rw[hfe];exact ho4),hr4,k4,?_⟩,?_⟩
  ·rcases CT j i with h | h
   ·rw[Dr (by omega)]at hj1 hj2
    exact hrc j x y hj1 hj2
   ·rw[C4 (by omega)]at hj1 hj2
    rw[hl1]at hj1
    rw[hcs]at hj2
    have hj0:j-i=0:=by
     rcases DB (j-i)with h | h
     ·exact h
     ·rw[BT (by simp;omega)]at hj1;cases hj1
    rw[hj0]at hj1 hj2
    cases hj1;cases hj2;exact Ub
  ·rw[hres2]
   show Rs.bind (Rs.bind (many t.dec (N-(i+1)) r2) _) _=Rs.bind (many t.dec (N-(i+1)) r2) _
   cases many t.dec (N-(i+1)) r2 with
   | err er=>rfl
   | ok l2 r3=>
    show Rs.ok (l1++d::l2) r3=Rs.ok ((l1++[d])++l2) r3
    rw[Ar];rfl
  ·show((N:Int)-((i+1:Nat):Int)).toNat<μ (e 1) (e 6) (e 22) (e 23) H2
   rw[e4]
   show((N:Int)-((i+1:Nat):Int)).toNat<((N:Int)-(i:Int)).toNat
   omega
 ·have hge:i=N:=by have:=of_decide_eq_false ht;omega
  subst hge
  rw[e2]
  refine⟨k2,?_⟩
  have:res=.ok l1 b':=by rw[hres2,HB];show Rs.ok (l1++[]) b'=_;rw[DJ];rfl
  rw[this]
  refine⟨v,rfl,⟨css,?_,?_,hrc⟩,hr2⟩
  ·show Own H H2 (Dd t) l1.length v css.flatten
   rw[hl1];exact ho
  ·show css.length=l1.length
   omega
theorem fN.P3 {H0 H:AH}{t:Ty}{l:(Ty.list t).D}{v:AV}(h:fN H0 t l v H):∃y,F6 H H0.next v y/\RX (.list t) l [y]:=by
 obtain⟨css,ho,h2,h3⟩:=h
 have hcl:∀x∈css,x.length=Dd t:=fun x hx=>by
  obtain⟨j,hj⟩:=DC hx
  have hlt:j<css.length:=by
   rcases CT j css.length with h | h
   ·exact h
   ·rw[BT h]at hj;cases hj
  exact Qd t _ _ (h3 j _ x (Ab (by omega)) hj)
 have hfl:css.flatten.length=(GA l).length*Dd t:=by rw[F2 css hcl,h2]
 rcases ho with⟨q1,q2,q3⟩ | ⟨r,q1,q2,q3,q4,q5⟩
 ·subst q2
  refine⟨.nils,.low .nils,.nils,css.flatten,rfl,?_,css,rfl,h2,h3⟩
  rw[q1,q3];exact .nil
 ·subst q3
  refine⟨.sim css.flatten (GA l).length false,.sl (l:=css.flatten) (m:=css.flatten.length) q1 (by simp[AH.cells?,q4]) (by simp) ?_ (fun h=>by rw[hfl,h];simp) (fun h=>by cases h),.sim css.flatten (GA l).length false,css.flatten,rfl,.sim hfl q5,css,rfl,h2,h3⟩
  rw[B5,GU]
  refine CF.low (Gy.Kr fun x hx=>?_)
  obtain⟨y,hy,hxy⟩:=TL.1 hx
  obtain⟨i,hi⟩:=DC hy
  have hlt:i<css.length:=by
   rcases CT i css.length with h | h
   ·exact h
   ·rw[BT h]at hi;cases hi
  have hx:(GA l)[i]?=some ((GA l)[i]'(by omega)):=Ab (by omega)
  exact(U6 H0.next t _ _ (h3 i _ y hx hi)).mem hxy
theorem bQ {g:FuncId}{ar:List AV}{H:AH}{p:Nat}{b:List UInt8}{t:Ty}(hR:Rd H p b) (h:AQ P g ar H (Ce H p ((Ty.list t).dec b) (fN H t))):AQ P g ar H (Ce H p ((Ty.list t).dec b) fun l v _=>RX (.list t) l [v]):=
 Ce.scope hR h fun d x H' _ ho=>by
  obtain⟨y,h1,h2⟩:=ho.P3
  exact⟨y,h1,fun _=>h2⟩
end
section
open Co
variable [BQ] {P:Program}
structure Ei (H0:AH) (p:Nat) (L:List (Nat × List AV)) (H:AH) (b:List UInt8):Prop where
 rd:Rd H p b
 k:FM H0 p H
 l:∀x∈L,H0.next<=x.1/\x.1<H.next/\H.get x.1=some (.cells x.2)
 p0:p<H0.next
section
variable {H0 H:AH}{p:Nat}{L:List (Nat × List AV)}{b:List UInt8}
theorem Ei.start (h:Rd H p b):Ei H p [] H b:=⟨h,FM.refl _ _,fun x hx=>(by cases hx),h.lt⟩
theorem Ei.push {o:List AV}(s:Ei H0 p L H b):Ei H0 p ((H.next,o)::L) (H.push (.cells o)) b:=by
 have hn:=s.k.nx
 have hp:=s.p0
 have hold:∀q,q<H.next->(H.push (.cells o)).get q=H.get q:=fun q hq=>AH.Af _ _ (by omega)
 refine⟨s.rd.GJ (by simp;omega) fun q hq=>hold q (by omega),⟨by simp;omega,fun q hq hqp=>by rw[hold q (by omega)];exact s.k.get q hq hqp,s.k.gl⟩,fun x hx=>?_,hp⟩
 cases hx with
 | head=>exact⟨hn,by simp,by simp⟩
 | tail _ hx=>
  obtain⟨h1,h2,h3⟩:=s.l x hx
  exact⟨h1,by simp;omega,by rw[hold _ h2];exact h3⟩
theorem Ei.lt {x:Nat × List AV}(s:Ei H0 p L H b) (hx:x∈L):x.1<H.next:=(s.l x hx).2.1
theorem Ei.alloc {z:List AV}{K:AV->AH->Prop}(s:Ei H0 p L H b) (hK:∀q H',Ei H0 p ((q,z)::L) H' b->(∀x∈L,x.1≠q)->K (.ptr q 0) H'):AO (.alloc z) H K:=
 Aq (v:=.ptr H.next 0) (H':=H.push (.cells z)) rfl (hK _ _ s.push fun x hx=>by have:=s.lt hx;omega)
theorem Ei.box {x:AV}{c:List AV}{K:AV->AH->Prop}(s:Ei H0 p L H b) (hx:x.cellsOf=some c) (hK:∀q H',Ei H0 p ((q,c)::L) H' b->(∀x∈L,x.1≠q)->K (.ptr q 0) H'):AO (.box (.cst x)) H K:=
 Aq (v:=.ptr H.next 0) (H':=H.push (.cells c)) (by simp[BC,AE.ev,hx]) (hK _ _ s.push fun x hx=>by have:=s.lt hx;omega)
theorem Ei.swap {x y:Nat × List AV}(s:Ei H0 p (x::y::L) H b):Ei H0 p (y::x::L) H b:=⟨s.rd,s.k,fun w hw=>s.l w (by
 simp only[DF]at hw ⊢
 rcases hw with h | h | h
 ·exact .inr (.inl h)
 ·exact .inl h
 ·exact .inr (.inr h)),s.p0⟩
theorem Ei.put {q o n:Nat}{pre z vs:List AV}{x:AV}{K:AV->AH->Prop}(s:Ei H0 p ((q,pre++z.drop o)::L) H b) (hne:∀x∈L,x.1≠q) (hpre:pre.length=o) (hx:x.cellsOf=some vs) (hv:vs.length=n) (hz:o+n<=z.length)
  (hK:∀H',Ei H0 p ((q,(pre++vs)++z.drop (o+n))::L) H' b->(pre++vs).length=o+n->K .unk H'):AO (.store n (.cst (.ptr q o)) (.cst x)) H K:=by
 obtain⟨h1,h2,h3⟩:=s.l _ (.head _)
 have hp:=s.p0
 have hs:Ap (pre++z.drop o) o vs=(pre++vs)++z.drop (o+n):=by
  rw[Cu (by simp;omega),EA (by omega),AX (by omega),EZ,Bt (by omega),Bf,De]
  congr 2;omega
 have hle:o+n<=(pre++z.drop o).length:=by simp;omega
 refine Aq (v:=.unk) (H':=H.set q (.cells ((pre++vs)++z.drop (o+n)))) (by
  simp only[BC,AE.ev,AH.cells?,h3,hx]
  rw[if_pos ⟨hv,hle⟩,hs]) ?_
 have hold:∀r,r≠q->(H.set q (.cells ((pre++vs)++z.drop (o+n)))).get r=H.get r:=fun r hr=>by simp[AH.AU,hr]
 refine hK _ ⟨s.rd.GJ (by have:=s.rd.lt;simpa using this) fun r hr=>hold r (by simp only at h1;omega),⟨by simpa using s.k.nx,fun r hr hrp=>by rw[hold r (by simp only at h1;omega)];exact s.k.get r hr hrp,s.k.gl⟩,fun w hw=>?_,hp⟩ (by simp[hpre,hv])
 cases hw with
 | head=>exact⟨h1,by simpa using h2,by simp[AH.AU]⟩
 | tail _ hw=>
  obtain⟨g1,g2,g3⟩:=s.l w (.tail _ hw)
  exact⟨g1,by simpa using g2,by rw[hold _ (hne w hw)];exact g3⟩
theorem Ei.DZ {q n:Nat}{z c:List AV}{K:AV->AH->Prop}(s:Ei H0 p ((q,z)::L) H b) (hne:∀x∈L,x.1≠q) (hv:c.length=n) (hz:z.length=n) (hK:∀H',Ei H0 p ((q,c)::L) H' b->K .unk H') :
  AO (.store n (.cst (.ptr q 0)) (.cst (.agg c))) H K:=by
 refine Ei.put (pre:=[]) (z:=z) (vs:=c) (by simpa using s) hne rfl rfl hv (by omega) fun H' s' _=>hK H' ?_
 have:z.drop n=[]:=Bt (by omega)
 simpa[this]using s'
theorem Ei.Gx {q k:Nat}{c:List AV}{K:AV->Prop}(s:Ei H0 p L H b) (hm:(q,c)∈L) (hc:c.length=k) (hK:K (.agg c)):AG (.load (some k) (.cst (.ptr q 0))) H K:=by
 obtain⟨_,_,h3⟩:=s.l _ hm
 exact BG (v:=.agg c) (by simp[AY,BJ,AE.ev,AH.cells?,h3,apart,hc];exact AX (by omega)) hK
theorem Ei.ld {q o:Nat}{c:List AV}{x:AV}{K:AV->Prop}(s:Ei H0 p L H b) (hm:(q,c)∈L) (hx:c[o]?=some x) (hK:K x):AG (.load none (.cst (.ptr q o))) H K:=by
 obtain⟨_,_,h3⟩:=s.l _ hm
 exact BG (v:=x) (by simpa[AY,BJ,AE.ev,AH.cells?,h3,apart]using hx) hK
theorem Ei.fin {α:Type}{res:Rs α}{ok:α->AV->AH->Prop}{d:α}{x:AV}(s:Ei H0 p L H b) (hres:res=.ok d b) (hok:ok d x H):Ce H0 p res ok (.ret x) H:=by
 subst hres;exact⟨s.k,x,rfl,hok,s.rd⟩
theorem Ei.qQ {α β:Type}{res:Rs β}{r1:Rs α}{k:α->List UInt8->Rs β}{ok:β->AV->AH->Prop}{ok1:α->AV->AH->Prop}{g:FuncId}{ar:List AV}{K:AV->AH->Prop}(s:Ei H0 p L H b) (hres:res=r1.bind k) (hC:AQ P g ar H (Ce H p r1 ok1))
  (hK:∀d x r H',Ei H0 p L H' r->res=k d r->ok1 d x H'->K x H'):AF P g ar H (yp (Ce H0 p res ok)) K:=by
 have hp:=s.p0
 have hn:=s.k.nx
 refine BA hC (fun x H' h=>?_) (fun x H' h=>?_)
 ·obtain⟨k1,h⟩:=h
  cases r1 with
  | err e=>cases h.1
  | ok d r=>
   obtain⟨x',hx,h1,h2⟩:=h
   cases hx
   exact hK d _ r H' ⟨h2,s.k.trans k1,fun w hw=>by
    obtain⟨g1,g2,g3⟩:=s.l w hw
    exact⟨g1,C6 g2 k1.nx,by rw[k1.get _ g2 (by omega)];exact g3⟩,hp⟩ hres h1
 ·obtain⟨k1,h⟩:=h
  cases r1 with
  | ok d r=>obtain⟨_,h,_⟩:=h;cases h
  | err e=>
   refine⟨s.k.trans k1,?_⟩
   rw[hres];exact h
end
theorem OW {α:Type}(x:Rs α):x=x.bind fun y r=>.ok (id y) r:=by cases x<;>rfl
theorem bf {a b:Ty}{β:Type}(f:(Ty.pair a b).D->β) (l:List UInt8):(((Ty.pair a b).dec l).bind fun y r=>.ok (f y) r)=(a.dec l).bind fun x r=>(b.dec r).bind fun y r'=>.ok (f (x,y)) r':=by
 show Rs.bind (Rs.bind (a.dec l) fun x r=>(b.dec r).bind fun y r'=>.ok (x,y) r') _=_
 cases a.dec l with
 | err e=>rfl
 | ok x r=>
  show Rs.bind (Rs.bind (b.dec r) fun y r'=>.ok (x,y) r') _=Rs.bind (b.dec r) _
  cases b.dec r<;>rfl
theorem YM {a b c:Ty}{β:Type}(f:(Ty.pair (.pair a b) c).D->β) (l:List UInt8):(((Ty.pair (.pair a b) c).dec l).bind fun y r=>.ok (f y) r)=((Ty.pair a (.pair b c)).dec l).bind fun y r=>.ok (f ((y.1,y.2.1),y.2.2)) r:=by
 show Rs.bind (Rs.bind (Rs.bind (a.dec l) fun x r=>(b.dec r).bind fun y r'=>.ok (x,y) r') fun x r=>(c.dec r).bind fun y r'=>.ok (x,y) r') _=Rs.bind (Rs.bind (a.dec l) fun x r=>Rs.bind (Rs.bind (b.dec r) fun x r=>(c.dec r).bind fun y r'=>.ok (x,y) r') fun y r'=>.ok (x,y) r') _
 cases a.dec l with
 | err e=>rfl
 | ok x r=>
  show Rs.bind (Rs.bind (Rs.bind (b.dec r) fun y r'=>.ok (x,y) r') _) _=Rs.bind (Rs.bind (Rs.bind (b.dec r) fun x r=>(c.dec r).bind fun y r'=>.ok (x,y) r') fun y r'=>.ok (x,y) r') _
  cases b.dec r with
  | err e=>rfl
  | ok y r1=>
   show Rs.bind (Rs.bind (c.dec r1) fun z r'=>.ok ((x,y),z) r') _=Rs.bind (Rs.bind (Rs.bind (c.dec r1) fun z r'=>.ok (y,z) r') fun y r'=>.ok (x,y) r') _
   cases c.dec r1<;>rfl
def LD (P:Program) (g:FuncId) (t:Ty):Prop:=∀{H:AH}{p:Nat}{b:List UInt8},Rd H p b->AQ P g [.ptr p 0] H (Ce H p (t.dec b) fun d x _=>RV t d x)
theorem LD.one {g:FuncId}{t:Ty}(h:LD P g t) (L:List (Nat × List AV)) (p:Nat):One P L p (.fn (.func g) [.ptr p 0] []) t:=fun _ _ hR _=>h hR
section
variable {H0 H:AH}{p:Nat}{L:List (Nat × List AV)}{l:List UInt8}
theorem Ei.step {a b:Ty}{β:Type}{res:Rs β}{f:(Ty.pair a b).D->β}{ok:β->AV->AH->Prop}{g:FuncId}{ar:List AV}{K:AV->AH->Prop}(s:Ei H0 p L H l) (hres:res=((Ty.pair a b).dec l).bind fun y r=>.ok (f y) r)
  (hC:AQ P g ar H (Ce H p (a.dec l) fun d x _=>RV a d x)) (hK:∀d c x r H',Ei H0 p L H' r->(res=(b.dec r).bind fun y r'=>.ok (f (d,y)) r')->x.cellsOf=some c->RX a d c->c.length=Dd a->K x H'):AF P g ar H (yp (Ce H0 p res ok)) K:=by
 rw[bf]at hres
 exact s.qQ hres hC fun d x r H' s' h1 h2=>by
  obtain⟨c,h2,h3⟩:=h2
  exact hK d c x r H' s' h1 h2 h3 (Qd _ _ _ h3)
theorem Ei.last {a:Ty}{β:Type}{res:Rs β}{f:a.D->β}{ok:β->AV->AH->Prop}{g:FuncId}{ar:List AV}{K:AV->AH->Prop}(s:Ei H0 p L H l) (hres:res=(a.dec l).bind fun y r=>.ok (f y) r)
  (hC:AQ P g ar H (Ce H p (a.dec l) fun d x _=>RV a d x)) (hK:∀d c x r H',Ei H0 p L H' r->res=.ok (f d) r->x.cellsOf=some c->RX a d c->c.length=Dd a->K x H'):AF P g ar H (yp (Ce H0 p res ok)) K:=
 s.qQ hres hC fun d x r H' s' h1 h2=>by
  obtain⟨c,h2,h3⟩:=h2
  exact hK d c x r H' s' h1 h2 h3 (Qd _ _ _ h3)
end
theorem bw {x:AV}{c z:List AV}{n:Nat}(hx:x.cellsOf=some c) (hc:c.length=n) (hz:n<=z.length):AJ (.build z [(0,n,.cst x)]) emp=some (.agg (c++z.drop n)):=by
 simp[AJ,Bv,AE.ev,hx,hc,hz]
theorem jI {x y:AV}{c c' z:List AV}(hx:x.cellsOf=some c) (hy:y.cellsOf=some c') (hc:c.length=1) (hc':c'.length=1) (hz:z.length=2):AJ (.build z [(0,1,.cst x),(1,1,.cst y)]) emp=some (.agg (c++c')):=by
 match c,c',z,hc,hc',hz with
 | [u],[v],[z0,z1],_,_,_=>simp[AJ,Bv,AE.ev,hx,hy]
theorem wC {t:Ty}{l:(Ty.list t).D}{v:AV}(h:RX (.list t) l [v]):v.cellsOf=some [v]:=by
 obtain⟨v',cs,e,hf,_⟩:=h
 have:v=v':=by simpa using e
 subst this
 generalize (GA l).length=ln at hf
 cases hf<;>rfl
theorem Ce.list {t:Ty}{H:AH}{p:Nat}{b:List UInt8}{o:Al}{H':AH}(h:Ce H p ((Ty.list t).dec b) (fun l v _=>RX (.list t) l [v]) o H'):Ce H p ((Ty.list t).dec b) (fun l v _=>RV (.list t) l v) o H':=
 h.mono fun d x _ hd=>⟨[x],wC hd,hd⟩
def fb (P:Program) (z:List AV) (f1 f2:FuncId) (a1 a2:List AV) (h:AH) (Post:Al->AH->Prop):Prop:=(
 AO (.alloc z) h fun v1 h1=>
 AF P f1 a1 h1 (yp Post) fun v2 h2=>
 AF P f2 a2 h2 (yp Post) fun v3 h3=>
 AB (.build z [(0,1,(.cst v2)),(1,1,(.cst v3))]) fun v4=>
 AO (.store 2 (.cst v1) (.cst v4)) h3 fun v5 h5=>
 AG (.load (some 2) (.cst v1)) h5 fun v6=>
 Post (.ret v6) h5)
theorem Lt {a b:Ty}{z:List AV}{f1 f2:FuncId}{a1 a2:List AV}{H:AH}{p:Nat}{l:List UInt8}(hz:z.length=2) (ha:Dd a=1) (hb:Dd b=1) (hR:Rd H p l)
  (h1:∀H r,Rd H p r->AQ P f1 a1 H (Ce H p (a.dec r) fun d x _=>RV a d x)) (h2:∀H r,Rd H p r->AQ P f2 a2 H (Ce H p (b.dec r) fun d x _=>RV b d x)) :
  fb P z f1 f2 a1 a2 H (Ce H p ((Ty.pair a b).dec l) fun d x _=>RV (.pair a b) d x):=by
 obtain⟨res,hres⟩:∃res,res=(Ty.pair a b).dec l:=⟨_,rfl⟩
 rw[<- hres]
 rw[OW ((Ty.pair a b).dec l)]at hres
 unfold fb
 refine(Ei.start hR).alloc fun q H1 s1 hn1=>?_
 refine s1.step hres (h1 _ _ s1.rd) fun d c x r H2 s2 hres2 hx hc hcl=>?_
 refine s2.last hres2 (h2 _ _ s2.rd) fun d' c' x' r' H3 s3 hres3 hx' hc' hcl'=>?_
 refine AA (jI hx hx' (by omega) (by omega) hz) ?_
 refine s3.DZ hn1 (by simp;omega) hz fun H4 s4=>?_
 refine s4.Gx (.head _) (by simp;omega) ?_
 exact s4.fin hres3 ⟨_,rfl,c,c',rfl,hc,hc'⟩
end
end Go.AL
namespace Go.Proofs.YtlmkmpomgdbjhaaGreatDoor
open Tryz
section
open Go Go.AL Go.AL.Co
variable [BQ]
theorem vT:wF prog:=fun h=>wD h
theorem Q1:LD prog 91 .int:=fun hR=>(wD hR).mono fun _ _ h=>h.mono fun d x _ hd=>⟨[x],by subst hd;rfl,by subst hd;rfl⟩
theorem kW:LD prog 184 .byte:=fun hR=>(fL hR).mono fun _ _ h=>h.mono fun d x _ hd=>⟨[x],by subst hd;rfl,by subst hd;rfl⟩
theorem cR:LD prog 189 .bool:=fun{H p b} hR=>by
 refine su ?_
 unfold oq
 obtain⟨res,hres⟩:∃res,res=Ty.bool.dec b:=⟨_,rfl⟩
 rw[<- hres]
 refine(Ei.start hR).qQ hres (fL hR) fun d x r H' s' h1 h2=>?_
 subst h2
 have hb:=d.toNat_lt
 refine AA (v:=.bool (decide (1<d.toNat))) (by
  show some (AV.bool (decide ((d.toNat:Int)>1)))=_
  congr 2;simp only[decide_eq_decide];omega) (B_ (fun h=>?_) (fun h=>?_))
 ·refine AA (v:=.agg [.int .i64 4]) (by rfl) ⟨s'.k,?_⟩
  rw[h1,if_pos (of_decide_eq_true h)]
  exact⟨rfl,r,s'.rd⟩
 ·rw[if_neg (of_decide_eq_false h)]at h1
  refine AA (v:=.bool (decide (d.toNat=1))) (by
   show some (AV.bool ((d.toNat:Int)==1))=_
   have:((d.toNat:Int)==(1:Int))=decide (d.toNat=1):=by
    by_cases h:d.toNat=1
    ·simp[h]
    ·have h':¬((d.toNat:Int)=1):=by omega
     simp only[h,decide_false,beq_eq_false_iff_ne,ne_eq];exact h'
   rw[this]) ?_
  exact s'.fin h1 ⟨_,rfl,rfl⟩
section
variable {H:AH}{p:Nat}{b:List UInt8}{L:List (Nat × List AV)}{fv:AV}
def Yb (g:FuncId) (t:Ty):Prop:=∀{H:AH}{p:Nat}{b:List UInt8}{L:List (Nat × List AV)}{fv:AV},Rd H p b->(∀x∈L,x.1<H.next/\x.1≠p/\H.get x.1=some (.cells x.2))->One prog L p fv t ->
 AQ prog g [.ptr p 0,fv] H (Ce H p ((Ty.list t).dec b) fun l v _=>RV (.list t) l v)
theorem F8 {g:FuncId}{t:Ty}{k bytes:Nat}{z:List AV}(hk:Dd t=k) (hz:z.length=k) (hby:bytes<=500) (hT:∀(H:AH) (p:Nat) (fv:AV) (Post:Al->AH->Prop),eZ prog k bytes z (.ptr p 0) fv H Post->AQ prog g [.ptr p 0,fv] H Post):Yb g t:=fun{H p b L fv} hR hL hf=>by
 subst hk
 exact(bQ hR (hT _ _ _ _ (XQ vT hz hby hR hL hf))).mono fun _ _ h=>h.list
theorem eY {g:FuncId}{t:Ty}{k bytes:Nat}{z:List AV}(hk:Dd t=k) (hz:z.length=k) (hby:bytes<=500) (hT:∀(H:AH) (p:Nat) (fv:AV) (Post:Al->AH->Prop),eZ prog k bytes z (.ptr p 0) fv H Post->AQ prog g [.ptr p 0,fv] H Post)
  {H:AH} {p:Nat} {b:List UInt8} {L:List (Nat × List AV)} {fv:AV} (hR:Rd H p b) (hL:∀x∈L,x.1<H.next/\x.1≠p/\H.get x.1=some (.cells x.2)) (hf:One prog L p fv t) :
  AQ prog g [.ptr p 0,fv] H (Ce H p ((Ty.list t).dec b) fun l v _=>RX (.list t) l [v]):=by
 subst hk
 exact bQ hR (hT _ _ _ _ (XQ vT hz hby hR hL hf))
theorem vC:Yb 197 .int:=F8 (k:=1) (bytes:=8) (z:=[(I 0)]) rfl rfl (by omega) fun _ _ _ _ h=>sf h
theorem vB:Yb 305 O9:=F8 (k:=2) (bytes:=16) (z:=[(I 0),(N .u8 0)]) rfl rfl (by omega) fun _ _ _ _ h=>sa h
theorem vA:Yb 307 Gd:=F8 (k:=2) (bytes:=2) (z:=[(.bool false),(N .u8 0)]) rfl rfl (by omega) fun _ _ _ _ h=>sY h
theorem qG:Yb 188 .bool:=F8 (k:=1) (bytes:=1) (z:=[(.bool false)]) rfl rfl (by omega) fun _ _ _ _ h=>sw h
theorem vD:Yb 196 .byte:=F8 (k:=1) (bytes:=1) (z:=[(N .u8 0)]) rfl rfl (by omega) fun _ _ _ _ h=>sh h
theorem x8:Yb 94 BM:=F8 (k:=1) (bytes:=24) (z:=[.nils]) rfl rfl (by omega) fun _ _ _ _ h=>zy h
theorem vE:Yb 194 Ch:=F8 (k:=1) (bytes:=24) (z:=[.nils]) rfl rfl (by omega) fun _ _ _ _ h=>sj h
theorem vF:Yb 192 DH:=F8 (k:=2) (bytes:=32) (z:=[(I 0),.nils]) rfl rfl (by omega) fun _ _ _ _ h=>so h
theorem vG:Yb 190 (.list DH):=F8 (k:=1) (bytes:=24) (z:=[.nils]) rfl rfl (by omega) fun _ _ _ _ h=>sr h
theorem qH:Yb 186 Bl:=F8 (k:=4) (bytes:=32) (z:=(BD 4 (N .u64 0) [])) rfl rfl (by omega) fun _ _ _ _ h=>sy h
theorem E67:Yb 95 Em:=F8 (k:=8) (bytes:=80) (z:=((I 0)::(.nils::(BD 6 (I 0) [])))) rfl rfl (by omega) fun _ _ _ _ h=>zx h
theorem E69:Yb 97 IK:=F8 (k:=2) (bytes:=48) (z:=[.nils,.nils]) rfl rfl (by omega) fun _ _ _ _ h=>zu h
theorem u_ {H:AH}{p:Nat}{b:List UInt8}{L:List (Nat × List AV)}{fv:AV}(hR:Rd H p b) (hL:∀x∈L,x.1<H.next/\x.1≠p/\H.get x.1=some (.cells x.2)) (hf:One prog L p fv HC) :
  AQ prog 47 [.ptr p 0,fv] H (Ce H p ((Ty.list HC).dec b) fun l v _=>RX (.list HC) l [v]):=eY (t:=HC) (k:=27) (bytes:=440) (z:=(BD 5 (I 0) (BD 6 .nils ((I 0)::(BD 4 .nils (BD 4 (I 0) ((.bool false)::((I 0)::((.bool false)::(BD 4 .nils [])))))))))) rfl rfl (by omega) (fun _ _ _ _ h=>T47 h) hR hL hf
end
end
section
open Go Go.AL Go.AL.Co
variable [BQ]
theorem vI:LD prog 306 O9:=fun{H p b} hR=>sZ (Lt (a:=.int) (b:=.byte) rfl rfl rfl hR (fun _ _ h=>Q1 h) (fun _ _ h=>kW h))
theorem vH:LD prog 308 Gd:=fun{H p b} hR=>sX (Lt (a:=.bool) (b:=.byte) rfl rfl rfl hR (fun _ _ h=>cR h) (fun _ _ h=>kW h))
theorem fP:LD prog 185 CG:=fun{H p b} hR=>by
 refine s_ ?_
 unfold ou
 refine BA (vB (L:=[]) hR (by simp) (vI.one _ _)) (fun v H' h=>h) (fun v H' h=>h)
theorem qI:LD prog 93 BM:=fun{H p b} hR=>by
 refine z6 ?_
 unfold xP
 refine BA (vC (L:=[]) hR (by simp) (Q1.one _ _)) (fun v H' h=>h) (fun v H' h=>h)
theorem D70:LD prog 98 IK:=fun{H p b} hR=>zt (Lt (a:=CG) (b:=CG) rfl rfl rfl hR (fun _ _ h=>fP h) (fun _ _ h=>fP h))
theorem vK:LD prog 193 DH:=fun{H p b} hR=>sk (Lt (a:=.int) (b:=.list Gd) rfl rfl rfl hR (fun _ _ h=>Q1 h) (fun _ _ h=>vA (L:=[]) h (by simp) (vH.one _ _)))
theorem vL {L:List (Nat × List AV)}{p q:Nat}(hq:(q,[AV.ptr p 0])∈L):One prog L p (.fn (.func 191) [] [.ptr q 0]) (.list DH):=fun H b hR hL=>by
 obtain⟨_,_,h3⟩:=hL _ hq
 have hld:AY (.load none (.cst (.ptr q 0))) emp H=some (.ptr p 0):=by simp[AY,BJ,AE.ev,AH.cells?,h3,apart]
 show AQ prog 191 _ _ _
 refine sq ?_
 unfold oj
 refine BG hld (BG hld (BA (vF (L:=[]) hR (by simp) (vK.one _ _)) (fun v H' h=>h) (fun v H' h=>h)))
theorem vJ {L:List (Nat × List AV)}{p q:Nat}(hq:(q,[AV.ptr p 0])∈L):One prog L p (.fn (.func 195) [] [.ptr q 0]) Ch:=fun H b hR hL=>by
 obtain⟨_,_,h3⟩:=hL _ hq
 have hld:AY (.load none (.cst (.ptr q 0))) emp H=some (.ptr p 0):=by simp[AY,BJ,AE.ev,AH.cells?,h3,apart]
 show AQ prog 195 _ _ _
 refine si ?_
 unfold oi
 refine BG hld (BG hld (BA (vD (L:=[]) hR (by simp) (kW.one _ _)) (fun v H' h=>h) (fun v H' h=>h)))
end
end Go.Proofs.YtlmkmpomgdbjhaaGreatDoor
namespace Go.AL
section
open Co
variable [BQ] {P:Program}
theorem Ei.done {H0 H:AH}{p q o:Nat}{L:List (Nat × List AV)}{b:List UInt8}{pre z:List AV}(s:Ei H0 p ((q,pre++z.drop o)::L) H b) (hz:z.length<=o):Ei H0 p ((q,pre)::L) H b:=by
 rw[Bt hz,DJ]at s;exact s
theorem Ei.out {H0 H:AH}{p q q1 n:Nat}{b:List UInt8}{c z:List AV}{K:AV->AH->Prop}(s:Ei H0 p [(q,c),(q1,z)] H b) (hne:q1≠q) (hc:c.length=n) (hz:z.length=n) (hK:∀H',Ei H0 p [(q1,c),(q,c)] H' b->K (.agg c) H') :
  AG (.load (some n) (.cst (.ptr q 0))) H fun v27=>AO (.store n (.cst (.ptr q1 0)) (.cst v27)) H fun _ h28=>AG (.load (some n) (.cst (.ptr q1 0))) h28 fun v29=>K v29 h28:=by
 refine s.Gx (.head _) hc ?_
 refine s.swap.DZ (fun x hx=>?_) hc hz fun H' s'=>?_
 ·cases hx with
  | head=>exact fun h=>hne h.symm
  | tail _ hx=>cases hx
 ·exact s'.Gx (.head _) hc (hK _ s')
end
end Go.AL
namespace Go.Proofs.YtlmkmpomgdbjhaaGreatDoor
open Tryz
section
open Go Go.AL Go.AL.Co
variable [BQ]
set_option maxHeartbeats 1000000 in
theorem D68:LD prog 96 Em:=fun{H p b} hR=>by
 obtain⟨res,hres⟩:∃res,res=Em.dec b:=⟨_,rfl⟩
 rw[<- hres]
 rw[OW (Em.dec b)]at hres
 refine zw ?_
 unfold xO
 generalize hz:(I 0::.nils::BD 6 (I 0) [])=z
 have hzl:z.length=8:=by rw[<- hz];rfl
 refine(Ei.start hR).alloc fun q1 H1 s1 hn1=>?_
 refine s1.step (a:=.int) (b:=.pair BM (.pair .int (.pair .int (.pair .int (.pair .int (.pair .int .int)))))) hres (Q1 s1.rd) fun d0 c0 x r H2 s2 hres hx Uc l0=>?_
 refine AA (bw hx (n:=1) l0 (by omega)) ?_
 refine s2.alloc fun q H3 s3 hn=>?_
 have hne:q1≠q:=hn _ (.head _)
 refine s3.DZ hn (by rw[AW,B3,l0,hzl];rfl) hzl fun H4 s4=>?_
 refine s4.step (a:=BM) (b:=.pair .int (.pair .int (.pair .int (.pair .int (.pair .int .int))))) hres (qI s4.rd) fun d1 c1 x r H5 s5 hres hx Sn l1=>?_
 refine AA (v:=.ptr q 1) rfl (s5.put hn l0 hx l1 (by rw[hzl];decide) fun H6 s6 p6=>?_)
 refine s6.step (a:=.int) (b:=.pair .int (.pair .int (.pair .int (.pair .int .int)))) hres (Q1 s6.rd) fun d2 c2 x r H7 s7 hres hx Ub l2=>?_
 refine AA (v:=.ptr q 2) rfl (s7.put hn p6 hx l2 (by rw[hzl];decide) fun H8 s8 p8=>?_)
 refine s8.step (a:=.int) (b:=.pair .int (.pair .int (.pair .int .int))) hres (Q1 s8.rd) fun d3 c3 x r H9 s9 hres hx Py l3=>?_
 refine AA (v:=.ptr q 3) rfl (s9.put hn p8 hx l3 (by rw[hzl];decide) fun H10 s10 p10=>?_)
 refine s10.step (a:=.int) (b:=.pair .int (.pair .int .int)) hres (Q1 s10.rd) fun d4 c4 x r H11 s11 hres hx Vx l4=>?_
 refine AA (v:=.ptr q 4) rfl (s11.put hn p10 hx l4 (by rw[hzl];decide) fun H12 s12 p12=>?_)
 refine s12.step (a:=.int) (b:=.pair .int .int) hres (Q1 s12.rd) fun d5 c5 x r H13 s13 hres hx cV l5=>?_
 refine AA (v:=.ptr q 5) rfl (s13.put hn p12 hx l5 (by rw[hzl];decide) fun H14 s14 p14=>?_)
 refine s14.step (a:=.int) (b:=.int) hres (Q1 s14.rd) fun d6 c6 x r H15 s15 hres hx fu l6=>?_
 refine AA (v:=.ptr q 6) rfl (s15.put hn p14 hx l6 (by rw[hzl];decide) fun H16 s16 p16=>?_)
 refine s16.last (a:=.int) hres (Q1 s16.rd) fun d7 c7 x r H17 s17 hres hx ft l7=>?_
 refine AA (v:=.ptr q 7) rfl (s17.put hn p16 hx l7 (by rw[hzl];decide) fun H18 s18 iG=>?_)
 refine(s18.done (by rw[hzl];decide)).out hne iG hzl fun H19 s19=>s19.fin hres ⟨_,rfl,?_⟩
 simp only[Ar]
 exact⟨_,_,rfl,Uc,_,_,rfl,Sn,_,_,rfl,Ub,_,_,rfl,Py,_,_,rfl,Vx,_,_,rfl,cV,_,_,rfl,fu,ft⟩
end
end Go.Proofs.YtlmkmpomgdbjhaaGreatDoor
namespace Go.AL
section
open Co
variable [BQ] {P:Program}
theorem ZJ:∀(l:List UInt8) (x:UInt8),w8 (l++[x])=w8 l+x.toNat*2 ^ (8*l.length)
 | [],x=>by simp[w8]
 | y::l,x=>by
  show y.toNat+256*w8 (l++[x])=y.toNat+256*w8 l+x.toNat*2 ^ (8*(l.length+1))
  rw[ZJ l x,On,On 8,Nat.pow_add]
  have:256*(x.toNat*2 ^ (8*l.length))=x.toNat*(2 ^ (8*l.length)*2 ^ (8*1)):=by
   rw[HS 256,Nat.mul_assoc]
  omega
theorem fS:∀(l:List UInt8),w8 l<2 ^ (8*l.length)
 | []=>by simp[w8]
 | y::l=>by
  have h:=fS l
  have hy:=y.toNat_lt
  show y.toNat+256*w8 l<2 ^ (8*(l.length+1))
  rw[On 8,Nat.pow_add]
  have:(2:Nat) ^ (8*1)=256:=by decide
  rw[this]
  omega
def wd (bs:List UInt8) (j:Nat):AV:=.int .u64 ((w8 ((bs.drop (8*j)).take 8):Nat):Int)
def cw (bs:List UInt8):List AV:=[wd bs 0,wd bs 1,wd bs 2,wd bs 3]
theorem cn {bs:List UInt8}{x:UInt8}{j:Nat}(h:j≠bs.length / 8):wd (bs++[x]) j=wd bs j:=by
 unfold wd
 rcases CT bs.length (8*j)with h1 | h1
 ·rw[Bt (by simp;omega),Bt (by omega)]
 ·have h2:8*j+8<=bs.length:=by omega
  rw[OZ (by omega),EA (by simp;omega)]
theorem lJ {bs:List UInt8}{x:UInt8}{j:Nat}(h:j=bs.length / 8):(bs.drop (8*j)).length=bs.length % 8/\wd (bs++[x]) j=.int .u64 ((w8 ((bs.drop (8*j)).take 8)+x.toNat*2 ^ (8*(bs.length % 8)):Nat):Int):=by
 have h1:(bs.drop (8*j)).length=bs.length % 8:=by simp;omega
 refine⟨h1,?_⟩
 unfold wd
 have h2:((bs++[x]).drop (8*j)).take 8=(bs.drop (8*j)).take 8++[x]:=by
  rw[OZ (by omega),AX (by rw[AW,h1];simp;omega),AX (by omega)]
 have h3:((bs.drop (8*j)).take 8).length=bs.length % 8:=by rw[BL];omega
 rw[h2,ZJ,h3]
theorem eu {bs:List UInt8}{x:UInt8}(hl:bs.length<32):Ap (cw bs) (bs.length / 8) [wd (bs++[x]) (bs.length / 8)]=cw (bs++[x]):=by
 rw[Cu (by simp[cw];omega)]
 have hj:bs.length / 8=0\/bs.length / 8=1\/bs.length / 8=2\/bs.length / 8=3:=by omega
 have e:∀j,j≠bs.length / 8->wd (bs++[x]) j=wd bs j:=fun j h=>cn h
 rcases hj with h | h | h | h<;>rw[h]at e ⊢<;>unfold cw
 ·rw[e 1 (by omega),e 2 (by omega),e 3 (by omega)];rfl
 ·rw[e 0 (by omega),e 2 (by omega),e 3 (by omega)];rfl
 ·rw[e 0 (by omega),e 1 (by omega),e 3 (by omega)];rfl
 ·rw[e 0 (by omega),e 1 (by omega),e 2 (by omega)];rfl
theorem V6 {bs:List UInt8}{j:Nat}(hj:j<4):(cw bs)[j]?=some (wd bs j):=by
 have:j=0\/j=1\/j=2\/j=3:=by omega
 rcases this with rfl | rfl | rfl | rfl<;>rfl
theorem Ei.re {H0 H:AH}{p q o:Nat}{L:List (Nat × List AV)}{b:List UInt8}{c:List AV}{x:AV}{K:AV->AH->Prop}(s:Ei H0 p ((q,c)::L) H b) (hne:∀x∈L,x.1≠q) (hx:x.cellsOf=some [x]) (ho:o<c.length)
  (hK:∀H',Ei H0 p ((q,Ap c o [x])::L) H' b->K .unk H'):AO (.store 1 (.cst (.ptr q o)) (.cst x)) H K:=by
 have hs:Ap c o [x]=(c.take o++[x])++c.drop (o+1):=by rw[Cu (by simp;omega)];simp
 refine Ei.put (pre:=c.take o) (z:=c) (o:=o) (vs:=[x]) (n:=1) ?_ hne (by simp;omega) hx rfl (by omega) fun H' s' _=>hK H' (by rw[hs];exact s')
 rw[Fo];exact s
end
end Go.AL
namespace Go.Proofs.YtlmkmpomgdbjhaaGreatDoor
open Tryz
section
open Go Go.AL Go.AL.Co
variable [BQ]
set_option maxHeartbeats 1000000 in
theorem qJ:LD prog 187 Bl:=fun{H p b} hR=>by
 obtain⟨res,hres⟩:∃res,res=Bl.dec b:=⟨_,rfl⟩
 rw[<- hres]
 have hres:res=many C7 32 b:=hres
 refine sx ?_
 unfold ot
 refine(Ei.start hR).alloc fun q1 H1 s1 _=>s1.alloc fun q H2 s2 hn=>?_
 have hne:q1≠q:=hn _ (.head _)
 let Iv:AV->AV->AV->AV->AH->Prop:=fun a b' c d H'=>a=.ptr p 0/\b'=.ptr q1 0/\c=.ptr q 0/\∃(i:Nat) (bs:List UInt8) (r:List UInt8),d=.int .i64 (i:Int)/\i<=32/\bs.length=i /\
  Ei H p [(q,cw bs),(q1,BD 4 (N .u64 0) [])] H' r/\res=(many C7 (32-i) r).bind fun l2 r'=>.ok (bs++l2) r'
 let μ:AV->AV->AV->AV->AH->Nat:=fun _ _ _ d _=>match d with
  | .int _ j=>(32-j).toNat
  | _=>0
 refine⟨Iv,μ,⟨rfl,rfl,rfl,0,[],b,rfl,by omega,rfl,s2,?_⟩,?_⟩
 ·rw[hres]
  show many C7 32 b=Rs.bind (many C7 32 b) _
  cases many C7 32 b<;>rfl
 intro e H3 hI
 obtain⟨e1,e2,e3,i,bs,r,e4,hi,hbs,s3,hres3⟩:=(hI:Iv (e 0) (e 2) (e 3) (e 5) H3)
 show AB (.bin .lss (.cst (e 5)) (.cst (I 32))) _
 rw[e4,e3,e2,e1]
 refine AA (v:=.bool (decide ((i:Int)<32))) rfl (B_ (fun ht=>?_) (fun ht=>?_))
 ·have hlt:i<32:=by have:=of_decide_eq_true ht;omega
  have hj:i / 8<4:=by omega
  refine AA (v:=.int .i64 ((i / 8:Nat):Int)) (by
   show some (AV.int .i64 (IntKind.i64.wrap ((i:Int).tdiv 8)))=_
   rw[Oh (by omega),DO (by omega)];rfl) ?_
  have hja:(0:Int)<=((i / 8:Nat):Int)/\((i / 8:Nat):Int)<((4:Nat):Int):=by omega
  have hix:AJ (.indexAddrA 4 1 (.cst (.ptr q 0)) (.cst (.int .i64 ((i / 8:Nat):Int)))) emp=some (.ptr q (i / 8)):=by
   show(if (0:Int)<=((i / 8:Nat):Int)/\((i / 8:Nat):Int)<((4:Nat):Int)then some (AV.ptr q (0+(((i / 8:Nat):Int)).toNat*1))else none)=_
   rw[if_pos hja,CL,EU,IG]
  refine AA hix (s3.ld (.head _) (V6 hj) ?_)
  refine AA (v:=.int .i64 ((i % 8:Nat):Int)) (by
   show some (AV.int .i64 ((i:Int).tmod 8))=_
   rw[JE (by omega)];rfl) ?_
  refine AA (v:=.int .i64 ((8*(i % 8):Nat):Int)) (by
   show some (AV.int .i64 (IntKind.i64.wrap (8*((i % 8:Nat):Int))))=_
   rw[DO (by omega)];rfl) ?_
  have hni:32-i=(32-(i+1))+1:=by omega
  rw[hni]at hres3
  have hres3:res=((C7 r).bind fun x r=>(many C7 (32-(i+1)) r).bind fun l r'=>.ok (x::l) r').bind fun l2 r'=>.ok (bs++l2) r':=hres3
  have hres3:res=(C7 r).bind fun x r=>(many C7 (32-(i+1)) r).bind fun l r'=>.ok (bs++x::l) r':=by
   rw[hres3]
   cases C7 r with
   | err e=>rfl
   | ok x r1=>
    show Rs.bind (Rs.bind (many C7 (32-(i+1)) r1) _) _=Rs.bind (many C7 (32-(i+1)) r1) _
    cases many C7 (32-(i+1)) r1<;>rfl
  refine s3.qQ hres3 (fL s3.rd) fun x v r1 H4 s4 hres4 hv=>?_
  subst hv
  refine⟨⟨?_,trivial⟩,?_⟩
  ·obtain⟨_,_,h3⟩:=s4.l _ (.head _)
   show AY (.load none (.cst (.ptr q (i / 8)))) emp H4=some (wd bs (i / 8))
   have h3:H4.get q=some (.cells (cw bs)):=h3
   have:=V6 (bs:=bs) hj
   simp only[AY,BJ,AE.ev,AH.cells?,h3,apart,this]
  have hx:=x.toNat_lt
  obtain⟨w1,w2⟩:=lJ (bs:=bs) (x:=x) (j:=i / 8) (by rw[hbs])
  rw[hbs]at w1 w2
  have w3:((bs.drop (8*(i / 8))).take 8).length=i % 8:=by rw[BL];omega
  have w4:=fS ((bs.drop (8*(i / 8))).take 8)
  rw[w3]at w4
  generalize hW:w8 ((bs.drop (8*(i / 8))).take 8)=W at w2 w4
  have w5:x.toNat*2 ^ (8*(i % 8))<=255*2 ^ (8*(i % 8)):=DY _ (by omega)
  have w6:(2:Nat) ^ (8*(i % 8))<=2 ^ 56:=JC (by omega) (by omega)
  have w7:(2:Nat) ^ 56=72057594037927936:=by decide
  have hwd:wd bs (i / 8)=.int .u64 (.ofNat W):=by unfold wd;rw[hW];rfl
  rw[hwd]
  refine AA (v:=.int .u64 (.ofNat x.toNat)) (by
   show some (AV.int .u64 (IntKind.u64.wrap (x.toNat:Int)))=_
   rw[FU (by omega)];rfl) ?_
  refine AA (v:=.int .u64 (.ofNat (x.toNat*2 ^ (8*(i % 8))))) (by
   have h1:(0:Int)<=((8*(i % 8):Nat):Int):=Jv _
   show(if (0:Int)<=((8*(i % 8):Nat):Int)then some (AV.int .u64 (IntKind.u64.wrap (Int.ofNat x.toNat*2 ^ (min ((8*(i % 8):Nat):Int).toNat IntKind.u64.bits))))else none)=_
   rw[if_pos h1]
   have h2:min ((8*(i % 8):Nat):Int).toNat IntKind.u64.bits=8*(i % 8):=by
    show min (8*(i % 8)) 64=8*(i % 8);omega
   have h3:Int.ofNat x.toNat*2 ^ (8*(i % 8))=((x.toNat*2 ^ (8*(i % 8)):Nat):Int):=by simp
   rw[h2,h3,FU (by omega)];rfl) ?_
  refine AA (v:=wd (bs++[x]) (i / 8)) (by
   show Dj .or (.int .u64 (.ofNat W)) (.int .u64 (.ofNat (x.toNat*2 ^ (8*(i % 8)))))=_
   rw[gF,Z8 w4,w2]
   show some (AV.int .u64 (IntKind.u64.wrap (((W+x.toNat*2 ^ (8*(i % 8))) % 18446744073709551616:Nat):Int)))=_
   rw[B4 (by omega),FU (by omega)]) ?_
  refine AA hix (s4.re (fun y hy=>?_) rfl (by simp[cw];omega) fun H5 s5=>⟨trivial,?_⟩)
  ·cases hy with
   | head=>exact hne
   | tail _ hy=>cases hy
  have hcs:=eu (bs:=bs) (x:=x) (by omega)
  rw[hbs]at hcs
  rw[hcs]at s5
  refine AA (v:=.int .i64 ((i+1:Nat):Int)) (by
   show some (AV.int .i64 (IntKind.i64.wrap ((i:Int)+1)))=_
   rw[DO (by omega)];rfl) ?_
  refine⟨⟨rfl,rfl,rfl,i+1,bs++[x],r1,rfl,hlt,by simp[hbs],s5,?_⟩,?_⟩
  ·rw[hres4]
   cases many C7 (32-(i+1)) r1 with
   | err er=>rfl
   | ok l2 r3=>
    show Rs.ok (bs++x::l2) r3=Rs.ok ((bs++[x])++l2) r3
    rw[Ar];rfl
  ·show((32:Int)-((i+1:Nat):Int)).toNat<μ (e 0) (e 2) (e 3) (e 5) H3
   rw[e4]
   show((32:Int)-((i+1:Nat):Int)).toNat<((32:Int)-(i:Int)).toNat
   omega
 ·have hge:i=32:=by have:=of_decide_eq_false ht;omega
  subst hge
  have hres4:res=.ok bs r:=by rw[hres3];show Rs.ok (bs++[]) r=_;rw[DJ];rfl
  refine s3.out hne rfl rfl fun H4 s4=>s4.fin hres4 ⟨_,rfl,hbs,rfl,fun j hj=>V6 hj⟩
end
section
open Go Go.AL Go.AL.Co
variable [BQ]
end
end Go.Proofs.YtlmkmpomgdbjhaaGreatDoor
namespace Go.AL
section
open Co
variable [BQ]
def gv:Ty:=.pair (.list Bl) (.pair (.list BM) (.list .bool))
def ZU:Ty:=.pair (.list Bl) (.pair (.list (.list DH)) (.pair (.list .bool) (.list Ch)))
theorem QV.rc {t:Ty}{l:(Ty.list t).D}{v:AV}(h:QV (.list t) l v):RC (.list t) l [v]:=h
end
end Go.AL
namespace Go.Proofs.YtlmkmpomgdbjhaaGreatDoor
open Tryz
section
open Go Go.AL Go.AL.Co
variable [BQ]
structure cS (d:Ge.D) (c:List AV):Prop where
 f0:c[0]?=some (.int .i64 d.1)
 f1:∃x,c[1]?=some x/\QV CG d.2.1 x
 f2:∃x,c[2]?=some x/\QV CG d.2.2.1 x
 f3:∃x,c[3]?=some x/\QV (.list Bl) d.2.2.2.1 x
 f4:∃x,c[4]?=some x/\QV (.list BM) d.2.2.2.2.1 x
 f5:∃x,c[5]?=some x/\QV (.list .bool) d.2.2.2.2.2.1 x
 f6:∃x,c[6]?=some x/\QV BM d.2.2.2.2.2.2.1 x
 f7:c[7]?=some (.int .i64 d.2.2.2.2.2.2.2.1)
 f8:∃x,c[8]?=some x/\QV (.list Bl) d.2.2.2.2.2.2.2.2.1 x
 f9:∃x,c[9]?=some x/\QV (.list (.list DH)) d.2.2.2.2.2.2.2.2.2.1 x
 f10:∃x,c[10]?=some x/\QV (.list .bool) d.2.2.2.2.2.2.2.2.2.2.1 x
 f11:∃x,c[11]?=some x/\QV (.list Ch) d.2.2.2.2.2.2.2.2.2.2.2.1 x
 f12:∃c1,(c.drop 12).take 5=c1/\12+5<=c.length/\RC tQ d.2.2.2.2.2.2.2.2.2.2.2.2.1 c1
 f13:c[17]?=some (.int .i64 d.2.2.2.2.2.2.2.2.2.2.2.2.2.1)
theorem cS.take {d:Ge.D}{c:List AV}(h:cS d c) (hl:c.length=19):cS d (c.take 18):=by
 have e:∀(i:Nat) (x:AV),i<18->c[i]?=some x->(c.take 18)[i]?=some x:=fun i x hi hx=>by rw[D0,if_pos hi];exact hx
 exact⟨e _ _ (by omega) h.f0,h.f1.imp fun x hx=>⟨e _ _ (by omega) hx.1,hx.2⟩,h.f2.imp fun x hx=>⟨e _ _ (by omega) hx.1,hx.2⟩,h.f3.imp fun x hx=>⟨e _ _ (by omega) hx.1,hx.2⟩,h.f4.imp fun x hx=>⟨e _ _ (by omega) hx.1,hx.2⟩,h.f5.imp fun x hx=>⟨e _ _ (by omega) hx.1,hx.2⟩,h.f6.imp fun x hx=>⟨e _ _ (by omega) hx.1,hx.2⟩,e _ _ (by omega) h.f7,h.f8.imp fun x hx=>⟨e _ _ (by omega) hx.1,hx.2⟩,h.f9.imp fun x hx=>⟨e _ _ (by omega) hx.1,hx.2⟩,h.f10.imp fun x hx=>⟨e _ _ (by omega) hx.1,hx.2⟩,h.f11.imp fun x hx=>⟨e _ _ (by omega) hx.1,hx.2⟩,(by obtain⟨c1,e1,e2,e3⟩:=h.f12;exact⟨c1,by rw[Fl,Ea];exact e1,by simp;omega,e3⟩),e _ _ (by omega) h.f13⟩
end
end Go.Proofs.YtlmkmpomgdbjhaaGreatDoor
namespace Go.AL
section
variable [BQ] {P:Program}
section
variable {K:AV->Prop}{a b:Int}
theorem Cn (ht:a<b->K (.bool true)) (hf:¬a<b->K (.bool false)):AB (.bin .lss (.cst (iv a)) (.cst (iv b))) K:=Tm (by
 by_cases h:a<b
 ·rw[decide_eq_true h];exact ht h
 ·rw[decide_eq_false h];exact hf h)
theorem XX (ht:b<a->K (.bool true)) (hf:¬b<a->K (.bool false)):AB (.bin .gtr (.cst (iv a)) (.cst (iv b))) K:=lY (by
 by_cases h:b<a
 ·rw[decide_eq_true h];exact ht h
 ·rw[decide_eq_false h];exact hf h)
theorem gB (ht:b<=a->K (.bool true)) (hf:¬b<=a->K (.bool false)):AB (.bin .geq (.cst (iv a)) (.cst (iv b))) K:=lZ (by
 by_cases h:b<=a
 ·rw[decide_eq_true h];exact ht h
 ·rw[decide_eq_false h];exact hf h)
theorem nv (ht:a=b->K (.bool true)) (hf:¬a=b->K (.bool false)):AB (.bin .eql (.cst (iv a)) (.cst (iv b))) K:=la (by
 by_cases h:a=b
 ·rw[decide_eq_true h];exact ht h
 ·rw[decide_eq_false h];exact hf h)
theorem bt (ht:¬a=b->K (.bool true)) (hf:a=b->K (.bool false)):AB (.bin .neq (.cst (iv a)) (.cst (iv b))) K:=lX (by
 by_cases h:a=b
 ·rw[decide_eq_false (fun h'=>h' h)];exact hf h
 ·rw[decide_eq_true h];exact ht h)
theorem fy (h:¬a<b) (hK:K (.bool false)):AB (.bin .lss (.cst (iv a)) (.cst (iv b))) K:=Cn (fun h'=>absurd h' h) (fun _=>hK)
end
def FB (n:Nat) (v:AV):Prop:=(n=0/\v=.nils)\/∃(bs:List UInt8) (b:Bool),v=.sim (bs.map bv) n b/\bs.length=n
section
variable {n:Nat}{v:AV}
theorem FB.len (h:FB n v){K:AV->Prop}(hK:K (iv (n:Int))):AB (.len (.cst v)) K:=by
 rcases h with⟨rfl,rfl⟩ | ⟨bs,b,rfl,_⟩<;>exact AA rfl hK
theorem FB.at (h:FB n v){i:Nat}(hi:i<n){H:AH}{K:AV->Prop}(hK:∀x,K (bv x)) :
  AB (.indexAddrS 1 (.cst v) (.cst (iv (i:Int)))) fun v2=>AG (.load none (.cst v2)) H K:=by
 rcases h with⟨rfl,_⟩ | ⟨bs,b,rfl,hl⟩
 ·omega
 ·have h9:(0:Int)<=(i:Int)/\(i:Int)<(n:Int):=by omega
  refine AA (v:=.pim (bs.map bv) i) (by simp[AJ,AE.ev,Ey,h9]) (BG (v:=bv (bs[i]'(by omega))) ?_ (hK _))
  have:bs[i]?=some (bs[i]'(by omega)):=Ab (by omega)
  simp[AY,BJ,AE.ev,apart,this]
theorem FB.slice (h:FB n v) {lo hi:Nat}(h1:lo<=hi) (h2:hi<=n){K:AV->Prop}(hK:∀y,FB (hi-lo) y->K y) :
  AB (.sliceS 1 (.cst v) (some (.cst (iv (lo:Int)))) (some (.cst (iv (hi:Int)))) none) K:=by
 rcases h with⟨rfl,rfl⟩ | ⟨bs,b,rfl,hl⟩
 ·have e1:lo=0:=by omega
  have e2:hi=0:=by omega
  subst e1 e2
  exact AA (v:=.nils) rfl (hK _ (.inl ⟨rfl,rfl⟩))
 ·have c1:(0:Int)<=(lo:Int)/\(lo:Int)<=(hi:Int)/\(hi:Int)<=(n:Int):=by omega
  have e1:((hi:Int)-(lo:Int)).toNat=hi-lo:=by omega
  refine AA (v:=.sim (((bs.drop lo).take (hi-lo)).map bv) (hi-lo) (b&&decide ((hi:Int)=(n:Int)))) ?_ (hK _ (.inr ⟨_,_,rfl,by simp;omega⟩))
  simp[AJ,AE.ints,AE.ev,Mu,c1,e1,List.map_take,List.map_drop]
end
section
variable {H0 H:AH}{L:List (Nat × List AV)}
theorem A2.new {k:Nat}{K:AV->AH->Prop}(h:A2 H0 L H) (hK:∀o v H',A2 H0 (o++L) H'->Lv k o 0 [] v->K v H'):AO (.buildSlice k 0 [] []) H K:=
 Aq (v:=.sl H.next 0 0 (.ex 0)) (H':=H.push (.cells [])) (by simp[BC,Bv]) (hK [(H.next,[])] _ _ h.push (.ex _))
end
end
section
variable [BQ] {P:Program}
theorem eP {T:Type}{t:Bool}{J:T}{A B:T->Prop}(Φ:T->Prop) (hJ:Φ J) (ha:t=true->∀J,Φ J->A J) (hb:t=false->∀J,Φ J->B J):MU (.bool t) J A B:=
 Lc (fun h=>ha h J hJ) (fun h=>hb h J hJ)
theorem nY {T:Type}{w t:Bool}{J:T}{A B:T->Prop}(Φ:T->Prop) (hJ:Φ J) (ha:t=w->∀J,Φ J->A J) (hb:t≠w->∀J,Φ J->B J):DG w (.bool t) J A B:=
 D2 (fun h=>ha h J hJ) (fun h=>hb h J hJ)
section
variable {H0 H:AH}{L A B o:List (Nat × List AV)}
theorem A2.gC (h:A2 H0 (A++(o++B)) H):A2 H0 (o++(A++B)) H:=h.perm (by
 rw[<- Ar,<- Ar]
 exact List.Perm.append_right B Jy)
theorem A2.gh {q:Nat}{c c':List AV}(h:A2 H0 (A++(q,c)::B) H):A2 H0 (A++(q,c')::B) (H.set q (.cells c')):=by
 have h1:A2 H0 ((q,c)::(A++B)) H:=h.perm HW.symm
 exact(h1.set (c':=c')).perm HW
theorem A2.Km {q o n:Nat}{c vs:List AV}{x:AV}{K:AV->AH->Prop}(h:A2 H0 (A++(q,c)::B) H) (hx:x.cellsOf=some vs) (hv:vs.length=n) (hz:o+n<=c.length)
  (hK:∀H',A2 H0 (A++(q,Ap c o vs)::B) H'->K .unk H'):AO (.store n (.cst (.ptr q o)) (.cst x)) H K:=by
 obtain⟨h1,h2,h3⟩:=h.l (q,c) (BS _ (.head _))
 have h3:H.get q=some (.cells c):=h3
 exact Aq (v:=.unk) (H':=H.set q (.cells (Ap c o vs))) (by
  simp only[BC,AE.ev,AH.cells?,h3,hx]
  rw[if_pos ⟨hv,hz⟩]) (hK _ h.gh)
theorem A2.ki {q o k:Nat}{c d:List AV}{K:AV->Prop}(h:A2 H0 L H) (hm:(q,c)∈L) (hx:(c.drop o).take k=d) (hz:o+k<=c.length) (hK:K (.agg d)):AG (.load (some k) (.cst (.ptr q o))) H K:=by
 obtain⟨_,_,h3⟩:=h.l _ hm
 have h3:H.get q=some (.cells c):=h3
 exact BG (v:=.agg d) (by simp[AY,BJ,AE.ev,AH.cells?,h3,apart,hz,hx]) hK
theorem A2.bs {k n:Nat}{z out:List AV}{ps:List (Nat × Nat × AE)}{K:AV->AH->Prop}(h:A2 H0 L H) (hf:Bv emp z ps=some out) (hK:∀q H',A2 H0 ((q,out)::L) H'->K (.sl q 0 n (.ex n)) H'):AO (.buildSlice k n z ps) H K:=
 Aq (v:=.sl H.next 0 n (.ex n)) (H':=H.push (.cells out)) (by simp only[BC,hf]) (hK _ _ h.push)
end
end
section
variable [BQ] {P:Program}
theorem FZ.mono {R R':List (Nat × List AV)}{v y:AV}(h:FZ R v y) (hs:R ⊆ R'):FZ R' v y:=fun H k hR=>h H k fun x hx=>hR x (hs hx)
theorem FZ.low {R:List (Nat × List AV)}{v:AV}(h:∀k,Sc k v):FZ R v v:=fun _ k _=>.low (h k)
theorem FZ.row {R:List (Nat × List AV)}{r n:Nat}{c:List AV}(hm:(r,c)∈R) (hs:∀k,Gy k c) (hn:n=0->c=[]):FZ R (.sl r 0 n (.ex n)) (.sim c n true):=fun H k hR=>by
 obtain⟨g1,g2⟩:=hR _ hm
 refine .sl (l:=c) (m:=c.length) g1 (by simp[AH.cells?,g2]) (by simp) ?_ (fun h=>by rw[hn h];rfl) (fun _=>rfl)
 rw[B5,GU]
 exact .low (hs k)
end
section
variable [BQ] {P:Program}
section
variable {H0 H:AH}{L A B o:List (Nat × List AV)}
theorem A2.Dw {q o:Nat}{c:List AV}{x:AV}(h:A2 H0 L H) (hm:(q,c)∈L) (hx:c[o]?=some x):Am (.load none (.cst (.ptr q o))) x H:=by
 obtain⟨_,_,h3⟩:=h.l _ hm
 show AY _ emp H=some x
 simpa[AY,BJ,AE.ev,AH.cells?,h3,apart]using hx
theorem A2.UH {q o k:Nat}{c d:List AV}(h:A2 H0 L H) (hm:(q,c)∈L) (hx:(c.drop o).take k=d) (hz:o+k<=c.length):Am (.load (some k) (.cst (.ptr q o))) (.agg d) H:=by
 obtain⟨_,_,h3⟩:=h.l _ hm
 have h3:H.get q=some (.cells c):=h3
 show AY _ emp H=some (.agg d)
 simp[AY,BJ,AE.ev,AH.cells?,h3,apart,hz,hx]
theorem fc {k n:Nat}{z:List AV}{ps:List (Nat × Nat × AE)}{K:AV->AH->Prop}(h:AO (.buildSlice k n z ps) H K):Lb (.buildSlice k n z ps) H K:=by
 have h:Option.rec (motive:=fun _=>Prop) False (fun p=>Prod.rec (motive:=fun _=>Prop) K p) (BC (.buildSlice k n z ps) emp H):=h
 cases hf:Bv emp z ps with
 | none=>
  have e:BC (.buildSlice k n z ps) emp H=none:=by simp only[BC,hf]
  rw[e]at h
  exact h.elim
 | some out=>
  have e:BC (.buildSlice k n z ps) emp H=some (.sl H.next 0 n (.ex n),H.push (.cells out)):=by simp only[BC,hf]
  rw[e]at h
  exact OE (c:=out) (f:=fun r=>.sl r 0 n (.ex n)) (by simp only[FK,hf]) h
end
end
section
variable [BQ] {P:Program}
structure LL (z:Nat) (Pr:Nat->List AV->Prop) (n:Nat) (v:AV):Prop where
 ex:(n=0/\v=.nils)\/∃(css:List (List AV)) (b:Bool),v=.sim css.flatten n b/\css.length=n/\∀i c,css[i]?=some c->c.length=z/\(∀k,Gy k c)/\Pr i c
section
variable {z n:Nat}{Pr Pr':Nat->List AV->Prop}{v:AV}
theorem LL.len (h:LL z Pr n v){K:AV->Prop}(hK:K (iv (n:Int))):AB (.len (.cst v)) K:=by
 rcases h.ex with⟨rfl,rfl⟩ | ⟨css,b,rfl,_⟩<;>exact AA rfl hK
end
theorem Lv.len {k n:Nat}{o:List (Nat × List AV)}{cs:List AV}{v:AV}(h:Lv k o n cs v){K:AV->Prop}(hK:K (iv (n:Int))):AB (.len (.cst v)) K:=by
 cases h<;>exact AA rfl hK
section
variable {H0 H:AH}{L A B o:List (Nat × List AV)}
end
end
section
variable [BQ] {P:Program}
section
variable {H0 H:AH}{L A B o:List (Nat × List AV)}
end
end
section
variable [BQ] {P:Program}
theorem ny {T:Type}{J:T}{A:T->Prop}(Φ:T->Prop) (hJ:Φ J) (ha:∀J,Φ J->A J):Wa J A:=ha J hJ
end
section
variable [BQ] {P:Program}
theorem AQ.sG {g:FuncId}{ar ar':List AV}{H H':AH}{Post:Al->AH->Prop}(R:Nat->Prop) (h:AQ P g ar' H' Post) (ha:B6 H R ar ar') (hn:H'.next=H.next) (hg:H'.gl=H.gl)
  (hH:∀r o,H'.get r=some o->¬R r/\(H.get r=some o\/∃l l',o=.cells l'/\H.get r=some (.cells l)/\B6 H R l l')):AQ P g ar H Post:=by
 refine⟨h.1,fun Z σ w vs hW hv=>?_⟩
 refine(h.2 (VB Z σ H R w) σ w vs (hW.Sr hn hH hg) (B6.sound hW ha hv)).mono fun x w' hx=>?_
 obtain⟨Z',σ',H1,out,g1,g2,g3,g4,g5,g6⟩:=hx
 exact⟨Z',σ',H1,out,(K3 hW).trans g1,by rw[<- hn];exact g2,by rw[<- hn];exact g3,g4,g5,g6⟩
theorem ES.row {H:AH}{R:Nat->Prop}{r n:Nat}{lim:Qe}{l l':List AV}{ex:Bool}(hr:R r) (hc:H.get r=some (.cells l)) (hl:B6 H R l l') (hn:n=0->l=[]) (hx:ex=true->lim=.ex n):ES H R (.sl r 0 n lim) (.sim l' n ex):=by
 refine .sl (l:=l) (m:=l.length) hr (by simp[AH.cells?,hc]) (by omega) ?_ (fun h=>by rw[hn h];rfl) hx
 rw[B5,GU];exact hl
section
variable {H0 H:AH}{L A B o:List (Nat × List AV)}
end
end
section
variable [BQ] {P:Program}
section
variable {H0 H:AH}{L A B o:List (Nat × List AV)}
end
end
end Go.AL
