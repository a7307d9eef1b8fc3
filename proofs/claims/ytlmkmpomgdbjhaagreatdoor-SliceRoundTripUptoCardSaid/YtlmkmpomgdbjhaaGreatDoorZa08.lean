import Derived.Test.YtlmkmpomgdbjhaaGreatDoorZa07
import Derived.Test.YtlmkmpomgdbjhaaGreatDoorProg
/-
  a part of the proof.
-/
set_option linter.unusedSectionVars false
set_option linter.unusedVariables false
set_option linter.unusedSimpArgs false
namespace Go.AL
section
open Co
variable [BX] {P:Program}
theorem Zr:∀(l:List UInt8) (x:UInt8),w8 (l++[x])=w8 l+x.toNat*2 ^ (8*l.length)
 | [],x=>by simp[w8]
 | y::l,x=>by
  show y.toNat+256*w8 (l++[x])=y.toNat+256*w8 l+x.toNat*2 ^ (8*(l.length+1))
  rw[Zr l x,O6,O6 8,Tg]
  have:256*(x.toNat*2 ^ (8*l.length))=x.toNat*(2 ^ (8*l.length)*2 ^ (8*1)):=by
   rw[Gy 256,Nat.mul_assoc]
  omega
theorem Zp:∀(l:List UInt8),w8 l<2 ^ (8*l.length)
 | []=>by simp[w8]
 | y::l=>by
  have h:=Zp l
  have hy:=y.toNat_lt
  show y.toNat+256*w8 l<2 ^ (8*(l.length+1))
  rw[O6 8,Tg]
  have:(2:Nat) ^ (8*1)=256:=by decide
  rw[this]
  omega
def wd (bs:List UInt8) (j:Nat):AV:=.int .u64 ((w8 ((bs.drop (8*j)).take 8):Nat):Int)
def cw (bs:List UInt8):List AV:=[wd bs 0,wd bs 1,wd bs 2,wd bs 3]
theorem dS {bs:List UInt8}{x:UInt8}{j:Nat}(h:j≠bs.length / 8):wd (bs++[x]) j=wd bs j:=by
 unfold wd
 rcases B8 bs.length (8*j)with h1 | h1
 ·rw[Bu (by simp;omega),Bu (by omega)]
 ·have h2:8*j+8<=bs.length:=by omega
  rw[JJ (by omega),Dd (by simp;omega)]
theorem lf {bs:List UInt8}{x:UInt8}{j:Nat}(h:j=bs.length / 8):(bs.drop (8*j)).length=bs.length % 8/\wd (bs++[x]) j=.int .u64 ((w8 ((bs.drop (8*j)).take 8)+x.toNat*2 ^ (8*(bs.length % 8)):Nat):Int):=by
 have h1:(bs.drop (8*j)).length=bs.length % 8:=by simp;omega
 refine⟨h1,?_⟩
 unfold wd
 have h2:((bs++[x]).drop (8*j)).take 8=(bs.drop (8*j)).take 8++[x]:=by
  rw[JJ (by omega),Ac (by rw[Aa,h1];simp;omega),Ac (by omega)]
 have h3:((bs.drop (8*j)).take 8).length=bs.length % 8:=by rw[BI];omega
 rw[h2,Zr,h3]
theorem fY {bs:List UInt8}{x:UInt8}(hl:bs.length<32):As (cw bs) (bs.length / 8) [wd (bs++[x]) (bs.length / 8)]=cw (bs++[x]):=by
 rw[DB (by simp[cw];omega)]
 have hj:bs.length / 8=0\/bs.length / 8=1\/bs.length / 8=2\/bs.length / 8=3:=by omega
 have e:∀j,j≠bs.length / 8->wd (bs++[x]) j=wd bs j:=fun j h=>dS h
 rcases hj with h | h | h | h<;>rw[h]at e ⊢<;>unfold cw
 ·rw[e 1 (by omega),e 2 (by omega),e 3 (by omega)];rfl
 ·rw[e 0 (by omega),e 2 (by omega),e 3 (by omega)];rfl
 ·rw[e 0 (by omega),e 1 (by omega),e 3 (by omega)];rfl
 ·rw[e 0 (by omega),e 1 (by omega),e 2 (by omega)];rfl
theorem WT {bs:List UInt8}{j:Nat}(hj:j<4):(cw bs)[j]?=some (wd bs j):=by
 have:j=0\/j=1\/j=2\/j=3:=by omega
 rcases this with rfl | rfl | rfl | rfl<;>rfl
theorem Ek.si {H0 H:AH}{p q o:Nat}{L:List (Nat × List AV)}{b:List UInt8}{c:List AV}{x:AV}{K:AV->AH->Prop}(s:Ek H0 p ((q,c)::L) H b) (hne:∀x∈L,x.1≠q) (hx:x.cellsOf=some [x]) (ho:o<c.length)
  (hK:∀H',Ek H0 p ((q,As c o [x])::L) H' b->K .unk H'):AQ (.store 1 (.cst (.ptr q o)) (.cst x)) H K:=by
 have hs:As c o [x]=(c.take o++[x])++c.drop (o+1):=by rw[DB (by simp;omega)];simp
 refine Ek.put (pre:=c.take o) (z:=c) (o:=o) (vs:=[x]) (n:=1) ?_ hne (by simp;omega) hx rfl (by omega) fun H' s' _=>hK H' (by rw[hs];exact s')
 rw[Fw];exact s
end
end Go.AL
namespace Go.Proofs.YtlmkmpomgdbjhaaGreatDoor
open Tryz
section
open Go Go.AL Go.AL.Co
variable [BX]
set_option maxHeartbeats 1000000 in
theorem rF:Lc prog 187 BA:=fun{H p b} hR=>by
 obtain⟨res,hres⟩:∃res,res=BA.dec b:=⟨_,rfl⟩
 rw[<- hres]
 have hres:res=many CN 32 b:=hres
 refine uH ?_
 unfold pb
 refine(Ek.start hR).alloc fun q1 H1 s1 _=>s1.alloc fun q H2 s2 hn=>?_
 have hne:q1≠q:=hn _ (.head _)
 let Iv:AV->AV->AV->AV->AH->Prop:=fun a b' c d H'=>a=.ptr p 0/\b'=.ptr q1 0/\c=.ptr q 0/\∃(i:Nat) (bs:List UInt8) (r:List UInt8),d=.int .i64 (i:Int)/\i<=32/\bs.length=i /\
  Ek H p [(q,cw bs),(q1,Bl 4 (N .u64 0) [])] H' r/\res=(many CN (32-i) r).bind fun l2 r'=>.ok (bs++l2) r'
 let μ:AV->AV->AV->AV->AH->Nat:=fun _ _ _ d _=>match d with
  | .int _ j=>(32-j).toNat
  | _=>0
 refine⟨Iv,μ,⟨rfl,rfl,rfl,0,[],b,rfl,by omega,rfl,s2,?_⟩,?_⟩
 ·rw[hres]
  show many CN 32 b=Rs.bind (many CN 32 b) _
  cases many CN 32 b<;>rfl
 intro e H3 hI
 obtain⟨e1,e2,e3,i,bs,r,e4,hi,hbs,s3,hres3⟩:=(hI:Iv (e 0) (e 2) (e 3) (e 5) H3)
 show AB (.bin .lss (.cst (e 5)) (.cst (I 32))) _
 rw[e4,e3,e2,e1]
 refine AA (v:=.bool (decide ((i:Int)<32))) rfl (B3 (fun ht=>?_) (fun ht=>?_))
 ·have hlt:i<32:=by have:=of_decide_eq_true ht;omega
  have hj:i / 8<4:=by omega
  refine AA (v:=.int .i64 ((i / 8:Nat):Int)) (by
   show some (AV.int .i64 (IntKind.i64.wrap ((i:Int).tdiv 8)))=_
   rw[O0 (by omega),DN (by omega)];rfl) ?_
  have hja:(0:Int)<=((i / 8:Nat):Int)/\((i / 8:Nat):Int)<((4:Nat):Int):=by omega
  have hix:AI (.indexAddrA 4 1 (.cst (.ptr q 0)) (.cst (.int .i64 ((i / 8:Nat):Int)))) emp=some (.ptr q (i / 8)):=by
   show(if (0:Int)<=((i / 8:Nat):Int)/\((i / 8:Nat):Int)<((4:Nat):Int)then some (AV.ptr q (0+(((i / 8:Nat):Int)).toNat*1))else none)=_
   rw[if_pos hja,Cp,Fx,Ot]
  refine AA hix (s3.ld (.head _) (WT hj) ?_)
  refine AA (v:=.int .i64 ((i % 8:Nat):Int)) (by
   show some (AV.int .i64 ((i:Int).tmod 8))=_
   rw[Oz (by omega)];rfl) ?_
  refine AA (v:=.int .i64 ((8*(i % 8):Nat):Int)) (by
   show some (AV.int .i64 (IntKind.i64.wrap (8*((i % 8:Nat):Int))))=_
   rw[DN (by omega)];rfl) ?_
  have hni:32-i=(32-(i+1))+1:=by omega
  rw[hni]at hres3
  have hres3:res=((CN r).bind fun x r=>(many CN (32-(i+1)) r).bind fun l r'=>.ok (x::l) r').bind fun l2 r'=>.ok (bs++l2) r':=hres3
  have hres3:res=(CN r).bind fun x r=>(many CN (32-(i+1)) r).bind fun l r'=>.ok (bs++x::l) r':=by
   rw[hres3]
   cases CN r with
   | err e=>rfl
   | ok x r1=>
    show Rs.bind (Rs.bind (many CN (32-(i+1)) r1) _) _=Rs.bind (many CN (32-(i+1)) r1) _
    cases many CN (32-(i+1)) r1<;>rfl
  refine s3.rQ hres3 (fq s3.rd) fun x v r1 H4 s4 hres4 hv=>?_
  subst hv
  refine⟨⟨?_,trivial⟩,?_⟩
  ·obtain⟨_,_,h3⟩:=s4.l _ (.head _)
   show AZ (.load none (.cst (.ptr q (i / 8)))) emp H4=some (wd bs (i / 8))
   have h3:H4.get q=some (.cells (cw bs)):=h3
   have:=WT (bs:=bs) hj
   simp only[AZ,BC,AF.ev,AH.cells?,h3,apart,this]
  have hx:=x.toNat_lt
  obtain⟨w1,w2⟩:=lf (bs:=bs) (x:=x) (j:=i / 8) (by rw[hbs])
  rw[hbs]at w1 w2
  have w3:((bs.drop (8*(i / 8))).take 8).length=i % 8:=by rw[BI];omega
  have w4:=Zp ((bs.drop (8*(i / 8))).take 8)
  rw[w3]at w4
  generalize hW:w8 ((bs.drop (8*(i / 8))).take 8)=W at w2 w4
  have w5:x.toNat*2 ^ (8*(i % 8))<=255*2 ^ (8*(i % 8)):=DW _ (by omega)
  have w6:(2:Nat) ^ (8*(i % 8))<=2 ^ 56:=HU (by omega) (by omega)
  have w7:(2:Nat) ^ 56=72057594037927936:=by decide
  have hwd:wd bs (i / 8)=.int .u64 (.ofNat W):=by unfold wd;rw[hW];rfl
  rw[hwd]
  refine AA (v:=.int .u64 (.ofNat x.toNat)) (by
   show some (AV.int .u64 (IntKind.u64.wrap (x.toNat:Int)))=_
   rw[Fe (by omega)];rfl) ?_
  refine AA (v:=.int .u64 (.ofNat (x.toNat*2 ^ (8*(i % 8))))) (by
   have h1:(0:Int)<=((8*(i % 8):Nat):Int):=KO _
   show(if (0:Int)<=((8*(i % 8):Nat):Int)then some (AV.int .u64 (IntKind.u64.wrap (Int.ofNat x.toNat*2 ^ (min ((8*(i % 8):Nat):Int).toNat IntKind.u64.bits))))else none)=_
   rw[if_pos h1]
   have h2:min ((8*(i % 8):Nat):Int).toNat IntKind.u64.bits=8*(i % 8):=by
    show min (8*(i % 8)) 64=8*(i % 8);omega
   have h3:Int.ofNat x.toNat*2 ^ (8*(i % 8))=((x.toNat*2 ^ (8*(i % 8)):Nat):Int):=by simp
   rw[h2,h3,Fe (by omega)];rfl) ?_
  refine AA (v:=wd (bs++[x]) (i / 8)) (by
   show Dl .or (.int .u64 (.ofNat W)) (.int .u64 (.ofNat (x.toNat*2 ^ (8*(i % 8)))))=_
   rw[gw,aZ w4,w2]
   show some (AV.int .u64 (IntKind.u64.wrap (((W+x.toNat*2 ^ (8*(i % 8))) % 18446744073709551616:Nat):Int)))=_
   rw[C6 (by omega),Fe (by omega)]) ?_
  refine AA hix (s4.si (fun y hy=>?_) rfl (by simp[cw];omega) fun H5 s5=>⟨trivial,?_⟩)
  ·cases hy with
   | head=>exact hne
   | tail _ hy=>cases hy
  have hcs:=fY (bs:=bs) (x:=x) (by omega)
  rw[hbs]at hcs
  rw[hcs]at s5
  refine AA (v:=.int .i64 ((i+1:Nat):Int)) (by
   show some (AV.int .i64 (IntKind.i64.wrap ((i:Int)+1)))=_
   rw[DN (by omega)];rfl) ?_
  refine⟨⟨rfl,rfl,rfl,i+1,bs++[x],r1,rfl,hlt,by simp[hbs],s5,?_⟩,?_⟩
  ·rw[hres4]
   cases many CN (32-(i+1)) r1 with
   | err er=>rfl
   | ok l2 r3=>
    show Rs.ok (bs++x::l2) r3=Rs.ok ((bs++[x])++l2) r3
    rw[Ao];rfl
  ·show((32:Int)-((i+1:Nat):Int)).toNat<μ (e 0) (e 2) (e 3) (e 5) H3
   rw[e4]
   show((32:Int)-((i+1:Nat):Int)).toNat<((32:Int)-(i:Int)).toNat
   omega
 ·have hge:i=32:=by have:=of_decide_eq_false ht;omega
  subst hge
  have hres4:res=.ok bs r:=by rw[hres3];show Rs.ok (bs++[]) r=_;rw[DY];rfl
  refine s3.out hne rfl rfl fun H4 s4=>s4.fin hres4 ⟨_,rfl,hbs,rfl,fun j hj=>WT hj⟩
end
section
open Go Go.AL Go.AL.Co
variable [BX]
theorem uh:Ki prog 126 A4:=fun{H v0 v1 d} h0 h1 hw=>by
 have l0:=QV.lr (t:=.int) h0
 have l1:=QV.lr (t:=.int) h1
 have hw:(Ty.list .int).wf d:=hw
 have hn:GZ ((Cm (t:=.int) d).length:Int):=hw.1
 refine uQ ?_
 unfold pr
 refine EY l0.len l1.len ?_
 refine IF (n:=(Cm (t:=.int) d).length) (by decide) (by decide) (by decide) rfl rfl rfl (Q:=BT H) (BT.refl H) fun i H1 J hi hq hJ=>?_
 refine Dy l0.len (fun hlt=>?_) (fun _=>⟨rfl,hq⟩)
 obtain⟨a,x,a1,a2,a3⟩:=l0.Om rfl hlt
 obtain⟨b,y,b1,b2,b3⟩:=l1.Om rfl hlt
 have a3:[x]=[AV.int .i64 ((Cm (t:=.int) d)[i]'hlt)]:=a3
 have b3:[y]=[AV.int .i64 ((Cm (t:=.int) d)[i]'hlt)]:=b3
 cases a3;cases b3
 refine AA a1 (AX (a2 _) (AA b1 (AX (b2 _) ?_)))
 refine AA (DG _) (BS ?_)
 exact Dx hn hlt (hJ hlt _ hq)
theorem xU:Ki prog 316 A4:=fun{H v0 v1 d} h0 h1 hw=>by
 have l0:=QV.lr (t:=.int) h0
 have l1:=QV.lr (t:=.int) h1
 have hw:(Ty.list .int).wf d:=hw
 have hn:GZ ((Cm (t:=.int) d).length:Int):=hw.1
 refine tj ?_
 unfold pS
 refine EY l0.len l1.len ?_
 refine IF (n:=(Cm (t:=.int) d).length) (by decide) (by decide) (by decide) rfl rfl rfl (Q:=BT H) (BT.refl H) fun i H1 J hi hq hJ=>?_
 refine Dy l0.len (fun hlt=>?_) (fun _=>⟨rfl,hq⟩)
 obtain⟨a,x,a1,a2,a3⟩:=l0.Om rfl hlt
 obtain⟨b,y,b1,b2,b3⟩:=l1.Om rfl hlt
 have a3:[x]=[AV.int .i64 ((Cm (t:=.int) d)[i]'hlt)]:=a3
 have b3:[y]=[AV.int .i64 ((Cm (t:=.int) d)[i]'hlt)]:=b3
 cases a3;cases b3
 refine AA a1 (AX (a2 _) (AA b1 (AX (b2 _) ?_)))
 refine AA (DG _) (BS ?_)
 exact Dx hn hlt (hJ hlt _ hq)
theorem oz:Ki prog 417 (.list .bool):=fun{H v0 v1 d} h0 h1 hw=>by
 have l0:=QV.lr (t:=.bool) h0
 have l1:=QV.lr (t:=.bool) h1
 have hw:(Ty.list .bool).wf d:=hw
 have hn:GZ ((Cm (t:=.bool) d).length:Int):=hw.1
 refine tf ?_
 unfold pO
 refine EY l0.len l1.len ?_
 refine IF (n:=(Cm (t:=.bool) d).length) (by decide) (by decide) (by decide) rfl rfl rfl (Q:=BT H) (BT.refl H) fun i H1 J hi hq hJ=>?_
 refine Dy l0.len (fun hlt=>?_) (fun _=>⟨rfl,hq⟩)
 obtain⟨a,x,a1,a2,a3⟩:=l0.Om rfl hlt
 obtain⟨b,y,b1,b2,b3⟩:=l1.Om rfl hlt
 have a3:[x]=[AV.bool ((Cm (t:=.bool) d)[i]'hlt)]:=a3
 have b3:[y]=[AV.bool ((Cm (t:=.bool) d)[i]'hlt)]:=b3
 cases a3;cases b3
 refine AA a1 (AX (a2 _) (AA b1 (AX (b2 _) ?_)))
 refine AA (fT _) (BS ?_)
 exact Dx hn hlt (hJ hlt _ hq)
theorem vZ:Ki prog 418 (.list Bo):=fun{H v0 v1 d} h0 h1 hw=>by
 have l0:=QV.lr (t:=Bo) h0
 have l1:=QV.lr (t:=Bo) h1
 have hw:(Ty.list Bo).wf d:=hw
 have hn:GZ ((Cm (t:=Bo) d).length:Int):=hw.1
 refine te ?_
 unfold pN
 refine EY l0.len l1.len ?_
 refine IF (n:=(Cm (t:=Bo) d).length) (by decide) (by decide) (by decide) rfl rfl rfl (Q:=BT H) (BT.refl H) fun i H1 J hi hq hJ=>?_
 refine Dy l0.len (fun hlt=>?_) (fun _=>⟨rfl,hq⟩)
 obtain⟨a,x,a1,a2,a3⟩:=l0.Om rfl hlt
 obtain⟨b,y,b1,b2,b3⟩:=l1.Om rfl hlt
 have c0:=(QV.lr (t:=.byte) (l:=(Cm (t:=Bo) d)[i]'hlt) a3).bytes H1
 have c1:=(QV.lr (t:=.byte) (l:=(Cm (t:=Bo) d)[i]'hlt) b3).bytes H1
 refine AA a1 (AX (a2 _) (AX c0 (AA b1 (AX (b2 _) (AX c1 ?_)))))
 refine AA (v:=.bool false) (eX _) (BS ?_)
 exact Dx hn hlt (hJ hlt _ hq)
theorem S72:Ki prog 127 (.list A4):=fun{H v0 v1 d} h0 h1 hw=>by
 have l0:=QV.lr (t:=A4) h0
 have l1:=QV.lr (t:=A4) h1
 have hw:(Ty.list A4).wf d:=hw
 have hn:GZ ((Cm (t:=A4) d).length:Int):=hw.1
 refine uP ?_
 unfold po
 refine EY l0.len l1.len ?_
 refine IF (n:=(Cm (t:=A4) d).length) (by decide) (by decide) (by decide) rfl rfl rfl (Q:=BT H) (BT.refl H) fun i H1 J hi hq hJ=>?_
 refine Dy l0.len (fun hlt=>?_) (fun _=>⟨rfl,hq⟩)
 obtain⟨a,x,a1,a2,a3⟩:=l0.Om rfl hlt
 obtain⟨b,y,b1,b2,b3⟩:=l1.Om rfl hlt
 refine AA a1 (AX (a2 _) (AA b1 (AX (b2 _) ?_)))
 refine(Sm.mk hq (L:=[]) (by simp)).call (uh (d:=(Cm (t:=A4) d)[i]'hlt) a3 b3 (Nn hw hlt)) fun H2 s=>GV (BS ?_)
 exact Dx hn hlt (hJ hlt _ s.k)
theorem fS {n:Int}{x:UInt8}(w:GZ n):AI (.eq true (.wide (true,[(.i .i64),(.i .u8)])) (.cst (.agg ([.int .i64 n]++[bv x]))) (.cst (.agg ([.int .i64 n]++[bv x])))) emp=some (.bool false):=by
 have hx:=x.toNat_lt
 have h1:(Lit.int .i64 n).wf=true:=UY w
 have h2:(Lit.int .u8 (x.toNat:Int)).wf=true:=by
  show(decide ((0:Int)<=(x.toNat:Int))&&decide ((x.toNat:Int)<=255))=true
  simp;omega
 have hk:HO (true,[(.i .i64),(.i .u8)]) (.agg ([.int .i64 n]++[bv x]))=some [.int .i64 n,.int .u8 (x.toNat:Int)]:=by
  simp[HO,Kt,Q6,bv,h1,h2]
 have he:Dq [.int .i64 n,.int .u8 (x.toNat:Int)] [.int .i64 n,.int .u8 (x.toNat:Int)]=true:=C1.2 rfl
 simp only[AI,VY,AF.ev,hk,he];rfl
theorem cH {n:Bool}{x:UInt8}:AI (.eq true (.wide (true,[.b,(.i .u8)])) (.cst (.agg ([.bool n]++[bv x]))) (.cst (.agg ([.bool n]++[bv x])))) emp=some (.bool false):=by
 have hx:=x.toNat_lt
 have h2:(Lit.int .u8 (x.toNat:Int)).wf=true:=by
  show(decide ((0:Int)<=(x.toNat:Int))&&decide ((x.toNat:Int)<=255))=true
  simp;omega
 have hk:HO (true,[.b,(.i .u8)]) (.agg ([.bool n]++[bv x]))=some [.bool n,.int .u8 (x.toNat:Int)]:=by
  simp[HO,Kt,Q6,bv,h2]
 have he:Dq [.bool n,.int .u8 (x.toNat:Int)] [.bool n,.int .u8 (x.toNat:Int)]=true:=C1.2 rfl
 simp only[AI,VY,AF.ev,hk,he];rfl
theorem cJ {a b c d:Nat}(h1:a<2 ^ 64) (h2:b<2 ^ 64) (h3:c<2 ^ 64) (h4:d<2 ^ 64):AI (.eq true (.wide (true,[(.i .u64),(.i .u64),(.i .u64),(.i .u64)])) (.cst (.agg [.int .u64 a,.int .u64 b,.int .u64 c,.int .u64 d])) (.cst (.agg [.int .u64 a,.int .u64 b,.int .u64 c,.int .u64 d]))) emp=some (.bool false):=by
 have hw:∀n:Nat,n<2 ^ 64->(Lit.int .u64 (n:Int)).wf=true:=fun n hn=>by
  show(decide ((0:Int)<=(n:Int))&&decide ((n:Int)<=18446744073709551615))=true
  simp;omega
 have hk:HO (true,[(.i .u64),(.i .u64),(.i .u64),(.i .u64)]) (.agg [.int .u64 a,.int .u64 b,.int .u64 c,.int .u64 d])=some [.int .u64 a,.int .u64 b,.int .u64 c,.int .u64 d]:=by
  simp[HO,Kt,Q6,hw _ h1,hw _ h2,hw _ h3,hw _ h4]
 have he:Dq [.int .u64 a,.int .u64 b,.int .u64 c,.int .u64 d] [.int .u64 a,.int .u64 b,.int .u64 c,.int .u64 d]=true:=C1.2 rfl
 simp only[AI,VY,AF.ev,hk,he];rfl
theorem Nl {d:BA.D}{c:List AV}(h:RC BA d c):c=cw (No (n:=32) d):=by
 obtain⟨_,h2,h3⟩:=h
 have h2:c.length=4:=h2
 match c,h2 with
 | [x0,x1,x2,x3],_=>
  have e0:=h3 0 (by omega)
  have e1:=h3 1 (by omega)
  have e2:=h3 2 (by omega)
  have e3:=h3 3 (by omega)
  simp only[EU,Gf,AD]at e0 e1 e2 e3
  rw[e0,e1,e2,e3];rfl
theorem W5 (bs:List UInt8) (j:Nat):w8 ((bs.drop (8*j)).take 8)<2 ^ 64:=by
 have h:=Zp ((bs.drop (8*j)).take 8)
 have h2:((bs.drop (8*j)).take 8).length<=8:=by simp;omega
 exact DD h (HU (by omega) (by omega))
theorem ve:Ki prog 318 B9:=fun{H v0 v1 d} h0 h1 hw=>by
 have l0:=QV.lr (t:=FG) h0
 have l1:=QV.lr (t:=FG) h1
 have hw:(Ty.list FG).wf d:=hw
 have hn:GZ ((Cm (t:=FG) d).length:Int):=hw.1
 refine th ?_
 unfold pQ
 refine EY l0.len l1.len ?_
 refine IF (n:=(Cm (t:=FG) d).length) (by decide) (by decide) (by decide) rfl rfl rfl (Q:=BT H) (BT.refl H) fun i H1 J hi hq hJ=>?_
 refine Dy l0.len (fun hlt=>?_) (fun _=>⟨rfl,hq⟩)
 obtain⟨a,c,a1,a2,a3,a4,a5⟩:=l0.X1 (k:=2) rfl hlt
 obtain⟨b,c',b1,b2,b3,b4,b5⟩:=l1.X1 (k:=2) rfl hlt
 obtain⟨w1,_⟩:=Nn hw hlt
 obtain⟨_,_,rfl,p1,p2⟩:=a3
 obtain⟨_,_,rfl,q1,q2⟩:=b3
 cases p1;cases p2;cases q1;cases q2
 refine AA a1 (AX (a2 _) (AA b1 (AX (b2 _) ?_)))
 refine AA (v:=.bool false) (fS (w:=w1)) (BS ?_)
 exact Dx hn hlt (hJ hlt _ hq)
theorem o5:Ki prog 416 (.list BA):=fun{H v0 v1 d} h0 h1 hw=>by
 have l0:=QV.lr (t:=BA) h0
 have l1:=QV.lr (t:=BA) h1
 have hw:(Ty.list BA).wf d:=hw
 have hn:GZ ((Cm (t:=BA) d).length:Int):=hw.1
 refine tg ?_
 unfold pP
 refine EY l0.len l1.len ?_
 refine IF (n:=(Cm (t:=BA) d).length) (by decide) (by decide) (by decide) rfl rfl rfl (Q:=BT H) (BT.refl H) fun i H1 J hi hq hJ=>?_
 refine Dy l0.len (fun hlt=>?_) (fun _=>⟨rfl,hq⟩)
 obtain⟨a,c,a1,a2,a3,a4,a5⟩:=l0.X1 (k:=4) rfl hlt
 obtain⟨b,c',b1,b2,b3,b4,b5⟩:=l1.X1 (k:=4) rfl hlt
 have e0:=Nl a3
 have e1:=Nl b3
 subst e0;subst e1
 refine AA a1 (AX (a2 _) (AA b1 (AX (b2 _) ?_)))
 refine AA (v:=.bool false) (cJ (W5 _ 0) (W5 _ 1) (W5 _ 2) (W5 _ 3)) (BS ?_)
 exact Dx hn hlt (hJ hlt _ hq)
theorem rf:Ki prog 208 B9:=fun{H v0 v1 d} h0 h1 hw=>by
 refine tv ?_
 unfold pW
 exact BK (ve h0 h1 hw) (fun v H' h=>h) (fun v H' h=>h)
theorem S74:Ki prog 129 (.list FU):=fun{H v0 v1 d} h0 h1 hw=>by
 have l0:=QV.lr (t:=FU) h0
 have l1:=QV.lr (t:=FU) h1
 have hw:(Ty.list FU).wf d:=hw
 have hn:GZ ((Cm (t:=FU) d).length:Int):=hw.1
 refine uN ?_
 unfold ph
 refine EY l0.len l1.len ?_
 refine IF (n:=(Cm (t:=FU) d).length) (by decide) (by decide) (by decide) rfl rfl rfl (Q:=BT H) (BT.refl H) fun i H1 J hi hq hJ=>?_
 refine Dy l0.len (fun hlt=>?_) (fun _=>⟨rfl,hq⟩)
 obtain⟨a,c,a1,a2,a3,a4,a5⟩:=l0.X1 (k:=2) rfl hlt
 obtain⟨b,c',b1,b2,b3,b4,b5⟩:=l1.X1 (k:=2) rfl hlt
 obtain⟨w1,w2⟩:=Nn hw hlt
 have Fa:=Bj.start a3
 have Fb:=Bj.start b3
 obtain⟨x0,x1,x2⟩:=(Bj.fst Fa).list (t:=FG)
 obtain⟨y0,y1,y2⟩:=(Bj.fst Fb).list (t:=FG)
 obtain⟨x3,x4,x5⟩:=(Bj.snd Fa).list (t:=FG)
 obtain⟨y3,y4,y5⟩:=(Bj.snd Fb).list (t:=FG)
 obtain⟨a6,a7,a8⟩:=a5 0 (by omega)
 obtain⟨b6,b7,b8⟩:=b5 0 (by omega)
 obtain⟨a9,a10,a11⟩:=a5 1 (by omega)
 obtain⟨b9,b10,b11⟩:=b5 1 (by omega)
 refine AA a1 (AA a7 (AX ((a8 _).trans x1) (AA b1 (AA b7 (AX ((b8 _).trans y1) ?_)))))
 refine(Sm.mk hq (L:=[]) (by simp)).call (rf x2 y2 w1) fun H2 s=>GV (Hd ?_)
 refine AA a1 (AA a10 (AX ((a11 _).trans x4) (AA b1 (AA b10 (AX ((b11 _).trans y4) ?_)))))
 refine s.call (rf x5 y5 w2) fun H3 s=>GV (AA (v:=.bool false) rfl (BS ?_))
 exact Dx hn hlt (hJ hlt _ s.k)
set_option maxHeartbeats 1000000 in
theorem S73:Ki prog 128 (.list DF):=fun{H v0 v1 d} h0 h1 hw=>by
 have l0:=QV.lr (t:=DF) h0
 have l1:=QV.lr (t:=DF) h1
 have hw:(Ty.list DF).wf d:=hw
 have hn:GZ ((Cm (t:=DF) d).length:Int):=hw.1
 refine uO ?_
 unfold pj
 refine EY l0.len l1.len ?_
 refine IF (n:=(Cm (t:=DF) d).length) (by decide) (by decide) (by decide) rfl rfl rfl (Q:=BT H) (BT.refl H) fun i H1 J hi hq hJ=>?_
 refine Dy l0.len (fun hlt=>?_) (fun _=>⟨rfl,hq⟩)
 obtain⟨a,c,a1,a2,a3,a4,a5⟩:=l0.X1 (k:=8) rfl hlt
 obtain⟨b,c',b1,b2,b3,b4,b5⟩:=l1.X1 (k:=8) rfl hlt
 obtain⟨w0,w1,w2⟩:=Nn hw hlt
 have Fa0:=Bj.start a3
 have Fb0:=Bj.start b3
 have Fa1:=Bj.snd Fa0
 have Fb1:=Bj.snd Fb0
 have Fa2:=Bj.snd Fa1
 have Fb2:=Bj.snd Fb1
 have Fa3:=Bj.snd Fa2
 have Fb3:=Bj.snd Fb2
 have Fa4:=Bj.snd Fa3
 have Fb4:=Bj.snd Fb3
 have Fa5:=Bj.snd Fa4
 have Fb5:=Bj.snd Fb4
 have Fa6:=Bj.snd Fa5
 have Fb6:=Bj.snd Fb5
 have Fa7:=Bj.snd Fa6
 have Fb7:=Bj.snd Fb6
 have gx0:=(Bj.fst Fa0).int
 have gy0:=(Bj.fst Fb0).int
 obtain⟨x1,gx1,rx1⟩:=(Bj.fst Fa1).list (t:=.int)
 obtain⟨y1,gy1,ry1⟩:=(Bj.fst Fb1).list (t:=.int)
 have gx2:=(Bj.fst Fa2).int
 have gy2:=(Bj.fst Fb2).int
 have gx3:=(Bj.fst Fa3).int
 have gy3:=(Bj.fst Fb3).int
 have gx4:=(Bj.fst Fa4).int
 have gy4:=(Bj.fst Fb4).int
 have gx5:=(Bj.fst Fa5).int
 have gy5:=(Bj.fst Fb5).int
 have gx6:=(Bj.fst Fa6).int
 have gy6:=(Bj.fst Fb6).int
 have gx7:=Fa7.int
 have gy7:=Fb7.int
 have hz:((I 0)::(.nils::(Bl 6 (I 0) []))).length=8:=rfl
 refine AA a1 (AX (a2 _) ((Sm.mk hq (L:=[]) (by simp)).copy hz a4 fun q H2 s2=>?_))
 refine AA b1 (AX (b2 _) (s2.copy hz b4 fun q' H3 s3=>?_))
 refine AA (v:=.ptr q 0) rfl (s3.ld (.tail _ (.head _)) gx0 (AA (v:=.ptr q' 0) rfl (s3.ld (.head _) gy0 ?_)))
 refine AA (DG _) ?_
 refine Hd (AA (v:=.ptr q 1) rfl (s3.ld (.tail _ (.head _)) gx1 (AA (v:=.ptr q' 1) rfl (s3.ld (.head _) gy1 ?_))))
 refine s3.call (uh rx1 ry1 w1) fun H4 s4=>GV (AA (v:=.bool false) rfl ?_)
 refine Hd (AA (v:=.ptr q 2) rfl (s4.ld (.tail _ (.head _)) gx2 (AA (v:=.ptr q' 2) rfl (s4.ld (.head _) gy2 ?_))))
 refine AA (DG _) (AA (v:=.bool false) rfl ?_)
 refine Hd (AA (v:=.ptr q 3) rfl (s4.ld (.tail _ (.head _)) gx3 (AA (v:=.ptr q' 3) rfl (s4.ld (.head _) gy3 ?_))))
 refine AA (DG _) (AA (v:=.bool false) rfl ?_)
 refine Hd (AA (v:=.ptr q 4) rfl (s4.ld (.tail _ (.head _)) gx4 (AA (v:=.ptr q' 4) rfl (s4.ld (.head _) gy4 ?_))))
 refine AA (DG _) (AA (v:=.bool false) rfl ?_)
 refine Hd (AA (v:=.ptr q 5) rfl (s4.ld (.tail _ (.head _)) gx5 (AA (v:=.ptr q' 5) rfl (s4.ld (.head _) gy5 ?_))))
 refine AA (DG _) (AA (v:=.bool false) rfl ?_)
 refine Hd (AA (v:=.ptr q 6) rfl (s4.ld (.tail _ (.head _)) gx6 (AA (v:=.ptr q' 6) rfl (s4.ld (.head _) gy6 ?_))))
 refine AA (DG _) (AA (v:=.bool false) rfl ?_)
 refine Hd (AA (v:=.ptr q 7) rfl (s4.ld (.tail _ (.head _)) gx7 (AA (v:=.ptr q' 7) rfl (s4.ld (.head _) gy7 ?_))))
 refine AA (DG _) (AA (v:=.bool false) rfl ?_)
 exact BS (Dx hn hlt (hJ hlt _ s4.k))
end
end Go.Proofs.YtlmkmpomgdbjhaaGreatDoor
namespace Go.AL
section
open Co
variable [BX]
def YI:Ty:=.pair (.list BA) (.pair (.list A4) (.list .bool))
def RL:Ty:=.pair (.list BA) (.pair (.list (.list CA)) (.pair (.list .bool) (.list Bo)))
theorem gE {c:List AV}{o:Nat}{x y z:AV}(h1:c[o]?=some x) (h2:c[o+1]?=some y) (h3:c[o+2]?=some z):(c.drop o).take 3=[x,y,z]/\o+3<=c.length:=by
 obtain⟨a1,a2⟩:=BU.1 h1
 obtain⟨b1,b2⟩:=BU.1 h2
 obtain⟨c1,c2⟩:=BU.1 h3
 refine⟨?_,by omega⟩
 rw[C8 a1,C8 b1,C8 c1,a2,b2,c2];rfl
theorem gD {c:List AV}{o:Nat}{x y z u:AV}(h1:c[o]?=some x) (h2:c[o+1]?=some y) (h3:c[o+2]?=some z) (h4:c[o+3]?=some u):(c.drop o).take 4=[x,y,z,u]/\o+4<=c.length:=by
 obtain⟨a1,a2⟩:=BU.1 h1
 obtain⟨b1,b2⟩:=BU.1 h2
 obtain⟨c1,c2⟩:=BU.1 h3
 obtain⟨d1,d2⟩:=BU.1 h4
 refine⟨?_,by omega⟩
 rw[C8 a1,C8 b1,C8 c1,C8 d1,a2,b2,c2,d2];rfl
theorem QV.rc {t:Ty}{l:(Ty.list t).D}{v:AV}(h:QV (.list t) l v):RC (.list t) l [v]:=h
end
end Go.AL
namespace Go.Proofs.YtlmkmpomgdbjhaaGreatDoor
open Tryz
section
open Go Go.AL Go.AL.Co
variable [BX]
theorem vY:Ki prog 419 CA:=fun{H v0 v1 d} h0 h1 hw=>by
 obtain⟨c,rfl,r1⟩:=h0
 obtain⟨c',rfl,r2⟩:=h1
 obtain⟨w1,w2⟩:=hw
 have F:=Bj.start r1
 have F':=Bj.start r2
 have gx0:=(Bj.fst F).int
 have gy0:=(Bj.fst F').int
 obtain⟨x1,gx1,rx1⟩:=(Bj.snd F).list (t:=EP)
 obtain⟨y1,gy1,ry1⟩:=(Bj.snd F').list (t:=EP)
 have lx:=rx1.lr
 have ly:=ry1.lr
 have hn:GZ ((Cm (t:=EP) d.2).length:Int):=w2.1
 refine td ?_
 unfold pM
 refine(Sm.start H).box (c:=c) rfl fun q H1 s1=>s1.box (c:=c') rfl fun q' H2 s2=>?_
 refine AA (v:=.ptr q 0) rfl (s2.ld (.tail _ (.head _)) gx0 (AA (v:=.ptr q' 0) rfl (s2.ld (.head _) gy0 ?_)))
 refine AA (DG _) (Hd ?_)
 refine AA (v:=.ptr q 1) rfl (s2.ld (.tail _ (.head _)) gx1 (AA lx.len (AA (v:=.ptr q' 1) rfl (s2.ld (.head _) gy1 (AA ly.len ?_)))))
 refine AA (DG _) (AA (v:=.bool false) rfl (BS ?_))
 refine IF (n:=(Cm (t:=EP) d.2).length) (by decide) (by decide) (by decide) rfl rfl rfl (Q:=Sm H [(q',c'),(q,c)]) s2 fun i H3 J hi s hJ=>?_
 refine AA (v:=.ptr q 1) rfl (s.ld (.tail _ (.head _)) gx1 (Dy lx.len (fun hlt=>?_) (fun _=>s.fin)))
 obtain⟨a,e,a1,a2,a3,a4,a5⟩:=lx.X1 (k:=2) rfl hlt
 obtain⟨b,e',b1,b2,b3,b4,b5⟩:=ly.X1 (k:=2) rfl hlt
 obtain⟨_,_,rfl,p1,p2⟩:=a3
 obtain⟨_,_,rfl,q1,q2⟩:=b3
 cases p1;cases p2;cases q1;cases q2
 refine AA (v:=.ptr q 1) rfl (s.ld (.tail _ (.head _)) gx1 (AA a1 (AX (a2 _) (AA (v:=.ptr q' 1) rfl (s.ld (.head _) gy1 (AA b1 (AX (b2 _) ?_)))))))
 refine AA (v:=.bool false) cH (BS ?_)
 exact Dx hn hlt (hJ hlt _ s)
theorem S96:Ki prog 315 YI:=fun{H v0 v1 d} h0 h1 hw=>by
 obtain⟨c,rfl,r1⟩:=h0
 obtain⟨c',rfl,r2⟩:=h1
 obtain⟨w1,w2,w3⟩:=hw
 have F:=Bj.start r1
 have F':=Bj.start r2
 obtain⟨x0,gx0,rx0⟩:=(Bj.fst F).list (t:=BA)
 obtain⟨y0,gy0,ry0⟩:=(Bj.fst F').list (t:=BA)
 obtain⟨x1,gx1,rx1⟩:=(Bj.fst (Bj.snd F)).list (t:=A4)
 obtain⟨y1,gy1,ry1⟩:=(Bj.fst (Bj.snd F')).list (t:=A4)
 obtain⟨x2,gx2,rx2⟩:=(Bj.snd (Bj.snd F)).list (t:=.bool)
 obtain⟨y2,gy2,ry2⟩:=(Bj.snd (Bj.snd F')).list (t:=.bool)
 have lx:=rx1.lr
 have ly:=ry1.lr
 have hn:GZ ((Cm (t:=A4) d.2.1).length:Int):=w2.1
 refine tk ?_
 unfold pT
 refine(Sm.start H).box (c:=c) rfl fun q H1 s1=>s1.box (c:=c') rfl fun q' H2 s2=>?_
 refine AA (v:=.ptr q 0) rfl (s2.ld (.tail _ (.head _)) gx0 (AA (v:=.ptr q' 0) rfl (s2.ld (.head _) gy0 ?_)))
 refine s2.call (o5 rx0 ry0 w1) fun H3 s3=>GV (Hd ?_)
 refine AA (v:=.ptr q 2) rfl (s3.ld (.tail _ (.head _)) gx2 (AA (v:=.ptr q' 2) rfl (s3.ld (.head _) gy2 ?_)))
 refine s3.call (oz rx2 ry2 w3) fun H4 s4=>GV (AA (v:=.bool false) rfl (Hd ?_))
 refine AA (v:=.ptr q 1) rfl (s4.ld (.tail _ (.head _)) gx1 (AA lx.len (AA (v:=.ptr q' 1) rfl (s4.ld (.head _) gy1 (AA ly.len ?_)))))
 refine AA (DG _) (AA (v:=.bool false) rfl (BS ?_))
 refine IF (n:=(Cm (t:=A4) d.2.1).length) (by decide) (by decide) (by decide) rfl rfl rfl (Q:=Sm H [(q',c'),(q,c)]) s4 fun i H5 J hi s hJ=>?_
 refine AA (v:=.ptr q 1) rfl (s.ld (.tail _ (.head _)) gx1 (Dy lx.len (fun hlt=>?_) (fun _=>s.fin)))
 obtain⟨a,e,a1,a2,a3⟩:=lx.Om rfl hlt
 obtain⟨b,e',b1,b2,b3⟩:=ly.Om rfl hlt
 refine AA (v:=.ptr q 1) rfl (s.ld (.tail _ (.head _)) gx1 (AA a1 (AX (a2 _) (AA (v:=.ptr q' 1) rfl (s.ld (.head _) gy1 (AA b1 (AX (b2 _) ?_)))))))
 refine s.call (xU (d:=(Cm (t:=A4) d.2.1)[i]'hlt) a3 b3 (Nn w2 hlt)) fun H6 s6=>GV (BS ?_)
 exact Dx hn hlt (hJ hlt _ s6)
theorem S98:Ki prog 317 RL:=fun{H v0 v1 d} h0 h1 hw=>by
 obtain⟨c,rfl,r1⟩:=h0
 obtain⟨c',rfl,r2⟩:=h1
 obtain⟨w1,w2,w3,w4⟩:=hw
 have F:=Bj.start r1
 have F':=Bj.start r2
 obtain⟨x0,gx0,rx0⟩:=(Bj.fst F).list (t:=BA)
 obtain⟨y0,gy0,ry0⟩:=(Bj.fst F').list (t:=BA)
 obtain⟨x1,gx1,rx1⟩:=(Bj.fst (Bj.snd F)).list (t:=.list CA)
 obtain⟨y1,gy1,ry1⟩:=(Bj.fst (Bj.snd F')).list (t:=.list CA)
 obtain⟨x2,gx2,rx2⟩:=(Bj.fst (Bj.snd (Bj.snd F))).list (t:=.bool)
 obtain⟨y2,gy2,ry2⟩:=(Bj.fst (Bj.snd (Bj.snd F'))).list (t:=.bool)
 obtain⟨x3,gx3,rx3⟩:=(Bj.snd (Bj.snd (Bj.snd F))).list (t:=Bo)
 obtain⟨y3,gy3,ry3⟩:=(Bj.snd (Bj.snd (Bj.snd F'))).list (t:=Bo)
 have lx:=rx1.lr
 have ly:=ry1.lr
 have hn:GZ ((Cm (t:=.list CA) d.2.1).length:Int):=w2.1
 refine ti ?_
 unfold pR
 refine(Sm.start H).box (c:=c) rfl fun q H1 s1=>s1.box (c:=c') rfl fun q' H2 s2=>?_
 refine AA (v:=.ptr q 0) rfl (s2.ld (.tail _ (.head _)) gx0 (AA (v:=.ptr q' 0) rfl (s2.ld (.head _) gy0 ?_)))
 refine s2.call (o5 rx0 ry0 w1) fun H3 s3=>GV (Hd ?_)
 refine AA (v:=.ptr q 2) rfl (s3.ld (.tail _ (.head _)) gx2 (AA (v:=.ptr q' 2) rfl (s3.ld (.head _) gy2 ?_)))
 refine s3.call (oz rx2 ry2 w3) fun H4 s4=>GV (AA (v:=.bool false) rfl (Hd ?_))
 refine AA (v:=.ptr q 3) rfl (s4.ld (.tail _ (.head _)) gx3 (AA (v:=.ptr q' 3) rfl (s4.ld (.head _) gy3 ?_)))
 refine s4.call (vZ rx3 ry3 w4) fun H4 s4=>GV (AA (v:=.bool false) rfl (Hd ?_))
 refine AA (v:=.ptr q 1) rfl (s4.ld (.tail _ (.head _)) gx1 (AA lx.len (AA (v:=.ptr q' 1) rfl (s4.ld (.head _) gy1 (AA ly.len ?_)))))
 refine AA (DG _) (AA (v:=.bool false) rfl (BS ?_))
 refine IF (n:=(Cm (t:=.list CA) d.2.1).length) (by decide) (by decide) (by decide) rfl rfl rfl (Q:=Sm H [(q',c'),(q,c)]) s4 fun i H5 J hi s hJ=>?_
 refine AA (v:=.ptr q 1) rfl (s.ld (.tail _ (.head _)) gx1 (Dy lx.len (fun hlt=>?_) (fun _=>s.fin)))
 obtain⟨a,e,a1,a2,a3⟩:=lx.Om rfl hlt
 obtain⟨b,e',b1,b2,b3⟩:=ly.Om rfl hlt
 have mx:=UU a3
 have my:=UU b3
 obtain⟨l,hl⟩:∃l:(Ty.list CA).D,l=(Cm (t:=.list CA) d.2.1)[i]'hlt:=⟨_,rfl⟩
 have wl:=Nn w2 hlt
 rw[<- hl]at mx my wl
 have hm:GZ ((Cm (t:=CA) l).length:Int):=wl.1
 refine AA (v:=.ptr q 1) rfl (s.ld (.tail _ (.head _)) gx1 (AA a1 (AX (a2 _) (AA mx.len (AA (v:=.ptr q' 1) rfl (s.ld (.head _) gy1 (AA b1 (AX (b2 _) (AA my.len ?_)))))))))
 refine AA (DG _) (BS ?_)
 refine nE (n:=(Cm (t:=CA) l).length) (by decide) (by decide) (by decide) (by decide) (by decide) (by decide) rfl rfl rfl rfl (Q:=Sm H [(q',c'),(q,c)]) s fun j H6 J2 hj s6 hJ2=>?_
 refine AA (v:=.ptr q 1) rfl (s6.ld (.tail _ (.head _)) gx1 (AA a1 (AX (a2 _) (Dy mx.len (fun hlt2=>?_) (fun _=>?_)))))
 ·obtain⟨u,f,u1,u2,u3,u4,u5⟩:=mx.X1 (k:=2) rfl hlt2
  obtain⟨u',f',v1,v2,v3,v4,v5⟩:=my.X1 (k:=2) rfl hlt2
  refine AA (v:=.ptr q 1) rfl (s6.ld (.tail _ (.head _)) gx1 (AA a1 (AX (a2 _) (AA u1 (AX (u2 _) ?_)))))
  refine AA (v:=.ptr q' 1) rfl (s6.ld (.head _) gy1 (AA b1 (AX (b2 _) (AA v1 (AX (v2 _) ?_)))))
  refine s6.call (vY (d:=(Cm (t:=CA) l)[j]'hlt2) ⟨_,rfl,u3⟩ ⟨_,rfl,v3⟩ (Nn wl hlt2)) fun H7 s7=>GV (BS ?_)
  exact Dx hm hlt2 (hJ2 hlt2 _ s7)
 ·exact Dx hn hlt (hJ hlt _ s6)
theorem tI {a b c d:Int}{e:Bool}(h1:GZ a) (h2:GZ b) (h3:GZ c) (h4:GZ d):AI (.eq false (.wide (true,[(.i .i64),(.i .i64),(.i .i64),(.i .i64),.b])) (.cst (.agg [.int .i64 a,.int .i64 b,.int .i64 c,.int .i64 d,.bool e])) (.cst (.agg [.int .i64 a,.int .i64 b,.int .i64 c,.int .i64 d,.bool e]))) emp=some (.bool true):=by
 have hk:HO (true,[(.i .i64),(.i .i64),(.i .i64),(.i .i64),.b]) (.agg [.int .i64 a,.int .i64 b,.int .i64 c,.int .i64 d,.bool e])=some [.int .i64 a,.int .i64 b,.int .i64 c,.int .i64 d,.bool e]:=by
  simp[HO,Kt,Q6,UY h1,UY h2,UY h3,UY h4]
 have he:Dq [.int .i64 a,.int .i64 b,.int .i64 c,.int .i64 d,.bool e] [.int .i64 a,.int .i64 b,.int .i64 c,.int .i64 d,.bool e]=true:=C1.2 rfl
 simp only[AI,VY,AF.ev,hk,he];rfl
theorem XL {d:tQ.D}{c:List AV}(h:RC tQ d c):c=[.int .i64 d.1,.int .i64 d.2.1,.int .i64 d.2.2.1,.int .i64 d.2.2.2.1,.bool d.2.2.2.2]:=by
 obtain⟨_,_,rfl,p1,_,_,rfl,p2,_,_,rfl,p3,_,_,rfl,p4,p5⟩:=h
 cases p1;cases p2;cases p3;cases p4;cases p5;rfl
structure SN (d:FF.D) (c:List AV):Prop where
 f0:c[0]?=some (.int .i64 d.1)
 f1:∃x,c[1]?=some x/\QV B9 d.2.1 x
 f2:∃x,c[2]?=some x/\QV B9 d.2.2.1 x
 f3:∃x,c[3]?=some x/\QV (.list BA) d.2.2.2.1 x
 f4:∃x,c[4]?=some x/\QV (.list A4) d.2.2.2.2.1 x
 f5:∃x,c[5]?=some x/\QV (.list .bool) d.2.2.2.2.2.1 x
 f6:∃x,c[6]?=some x/\QV A4 d.2.2.2.2.2.2.1 x
 f7:c[7]?=some (.int .i64 d.2.2.2.2.2.2.2.1)
 f8:∃x,c[8]?=some x/\QV (.list BA) d.2.2.2.2.2.2.2.2.1 x
 f9:∃x,c[9]?=some x/\QV (.list (.list CA)) d.2.2.2.2.2.2.2.2.2.1 x
 f10:∃x,c[10]?=some x/\QV (.list .bool) d.2.2.2.2.2.2.2.2.2.2.1 x
 f11:∃x,c[11]?=some x/\QV (.list Bo) d.2.2.2.2.2.2.2.2.2.2.2.1 x
 f12:∃c1,(c.drop 12).take 5=c1/\12+5<=c.length/\RC tQ d.2.2.2.2.2.2.2.2.2.2.2.2.1 c1
 f13:c[17]?=some (.int .i64 d.2.2.2.2.2.2.2.2.2.2.2.2.2.1)
theorem nF {d:FF.D}{c:List AV}(h:RC FF d c):SN d c/\c[18]?=some (.bool d.2.2.2.2.2.2.2.2.2.2.2.2.2.2)/\c.length=19:=by
 have hl:=GY _ _ _ h
 have F0:=Bj.start h
 have F1:=Bj.snd F0
 have F2:=Bj.snd F1
 have F3:=Bj.snd F2
 have F4:=Bj.snd F3
 have F5:=Bj.snd F4
 have F6:=Bj.snd F5
 have F7:=Bj.snd F6
 have F8:=Bj.snd F7
 have F9:=Bj.snd F8
 have F10:=Bj.snd F9
 have F11:=Bj.snd F10
 have F12:=Bj.snd F11
 have F13:=Bj.snd F12
 have F14:=Bj.snd F13
 exact⟨⟨(Bj.fst F0).int,(Bj.fst F1).list (t:=FG),(Bj.fst F2).list (t:=FG),(Bj.fst F3).list (t:=BA),(Bj.fst F4).list (t:=A4),(Bj.fst F5).list (t:=.bool),(Bj.fst F6).list (t:=.int),(Bj.fst F7).int,(Bj.fst F8).list (t:=BA),(Bj.fst F9).list (t:=.list CA),(Bj.fst F10).list (t:=.bool),(Bj.fst F11).list (t:=Bo),(by obtain⟨c1,e1,_,e2,e3⟩:=(Bj.fst F12).agg;exact⟨c1,e1,e2,e3⟩),(Bj.fst F13).int⟩,F14.bool,hl⟩
theorem SN.take {d:FF.D}{c:List AV}(h:SN d c) (hl:c.length=19):SN d (c.take 18):=by
 have e:∀(i:Nat) (x:AV),i<18->c[i]?=some x->(c.take 18)[i]?=some x:=fun i x hi hx=>by rw[EE,if_pos hi];exact hx
 exact⟨e _ _ (by omega) h.f0,h.f1.imp fun x hx=>⟨e _ _ (by omega) hx.1,hx.2⟩,h.f2.imp fun x hx=>⟨e _ _ (by omega) hx.1,hx.2⟩,h.f3.imp fun x hx=>⟨e _ _ (by omega) hx.1,hx.2⟩,h.f4.imp fun x hx=>⟨e _ _ (by omega) hx.1,hx.2⟩,h.f5.imp fun x hx=>⟨e _ _ (by omega) hx.1,hx.2⟩,h.f6.imp fun x hx=>⟨e _ _ (by omega) hx.1,hx.2⟩,e _ _ (by omega) h.f7,h.f8.imp fun x hx=>⟨e _ _ (by omega) hx.1,hx.2⟩,h.f9.imp fun x hx=>⟨e _ _ (by omega) hx.1,hx.2⟩,h.f10.imp fun x hx=>⟨e _ _ (by omega) hx.1,hx.2⟩,h.f11.imp fun x hx=>⟨e _ _ (by omega) hx.1,hx.2⟩,(by obtain⟨c1,e1,e2,e3⟩:=h.f12;exact⟨c1,by rw[E9,EH];exact e1,by simp;omega,e3⟩),e _ _ (by omega) h.f13⟩
set_option maxHeartbeats 1000000 in
theorem u_ {H:AH}{d:FF.D}{c c':List AV}(F:SN d c) (F':SN d c') (hw:FF.wf d):AP prog 207 [.agg c,.agg c'] H (X5 H):=by
 obtain⟨w0,w1,w2,w3,w4,w5,w6,w7,w8,w9,w10,w11,w12,w13,w14⟩:=hw
 have gx0:=F.f0
 have gy0:=F'.f0
 obtain⟨x1,gx1,rx1⟩:=F.f1
 obtain⟨y1,gy1,ry1⟩:=F'.f1
 obtain⟨x2,gx2,rx2⟩:=F.f2
 obtain⟨y2,gy2,ry2⟩:=F'.f2
 obtain⟨x3,gx3,rx3⟩:=F.f3
 obtain⟨y3,gy3,ry3⟩:=F'.f3
 obtain⟨x4,gx4,rx4⟩:=F.f4
 obtain⟨y4,gy4,ry4⟩:=F'.f4
 obtain⟨x5,gx5,rx5⟩:=F.f5
 obtain⟨y5,gy5,ry5⟩:=F'.f5
 obtain⟨x6,gx6,rx6⟩:=F.f6
 obtain⟨y6,gy6,ry6⟩:=F'.f6
 have gx7:=F.f7
 have gy7:=F'.f7
 obtain⟨x8,gx8,rx8⟩:=F.f8
 obtain⟨y8,gy8,ry8⟩:=F'.f8
 obtain⟨x9,gx9,rx9⟩:=F.f9
 obtain⟨y9,gy9,ry9⟩:=F'.f9
 obtain⟨x10,gx10,rx10⟩:=F.f10
 obtain⟨y10,gy10,ry10⟩:=F'.f10
 obtain⟨x11,gx11,rx11⟩:=F.f11
 obtain⟨y11,gy11,ry11⟩:=F'.f11
 obtain⟨x12,gx12,hx12,rx12⟩:=F.f12
 obtain⟨y12,gy12,hy12,ry12⟩:=F'.f12
 have gx13:=F.f13
 have gy13:=F'.f13
 obtain⟨tx3,ux3⟩:=gE gx3 gx4 gx5
 obtain⟨ty3,uy3⟩:=gE gy3 gy4 gy5
 obtain⟨tx8,ux8⟩:=gD gx8 gx9 gx10 gx11
 obtain⟨ty8,uy8⟩:=gD gy8 gy9 gy10 gy11
 have ex:=XL rx12
 have ey:=XL ry12
 subst ex;subst ey
 obtain⟨wa,wb,wc,wd,_⟩:=w12
 have rx3:QV YI (d.2.2.2.1,d.2.2.2.2.1,d.2.2.2.2.2.1) (.agg [x3,x4,x5]):=⟨_,rfl,[x3],[x4,x5],rfl,rx3.rc,[x4],[x5],rfl,rx4.rc,rx5.rc⟩
 have ry3:QV YI (d.2.2.2.1,d.2.2.2.2.1,d.2.2.2.2.2.1) (.agg [y3,y4,y5]):=⟨_,rfl,[y3],[y4,y5],rfl,ry3.rc,[y4],[y5],rfl,ry4.rc,ry5.rc⟩
 have rx8:QV RL (d.2.2.2.2.2.2.2.2.1,d.2.2.2.2.2.2.2.2.2.1,d.2.2.2.2.2.2.2.2.2.2.1,d.2.2.2.2.2.2.2.2.2.2.2.1) (.agg [x8,x9,x10,x11]):=⟨_,rfl,[x8],[x9,x10,x11],rfl,rx8.rc,[x9],[x10,x11],rfl,rx9.rc,[x10],[x11],rfl,rx10.rc,rx11.rc⟩
 have ry8:QV RL (d.2.2.2.2.2.2.2.2.1,d.2.2.2.2.2.2.2.2.2.1,d.2.2.2.2.2.2.2.2.2.2.1,d.2.2.2.2.2.2.2.2.2.2.2.1) (.agg [y8,y9,y10,y11]):=⟨_,rfl,[y8],[y9,y10,y11],rfl,ry8.rc,[y9],[y10,y11],rfl,ry9.rc,[y10],[y11],rfl,ry10.rc,ry11.rc⟩
 refine tw ?_
 unfold pX
 refine(Sm.start H).box (c:=c) rfl fun q H1 s1=>s1.box (c:=c') rfl fun q' H2 s2=>?_
 refine AA (v:=.ptr q 0) rfl (s2.ld (.tail _ (.head _)) gx0 (AA (v:=.ptr q' 0) rfl (s2.ld (.head _) gy0 ?_)))
 refine AA (HD _) ?_
 refine GJ (AA (v:=.ptr q 1) rfl (s2.ld (.tail _ (.head _)) gx1 (AA (v:=.ptr q' 1) rfl (s2.ld (.head _) gy1 ?_))))
 refine s2.call (rf rx1 ry1 w1) fun H3 s3=>AA (v:=.bool true) rfl ?_
 refine GJ (AA (v:=.ptr q 2) rfl (s3.ld (.tail _ (.head _)) gx2 (AA (v:=.ptr q' 2) rfl (s3.ld (.head _) gy2 ?_))))
 refine s3.call (rf rx2 ry2 w2) fun H4 s4=>AA (v:=.bool true) rfl ?_
 refine GJ (AA (v:=.ptr q 3) rfl (s4.Hc (.tail _ (.head _)) tx3 ux3 (AA (v:=.ptr q' 3) rfl (s4.Hc (.head _) ty3 uy3 ?_))))
 refine s4.call (S96 rx3 ry3 ⟨w3,w4,w5⟩) fun H5 s5=>AA (v:=.bool true) rfl ?_
 refine GJ (AA (v:=.ptr q 6) rfl (AA (v:=.ptr q 6) rfl (s5.ld (.tail _ (.head _)) gx6 (AA (v:=.ptr q' 6) rfl (AA (v:=.ptr q' 6) rfl (s5.ld (.head _) gy6 ?_))))))
 refine s5.call (xU rx6 ry6 w6) fun H6 s6=>AA (v:=.bool true) rfl ?_
 refine GJ (AA (v:=.ptr q 6) rfl (AA (v:=.ptr q 7) rfl (s6.ld (.tail _ (.head _)) gx7 (AA (v:=.ptr q' 6) rfl (AA (v:=.ptr q' 7) rfl (s6.ld (.head _) gy7 ?_))))))
 refine AA (HD _) (AA (v:=.bool true) rfl ?_)
 refine GJ (AA (v:=.ptr q 8) rfl (s6.Hc (.tail _ (.head _)) tx8 ux8 (AA (v:=.ptr q' 8) rfl (s6.Hc (.head _) ty8 uy8 ?_))))
 refine s6.call (S98 rx8 ry8 ⟨w8,w9,w10,w11⟩) fun H7 s7=>AA (v:=.bool true) rfl ?_
 refine GJ (AA (v:=.ptr q 12) rfl (s7.Hc (.tail _ (.head _)) gx12 hx12 (AA (v:=.ptr q' 12) rfl (s7.Hc (.head _) gy12 hy12 ?_))))
 refine AA (tI wa wb wc wd) (AA (v:=.bool true) rfl ?_)
 refine GJ (AA (v:=.ptr q 17) rfl (s7.ld (.tail _ (.head _)) gx13 (AA (v:=.ptr q' 17) rfl (s7.ld (.head _) gy13 ?_))))
 refine AA (HD _) (AA (v:=.bool true) rfl ?_)
 exact s7.fin
end
end Go.Proofs.YtlmkmpomgdbjhaaGreatDoor
namespace Go.AL
section
variable [BX] {P:Program}
section
variable {K:AV->Prop}{a b:Int}
theorem Dk (ht:a<b->K (.bool true)) (hf:¬a<b->K (.bool false)):AB (.bin .lss (.cst (iv a)) (.cst (iv b))) K:=gH (by
 by_cases h:a<b
 ·rw[decide_eq_true h];exact ht h
 ·rw[decide_eq_false h];exact hf h)
theorem Xz (ht:b<a->K (.bool true)) (hf:¬b<a->K (.bool false)):AB (.bin .gtr (.cst (iv a)) (.cst (iv b))) K:=mG (by
 by_cases h:b<a
 ·rw[decide_eq_true h];exact ht h
 ·rw[decide_eq_false h];exact hf h)
theorem gp (ht:b<=a->K (.bool true)) (hf:¬b<=a->K (.bool false)):AB (.bin .geq (.cst (iv a)) (.cst (iv b))) K:=mH (by
 by_cases h:b<=a
 ·rw[decide_eq_true h];exact ht h
 ·rw[decide_eq_false h];exact hf h)
theorem oW (ht:a=b->K (.bool true)) (hf:¬a=b->K (.bool false)):AB (.bin .eql (.cst (iv a)) (.cst (iv b))) K:=mI (by
 by_cases h:a=b
 ·rw[decide_eq_true h];exact ht h
 ·rw[decide_eq_false h];exact hf h)
theorem cZ (ht:¬a=b->K (.bool true)) (hf:a=b->K (.bool false)):AB (.bin .neq (.cst (iv a)) (.cst (iv b))) K:=mF (by
 by_cases h:a=b
 ·rw[decide_eq_false (fun h'=>h' h)];exact hf h
 ·rw[decide_eq_true h];exact ht h)
theorem gi (h:¬a<b) (hK:K (.bool false)):AB (.bin .lss (.cst (iv a)) (.cst (iv b))) K:=Dk (fun h'=>absurd h' h) (fun _=>hK)
theorem mA (h:a=b) (hK:K (.bool true)):AB (.bin .eql (.cst (iv a)) (.cst (iv b))) K:=oW (fun _=>hK) (fun h'=>absurd h h')
theorem Xq (h:a=b) (hK:K (.bool false)):AB (.bin .neq (.cst (iv a)) (.cst (iv b))) K:=cZ (fun h'=>absurd h h') (fun _=>hK)
end
def FB (n:Nat) (v:AV):Prop:=(n=0/\v=.nils)\/∃(bs:List UInt8) (b:Bool),v=.sim (bs.map bv) n b/\bs.length=n
section
variable {n:Nat}{v:AV}
theorem FB.len (h:FB n v){K:AV->Prop}(hK:K (iv (n:Int))):AB (.len (.cst v)) K:=by
 rcases h with⟨rfl,rfl⟩ | ⟨bs,b,rfl,_⟩<;>exact AA rfl hK
theorem FB.at (h:FB n v){i:Nat}(hi:i<n){H:AH}{K:AV->Prop}(hK:∀x,K (bv x)) :
  AB (.indexAddrS 1 (.cst v) (.cst (iv (i:Int)))) fun v2=>AE (.load none (.cst v2)) H K:=by
 rcases h with⟨rfl,_⟩ | ⟨bs,b,rfl,hl⟩
 ·omega
 ·have h9:(0:Int)<=(i:Int)/\(i:Int)<(n:Int):=by omega
  refine AA (v:=.pim (bs.map bv) i) (by simp[AI,AF.ev,E0,h9]) (AX (v:=bv (bs[i]'(by omega))) ?_ (hK _))
  have:bs[i]?=some (bs[i]'(by omega)):=Ak (by omega)
  simp[AZ,BC,AF.ev,apart,this]
theorem FB.slice (h:FB n v) {lo hi:Nat}(h1:lo<=hi) (h2:hi<=n){K:AV->Prop}(hK:∀y,FB (hi-lo) y->K y) :
  AB (.sliceS 1 (.cst v) (some (.cst (iv (lo:Int)))) (some (.cst (iv (hi:Int)))) none) K:=by
 rcases h with⟨rfl,rfl⟩ | ⟨bs,b,rfl,hl⟩
 ·have e1:lo=0:=by omega
  have e2:hi=0:=by omega
  subst e1 e2
  exact AA (v:=.nils) rfl (hK _ (.inl ⟨rfl,rfl⟩))
 ·have c1:(0:Int)<=(lo:Int)/\(lo:Int)<=(hi:Int)/\(hi:Int)<=(n:Int):=by omega
  have e1:((hi:Int)-(lo:Int)).toNat=hi-lo:=by omega
  refine AA (v:=.sim (((bs.drop lo).take (hi-lo)).map bv) (hi-lo) (b&&decide ((hi:Int)=(n:Int)))) ?_ (hK _ (.inr ⟨_,_,rfl,by simp;omega⟩))
  simp[AI,AF.ints,AF.ev,M7,c1,e1,List.map_take,List.map_drop]
end
section
variable {H0 H:AH}{L:List (Nat × List AV)}
end
end
section
variable [BX] {P:Program}
theorem tE {T:Type}{t:Bool}{J:T}{A B:T->Prop}(Φ:T->Prop) (hJ:Φ J) (ha:t=true->∀J,Φ J->A J) (hb:t=false->∀J,Φ J->B J):Qr (.bool t) J A B:=
 L3 (fun h=>ha h J hJ) (fun h=>hb h J hJ)
theorem oN {T:Type}{w t:Bool}{J:T}{A B:T->Prop}(Φ:T->Prop) (hJ:Φ J) (ha:t=w->∀J,Φ J->A J) (hb:t≠w->∀J,Φ J->B J):BF w (.bool t) J A B:=
 D3 (fun h=>ha h J hJ) (fun h=>hb h J hJ)
section
variable {H0 H:AH}{L A B o:List (Nat × List AV)}
theorem BO.gq (h:BO H0 (A++(o++B)) H):BO H0 (o++(A++B)) H:=h.perm (by
 rw[<- Ao,<- Ao]
 exact List.Perm.append_right B OS)
theorem BO.iO {q:Nat}{c c':List AV}(h:BO H0 (A++(q,c)::B) H):BO H0 (A++(q,c')::B) (H.set q (.cells c')):=by
 have h1:BO H0 ((q,c)::(A++B)) H:=h.perm JL.symm
 exact(h1.set (c':=c')).perm JL
theorem BO.Sq {q o n:Nat}{c vs:List AV}{x:AV}{K:AV->AH->Prop}(h:BO H0 (A++(q,c)::B) H) (hx:x.cellsOf=some vs) (hv:vs.length=n) (hz:o+n<=c.length)
  (hK:∀H',BO H0 (A++(q,As c o vs)::B) H'->K .unk H'):AQ (.store n (.cst (.ptr q o)) (.cst x)) H K:=by
 obtain⟨h1,h2,h3⟩:=h.l (q,c) (CL _ (.head _))
 have h3:H.get q=some (.cells c):=h3
 exact Ap (v:=.unk) (H':=H.set q (.cells (As c o vs))) (by
  simp only[BL,AF.ev,AH.cells?,h3,hx]
  rw[if_pos ⟨hv,hz⟩]) (hK _ h.iO)
theorem BO.sy {q o k:Nat}{c d:List AV}{K:AV->Prop}(h:BO H0 L H) (hm:(q,c)∈L) (hx:(c.drop o).take k=d) (hz:o+k<=c.length) (hK:K (.agg d)):AE (.load (some k) (.cst (.ptr q o))) H K:=by
 obtain⟨_,_,h3⟩:=h.l _ hm
 have h3:H.get q=some (.cells c):=h3
 exact AX (v:=.agg d) (by simp[AZ,BC,AF.ev,AH.cells?,h3,apart,hz,hx]) hK
theorem BO.bs {k n:Nat}{z out:List AV}{ps:List (Nat × Nat × AF)}{K:AV->AH->Prop}(h:BO H0 L H) (hf:B5 emp z ps=some out) (hK:∀q H',BO H0 ((q,out)::L) H'->K (.sl q 0 n (.ex n)) H'):AQ (.buildSlice k n z ps) H K:=
 Ap (v:=.sl H.next 0 n (.ex n)) (H':=H.push (.cells out)) (by simp only[BL,hf]) (hK _ _ h.push)
end
end
section
variable [BX] {P:Program}
theorem FZ.mono {R R':List (Nat × List AV)}{v y:AV}(h:FZ R v y) (hs:R ⊆ R'):FZ R' v y:=fun H k hR=>h H k fun x hx=>hR x (hs hx)
theorem FZ.low {R:List (Nat × List AV)}{v:AV}(h:∀k,Sc k v):FZ R v v:=fun _ k _=>.low (h k)
theorem FZ.row {R:List (Nat × List AV)}{r n:Nat}{c:List AV}(hm:(r,c)∈R) (hs:∀k,HK k c) (hn:n=0->c=[]):FZ R (.sl r 0 n (.ex n)) (.sim c n true):=fun H k hR=>by
 obtain⟨g1,g2⟩:=hR _ hm
 refine .sl (l:=c) (m:=c.length) g1 (by simp[AH.cells?,g2]) (by simp) ?_ (fun h=>by rw[hn h];rfl) (fun _=>rfl)
 rw[B_,Gh]
 exact .low (hs k)
end
section
variable [BX] {P:Program}
section
variable {H0 H:AH}{L A B o:List (Nat × List AV)}
theorem BO.HL {q o:Nat}{c:List AV}{x:AV}(h:BO H0 L H) (hm:(q,c)∈L) (hx:c[o]?=some x):Ba (.load none (.cst (.ptr q o))) x H:=by
 obtain⟨_,_,h3⟩:=h.l _ hm
 show AZ _ emp H=some x
 simpa[AZ,BC,AF.ev,AH.cells?,h3,apart]using hx
theorem BO.jA {q o k:Nat}{c d:List AV}(h:BO H0 L H) (hm:(q,c)∈L) (hx:(c.drop o).take k=d) (hz:o+k<=c.length):Ba (.load (some k) (.cst (.ptr q o))) (.agg d) H:=by
 obtain⟨_,_,h3⟩:=h.l _ hm
 have h3:H.get q=some (.cells c):=h3
 show AZ _ emp H=some (.agg d)
 simp[AZ,BC,AF.ev,AH.cells?,h3,apart,hz,hx]
theorem gM {k n:Nat}{z:List AV}{ps:List (Nat × Nat × AF)}{K:AV->AH->Prop}(h:AQ (.buildSlice k n z ps) H K):Ny (.buildSlice k n z ps) H K:=by
 have h:Option.rec (motive:=fun _=>Prop) False (fun p=>Prod.rec (motive:=fun _=>Prop) K p) (BL (.buildSlice k n z ps) emp H):=h
 cases hf:B5 emp z ps with
 | none=>
  have e:BL (.buildSlice k n z ps) emp H=none:=by simp only[BL,hf]
  rw[e]at h
  exact h.elim
 | some out=>
  have e:BL (.buildSlice k n z ps) emp H=some (.sl H.next 0 n (.ex n),H.push (.cells out)):=by simp only[BL,hf]
  rw[e]at h
  exact Wu (c:=out) (f:=fun r=>.sl r 0 n (.ex n)) (by simp only[FQ,hf]) h
end
end
section
variable [BX] {P:Program}
structure LL (z:Nat) (Pr:Nat->List AV->Prop) (n:Nat) (v:AV):Prop where
 ex:(n=0/\v=.nils)\/∃(css:List (List AV)) (b:Bool),v=.sim css.flatten n b/\css.length=n/\∀i c,css[i]?=some c->c.length=z/\(∀k,HK k c)/\Pr i c
section
variable {z n:Nat}{Pr Pr':Nat->List AV->Prop}{v:AV}
theorem LL.len (h:LL z Pr n v){K:AV->Prop}(hK:K (iv (n:Int))):AB (.len (.cst v)) K:=by
 rcases h.ex with⟨rfl,rfl⟩ | ⟨css,b,rfl,_⟩<;>exact AA rfl hK
end
theorem Lv.len {k n:Nat}{o:List (Nat × List AV)}{cs:List AV}{v:AV}(h:Lv k o n cs v){K:AV->Prop}(hK:K (iv (n:Int))):AB (.len (.cst v)) K:=by
 cases h<;>exact AA rfl hK
section
variable {H0 H:AH}{L A B o:List (Nat × List AV)}
end
end
section
variable [BX] {P:Program}
section
variable {H0 H:AH}{L A B o:List (Nat × List AV)}
end
end
section
variable [BX] {P:Program}
theorem oX {T:Type}{J:T}{A:T->Prop}(Φ:T->Prop) (hJ:Φ J) (ha:∀J,Φ J->A J):Wv J A:=ha J hJ
end
section
variable [BX] {P:Program}
theorem AP.tH {g:FuncId}{ar ar':List AV}{H H':AH}{Post:Am->AH->Prop}(R:Nat->Prop) (h:AP P g ar' H' Post) (ha:CG H R ar ar') (hn:H'.next=H.next) (hg:H'.gl=H.gl)
  (hH:∀r o,H'.get r=some o->¬R r/\(H.get r=some o\/∃l l',o=.cells l'/\H.get r=some (.cells l)/\CG H R l l')):AP P g ar H Post:=by
 refine⟨h.1,fun Z σ w vs hW hv=>?_⟩
 refine(h.2 (VW Z σ H R w) σ w vs (hW.TH hn hH hg) (CG.sound hW ha hv)).mono fun x w' hx=>?_
 obtain⟨Z',σ',H1,out,g1,g2,g3,g4,g5,g6⟩:=hx
 exact⟨Z',σ',H1,out,(LQ hW).trans g1,by rw[<- hn];exact g2,by rw[<- hn];exact g3,g4,g5,g6⟩
theorem Eb.row {H:AH}{R:Nat->Prop}{r n:Nat}{lim:SI}{l l':List AV}{ex:Bool}(hr:R r) (hc:H.get r=some (.cells l)) (hl:CG H R l l') (hn:n=0->l=[]) (hx:ex=true->lim=.ex n):Eb H R (.sl r 0 n lim) (.sim l' n ex):=by
 refine .sl (l:=l) (m:=l.length) hr (by simp[AH.cells?,hc]) (by omega) ?_ (fun h=>by rw[hn h];rfl) hx
 rw[B_,Gh];exact hl
section
variable {H0 H:AH}{L A B o:List (Nat × List AV)}
end
end
section
variable [BX] {P:Program}
section
variable {H0 H:AH}{L A B o:List (Nat × List AV)}
end
end
end Go.AL
namespace Go.AL.Sha
def K:List UInt32:=[0x428a2f98,0x71374491,0xb5c0fbcf,0xe9b5dba5,0x3956c25b,0x59f111f1,0x923f82a4,0xab1c5ed5,
 0xd807aa98,0x12835b01,0x243185be,0x550c7dc3,0x72be5d74,0x80deb1fe,0x9bdc06a7,0xc19bf174,
 0xe49b69c1,0xefbe4786,0x0fc19dc6,0x240ca1cc,0x2de92c6f,0x4a7484aa,0x5cb0a9dc,0x76f988da,
 0x983e5152,0xa831c66d,0xb00327c8,0xbf597fc7,0xc6e00bf3,0xd5a79147,0x06ca6351,0x14292967,
 0x27b70a85,0x2e1b2138,0x4d2c6dfc,0x53380d13,0x650a7354,0x766a0abb,0x81c2c92e,0x92722c85,
 0xa2bfe8a1,0xa81a664b,0xc24b8b70,0xc76c51a3,0xd192e819,0xd6990624,0xf40e3585,0x106aa070,
 0x19a4c116,0x1e376c08,0x2748774c,0x34b0bcb5,0x391c0cb3,0x4ed8aa4a,0x5b9cca4f,0x682e6ff3,
 0x748f82ee,0x78a5636f,0x84c87814,0x8cc70208,0x90befffa,0xa4506ceb,0xbef9a3f7,0xc67178f2]
structure S8 where
  a:UInt32
  b:UInt32
  c:UInt32
  d:UInt32
  e:UInt32
  f:UInt32
  g:UInt32
  h:UInt32
def S8.l (s:S8):List UInt32:=[s.a,s.b,s.c,s.d,s.e,s.f,s.g,s.h]
def init:S8:=⟨0x6a09e667,0xbb67ae85,0x3c6ef372,0xa54ff53a,0x510e527f,0x9b05688c,0x1f83d9ab,0x5be0cd19⟩
def Qw (x:UInt32) (n:UInt32):UInt32:=(x <<< n) ||| (x >>> (32-n))
def low (x:UInt32):UInt32:=Qw x 25 ^^^ Qw x 14 ^^^ (x >>> 3)
def high (x:UInt32):UInt32:=Qw x 15 ^^^ Qw x 13 ^^^ (x >>> 10)
def word (a b c d:UInt8):UInt32:=(a.toUInt32 <<< 24) ||| (b.toUInt32 <<< 16) ||| (c.toUInt32 <<< 8) ||| d.toUInt32
def words:List UInt8->List UInt32
  | a::b::c::d::l=>word a b c d::words l
  | _=>[]
def next (w:List UInt32):UInt32:=w.getD (w.length-16) 0+low (w.getD (w.length-15) 0)+w.getD (w.length-7) 0+high (w.getD (w.length-2) 0)
def ext:Nat->List UInt32->List UInt32
  | 0,w=>w
  | n+1,w=>ext n (w++[next w])
def rx (t:S8) (k w:UInt32):UInt32:=t.h+(Qw t.e 26 ^^^ Qw t.e 21 ^^^ Qw t.e 7)+(t.e &&& t.f ^^^ ~~~t.e &&& t.g)+k+w
def ry (t:S8):UInt32:=(Qw t.a 30 ^^^ Qw t.a 19 ^^^ Qw t.a 10)+(t.a &&& t.b ^^^ t.a &&& t.c ^^^ t.b &&& t.c)
def round (t:S8) (k w:UInt32):S8:=⟨rx t k w+ry t,t.a,t.b,t.c,t.d+rx t k w,t.e,t.f,t.g⟩
def rounds:List UInt32->List UInt32->S8->S8
  | k::ks,w::ws,t=>rounds ks ws (round t k w)
  | _,_,t=>t
def S8.add (s t:S8):S8:=⟨s.a+t.a,s.b+t.b,s.c+t.c,s.d+t.d,s.e+t.e,s.f+t.f,s.g+t.g,s.h+t.h⟩
def compress (s:S8) (b:List UInt8):S8:=s.add (rounds K (ext 48 (words b)) s)
def ZA (n:Nat):List UInt8:=[56,48,40,32,24,16,8,0].map fun s=>UInt8.ofNat (n >>> s)
def Ga (n:Nat):Nat:=(119-n % 64) % 64
def pad (m:List UInt8):List UInt8:=m++128::(List.replicate (Ga m.length) 0++ZA (8*m.length))
def blocks:Nat->List UInt8->S8->S8
  | 0,_,s=>s
  | n+1,b,s=>blocks n (b.drop 64) (compress s (b.take 64))
def bytes (x:UInt32):List UInt8:=[(x >>> 24).toUInt8,(x >>> 16).toUInt8,(x >>> 8).toUInt8,x.toUInt8]
def sum (m:List UInt8):List UInt8:=(blocks ((pad m).length / 64) (pad m) init).l.flatMap bytes
def masked (key:List UInt8) (x:UInt8):List UInt8:=(List.range 64).map fun i=>key.getD i 0 ^^^ x
def keyed (key b:List UInt8):List UInt8:=sum (masked key 0x5c++sum (masked key 0x36++b))
def nG (n:Nat):List UInt8:=[0,8,16,24,32,40,48,56].map fun s=>UInt8.ofNat (n >>> s)
end Go.AL.Sha
namespace Go.AL
section
variable [BX]
def wv (x:UInt32):AV:=.int .u32 (x.toNat:Int)
theorem wrap_u32 {n:Nat}(h:n<4294967296):IntKind.u32.wrap (n:Int)=(n:Int):=by
 simp[IntKind.wrap,IntKind.bits,IntKind.signed];omega
theorem wrap_u32' (n:Int):IntKind.u32.wrap n=n % 4294967296:=by simp[IntKind.wrap,IntKind.bits,IntKind.signed]
theorem ofInt_u32 (a:UInt32):BitVec.ofInt 32 (a.toNat:Int)=a.toBitVec:=by
 rw[HS];exact BitVec.eq_of_toNat_eq (by rw[KP];exact C6 a.toBitVec.isLt)
section
variable {K:AV->Prop}{a b:UInt32}
theorem JY (hK:K (wv (a ^^^ b))):AB (.bin .xor (.cst (wv a)) (.cst (wv b))) K:=AA (by
 show some (AV.int .u32 (IntKind.u32.wrap ((BitVec.ofInt 32 (a.toNat:Int) ^^^ BitVec.ofInt 32 (b.toNat:Int)).toNat:Nat)))=_
 rw[ofInt_u32,ofInt_u32,wrap_u32 (SR _)];rfl) hK
theorem Tv (hK:K (wv (a &&& b))):AB (.bin .and (.cst (wv a)) (.cst (wv b))) K:=AA (by
 show some (AV.int .u32 (IntKind.u32.wrap ((BitVec.ofInt 32 (a.toNat:Int) &&& BitVec.ofInt 32 (b.toNat:Int)).toNat:Nat)))=_
 rw[ofInt_u32,ofInt_u32,wrap_u32 (SR _)];rfl) hK
theorem dU (hK:K (wv (a ||| b))):AB (.bin .or (.cst (wv a)) (.cst (wv b))) K:=AA (by
 show some (AV.int .u32 (IntKind.u32.wrap ((BitVec.ofInt 32 (a.toNat:Int) ||| BitVec.ofInt 32 (b.toNat:Int)).toNat:Nat)))=_
 rw[ofInt_u32,ofInt_u32,wrap_u32 (SR _)];rfl) hK
theorem JZ (hK:K (wv (a+b))):AB (.bin .add (.cst (wv a)) (.cst (wv b))) K:=AA (by
 show some (AV.int .u32 (IntKind.u32.wrap ((a.toNat:Int)+(b.toNat:Int))))=some (AV.int .u32 ((a+b).toNat:Int))
 rw[wrap_u32',UInt32.toNat_add];congr 2) hK
theorem lh (hK:K (wv (~~~a))):AB (.un .xor (.cst (wv a))) K:=AA (by
 show some (AV.int .u32 (IntKind.u32.wrap ((BitVec.ofInt 32 4294967295 ^^^ BitVec.ofInt 32 (a.toNat:Int)).toNat:Nat)))=_
 rw[ofInt_u32,wrap_u32 (SR _)]
 have e:BitVec.ofInt 32 4294967295 ^^^ a.toBitVec = ~~~a.toBitVec:=by
  have:BitVec.ofInt 32 4294967295=BitVec.allOnes 32:=by decide
  rw[this,BitVec.allOnes_xor]
 rw[e];rfl) hK
theorem W6 {n:UInt32}(hn:n.toNat<32) (hK:K (wv (a <<< n))):AB (.bin .shl (.cst (wv a)) (.cst (.int .u64 (n.toNat:Int)))) K:=AA (by
 show(if (0:Int)<=(n.toNat:Int)then some (AV.int .u32 (IntKind.u32.wrap ((a.toNat:Int)*2 ^ (min ((n.toNat:Int).toNat) 32))))else none)=some (AV.int .u32 ((a <<< n).toNat:Int))
 rw[if_pos (by omega),wrap_u32',UInt32.toNat_shiftLeft,Cp,CV (by omega),C6 hn,Nat.shiftLeft_eq]
 simp) hK
theorem Zo {n:UInt32}(hn:n.toNat<32) (hK:K (wv (a >>> n))):AB (.bin .shr (.cst (wv a)) (.cst (.int .u64 (n.toNat:Int)))) K:=AA (by
 show(if (0:Int)<=(n.toNat:Int)then some (AV.int .u32 ((a.toNat:Int).fdiv (2 ^ (min ((n.toNat:Int).toNat) 32))))else none)=some (AV.int .u32 ((a >>> n).toNat:Int))
 rw[if_pos (by omega),UInt32.toNat_shiftRight,Cp,CV (by omega),C6 hn,Hv]
 congr 2
 rw[E6 _ (by exact Wq (by omega))]
 norm_cast) hK
theorem Sb {x:UInt8}(hK:K (wv x.toUInt32)):AB (.convI .u32 (.cst (bv x))) K:=AA (by
 show some (AV.int .u32 (IntKind.u32.wrap (x.toNat:Int)))=some (AV.int .u32 (x.toUInt32.toNat:Int))
 have:=x.toNat_lt
 rw[wrap_u32 (by omega),UInt8.toNat_toUInt32]) hK
theorem lg (hK:K (bv a.toUInt8)):AB (.convI .u8 (.cst (wv a))) K:=AA (by
 show some (AV.int .u8 (IntKind.u8.wrap (a.toNat:Int)))=some (AV.int .u8 (a.toUInt8.toNat:Int))
 rw[UInt32.toNat_toUInt8]
 have:IntKind.u8.wrap (a.toNat:Int)=((a.toNat % 256:Nat):Int):=by simp[IntKind.wrap,IntKind.bits,IntKind.signed]
 rw[this]) hK
end
end
section
open Sha
theorem U4:∀(n:Nat) (w:List UInt32),ext (n+1) w=ext n w++[Sha.next (ext n w)]
 | 0,_=>rfl
 | n+1,w=>by show ext (n+1) (w++[Sha.next w])=_;rw[U4 n];rfl
theorem Xr:∀(n:Nat) (w:List UInt32),(ext n w).length=w.length+n
 | 0,_=>rfl
 | n+1,w=>by show(ext n (w++[Sha.next w])).length=_;rw[Xr n];simp;omega
theorem RI:∀(i:Nat) (l:List UInt8),4*i+3<l.length->(words l)[i]?=some (word (l.getD (4*i) 0) (l.getD (4*i+1) 0) (l.getD (4*i+2) 0) (l.getD (4*i+3) 0))
 | i,[],h=>by simp at h
 | i,[a],h=>by simp at h
 | i,[a,b],h=>by simp at h;omega
 | i,[a,b,c],h=>by simp at h;omega
 | 0,a::b::c::d::l,_=>by unfold words;rfl
 | i+1,a::b::c::d::l,h=>by
  unfold words
  rw[Gf,RI i l (by simp at h;omega)]
  simp only[A6]
  rw[show 4*(i+1)=4*i+4 by omega,show 4*i+4+1=4*i+1+4 by omega,show 4*i+4+2=4*i+2+4 by omega,show 4*i+4+3=4*i+3+4 by omega]
  simp only[Gf]
theorem RH:∀(n:Nat) (l:List UInt8),l.length=4*n->(words l).length=n
 | 0,l,h=>by have:l=[]:=B0 (by omega);subst this;rfl
 | n+1,l,h=>by
  match l,h with
  | a::b::c::d::l,h=>unfold words;rw[List.length_cons,RH n l (by simp at h;omega)]
  | [],h=>simp at h
  | [a],h=>simp at h;omega
  | [a,b],h=>simp at h;omega
  | [a,b,c],h=>simp at h;omega
theorem NK:∀(ks ws:List UInt32) (k w:UInt32) (t:S8),ks.length=ws.length->rounds (ks++[k]) (ws++[w]) t=round (rounds ks ws t) k w
 | [],[],_,_,_,_=>rfl
 | a::ks,b::ws,k,w,t,h=>by show rounds (ks++[k]) (ws++[w]) (round t a b)=round (rounds ks ws (round t a b)) k w;exact NK ks ws k w _ (by simpa using h)
 | [],_::_,_,_,_,h=>by simp at h
 | _::_,[],_,_,_,h=>by simp at h
theorem T6 {ks ws:List UInt32}{i:Nat}{k w:UInt32}(t:S8) (hk:ks[i]?=some k) (hw:ws[i]?=some w):rounds (ks.take (i+1)) (ws.take (i+1)) t=round (rounds (ks.take i) (ws.take i) t) k w:=by
 have h1:=(BU.1 hk).1
 have h2:=(BU.1 hw).1
 rw[DZ,DZ,hk,hw]
 exact NK _ _ _ _ _ (by rw[BI,BI];omega)
def IB (l:List UInt32):List AV:=(l++List.replicate (64-l.length) 0).map wv
theorem RS {l:List UInt32}(h:l.length<=64):(IB l).length=64:=by simp[IB];omega
theorem Es {l:List UInt32}{i:Nat}(h:i<l.length):(IB l)[i]?=some (wv (l.getD i 0)):=by
 unfold IB
 rw[Bf,ED h,A6,Ak h];rfl
theorem RR {l:List UInt32}{x:UInt32}(h:l.length<64):As (IB l) l.length [wv x]=IB (l++[x]):=by
 unfold As IB
 have e:64-l.length=(63-l.length)+1:=by omega
 have e2:64-(l++[x]).length=63-l.length:=by rw[Aa,O3];omega
 show(List.map wv (l++List.replicate (64-l.length) 0)).set l.length (wv x)=_
 rw[e2,e,OM,<- List.map_set,Hs _ _ (A5 _),Ia,O7,Ao];rfl
variable [BX]
section
variable {H0 H:AH}{L:List (Nat × List AV)}
theorem rN {q o n i:Nat}{lim:SI}{cs:List AV}{x:AV}{K:AV->Prop}(hi:i<n) (hg:H.get q=some (.cells cs)) (hx:cs[o+i]?=some x) (hK:K x):AB (.indexAddrS 1 (.cst (.sl q o n lim)) (.cst (iv (i:Int)))) fun v=>AE (.load none (.cst v)) H K:=
 AA (v:=.ptr q (o+i)) (by
  show(if (0:Int)<=(i:Int)/\(i:Int)<(n:Int)then some (AV.ptr q (o+(i:Int).toNat*1))else none)=_
  rw[if_pos ⟨by omega,by omega⟩,Cp,Fx]) (AX (v:=x) (by simp[AZ,BC,AF.ev,AH.cells?,hg,apart,hx]) hK)
theorem JC {n q i:Nat}{K:AV->Prop}(hi:i<n) (hK:K (.ptr q i)):AB (.indexAddrA n 1 (.cst (.ptr q 0)) (.cst (iv (i:Int)))) K:=
 AA (v:=.ptr q i) (by
  show(if (0:Int)<=(i:Int)/\(i:Int)<(n:Int)then some (AV.ptr q (0+(i:Int).toNat*1))else none)=_
  rw[if_pos ⟨by omega,by omega⟩,Cp,Fx,Ot]) hK
theorem rO {n q i:Nat}{c:List AV}{x:AV}{K:AV->Prop}(s:BO H0 L H) (hm:(q,c)∈L) (hi:i<n) (hx:c[i]?=some x) (hK:K x):AB (.indexAddrA n 1 (.cst (.ptr q 0)) (.cst (iv (i:Int)))) fun v=>AE (.load none (.cst v)) H K:=
 JC hi (s.ld hm hx hK)
end
end
end Go.AL
namespace Go.Proofs.YtlmkmpomgdbjhaaGreatDoor
open Tryz
section
open Go Go.AL Go.AL.Sha
variable [BX]
theorem RA {x n:UInt32}{k:Int}{H:AH}{c:Int}(h1:AI (.convI .u64 (.cst (iv k))) emp=some (.int .u64 c)) (h2:AI (.bin .and (.cst (.int .u64 c)) (.cst (N .u64 31))) emp=some (.int .u64 (n.toNat:Int)))
  (h3:AI (.bin .sub (.cst (N .u64 32)) (.cst (.int .u64 (n.toNat:Int)))) emp=some (.int .u64 ((32-n).toNat:Int))) (hn:n.toNat<32) (hn2:(32-n).toNat<32):CP prog 304 [wv x,iv k] H fun v=>v=wv (Qw x n):=by
 refine tt ?_
 unfold pU
 refine AA h1 (AA h2 (W6 hn (AA h3 (Zo hn2 (dU ?_)))))
 exact⟨rfl,_,rfl,rfl⟩
theorem r7 {x:UInt32}{H:AH}:CP prog 304 [wv x,iv (-7)] H fun v=>v=wv (Qw x 25):=RA rfl rfl rfl (by decide) (by decide)
theorem zf {x:UInt32}{H:AH}:CP prog 304 [wv x,iv (-18)] H fun v=>v=wv (Qw x 14):=RA rfl rfl rfl (by decide) (by decide)
theorem zg {x:UInt32}{H:AH}:CP prog 304 [wv x,iv (-17)] H fun v=>v=wv (Qw x 15):=RA rfl rfl rfl (by decide) (by decide)
theorem ze {x:UInt32}{H:AH}:CP prog 304 [wv x,iv (-19)] H fun v=>v=wv (Qw x 13):=RA rfl rfl rfl (by decide) (by decide)
theorem r6 {x:UInt32}{H:AH}:CP prog 304 [wv x,iv (-6)] H fun v=>v=wv (Qw x 26):=RA rfl rfl rfl (by decide) (by decide)
theorem xB {x:UInt32}{H:AH}:CP prog 304 [wv x,iv (-11)] H fun v=>v=wv (Qw x 21):=RA rfl rfl rfl (by decide) (by decide)
theorem zc {x:UInt32}{H:AH}:CP prog 304 [wv x,iv (-25)] H fun v=>v=wv (Qw x 7):=RA rfl rfl rfl (by decide) (by decide)
theorem r2 {x:UInt32}{H:AH}:CP prog 304 [wv x,iv (-2)] H fun v=>v=wv (Qw x 30):=RA rfl rfl rfl (by decide) (by decide)
theorem xA {x:UInt32}{H:AH}:CP prog 304 [wv x,iv (-13)] H fun v=>v=wv (Qw x 19):=RA rfl rfl rfl (by decide) (by decide)
theorem zd {x:UInt32}{H:AH}:CP prog 304 [wv x,iv (-22)] H fun v=>v=wv (Qw x 10):=RA rfl rfl rfl (by decide) (by decide)
end
end Go.Proofs.YtlmkmpomgdbjhaaGreatDoor
namespace Go.AL
section
open Sha
variable [BX]
class Bp:Prop where
 ok:∃t fr,BX.G 0=some (.cells ((Sha.K.map fun x=>Value.int .u32 (x.toNat:Int)).toArray) t fr)
theorem Ro:∀l:List UInt32,QF (l.map fun x=>Value.int .u32 (x.toNat:Int))=some (l.map wv)
 | []=>rfl
 | x::l=>by
  show(QF (l.map fun x=>Value.int .u32 (x.toNat:Int))).map (AV.int .u32 (x.toNat:Int)::·)=_
  rw[Ro l];rfl
theorem X9:Sha.K.length=64:=by decide
theorem tF [h:Bp] {H:AH}{K':AV->Prop}(hg:H.gl=BX.G) (hK:K' (.agg (Sha.K.map wv))):AE (.gld (some 64) 0) H K':=by
 obtain⟨t,fr,h⟩:=h.ok
 refine AX (v:=.agg (Sha.K.map wv)) ?_ hK
 simp only[AZ,Xo,hg,h]
 rw[Ro]
 simp only[Lm,apart,BR,X9]
 rfl
theorem nI {i:Nat}(hi:i<64):AI (.indexA 64 1 none (.cst (.agg (Sha.K.map wv))) (.cst (iv (i:Int)))) emp=some (wv (Sha.K.getD i 0)):=by
 show(if (0:Int)<=(i:Int)/\(i:Int)<((64:Nat):Int)then apart none (Sha.K.map wv) ((i:Int).toNat*1)else none)=_
 rw[if_pos ⟨by omega,by omega⟩,Cp,Fx]
 show(Sha.K.map wv)[i]?=_
 rw[Bf,A6,Ak (by rw[X9];exact hi)];rfl
structure Up (Hb:AH) (r:Nat) (c:List AV) (H:AH):Prop where
 nx:H.next=Hb.next
 gl:H.gl=Hb.gl
 at_:H.get r=some (.cells c)
 ne:∀q,q≠r->H.get q=Hb.get q
theorem Up.set {Hb H:AH}{r:Nat}{c c':List AV}(h:Up Hb r c H):Up Hb r c' (H.set r (.cells c')):=
 ⟨h.nx,h.gl,by simp[AH.AY],fun q hq=>by rw[AH.Ej _ _ hq];exact h.ne q hq⟩
def Q1 (x y:List UInt32) (i:Nat):List UInt32:=x.take i++y.drop i
theorem an {x y:List UInt32}{i:Nat}(h:i<y.length) (hl:x.length=y.length):((Q1 x y i).map wv)[i]?=some (wv (y.getD i 0)):=by
 unfold Q1
 rw[Bf,De (by rw[BI];omega),BI,CV (by omega),Ia,DX,Gg,A6,Ak h];rfl
theorem ak {x y:List UInt32}{i:Nat}(h:i<y.length) (hl:x.length=y.length):((Q1 x y i).map wv).set i (wv (x.getD i 0))=(Q1 x y (i+1)).map wv:=by
 unfold Q1
 have hx:i<x.length:=by omega
 rw[<- List.map_set,Hs _ _ (by rw[BI];omega),BI,CV (by omega),Ia,C8 h,O7,DZ,Ak hx,Ao,A6,Ak hx];rfl
end
end Go.AL
namespace Go.Proofs.YtlmkmpomgdbjhaaGreatDoor
open Tryz
section
open Go Go.AL Go.AL.Sha
variable [BX]
set_option maxHeartbeats 4000000 in
theorem wt [Bp] {H:AH}{rs q o:Nat}{lim:SI}{s0:S8}{bs:List UInt8}{cs:List AV}(hg:H.gl=BX.G) (hs:H.get rs=some (.cells (s0.l.map wv))) (hq:H.get q=some (.cells cs)) (hb:∀i,i<64->cs[o+i]?=some (bv (bs.getD i 0)))
  (hl:bs.length=64) (hrs:rs<H.next) (hqn:q<H.next):AP prog 183 [.ptr rs 0,.sl q o 64 lim] H fun out H'=>out=.ret (.tup [])/\∃Hb L,BO H L Hb/\Up Hb rs ((compress s0 bs).l.map wv) H':=by
 have hwl:(words bs).length=16:=RH 16 bs (by omega)
 refine uL ?_
 unfold pf
 refine(BO.start H).alloc fun qw H1 s=>?_
 have s:BO H [(qw,IB ((words bs).take 0))] H1:=s
 let I1:AV->AV->AV->AV->AH->Prop:=fun e0 e1 e4 e17 H'=>e0=.ptr rs 0/\e1=.sl q o 64 lim/\e4=.ptr qw 0/\∃i:Nat,e17=iv (i:Int)/\i<=16/\BO H [(qw,IB ((words bs).take i))] H'
 let μ1:AV->AV->AV->AV->AH->Nat:=fun _ _ _ e17 _=>match e17 with
  | .int _ j=>((16:Int)-j).toNat
  | _=>0
 refine⟨I1,μ1,⟨rfl,rfl,rfl,0,rfl,by omega,s⟩,?_⟩
 intro e H2 hI
 obtain⟨e0,e1,e4,i,e17,hi,s⟩:=(hI:I1 (e 0) (e 1) (e 4) (e 17) H2)
 have hmu:μ1 (e 0) (e 1) (e 4) (e 17) H2=((16:Int)-(i:Int)).toNat:=by rw[e17]
 show AB (.bin .lss (.cst (e 17)) (.cst (I 16))) _
 rw[e0,e1,e4,e17]
 refine Dk (b:=16) (fun hlt=>Cw ?_) (fun hlt=>BS ?_)
 ·have hi16:i<16:=by omega
  have hq2:H2.get q=some (.cells cs):=by rw[s.k.get q hqn];exact hq
  refine PT (a:=4) ⟨by omega,by omega⟩ ?_
  rw[show(4:Int)*(i:Int)=((4*i:Nat):Int)by omega]
  refine rN (by omega) hq2 (hb (4*i) (by omega)) (Sb (W6 (n:=24) (by decide) ?_))
  refine PT (a:=4) ⟨by omega,by omega⟩ (Dg (b:=1) ⟨by omega,by omega⟩ ?_)
  rw[show(4:Int)*(i:Int)+1=((4*i+1:Nat):Int)by omega]
  refine rN (by omega) hq2 (hb (4*i+1) (by omega)) (Sb (W6 (n:=16) (by decide) (dU ?_)))
  refine PT (a:=4) ⟨by omega,by omega⟩ (Dg (b:=2) ⟨by omega,by omega⟩ ?_)
  rw[show(4:Int)*(i:Int)+2=((4*i+2:Nat):Int)by omega]
  refine rN (by omega) hq2 (hb (4*i+2) (by omega)) (Sb (W6 (n:=8) (by decide) (dU ?_)))
  refine PT (a:=4) ⟨by omega,by omega⟩ (Dg (b:=3) ⟨by omega,by omega⟩ ?_)
  rw[show(4:Int)*(i:Int)+3=((4*i+3:Nat):Int)by omega]
  refine rN (by omega) hq2 (hb (4*i+3) (by omega)) (Sb (dU (JC (i:=i) (by omega) ?_)))
  have hw:=RI i bs (by omega)
  refine s.put (vs:=[wv (word (bs.getD (4*i) 0) (bs.getD (4*i+1) 0) (bs.getD (4*i+2) 0) (bs.getD (4*i+3) 0))]) rfl rfl (by rw[RS (by rw[BI];omega)];omega) fun H3 s3=>?_
  have hti:((words bs).take i).length=i:=by rw[BI];omega
  have hps:=RR (l:=(words bs).take i) (x:=word (bs.getD (4*i) 0) (bs.getD (4*i+1) 0) (bs.getD (4*i+2) 0) (bs.getD (4*i+3) 0)) (by omega)
  rw[hti]at hps
  rw[hps,show(words bs).take i++[word (bs.getD (4*i) 0) (bs.getD (4*i+1) 0) (bs.getD (4*i+2) 0) (bs.getD (4*i+3) 0)]=(words bs).take (i+1)by rw[DZ,hw];rfl]at s3
  refine Dg (b:=1) ⟨by omega,by omega⟩ ⟨⟨rfl,rfl,rfl,i+1,rfl,by omega,s3⟩,?_⟩
  show _<μ1 (e 0) (e 1) (e 4) (e 17) H2
  rw[hmu]
  show((16:Int)-((i:Int)+1)).toNat<_
  omega
 have hi16:i=16:=by omega
 subst hi16
 rw[Ac (by omega)]at s
 have s:BO H [(qw,IB (ext 0 (words bs)))] H2:=s
 clear hmu
 let I2:AV->AV->AV->AH->Prop:=fun e0 e4 e6 H'=>e0=.ptr rs 0/\e4=.ptr qw 0/\∃i:Nat,e6=iv ((16+i:Nat):Int)/\i<=48/\BO H [(qw,IB (ext i (words bs)))] H'
 let μ2:AV->AV->AV->AH->Nat:=fun _ _ e6 _=>match e6 with
  | .int _ j=>((64:Int)-j).toNat
  | _=>0
 refine⟨I2,μ2,⟨rfl,rfl,0,rfl,by omega,s⟩,?_⟩
 clear s e0 e1 e4 e17
 intro e H3 hI
 obtain⟨e0,e4,i,e6,hi,s⟩:=(hI:I2 (e 0) (e 4) (e 6) H3)
 have hmu:μ2 (e 0) (e 4) (e 6) H3=((64:Int)-((16+i:Nat):Int)).toNat:=by rw[e6]
 show AB (.bin .lss (.cst (e 6)) (.cst (I 64))) _
 rw[e0,e4,e6]
 have hel:(ext i (words bs)).length=16+i:=by rw[Xr,hwl]
 refine Dk (b:=64) (fun hlt=>Cw ?_) (fun hlt=>BS ?_)
 ·refine Km (b:=15) ⟨by omega,by omega⟩ ?_
  rw[show((16+i:Nat):Int)-15=((1+i:Nat):Int)by omega]
  refine rO (i:=1+i) s (.head _) (by omega) (Es (by omega)) ?_
  refine Km (b:=2) ⟨by omega,by omega⟩ ?_
  rw[show((16+i:Nat):Int)-2=((14+i:Nat):Int)by omega]
  refine rO (i:=14+i) s (.head _) (by omega) (Es (by omega)) ?_
  refine I8 r7 fun _ hx=>?_
  cases hx
  refine I8 zf fun _ hx=>?_
  cases hx
  refine JY (Zo (n:=3) (by decide) (JY ?_))
  refine I8 zg fun _ hx=>?_
  cases hx
  refine I8 ze fun _ hx=>?_
  cases hx
  refine JY (Zo (n:=10) (by decide) (JY ?_))
  refine Km (b:=16) ⟨by omega,by omega⟩ ?_
  rw[show((16+i:Nat):Int)-16=((i:Nat):Int)by omega]
  refine rO (i:=i) s (.head _) (by omega) (Es (by omega)) (JZ ?_)
  refine Km (b:=7) ⟨by omega,by omega⟩ ?_
  rw[show((16+i:Nat):Int)-7=((9+i:Nat):Int)by omega]
  refine rO (i:=9+i) s (.head _) (by omega) (Es (by omega)) (JZ (JZ (JC (i:=16+i) (by omega) ?_)))
  have hn:(ext i (words bs)).getD i 0+low ((ext i (words bs)).getD (1+i) 0)+(ext i (words bs)).getD (9+i) 0+high ((ext i (words bs)).getD (14+i) 0)=Sha.next (ext i (words bs)):=by
   unfold Sha.next
   rw[hel,show 16+i-16=i by omega,show 16+i-15=1+i by omega,show 16+i-7=9+i by omega,show 16+i-2=14+i by omega]
  refine s.put (vs:=[wv (Sha.next (ext i (words bs)))]) (by rw[<- hn];rfl) rfl (by rw[RS (by omega)];omega) fun H4 s4=>?_
  have hps:=RR (l:=ext i (words bs)) (x:=Sha.next (ext i (words bs))) (by omega)
  rw[hel,<- U4]at hps
  rw[hps]at s4
  refine Dg (b:=1) ⟨by omega,by omega⟩ ⟨⟨rfl,rfl,i+1,rfl,by omega,s4⟩,?_⟩
  show _<μ2 (e 0) (e 4) (e 6) H3
  rw[hmu]
  show((64:Int)-(((16+i:Nat):Int)+1)).toNat<_
  omega
 have hi48:i=48:=by omega
 subst hi48
 clear hmu
 obtain⟨w64,hw64⟩:∃w64,w64=ext 48 (words bs):=⟨_,rfl⟩
 rw[<- hw64]at s hel
 refine AA (v:=.ptr rs 0) rfl ?_
 have hs3:H3.get rs=some (.cells (s0.l.map wv)):=by rw[s.k.get rs hrs];exact hs
 refine AX (v:=.agg (s0.l.map wv)) (by simp[AZ,BC,AF.ev,AH.cells?,hs3,apart,S8.l]) ?_
 refine s.alloc fun qt H4 s=>?_
 refine s.Gk (c:=Bl 8 (N .u32 0) []) (vs:=s0.l.map wv) rfl rfl fun H5 s=>?_
 refine tF (s.k.gl.trans hg) ?_
 have s:BO H [(qt,(rounds (K.take 0) (w64.take 0) s0).l.map wv),(qw,IB w64)] H5:=s
 let I3:AV->AV->AV->AV->AV->AH->Prop:=fun e0 e4 e11 e102 e103 H'=>e0=.ptr rs 0/\e4=.ptr qw 0/\e11=.ptr qt 0/\e102=.agg (K.map wv)/\∃i:Nat,e103=iv (i:Int)/\i<=64/\BO H [(qt,(rounds (K.take i) (w64.take i) s0).l.map wv),(qw,IB w64)] H'
 let μ3:AV->AV->AV->AV->AV->AH->Nat:=fun _ _ _ _ e103 _=>match e103 with
  | .int _ j=>((64:Int)-j).toNat
  | _=>0
 refine⟨I3,μ3,⟨rfl,rfl,rfl,rfl,0,rfl,by omega,s⟩,?_⟩
 clear s e0 e4 e6
 intro e H6 hI
 obtain⟨e0,e4,e11,e102,i,e103,hi,s⟩:=(hI:I3 (e 0) (e 4) (e 11) (e 102) (e 103) H6)
 have hmu:μ3 (e 0) (e 4) (e 11) (e 102) (e 103) H6=((64:Int)-(i:Int)).toNat:=by rw[e103]
 show AB (.bin .lss (.cst (e 103)) (.cst (I 64))) _
 rw[e0,e4,e11,e102,e103]
 refine Dk (b:=64) (fun hlt=>Cw ?_) (fun hlt=>BS ?_)
 ·have hik:i<64:=by omega
  have hrt:=T6 (ks:=K) (ws:=w64) (i:=i) (k:=K.getD i 0) (w:=w64.getD i 0) s0 (by rw[A6,Ak (by rw[X9];exact hik)];rfl) (by rw[A6,Ak (by omega)];rfl)
  generalize rounds (K.take i) (w64.take i) s0=t at s hrt
  refine AA (v:=wv (K.getD i 0)) (nI (by omega)) ?_
  refine JC (i:=7) (by omega) ?_
  refine s.ld (o:=7) (.head _) rfl ?_
  refine JC (i:=4) (by omega) ?_
  refine s.ld (o:=4) (.head _) rfl ?_
  refine JC (i:=4) (by omega) ?_
  refine s.ld (o:=4) (.head _) rfl ?_
  refine JC (i:=4) (by omega) ?_
  refine s.ld (o:=4) (.head _) rfl ?_
  refine JC (i:=4) (by omega) ?_
  refine s.ld (o:=4) (.head _) rfl ?_
  refine JC (i:=5) (by omega) ?_
  refine s.ld (o:=5) (.head _) rfl ?_
  refine Tv ?_
  refine JC (i:=4) (by omega) ?_
  refine s.ld (o:=4) (.head _) rfl ?_
  refine lh ?_
  refine JC (i:=6) (by omega) ?_
  refine s.ld (o:=6) (.head _) rfl ?_
  refine Tv ?_
  refine JY ?_
  refine JC (i:=i) (by omega) ?_
  refine s.ld (o:=i) (.tail _ (.head _)) (Es (l:=w64) (by omega)) ?_
  refine I8 r6 fun _ hx=>?_
  cases hx
  refine⟨⟨s.HL (.tail _ (.head _)) (Es (l:=w64) (by omega)),s.HL (.head _) rfl,s.HL (.head _) rfl,s.HL (.head _) rfl,s.HL (.head _) rfl,s.HL (.head _) rfl,s.HL (.head _) rfl,s.HL (.head _) rfl,trivial⟩,?_⟩
  refine I8 xB fun _ hx=>?_
  cases hx
  refine⟨⟨s.HL (.tail _ (.head _)) (Es (l:=w64) (by omega)),s.HL (.head _) rfl,s.HL (.head _) rfl,s.HL (.head _) rfl,s.HL (.head _) rfl,s.HL (.head _) rfl,s.HL (.head _) rfl,trivial⟩,?_⟩
  refine JY ?_
  refine I8 zc fun _ hx=>?_
  cases hx
  refine⟨⟨s.HL (.tail _ (.head _)) (Es (l:=w64) (by omega)),s.HL (.head _) rfl,s.HL (.head _) rfl,s.HL (.head _) rfl,s.HL (.head _) rfl,s.HL (.head _) rfl,trivial⟩,?_⟩
  refine JY ?_
  refine JZ ?_
  refine JZ ?_
  refine JZ ?_
  refine JZ ?_
  refine JC (i:=0) (by omega) ?_
  refine s.ld (o:=0) (.head _) rfl ?_
  refine JC (i:=0) (by omega) ?_
  refine s.ld (o:=0) (.head _) rfl ?_
  refine JC (i:=0) (by omega) ?_
  refine s.ld (o:=0) (.head _) rfl ?_
  refine JC (i:=0) (by omega) ?_
  refine s.ld (o:=0) (.head _) rfl ?_
  refine JC (i:=1) (by omega) ?_
  refine s.ld (o:=1) (.head _) rfl ?_
  refine Tv ?_
  refine JC (i:=0) (by omega) ?_
  refine s.ld (o:=0) (.head _) rfl ?_
  refine JC (i:=2) (by omega) ?_
  refine s.ld (o:=2) (.head _) rfl ?_
  refine Tv ?_
  refine JY ?_
  refine JC (i:=1) (by omega) ?_
  refine s.ld (o:=1) (.head _) rfl ?_
  refine JC (i:=2) (by omega) ?_
  refine s.ld (o:=2) (.head _) rfl ?_
  refine Tv ?_
  refine JY ?_
  refine I8 r2 fun _ hx=>?_
  cases hx
  refine⟨⟨s.HL (.head _) rfl,s.HL (.head _) rfl,s.HL (.head _) rfl,s.HL (.head _) rfl,s.HL (.head _) rfl,s.HL (.head _) rfl,s.HL (.head _) rfl,s.HL (.head _) rfl,trivial⟩,?_⟩
  refine I8 xA fun _ hx=>?_
  cases hx
  refine⟨⟨s.HL (.head _) rfl,s.HL (.head _) rfl,s.HL (.head _) rfl,s.HL (.head _) rfl,s.HL (.head _) rfl,s.HL (.head _) rfl,s.HL (.head _) rfl,trivial⟩,?_⟩
  refine JY ?_
  refine I8 zd fun _ hx=>?_
  cases hx
  refine⟨⟨s.HL (.head _) rfl,s.HL (.head _) rfl,s.HL (.head _) rfl,s.HL (.head _) rfl,s.HL (.head _) rfl,s.HL (.head _) rfl,trivial⟩,?_⟩
  refine JY ?_
  refine JZ ?_
  refine JZ ?_
  refine JC (i:=0) (by omega) ?_
  refine s.ld (o:=0) (.head _) rfl ?_
  refine JC (i:=1) (by omega) ?_
  refine s.ld (o:=1) (.head _) rfl ?_
  refine JC (i:=2) (by omega) ?_
  refine s.ld (o:=2) (.head _) rfl ?_
  refine JC (i:=3) (by omega) ?_
  refine s.ld (o:=3) (.head _) rfl ?_
  refine JZ ?_
  refine JC (i:=4) (by omega) ?_
  refine s.ld (o:=4) (.head _) rfl ?_
  refine JC (i:=5) (by omega) ?_
  refine s.ld (o:=5) (.head _) rfl ?_
  refine JC (i:=6) (by omega) ?_
  refine s.ld (o:=6) (.head _) rfl ?_
  refine AA (v:=.agg ((round t (K.getD i 0) (w64.getD i 0)).l.map wv)) rfl ?_
  refine s.Gk (vs:=(round t (K.getD i 0) (w64.getD i 0)).l.map wv) rfl rfl fun H7 s7=>?_
  rw[<- hrt]at s7
  refine Dg (b:=1) ⟨by omega,by omega⟩ ⟨⟨rfl,rfl,rfl,rfl,i+1,rfl,by omega,s7⟩,?_⟩
  show _<μ3 (e 0) (e 4) (e 11) (e 102) (e 103) H6
  rw[hmu]
  show((64:Int)-((i:Int)+1)).toNat<_
  omega
 have hi64:i=64:=by omega
 subst hi64
 clear hmu
 rw[Ac (by rw[X9];omega),Ac (by omega)]at s
 generalize hfin:rounds K w64 s0=t at s
 have hnew:compress s0 bs=s0.add t:=by unfold compress;rw[<- hw64,hfin]
 have hs6:H6.get rs=some (.cells (s0.l.map wv)):=by rw[s.k.get rs hrs];exact hs
 obtain⟨g1,_,ht6⟩:=s.l _ (.head _)
 have hne:qt≠rs:=by have:H.next<=qt:=g1;omega
 have hA:(s0.add t).l.length=s0.l.length:=rfl
 let I4:AV->AV->AV->AH->Prop:=fun e0 e11 e190 H'=>e0=.ptr rs 0/\e11=.ptr qt 0/\∃i:Nat,e190=iv (i:Int)/\i<=8/\Up H6 rs ((Q1 (s0.add t).l s0.l i).map wv) H'
 let μ4:AV->AV->AV->AH->Nat:=fun _ _ e190 _=>match e190 with
  | .int _ j=>((8:Int)-j).toNat
  | _=>0
 refine⟨I4,μ4,⟨rfl,rfl,0,rfl,by omega,rfl,rfl,hs6,fun _ _=>rfl⟩,?_⟩
 clear e0 e4 e11 e102 e103
 intro e H8 hI
 obtain⟨e0,e11,i,e190,hi,u⟩:=(hI:I4 (e 0) (e 11) (e 190) H8)
 have hmu:μ4 (e 0) (e 11) (e 190) H8=((8:Int)-(i:Int)).toNat:=by rw[e190]
 show AB (.bin .lss (.cst (e 190)) (.cst (I 8))) _
 rw[e0,e11,e190]
 refine Dk (b:=8) (fun hlt=>Cw ?_) (fun hlt=>BS ?_)
 ·have h8:i<s0.l.length:=by show i<8;omega
  refine AA (v:=.ptr rs 0) rfl (JC (i:=i) (by omega) ?_)
  refine AX (v:=wv (s0.l.getD i 0)) (by simp only[AZ,BC,AF.ev,AH.cells?,u.at_,apart];exact an h8 hA) ?_
  refine JC (i:=i) (by omega) (AX (v:=wv (t.l.getD i 0)) (by
   simp only[AZ,BC,AF.ev,AH.cells?,u.ne qt hne,ht6,apart]
   have:i<t.l.length:=by show i<8;omega
   rw[Bf,A6,Ak this];rfl) (JZ ?_))
  have hsum:s0.l.getD i 0+t.l.getD i 0=(s0.add t).l.getD i 0:=by
   match i,(show i<8 by omega)with
   | 0,_ | 1,_ | 2,_ | 3,_ | 4,_ | 5,_ | 6,_ | 7,_=>rfl
   | n+8,h=>omega
  rw[hsum]
  refine AA (v:=.ptr rs 0) rfl (JC (i:=i) (by omega) ?_)
  refine Ap (v:=.unk) (H':=H8.set rs (.cells ((Q1 (s0.add t).l s0.l (i+1)).map wv))) (by
   simp only[BL,AF.ev,AH.cells?,u.at_]
   show(if 1=1/\i+1<=((Q1 (s0.add t).l s0.l i).map wv).length then some (AV.unk,H8.set rs (.cells (As ((Q1 (s0.add t).l s0.l i).map wv) i [wv ((s0.add t).l.getD i 0)])))else none)=_
   rw[if_pos ⟨rfl,by simp[Q1];rw[hA];omega⟩]
   unfold As
   rw[<- ak h8 hA]) ?_
  refine Dg (b:=1) ⟨by omega,by omega⟩ ⟨⟨rfl,rfl,i+1,rfl,by omega,u.set⟩,?_⟩
  show _<μ4 (e 0) (e 11) (e 190) H8
  rw[hmu]
  show((8:Int)-((i:Int)+1)).toNat<_
  omega
 have hi8:i=8:=by omega
 subst hi8
 refine⟨rfl,H6,_,s,?_⟩
 rw[hnew]
 exact u
end
end Go.Proofs.YtlmkmpomgdbjhaaGreatDoor
namespace Go.AL
section
open Sha
variable [BX]
inductive Bb:List (Nat × List AV)->List UInt8->AV->Prop
 | nil:Bb [] [] .nils
 | op (r:Nat) {bs:List UInt8} (h:bs≠[]):Bb [(r,bs.map bv)] bs (.sl r 0 bs.length (.op 1))
theorem Bb.len {o:List (Nat × List AV)}{bs:List UInt8}{v:AV}(h:Bb o bs v){K:AV->Prop}(hK:K (iv (bs.length:Int))):AB (.len (.cst v)) K:=by
 cases h with
 | nil=>exact AA (v:=iv 0) rfl hK
 | op r h=>exact AA (v:=iv (bs.length:Int)) rfl hK
section
variable {H0 H:AH}{L:List (Nat × List AV)}
theorem Bb.app {o:List (Nat × List AV)}{bs ys:List UInt8}{v x:AV}{K:AV->AH->Prop}(s:BO H0 (o++L) H) (h:Bb o bs v) (hx:Aj 1 x H=some (ys.length,ys.map bv)) (hl:bs.length+ys.length<1099511627776)
  (hK:∀o' v' H',BO H0 (o'++L) H'->Bb o' (bs++ys) v'->K v' H'):AQ (.append 1 1 (.cst v) (.cst x)) H K:=by
 by_cases hy:ys=[]
 ·subst hy
  refine Ap (v:=v) (H':=H) ?_ (hK o v H s (by rw[DY];exact h))
  cases h with
  | nil=>simp[BL,AF.ev,Bx,hx]
  | op r h=>
   obtain⟨_,_,g3⟩:=s.l (r,_) (.head _)
   have g3:H.get r=some (.cells (bs.map bv)):=g3
   simp only[BL,AF.ev,Bx,hx,AH.cells?,g3]
   simp
 ·have hyl:0<ys.length:=List.length_pos_iff.2 hy
  have hy0:¬ys.length=0:=by omega
  cases h with
  | nil=>
   have hb:ys.length*1<=140737488355328/\ys.length<=9223372036854775807:=by simp at hl;omega
   refine Ap (v:=.sl H.next 0 ys.length (.op 1)) (H':=H.push (.cells (ys.map bv))) (by
    simp only[BL,AF.ev,Bx,hx]
    rw[if_neg hy0,if_pos hb]) ?_
   exact hK [(H.next,ys.map bv)] _ _ (BO.push (o:=ys.map bv) s) (by simpa using Bb.op H.next hy)
  | op r h=>
   obtain⟨_,_,g3⟩:=s.l (r,_) (.head _)
   have g3:H.get r=some (.cells (bs.map bv)):=g3
   refine Ap (v:=.sl H.next 0 (bs.length+ys.length) (.op 1)) (H':=(H.erase r).push (.cells (bs.map bv++ys.map bv))) (by
    simp only[BL,AF.ev,Bx,hx,AH.cells?,g3]
    rw[if_neg hy0,if_pos ⟨trivial,by simp,by omega,by omega⟩]
    simp[Ac]) ?_
   have s2:=(BO.erase (L:=L) s).push (o:=bs.map bv++ys.map bv)
   have s3:BO H0 ([(H.next,(bs++ys).map bv)]++L) ((H.erase r).push (.cells (bs.map bv++ys.map bv))):=by
    rw[Fc];exact s2
   refine hK [(H.next,(bs++ys).map bv)] _ _ s3 ?_
   have:=Bb.op H.next (bs:=bs++ys) (by simp[hy])
   rwa [Aa]at this
theorem Bb.fi {o:List (Nat × List AV)}{bs:List UInt8}{b:UInt8}{v:AV}{z:List AV}{K:AV->AH->Prop}(s:BO H0 (o++L) H) (h:Bb o bs v) (hz:z.length=1) (hl:bs.length+1<1099511627776)
  (hK:∀o' v' H',BO H0 (o'++L) H'->Bb o' (bs++[b]) v'->K v' H'):AQ (.buildSlice 1 1 z [(0,1,(.cst (bv b)))]) H fun v17 h17=>AQ (.append 1 1 (.cst v) (.cst v17)) h17 K:=by
 obtain⟨z0,rfl⟩:∃z0,z=[z0]:=by
  match z,hz with
  | [z0],_=>exact⟨z0,rfl⟩
 refine Ap (v:=.sl H.next 0 1 (.ex 1)) (H':=H.push (.cells [bv b])) rfl ?_
 have s1:BO H0 (o++(H.next,[bv b])::L) (H.push (.cells [bv b])):=(s.push (o:=[bv b])).perm JL
 refine Bb.app (ys:=[b]) s1 h (by simp[Aj,AH.cells?,AH.Af]) hl fun o' v' H' s' h'=>hK o' v' H' (s'.sub ?_) h'
 exact(List.Sublist.cons _ (FD _)).append_left o'
end
def KM (bs:List UInt8) (v:AV):Prop:=(bs=[]/\v=.nils)\/∃b,v=.sim (bs.map bv) bs.length b
theorem KM.cells {bs:List UInt8}{v:AV}(h:KM bs v) (H:AH):Aj 1 v H=some (bs.length,bs.map bv):=by
 rcases h with⟨rfl,rfl⟩ | ⟨b,rfl⟩
 ·rfl
 ·simp[Aj]
theorem KM.len {bs:List UInt8}{v:AV}(h:KM bs v){K:AV->Prop}(hK:K (iv (bs.length:Int))):AB (.len (.cst v)) K:=by
 rcases h with⟨rfl,rfl⟩ | ⟨b,rfl⟩
 ·exact AA (v:=iv 0) rfl hK
 ·exact AA (v:=iv (bs.length:Int)) rfl hK
abbrev uv (n:Nat):AV:=.int .u64 (n:Int)
theorem Ff (n:Int):IntKind.u64.wrap n=n % 18446744073709551616:=by simp[IntKind.wrap,IntKind.bits,IntKind.signed]
section
variable {K:AV->Prop}
theorem rn {n:Nat}(h:n<9223372036854775808) (hK:K (uv n)):AB (.convI .u64 (.cst (iv (n:Int)))) K:=AA (by
 show some (AV.int .u64 (IntKind.u64.wrap (n:Int)))=_
 rw[Ff,show((n:Int) % 18446744073709551616)=(n:Int)by omega]) hK
theorem lu {a b:Nat}(h:a+b<18446744073709551616) (hK:K (uv (a+b))):AB (.bin .add (.cst (uv a)) (.cst (uv b))) K:=AA (by
 show some (AV.int .u64 (IntKind.u64.wrap ((a:Int)+(b:Int))))=_
 rw[Ff,show(((a:Int)+(b:Int)) % 18446744073709551616)=((a+b:Nat):Int)by omega]) hK
theorem iQ {a:Nat}(h:8*a<18446744073709551616) (hK:K (uv (8*a))):AB (.bin .mul (.cst (N .u64 8)) (.cst (uv a))) K:=AA (by
 show some (AV.int .u64 (IntKind.u64.wrap ((8:Int)*(a:Int))))=_
 rw[Ff,show(((8:Int)*(a:Int)) % 18446744073709551616)=((8*a:Nat):Int)by omega]) hK
theorem gB {a k:Nat}(hk:k<64) (hK:K (uv (a >>> k))):AB (.bin .shr (.cst (uv a)) (.cst (iv (k:Int)))) K:=AA (by
 show(if (0:Int)<=(k:Int)then some (AV.int .u64 ((a:Int).fdiv (2 ^ (min ((k:Int).toNat) 64))))else none)=_
 rw[if_pos (by omega),Cp,CV (by omega),Hv]
 rw[E6 _ (by exact Wq (by omega))]
 norm_cast) hK
theorem gA {a:Nat}(hK:K (bv (UInt8.ofNat a))):AB (.convI .u8 (.cst (uv a))) K:=AA (by
 show some (AV.int .u8 (IntKind.u8.wrap (a:Int)))=some (AV.int .u8 ((UInt8.ofNat a).toNat:Int))
 have e:IntKind.u8.wrap (a:Int)=((a % 256:Nat):Int):=by simp[IntKind.wrap,IntKind.bits,IntKind.signed]
 rw[e,UInt8.toNat_ofNat']) hK
end
theorem QT (n:Nat):(ZA n).length=8:=rfl
theorem Y_ (n k:Nat) (hk:k<8):(ZA n).take k++[UInt8.ofNat (n >>> (56-8*k))]=(ZA n).take (k+1):=by
 match k,hk with
 | 0,_ | 1,_ | 2,_ | 3,_ | 4,_ | 5,_ | 6,_ | 7,_=>rfl
 | n+8,h=>omega
theorem XS (m:List UInt8):(pad m).length=m.length+1+Ga m.length+8:=by simp[pad,QT];omega
theorem XR (m:List UInt8):(pad m).length % 64=0:=by rw[XS];unfold Ga;omega
theorem Nm:∀(n:Nat) (b:List UInt8) (s:S8),blocks (n+1) b s=compress (blocks n b s) ((b.drop (64*n)).take 64)
 | 0,b,s=>by simp[blocks]
 | n+1,b,s=>by
  show blocks (n+1) (b.drop 64) (compress s (b.take 64))=_
  rw[Nm n,C0,show 64+64*n=64*(n+1)by omega];rfl
end
end Go.AL
namespace Go.Proofs.YtlmkmpomgdbjhaaGreatDoor
open Tryz
section
open Go Go.AL Go.AL.Sha
variable [BX]
abbrev SH (parts:List (List UInt8)):Nat->List AV->Prop:=fun i c=>∃v bs,c=[v]/\parts[i]?=some bs/\KM bs v
def rG (H:AH) (p:List UInt8):Nat->AH->List AV->Prop:=fun i Hi x=>∃r lim cs,x=[.sl r (64*i) 64 lim]/\H.next<=r/\r<Hi.next/\Hi.get r=some (.cells cs)/\∀j,j<64->cs[64*i+j]?=some (bv (((p.drop (64*i)).take 64).getD j 0))
def rJ:(Nat->AH->Prop)->Prop:=fun I=>∀i H1 H2,I i H1->BT H1 H2->I i H2
def rI (H:AH):AH->AH->Prop:=fun H1 H2=>∀r,H.next<=r->r<H1.next->H2.get r=H1.get r
set_option maxHeartbeats 2000000 in
theorem cg {H:AH}{cb:Nat}{pv:AV}{parts:List (List UInt8)}(hcb:H.get cb=some (.cells [pv])) (hp:FL 1 (SH parts) parts.length pv) (hpn:parts.length<1099511627776) (hl:parts.flatten.length<68719476736) :
  NF prog 303 [.ptr cb 0] H ((pad parts.flatten).length / 64) (rG H (pad parts.flatten)) rJ (rI H):=vo fun l I hCl hI=>by
 unfold lF
 refine AX (v:=pv) (by simp[AZ,BC,AF.ev,AH.cells?,hcb,apart]) (hp.len ?_)
 let I1:AV->AV->AV->AV->AV->AV->AH->Prop:=fun e0 e3 e4 e8 e9 e10 H'=>e0=.fn (.yield l) [] []/\e8=pv/\e9=iv (parts.length:Int)/\∃(i:Nat) (o:List (Nat × List AV)),e10=iv (i:Int)/\i<=parts.length/\e4=uv (parts.take i).flatten.length/\Bb o (parts.take i).flatten e3/\BO H (o++[]) H'
 let μ1:AV->AV->AV->AV->AV->AV->AH->Nat:=fun _ _ _ _ _ e10 _=>match e10 with
  | .int _ j=>((parts.length:Int)-j).toNat
  | _=>0
 refine⟨I1,μ1,⟨rfl,rfl,rfl,0,[],rfl,by omega,rfl,.nil,BO.start H⟩,?_⟩
 intro e H2 hIv
 obtain⟨e0,e8,e9,i,o,e10,hi,e4,hB,s⟩:=(hIv:I1 (e 0) (e 3) (e 4) (e 8) (e 9) (e 10) H2)
 have hmu:μ1 (e 0) (e 3) (e 4) (e 8) (e 9) (e 10) H2=((parts.length:Int)-(i:Int)).toNat:=by rw[e10]
 show AB (.bin .lss (.cst (e 10)) (.cst (e 9))) _
 rw[e0,e4,e8,e9,e10]
 refine Dk (fun hlt=>Cw ?_) (fun hlt=>BS ?_)
 ·have hi':i<parts.length:=by omega
  refine hp.Om hi' fun x _ hx=>?_
  obtain⟨x',bs,hx1,hbs,hF⟩:=hx
  cases hx1
  have hfl:(parts.take (i+1)).flatten=(parts.take i).flatten++bs:=by rw[DZ,hbs,Gz];simp
  have hle:(parts.take (i+1)).flatten.length<=parts.flatten.length:=(by
   have h:=congrArg List.flatten (Fw (i+1) parts)
   rw[Gz]at h
   rw[<- h,Aa];omega)
  rw[hfl,Aa]at hle
  refine hB.app s (hF.cells _) (by omega) fun o' v' H3 s3 hB3=>hF.len (rn (by omega) (lu (by omega) ?_))
  rw[<- Aa,<- hfl]
  rw[<- hfl]at hB3
  refine Dg (b:=1) ⟨by omega,by omega⟩ ⟨⟨rfl,rfl,rfl,i+1,o',rfl,by omega,rfl,hB3,s3⟩,?_⟩
  show _<μ1 (e 0) (e 3) (e 4) (e 8) (e 9) (e 10) H2
  rw[hmu]
  show((parts.length:Int)-((i:Int)+1)).toNat<_
  omega
 have hin:i=parts.length:=by omega
 subst hin
 rw[Ac (A5 _)]at hB ⊢
 generalize parts.flatten=m at hl hB ⊢
 refine hB.fi (b:=128) s rfl (by omega) fun o1 v1 H3 s hB=>?_
 clear hmu
 have hz:Ga m.length<64:=by unfold Ga;omega
 let I2:AV->AV->AV->AH->Prop:=fun e0 e3 e4 H'=>e0=.fn (.yield l) [] []/\e4=uv m.length/\∃(j:Nat) (o:List (Nat × List AV)),j<=Ga m.length/\Bb o (m++128::List.replicate j 0) e3/\BO H (o++[]) H'
 let μ2:AV->AV->AV->AH->Nat:=fun _ e3 _ _=>match e3 with
  | .sl _ _ n _=>m.length+1+Ga m.length-n
  | _=>0
 refine⟨I2,μ2,⟨rfl,rfl,0,o1,by omega,hB,s⟩,?_⟩
 clear s e0 e4 e8 e9 e10 hB hi
 intro e H4 hIv
 obtain⟨e0,e4,j,o,hj,hB,s⟩:=(hIv:I2 (e 0) (e 3) (e 4) H4)
 have hlen:(m++128::List.replicate j (0:UInt8)).length=m.length+1+j:=by simp;omega
 have hmu:μ2 (e 0) (e 3) (e 4) H4=Ga m.length-j:=by
  generalize hq:m++128::List.replicate j (0:UInt8)=q at hB hlen
  generalize e 3=e3 at hB
  cases hB with
  | nil=>cases m<;>simp at hq
  | op r h=>show m.length+1+Ga m.length-q.length=_;omega
 show AB (.len (.cst (e 3))) _
 rw[e0,e4]
 refine hB.len (gG (b:=64) (by omega) (by omega) (cZ (b:=56) (fun hne=>Cw ?_) (fun he=>BS ?_)))
 ·rw[hlen]at hne
  have hjz:j<Ga m.length:=by unfold Ga at hj ⊢;omega
  refine hB.fi (b:=0) s rfl (by rw[hlen];omega) fun o' v' H5 s5 hB5=>?_
  have e1:m++128::List.replicate j (0:UInt8)++[0]=m++128::List.replicate (j+1) 0:=by rw[List.replicate_succ'];simp
  rw[e1]at hB5
  refine⟨⟨rfl,rfl,j+1,o',by omega,hB5,s5⟩,?_⟩
  show μ2 (.fn (.yield l) [] []) v' (uv m.length) H5<μ2 (e 0) (e 3) (e 4) H4
  rw[hmu]
  have hlen2:(m++128::List.replicate (j+1) (0:UInt8)).length=m.length+1+(j+1):=by simp;omega
  generalize hq:m++128::List.replicate (j+1) (0:UInt8)=q at hB5 hlen2
  cases hB5 with
  | nil=>cases m<;>simp at hq
  | op r h=>show m.length+1+Ga m.length-q.length<_;omega
 rw[hlen]at he
 have hjz:j=Ga m.length:=by unfold Ga at hj ⊢;omega
 subst hjz
 clear hmu
 let I3:AV->AV->AV->AV->AH->Prop:=fun e0 e3 e4 e7 H'=>e0=.fn (.yield l) [] []/\e4=uv m.length/\∃(k:Nat) (o:List (Nat × List AV)),e7=iv (56-8*(k:Int))/\k<=8/\Bb o ((m++128::List.replicate (Ga m.length) 0)++(ZA (8*m.length)).take k) e3/\BO H (o++[]) H'
 let μ3:AV->AV->AV->AV->AH->Nat:=fun _ _ _ e7 _=>match e7 with
  | .int _ j=>(j+8).toNat
  | _=>0
 refine⟨I3,μ3,⟨rfl,rfl,0,o,rfl,by omega,(by rw[Lf,DY];exact hB),s⟩,?_⟩
 clear s e0 e4 hB
 intro e H5 hIv
 obtain⟨e0,e4,k,o,e7,hk,hB,s⟩:=(hIv:I3 (e 0) (e 3) (e 4) (e 7) H5)
 have hmu:μ3 (e 0) (e 3) (e 4) (e 7) H5=(56-8*(k:Int)+8).toNat:=by rw[e7]
 show AB (.bin .geq (.cst (e 7)) (.cst (Go.AL.I 0))) _
 rw[e0,e4,e7]
 refine gp (b:=0) (fun hge=>Cw ?_) (fun hge=>BS ?_)
 ·have hk8:k<8:=by omega
  refine iQ (by omega) ?_
  rw[show(56:Int)-8*(k:Int)=((56-8*k:Nat):Int)by omega]
  refine gB (by omega) (gA ?_)
  refine hB.fi s rfl (by simp[QT];omega) fun o' v' H6 s6 hB6=>?_
  rw[Ao,Y_ _ _ hk8]at hB6
  refine Km (b:=8) ⟨by omega,by omega⟩ ⟨⟨rfl,rfl,k+1,o',?_,by omega,hB6,s6⟩,?_⟩
  ·show iv (((56-8*k:Nat):Int)-8)=iv (56-8*((k+1:Nat):Int))
   rw[show(((56-8*k:Nat):Int)-8)=56-8*((k+1:Nat):Int)by omega]
  show(((56-8*k:Nat):Int)-8+8).toNat<μ3 (e 0) (e 3) (e 4) (e 7) H5
  rw[hmu]
  omega
 have hk8:k=8:=by omega
 subst hk8
 clear hmu
 have hpad:(m++128::List.replicate (Ga m.length) 0)++(ZA (8*m.length)).take 8=pad m:=by rw[List.take_of_length_le (by rw[QT];omega)];unfold pad;simp
 rw[hpad]at hB
 have hpl:=XS m
 have hpm:=XR m
 have hN:(pad m).length=64*((pad m).length / 64):=by omega
 have hI5:I 0 H5:=hCl 0 H H5 hI s.k
 obtain⟨r,hr1,hr2,hr3,he3⟩:∃r,H.next<=r/\r<H5.next/\H5.get r=some (.cells ((pad m).map bv))/\e 3=.sl r (64*0) (64*((pad m).length / 64)-64*0) (.op 1):=by
  generalize hq:pad m=q at hB hpl hN
  generalize e 3=e3 at hB
  cases hB with
  | nil=>simp at hpl
  | op r h=>
   obtain⟨g1,g2,g3⟩:=s.l (r,_) (.head _)
   exact⟨r,g1,g2,g3,by rw[<- hN,Nat.mul_zero,Nat.sub_zero]⟩
 rw[he3]
 generalize hNN:(pad m).length / 64=N at hN ⊢
 let I4:AV->AV->AH->Prop:=fun e0 e3 H'=>e0=.fn (.yield l) [] []/\∃i:Nat,i<=N/\e3=.sl r (64*i) (64*N-64*i) (.op 1)/\r<H'.next/\H'.get r=some (.cells ((pad m).map bv))/\I i H'
 let μ4:AV->AV->AH->Nat:=fun _ e3 _=>match e3 with
  | .sl _ _ n _=>n
  | _=>0
 refine⟨I4,μ4,⟨rfl,0,by omega,rfl,hr2,hr3,hI5⟩,?_⟩
 clear s e0 e4 e7 hB hr2 hr3 hI5 he3
 intro e H6 hIv
 obtain⟨e0,i,hi,e3,hr2,hr3,hIi⟩:=(hIv:I4 (e 0) (e 3) H6)
 have hmu:μ4 (e 0) (e 3) H6=64*N-64*i:=by rw[e3]
 show AB (.len (.cst (e 3))) _
 rw[e0,e3]
 refine AA (v:=iv ((64*N-64*i:Nat):Int)) rfl (Xz (b:=0) (fun hgt=>Cw ?_) (fun hgt=>BS ?_))
 ·have hiN:i<N:=by omega
  refine AA (v:=.sl r (64*i) 64 (.op 1)) (by
   show(if (1:Nat)=1/\(0:Int)<=0/\(0:Int)<=64/\(64:Int)<=((64*N-64*i:Nat):Int)then some (AV.sl r (64*i+(0:Int).toNat*1) ((64:Int)-0).toNat (.op 1))else none)=_
   rw[if_pos ⟨rfl,by omega,by omega,by omega⟩];rfl) ?_
  refine(show _/\_ from⟨rfl,i,hiN,⟨r,.op 1,_,rfl,hr1,hr2,hr3,fun j hj=>?_⟩,hIi,fun H7 hle hI7 hG7=>?_⟩)
  ·have hlt:64*i+j<(pad m).length:=by omega
   rw[Bf,Ak hlt,A6,Gx hj,DX,Ak hlt];rfl
  ·have hg7:H7.get r=some (.cells ((pad m).map bv)):=by rw[hG7 r hr1 hr2];exact hr3
   show AB (.un .not (.cst (.bool true))) _
   refine RM (BS ?_)
   refine AA (v:=.sl r (64*(i+1)) (64*N-64*(i+1)) (.op 1)) (by
    show(if (1:Nat)=1/\(0:Int)<=64/\(64:Int)<=((64*N-64*i:Nat):Int)/\((64*N-64*i:Nat):Int)<=((64*N-64*i:Nat):Int)then some (AV.sl r (64*i+(64:Int).toNat*1) ((((64*N-64*i:Nat):Int))-64).toNat (.op 1))else none)=_
    rw[if_pos ⟨rfl,by omega,by omega,by omega⟩]
    congr 2
    omega) ?_
   refine⟨⟨rfl,i+1,by omega,rfl,DD hr2 hle,hg7,hI7⟩,?_⟩
   show 64*N-64*(i+1)<μ4 (e 0) (e 3) H6
   rw[hmu]
   omega
 have hiN:i=N:=by omega
 subst hiN
 exact⟨⟨_,rfl⟩,hIi⟩
end
end Go.Proofs.YtlmkmpomgdbjhaaGreatDoor
namespace Go.AL
section
open Sha
variable [BX]
theorem iM {a:UInt32}{k:Nat}{K:AV->Prop}(hk:k<32) (hK:K (wv (a >>> UInt32.ofNat k))):AB (.bin .shr (.cst (wv a)) (.cst (iv (k:Int)))) K:=by
 have e:(UInt32.ofNat k).toNat=k:=by rw[UInt32.toNat_ofNat'];omega
 refine AA ?_ hK
 show(if (0:Int)<=(k:Int)then some (AV.int .u32 ((a.toNat:Int).fdiv (2 ^ (min ((k:Int).toNat) 32))))else none)=some (AV.int .u32 ((a >>> UInt32.ofNat k).toNat:Int))
 rw[if_pos (by omega),UInt32.toNat_shiftRight,Cp,CV (by omega),e,C6 hk,Hv]
 congr 2
 rw[E6 _ (by exact Wq (by omega))]
 norm_cast
theorem Uz:∀(l:List UInt32) (j k:Nat),k<4->j<l.length->(l.flatMap Sha.bytes)[4*j+k]?=some ((l.getD j 0 >>> UInt32.ofNat (24-8*k)).toUInt8)
 | [],j,k,_,h=>by simp at h
 | x::l,0,k,hk,_=>by
  rw[D2,ED (by show 4*0+k<4;omega)]
  match k,hk with
  | 0,_ | 1,_ | 2,_=>rfl
  | 3,_=>
   show some x.toUInt8=some (x >>> 0).toUInt8
   simp
  | k+4,h=>omega
 | x::l,j+1,k,hk,h=>by
  rw[D2,De (by show 4<=_;omega),show 4*(j+1)+k-(Sha.bytes x).length=4*j+k by show 4*(j+1)+k-4=_;omega,Uz l j k hk (by simpa using h)]
  rfl
theorem Fk (s:S8):(s.l.flatMap Sha.bytes).length=32:=rfl
theorem Ef:∀(l:List UInt8) (k:Nat),HK k (l.map bv)
 | [],_=>.nil
 | _::l,k=>.cons (.int _ _) (Ef l k)
def Jh (n:Nat) (l:List UInt8):List AV:=(l++List.replicate (n-l.length) 0).map bv
theorem Pg {n:Nat}{l:List UInt8}(h:l.length<=n):(Jh n l).length=n:=by simp[Jh];omega
theorem Pf {n:Nat}{l:List UInt8}{x:UInt8}(h:l.length<n):As (Jh n l) l.length [bv x]=Jh n (l++[x]):=by
 unfold As Jh
 have e:n-l.length=(n-1-l.length)+1:=by omega
 have e2:n-(l++[x]).length=n-1-l.length:=by rw[Aa,O3];omega
 show(List.map bv (l++List.replicate (n-l.length) 0)).set l.length (bv x)=_
 rw[e2,e,OM,<- List.map_set,Hs _ _ (A5 _),Ia,O7,Ao];rfl
theorem Mp {n:Nat}{l:List UInt8}(h:l.length=n):Jh n l=l.map bv:=by unfold Jh;rw[h,Nat.sub_self];simp
theorem BO.GI {H0 H H':AH}{L:List (Nat × List AV)}(h:BO H0 L H) (hk:BT H H'):BO H0 L H':=
 ⟨h.k.trans hk,fun x hx=>let ⟨a,b,c⟩:=h.l x hx;⟨a,DD b hk.nx,by rw[hk.get _ b];exact c⟩,h.nd⟩
theorem BO.up {H0 H Hb H':AH}{L L2:List (Nat × List AV)}{r:Nat}{c c':List AV}(h:BO H0 ((r,c)::L) H) (h2:BO H L2 Hb) (u:Up Hb r c' H'):BO H0 ((r,c')::L) H':=by
 have hnd:=h.nd
 rw[B6,Fy]at hnd
 obtain⟨g1,g2,g3⟩:=h.l _ (.head _)
 refine⟨⟨Cs h.k.nx (by rw[u.nx];exact h2.k.nx),fun q hq=>?_,u.gl.trans (h2.k.gl.trans h.k.gl)⟩,fun w hw=>?_,by rw[B6,Fy];exact hnd⟩
 ·have hqn:=DD hq h.k.nx
  rw[u.ne q (by simp only at g1;omega),h2.k.get q hqn,h.k.get q hq]
 ·cases hw with
  | head=>exact⟨g1,DD g2 (by rw[u.nx];exact h2.k.nx),u.at_⟩
  | tail _ hw=>
   obtain⟨k1,k2,k3⟩:=h.l w (.tail _ hw)
   refine⟨k1,DD k2 (by rw[u.nx];exact h2.k.nx),?_⟩
   rw[u.ne w.1 (fun e=>hnd.1 (Bt.2 ⟨w,hw,e⟩)),h2.k.get _ k2,k3]
end
end Go.AL
namespace Go.Proofs.YtlmkmpomgdbjhaaGreatDoor
open Tryz
section
open Go Go.AL Go.AL.Sha
variable [BX]
theorem wu {H:AH}{pv:AV}(h1:pv.cellsOf=some [pv]):AP prog 182 [pv] H fun o H'=>o=.ret (.fn (.func 303) [] [.ptr H.next 0])/\H'=H.push (.cells [pv]):=by
 refine uM ?_
 unfold pg
 exact Ap (v:=.ptr H.next 0) (H':=H.push (.cells [pv])) (by simp[BL,AF.ev,h1]) ⟨rfl,rfl⟩
set_option maxHeartbeats 2000000 in
theorem b_ [Bp] {H:AH}{pv:AV}{parts:List (List UInt8)}(hg:H.gl=BX.G) (hp:FL 1 (SH parts) parts.length pv) (hpn:parts.length<1099511627776) (hl:parts.flatten.length<68719476736) :
  CP prog 88 [pv] H fun x=>x=.agg ((sum parts.flatten).map bv):=CP.of <| by
 refine T88 ?_
 unfold yg
 refine(BO.start H).alloc fun q1 H1 s=>?_
 refine AA (v:=.agg (init.l.map wv)) rfl ?_
 refine s.alloc fun rs H2 s=>s.Gk (vs:=init.l.map wv) rfl rfl fun H3 s=>?_
 refine BK (wu hp.one) (fun v H4 h4=>?_) (fun v H4 h4=>by cases h4.1)
 obtain⟨hv,rfl⟩:=h4
 cases hv
 have s5:=s.push (o:=[pv])
 generalize hcbe:H3.next=cb at s5
 generalize hH5:H3.push (.cells [pv])=H5 at s5
 obtain⟨_,hcb2,hcb3⟩:=s5.l _ (.head _)
 obtain⟨_,hrs5,_⟩:=s5.l _ (.tail _ (.head _))
 have s6:=s5.sub (JV _ _)
 generalize hm:parts.flatten=m at hl
 have hpm:=XR m
 have hN:(pad m).length=64*((pad m).length / 64):=by omega
 refine⟨303,[.ptr cb 0],(pad m).length / 64,rG H5 (pad m),rJ,rI H5,fun i Hi=>BO H [(rs,(blocks i (pad m) init).l.map wv),(q1,Bl 32 (N .u8 0) [])] Hi,rfl,?_,fun i Ha Hb h hk=>h.GI hk,s6,?_,?_⟩
 ·rw[<- hm]at hl ⊢
  exact cg hcb3 hp hpn hl
 ·intro i x Hi hi hx hIi hle
  obtain⟨r,lim,cs,rfl,g1,g2,g3,g4⟩:=hx
  show AG prog 183 [.ptr rs 0,.sl r (64*i) 64 lim] Hi SX _
  obtain⟨k1,k2,k3⟩:=hIi.l _ (.head _)
  refine BK (wt (hIi.k.gl.trans hg) k3 g3 g4 (by rw[BI,CK];omega) k2 g2) (fun v H' hpost=>?_) (fun v H' hpost=>by cases hpost.1)
  obtain⟨_,Hb,L,hs,u⟩:=hpost
  rw[<- Nm]at u
  refine⟨hIi.up hs u,fun q hq1 hq2=>?_⟩
  have hrs5:rs<H5.next:=hrs5
  rw[u.ne q (by omega),hs.k.get q hq2]
 intro H6 s
 have s:BO H [(rs,(blocks ((pad m).length / 64) (pad m) init).l.map wv),(q1,Bl 32 (N .u8 0) [])] H6:=s
 have hsum:sum m=(blocks ((pad m).length / 64) (pad m) init).l.flatMap Sha.bytes:=rfl
 rw[hsum]
 generalize blocks ((pad m).length / 64) (pad m) init=t at s
 refine s.alloc fun qd H7 s=>?_
 have s:BO H [(qd,Jh 32 ((t.l.flatMap Sha.bytes).take 0)),(rs,t.l.map wv),(q1,Bl 32 (N .u8 0) [])] H7:=s
 let I1:AV->AV->AV->AV->AH->Prop:=fun e2 e3 e5 e13 H'=>e2=.ptr q1 0/\e3=.ptr rs 0/\e5=.ptr qd 0/\∃i:Nat,e13=iv (i:Int)/\i<=32/\BO H [(qd,Jh 32 ((t.l.flatMap Sha.bytes).take i)),(rs,t.l.map wv),(q1,Bl 32 (N .u8 0) [])] H'
 let μ1:AV->AV->AV->AV->AH->Nat:=fun _ _ _ e13 _=>match e13 with
  | .int _ j=>((32:Int)-j).toNat
  | _=>0
 refine⟨I1,μ1,⟨rfl,rfl,rfl,0,rfl,by omega,s⟩,?_⟩
 clear s
 intro e H8 hIv
 obtain⟨e2,e3,e5,i,e13,hi,s⟩:=(hIv:I1 (e 2) (e 3) (e 5) (e 13) H8)
 have hmu:μ1 (e 2) (e 3) (e 5) (e 13) H8=((32:Int)-(i:Int)).toNat:=by rw[e13]
 show AB (.bin .lss (.cst (e 13)) (.cst (I 32))) _
 rw[e2,e3,e5,e13]
 refine Dk (b:=32) (fun hlt=>Cw ?_) (fun hlt=>BS ?_)
 ·refine mE (b:=4) (by omega) (by omega) (by omega) ?_
  rw[show(i:Int) / 4=((i / 4:Nat):Int)by omega]
  refine JC (i:=i / 4) (by omega) ?_
  have hi8:i / 4<t.l.length:=by show i / 4<8;omega
  refine s.ld (o:=i / 4) (x:=wv (t.l.getD (i / 4) 0)) (.tail _ (.head _)) (by rw[Bf,A6,Ak hi8];rfl) ?_
  refine gG (b:=4) (by omega) (by omega) (PT (a:=8) ⟨by omega,by omega⟩ (Km (a:=24) ⟨by omega,by omega⟩ ?_))
  rw[show(24:Int)-8*((i:Int) % 4)=((24-8*(i % 4):Nat):Int)by omega]
  refine iM (by omega) (lg (JC (i:=i) (by omega) ?_))
  have hget:=Uz t.l (i / 4) (i % 4) (by omega) hi8
  rw[show 4*(i / 4)+i % 4=i by omega]at hget
  generalize (t.l.getD (i / 4) 0 >>> UInt32.ofNat (24-8*(i % 4))).toUInt8=b at hget
  have hti:((t.l.flatMap Sha.bytes).take i).length=i:=by rw[BI,Fk];omega
  refine s.put (vs:=[bv b]) rfl rfl (by rw[Pg (by rw[hti];omega)];omega) fun H9 s9=>?_
  have hps:=Pf (n:=32) (l:=(t.l.flatMap Sha.bytes).take i) (x:=b) (by omega)
  rw[hti]at hps
  rw[hps,show(t.l.flatMap Sha.bytes).take i++[b]=(t.l.flatMap Sha.bytes).take (i+1)by rw[DZ,hget];rfl]at s9
  refine Dg (b:=1) ⟨by omega,by omega⟩ ⟨⟨rfl,rfl,rfl,i+1,rfl,by omega,s9⟩,?_⟩
  show _<μ1 (e 2) (e 3) (e 5) (e 13) H8
  rw[hmu]
  show((32:Int)-((i:Int)+1)).toNat<_
  omega
 have hi32:i=32:=by omega
 subst hi32
 rw[Ac (by rw[Fk];omega),Mp (Fk t)]at s
 refine s.Hc (.head _) (by rw[BR,Fk]) ?_
 have s2:BO H ((q1,Bl 32 (N .u8 0) [])::[(qd,(t.l.flatMap Sha.bytes).map bv),(rs,t.l.map wv)]) H8:=s.perm (by
  show List.Perm ([(q1,Bl 32 (N .u8 0) [])]++[(qd,(t.l.flatMap Sha.bytes).map bv),(rs,t.l.map wv)]) _
  exact OS)
 refine s2.Gk (by rw[BR,Fk]) rfl fun H9 s=>s.Hc (.head _) (by rw[BR,Fk]) ?_
 exact s.U3 (fun k=>.agg (Ef _ k)) rfl
end
end Go.Proofs.YtlmkmpomgdbjhaaGreatDoor
namespace Go.AL
section
variable [BX]
theorem Oo {t:Nat}(h:t<4611686018427387904):HO (false,[.i .i64]) (iv (t:Int))=some [Lit.int .i64 (t:Int)]:=by
 have hw:(Lit.int .i64 (t:Int)).wf=true:=by
  show(decide (IntKind.i64.min<=(t:Int))&&decide ((t:Int)<=IntKind.i64.max))=true
  have e1:IntKind.i64.min=-9223372036854775808:=by decide
  have e2:IntKind.i64.max=9223372036854775807:=by decide
  rw[e1,e2,AS,decide_eq_true_eq,decide_eq_true_eq]
  omega
 simp[HO,Q6,iv,hw]
theorem WB {a b:Nat}(h:iv (a:Int)=iv (b:Int)):a=b:=by
 have h2:(a:Int)=b:=by simpa[iv]using h
 omega
theorem xR {t:Nat}:∀{es:List (AV × AV × Nat)},(∀k∈es.map (·.1),∃s:Nat,k=iv (s:Int)/\s<4611686018427387904)->(es.map (·.1)).Nodup->∃r,Hg (false,[.i .i64]) [Lit.int .i64 (t:Int)] es=some r /\
  (r=none->iv (t:Int) ∉ es.map (·.1))/\∀j v,r=some (j,v)->∃e,es[j]?=some e/\e.1=iv (t:Int)
 | [],_,_=>⟨none,rfl,fun _=>by simp,fun j v h=>by cases h⟩
 | (k,x,n)::es,hk,hn=>by
  obtain⟨s,hs,hlt⟩:=hk k (Be ..)
  subst hs
  rw[B6,Fy]at hn
  obtain⟨r,h1,h2,h3⟩:=xR (t:=t) (fun e he=>hk e (Ct _ he)) hn.2
  by_cases hst:s=t
  ·subst hst
   have hr:r=none:=by
    cases r with
    | none=>rfl
    | some p=>
     obtain⟨e,he,h4⟩:=h3 p.1 p.2 rfl
     exact absurd (Bt.2 ⟨e,CU he,h4⟩) hn.1
   subst hr
   refine⟨some (0,x),?_,fun h=>(by cases h),fun j v h=>?_⟩
   ·simp[Hg,Oo hlt,h1,Dq,Xb]
   ·cases h;exact⟨_,rfl,rfl⟩
  ·have hne:Dq [Lit.int .i64 (s:Int)] [Lit.int .i64 (t:Int)]=false:=by
    cases hq:Dq [Lit.int .i64 (s:Int)] [Lit.int .i64 (t:Int)]with
    | false=>rfl
    | true=>
     have:=C1.1 hq
     simp at this
     omega
   refine⟨r.map fun p=>(p.1+1,p.2),?_,fun h=>?_,fun j v h=>?_⟩
   ·simp only[Hg,Oo hlt,h1,hne,cond_false]
   ·cases r with
    | some p=>cases h
    | none=>
     intro hm
     rw[B6,DM]at hm
     rcases hm with hm | hm
     ·exact hst (WB hm).symm
     ·exact h2 rfl hm
   ·cases r with
    | none=>cases h
    | some p=>
     simp only[E5,AD,A1]at h
     obtain⟨rfl,rfl⟩:=h
     obtain⟨e,he,h4⟩:=h3 p.1 p.2 rfl
     exact⟨e,by simpa using he,h4⟩
theorem LG {α β:Type}{f:α->α}{g:α->β}:∀(l:List α) (j:Nat),(∀e,l[j]?=some e->g (f e)=g e)->(l.modify j f).map g=l.map g
 | [],j,_=>by simp
 | x::l,0,h=>by simp[h x rfl]
 | x::l,j+1,h=>by
  simp only[List.modify_succ_cons,B6]
  rw[LG l j fun e he=>h e (by simpa using he)]
structure MK (es:List (AV × AV × Nat)) (clock:Nat) (S:Nat->Prop):Prop where
 key:∀k∈es.map (·.1),∃s:Nat,k=iv (s:Int)/\S s
 has:∀s:Nat,S s->iv (s:Int)∈es.map (·.1)
 nd:(es.map (·.1)).Nodup
 old:∀n∈es.map (·.2.2),n<clock
 OH:(es.map (·.2.2)).Nodup
theorem MK.congr {es:List (AV × AV × Nat)}{clock:Nat}{S S':Nat->Prop}(h:MK es clock S) (hS:∀s,S s↔S' s):MK es clock S':=
 ⟨fun k hk=>let ⟨s,h1,h2⟩:=h.key k hk;⟨s,h1,(hS s).1 h2⟩,fun s hs=>h.has s ((hS s).2 hs),h.nd,h.old,h.OH⟩
theorem MK.nil:MK [] 0 (fun _=>False):=⟨fun k hk=>(by simp at hk),fun s h=>h.elim,Wp,fun n hn=>(by simp at hn),Wp⟩
variable {H:AH}
theorem MK.iO {es:List (AV × AV × Nat)}{clock:Nat}{S:Nat->Prop}{t m:Nat}(hM:MK es clock S) (hS:∀s,S s->s<4611686018427387904) (ht:t<4611686018427387904) (hm:H.get m=some (.map es clock)){K:AV->AH->Prop}
  (hK:∀es' clock',MK es' clock' (fun x=>S x\/x=t)->K .unk (H.set m (.map es' clock'))):AQ (.mapUpd (false,[.i .i64]) (.cst (.mp m)) (.cst (iv (t:Int))) (.cst (.bool true))) H K:=by
 obtain⟨r,h1,h2,h3⟩:=xR (t:=t) (fun k hk=>let ⟨s,h1,h2⟩:=hM.key k hk;⟨s,h1,hS s h2⟩) hM.nd
 cases r with
 | none=>
  have h2:=h2 rfl
  refine Ap (v:=.unk) (H':=H.set m (.map (es++[(iv (t:Int),.bool true,clock)]) (clock+1))) (by simp only[BL,AF.ev,Oo ht,hm,h1]) (hK _ _ ⟨fun k hk=>?_,fun s hs=>?_,?_,fun n hn=>?_,?_⟩)
  ·rw[Fc,BW]at hk
   rcases hk with hk | hk
   ·obtain⟨s,q1,q2⟩:=hM.key k hk
    exact⟨s,q1,.inl q2⟩
   ·simp only[B6,Lq,CM]at hk
    exact⟨t,hk,.inr rfl⟩
  ·rw[Fc,BW]
   rcases hs with hs | rfl
   ·exact .inl (hM.has s hs)
   ·exact .inr (by simp)
  ·rw[Fc,List.nodup_append]
   refine⟨hM.nd,by simp,fun a ha b hb=>?_⟩
   simp only[B6,Lq,CM]at hb
   subst hb
   rintro rfl
   exact h2 ha
  ·rw[Fc,BW]at hn
   rcases hn with hn | hn
   ·have:=hM.old n hn;omega
   ·simp only[B6,Lq,CM]at hn
    omega
  ·rw[Fc,List.nodup_append]
   refine⟨hM.OH,by simp,fun a ha b hb=>?_⟩
   simp only[B6,Lq,CM]at hb
   subst hb
   have:=hM.old a ha
   omega
 | some p=>
  obtain⟨j,v⟩:=p
  obtain⟨e,he,hkey⟩:=h3 j v rfl
  have e1:(es.modify j fun x=>(iv (t:Int),AV.bool true,x.2.2)).map (·.1)=es.map (·.1):=LG es j fun e' h'=>by rw[he]at h';cases h';exact hkey.symm
  have e2:(es.modify j fun x=>(iv (t:Int),AV.bool true,x.2.2)).map (·.2.2)=es.map (·.2.2):=LG es j fun e' h'=>rfl
  have hin:iv (t:Int)∈es.map (·.1):=Bt.2 ⟨e,CU he,hkey⟩
  refine Ap (v:=.unk) (H':=H.set m (.map (es.modify j fun x=>(iv (t:Int),.bool true,x.2.2)) clock)) (by simp only[BL,AF.ev,Oo ht,hm,h1]) (hK _ _ ⟨fun k hk=>?_,fun s hs=>?_,by rw[e1];exact hM.nd,by rw[e2];exact hM.old,by rw[e2];exact hM.OH⟩)
  ·rw[e1]at hk
   obtain⟨s,q1,q2⟩:=hM.key k hk
   exact⟨s,q1,.inl q2⟩
  ·rw[e1]
   rcases hs with hs | rfl
   ·exact hM.has s hs
   ·exact hin
theorem dN {q m:Nat}{es:List (AV × AV × Nat)}{clock:Nat}{seen:List Nat}{cur:Option Nat}(hq:H.get q=some (.iter (some m) clock seen cur)) (hm:H.get m=some (.map es clock)) (ho:∀n∈es.map (·.2.2),n<clock){K:AV->AH->Prop}
  (h0:(∀e∈es,seen.contains e.2.2=true)->K (.tup [.bool false]) (H.set q (.iter (some m) clock seen none)))
  (h1:∀e∈es,seen.contains e.2.2=false->K (.tup [.bool true,e.1,e.2.1]) (H.set q (.iter (some m) clock (Kh e.2.2 seen) (some e.2.2)))):Vc (.ptr q 0) H K:=by
 have hok:sx es clock=true:=CY.2 fun e he=>by simpa using ho e.2.2 (Bt.2 ⟨e,he,rfl⟩)
 have e1:jk (.ptr q 0) H=some (some (q,match es.filter (fun x=>!seen.contains x.2.2)with
     | []=>[(.tup [.bool false],.iter (some m) clock seen none)]
     | y::l=>(y::l).map fun x=>(.tup [.bool true,x.1,x.2.1],.iter (some m) clock (Kh x.2.2 seen) (some x.2.2)))):=by
  simp only[jk,hq,hm,hok,and_self,if_true]
  rfl
 have e2:=congrArg (fun o=>Option.rec (motive:=fun _=>Prop) False (fun l=>∀p∈l,K p.1 p.2) o) (show KE (.ptr q 0) H=_ from by simp only[KE,e1];rfl)
 refine Eq.mpr e2 ?_
 cases hf:es.filter (fun x=>!seen.contains x.2.2)with
 | nil=>
  intro p hp
  simp only[B6,Lq,CM]at hp
  subst hp
  refine h0 fun e he=>?_
  have:=Lw.1 hf e he
  simpa using this
 | cons y l=>
  intro p hp
  simp only[SV]at hp
  obtain⟨e,he,rfl⟩:=Bt.1 hp
  rw[<- hf,Ti]at he
  exact h1 e he.1 (by simpa using he.2)
theorem aH {q m:Nat}{es:List (AV × AV × Nat)}{clock:Nat}{seen:List Nat}{e:AV × AV × Nat}(hq:H.get q=some (.iter (some m) clock seen (some e.2.2))) (hm:H.get m=some (.map es clock)) (he:e∈es) (hb:(es.map (·.2.2)).Nodup) :
  AZ (.entryM (.cst (.ptr q 0))) emp H=some (.tup [e.1,e.2.1]):=by
 have hf:∀(es:List (AV × AV × Nat)),e∈es->(es.map (·.2.2)).Nodup->es.find? (fun x=>x.2.2==e.2.2)=some e:=by
  intro es
  induction es with
  | nil=>intro h;cases h
  | cons y l ih=>
   intro he hb
   rw[B6,Fy]at hb
   rw[List.find?_cons]
   rcases DM.1 he with rfl | he
   ·simp
   ·have:(y.2.2==e.2.2)=false:=by
     cases hh:y.2.2==e.2.2 with
     | false=>rfl
     | true=>exact absurd (Bt.2 ⟨e,he,(beq_iff_eq.1 hh).symm⟩) hb.1
    rw[this]
    exact ih he hb.2
 simp only[AZ,AF.ev,La,hq,hm,if_true,hf es he hb,E5]
def ZM (d:List (List Nat)):Nat->List Nat
 | 0=>[0]
 | n+1=>((ZM d n).flatMap fun s=>d.getD s []).eraseDups
def WW (d:List (List Nat)) (acc:List Bool):Nat->Nat
 | 0=>0
 | n+1=>if (ZM d n).any (fun s=>acc.getD s false)then n else WW d acc n
theorem XZ {d:List (List Nat)}{n t:Nat}:t∈ZM d (n+1)↔∃s,s∈ZM d n/\t∈d.getD s []:=by
 simp[ZM,List.mem_eraseDups,List.mem_flatMap]
theorem Z5 {d:List (List Nat)}(h0:0<d.length) (hd:∀r∈d,∀t∈r,t<d.length):∀n t,t∈ZM d n->t<d.length
 | 0,t,h=>by simp[ZM]at h;omega
 | n+1,t,h=>by
  obtain⟨s,_,h2⟩:=XZ.1 h
  rw[A6]at h2
  cases hs:d[s]? with
  | none=>rw[hs]at h2;simp at h2
  | some r=>rw[hs]at h2;exact hd r (CU hs) t h2
end
end Go.AL
namespace Go.Proofs.YtlmkmpomgdbjhaaGreatDoor
open Tryz
section
open Go Go.AL
theorem su:prog.follows .mixedOrders=true:=by kernel_rfl
variable [BX]
def pV (v0:AV) (h:AH) (Post:Am->AH->Prop):Prop:=(
 AQ (.box (.cst v0)) h fun v1 h1=>
 AQ (.makeMap) h1 fun v2 h2=>
 AQ (.mapUpd (false,[(.i .i64)]) (.cst v2) (.cst (I 0)) (.cst (.bool true))) h2 fun v3 h3=>
 AB (.fieldAddr 1 (.cst v1)) fun v4=>
 AE (.load none (.cst v4)) h3 fun v5=>
 AB (.len (.cst v5)) fun v6=>
 AB (.bin .mul (.cst (I 2)) (.cst v6)) fun v7=>
 Ah [1,4,5,16,17] (fun J8=>(fun(v9 v10 v11 v12 v13:AV) (h14:AH)=>
 AB (.bin .lss (.cst v13) (.cst v12)) fun v15=>
 AU v15
 (AQ (.makeMap) h14 fun v16 h16=>
 AQ (.rangeM (.cst v10)) h16 fun v17 h17=>
 Ah [1,5,6,7,16,17,22] (fun J18=>(fun(v19 v20 v21 v22 v23 v24 v25:AV) (h26:AH)=>
 Vc v25 h26 fun v27 h27=>
 AB (.extract 0 (.cst v27)) fun v28=>
 AU v28
 (AE (.entryM (.cst v25)) h27 fun v29=>
 AB (.extract 0 (.cst v29)) fun v30=>
 AB (.fieldAddr 2 (.cst v19)) fun v31=>
 AE (.load none (.cst v31)) h27 fun v32=>
 AB (.indexAddrS 1 (.cst v32) (.cst v30)) fun v33=>
 AE (.load none (.cst v33)) h27 fun v34=>
 Qr v34 (fun(v35 v36 v37 v38 v39 v40 v41 v42:AV) (h43:AH)=>
 AB (.fieldAddr 1 (.cst v35)) fun v44=>
 AE (.load none (.cst v44)) h43 fun v45=>
 AB (.indexAddrS 1 (.cst v45) (.cst v39)) fun v46=>
 AE (.load none (.cst v46)) h43 fun v47=>
 AB (.len (.cst v47)) fun v48=>
 Ah [1,5,6,7,16,17,22,37,38,39] (fun J49=>(fun(v50 v51 v52 v53 v54 v55 v56 v57 v58 v59:AV) (h60:AH)=>
 AB (.bin .lss (.cst v59) (.cst v58)) fun v61=>
 AU v61
 (AB (.indexAddrS 1 (.cst v57) (.cst v59)) fun v62=>
 AE (.load none (.cst v62)) h60 fun v63=>
 AQ (.mapUpd (false,[(.i .i64)]) (.cst v53) (.cst v63) (.cst (.bool true))) h60 fun v64 h64=>
 AB (.bin .add (.cst v59) (.cst (I 1))) fun v65=>
 J49 v50 v51 v52 v53 v54 v55 v56 v57 v58 v65 h64)
 (J18 v50 v51 v52 v53 v54 v55 v56 h60))) ((((((((((Ar.set 1 v35).set 5 v36).set 6 v37).set 7 v38).set 16 v40).set 17 v41).set 22 v42).set 37 v47).set 38 v48).set 39 (I 0)) h43)
 (fun J35=>J35 v19 v21 v21 v22 v30 v23 v24 v25 h27)
 (fun J35=>J35 v19 v20 v21 v22 v30 v23 v24 v25 h27))
 (AB (.bin .add (.cst v24) (.cst (I 1))) fun v29=>
 J8 v19 v22 v20 v23 v29 h27))) (((((((Ar.set 1 v9).set 5 v11).set 6 v13).set 7 v16).set 16 v12).set 17 v13).set 22 v17) h17)
 (AB (.fieldAddr 1 (.cst v9)) fun v16=>
 AE (.load none (.cst v16)) h14 fun v17=>
 AB (.len (.cst v17)) fun v18=>
 AB (.bin .lss (.cst v11) (.cst v18)) fun v19=>
 Post (.ret (.tup [v11,v19])) h14))) (((((Ar.set 1 v1).set 4 v2).set 5 (I 0)).set 16 v7).set 17 (I 0)) h3)
def o8:Hints:=[(19,[(0,0,[],false),(1,0,[],false),(2,0,[],false),(3,4,[],false),(4,12,[],false),(5,30,[],false),(6,1,[],false),(7,127,[],false)])]
theorem tu {v0:AV}{h:AH}{Post:Am->AH->Prop}(hG:pV v0 h Post):AP prog 244 [v0] h Post:=Pd (t:=(.s .l (.s .l (.s .l (.s (.s .l (.i (.j [1,4,5,16,17] (.s .l (.s (.i .l .l) (.s (.i (.s .l (.s .l (.s (.s .l (.i (.j [1,5,6,7,16,17,22] (.s .l (.s (.i .l .l) (.i (.s .l (.s (.s .l (.j [1,5,6,7,8,16,17,22] .l .l)) (.s .l (.i (.j [1,5,6,7,16,17,22,37,38,39] (.s .l (.s (.i .l .l) (.s (.i (.s .l .l) .l) .l))) .l) .l)))) .l))) .l) .l)) .l))) .l) .l))) .l) .l)) (.s .l .l)))))) (gf (fn:=f244) (n:=54) (hs:=o8) (q:=[.tmp 2,.tmp 3]) su (by kernel_rfl) (by kernel_rfl) (by kernel_rfl) (by kernel_rfl) (by kernel_rfl) (by kernel_rfl)) (by kernel_rfl) (by kernel_rfl) (by kernel_rfl) (by kernel_rfl) hG
end
section
open Go Go.AL
variable [BX]
def RJ (J18:JP [1,5,6,7,16,17,22]) (v35 v36 v37 v38 v39 v40 v41 v42:AV) (h43:AH):Prop:=
 AB (.fieldAddr 1 (.cst v35)) fun v44=>
 AE (.load none (.cst v44)) h43 fun v45=>
 AB (.indexAddrS 1 (.cst v45) (.cst v39)) fun v46=>
 AE (.load none (.cst v46)) h43 fun v47=>
 AB (.len (.cst v47)) fun v48=>
 Ah [1,5,6,7,16,17,22,37,38,39] (fun J49=>(fun(v50 v51 v52 v53 v54 v55 v56 v57 v58 v59:AV) (h60:AH)=>
 AB (.bin .lss (.cst v59) (.cst v58)) fun v61=>
 AU v61
 (AB (.indexAddrS 1 (.cst v57) (.cst v59)) fun v62=>
 AE (.load none (.cst v62)) h60 fun v63=>
 AQ (.mapUpd (false,[(.i .i64)]) (.cst v53) (.cst v63) (.cst (.bool true))) h60 fun v64 h64=>
 AB (.bin .add (.cst v59) (.cst (I 1))) fun v65=>
 J49 v50 v51 v52 v53 v54 v55 v56 v57 v58 v65 h64)
 (J18 v50 v51 v52 v53 v54 v55 v56 h60))) ((((((((((Ar.set 1 v35).set 5 v36).set 6 v37).set 7 v38).set 16 v40).set 17 v41).set 22 v42).set 37 v47).set 38 v48).set 39 (I 0)) h43
abbrev o6 (r:List Nat):Nat->List AV->Prop:=fun j c=>∃t:Nat,r[j]?=some t/\c=[iv (t:Int)]
abbrev dF (d:List (List Nat)):Nat->List AV->Prop:=fun i c=>∃x r,c=[x]/\d[i]?=some r/\FL 1 (o6 r) r.length x
abbrev rK (acc:List Bool):Nat->List AV->Prop:=fun i c=>∃b,acc[i]?=some b/\c=[.bool b]
theorem sJ {J:JP [1,5,6,7,16,17,22]}{d:List (List Nat)}{c nx ac a5 a6 a16 a17 a22:AV}{b m2 s:Nat}{es2:List (AV × AV × Nat)}{clock2:Nat}{S:Nat->Prop}{h:AH}{r:List Nat}
    (hN:FL 1 (dF d) d.length nx) (hs:d[s]?=some r) (hd:∀t∈r,t<4611686018427387904) (hS:∀t,S t->t<4611686018427387904) (hr:r.length<1000000000) (hbm:b≠m2)
    (g1:h.get b=some (.cells [c,nx,ac])) (g3:h.get m2=some (.map es2 clock2)) (hM:MK es2 clock2 S)
    (hK:∀(h':AH) (es':List (AV × AV × Nat)) (clock':Nat),h'.next=h.next->(∀q,q≠m2->h'.get q=h.get q)->h'.get m2=some (.map es' clock')->MK es' clock' (fun t=>S t\/t∈r)->J (.ptr b 0) a5 a6 (.mp m2) a16 a17 a22 h') :
    RJ J (.ptr b 0) a5 a6 (.mp m2) (iv (s:Int)) a16 a17 a22 h:=by
  have hsl:s<d.length:=(BU.1 hs).1
  unfold RJ
  refine AA (v:=.ptr b 1) rfl ?_
  refine AX (v:=nx) (by simp[AZ,BC,AF.ev,AH.cells?,g1,apart]) ?_
  refine hN.Om hsl fun x _ hx=>?_
  obtain⟨x',r',hx1,hx2,hF⟩:=hx
  rw[hs]at hx2
  cases hx2
  cases hx1
  refine hF.len ?_
  let I3:AV->AV->AV->AV->AV->AV->AV->AV->AV->AV->AH->Prop:=fun e1 e5 e6 e7 e16 e17 e22 e37 e38 e39 h'=>e1=.ptr b 0/\e5=a5/\e6=a6/\e7=.mp m2/\e16=a16/\e17=a17/\e22=a22/\e37=x/\e38=iv (r.length:Int) /\
    ∃(j:Nat) (es':List (AV × AV × Nat)) (clock':Nat),e39=iv (j:Int)/\j<=r.length/\h'.next=h.next/\(∀q,q≠m2->h'.get q=h.get q)/\h'.get m2=some (.map es' clock')/\MK es' clock' (fun t=>S t\/t∈r.take j)
  let μ:AV->AV->AV->AV->AV->AV->AV->AV->AV->AV->AH->Nat:=fun _ _ _ _ _ _ _ _ _ e39 _=>match e39 with
    | .int _ j=>((r.length:Int)-j).toNat
    | _=>0
  refine⟨I3,μ,⟨rfl,rfl,rfl,rfl,rfl,rfl,rfl,rfl,rfl,0,es2,clock2,rfl,by omega,rfl,fun _ _=>rfl,g3,hM.congr fun t=>by simp⟩,?_⟩
  intro e H1 hI
  obtain⟨e1,e5,e6,e7,e16,e17,e22,e37,e38,j,es',clock',e39,hj,k1,k2,k3,k4⟩:=(hI:I3 (e 1) (e 5) (e 6) (e 7) (e 16) (e 17) (e 22) (e 37) (e 38) (e 39) H1)
  have hmu:μ (e 1) (e 5) (e 6) (e 7) (e 16) (e 17) (e 22) (e 37) (e 38) (e 39) H1=((r.length:Int)-(j:Int)).toNat:=by rw[e39]
  show AB (.bin .lss (.cst (e 39)) (.cst (e 38))) _
  rw[e1,e5,e6,e7,e16,e17,e22,e37,e38,e39]
  refine Dk (fun hlt=>Cw ?_) (fun hlt=>BS ?_)
  · refine hF.Om (by omega) fun y _ hy=>?_
    obtain⟨t,ht,hy⟩:=hy
    cases hy
    have htm:t∈r:=CU ht
    refine k4.iO (t:=t) (fun s hs=>?_) (hd t htm) k3 fun es3 clock3 hM3=>?_
    · rcases hs with hs | hs
      · exact hS s hs
      · exact hd s (D0 hs)
    refine Dg (a:=(j:Int)) (b:=1) (by omega) ?_
    refine⟨⟨rfl,rfl,rfl,rfl,rfl,rfl,rfl,rfl,rfl,j+1,es3,clock3,rfl,by omega,by simpa using k1,fun q hq=>?_,by simp[AH.AY],hM3.congr fun u=>?_⟩,?_⟩
    · rw[<- k2 q hq];simp[AH.AY,hq]
    · rw[DZ,ht]
      simp[or_assoc]
    · show((r.length:Int)-((j:Int)+1)).toNat<μ (e 1) (e 5) (e 6) (e 7) (e 16) (e 17) (e 22) (e 37) (e 38) (e 39) H1
      rw[hmu];omega
  · have hj':j=r.length:=by omega
    subst hj'
    exact hK H1 es' clock' k1 k2 k3 (k4.congr fun t=>by rw[Gh])
end
section
open Go Go.AL
variable [BX]
def Qo (es:List (AV × AV × Nat)) (seen:List Nat) (s:Nat):Prop:=∃e∈es,seen.contains e.2.2=true/\e.1=iv (s:Int)
def SM (acc:List Bool) (S:Nat->Prop) (n x0 x:Nat):Prop:=((∃s,S s/\acc.getD s false=true)/\x=n)\/((∀s,S s->acc.getD s false=false)/\x=x0)
theorem SM.more {acc:List Bool}{S S':Nat->Prop}{n x0 x s:Nat}(h:SM acc S n x0 x) (hS:∀t,S' t↔S t\/t=s):SM acc S' n x0 (if acc.getD s false then n else x):=by
 cases hb:acc.getD s false with
 | true=>exact .inl ⟨⟨s,(hS s).2 (.inr rfl),hb⟩,rfl⟩
 | false=>
  rcases h with⟨⟨t,h1,h2⟩,h3⟩ | ⟨h1,h2⟩
  ·exact .inl ⟨⟨t,(hS t).2 (.inl h1),h2⟩,by simpa using h3⟩
  ·refine .inr ⟨fun t ht=>?_,by simpa using h2⟩
   rcases(hS t).1 ht with ht | rfl
   ·exact h1 t ht
   ·exact hb
theorem SM.WW {d:List (List Nat)}{acc:List Bool}{S:Nat->Prop}{n x:Nat}(h:SM acc S n (WW d acc n) x) (hS:∀t,S t↔t∈ZM d n):x=WW d acc (n+1):=by
 unfold Go.AL.WW
 rcases h with⟨⟨t,h1,h2⟩,rfl⟩ | ⟨h1,rfl⟩
 ·rw[if_pos]
  exact Gj.2 ⟨t,(hS t).1 h1,h2⟩
 ·rw[if_neg]
  intro hh
  obtain⟨t,h2,h3⟩:=Gj.1 hh
  rw[h1 t ((hS t).2 h2)]at h3
  cases h3
theorem RZ {α β:Type}{f:α->β}:∀{l:List α},(l.map f).Nodup->∀{x y:α},x∈l->y∈l->f x=f y->x=y
 | [],_,_,_,hx,_,_=>by cases hx
 | z::l,hn,x,y,hx,hy,h=>by
  rw[B6,Fy]at hn
  rcases DM.1 hx with h1 | h1<;>rcases DM.1 hy with h2 | h2
  ·rw[h1,h2]
  ·exact absurd (Bt.2 ⟨y,h2,by rw[<- h,h1]⟩) hn.1
  ·exact absurd (Bt.2 ⟨x,h1,by rw[h,h2]⟩) hn.1
  ·exact RZ hn.2 h1 h2 h
theorem aA {es:List (AV × AV × Nat)}{seen:List Nat}{e:AV × AV × Nat}{s:Nat}(he:e∈es) (hs:e.1=iv (s:Int)) (hb:(es.map (·.2.2)).Nodup) (t:Nat):Qo es (Kh e.2.2 seen) t↔Qo es seen t\/t=s:=by
 constructor
 ·rintro⟨y,h1,h2,h3⟩
  rw[HB,Ee]at h2
  rcases h2 with h2 | h2
  ·exact .inl ⟨y,h1,h2,h3⟩
  ·have:y=e:=by
    exact RZ hb h1 he (beq_iff_eq.1 h2)
   subst this
   rw[hs]at h3
   exact .inr (WB h3).symm
 ·rintro(⟨y,h1,h2,h3⟩ | rfl)
  ·exact⟨y,h1,by rw[HB,h2];rfl,h3⟩
  ·exact⟨e,he,by rw[HB,beq_self_eq_true,Bool.or_true],hs⟩
def Sn (h:AH) (x:AV):List Nat:=match x with
 | .ptr q _=>match h.get q with
  | some (.iter _ _ s _)=>s
  | _=>[]
 | _=>[]
theorem oR {es:List (AV × AV × Nat)}{seen:List Nat}{e:AV × AV × Nat}(he:e∈es) (hn:seen.contains e.2.2=false):(es.filter fun x=>!(Kh e.2.2 seen).contains x.2.2).length<(es.filter fun x=>!seen.contains x.2.2).length:=by
 refine filter_lt (fun x:AV × AV × Nat=>!seen.contains x.2.2) (fun x=>!(Kh e.2.2 seen).contains x.2.2) (fun x hx=>?_) e (by rw[hn];rfl) (by rw[HB,beq_self_eq_true,Bool.or_true];rfl) es he
 rw[HB]at hx
 cases hc:seen.contains x.2.2 with
 | false=>rfl
 | true=>rw[hc,Bool.true_or]at hx;exact absurd hx (by decide)
theorem av {d:List (List Nat)}{acc:List Bool}{c nx ac:AV}(hN:FL 1 (dF d) d.length nx) (hA:FL 1 (rK acc) d.length ac) (h0:0<d.length) (hd:∀r∈d,∀t∈r,t<d.length) (hl:d.length<1000000000) (hrl:∀r∈d,r.length<1000000000){H:AH} :
  AP prog 244 [.agg [c,nx,ac]] H fun o _=>o=.ret (.tup [iv (WW d acc (2*d.length):Nat),.bool (decide (WW d acc (2*d.length)<d.length))]):=by
 have hS62:∀n t,t∈ZM d n->t<4611686018427387904:=fun n t ht=>by have:=Z5 h0 hd n t ht;omega
 refine tu ?_
 unfold pV
 refine Ap (v:=.ptr H.next 0) (H':=H.push (.cells [c,nx,ac])) rfl ?_
 refine Ap (v:=.mp (H.push (.cells [c,nx,ac])).next) (H':=(H.push (.cells [c,nx,ac])).push (.map [] 0)) rfl ?_
 refine MK.nil.iO (t:=0) (fun s h=>h.elim) (by omega) (AH.DK _ _) fun es0 clock0 hM0=>?_
 generalize hH3:AH.set _ _ _=H3
 obtain⟨b,hb⟩:∃b,b=H.next:=⟨_,rfl⟩
 obtain⟨m,hm⟩:∃m,m=(H.push (.cells [c,nx,ac])).next:=⟨_,rfl⟩
 have hmb:m=b+1:=by rw[hm,hb];simp
 have g1:H3.get b=some (.cells [c,nx,ac]):=by
  rw[<- hH3,hb,AH.AY,if_neg (by simp),AH.Ae _ _ (by simp)];simp
 have g2:H3.get m=some (.map es0 clock0):=by rw[<- hH3,hm,AH.AY,if_pos rfl]
 have g3:H3.next=b+2:=by rw[<- hH3,hb];simp
 rw[<- hb,<- hm]
 clear hH3
 refine AA (v:=.ptr b 1) rfl ?_
 refine AX (v:=nx) (by simp[AZ,BC,AF.ev,AH.cells?,g1,apart]) ?_
 refine hN.len ?_
 refine PT (a:=2) (b:=(d.length:Int)) (by omega) ?_
 let I:AV->AV->AV->AV->AV->AH->Prop:=fun e1 e4 e5 e16 e17 h=>e1=.ptr b 0/\e16=iv (2*(d.length:Int))/\h.get b=some (.cells [c,nx,ac])/\b<h.next /\
  ∃(m:Nat) (es:List (AV × AV × Nat)) (clock n:Nat),e4=.mp m/\h.get m=some (.map es clock)/\m<h.next/\MK es clock (fun s=>s∈ZM d n)/\e5=iv (WW d acc n:Nat)/\e17=iv (n:Int)/\n<=2*d.length
 let μ:AV->AV->AV->AV->AV->AH->Nat:=fun _ _ _ _ e17 _=>match e17 with
  | .int _ j=>(2*(d.length:Int)-j).toNat
  | _=>0
 refine⟨I,μ,⟨rfl,rfl,g1,by omega,m,es0,clock0,0,rfl,g2,by omega,hM0.congr fun s=>by simp[ZM],rfl,rfl,by omega⟩,?_⟩
 clear g1 g2 g3 hM0 hm hb hmb
 intro e H1 hI
 obtain⟨e1,e16,g1,hb1,m,es,clock,n,e4,g2,hm1,hM,e5,e17,hn⟩:=(hI:I (e 1) (e 4) (e 5) (e 16) (e 17) H1)
 have hmu:μ (e 1) (e 4) (e 5) (e 16) (e 17) H1=(2*(d.length:Int)-(n:Int)).toNat:=by rw[e17]
 show AB (.bin .lss (.cst (e 17)) (.cst (e 16))) _
 rw[e1,e4,e5,e16,e17]
 refine Dk (fun hlt=>Cw ?_) (fun hlt=>BS ?_)
 ·obtain⟨m2,hm2⟩:∃m2,m2=H1.next:=⟨_,rfl⟩
  have hbm:b≠m2:=by omega
  have hmm:m≠m2:=by omega
  refine Ap (v:=.mp H1.next) (H':=H1.push (.map [] 0)) rfl ?_
  refine Ap (v:=.ptr (m2+1) 0) (H':=(H1.push (.map [] 0)).push (.iter (some m) clock [] none)) ?_ ?_
  ·simp[BL,AF.ev,Ma,AH.Ae _ _ (show m≠H1.next by omega),g2,hm2]
  rw[<- hm2]
  let I2:AV->AV->AV->AV->AV->AV->AV->AH->Prop:=fun e1 e5 e6 e7 e16 e17 e22 h=>e1=.ptr b 0/\e6=iv (n:Int)/\e7=.mp m2/\e16=iv (2*(d.length:Int))/\e17=iv (n:Int)/\e22=.ptr (m2+1) 0 /\
   h.get b=some (.cells [c,nx,ac])/\h.get m=some (.map es clock)/\h.next=m2+2 /\
   ∃(seen:List Nat) (cur:Option Nat) (es2:List (AV × AV × Nat)) (clock2 x:Nat),h.get m2=some (.map es2 clock2)/\h.get (m2+1)=some (.iter (some m) clock seen cur) /\
    MK es2 clock2 (fun t=>∃s,Qo es seen s/\t∈d.getD s [])/\e5=iv (x:Int)/\SM acc (Qo es seen) n (WW d acc n) x
  let μ2:AV->AV->AV->AV->AV->AV->AV->AH->Nat:=fun _ _ _ _ _ _ e22 h=>(es.filter fun x=>!(Sn h e22).contains x.2.2).length
  refine⟨I2,μ2,⟨rfl,rfl,rfl,rfl,rfl,rfl,?_,?_,?_,[],none,[],0,WW d acc n,?_,?_,MK.nil.congr fun t=>?_,rfl,.inr ⟨fun s hs=>?_,rfl⟩⟩,?_⟩
  ·rw[AH.Ae _ _ (by simp;omega),AH.Ae _ _ (by omega)];exact g1
  ·rw[AH.Ae _ _ (by simp;omega),AH.Ae _ _ (by omega)];exact g2
  ·simp[hm2]
  ·rw[AH.Ae _ _ (by simp;omega),hm2];exact AH.DK _ _
  ·have:m2+1=(H1.push (.map [] 0)).next:=by simp[hm2]
   rw[this];exact AH.DK _ _
  ·simp[Qo]
  ·obtain⟨y,_,h2,_⟩:=hs
   simp at h2
  intro e' H2 hI2
  obtain⟨f1,f6,f7,f16,f17,f22,k1,k2,k3,seen,cur,es2,clock2,x,k4,k5,k6,f5,k7⟩:=(hI2:I2 (e' 1) (e' 5) (e' 6) (e' 7) (e' 16) (e' 17) (e' 22) H2)
  have hmu2:μ2 (e' 1) (e' 5) (e' 6) (e' 7) (e' 16) (e' 17) (e' 22) H2=(es.filter fun x=>!seen.contains x.2.2).length:=by rw[f22];simp only[μ2,Sn,k5]
  dsimp only[Eh]
  rw[f1,f5,f6,f7,f16,f17,f22]
  refine dN k5 k2 hM.old (fun hall=>?_) (fun y hy hyn=>?_)
  ·refine AA (v:=.bool false) rfl (BS ?_)
   refine Dg (a:=(n:Int)) (b:=1) (by omega) ?_
   have hseen:∀t,Qo es seen t↔t∈ZM d n:=fun t=>by
    constructor
    ·rintro⟨y,h1,_,h3⟩
     obtain⟨s,q1,q2⟩:=hM.key y.1 (Bt.2 ⟨y,h1,rfl⟩)
     rw[q1]at h3
     rw[<- WB h3];exact q2
    ·intro ht
     obtain⟨y,h1,h2⟩:=Bt.1 (hM.has t ht)
     exact⟨y,h1,hall y h1,h2⟩
   refine⟨⟨rfl,rfl,?_,?_,m2,es2,clock2,n+1,rfl,?_,?_,k6.congr fun t=>?_,?_,rfl,by omega⟩,?_⟩
   ·rw[AH.AY,if_neg (by omega)];exact k1
   ·simp only[AH.US];omega
   ·rw[AH.AY,if_neg (by omega)];exact k4
   ·simp only[AH.US];omega
   ·rw[XZ]
    constructor
    ·rintro⟨s,h1,h2⟩;exact⟨s,(hseen s).1 h1,h2⟩
    ·rintro⟨s,h1,h2⟩;exact⟨s,(hseen s).2 h1,h2⟩
   ·exact congrArg (fun k:Nat=>iv (k:Int)) (k7.WW hseen)
   ·show(2*(d.length:Int)-((n:Int)+1)).toNat<μ (e 1) (e 4) (e 5) (e 16) (e 17) H1
    rw[hmu];omega
  ·obtain⟨H3,hH3⟩:∃H3,H3=H2.set (m2+1) (.iter (some m) clock (Kh y.2.2 seen) (some y.2.2)):=⟨_,rfl⟩
   rw[<- hH3]
   have j1:H3.get b=some (.cells [c,nx,ac]):=by rw[hH3,AH.AY,if_neg (by omega)];exact k1
   have j2:H3.get m=some (.map es clock):=by rw[hH3,AH.AY,if_neg (by omega)];exact k2
   have j3:H3.get m2=some (.map es2 clock2):=by rw[hH3,AH.AY,if_neg (by omega)];exact k4
   have j4:H3.get (m2+1)=some (.iter (some m) clock (Kh y.2.2 seen) (some y.2.2)):=by rw[hH3,AH.AY,if_pos rfl]
   have j5:H3.next=m2+2:=by rw[hH3];simpa using k3
   obtain⟨s,hs,hss⟩:=hM.key y.1 (Bt.2 ⟨y,hy,rfl⟩)
   have hsl:=Z5 h0 hd n s hss
   refine AA (v:=.bool true) rfl (Cw ?_)
   refine AX (aH j4 j2 hy hM.OH) ?_
   refine AA (v:=y.1) rfl ?_
   rw[hs]
   refine AA (v:=.ptr b 2) rfl ?_
   refine AX (v:=ac) (by simp[AZ,BC,AF.ev,AH.cells?,j1,apart]) ?_
   refine hA.Om hsl fun v34 _ hv=>?_
   obtain⟨t34,ht34,hv⟩:=hv
   cases hv
   obtain⟨r,hr⟩:∃r,d[s]?=some r:=⟨_,Ak hsl⟩
   have hrm:r∈d:=CU hr
   have hgd:d.getD s []=r:=by rw[A6,hr];rfl
   have hga:acc.getD s false=t34:=by rw[A6,ht34];rfl
   have hins:=aA (seen:=seen) hy hs hM.OH
   have hbest:=k7.more (S':=Qo es (Kh y.2.2 seen)) hins
   rw[hga]at hbest
   refine L3 (fun hb=>?_) (fun hb=>?_)
   all_goals
    subst hb
    refine sJ (d:=d) hN hr (fun t ht=>by have:=hd r hrm t ht;omega) (fun t ht=>?_) (hrl r hrm) hbm j1 j3 k6 fun h' es' clock' q1 q2 q3 q4=>?_
    ·obtain⟨u,_,hu⟩:=ht
     rw[A6]at hu
     cases hq:d[u]? with
     | none=>rw[hq]at hu;simp at hu
     | some r'=>rw[hq]at hu;have:=hd r' (CU hq) t hu;omega
    refine⟨⟨rfl,rfl,rfl,rfl,rfl,rfl,by rw[q2 _ hbm];exact j1,by rw[q2 _ hmm];exact j2,by rw[q1,j5],Kh y.2.2 seen,some y.2.2,es',clock',_,q3,by rw[q2 _ (by omega)];exact j4,q4.congr fun t=>?_,rfl,hbest⟩,?_⟩
    ·constructor
     ·rintro(⟨u,h1,h2⟩ | ht)
      ·exact⟨u,(hins u).2 (.inl h1),h2⟩
      ·exact⟨s,(hins s).2 (.inr rfl),by rw[hgd];exact ht⟩
     ·rintro⟨u,h1,h2⟩
      rcases(hins u).1 h1 with h1 | rfl
      ·exact .inl ⟨u,h1,h2⟩
      ·rw[hgd]at h2;exact .inr h2
    ·show(es.filter fun x=>!(Sn h' (.ptr (m2+1) 0)).contains x.2.2).length<μ2 (e' 1) (e' 5) (e' 6) (e' 7) (e' 16) (e' 17) (e' 22) H2
     rw[hmu2]
     have:h'.get (m2+1)=some (.iter (some m) clock (Kh y.2.2 seen) (some y.2.2)):=by rw[q2 _ (by omega)];exact j4
     simp only[Sn,this]
     exact oR hy hyn
 ·have hn':n=2*d.length:=by omega
  subst hn'
  refine AA (v:=.ptr b 1) rfl ?_
  refine AX (v:=nx) (by simp[AZ,BC,AF.ev,AH.cells?,g1,apart]) ?_
  refine hN.len ?_
  refine Dk (fun hlt=>?_) (fun hlt=>?_)
  ·have:WW d acc (2*d.length)<d.length:=by omega
   rw[decide_eq_true this]
  ·have:¬WW d acc (2*d.length)<d.length:=by omega
   rw[decide_eq_false this]
end
end Go.Proofs.YtlmkmpomgdbjhaaGreatDoor
