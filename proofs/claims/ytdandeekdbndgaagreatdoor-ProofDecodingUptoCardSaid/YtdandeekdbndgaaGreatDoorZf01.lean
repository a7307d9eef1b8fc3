import Derived.Test.YtdandeekdbndgaaGreatDoorZd04
import Derived.Test.YtdandeekdbndgaaGreatDoorZc01
import Derived.Test.YtdandeekdbndgaaGreatDoorZd05
import Derived.Test.YtdandeekdbndgaaGreatDoorZd03
/-
  the reference's Decode reads the coding.
-/
namespace Go.AL
open Co
variable {P:Program}
def ern:Option Er→Int
 | none=>0
 | some e=>erno e
structure Rx (H:AH) (p:Nat) (b:List UInt8) (s:Sx):Prop where
 lt:p<H.next
 len:b.length<274877906944
 c:∃(v:AV) (i:Nat),H.get p=some (.cells [v,.int .i64 (i:Int),.int .i64 (ern s.e)])∧i≤b.length∧b.drop i=s.r∧Inp H p b v
theorem Rx.keep {H H':AH}{p:Nat}{b:List UInt8}{s:Sx}(h:Rx H p b s) (hn:p<H'.next) (hk:∀q,q≤p→H'.get q=H.get q):Rx H' p b s:=by
 obtain⟨h1,h2,v,i,h3,h4,h5,h6⟩:=h
 exact⟨hn,h2,v,i,by rw[hk _ (Nat.le_refl _)];exact h3,h4,h5,h6.keep h1 fun q hq=>hk q (Nat.le_of_lt hq)⟩
def XPost {α:Type}(H:AH) (p:Nat) (b:List UInt8) (res:α × Sx) (ok:α→AV→AH→Prop):AOut→AH→Prop:=fun o H'=>KeepD H p H'∧∃x,o=.ret x∧ok res.1 x H'∧Rx H' p b res.2
structure XSt (H0:AH) (p:Nat) (b:List UInt8) (L:List (Nat × List AV)) (H:AH) (s:Sx):Prop where
 rd:Rx H p b s
 k:KeepD H0 p H
 l:∀x∈L,H0.next≤x.1∧x.1<H.next∧H.get x.1=some (.cells x.2)
 nd:(L.map (·.1)).Nodup
 p0:p<H0.next
section
variable {H0 H:AH}{p:Nat}{L:List (Nat × List AV)}{b:List UInt8}{s:Sx}
theorem XSt.start (h:Rx H p b s):XSt H p b [] H s:=⟨h,KeepD.refl _ _,fun x hx=>(by cases hx),List.nodup_nil,h.lt⟩
theorem XSt.push {o:List AV}(h:XSt H0 p b L H s):XSt H0 p b ((H.next,o)::L) (H.push (.cells o)) s:=by
 have hn:=h.k.nx
 have hp:=h.p0
 have hold:∀q,q<H.next→(H.push (.cells o)).get q=H.get q:=fun q hq=>AH.get_push_ne _ _ (by omega)
 refine⟨h.rd.keep (by simp;omega) fun q hq=>hold q (by omega),⟨by simp;omega,fun q hq hqp=>by rw[hold q (by omega)];exact h.k.get q hq hqp,h.k.gl⟩,fun x hx=>?_,?_,hp⟩
 ·cases hx with
  | head=>exact⟨hn,by simp,by simp⟩
  | tail _ hx=>
   obtain⟨h1,h2,h3⟩:=h.l x hx
   exact⟨h1,by simp;omega,by rw[hold _ h2];exact h3⟩
 ·rw[List.map_cons,List.nodup_cons]
  refine⟨fun hm=>?_,h.nd⟩
  obtain⟨x,hx,he⟩:=List.mem_map.1 hm
  have:=(h.l x hx).2.1
  omega
theorem XSt.alloc {z:List AV}{K:AV→AH→Prop}(h:XSt H0 p b L H s) (hK:∀q H',XSt H0 p b ((q,z)::L) H' s→K (.ptr q 0) H'):y_ef (.alloc z) H K:=
 y_ef_of (v:=.ptr H.next 0) (H':=H.push (.cells z)) rfl (hK _ _ h.push)
theorem XSt.sub {L':List (Nat × List AV)}(h:XSt H0 p b L H s) (hs:L'.Sublist L):XSt H0 p b L' H s:=⟨h.rd,h.k,fun x hx=>h.l x (hs.subset hx),h.nd.sublist (hs.map _),h.p0⟩
theorem XSt.perm {L':List (Nat × List AV)}(h:XSt H0 p b L H s) (hs:L'.Perm L):XSt H0 p b L' H s:=⟨h.rd,h.k,fun x hx=>h.l x (hs.subset hx),(hs.map _).nodup_iff.2 h.nd,h.p0⟩
theorem XSt.put {q o n:Nat}{c vs:List AV}{x:AV}{K:AV→AH→Prop}(h:XSt H0 p b ((q,c)::L) H s) (hx:x.cellsOf=some vs) (hv:vs.length=n) (hz:o+n≤c.length)
  (hK:∀H',XSt H0 p b ((q,splice c o vs)::L) H' s→K .unk H'):y_ef (.store n (.cst (.ptr q o)) (.cst x)) H K:=by
 obtain⟨h1,h2,h3⟩:=h.l _ (.head _)
 have hp:=h.p0
 refine y_ef_of (v:=.unk) (H':=H.set q (.cells (splice c o vs))) (by
  simp only[aeff,AOpd.ev,AH.cells?,h3,hx]
  rw[if_pos ⟨hv,hz⟩]) ?_
 have hold:∀r,r≠q→(H.set q (.cells (splice c o vs))).get r=H.get r:=fun r hr=>by simp[AH.get_set,hr]
 have hnd:=h.nd
 rw[List.map_cons,List.nodup_cons]at hnd
 refine hK _ ⟨h.rd.keep (by have:=h.rd.lt;simpa using this) fun r hr=>hold r (by simp only at h1;omega),⟨by simpa using h.k.nx,fun r hr hrp=>by rw[hold r (by simp only at h1;omega)];exact h.k.get r hr hrp,h.k.gl⟩,fun w hw=>?_,by rw[List.map_cons,List.nodup_cons];exact hnd,hp⟩
 cases hw with
 | head=>exact⟨h1,by simpa using h2,by simp[AH.get_set]⟩
 | tail _ hw=>
  obtain⟨g1,g2,g3⟩:=h.l w (.tail _ hw)
  exact⟨g1,by simpa using g2,by rw[hold _ fun e=>hnd.1 (List.mem_map.2 ⟨w,hw,e⟩)];exact g3⟩
theorem XSt.ldA {q k:Nat}{c:List AV}{K:AV→Prop}(h:XSt H0 p b L H s) (hm:(q,c)∈L) (hc:c.length=k) (hK:K (.agg c)):y_rd (.load (some k) (.cst (.ptr q 0))) H K:=by
 obtain⟨_,_,h3⟩:=h.l _ hm
 exact y_rd_of (v:=.agg c) (by simp[aread,aload,AOpd.ev,AH.cells?,h3,apart,hc];exact List.take_of_length_le (by omega)) hK
theorem XSt.ld {q o:Nat}{c:List AV}{x:AV}{K:AV→Prop}(h:XSt H0 p b L H s) (hm:(q,c)∈L) (hx:c[o]?=some x) (hK:K x):y_rd (.load none (.cst (.ptr q o))) H K:=by
 obtain⟨_,_,h3⟩:=h.l _ hm
 exact y_rd_of (v:=x) (by simpa[aread,aload,AOpd.ev,AH.cells?,h3,apart]using hx) hK
theorem XSt.fin {α:Type}{res:α × Sx}{ok:α→AV→AH→Prop}{d:α}{x:AV}(h:XSt H0 p b L H s) (hres:res=(d,s)) (hok:ok d x H):XPost H0 p b res ok (.ret x) H:=by
 subst hres;exact⟨h.k,x,rfl,hok,h.rd⟩
theorem XSt.call {α β:Type}{res:β × Sx}{ok:β→AV→AH→Prop}{r1:α × Sx}{ok1:α→AV→AH→Prop}{g:FuncId}{ar:List AV}{K:AV→AH→Prop}(h:XSt H0 p b L H s) (hC:ACall P g ar H (XPost H p b r1 ok1))
  (hK:∀x H',XSt H0 p b L H' r1.2→ok1 r1.1 x H'→K x H'):y_call P g ar H (yp (XPost H0 p b res ok)) K:=by
 have hp:=h.p0
 have hn:=h.k.nx
 refine y_call_of hC (fun x H' g=>?_) (fun x H' g=>by obtain⟨_,_,g,_⟩:=g;cases g)
 obtain⟨k1,x',hx,h1,h2⟩:=g
 cases hx
 exact hK _ H' ⟨h2,h.k.trans k1,fun w hw=>by
  obtain⟨g1,g2,g3⟩:=h.l w hw
  exact⟨g1,Nat.lt_of_lt_of_le g2 k1.nx,by rw[k1.get _ g2 (by omega)];exact g3⟩,h.nd,hp⟩ h1
theorem XSt.ldE {K:AV→Prop}(h:XSt H0 p b L H s) (hK:K (.int .i64 (ern s.e))):y_rd (.load none (.cst (.ptr p 2))) H K:=by
 obtain⟨_,_,v,i,h3,_⟩:=h.rd
 exact y_rd_of (v:=.int .i64 (ern s.e)) (by simp[aread,aload,AOpd.ev,AH.cells?,h3,apart]) hK
theorem XSt.ldI {K:AV→Prop}(h:XSt H0 p b L H s) (hK:∀i:Nat,i≤b.length→b.drop i=s.r→K (.int .i64 (i:Int))):y_rd (.load none (.cst (.ptr p 1))) H K:=by
 obtain⟨_,_,v,i,h3,h4,h5,_⟩:=h.rd
 exact y_rd_of (v:=.int .i64 (i:Int)) (by simp[aread,aload,AOpd.ev,AH.cells?,h3,apart]) (hK i h4 h5)
theorem XSt.ldB {K:AV→Prop}(h:XSt H0 p b L H s) (hK:∀v,Inp H p b v→K v):y_rd (.load none (.cst (.ptr p 0))) H K:=by
 obtain⟨_,_,v,i,h3,_,_,h6⟩:=h.rd
 exact y_rd_of (v:=v) (by simp[aread,aload,AOpd.ev,AH.cells?,h3,apart]) (hK v h6)
theorem XSt.setE {e:Er}{K:AV→AH→Prop}(h:XSt H0 p b L H s) (hK:∀H',XSt H0 p b L H' ⟨s.r,some e⟩→K .unk H'):y_ef (.store 1 (.cst (.ptr p 2)) (.cst (.int .i64 (erno e)))) H K:=by
 obtain⟨h1,h2,v,i,h3,h4,h5,h6⟩:=h.rd
 have hp:=h.p0
 refine y_ef_of (v:=.unk) (H':=H.set p (.cells [v,.int .i64 (i:Int),.int .i64 (erno e)])) (by simp[aeff,AOpd.ev,AH.cells?,h3,AV.cellsOf,splice]) ?_
 have hold:∀r,r≠p→(H.set p (.cells [v,.int .i64 (i:Int),.int .i64 (erno e)])).get r=H.get r:=fun r hr=>by simp[AH.get_set,hr]
 refine hK _ ⟨⟨by simpa using h1,h2,v,i,by simp[AH.get_set,ern],h4,h5,h6.keep h1 fun q hq=>hold q (by omega)⟩,⟨by simpa using h.k.nx,fun q hq hqp=>by rw[hold q hqp];exact h.k.get q hq hqp,h.k.gl⟩,fun x hx=>?_,h.nd,hp⟩
 obtain⟨g1,g2,g3⟩:=h.l x hx
 exact⟨g1,by simpa using g2,by rw[hold _ (by omega)];exact g3⟩
theorem XSt.setI {i:Nat}{K:AV→AH→Prop}(h:XSt H0 p b L H s) (hi:i≤b.length) (hK:∀H',XSt H0 p b L H' ⟨b.drop i,s.e⟩→K .unk H'):y_ef (.store 1 (.cst (.ptr p 1)) (.cst (.int .i64 (i:Int)))) H K:=by
 obtain⟨h1,h2,v,j,h3,h4,h5,h6⟩:=h.rd
 have hp:=h.p0
 refine y_ef_of (v:=.unk) (H':=H.set p (.cells [v,.int .i64 (i:Int),.int .i64 (ern s.e)])) (by simp[aeff,AOpd.ev,AH.cells?,h3,AV.cellsOf,splice]) ?_
 have hold:∀r,r≠p→(H.set p (.cells [v,.int .i64 (i:Int),.int .i64 (ern s.e)])).get r=H.get r:=fun r hr=>by simp[AH.get_set,hr]
 refine hK _ ⟨⟨by simpa using h1,h2,v,i,by simp[AH.get_set],hi,rfl,h6.keep h1 fun q hq=>hold q (by omega)⟩,⟨by simpa using h.k.nx,fun q hq hqp=>by rw[hold q hqp];exact h.k.get q hq hqp,h.k.gl⟩,fun x hx=>?_,h.nd,hp⟩
 obtain⟨g1,g2,g3⟩:=h.l x hx
 exact⟨g1,by simpa using g2,by rw[hold _ (by omega)];exact g3⟩
theorem Inp.at {H:AH}{p:Nat}{b:List UInt8}{v:AV}(h:Inp H p b v){i:Nat}{x:UInt8}(hi:b[i]?=some x):∃a,apure (.indexAddrS 1 (.cst v) (.cst (.int .i64 (i:Int)))) emp=some a∧aread (.load none (.cst a)) emp H=some (bv x):=by
 have hlt:i<b.length:=by
  rcases Nat.lt_or_ge i b.length with h | h
  ·exact h
  ·rw[List.getElem?_eq_none h]at hi;cases hi
 have hi':(i:Int)<(b.length:Int):=by omega
 cases h with
 | nils=>cases hi
 | sim _ ex=>
  refine⟨.pim (b.map bv) i,?_,?_⟩
  ·simp[apure,AOpd.ev,aidxS,hlt]
  ·simp[aread,aload,AOpd.ev,apart,hi]
 | own h1 hc ho hl hes=>
  rename_i r o l c
  refine⟨.ptr r (o+i),?_,?_⟩
  ·simp[apure,AOpd.ev,aidxS,hlt]
  ·have h0:c[o+i]?=some (bv x):=by
    have h2:=congrArg (·[i]?) ho
    simp only[List.getElem?_map,hi]at h2
    rw[List.getElem?_take,if_pos hlt,List.getElem?_drop]at h2
    simpa using h2
   simp[aread,aload,AOpd.ev,AH.cells?,hc,apart,h0]
end
end Go.AL
namespace Go.AL
open Co
variable {P:Program}
inductive Lv (k:Nat):List (Nat × List AV)→Nat→List AV→AV→Prop
 | nil:Lv k [] 0 [] .nils
 | ex (q:Nat):Lv k [(q,[])] 0 [] (.sl q 0 0 (.ex 0))
 | op {r n:Nat} {cs:List AV} (hn:0<n):Lv k [(r,cs)] n cs (.sl r 0 n (.op k))
theorem Lv.cell {k n:Nat}{o:List (Nat × List AV)}{cs:List AV}{v:AV}(h:Lv k o n cs v):v.cellsOf=some [v]:=by cases h<;>rfl
section
variable {H0 H:AH}{p:Nat}{L:List (Nat × List AV)}{b:List UInt8}{s:Sx}
theorem XSt.new {k:Nat}{K:AV→AH→Prop}(h:XSt H0 p b L H s) (hK:∀o v H',XSt H0 p b (o++L) H' s→Lv k o 0 [] v→K v H'):y_ef (.buildSlice k 0 [] []) H K:=
 y_ef_of (v:=.sl H.next 0 0 (.ex 0)) (H':=H.push (.cells [])) (by simp[aeff,afill]) (hK [(H.next,[])] _ _ h.push (.ex _))
theorem XSt.erase {q:Nat}{c:List AV}(h:XSt H0 p b ((q,c)::L) H s):XSt H0 p b L (H.erase q) s:=by
 obtain⟨h1,h2,h3⟩:=h.l _ (.head _)
 have hp:=h.p0
 have hnd:=h.nd
 rw[List.map_cons,List.nodup_cons]at hnd
 have hold:∀r,r≠q→(H.erase q).get r=H.get r:=fun r hr=>by simp[AH.get_erase,hr]
 refine⟨h.rd.keep h.rd.lt fun r hr=>hold r (by simp only at h1;omega),⟨h.k.nx,fun r hr hrp=>by rw[hold r (by simp only at h1;omega)];exact h.k.get r hr hrp,h.k.gl⟩,fun w hw=>?_,hnd.2,hp⟩
 obtain⟨g1,g2,g3⟩:=h.l w (.tail _ hw)
 exact⟨g1,g2,by rw[hold _ fun e=>hnd.1 (List.mem_map.2 ⟨w,hw,e⟩)];exact g3⟩
theorem XSt.add {k n bytes:Nat}{o:List (Nat × List AV)}{cs c z:List AV}{v x:AV}{K:AV→AH→Prop}(h:XSt H0 p b (o++L) H s) (hv:Lv k o n cs v) (hcs:cs.length=n*k) (hx:x.cellsOf=some c) (hc:c.length=k) (hz:z.length=k) (hn:n<274877906944) (hby:bytes≤500)
  (hK:∀o' v' H',XSt H0 p b (o'++L) H' s→Lv k o' (n+1) (cs++c) v'→K v' H'):y_ef (.buildSlice k 1 z [(0,k,(.cst x))]) H fun v17 h17=>y_ef (.append k bytes (.cst v) (.cst v17)) h17 K:=by
 have hd:z.drop k=[]:=List.drop_of_length_le (by omega)
 refine y_ef_of (v:=.sl H.next 0 1 (.ex 1)) (H':=H.push (.cells c)) (by
  simp[aeff,afill,AOpd.ev,hx,hc,hz,hd]) ?_
 have hb:(n+1)*bytes≤140737488355328:=by
  have:(n+1)*bytes≤274877906944*500:=Nat.mul_le_mul (by omega) hby
  omega
 have htk:c.take k=c:=List.take_of_length_le (by omega)
 have h1:=h.push (o:=c)
 cases hv with
 | nil=>
  have hb':bytes≤140737488355328:=by omega
  refine y_ef_of (v:=.sl (H.next+1) 0 1 (.op k)) (H':=(H.push (.cells c)).push (.cells c)) (by
   simp[aeff,AOpd.ev,aappend,aslcells,AH.cells?,AH.get_push,hc,htk,hb']) ?_
  refine hK [(H.next+1,c)] _ _ ?_ (.op (Nat.succ_pos _))
  exact(h1.push (o:=c)).sub (by
   show List.Sublist ((H.next+1,c)::L) ((H.next+1,c)::(H.next,c)::L)
   exact(List.Sublist.cons _ (List.Sublist.refl _)).cons_cons _)
 | ex q=>
  obtain⟨g1,g2,g3⟩:=h.l (q,[]) (.head _)
  have e1:q≠H.next:=by simp only at g2;omega
  have hb':bytes≤140737488355328:=by omega
  refine y_ef_of (v:=.sl (H.next+1) 0 1 (.op k)) (H':=(H.push (.cells c)).push (.cells c)) (by
   have g3:H.get q=some (.cells []):=g3
   simp[aeff,AOpd.ev,aappend,aslcells,AH.cells?,AH.get_push,hc,htk,hb',e1,g3]) ?_
  refine hK [(H.next+1,c)] _ _ ?_ (.op (Nat.succ_pos _))
  exact(h1.push (o:=c)).sub (by
   show List.Sublist ((H.next+1,c)::L) ((H.next+1,c)::(H.next,c)::(q,[])::L)
   exact(List.Sublist.cons _ (List.Sublist.cons _ (List.Sublist.refl _))).cons_cons _)
 | op hn0=>
  rename_i r
  obtain⟨g1,g2,g3⟩:=h.l (r,cs) (.head _)
  have e3:r≠H.next:=by simp only at g2;omega
  have htk2:cs.take (n*k)=cs:=List.take_of_length_le (by omega)
  refine y_ef_of (v:=.sl (H.next+1) 0 (n+1) (.op k)) (H':=((H.push (.cells c)).erase r).push (.cells (cs++c))) (by
   have hn1:n+1≤9223372036854775807:=by omega
   have g3:H.get r=some (.cells cs):=g3
   simp[aeff,AOpd.ev,aappend,aslcells,AH.cells?,AH.get_push,hc,htk,g3,e3,hcs,hb,htk2,hn1]) ?_
  refine hK [(H.next+1,cs++c)] _ _ ?_ (.op (Nat.succ_pos _))
  have h2:XSt H0 p b ((r,cs)::(H.next,c)::L) (H.push (.cells c)) s:=h1.perm (.swap _ _ _)
  have h3:=(h2.erase).push (o:=cs++c)
  exact h3.sub (by
   show List.Sublist ((H.next+1,cs++c)::L) ((H.next+1,cs++c)::(H.next,c)::L)
   exact(List.Sublist.cons _ (List.Sublist.refl _)).cons_cons _)
end
def FZ (R:List (Nat × List AV)) (v y:AV):Prop:=∀(H:AH) (k:Nat),(∀x∈R,k≤x.1∧H.get x.1=some (.cells x.2))→FrzR H k v y
def FZs (R:List (Nat × List AV)) (c d:List AV):Prop:=∀(H:AH) (k:Nat),(∀x∈R,k≤x.1∧H.get x.1=some (.cells x.2))→FrzRs H k c d
theorem FZs.mono {R R':List (Nat × List AV)}{c d:List AV}(h:FZs R c d) (hs:R ⊆ R'):FZs R' c d:=fun H k hR=>h H k fun x hx=>hR x (hs hx)
theorem FZs.nil {R:List (Nat × List AV)}:FZs R [] []:=fun _ _ _=>.nil
theorem FZs.cons {R:List (Nat × List AV)}{x y:AV}{c d:List AV}(h:FZ R x y) (t:FZs R c d):FZs R (x::c) (y::d):=fun H k hR=>.cons (h H k hR) (t H k hR)
theorem FrzRs.app {H:AH}{k:Nat}:∀{a a' b b':List AV},FrzRs H k a a'→FrzRs H k b b'→FrzRs H k (a++b) (a'++b')
 | _,_,_,_,.nil,h=>h
 | _,_,_,_,.cons h t,h2=>.cons h (t.app h2)
theorem FZs.app {R:List (Nat × List AV)}{a a' b b':List AV}(h:FZs R a a') (h2:FZs R b b'):FZs R (a++b) (a'++b'):=fun H k hR=>(h H k hR).app (h2 H k hR)
theorem FZs.low {R:List (Nat × List AV)}{c:List AV}(h:∀k,Scs k c):FZs R c c:=fun _ k _=>.low (h k)
theorem RC_sc (k:Nat):∀(t:Ty) (d:t.D) (c:List AV),RC t d c→Scs k c
 | .int,d,c,h=>by have h:c=_:=h;subst h;exact .cons (.int _ _) .nil
 | .byte,d,c,h=>by have h:c=_:=h;subst h;exact .cons (.int _ _) .nil
 | .bool,d,c,h=>by have h:c=_:=h;subst h;exact .cons (.bool _) .nil
 | .list t,l,c,h=>by
  obtain⟨v,cs,rfl,hf,css,hcc,hl,hc⟩:=h
  refine .cons ?_ .nil
  generalize hln:(asL l).length=ln at hf
  cases hf with
  | nil=>exact .nils
  | sim _=>
   subst hcc
   refine .sim (Scs.of_mem fun x hx=>?_)
   obtain⟨y,hy,hxy⟩:=List.mem_flatten.1 hx
   obtain⟨i,hi⟩:=List.getElem?_of_mem hy
   have hlt:i<css.length:=by
    rcases Nat.lt_or_ge i css.length with h | h
    ·exact h
    ·rw[List.getElem?_eq_none h]at hi;cases hi
   have hx:(asL l)[i]?=some ((asL l)[i]'(by omega)):=List.getElem?_eq_getElem (by omega)
   exact(RC_sc k t _ _ (hc i _ y hx hi)).mem hxy
 | .pair a b,d,c,h=>by
  obtain⟨c1,c2,rfl,h1,h2⟩:=h
  exact Scs.of_mem fun x hx=>by
   rcases List.mem_append.1 hx with h | h
   ·exact(RC_sc k a _ _ h1).mem h
   ·exact(RC_sc k b _ _ h2).mem h
 | .vec n,d,c,h=>by
  obtain⟨_,h2,h3⟩:=h
  refine Scs.of_mem fun x hx=>?_
  obtain⟨i,hi⟩:=List.getElem?_of_mem hx
  have hlt:i<n / 8:=by
   rcases Nat.lt_or_ge i (n / 8)with h | h
   ·exact h
   ·rw[List.getElem?_eq_none (by omega)]at hi;cases hi
  rw[h3 i hlt]at hi
  cases hi
  exact .int _ _
def RF (R:List (Nat × List AV)) (t:Ty) (d:t.D) (c:List AV):Prop:=∃c',FZs R c c'∧RC t d c'
theorem RC.rf {R:List (Nat × List AV)}{t:Ty}{d:t.D}{c:List AV}(h:RC t d c):RF R t d c:=⟨c,.low fun k=>RC_sc k t d c h,h⟩
theorem RF.mono {R R':List (Nat × List AV)}{t:Ty}{d:t.D}{c:List AV}(h:RF R t d c) (hs:R ⊆ R'):RF R' t d c:=by
 obtain⟨c',h1,h2⟩:=h;exact⟨c',h1.mono hs,h2⟩
theorem RF.pair {R:List (Nat × List AV)}{a b:Ty}{x:a.D}{y:b.D}{c c':List AV}(h:RF R a x c) (h':RF R b y c'):RF R (.pair a b) (x,y) (c++c'):=by
 obtain⟨d,h1,h2⟩:=h
 obtain⟨d',h1',h2'⟩:=h'
 exact⟨d++d',h1.app h1',d,d',rfl,h2,h2'⟩
structure Gl (R:List (Nat × List AV)) (t:Ty) (l:List t.D) (cs:List AV):Prop where
 e:∃css:List (List AV),FZs R cs css.flatten∧css.length=l.length∧∀(i:Nat) (x:t.D) (y:List AV),l[i]?=some x→css[i]?=some y→RC t x y
 n:cs.length=l.length*tsz t
theorem Gl.nil {R:List (Nat × List AV)}{t:Ty}:Gl R t [] []:=⟨⟨[],.nil,rfl,fun i x y h=>by simp at h⟩,by simp⟩
theorem Gl.mono {R R':List (Nat × List AV)}{t:Ty}{l:List t.D}{cs:List AV}(h:Gl R t l cs) (hs:R ⊆ R'):Gl R' t l cs:=by
 obtain⟨⟨css,h1,h2⟩,h3⟩:=h;exact⟨⟨css,h1.mono hs,h2⟩,h3⟩
theorem Gl.add {R:List (Nat × List AV)}{t:Ty}{l:List t.D}{d:t.D}{cs c:List AV}(h:Gl R t l cs) (hd:RF R t d c) (hc:c.length=tsz t):Gl R t (l++[d]) (cs++c):=by
 obtain⟨⟨css,h1,h2,h3⟩,h4⟩:=h
 obtain⟨c',g1,g2⟩:=hd
 refine⟨⟨css++[c'],?_,by simp[h2],fun i x y hx hy=>?_⟩,by rw[List.length_append,List.length_append,h4,hc,List.length_singleton,Nat.add_mul,Nat.one_mul]⟩
 ·rw[List.flatten_append]
  simpa using h1.app g1
 ·rcases Nat.lt_or_ge i l.length with hi | hi
  ·rw[List.getElem?_append_left (by omega)]at hx hy
   exact h3 i x y hx hy
  ·rw[List.getElem?_append_right (by omega)]at hx hy
   rw[h2]at hy
   have h0:i-l.length=0:=by
    rcases Nat.eq_zero_or_pos (i-l.length)with h | h
    ·exact h
    ·rw[List.getElem?_eq_none (by simp;omega)]at hx;cases hx
   rw[h0]at hx hy
   cases hx;cases hy;exact g2
theorem Gl.frz {R o:List (Nat × List AV)}{t:Ty}{l:List t.D}{cs:List AV}{v:AV}(h:Gl R t l cs) (hv:Lv (tsz t) o l.length cs v):RF (o++R) (.list t) (show(Ty.list t).D from l) [v]:=by
 obtain⟨⟨css,h1,h2,h3⟩,h4⟩:=h
 have hcl:∀x∈css,x.length=tsz t:=fun x hx=>by
  obtain⟨j,hj⟩:=List.getElem?_of_mem hx
  have hlt:j<css.length:=by
   rcases Nat.lt_or_ge j css.length with h | h
   ·exact h
   ·rw[List.getElem?_eq_none h]at hj;cases hj
  exact RC_len t _ _ (h3 j _ x (List.getElem?_eq_getElem (by omega)) hj)
 have hfl:css.flatten.length=l.length*tsz t:=by rw[flat_len css hcl,h2]
 have key:∀y,FZ (o++R) v y→Frz (tsz t) y css.flatten l.length→RF (o++R) (.list t) (show(Ty.list t).D from l) [v]:=fun y g1 g2=>
  ⟨[y],.cons g1 .nil,y,css.flatten,rfl,g2,css,rfl,h2,h3⟩
 obtain⟨fl,hf⟩:∃fl,fl=css.flatten:=⟨_,rfl⟩
 rw[←hf]at key h1 hfl
 clear hf h3 h2 hcl
 generalize l.length=n at *
 cases hv with
 | nil=>
  have hl:fl=[]:=List.eq_nil_of_length_eq_zero (by rw[hfl,Nat.zero_mul])
  subst hl
  exact key .nils (fun _ _ _=>.low .nils) .nil
 | ex q=>
  have hl:fl=[]:=List.eq_nil_of_length_eq_zero (by rw[hfl,Nat.zero_mul])
  subst hl
  refine key (.sim [] 0 true) (fun H k hR=>?_) (.sim (by simp))
  obtain⟨g1,g2⟩:=hR (q,[]) (.head _)
  exact .sl (l:=[]) (m:=0) g1 (by simp[AH.cells?,g2]) (by simp) .nil (fun _=>rfl) (fun _=>rfl)
 | op hn=>
  rename_i r
  refine key (.sim fl n false) (fun H k hR=>?_) (.sim hfl)
  obtain⟨g1,g2⟩:=hR (r,cs) (.head _)
  refine .sl (l:=cs) (m:=cs.length) g1 (by simp[AH.cells?,g2]) (by simp) ?_ (fun h=>by rw[h4,h,Nat.zero_mul]) (fun h=>by cases h)
  rw[List.drop_zero,List.take_length]
  exact h1 H k fun x hx=>hR x (List.mem_append_right _ hx)
theorem XPost.scope {α:Type}{g:FuncId}{ar:List AV}{H:AH}{p:Nat}{b:List UInt8}{s:Sx}{res:α × Sx}{ok ok':α→AV→AH→Prop}(hR:Rx H p b s) (h:ACall P g ar H (XPost H p b res ok))
  (hok:∀x H',KeepD H p H'→ok res.1 x H'→∃y,FrzR H' H.next x y∧∀H'',ok' res.1 y H''):ACall P g ar H (XPost H p b res ok'):=by
 refine ACall.scope (fun _ _=>h) h.1 fun _ htop o H' hp=>?_
 obtain⟨hk,x,rfl,h1,hr⟩:=hp
 have hlt:=hR.lt
 have hcut:∀q,q<H.next→(H'.cut H.next H.gl).get q=H'.get q:=fun q hq=>by simp[AH.cut,hq]
 have hkc:KeepD H p (H'.cut H.next H.gl):=⟨Nat.le_refl _,fun q hq hqp=>by rw[hcut q hq];exact hk.get q hq hqp,rfl⟩
 obtain⟨y,h2,h3⟩:=hok x H' hk h1
 refine⟨.ret y,h2,fun q o hq ho=>?_,hkc,y,rfl,h3 _,hr.keep hlt fun q hq=>hcut q (by omega)⟩
 by_cases hqp:q=p
 ·subst hqp
  obtain⟨_,_,v,i,g3,_,_,g6⟩:=hr
  rw[g3]at ho
  cases ho
  exact .inr (.cons (g6.sc hlt) (.cons (.int _ _) (.cons (.int _ _) .nil)))
 ·exact .inl (by rw[←hk.get q hq hqp];exact ho)
def XREAD (P:Program) (g:FuncId) (t:Ty):Prop:=∀{H:AH}{p:Nat}{b:List UInt8}{s:Sx},Rx H p b s→ACall P g [.ptr p 0] H (XPost H p b (xd t s) fun d x _=>∃c,x.cellsOf=some c∧RC t d c)
def Mk (H0:AH) (t:Ty) (d:t.D) (x:AV) (H:AH):Prop:=∃(R:List (Nat × List AV)) (c:List AV),(∀w∈R,H0.next≤w.1∧H.get w.1=some (.cells w.2))∧RF R t d c∧((tsz t=1∧c=[x])∨x=.agg c)
theorem RC.cell1:∀{t:Ty}{d:t.D}{x:AV},RC t d [x]→x.cellsOf=some [x]
 | .int,d,x,h=>by cases (show[x]=_ from h);rfl
 | .byte,d,x,h=>by cases (show[x]=_ from h);rfl
 | .bool,d,x,h=>by cases (show[x]=_ from h);rfl
 | .list t,d,x,h=>by
  obtain⟨v,cs,e,hf,_⟩:=h
  cases e
  generalize (asL d).length=ln at hf
  cases hf<;>rfl
 | .pair a b,d,x,h=>by
  obtain⟨c1,c2,e,h1,h2⟩:=h
  cases c1 with
  | nil=>exact RC.cell1 (t:=b) (by rw[List.nil_append]at e;rw[e];exact h2)
  | cons y c1=>
   rw[List.cons_append]at e
   injection e with e1 e2
   subst e1
   cases c1 with
   | nil=>exact RC.cell1 (t:=a) h1
   | cons _ _=>cases e2
 | .vec n,d,x,h=>by
  obtain⟨_,h2,h3⟩:=h
  have:=h3 0 (by rw[←h2];exact Nat.succ_pos _)
  cases this
  rfl
theorem xread_of {g:FuncId}{t:Ty}{H:AH}{p:Nat}{b:List UInt8}{s:Sx}(hR:Rx H p b s) (h:ACall P g [.ptr p 0] H (XPost H p b (xd t s) (Mk H t))):ACall P g [.ptr p 0] H (XPost H p b (xd t s) fun d x _=>∃c,x.cellsOf=some c∧RC t d c):=
 XPost.scope hR h fun x H' _ hm=>by
  obtain⟨R,c,h1,⟨c',h2,h3⟩,h4⟩:=hm
  have h5:=h2 H' H.next h1
  rcases h4 with⟨h4,rfl⟩ | rfl
  ·match c',h5,h3 with
   | [y],.cons h6 .nil,h3=>exact⟨y,h6,fun _=>⟨[y],RC.cell1 h3,h3⟩⟩
  ·exact⟨.agg c',.agg h5,fun _=>⟨c',rfl,h3⟩⟩
end Go.AL
namespace Go.AL
open Co
variable {P:Program}
theorem eql_ern (o:Option Er):apure (.bin .eql (.cst (.int .i64 (ern o))) (.cst (I 0))) emp=some (.bool o.isNone):=by
 cases o with
 | none=>rfl
 | some e=>cases e<;>rfl
theorem neq_ern (o:Option Er):apure (.bin .neq (.cst (.int .i64 (ern o))) (.cst (I 0))) emp=some (.bool o.isSome):=by
 cases o with
 | none=>rfl
 | some e=>cases e<;>rfl
section
variable {H0 H:AH}{p:Nat}{L:List (Nat × List AV)}{b:List UInt8}{s:Sx}
theorem XSt.guard {A B:AH→Prop}{i n:Nat}(h:XSt H0 p b L H s) (hA:i<n→s.e=none→A H) (hB:¬(i<n∧s.e=none)→B H) :
  y_pu (.bin .lss (.cst (.int .i64 (i:Int))) (.cst (.int .i64 (n:Int)))) fun v9=>
  y_grp true v9 (fun(_ _ _ _ v14:AV) (h15:AH)=>
  y_pu (.pick (.cst v9) (.cst v14) (.cst (.bool false))) fun v16=>
  y_if0 v16 (A h15) (B h15)) (fun J10=>
  y_pu (.nilCheck (.cst (.ptr p 0))) fun v11=>
  y_pu (.fieldAddr 2 (.cst v11)) fun v12=>
  y_rd (.load none (.cst v12)) H fun v13=>
  y_pu (.bin .eql (.cst v13) (.cst (I 0))) fun v14=>
  J10 (.ptr p 0) v11 v12 v13 v14 H) (fun J10=>J10 aud aud aud aud aud H):=by
 refine y_pu_of (v:=.bool (decide ((i:Int)<n))) rfl ?_
 by_cases hi:i<n
 ·rw[decide_eq_true (by omega:(i:Int)<n)]
  refine grp_t (y_pu_of (v:=.ptr p 0) rfl (y_pu_of (v:=.ptr p 2) rfl (h.ldE (y_pu_of (eql_ern _) (y_pu_of (v:=.bool s.e.isNone) rfl (y_if0_of (fun ht=>?_) (fun ht=>?_)))))))
  ·exact hA hi (Option.isNone_iff_eq_none.1 ht)
  ·exact hB fun hh=>by rw[hh.2]at ht;cases ht
 ·rw[decide_eq_false (by omega:¬(i:Int)<n)]
  exact grp_st (y_pu_of (v:=.bool false) rfl (if_f (hB fun hh=>hi hh.1)))
structure Lp {α:Type} (f:Sx→α × Sx) (n:Nat) (res:List α × Sx) (i:Nat) (l:List α) (s:Sx):Prop where
 le:i≤n
 len:l.length=i
 e:res=(l++(xMany f (n-i) s).1,(xMany f (n-i) s).2)
theorem Lp.start {α:Type}{f:Sx→α × Sx}{n:Nat}{s:Sx}:Lp f n (xMany f n s) 0 [] s:=⟨Nat.zero_le _,rfl,rfl⟩
theorem Lp.next {α:Type}{f:Sx→α × Sx}{n i:Nat}{res:List α × Sx}{l:List α}{s:Sx}(h:Lp f n res i l s) (hi:i<n) (he:s.e=none):Lp f n res (i+1) (l++[(f s).1]) (f s).2:=by
 refine⟨hi,by simp[h.len],?_⟩
 rw[h.e,show n-i=(n-(i+1))+1 by omega]
 have:xMany f ((n-(i+1))+1) s=((f s).1::(xMany f (n-(i+1)) (f s).2).1,(xMany f (n-(i+1)) (f s).2).2):=by
  conv=>lhs;unfold xMany
  rw[he]
 rw[this,List.append_assoc];rfl
theorem Lp.done {α:Type}{f:Sx→α × Sx}{n i:Nat}{res:List α × Sx}{l:List α}{s:Sx}(h:Lp f n res i l s) (hd:¬(i<n∧s.e=none)):res=(l,s):=by
 have hm:xMany f (n-i) s=([],s):=by
  rcases Nat.lt_or_ge i n with hi | hi
  ·cases he:s.e with
   | none=>exact absurd ⟨hi,he⟩ hd
   | some e=>exact xMany_err he _
  ·rw[show n-i=0 by omega];rfl
 rw[h.e,hm,List.append_nil]
def XCNT (P:Program) (g:FuncId):Prop:=∀{H:AH}{p:Nat}{b:List UInt8}{s:Sx},Rx H p b s→ACall P g [.ptr p 0] H (XPost H p b (xCount s) fun n v _=>v=.int .i64 (n:Int)∧n<274877906944)
def xlistG (P:Program) (gc:FuncId) (k bytes:Nat) (z:List AV) (EL:AV→AH→(AV→AH→Prop)→Prop) (v0:AV) (h:AH) (Post:AOut→AH→Prop):Prop:=(
 y_ef (.buildSlice k 0 [] []) h fun v1 h1=>
 y_call P gc [v0] h1 (yp Post) fun v2 h2=>
 y_loop [0,3,4,5] (fun J3=>(fun(v4 v5 v6 v7:AV) (h8:AH)=>
 y_pu (.bin .lss (.cst v7) (.cst v6)) fun v9=>
 y_grp true v9 (fun(_ _ _ _ v14:AV) (h15:AH)=>
 y_pu (.pick (.cst v9) (.cst v14) (.cst (.bool false))) fun v16=>
 y_if0 v16
 (EL v4 h15 fun v17 h17=>
 y_ef (.buildSlice k 1 z [(0,k,(.cst v17))]) h17 fun v18 h18=>
 y_ef (.append k bytes (.cst v5) (.cst v18)) h18 fun v19 h19=>
 y_pu (.bin .add (.cst v7) (.cst (I 1))) fun v20=>
 J3 v4 v19 v6 v20 h19)
 (Post (.ret v5) h15)) (fun J10=>
 y_pu (.nilCheck (.cst v4)) fun v11=>
 y_pu (.fieldAddr 2 (.cst v11)) fun v12=>
 y_rd (.load none (.cst v12)) h8 fun v13=>
 y_pu (.bin .eql (.cst v13) (.cst (I 0))) fun v14=>
 J10 v4 v11 v12 v13 v14 h8) (fun J10=>J10 aud aud aud aud aud h8))) ((((jenv.set 0 v0).set 3 v1).set 4 v2).set 5 (I 0)) h2)
theorem i_add (i:Nat) (h:i<274877906944):apure (.bin .add (.cst (.int .i64 (i:Int))) (.cst (I 1))) emp=some (.int .i64 ((i+1:Nat):Int)):=by
 show some (AV.int .i64 (IntKind.i64.wrap ((i:Int)+1)))=_
 rw[wrap_lt (by omega)];rfl
def XEL (P:Program) (t:Ty) (H0:AH) (p:Nat) (b:List UInt8) (Post:AOut→AH→Prop) (EL:AV→AH→(AV→AH→Prop)→Prop):Prop:=
 ∀(L:List (Nat × List AV)) (H:AH) (s:Sx) (K:AV→AH→Prop),XSt H0 p b L H s→(∀x c H',XSt H0 p b L H' (xd t s).2→x.cellsOf=some c→RC t (xd t s).1 c→K x H')→EL (.ptr p 0) H K
set_option maxHeartbeats 1000000 in
theorem xlist_ok {gc:FuncId}(hc:XCNT P gc){t:Ty}{k bytes:Nat}{z:List AV}(hk:tsz t=k) (hz:z.length=k) (hby:bytes≤500){EL:AV→AH→(AV→AH→Prop)→Prop}(hR:Rx H p b s)
  (hEL:XEL P t H p b (XPost H p b (xd (.list t) s) (Mk H (.list t))) EL):xlistG P gc k bytes z EL (.ptr p 0) H (XPost H p b (xd (.list t) s) (Mk H (.list t))):=by
 subst hk
 obtain⟨res,hres⟩:∃res:List t.D × Sx,res=xMany (xd t) (xCount s).1 (xCount s).2:=⟨_,rfl⟩
 have hres0:xd (.list t) s=res:=hres.symm
 rw[hres0]at hEL ⊢
 unfold xlistG
 refine(XSt.start hR).new fun o v H1 s1 hv=>?_
 refine s1.call (hc s1.rd) fun w H2 s2 hw=>?_
 obtain⟨rfl,hn⟩:=hw
 generalize (xCount s).1=n at hres hn
 generalize (xCount s).2=s' at hres s2
 let Iv:AV→AV→AV→AV→AH→Prop:=fun a v c d H'=>a=.ptr p 0∧c=.int .i64 (n:Int)∧∃(i:Nat) (l:List t.D) (cs:List AV) (o:List (Nat × List AV)) (s':Sx),d=.int .i64 (i:Int)∧Lp (xd t) n res i l s'∧XSt H p b (o++[]) H' s'∧Lv (tsz t) o i cs v∧Gl [] t l cs
 let μ:AV→AV→AV→AV→AH→Nat:=fun _ _ _ d _=>match d with
  | .int _ j=>(n-j).toNat
  | _=>0
 refine⟨Iv,μ,⟨rfl,rfl,0,[],[],o,s',rfl,?_,s2,hv,.nil⟩,?_⟩
 ·rw[hres];exact .start
 intro e H3 hI
 obtain⟨e1,e3,i,l,cs,o,s3,e4,hl,s4,hv,hg⟩:=(hI:Iv (e 0) (e 3) (e 4) (e 5) H3)
 obtain⟨v,e2⟩:∃v,e 3=v:=⟨_,rfl⟩
 rw[e2]at hv
 show y_pu (.bin .lss (.cst (e 5)) (.cst (e 4))) _
 rw[e4,e3,e2,e1]
 have hi:=hl.le
 refine s4.guard (fun hlt he=>?_) (fun hd=>?_)
 ·refine hEL _ _ _ _ s4 fun x c H5 s5 hx hc=>?_
  have hcl:=RC_len _ _ _ hc
  have hcs:=hg.n
  rw[hl.len]at hcs
  refine s5.add hv hcs hx hcl hz (by omega) hby fun o' v' H6 s6 hv'=>?_
  refine y_pu_of (i_add i (by omega)) ⟨⟨rfl,rfl,i+1,_,_,o',_,rfl,hl.next hlt he,s6,hv',hg.add hc.rf hcl⟩,?_⟩
  show((n:Int)-((i+1:Nat):Int)).toNat<μ (e 0) (e 3) (e 4) (e 5) H3
  rw[e4]
  show((n:Int)-((i+1:Nat):Int)).toNat<((n:Int)-(i:Int)).toNat
  omega
 ·refine s4.fin (hl.done hd) ⟨o++[],[v],fun w hw=>?_,hg.frz (by rw[hl.len];exact hv),.inl ⟨rfl,rfl⟩⟩
  obtain⟨g1,_,g3⟩:=s4.l w hw
  exact⟨g1,g3⟩
end
end Go.AL
namespace Go.AL
open Co
variable {P:Program}
theorem skip_t {T:Type}{J:T}{A B:T→Prop}(h:B J):y_grp true aud J A B:=by
 have g1:agd aud=some none:=rfl
 show y_gd true aud _ _
 unfold y_gd
 simp only[g1]
 exact⟨fun h=>(by cases h),fun _=>h⟩
theorem eql_n {k:IntKind}{a b:Int}:apure (.bin .eql (.cst (.int k a)) (.cst (.int k b))) emp=some (.bool (decide (a=b))):=by
 have h:apure (.bin .eql (.cst (.int k a)) (.cst (.int k b))) emp=some (.bool (a==b)):=by cases k<;>rfl
 rw[h]
 by_cases hh:a=b<;>simp[hh]
end Go.AL
namespace Go.Proofs.YtdandeekdbndgaaGreatDoor
open Go Go.AL Go.AL.Co
section
variable {H0 H:AH}{p:Nat}{L:List (Nat × List AV)}{b:List UInt8}{s:Sx}
theorem X24 {e:Er}(h:Rx H p b s):ACall Tryz.prog 24 [.ptr p 0,.int .i64 (erno e)] H (XPost H p b ((),s.fail e) fun _ v _=>v=.tup []):=by
 refine TX24 ?_
 unfold GX24
 refine y_pu_of (v:=.ptr p 0) rfl (y_pu_of (v:=.ptr p 2) rfl ((XSt.start h).ldE (y_pu_of (eql_ern _) (y_if0_of (fun ht=>?_) (fun ht=>?_)))))
 ·have he:s.e=none:=Option.isNone_iff_eq_none.1 ht
  refine y_pu_of (v:=.ptr p 0) rfl (y_pu_of (v:=.ptr p 2) rfl ((XSt.start h).setE fun H' s'=>s'.fin (d:=()) ?_ rfl))
  unfold Sx.fail;rw[he]
 ·refine(XSt.start h).fin (d:=()) ?_ rfl
  obtain⟨e',he⟩:∃e',s.e=some e':=by
   cases hh:s.e with
   | none=>rw[hh]at ht;cases ht
   | some e'=>exact⟨e',rfl⟩
  rw[fail_err he]
theorem XSt.fail {α:Type}{res:α × Sx}{ok:α→AV→AH→Prop}{e:Er}{K:AV→AH→Prop}(h:XSt H0 p b L H s) (hK:∀H',XSt H0 p b L H' (s.fail e)→K (.tup []) H') :
  y_call Tryz.prog 24 [.ptr p 0,.int .i64 (erno e)] H (yp (XPost H0 p b res ok)) K:=
 h.call (X24 h.rd) fun x H' h' hx=>by subst hx;exact hK H' h'
theorem X133 (h:Rx H p b s):ACall Tryz.prog 133 [.ptr p 0] H (XPost H p b (xByte s) fun x v _=>v=bv x):=by
 refine TX133 ?_
 unfold GX133
 have h0:=XSt.start h
 refine y_pu_of (v:=.ptr p 0) rfl (y_pu_of (v:=.ptr p 2) rfl (h0.ldE (y_pu_of (neq_ern _) (y_if0_of (fun ht=>?_) (fun ht=>?_)))))
 ·obtain⟨e',he⟩:∃e',s.e=some e':=Option.isSome_iff_exists.1 ht
  exact h0.fin (xByte_err he) rfl
 have he:s.e=none:=by
  cases hh:s.e with
  | none=>rfl
  | some e'=>rw[hh]at ht;cases ht
 refine y_pu_of (v:=.ptr p 0) rfl (y_pu_of (v:=.ptr p 1) rfl (h0.ldI fun i hi hr=>?_))
 refine y_pu_of (v:=.ptr p 0) rfl (y_pu_of (v:=.ptr p 0) rfl (h0.ldB fun v hv=>y_pu_of hv.len ?_))
 refine y_pu_of (v:=.bool (decide ((i:Int)≥(b.length:Int)))) rfl (y_if0_of (fun hg=>?_) (fun hg=>?_))
 ·have hg:=of_decide_eq_true hg
  have hr:s.r=[]:=by rw[←hr];exact List.drop_of_length_le (by omega)
  refine XSt.fail (e:=.short) h0 fun H' h'=>h'.fin (d:=0) ?_ rfl
  unfold xByte Sx.fail
  rw[he,hr]
 ·have hg:=of_decide_eq_false hg
  have hlt:i<b.length:=by omega
  obtain⟨x,hx⟩:∃x,b[i]?=some x:=⟨_,List.getElem?_eq_getElem hlt⟩
  have hd:b.drop i=x::b.drop (i+1):=by
   rw[List.drop_eq_getElem_cons hlt]
   have:=List.getElem?_eq_getElem hlt
   rw[hx]at this
   cases this;rfl
  have hlen:=h.len
  refine y_pu_of (v:=.ptr p 0) rfl (y_pu_of (v:=.ptr p 1) rfl (h0.ldI fun j hj hr'=>?_))
  have hji:j=i:=by
   have:=congrArg List.length (hr'.trans hr.symm)
   simp at this;omega
  subst hji
  refine y_pu_of (i_add j (by omega)) (y_pu_of (v:=.ptr p 0) rfl (y_pu_of (v:=.ptr p 1) rfl (h0.setI (by omega) fun H1 h1=>?_)))
  refine y_pu_of (v:=.ptr p 0) rfl (y_pu_of (v:=.ptr p 0) rfl (h1.ldB fun v1 hv1=>?_))
  refine y_pu_of (v:=.ptr p 0) rfl (y_pu_of (v:=.ptr p 1) rfl (h1.ldI fun k hk hk'=>?_))
  have hkj:k=j+1:=by
   have:=congrArg List.length hk'
   simp at this;omega
  subst hkj
  refine y_pu_of (v:=.int .i64 (j:Int)) (by
   show some (AV.int .i64 (IntKind.i64.wrap (((j+1:Nat):Int)-1)))=_
   rw[wrap_lt (by omega)]
   have:((j+1:Nat):Int)-1=(j:Int):=by omega
   rw[this]) ?_
  obtain⟨a,g1,g2⟩:=hv1.at hx
  refine y_pu_of g1 (y_rd_of g2 (h1.fin (d:=x) ?_ rfl))
  unfold xByte
  rw[he,←hr,hd]
theorem XSt.byte {α:Type}{res:α × Sx}{ok:α→AV→AH→Prop}{K:AV→AH→Prop}(h:XSt H0 p b L H s) (hK:∀H',XSt H0 p b L H' (xByte s).2→K (bv (xByte s).1) H') :
  y_call Tryz.prog 133 [.ptr p 0] H (yp (XPost H0 p b res ok)) K:=
 h.call (X133 h.rd) fun x H' h' hx=>by subst hx;exact hK H' h'
theorem X136 (h:Rx H p b s):ACall Tryz.prog 136 [.ptr p 0] H (XPost H p b (xd .bool s) fun x v _=>v=.bool x):=by
 refine TX136 ?_
 unfold GX136
 refine XSt.byte (XSt.start h) fun H1 h1=>?_
 have hb:=(xByte s).1.toNat_lt
 refine y_pu_of (v:=.bool (decide (1<(xByte s).1.toNat))) (by
  show some (AV.bool (decide (((xByte s).1.toNat:Int)>1)))=_
  congr 2;simp only[decide_eq_decide];omega) ?_
 have fin:∀H2,XSt H p b [] H2 (if 1<(xByte s).1.toNat then(xByte s).2.fail .form else(xByte s).2)→y_pu (.bin .eql (.cst (bv (xByte s).1)) (.cst (N .u8 1))) fun v5=>XPost H p b (xd .bool s) (fun x v _=>v=.bool x) (.ret v5) H2:=fun H2 h2=>by
  refine y_pu_of (v:=.bool (decide ((xByte s).1.toNat=1))) ?_ (h2.fin rfl rfl)
  refine eql_n.trans ?_
  congr 2;simp only[decide_eq_decide]
  show(((xByte s).1.toNat:Int)=1)↔_
  omega
 refine y_if_of (fun ht=>?_) (fun ht=>?_)
 ·have ht:=of_decide_eq_true ht
  refine XSt.fail (e:=.form) h1 fun H2 h2=>?_
  have:=fin H2 (by rw[if_pos ht];exact h2)
  exact this
 ·have ht:=of_decide_eq_false ht
  exact fin H1 (by rw[if_neg ht];exact h1)
end
end Go.Proofs.YtdandeekdbndgaaGreatDoor
namespace Go.AL
open Co
variable {P:Program}
section
variable {H0 H:AH}{p:Nat}{L:List (Nat × List AV)}{b:List UInt8}{s:Sx}
theorem XSt.condX {i:Nat}{x:UInt8}{T:Type}{JJ:T}{A B:AH→T→Prop}(h:XSt H0 p b L H s) (hb:(i=9∧1<x.toNat)∨(0<i∧x.toNat=0∧s.e=none)→A H JJ) (hg:¬((i=9∧1<x.toNat)∨(0<i∧x.toNat=0∧s.e=none))→B H JJ) :
  y_pu (.bin .eql (.cst (.int .i64 (i:Int))) (.cst (I 9))) fun v12=>
  y_grp true v12 (fun(_ v14:AV) (h15:AH)=>
  y_pu (.pick (.cst v12) (.cst v14) (.cst (.bool false))) fun v16=>
  y_grp false v16 (fun(_ _ v19:AV) (h20:AH)=>
  y_grp true v19 (fun(_ v22:AV) (h23:AH)=>
  y_grp false v16 (fun(_ v25:AV) (h26:AH)=>
  y_grp true v25 (fun(_ _ _ _ v31:AV) (h32:AH)=>
  y_grp false v16 (fun(v33:AV) (h34:AH)=>
  y_pu (.pick (.cst v16) (.cst (.bool true)) (.cst v33)) fun v35=>
  y_if v35 JJ (A h34) (B h34)) (fun J33=>
  y_pu (.pick (.cst v25) (.cst v31) (.cst (.bool false))) fun v34=>
  J33 v34 h32) (fun J33=>J33 aud h32)) (fun J27=>
  y_pu (.nilCheck (.cst (.ptr p 0))) fun v28=>
  y_pu (.fieldAddr 2 (.cst v28)) fun v29=>
  y_rd (.load none (.cst v29)) h26 fun v30=>
  y_pu (.bin .eql (.cst v30) (.cst (I 0))) fun v31=>
  J27 (.ptr p 0) v28 v29 v30 v31 h26) (fun J27=>J27 aud aud aud aud aud h26)) (fun J24=>
  y_pu (.pick (.cst v19) (.cst v22) (.cst (.bool false))) fun v25=>
  J24 v25 v25 h23) (fun J24=>J24 aud aud h23)) (fun J21=>
  y_pu (.bin .eql (.cst (bv x)) (.cst (N .u8 0))) fun v22=>
  J21 (bv x) v22 h20) (fun J21=>J21 aud aud h20)) (fun J17=>
  y_pu (.bin .gtr (.cst (.int .i64 (i:Int))) (.cst (I 0))) fun v18=>
  J17 (.int .i64 (i:Int)) v18 v18 h15) (fun J17=>J17 aud aud aud h15)) (fun J13=>
  y_pu (.bin .gtr (.cst (bv x)) (.cst (N .u8 1))) fun v14=>
  J13 (bv x) v14 H) (fun J13=>J13 aud aud H):=by
 have pk1:∀(a:AV) (t:Bool),apure (.pick (.cst (.bool true)) (.cst (.bool t)) (.cst a)) emp=some (.bool t):=fun a t=>by cases a<;>rfl
 have pk0:∀(a:AV) (t:Bool),apure (.pick (.cst (.bool false)) (.cst a) (.cst (.bool t))) emp=some (.bool t):=fun a t=>by cases a<;>rfl
 have good:¬((i=9∧1<x.toNat)∨(0<i∧x.toNat=0∧s.e=none))→y_if (.bool false) JJ (A H) (B H):=fun hn=>y_if_of (fun ht=>by cases ht) fun _=>hg hn
 have bad:(i=9∧1<x.toNat)∨(0<i∧x.toNat=0∧s.e=none)→y_if (.bool true) JJ (A H) (B H):=fun hn=>y_if_of (fun _=>hb hn) fun ht=>by cases ht
 have q1:apure (.bin .eql (.cst (.int .i64 (i:Int))) (.cst (I 9))) emp=some (.bool (decide (i=9))):=by
  refine eql_n.trans ?_
  congr 2;simp only[decide_eq_decide]
  show((i:Int)=9)↔_
  omega
 have q2:apure (.bin .gtr (.cst (bv x)) (.cst (N .u8 1))) emp=some (.bool (decide (1<x.toNat))):=by
  show some (AV.bool (decide ((x.toNat:Int)>1)))=_
  congr 2;simp only[decide_eq_decide];omega
 have q3:apure (.bin .gtr (.cst (.int .i64 (i:Int))) (.cst (I 0))) emp=some (.bool (decide (0<i))):=by
  show some (AV.bool (decide ((i:Int)>0)))=_
  congr 2;simp only[decide_eq_decide];omega
 have q4:apure (.bin .eql (.cst (bv x)) (.cst (N .u8 0))) emp=some (.bool (decide (x.toNat=0))):=by
  refine eql_n.trans ?_
  congr 2;simp only[decide_eq_decide]
  show((x.toNat:Int)=0)↔_
  omega
 by_cases h1:i=9∧1<x.toNat
 ·rw[decide_eq_true h1.1]at q1
  rw[decide_eq_true h1.2]at q2
  refine y_pu_of q1 (grp_t (y_pu_of q2 (y_pu_of (pk1 _ _) (grp_s (skip_t (grp_s (skip_t (grp_s (y_pu_of (pk1 _ _) (bad (.inl h1)))))))))))
 ·
  have rest:y_grp false (.bool false) (fun(_ _ v19:AV) (h20:AH)=>
  y_grp true v19 (fun(_ v22:AV) (h23:AH)=>
  y_grp false (.bool false) (fun(_ v25:AV) (h26:AH)=>
  y_grp true v25 (fun(_ _ _ _ v31:AV) (h32:AH)=>
  y_grp false (.bool false) (fun(v33:AV) (h34:AH)=>
  y_pu (.pick (.cst (.bool false)) (.cst (.bool true)) (.cst v33)) fun v35=>
  y_if v35 JJ (A h34) (B h34)) (fun J33=>
  y_pu (.pick (.cst v25) (.cst v31) (.cst (.bool false))) fun v34=>
  J33 v34 h32) (fun J33=>J33 aud h32)) (fun J27=>
  y_pu (.nilCheck (.cst (.ptr p 0))) fun v28=>
  y_pu (.fieldAddr 2 (.cst v28)) fun v29=>
  y_rd (.load none (.cst v29)) h26 fun v30=>
  y_pu (.bin .eql (.cst v30) (.cst (I 0))) fun v31=>
  J27 (.ptr p 0) v28 v29 v30 v31 h26) (fun J27=>J27 aud aud aud aud aud h26)) (fun J24=>
  y_pu (.pick (.cst v19) (.cst v22) (.cst (.bool false))) fun v25=>
  J24 v25 v25 h23) (fun J24=>J24 aud aud h23)) (fun J21=>
  y_pu (.bin .eql (.cst (bv x)) (.cst (N .u8 0))) fun v22=>
  J21 (bv x) v22 h20) (fun J21=>J21 aud aud h20)) (fun J17=>
  y_pu (.bin .gtr (.cst (.int .i64 (i:Int))) (.cst (I 0))) fun v18=>
  J17 (.int .i64 (i:Int)) v18 v18 H) (fun J17=>J17 aud aud aud H):=by
   refine grp_f (y_pu_of q3 ?_)
   by_cases h0:0<i
   ·rw[decide_eq_true h0]
    refine grp_t (y_pu_of q4 (grp_f (y_pu_of (pk1 _ _) ?_)))
    by_cases hx:x.toNat=0
    ·rw[decide_eq_true hx]
     refine grp_t (y_pu_of (v:=.ptr p 0) rfl (y_pu_of (v:=.ptr p 2) rfl (h.ldE (y_pu_of (eql_ern _) (grp_f (y_pu_of (pk1 _ _) (y_pu_of (pk0 _ _) ?_)))))))
     cases he:s.e with
     | none=>exact bad (.inr ⟨h0,hx,he⟩)
     | some e=>exact good fun hh=>hh.elim h1 fun hh=>by rw[he]at hh;cases hh.2.2
    ·rw[decide_eq_false hx]
     exact grp_st (grp_f (y_pu_of (pk0 _ _) (y_pu_of (pk0 _ _) (good fun hh=>hh.elim h1 fun hh=>hx hh.2.1))))
   ·rw[decide_eq_false h0]
    exact grp_st (grp_f (y_pu_of (pk0 _ _) (grp_st (grp_f (y_pu_of (pk0 _ _) (y_pu_of (pk0 _ _) (good fun hh=>hh.elim h1 fun hh=>h0 hh.1)))))))
  refine y_pu_of q1 ?_
  by_cases h9:i=9
  ·have hx:¬1<x.toNat:=fun hx=>h1 ⟨h9,hx⟩
   rw[decide_eq_true h9]
   rw[decide_eq_false hx]at q2
   exact grp_t (y_pu_of q2 (y_pu_of (pk1 _ _) rest))
  ·rw[decide_eq_false h9]
   exact grp_st (y_pu_of (pk0 _ _) rest)
end
def numT (v1 v2:AV) (h3:AH) (Post:AOut→AH→Prop):Prop:=(
 y_pu (.nilCheck (.cst v1)) fun v4=>
 y_pu (.fieldAddr 2 (.cst v4)) fun v5=>
 y_rd (.load none (.cst v5)) h3 fun v6=>
 y_pu (.bin .neq (.cst v6) (.cst (I 0))) fun v7=>
 y_if0 v7
 (Post (.ret (I 0)) h3)
 (y_pu (.bin .rem (.cst v2) (.cst (N .u64 2))) fun v8=>
 y_pu (.bin .eql (.cst v8) (.cst (N .u64 0))) fun v9=>
 y_if0 v9
 (y_pu (.bin .quo (.cst v2) (.cst (N .u64 2))) fun v10=>
 y_pu (.convI .i64 (.cst v10)) fun v11=>
 Post (.ret v11) h3)
 (y_pu (.bin .quo (.cst v2) (.cst (N .u64 2))) fun v10=>
 y_pu (.convI .i64 (.cst v10)) fun v11=>
 y_pu (.un .neg (.cst v11)) fun v12=>
 y_pu (.bin .sub (.cst v12) (.cst (I 1))) fun v13=>
 Post (.ret v13) h3)))
theorem numT_ok {H0 H:AH}{p n u:Nat}{b:List UInt8}{s s0:Sx}(h:XSt H0 p b [] H s) (hn:s.e=none→n=u∧n<18446744073709551616) (hres:xNumL 11 0 0 s0=(u,s)) :
  numT (.ptr p 0) (.int .u64 (.ofNat n)) H (XPost H0 p b (xNum s0) fun d v _=>v=.int .i64 d):=by
 unfold numT
 refine y_pu_of (v:=.ptr p 0) rfl (y_pu_of (v:=.ptr p 2) rfl (h.ldE (y_pu_of (neq_ern _) (y_if0_of (fun ht=>?_) (fun ht=>?_)))))
 ·obtain⟨e',he⟩:∃e',s.e=some e':=Option.isSome_iff_exists.1 ht
  refine h.fin (d:=0) ?_ rfl
  unfold xNum
  rw[hres,he]
 have he:s.e=none:=by
  cases hh:s.e with
  | none=>rfl
  | some e'=>rw[hh]at ht;cases ht
 obtain⟨rfl,hn⟩:=hn he
 have hr:xNum s0=(unzz n,s):=by
  unfold xNum
  rw[hres,he]
 have p2:apure (.bin .quo (.cst (.int .u64 (.ofNat n))) (.cst (N .u64 2))) emp=some (.int .u64 ((n / 2:Nat):Int)):=by
  show some (AV.int .u64 (IntKind.u64.wrap ((n:Int).tdiv 2)))=_
  rw[Int.tdiv_eq_ediv_of_nonneg (by omega)]
  have:(n:Int) / 2=((n / 2:Nat):Int):=by omega
  rw[this,wrap_u64n (by omega)]
 have p3:apure (.convI .i64 (.cst (.int .u64 ((n / 2:Nat):Int)))) emp=some (.int .i64 ((n / 2:Nat):Int)):=by
  show some (AV.int .i64 (IntKind.i64.wrap ((n / 2:Nat):Int)))=_
  rw[wrap_lt (by omega)]
 refine y_pu_of (v:=.int .u64 ((n % 2:Nat):Int)) (by
  show some (AV.int .u64 ((n:Int).tmod 2))=_
  rw[Int.tmod_eq_emod_of_nonneg (by omega)];rfl) ?_
 refine y_pu_of (v:=.bool (decide (n % 2=0))) (by
  refine eql_n.trans ?_
  congr 2;simp only[decide_eq_decide]
  show(((n % 2:Nat):Int)=0)↔_
  omega) (y_if0_of (fun ht=>?_) (fun ht=>?_))
 ·have ht:=of_decide_eq_true ht
  refine y_pu_of p2 (y_pu_of p3 (h.fin hr ?_))
  have:unzz n=((n / 2:Nat):Int):=by unfold unzz;rw[if_neg (by omega)]
  rw[this]
 ·have ht:=of_decide_eq_false ht
  refine y_pu_of p2 (y_pu_of p3 (y_pu_of (v:=.int .i64 (-((n / 2:Nat):Int))) (by
   show some (AV.int .i64 (IntKind.i64.wrap (0-((n / 2:Nat):Int))))=_
   rw[wrap_lt (by omega),Int.zero_sub]) (y_pu_of (v:=.int .i64 (-((n / 2:Nat):Int)-1)) (by
   show some (AV.int .i64 (IntKind.i64.wrap (-((n / 2:Nat):Int)-1)))=_
   rw[wrap_lt (by omega)]) (h.fin hr ?_))))
  have:unzz n=-((n / 2:Nat):Int)-1:=by unfold unzz;rw[if_pos (by omega)]
  rw[this]
end Go.AL
namespace Go.Proofs.YtdandeekdbndgaaGreatDoor
open Go Go.AL Go.AL.Co
theorem xNumL_err {k i u:Nat}{s:Sx}{e:Er}(h:s.e=some e):xNumL k i u s=(u,s):=by
 cases k with
 | zero=>rfl
 | succ k=>unfold xNumL;rw[h]
set_option maxRecDepth 4000 in
set_option maxHeartbeats 1000000 in
theorem X63 {H:AH}{p:Nat}{b:List UInt8}{s:Sx}(h:Rx H p b s):ACall Tryz.prog 63 [.ptr p 0] H (XPost H p b (xNum s) fun d v _=>v=.int .i64 d):=by
 refine TX63 ?_
 unfold GX63 y_blk
 let Iv:AV→AV→AV→AH→Prop:=fun a u' i' H'=>a=.ptr p 0∧∃(i u n:Nat) (s':Sx),u'=.int .u64 (.ofNat n)∧i'=.int .i64 (i:Int)∧i≤10∧(i=10→s'.e≠none)∧(s'.e=none→n=u∧n<2 ^ (7*i))∧n<18446744073709551616∧XSt H p b [] H' s' ∧
  xNumL 11 0 0 s=xNumL (11-i) i u s'
 let μ:AV→AV→AV→AH→Nat:=fun _ _ d _=>match d with
  | .int _ j=>(11-j).toNat
  | _=>0
 refine⟨Iv,μ,⟨rfl,0,0,0,s,rfl,rfl,by omega,fun h=>(by cases h),fun _=>⟨rfl,by decide⟩,by decide,.start h,rfl⟩,?_⟩
 intro e H5 hI
 obtain⟨e1,i,u,n,s1,e2,e3,hi,hi9,hn,hn64,h1,hres⟩:=(hI:Iv (e 0) (e 3) (e 4) H5)
 show y_pu (.nilCheck (.cst (e 0))) _
 rw[e1,e2,e3]
 refine y_pu_of (v:=.ptr p 0) rfl (y_pu_of (v:=.ptr p 2) rfl (h1.ldE (y_pu_of (eql_ern _) (y_if0_of (fun ht=>?_) (fun ht=>?_)))))
 case refine_2=>
  obtain⟨e',he⟩:∃e',s1.e=some e':=by
   cases hh:s1.e with
   | none=>rw[hh]at ht;cases ht
   | some e'=>exact⟨e',rfl⟩
  rw[xNumL_err he]at hres
  exact numT_ok h1 (fun h=>by rw[he]at h;cases h) hres
 have he:s1.e=none:=Option.isNone_iff_eq_none.1 ht
 have hi9:i≤9:=by
  rcases Nat.lt_or_ge i 10 with h | h
  ·omega
  ·exact absurd he (hi9 (by omega))
 obtain⟨rfl,hnl⟩:=hn he
 refine XSt.byte h1 fun H6 h6=>?_
 have hstep:xNumL (11-i) i n s1=if (xByte s1).1.toNat<128 then(n+(xByte s1).1.toNat % 128*2 ^ (7*i),xChk i (xByte s1).1 (xByte s1).2)else xNumL (11-(i+1)) (i+1) (n+(xByte s1).1.toNat % 128*2 ^ (7*i)) (xChk i (xByte s1).1 (xByte s1).2):=by
  rw[show 11-i=(11-(i+1))+1 by omega]
  conv=>lhs;unfold xNumL
  rw[he]
 rw[hstep]at hres
 generalize (xByte s1).1=x at hres
 generalize (xByte s1).2=s2 at hres h6
 have hx:=x.toNat_lt
 have hm:x.toNat % 128<128:=Nat.mod_lt _ (by omega)
 have next:∀(H7:AH),XSt H p b [] H7 (xChk i x s2) →
   y_pu (.bin .rem (.cst (bv x)) (.cst (N .u8 128))) fun v41=>
   y_pu (.convI .u64 (.cst v41)) fun v42=>
   y_pu (.bin .mul (.cst (I 7)) (.cst (.int .i64 (i:Int)))) fun v43=>
   y_pu (.bin .shl (.cst v42) (.cst v43)) fun v44=>
   y_pu (.bin .or (.cst (.int .u64 (.ofNat n))) (.cst v44)) fun v45=>
   y_pu (.bin .lss (.cst (bv x)) (.cst (N .u8 128))) fun v46=>
   y_if0 v46
   (numT (.ptr p 0) v45 H7 (XPost H p b (xNum s) fun d v _=>v=.int .i64 d))
   (y_pu (.bin .add (.cst (.int .i64 (i:Int))) (.cst (I 1))) fun v47=>Iv (.ptr p 0) v45 v47 H7∧μ (.ptr p 0) v45 v47 H7<μ (e 0) (e 3) (e 4) H5):=fun H7 h7=>by
  refine y_pu_of (v:=.int .u8 ((x.toNat % 128:Nat):Int)) (by
   show some (AV.int .u8 ((x.toNat:Int).tmod 128))=_
   rw[Int.tmod_eq_emod_of_nonneg (by omega)];rfl) ?_
  refine y_pu_of (v:=.int .u64 (.ofNat (x.toNat % 128))) (by
   show some (AV.int .u64 (IntKind.u64.wrap ((x.toNat % 128:Nat):Int)))=_
   rw[wrap_u64n (by omega)];rfl) ?_
  refine y_pu_of (v:=.int .i64 (.ofNat (7*i))) (by
   show some (AV.int .i64 (IntKind.i64.wrap ((7:Int)*(i:Int))))=_
   rw[wrap_lt (by omega)]
   have:(7:Int)*(i:Int)=((7*i:Nat):Int):=by omega
   rw[this];rfl) ?_
  generalize hV:x.toNat % 128*2 ^ (7*i)=V at *
  refine y_pu_of (v:=.int .u64 (.ofNat (V % 18446744073709551616))) (by
   have h1:(0:Int)≤Int.ofNat (7*i):=Int.natCast_nonneg _
   show(if (0:Int)≤Int.ofNat (7*i)then some (AV.int .u64 (IntKind.u64.wrap (Int.ofNat (x.toNat % 128)*2 ^ (min (Int.ofNat (7*i)).toNat IntKind.u64.bits))))else none)=_
   rw[if_pos h1]
   have h2:min (Int.ofNat (7*i)).toNat IntKind.u64.bits=7*i:=by
    show min (7*i) 64=7*i;omega
   have h3:Int.ofNat (x.toNat % 128)*2 ^ (7*i)=((x.toNat % 128*2 ^ (7*i):Nat):Int):=by simp
   rw[h2,h3,hV]
   show some (AV.int .u64 ((V:Int) % 18446744073709551616))=_
   rfl) ?_
  generalize hW:(n ||| (V % 18446744073709551616)) % 18446744073709551616=W
  have hW64:W<18446744073709551616:=by rw[←hW];exact Nat.mod_lt _ (by omega)
  refine y_pu_of (v:=.int .u64 (.ofNat W)) (by
   show abin .or (.int .u64 (.ofNat n)) (.int .u64 (.ofNat (V % 18446744073709551616)))=_
   rw[ab_or]
   show some (AV.int .u64 (IntKind.u64.wrap (((n ||| (V % 18446744073709551616)) % 18446744073709551616:Nat):Int)))=_
   rw[hW,wrap_u64n hW64];rfl) ?_
  have hok:(xChk i x s2).e=none→W=n+V∧W<18446744073709551616∧(¬x.toNat<128→i<9∧W<2 ^ (7*(i+1))):=fun hc=>by
   have hgood:¬(i=9∧1<x.toNat):=fun hh=>by
    unfold xChk at hc
    rw[if_pos (.inl hh)]at hc
    unfold Sx.fail at hc
    cases hh2:s2.e with
    | none=>rw[hh2]at hc;cases hc
    | some e'=>rw[hh2]at hc;rw[hh2]at hc;cases hc
   have hns:=num_step hi9 hnl hx hgood
   rw[hV]at hns
   have h1:V % 18446744073709551616=V:=Nat.mod_eq_of_lt (by omega)
   have h2:n ||| V=n+V:=by rw[←hV];exact or_add hnl
   rw[h1,h2,Nat.mod_eq_of_lt hns]at hW
   refine⟨hW.symm,hW64,fun hl=>?_⟩
   have hi8:i<9:=by
    rcases Nat.lt_or_ge i 9 with h | h
    ·exact h
    ·exact absurd ⟨by omega,by omega⟩ hgood
   refine⟨hi8,?_⟩
   rw[←hW,show 7*(i+1)=7*i+7 by omega,Nat.pow_add,←hV]
   have h5:x.toNat % 128*2 ^ (7*i)≤127*2 ^ (7*i):=Nat.mul_le_mul_right _ (by omega)
   have h6:(2:Nat) ^ 7=128:=by decide
   rw[h6]
   omega
  refine y_pu_of (v:=.bool (decide (x.toNat<128))) (by
   show some (AV.bool (decide ((x.toNat:Int)<128)))=_
   congr 2;simp only[decide_eq_decide];omega) (y_if0_of (fun hl=>?_) (fun hl=>?_))
  ·have hl:=of_decide_eq_true hl
   rw[if_pos hl]at hres
   exact numT_ok h7 (fun hc=>⟨(hok hc).1,(hok hc).2.1⟩) hres
  ·have hl:=of_decide_eq_false hl
   rw[if_neg hl]at hres
   refine y_pu_of (i_add i (by omega)) ⟨⟨rfl,i+1,_,W,_,rfl,rfl,by omega,fun h10 hc=>?_,fun hc=>⟨(hok hc).1,((hok hc).2.2 hl).2⟩,hW64,h7,hres⟩,?_⟩
   ·have:=((hok hc).2.2 hl).1
    omega
   ·show((11:Int)-((i+1:Nat):Int)).toNat<μ (e 0) (e 3) (e 4) H5
    rw[e3]
    show((11:Int)-((i+1:Nat):Int)).toNat<((11:Int)-(i:Int)).toNat
    omega
 refine h6.condX (fun hbad=>?_) (fun hgood=>?_)
 ·refine XSt.fail (e:=.form) h6 fun H7 h7=>?_
  refine next H7 ?_
  unfold xChk
  rw[if_pos hbad];exact h7
 ·refine next H6 ?_
  unfold xChk
  rw[if_neg hgood];exact h6
end Go.Proofs.YtdandeekdbndgaaGreatDoor
namespace Go.Proofs.YtdandeekdbndgaaGreatDoor
open Go Go.AL Go.AL.Co
theorem X22:XCNT Tryz.prog 22:=fun{H p b s} h=>by
 refine TX22 ?_
 unfold GX22
 refine(XSt.start h).call (X63 h) fun w H1 h1 hw=>?_
 subst hw
 have hdef:xCount s=(match (if ((xNum s).2.r.length:Int)<(xNum s).1 then(if (xNum s).1<0 then(xNum s).2.fail .form else(xNum s).2).fail .short else(if (xNum s).1<0 then(xNum s).2.fail .form else(xNum s).2)).e with
  | some _=>(0,(if ((xNum s).2.r.length:Int)<(xNum s).1 then(if (xNum s).1<0 then(xNum s).2.fail .form else(xNum s).2).fail .short else(if (xNum s).1<0 then(xNum s).2.fail .form else(xNum s).2)))
  | none=>((xNum s).1.toNat,(if ((xNum s).2.r.length:Int)<(xNum s).1 then(if (xNum s).1<0 then(xNum s).2.fail .form else(xNum s).2).fail .short else(if (xNum s).1<0 then(xNum s).2.fail .form else(xNum s).2)))):=rfl
 generalize xCount s=res at hdef ⊢
 generalize (xNum s).1=n at hdef ⊢
 generalize (xNum s).2=s1 at hdef h1
 have hlen:=h.len
 obtain⟨s2,hs2⟩:∃s2,s2=if n<0 then s1.fail .form else s1:=⟨_,rfl⟩
 obtain⟨s3,hs3⟩:∃s3,s3=if (s1.r.length:Int)<n then s2.fail .short else s2:=⟨_,rfl⟩
 rw[←hs2,←hs3]at hdef
 have hr2:s2.r=s1.r:=by
  rw[hs2];unfold Sx.fail
  split
  ·split<;>rfl
  ·rfl
 have hr3:s3.r=s1.r:=by
  rw[hs3,←hr2];unfold Sx.fail
  split
  ·split<;>rfl
  ·rfl
 have hl1:s1.r.length≤b.length:=by
  obtain⟨_,_,_,i,_,_,h5,_⟩:=h1.rd
  rw[←h5];simp
 have fin:∀H3,XSt H p b [] H3 s3→y_pu (.nilCheck (.cst (.ptr p 0))) fun v18=>
   y_pu (.fieldAddr 2 (.cst v18)) fun v19=>
   y_rd (.load none (.cst v19)) H3 fun v20=>
   y_pu (.bin .neq (.cst v20) (.cst (I 0))) fun v21=>
   y_if0 v21 (XPost H p b res (fun n v _=>v=.int .i64 (n:Int)∧n<274877906944) (.ret (I 0)) H3) (XPost H p b res (fun n v _=>v=.int .i64 (n:Int)∧n<274877906944) (.ret (.int .i64 n)) H3):=fun H3 h3=>by
  refine y_pu_of (v:=.ptr p 0) rfl (y_pu_of (v:=.ptr p 2) rfl (h3.ldE (y_pu_of (neq_ern _) (y_if0_of (fun ht=>?_) (fun ht=>?_)))))
  ·obtain⟨e',he⟩:∃e',s3.e=some e':=Option.isSome_iff_exists.1 ht
   rw[he]at hdef
   exact h3.fin hdef ⟨rfl,by omega⟩
  ·have he:s3.e=none:=by
    cases hh:s3.e with
    | none=>rfl
    | some e'=>rw[hh]at ht;cases ht
   rw[he]at hdef
   have h0:¬n<0:=fun h0=>by
    rw[if_pos h0]at hs2
    have:s2.e≠none:=by
     rw[hs2];unfold Sx.fail
     split
     ·intro h;cases h
     ·rename_i hh;rw[hh];intro h;cases h
    rw[hs3]at he
    unfold Sx.fail at he
    split at he
    ·split at he
     ·cases he
     ·exact this he
    ·exact this he
   have hsh:¬(s1.r.length:Int)<n:=fun hsh=>by
    rw[if_pos hsh]at hs3
    rw[hs3]at he
    unfold Sx.fail at he
    split at he
    ·cases he
    ·rename_i hh;rw[hh]at he;cases he
   refine h3.fin hdef ⟨?_,by omega⟩
   rw[Int.toNat_of_nonneg (by omega)]
 have mid:∀H2,XSt H p b [] H2 s2→y_pu (.nilCheck (.cst (.ptr p 0))) fun v6=>
   y_pu (.fieldAddr 0 (.cst v6)) fun v7=>
   y_rd (.load none (.cst v7)) H2 fun v8=>
   y_pu (.len (.cst v8)) fun v9=>
   y_pu (.nilCheck (.cst (.ptr p 0))) fun v10=>
   y_pu (.fieldAddr 1 (.cst v10)) fun v11=>
   y_rd (.load none (.cst v11)) H2 fun v12=>
   y_pu (.bin .sub (.cst v9) (.cst v12)) fun v13=>
   y_pu (.bin .gtr (.cst (.int .i64 n)) (.cst v13)) fun v14=>
   y_if v14 (fun(v15 v16:AV) (h17:AH)=>
   y_pu (.nilCheck (.cst v15)) fun v18=>
   y_pu (.fieldAddr 2 (.cst v18)) fun v19=>
   y_rd (.load none (.cst v19)) h17 fun v20=>
   y_pu (.bin .neq (.cst v20) (.cst (I 0))) fun v21=>
   y_if0 v21 (XPost H p b res (fun n v _=>v=.int .i64 (n:Int)∧n<274877906944) (.ret (I 0)) h17) (XPost H p b res (fun n v _=>v=.int .i64 (n:Int)∧n<274877906944) (.ret v16) h17))
   (fun J15=>y_call Tryz.prog 24 [.ptr p 0,(I 5)] H2 (yp (XPost H p b res fun n v _=>v=.int .i64 (n:Int)∧n<274877906944)) fun _ h16=>J15 (.ptr p 0) (.int .i64 n) h16)
   (fun J15=>J15 (.ptr p 0) (.int .i64 n) H2):=fun H2 h2=>by
  refine y_pu_of (v:=.ptr p 0) rfl (y_pu_of (v:=.ptr p 0) rfl (h2.ldB fun v hv=>y_pu_of hv.len ?_))
  refine y_pu_of (v:=.ptr p 0) rfl (y_pu_of (v:=.ptr p 1) rfl (h2.ldI fun i hi hr=>?_))
  have hli:b.length-i=s1.r.length:=by rw[←hr2,←hr];simp
  refine y_pu_of (v:=.int .i64 (s1.r.length:Int)) (by
   show some (AV.int .i64 (IntKind.i64.wrap ((b.length:Int)-(i:Int))))=_
   rw[wrap_lt (by omega)]
   have:(b.length:Int)-(i:Int)=(s1.r.length:Int):=by omega
   rw[this]) (y_pu_of (v:=.bool (decide ((s1.r.length:Int)<n))) rfl (y_if_of (fun ht=>?_) (fun ht=>?_)))
  ·refine XSt.fail (e:=.short) h2 fun H3 h3=>fin H3 ?_
   rw[hs3,if_pos (of_decide_eq_true ht)];exact h3
  ·refine fin H2 ?_
   rw[hs3,if_neg (of_decide_eq_false ht)];exact h2
 refine y_pu_of (v:=.bool (decide (n<0))) rfl (y_if_of (fun ht=>?_) (fun ht=>?_))
 ·refine XSt.fail (e:=.form) h1 fun H2 h2=>mid H2 ?_
  rw[hs2,if_pos (of_decide_eq_true ht)];exact h2
 ·refine mid H1 ?_
  rw[hs2,if_neg (of_decide_eq_false ht)];exact h1
theorem Y63:XREAD Tryz.prog 63 .int:=fun h=>(X63 h).mono fun _ _ g=>by
 obtain⟨g1,x,g2,g3,g4⟩:=g
 exact⟨g1,x,g2,⟨[x],by rw[g3];rfl,by rw[g3];rfl⟩,g4⟩
theorem Y136:XREAD Tryz.prog 136 .bool:=fun h=>(X136 h).mono fun _ _ g=>by
 obtain⟨g1,x,g2,g3,g4⟩:=g
 exact⟨g1,x,g2,⟨[x],by rw[g3];rfl,by rw[g3];rfl⟩,g4⟩
theorem XEL.call {g:FuncId}{t:Ty}(hg:XREAD Tryz.prog g t){α:Type}{H0:AH}{p:Nat}{b:List UInt8}{res:α × Sx}{ok:α→AV→AH→Prop}:XEL Tryz.prog t H0 p b (XPost H0 p b res ok) (fun v h K=>y_call Tryz.prog g [v] h (yp (XPost H0 p b res ok)) K):=fun L H s K h hK=>
 h.call (hg h.rd) fun x H' h' hx=>by
  obtain⟨c,h1,h2⟩:=hx
  exact hK x c H' h' h1 h2
theorem Y65:XREAD Tryz.prog 65 tInts:=fun h=>xread_of h (TX65 (xlist_ok X22 (k:=1) (bytes:=8) (z:=[(I 0)]) rfl rfl (by omega) h (XEL.call Y63)))
theorem Y66:XREAD Tryz.prog 66 (.list tInts):=fun h=>xread_of h (TX66 (xlist_ok X22 (k:=1) (bytes:=24) (z:=[.nils]) rfl rfl (by omega) h (XEL.call Y65)))
theorem Y190:XREAD Tryz.prog 190 (.list .bool):=fun h=>xread_of h (TX190 (xlist_ok X22 (k:=1) (bytes:=1) (z:=[.bool false]) rfl rfl (by omega) h (XEL.call Y136)))
theorem Y68:XREAD Tryz.prog 68 (.list tItem):=fun{H p b s} h=>xread_of h (TX68 (xlist_ok X22 (k:=2) (bytes:=16) (z:=[(I 0),(N .u8 0)]) rfl rfl (by omega) (EL:=fun v4 h15 K=>
  y_call Tryz.prog 63 [v4] h15 (yp (XPost H p b (xd (.list tItem) s) (Mk H (.list tItem)))) fun v17 h17=>
  y_call Tryz.prog 133 [v4] h17 (yp (XPost H p b (xd (.list tItem) s) (Mk H (.list tItem)))) fun v18 h18=>
  y_pu (.build [(I 0),(N .u8 0)] [(0,1,(.cst v17)),(1,1,(.cst v18))]) fun v19=>K v19 h18) h fun L H1 s1 K h1 hK=>by
 refine h1.call (X63 h1.rd) fun x H2 h2 hx=>?_
 subst hx
 refine XSt.byte h2 fun H3 h3=>?_
 exact y_pu_of (v:=.agg ([.int .i64 (xNum s1).1]++[bv (xByte (xNum s1).2).1])) rfl (hK _ _ _ h3 rfl ⟨[.int .i64 (xNum s1).1],[bv (xByte (xNum s1).2).1],rfl,rfl,rfl⟩)))
end Go.Proofs.YtdandeekdbndgaaGreatDoor
namespace Go.AL
open Co
variable {P:Program}
section
variable {H0 H:AH}{p:Nat}{L:List (Nat × List AV)}{b:List UInt8}{s:Sx}
theorem XSt.rdT {α:Type}{res:α × Sx}{ok:α→AV→AH→Prop}{g:FuncId}{t:Ty}{K:AV→AH→Prop}(h:XSt H0 p b L H s) (hg:XREAD P g t) (hK:∀x c H',XSt H0 p b L H' (xd t s).2→x.cellsOf=some c→RC t (xd t s).1 c→c.length=tsz t→K x H') :
  y_call P g [.ptr p 0] H (yp (XPost H0 p b res ok)) K:=
 h.call (hg h.rd) fun x H' h' hx=>by
  obtain⟨c,h1,h2⟩:=hx
  exact hK x c H' h' h1 h2 (RC_len _ _ _ h2)
theorem XSt.putp {q o n:Nat}{pre z vs:List AV}{x:AV}{K:AV→AH→Prop}(h:XSt H0 p b ((q,pre++z.drop o)::L) H s) (hpre:pre.length=o) (hx:x.cellsOf=some vs) (hv:vs.length=n) (hz:o+n≤z.length)
  (hK:∀H',XSt H0 p b ((q,(pre++vs)++z.drop (o+n))::L) H' s→(pre++vs).length=o+n→K .unk H'):y_ef (.store n (.cst (.ptr q o)) (.cst x)) H K:=by
 have hs:splice (pre++z.drop o) o vs=(pre++vs)++z.drop (o+n):=by
  rw[splice_eq (by simp;omega),List.take_append_of_le_length (by omega),List.take_of_length_le (by omega),List.drop_append,List.drop_of_length_le (by omega),List.nil_append,List.drop_drop]
  congr 2;omega
 refine h.put hx hv (by simp;omega) fun H' h'=>?_
 rw[hs]at h'
 exact hK H' h' (by simp[hpre,hv])
theorem XSt.putA {q n:Nat}{z c:List AV}{K:AV→AH→Prop}(h:XSt H0 p b ((q,z)::L) H s) (hv:c.length=n) (hz:z.length=n) (hK:∀H',XSt H0 p b ((q,c)::L) H' s→K .unk H') :
  y_ef (.store n (.cst (.ptr q 0)) (.cst (.agg c))) H K:=by
 refine h.put (vs:=c) rfl hv (by omega) fun H' h'=>hK H' ?_
 have:splice z 0 c=c:=by
  rw[splice_eq (by omega)];simp;omega
 rwa [this]at h'
theorem XSt.fld {α:Type}{res:α × Sx}{ok:α→AV→AH→Prop}{g:FuncId}{t:Ty}{q o n:Nat}{pre z:List AV}{K:AH→Prop}(h:XSt H0 p b ((q,pre++z.drop o)::L) H s) (hg:XREAD P g t) (hpre:pre.length=o) (hn:tsz t=n) (hz:o+n≤z.length)
  (hK:∀c H',XSt H0 p b ((q,(pre++c)++z.drop (o+n))::L) H' (xd t s).2→(pre++c).length=o+n→RC t (xd t s).1 c→K H') :
  y_call P g [.ptr p 0] H (yp (XPost H0 p b res ok)) fun v6 h6=>y_pu (.fieldAddr o (.cst (.ptr q 0))) fun v7=>y_ef (.store n (.cst v7) (.cst v6)) h6 fun _ h8=>K h8:=
 h.rdT hg fun x c H' h' hx hr hc=>y_pu_of (v:=.ptr q o) (by simp[apure,AOpd.ev,afaddr]) (h'.putp hpre hx (hc.trans hn) hz fun H2 h2 p2=>hK c H2 h2 p2 hr)
theorem XSt.fld2 {α:Type}{res:α × Sx}{ok:α→AV→AH→Prop}{g:FuncId}{t:Ty}{q o1 o2 o n:Nat}{pre z:List AV}{K:AH→Prop}(h:XSt H0 p b ((q,pre++z.drop o)::L) H s) (hg:XREAD P g t) (ho:o1+o2=o) (hpre:pre.length=o) (hn:tsz t=n) (hz:o+n≤z.length)
  (hK:∀c H',XSt H0 p b ((q,(pre++c)++z.drop (o+n))::L) H' (xd t s).2→(pre++c).length=o+n→RC t (xd t s).1 c→K H') :
  y_call P g [.ptr p 0] H (yp (XPost H0 p b res ok)) fun v6 h6=>y_pu (.fieldAddr o1 (.cst (.ptr q 0))) fun v6'=>y_pu (.fieldAddr o2 (.cst v6')) fun v7=>y_ef (.store n (.cst v7) (.cst v6)) h6 fun _ h8=>K h8:=by
 subst ho
 exact h.rdT hg fun x c H' h' hx hr hc=>y_pu_of (v:=.ptr q o1) (by simp[apure,AOpd.ev,afaddr]) (y_pu_of (v:=.ptr q (o1+o2)) (by simp[apure,AOpd.ev,afaddr]) (h'.putp hpre hx (hc.trans hn) hz fun H2 h2 p2=>hK c H2 h2 p2 hr))
theorem XSt.fdone {q o:Nat}{pre z:List AV}(h:XSt H0 p b ((q,pre++z.drop o)::L) H s) (hz:z.length≤o):XSt H0 p b ((q,pre)::L) H s:=by
 rw[List.drop_of_length_le hz,List.append_nil]at h;exact h
theorem XSt.out {q q1 n:Nat}{c z:List AV}{K:AV→AH→Prop}(h:XSt H0 p b ((q,c)::(q1,z)::L) H s) (hc:c.length=n) (hz:z.length=n) (hK:∀H',XSt H0 p b ((q1,c)::(q,c)::L) H' s→K (.agg c) H') :
  y_rd (.load (some n) (.cst (.ptr q 0))) H fun v27=>y_ef (.store n (.cst (.ptr q1 0)) (.cst v27)) H fun _ h28=>y_rd (.load (some n) (.cst (.ptr q1 0))) h28 fun v29=>K v29 h28:=
 h.ldA (.head _) hc (XSt.putA (h.perm (.swap _ _ _)) hc hz fun H' h'=>h'.ldA (.head _) hc (hK H' h'))
theorem XSt.ret {t:Ty}{c:List AV}{d:t.D}{s0:Sx}(h:XSt H0 p b L H s) (hres:xd t s0=(d,s)) (hr:RC t d c):XPost H0 p b (xd t s0) (Mk H0 t) (.ret (.agg c)) H:=
 h.fin hres ⟨[],c,fun w hw=>(by cases hw),hr.rf,.inr rfl⟩
end
end Go.AL
namespace Go.Proofs.YtdandeekdbndgaaGreatDoor
open Go Go.AL Go.AL.Co
set_option maxHeartbeats 1000000 in
theorem Y67:XREAD Tryz.prog 67 (.list tStep):=fun{H p b s} h=>xread_of h (TX67 (xlist_ok X22 (k:=8) (bytes:=80) (z:=((I 0)::(.nils::(rpl 6 (I 0) [])))) rfl rfl (by omega) (EL:=fun v4 h15 K=>
  y_call Tryz.prog 63 [v4] h15 (yp (XPost H p b (xd (.list tStep) s) (Mk H (.list tStep)))) fun v17 h17=>
  y_pu (.build ((I 0)::(.nils::(rpl 6 (I 0) []))) [(0,1,(.cst v17))]) fun v18=>
  y_ef (.alloc ((I 0)::(.nils::(rpl 6 (I 0) [])))) h17 fun v19 h19=>
  y_ef (.store 8 (.cst v19) (.cst v18)) h19 fun _ h20=>
  y_call Tryz.prog 65 [v4] h20 (yp (XPost H p b (xd (.list tStep) s) (Mk H (.list tStep)))) fun v21 h21=>
  y_pu (.fieldAddr 1 (.cst v19)) fun v22=>
  y_ef (.store 1 (.cst v22) (.cst v21)) h21 fun _ h23=>
  y_call Tryz.prog 63 [v4] h23 (yp (XPost H p b (xd (.list tStep) s) (Mk H (.list tStep)))) fun v24 h24=>
  y_pu (.fieldAddr 2 (.cst v19)) fun v25=>
  y_ef (.store 1 (.cst v25) (.cst v24)) h24 fun _ h26=>
  y_call Tryz.prog 63 [v4] h26 (yp (XPost H p b (xd (.list tStep) s) (Mk H (.list tStep)))) fun v27 h27=>
  y_pu (.fieldAddr 3 (.cst v19)) fun v28=>
  y_ef (.store 1 (.cst v28) (.cst v27)) h27 fun _ h29=>
  y_call Tryz.prog 63 [v4] h29 (yp (XPost H p b (xd (.list tStep) s) (Mk H (.list tStep)))) fun v30 h30=>
  y_pu (.fieldAddr 4 (.cst v19)) fun v31=>
  y_ef (.store 1 (.cst v31) (.cst v30)) h30 fun _ h32=>
  y_call Tryz.prog 63 [v4] h32 (yp (XPost H p b (xd (.list tStep) s) (Mk H (.list tStep)))) fun v33 h33=>
  y_pu (.fieldAddr 5 (.cst v19)) fun v34=>
  y_ef (.store 1 (.cst v34) (.cst v33)) h33 fun _ h35=>
  y_call Tryz.prog 63 [v4] h35 (yp (XPost H p b (xd (.list tStep) s) (Mk H (.list tStep)))) fun v36 h36=>
  y_pu (.fieldAddr 6 (.cst v19)) fun v37=>
  y_ef (.store 1 (.cst v37) (.cst v36)) h36 fun _ h38=>
  y_call Tryz.prog 63 [v4] h38 (yp (XPost H p b (xd (.list tStep) s) (Mk H (.list tStep)))) fun v39 h39=>
  y_pu (.fieldAddr 7 (.cst v19)) fun v40=>
  y_ef (.store 1 (.cst v40) (.cst v39)) h39 fun _ h41=>
  y_rd (.load (some 8) (.cst v19)) h41 fun v42=>K v42 h41) h fun L H1 s1 K h1 hK=>by
 generalize hz:(I 0::.nils::rpl 6 (I 0) [])=z
 have hzl:z.length=8:=by rw[←hz];rfl
 refine h1.rdT Y63 fun x0 c0 H2 h2 hx0 r0 l0=>?_
 have l0:c0.length=1:=l0
 refine y_pu_of (build1 hx0 (n:=1) l0 (by omega)) (h2.alloc fun q H3 h3=>?_)
 refine h3.putA (by rw[List.length_append,List.length_drop,l0,hzl]) hzl fun H4 h4=>?_
 refine h4.fld Y65 l0 rfl (by omega) fun c1 H5 h5 p5 r1=>?_
 refine h5.fld Y63 p5 rfl (by omega) fun c2 H6 h6 p6 r2=>?_
 refine h6.fld Y63 p6 rfl (by omega) fun c3 H7 h7 p7 r3=>?_
 refine h7.fld Y63 p7 rfl (by omega) fun c4 H8 h8 p8 r4=>?_
 refine h8.fld Y63 p8 rfl (by omega) fun c5 H9 h9 p9 r5=>?_
 refine h9.fld Y63 p9 rfl (by omega) fun c6 H10 h10 p10 r6=>?_
 refine h10.fld Y63 p10 rfl (by omega) fun c7 H11 h11 p11 r7=>?_
 refine(h11.fdone (by omega)).ldA (.head _) p11 ?_
 refine hK _ _ _ (h11.sub (List.sublist_cons_self _ _)) rfl ?_
 simp only[List.append_assoc]
 exact⟨_,_,rfl,r0,_,_,rfl,r1,_,_,rfl,r2,_,_,rfl,r3,_,_,rfl,r4,_,_,rfl,r5,_,_,rfl,r6,r7⟩))
end Go.Proofs.YtdandeekdbndgaaGreatDoor
namespace Go.Proofs.YtdandeekdbndgaaGreatDoor
open Go Go.AL Go.AL.Co
theorem xVec_app:∀(n:Nat) (s:Sx),xVec (n+1) s=((xVec n s).1++[(xByte (xVec n s).2).1],(xByte (xVec n s).2).2)
 | 0,s=>rfl
 | n+1,s=>by
  show((xByte s).1::(xVec (n+1) (xByte s).2).1,(xVec (n+1) (xByte s).2).2)=_
  rw[xVec_app n (xByte s).2];rfl
theorem xVec_len:∀(n:Nat) (s:Sx),(xVec n s).1.length=n
 | 0,s=>rfl
 | n+1,s=>by
  show(xVec n (xByte s).2).1.length+1=n+1
  rw[xVec_len n]
set_option maxHeartbeats 2000000 in
theorem Y189:XREAD Tryz.prog 189 (.list tClass):=fun{H p b s} hR=>xread_of hR (TX189 (by
 obtain⟨res,hres⟩:∃res:List tClass.D × Sx,res=xMany (xd tClass) (xCount s).1 (xCount s).2:=⟨_,rfl⟩
 have hres0:xd (.list tClass) s=res:=hres.symm
 rw[hres0]
 unfold GX189
 refine(XSt.start hR).new fun o v H1 s1 hv=>?_
 refine s1.call (X22 s1.rd) fun w H2 s2 hw=>?_
 obtain⟨rfl,hn⟩:=hw
 generalize (xCount s).1=n at hres hn
 generalize (xCount s).2=s' at hres s2
 let Iv:AV→AV→AV→AV→AH→Prop:=fun a v c d H'=>a=.ptr p 0∧c=.int .i64 (n:Int)∧∃(i:Nat) (l:List tClass.D) (cs:List AV) (o:List (Nat × List AV)) (s':Sx),d=.int .i64 (i:Int)∧Lp (xd tClass) n res i l s'∧XSt H p b (o++[]) H' s'∧Lv (tsz tClass) o i cs v∧Gl [] tClass l cs
 let μ:AV→AV→AV→AV→AH→Nat:=fun _ _ _ d _=>match d with
  | .int _ j=>(n-j).toNat
  | _=>0
 refine⟨Iv,μ,⟨rfl,rfl,0,[],[],o,s',rfl,?_,s2,hv,.nil⟩,?_⟩
 ·rw[hres];exact .start
 intro e H3 hI
 obtain⟨e1,e3,i,l,cs,o,s3,e4,hl,s4,hv,hg⟩:=(hI:Iv (e 0) (e 3) (e 4) (e 5) H3)
 obtain⟨v,e2⟩:∃v,e 3=v:=⟨_,rfl⟩
 rw[e2]at hv
 show y_pu (.bin .lss (.cst (e 5)) (.cst (e 4))) _
 rw[e4,e3,e2,e1]
 have hi:=hl.le
 refine s4.guard (fun hlt he=>?_) (fun hd=>?_)
 case refine_2=>
  refine s4.fin (hl.done hd) ⟨o++[],[v],fun w hw=>?_,hg.frz (by rw[hl.len];exact hv),.inl ⟨rfl,rfl⟩⟩
  obtain⟨g1,_,g3⟩:=s4.l w hw
  exact⟨g1,g3⟩
 refine y_pu_of (v:=.agg (rpl 4 (N .u64 0) [])) rfl (s4.alloc fun q H4 s5=>s5.putA rfl rfl fun H5 s6=>?_)
 let Jv:AV→AV→AV→AV→AV→AV→AH→Prop:=fun a v' c d f g H'=>a=.ptr p 0∧v'=v∧c=.int .i64 (n:Int)∧d=.int .i64 (i:Int)∧f=.ptr q 0∧∃k:Nat,g=.int .i64 (k:Int)∧k≤32∧XSt H p b ((q,cw (xVec k s3).1)::(o++[])) H' (xVec k s3).2
 let ν:AV→AV→AV→AV→AV→AV→AH→Nat:=fun _ _ _ _ _ g _=>match g with
  | .int _ j=>(32-j).toNat
  | _=>0
 refine⟨Jv,ν,⟨rfl,rfl,rfl,rfl,rfl,0,rfl,by omega,s6⟩,?_⟩
 intro e' H6 hJ
 obtain⟨f1,f2,f3,f4,f5,k,f6,hk,s7⟩:=(hJ:Jv (e' 0) (e' 3) (e' 4) (e' 5) (e' 6) (e' 7) H6)
 show y_pu (.bin .lss (.cst (e' 7)) (.cst (I 32))) _
 rw[f6,f5,f4,f3,f2,f1]
 have hbl:=xVec_len k s3
 refine y_pu_of (v:=.bool (decide ((k:Int)<32))) rfl (y_if0_of (fun ht=>?_) (fun ht=>?_))
 ·have hlt:k<32:=by have:=of_decide_eq_true ht;omega
  have hj:k / 8<4:=by omega
  have hq8:apure (.bin .quo (.cst (.int .i64 (k:Int))) (.cst (I 8))) emp=some (.int .i64 ((k / 8:Nat):Int)):=by
   show some (AV.int .i64 (IntKind.i64.wrap ((k:Int).tdiv 8)))=_
   rw[Int.tdiv_eq_ediv_of_nonneg (by omega),wrap_lt (by omega)];rfl
  refine y_pu_of hq8 (y_pu_of hq8 ?_)
  have hja:(0:Int)≤((k / 8:Nat):Int)∧((k / 8:Nat):Int)<((4:Nat):Int):=by omega
  have hix:apure (.indexAddrA 4 1 (.cst (.ptr q 0)) (.cst (.int .i64 ((k / 8:Nat):Int)))) emp=some (.ptr q (k / 8)):=by
   show(if (0:Int)≤((k / 8:Nat):Int)∧((k / 8:Nat):Int)<((4:Nat):Int)then some (AV.ptr q (0+(((k / 8:Nat):Int)).toNat*1))else none)=_
   rw[if_pos hja,Int.toNat_natCast,Nat.mul_one,Nat.zero_add]
  refine y_pu_of hix (s7.ld (.head _) (cw_get hj) ?_)
  refine y_pu_of (v:=.int .i64 ((k % 8:Nat):Int)) (by
   show some (AV.int .i64 ((k:Int).tmod 8))=_
   rw[Int.tmod_eq_emod_of_nonneg (by omega)];rfl) ?_
  refine y_pu_of (v:=.int .i64 ((8*(k % 8):Nat):Int)) (by
   show some (AV.int .i64 (IntKind.i64.wrap (8*((k % 8:Nat):Int))))=_
   rw[wrap_lt (by omega)];rfl) ?_
  refine XSt.byte s7 fun H7 s8=>?_
  refine⟨⟨?_,trivial⟩,?_⟩
  ·obtain⟨_,_,h3⟩:=s8.l _ (.head _)
   show aread (.load none (.cst (.ptr q (k / 8)))) emp H7=some (wd (xVec k s3).1 (k / 8))
   have h3:H7.get q=some (.cells (cw (xVec k s3).1)):=h3
   have:=cw_get (bs:=(xVec k s3).1) hj
   simp only[aread,aload,AOpd.ev,AH.cells?,h3,apart,this]
  have hstep:=xVec_app k s3
  generalize (xByte (xVec k s3).2).1=x at hstep ⊢
  generalize (xByte (xVec k s3).2).2=st at hstep s8
  generalize (xVec k s3).1=bs at hbl hstep s8
  have hx:=x.toNat_lt
  obtain⟨w1,w2⟩:=wd_at (bs:=bs) (x:=x) (j:=k / 8) (by rw[hbl])
  rw[hbl]at w1 w2
  have w3:((bs.drop (8*(k / 8))).take 8).length=k % 8:=by rw[List.length_take];omega
  have w4:=w8_lt ((bs.drop (8*(k / 8))).take 8)
  rw[w3]at w4
  generalize hW:w8 ((bs.drop (8*(k / 8))).take 8)=W at w2 w4
  have w5:x.toNat*2 ^ (8*(k % 8))≤255*2 ^ (8*(k % 8)):=Nat.mul_le_mul_right _ (by omega)
  have w6:(2:Nat) ^ (8*(k % 8))≤2 ^ 56:=Nat.pow_le_pow_right (by omega) (by omega)
  have w7:(2:Nat) ^ 56=72057594037927936:=by decide
  have hwd:wd bs (k / 8)=.int .u64 (.ofNat W):=by unfold wd;rw[hW];rfl
  rw[hwd]
  refine y_pu_of (v:=.int .u64 (.ofNat x.toNat)) (by
   show some (AV.int .u64 (IntKind.u64.wrap (x.toNat:Int)))=_
   rw[wrap_u64n (by omega)];rfl) ?_
  refine y_pu_of (v:=.int .u64 (.ofNat (x.toNat*2 ^ (8*(k % 8))))) (by
   have h1:(0:Int)≤((8*(k % 8):Nat):Int):=Int.natCast_nonneg _
   show(if (0:Int)≤((8*(k % 8):Nat):Int)then some (AV.int .u64 (IntKind.u64.wrap (Int.ofNat x.toNat*2 ^ (min ((8*(k % 8):Nat):Int).toNat IntKind.u64.bits))))else none)=_
   rw[if_pos h1]
   have h2:min ((8*(k % 8):Nat):Int).toNat IntKind.u64.bits=8*(k % 8):=by
    show min (8*(k % 8)) 64=8*(k % 8);omega
   have h3:Int.ofNat x.toNat*2 ^ (8*(k % 8))=((x.toNat*2 ^ (8*(k % 8)):Nat):Int):=by simp
   rw[h2,h3,wrap_u64n (by omega)];rfl) ?_
  refine y_pu_of (v:=wd (bs++[x]) (k / 8)) (by
   show abin .or (.int .u64 (.ofNat W)) (.int .u64 (.ofNat (x.toNat*2 ^ (8*(k % 8)))))=_
   rw[ab_or,or_add w4,w2]
   show some (AV.int .u64 (IntKind.u64.wrap (((W+x.toNat*2 ^ (8*(k % 8))) % 18446744073709551616:Nat):Int)))=_
   rw[Nat.mod_eq_of_lt (by omega),wrap_u64n (by omega)]) ?_
  refine y_pu_of hix (s8.put (vs:=[wd (bs++[x]) (k / 8)]) rfl rfl (by simp[cw];omega) fun H8 s9=>⟨trivial,?_⟩)
  have hcs:=cw_step (bs:=bs) (x:=x) (by omega)
  rw[hbl]at hcs
  rw[hcs]at s9
  refine y_pu_of (i_add k (by omega)) ⟨⟨rfl,rfl,rfl,rfl,rfl,k+1,rfl,hlt,?_⟩,?_⟩
  ·rw[hstep];exact s9
  ·show((32:Int)-((k+1:Nat):Int)).toNat<ν (e' 0) (e' 3) (e' 4) (e' 5) (e' 6) (e' 7) H6
   rw[f6]
   show((32:Int)-((k+1:Nat):Int)).toNat<((32:Int)-(k:Int)).toNat
   omega
 ·have hge:k=32:=by have:=of_decide_eq_false ht;omega
  subst hge
  refine s7.ldA (.head _) rfl ?_
  have hr:RC tClass (xd tClass s3).1 (cw (xVec 32 s3).1):=⟨hbl,rfl,fun j hj=>cw_get hj⟩
  have hcs:=hg.n
  rw[hl.len]at hcs
  refine(s7.sub (List.sublist_cons_self _ _)).add hv hcs (c:=cw (xVec 32 s3).1) rfl rfl rfl (by omega) (by omega) fun o' v' H7 s8 hv'=>?_
  refine y_pu_of (i_add i (by omega)) ⟨⟨rfl,rfl,i+1,_,_,o',_,rfl,hl.next hlt he,s8,hv',hg.add hr.rf rfl⟩,?_⟩
  show((n:Int)-((i+1:Nat):Int)).toNat<μ (e 0) (e 3) (e 4) (e 5) H3
  rw[e4]
  show((n:Int)-((i+1:Nat):Int)).toNat<((n:Int)-(i:Int)).toNat
  omega))
theorem Y134:XREAD Tryz.prog 134 (.pair (.list tClass) (.pair (.list tInts) (.list .bool))):=fun{H p b s} hR=>xread_of hR (TX134 (by
 unfold GX134
 have hzl:[AV.nils,AV.nils,AV.nils].length=3:=rfl
 generalize [AV.nils,AV.nils,AV.nils]=z at hzl
 refine(XSt.start hR).alloc fun q1 H1 h1=>?_
 refine h1.rdT Y189 fun x0 c0 H2 h2 hx0 r0 l0=>?_
 have l0:c0.length=1:=l0
 refine y_pu_of (build1 hx0 (n:=1) l0 (by omega)) (h2.alloc fun q H3 h3=>?_)
 refine h3.putA (by rw[List.length_append,List.length_drop,l0,hzl]) hzl fun H4 h4=>?_
 refine h4.fld Y66 l0 rfl (by omega) fun c1 H5 h5 p5 r1=>?_
 refine h5.fld Y190 p5 rfl (by omega) fun c2 H6 h6 p6 r2=>?_
 refine(h6.fdone (by omega)).out p6 hzl fun H7 h7=>h7.ret rfl ?_
 simp only[List.append_assoc]
 exact⟨_,_,rfl,r0,_,_,rfl,r1,r2⟩))
end Go.Proofs.YtdandeekdbndgaaGreatDoor
namespace Go.AL
open Co
variable {P:Program}
section
variable {H0 H:AH}{p:Nat}{L:List (Nat × List AV)}{b:List UInt8}{s:Sx}
theorem nw_of_ef {k:Nat}{z c:List AV}{x:AV}{K:AV→AH→Prop}(hx:x.cellsOf=some c) (hc:c.length=k) (hz:z.length=k) (h:y_ef (.buildSlice k 1 z [(0,k,(.cst x))]) H K):y_nw (.buildSlice k 1 z [(0,k,(.cst x))]) H K:=by
 have hd:z.drop k=[]:=List.drop_of_length_le (by omega)
 have e1:aeff (.buildSlice k 1 z [(0,k,(.cst x))]) emp H=some (.sl H.next 0 1 (.ex 1),H.push (.cells c)):=by
  simp[aeff,afill,AOpd.ev,hx,hc,hz,hd]
 unfold y_ef at h
 rw[e1]at h
 exact y_nw_of (c:=c) (f:=fun r=>.sl r 0 1 (.ex 1)) (by simp[anew,afill,AOpd.ev,hx,hc,hz,hd]) h
theorem XSt.putM {A B:List (Nat × List AV)}{q o n:Nat}{c vs:List AV}{x:AV}{K:AV→AH→Prop}(h:XSt H0 p b (A++(q,c)::B) H s) (hx:x.cellsOf=some vs) (hv:vs.length=n) (hz:o+n≤c.length)
  (hK:∀H',XSt H0 p b (A++(q,splice c o vs)::B) H' s→K .unk H'):y_ef (.store n (.cst (.ptr q o)) (.cst x)) H K:=
 (h.perm List.perm_middle.symm).put hx hv hz fun H' h'=>hK H' (h'.perm List.perm_middle)
theorem XSt.mem {A B:List (Nat × List AV)}{q:Nat}{c:List AV}:(q,c)∈A++(q,c)::B:=by simp
theorem XSt.outM {A:List (Nat × List AV)}{q q1 n:Nat}{c z:List AV}{K:AV→AH→Prop}(h:XSt H0 p b (A++[(q,c),(q1,z)]) H s) (hc:c.length=n) (hz:z.length=n) (hK:∀H',XSt H0 p b (A++[(q,c),(q1,c)]) H' s→K (.agg c) H') :
  y_rd (.load (some n) (.cst (.ptr q 0))) H fun v27=>y_ef (.store n (.cst (.ptr q1 0)) (.cst v27)) H fun _ h28=>y_rd (.load (some n) (.cst (.ptr q1 0))) h28 fun v29=>K v29 h28:=by
 refine h.ldA XSt.mem hc ?_
 have e:A++[(q,c),(q1,z)]=(A++[(q,c)])++(q1,z)::[]:=by simp
 rw[e]at h
 refine h.putM (vs:=c) rfl hc (by omega) fun H' h'=>?_
 have hs:splice z 0 c=c:=by
  rw[splice_eq (by omega)];simp;omega
 rw[hs]at h'
 refine h'.ldA XSt.mem hc (hK H' ?_)
 have e':A++[(q,c),(q1,c)]=(A++[(q,c)])++(q1,c)::[]:=by simp
 rw[e'];exact h'
theorem XSt.live {A B:List (Nat × List AV)}(h:XSt H0 p b (A++B) H s):∀w∈A,H0.next≤w.1∧H.get w.1=some (.cells w.2):=fun w hw=>by
 obtain⟨g1,_,g3⟩:=h.l w (List.mem_append_left _ hw)
 exact⟨g1,g3⟩
theorem len1 {c:List AV}(h:c.length=1):∃y,c=[y]:=by
 match c,h with
 | [y],_=>exact⟨y,rfl⟩
end
end Go.AL
namespace Go.Proofs.YtdandeekdbndgaaGreatDoor
open Go Go.AL Go.AL.Co
set_option maxHeartbeats 2000000 in
theorem Y191:XREAD Tryz.prog 191 tMove:=fun{H p b s} hR=>xread_of hR (TX191 (by
 unfold GX191
 have hzl:[I 0,AV.nils].length=2:=rfl
 refine(XSt.start hR).alloc fun q1 H1 h1=>?_
 refine h1.call (X63 h1.rd) fun x0 H2 h2 hx0=>?_
 subst hx0
 refine y_pu_of (v:=.agg [.int .i64 (xNum s).1,.nils]) rfl (h2.alloc fun q H3 h3=>?_)
 refine h3.putA rfl rfl fun H4 h4=>?_
 refine h4.call (X22 h4.rd) fun w H5 h5 hw=>?_
 obtain⟨rfl,hn⟩:=hw
 obtain⟨res,hres⟩:∃res:List tPiece.D × Sx,res=xMany (xd tPiece) (xCount (xNum s).2).1 (xCount (xNum s).2).2:=⟨_,rfl⟩
 have hdef:xd tMove s=(((xNum s).1,res.1),res.2):=by rw[hres];rfl
 generalize (xNum s).1=n0 at hdef h5
 generalize (xNum s).2=s1 at hres hn h5 ⊢
 generalize (xCount s1).1=n at hres hn
 generalize (xCount s1).2=s' at hres h5
 let Iv:AV→AV→AV→AV→AV→AH→Prop:=fun a b' b2 c d H'=>a=.ptr p 0∧b'=.ptr q1 0∧b2=.ptr q 0∧c=.int .i64 (n:Int)∧∃(i:Nat) (l:List tPiece.D) (cs:List AV) (o:List (Nat × List AV)) (v:AV) (s':Sx),d=.int .i64 (i:Int)∧Lp (xd tPiece) n res i l s' ∧
  XSt H p b (o++[(q,[.int .i64 n0,v]),(q1,[I 0,.nils])]) H' s'∧Lv (tsz tPiece) o i cs v∧Gl [] tPiece l cs
 let μ:AV→AV→AV→AV→AV→AH→Nat:=fun _ _ _ _ d _=>match d with
  | .int _ j=>(n-j).toNat
  | _=>0
 refine⟨Iv,μ,⟨rfl,rfl,rfl,rfl,0,[],[],[],.nils,s',rfl,?_,h5,.nil,.nil⟩,?_⟩
 ·rw[hres];exact .start
 intro e H6 hI
 obtain⟨e1,e2,e3,e4,i,l,cs,o,v,s3,e5,hl,s4,hv,hg⟩:=(hI:Iv (e 0) (e 2) (e 3) (e 4) (e 5) H6)
 show y_pu (.bin .lss (.cst (e 5)) (.cst (e 4))) _
 rw[e5,e4,e3,e2,e1]
 have hi:=hl.le
 refine s4.guard (fun hlt he=>?_) (fun hd=>?_)
 ·refine s4.call (X136 s4.rd) fun x H7 s5 hx=>?_
  subst hx
  refine y_pu_of (v:=.ptr q 1) rfl (s5.ld XSt.mem (o:=1) rfl ?_)
  refine XSt.byte s5 fun H8 s6=>?_
  refine⟨⟨?_,trivial⟩,?_⟩
  ·obtain⟨_,_,g3⟩:=s6.l (q,[.int .i64 n0,v]) XSt.mem
   show aread (.load none (.cst (.ptr q 1))) emp H8=some v
   have g3:H8.get q=some (.cells [.int .i64 n0,v]):=g3
   simp[aread,aload,AOpd.ev,AH.cells?,g3,apart]
  have hcs:=hg.n
  rw[hl.len]at hcs
  refine y_pu_of (v:=.agg [.bool (xd .bool s3).1,bv (xByte (xd .bool s3).2).1]) rfl (nw_of_ef (c:=[.bool (xd .bool s3).1,bv (xByte (xd .bool s3).2).1]) rfl rfl rfl ?_)
  refine s6.add hv hcs (c:=[.bool (xd .bool s3).1,bv (xByte (xd .bool s3).2).1]) rfl rfl rfl (by omega) (by omega) fun o' v' H9 s7 hv'=>⟨trivial,?_⟩
  refine y_pu_of (v:=.ptr q 1) rfl (s7.putM hv'.cell rfl (by simp) fun H10 s8=>⟨trivial,?_⟩)
  have hr:RC tPiece (xd tPiece s3).1 [.bool (xd .bool s3).1,bv (xByte (xd .bool s3).2).1]:=⟨[.bool (xd .bool s3).1],[bv (xByte (xd .bool s3).2).1],rfl,rfl,rfl⟩
  refine y_pu_of (i_add i (by omega)) ⟨⟨rfl,rfl,rfl,rfl,i+1,_,_,o',v',_,rfl,hl.next hlt he,s8,hv',hg.add hr.rf rfl⟩,?_⟩
  show((n:Int)-((i+1:Nat):Int)).toNat<μ (e 0) (e 2) (e 3) (e 4) (e 5) H6
  rw[e5]
  show((n:Int)-((i+1:Nat):Int)).toNat<((n:Int)-(i:Int)).toNat
  omega
 ·refine s4.outM rfl rfl fun H7 s5=>?_
  have hd:=hl.done hd
  rw[hd]at hdef
  have hf:=hg.frz (t:=tPiece) (o:=o) (v:=v) (by rw[hl.len];exact hv)
  rw[List.append_nil]at hf
  have hn0:RC .int n0 [AV.int .i64 n0]:=rfl
  exact s5.fin hdef ⟨o,[.int .i64 n0,v],s5.live,(hn0.rf (R:=o)).pair hf,.inr rfl⟩))
def tTr:Ty:=.pair (.list tClass) (.pair (.list (.list tMove)) (.pair (.list .bool) (.list tBytes)))
theorem xd_pair (a b:Ty) (s:Sx):xd (.pair a b) s=(((xd a s).1,(xd b (xd a s).2).1),(xd b (xd a s).2).2):=rfl
theorem xd_list (t:Ty) (s:Sx):xd (.list t) s=xMany (xd t) (xCount s).1 (xCount s).2:=rfl
theorem mapX {α:Type}(f:Sx→α × Sx) (n:Nat) (s:Sx):∃res,res=xMany f n s:=⟨_,rfl⟩
set_option maxHeartbeats 4000000 in
theorem Y135:XREAD Tryz.prog 135 tTr:=fun{H p b s} hR=>xread_of hR (TX135 (by
 unfold GX135
 refine(XSt.start hR).alloc fun q1 H1 h1=>?_
 refine h1.rdT Y189 fun x0 c0 H2 h2 hx0 r0 l0=>?_
 obtain⟨y0,rfl⟩:=len1 (show c0.length=1 from l0)
 refine y_pu_of (build1 hx0 (n:=1) rfl (by decide)) (h2.alloc fun q H3 h3=>?_)
 refine h3.putA rfl rfl fun H4 h4=>?_
 have hdef0:xd tTr s=(((xd (.list tClass) s).1,(xd (.pair (.list (.list tMove)) (.pair (.list .bool) (.list tBytes))) (xd (.list tClass) s).2).1),(xd (.pair (.list (.list tMove)) (.pair (.list .bool) (.list tBytes))) (xd (.list tClass) s).2).2):=xd_pair (.list tClass) (.pair (.list (.list tMove)) (.pair (.list .bool) (.list tBytes))) s
 generalize (xd (.list tClass) s).1=d0 at hdef0 r0
 generalize (xd (.list tClass) s).2=s1 at hdef0 h4
 refine h4.call (X22 h4.rd) fun w H5 h5 hw=>?_
 obtain⟨rfl,hn⟩:=hw
 obtain⟨res,hres⟩:=mapX (xd (.list tMove)) (xCount s1).1 (xCount s1).2
 have hdef1:xd tTr s=((d0,(res.1,(xd (.pair (.list .bool) (.list tBytes)) res.2).1)),(xd (.pair (.list .bool) (.list tBytes)) res.2).2):=by
  rw[hdef0,xd_pair,show xd (.list (.list tMove)) s1=res from(xd_list _ _).trans hres.symm];dsimp only;rfl
 generalize (xCount s1).1=n at hres hn
 generalize (xCount s1).2=s2 at hres h5
 clear hdef0
 let Iv:AV→AV→AV→AV→AV→AH→Prop:=fun a b' b2 c d H'=>a=.ptr p 0∧b'=.ptr q1 0∧b2=.ptr q 0∧c=.int .i64 (n:Int)∧∃(i:Nat) (l:List (Ty.list tMove).D) (cs:List AV) (o R:List (Nat × List AV)) (v:AV) (s':Sx),d=.int .i64 (i:Int)∧Lp (xd (.list tMove)) n res i l s' ∧
  XSt H p b (o++(R++[(q,[y0,v,.nils,.nils]),(q1,rpl 4 .nils [])])) H' s'∧Lv (tsz (.list tMove)) o i cs v∧Gl R (.list tMove) l cs
 let μ:AV→AV→AV→AV→AV→AH→Nat:=fun _ _ _ _ d _=>match d with
  | .int _ j=>(n-j).toNat
  | _=>0
 refine⟨Iv,μ,⟨rfl,rfl,rfl,rfl,0,[],[],[],[],.nils,s2,rfl,?_,h5,.nil,.nil⟩,?_⟩
 ·rw[hres];exact .start
 intro e H6 hI
 obtain⟨e1,e2,e3,e4,i,l,cs,o,R,v,s3,e5,hl,s4,hv,hg⟩:=(hI:Iv (e 0) (e 2) (e 3) (e 4) (e 5) H6)
 have hmu:μ (e 0) (e 2) (e 3) (e 4) (e 5) H6=((n:Int)-(i:Int)).toNat:=by rw[e5]
 show y_pu (.bin .lss (.cst (e 5)) (.cst (e 4))) _
 rw[e5,e4,e3,e2,e1]
 have hi:=hl.le
 refine s4.guard (fun hlt he=>?_) (fun hd=>?_)
 ·
  refine s4.new fun o2 row H7 s5 hrow=>?_
  refine s5.call (X22 s5.rd) fun w H8 s6 hw=>?_
  obtain⟨rfl,hk⟩:=hw
  obtain⟨res2,hres2⟩:=mapX (xd tMove) (xCount s3).1 (xCount s3).2
  have hdef2:xd (.list tMove) s3=res2:=(xd_list _ _).trans hres2.symm
  generalize (xCount s3).1=k at hres2 hk
  generalize (xCount s3).2=s7 at hres2 s6
  let Jv:AV→AV→AV→AV→AV→AV→AV→AV→AH→Prop:=fun a b' b2 c d f g m H'=>a=.ptr p 0∧b'=.ptr q1 0∧b2=.ptr q 0∧c=.int .i64 (n:Int)∧d=.int .i64 (i:Int)∧g=.int .i64 (k:Int)∧∃(j:Nat) (l2:List tMove.D) (cs2:List AV) (o2:List (Nat × List AV)) (s':Sx),m=.int .i64 (j:Int)∧Lp (xd tMove) k res2 j l2 s' ∧
   XSt H p b (o2++(o++(R++[(q,[y0,v,.nils,.nils]),(q1,rpl 4 .nils [])]))) H' s'∧Lv (tsz tMove) o2 j cs2 f∧Gl [] tMove l2 cs2
  let ν:AV→AV→AV→AV→AV→AV→AV→AV→AH→Nat:=fun _ _ _ _ _ _ _ m _=>match m with
   | .int _ j=>(k-j).toNat
   | _=>0
  refine⟨Jv,ν,⟨rfl,rfl,rfl,rfl,rfl,rfl,0,[],[],o2,s7,rfl,?_,s6,hrow,.nil⟩,?_⟩
  ·rw[hres2];exact .start
  intro e' H9 hJ
  obtain⟨f1,f2,f3,f4,f5,f7,j,l2,cs2,o3,s8,f8,hl2,s9,hrow3,hg2⟩:=(hJ:Jv (e' 0) (e' 2) (e' 3) (e' 4) (e' 5) (e' 6) (e' 7) (e' 8) H9)
  obtain⟨row3,f6⟩:∃r,e' 6=r:=⟨_,rfl⟩
  rw[f6]at hrow3
  have hnu:ν (e' 0) (e' 2) (e' 3) (e' 4) (e' 5) (e' 6) (e' 7) (e' 8) H9=((k:Int)-(j:Int)).toNat:=by rw[f8]
  show y_pu (.bin .lss (.cst (e' 8)) (.cst (e' 7))) _
  rw[f8,f7,f6,f5,f4,f3,f2,f1]
  have hj:=hl2.le
  refine s9.guard (fun hlt2 he2=>?_) (fun hd2=>?_)
  ·refine s9.rdT Y191 fun x c H10 s10 hx hr hcl=>?_
   have hcs:=hg2.n
   rw[hl2.len]at hcs
   refine s10.add hrow3 hcs hx hcl rfl (by omega) (by omega) fun o' v' H11 s11 hv'=>?_
   refine y_pu_of (i_add j (by omega)) ⟨⟨rfl,rfl,rfl,rfl,rfl,rfl,j+1,_,_,o',_,rfl,hl2.next hlt2 he2,s11,hv',hg2.add hr.rf hcl⟩,?_⟩
   exact Nat.lt_of_lt_of_eq (by omega:((k:Int)-((j+1:Nat):Int)).toNat<((k:Int)-(j:Int)).toNat) hnu.symm
  ·have hd2:=hl2.done hd2
   rw[hd2]at hdef2
   have hf:=hg2.frz (o:=o3) (v:=row3) (by rw[hl2.len];exact hrow3)
   have s10:XSt H p b (o++(((o3++R)++[(q,[y0,v,.nils,.nils]),(q1,rpl 4 .nils [])]))) H9 s8:=s9.perm (by
    rw[List.append_assoc o3 R]
    exact List.perm_append_comm_assoc _ _ _)
   refine y_pu_of (v:=.ptr q 1) rfl (s10.ld (c:=[y0,v,.nils,.nils]) (by simp) (o:=1) rfl ?_)
   have hcs:=hg.n
   rw[hl.len]at hcs
   refine s10.add hv hcs (k:=1) (c:=[row3]) hrow3.cell rfl rfl (by omega) (by omega) fun o' v' H10 s11 hv'=>?_
   rw[←List.append_assoc]at s11
   refine y_pu_of (v:=.ptr q 1) rfl (s11.putM hv'.cell rfl (by simp) fun H11 s12=>?_)
   rw[List.append_assoc]at s12
   have hg3:Gl (o3++R) (.list tMove) (l++[(xd (.list tMove) s3).1]) (cs++[row3]):=(hg.mono (List.subset_append_right _ _)).add (by rw[hdef2];exact hf.mono (by simp)) rfl
   have hl3:=hl.next hlt he
   rw[hdef2]at hl3 hg3
   refine y_pu_of (i_add i (by omega)) ⟨⟨rfl,rfl,rfl,rfl,i+1,_,_,o',_,v',s8,rfl,hl3,s12,hv',hg3⟩,?_⟩
   exact Nat.lt_of_lt_of_eq (by omega:((n:Int)-((i+1:Nat):Int)).toNat<((n:Int)-(i:Int)).toNat) hmu.symm
 ·
  have hd:=hl.done hd
  rw[hd]at hdef1
  have hf1:=hg.frz (o:=o) (v:=v) (by rw[hl.len];exact hv)
  obtain⟨R1,hR1⟩:∃R1,R1=o++R:=⟨_,rfl⟩
  rw[←hR1]at hf1
  rw[←List.append_assoc,←hR1]at s4
  clear hd hl hg hmu hi
  have hdef2:xd tTr s=((d0,(l,((xd (.list .bool) s3).1,(xd (.list tBytes) (xd (.list .bool) s3).2).1))),(xd (.list tBytes) (xd (.list .bool) s3).2).2):=by rw[hdef1,xd_pair];dsimp only;rfl
  clear hdef1
  refine s4.rdT Y190 fun x2 c2 H7 s5 hx2 r2 l2=>?_
  obtain⟨y2,rfl⟩:=len1 (show c2.length=1 from l2)
  refine y_pu_of (v:=.ptr q 2) rfl (s5.putM hx2 rfl (by simp) fun H8 s6=>?_)
  generalize (xd (.list .bool) s3).1=d2 at hdef2 r2
  generalize (xd (.list .bool) s3).2=s7 at hdef2 s6
  refine s6.call (X22 s6.rd) fun w H9 s8 hw=>?_
  obtain⟨rfl,hm⟩:=hw
  obtain⟨res3,hres3⟩:=mapX (xd tBytes) (xCount s7).1 (xCount s7).2
  have hdef3:xd tTr s=((d0,(l,(d2,res3.1))),res3.2):=by rw[hdef2,show xd (.list tBytes) s7=res3 from(xd_list _ _).trans hres3.symm];rfl
  clear hdef2
  generalize (xCount s7).1=m at hres3 hm
  generalize (xCount s7).2=s9 at hres3 s8
  let Iw:AV→AV→AV→AV→AV→AH→Prop:=fun a b' b2 c d H'=>a=.ptr p 0∧b'=.ptr q1 0∧b2=.ptr q 0∧c=.int .i64 (m:Int)∧∃(i:Nat) (l:List tBytes.D) (cs:List AV) (o R:List (Nat × List AV)) (v3:AV) (s':Sx),d=.int .i64 (i:Int)∧Lp (xd tBytes) m res3 i l s' ∧
   XSt H p b (o++((R++R1)++[(q,[y0,v,y2,v3]),(q1,rpl 4 .nils [])])) H' s'∧Lv (tsz tBytes) o i cs v3∧Gl R tBytes l cs
  let μw:AV→AV→AV→AV→AV→AH→Nat:=fun _ _ _ _ d _=>match d with
   | .int _ j=>(m-j).toNat
   | _=>0
  refine⟨Iw,μw,⟨rfl,rfl,rfl,rfl,0,[],[],[],[],.nils,s9,rfl,?_,s8,.nil,.nil⟩,?_⟩
  ·rw[hres3];exact .start
  intro e' H10 hJ
  obtain⟨f1,f2,f3,f4,i3,l3,cs3,o3,R3,v3,s10,f5,hl3,s11,hv3,hg3⟩:=(hJ:Iw (e' 0) (e' 2) (e' 3) (e' 4) (e' 9) H10)
  have hmu:μw (e' 0) (e' 2) (e' 3) (e' 4) (e' 9) H10=((m:Int)-(i3:Int)).toNat:=by rw[f5]
  show y_pu (.bin .lss (.cst (e' 9)) (.cst (e' 4))) _
  rw[f5,f4,f3,f2,f1]
  have hi3:=hl3.le
  refine s11.guard (fun hlt he=>?_) (fun hd=>?_)
  ·refine s11.new fun o4 row H11 s12 hrow=>?_
   refine s12.call (X22 s12.rd) fun w H12 s13 hw=>?_
   obtain⟨rfl,hk⟩:=hw
   obtain⟨res4,hres4⟩:=mapX (xd .byte) (xCount s10).1 (xCount s10).2
   have hdef4:xd tBytes s10=res4:=(xd_list _ _).trans hres4.symm
   generalize (xCount s10).1=k at hres4 hk
   generalize (xCount s10).2=s14 at hres4 s13
   let Jw:AV→AV→AV→AV→AV→AV→AV→AV→AH→Prop:=fun a b' b2 c d f g x H'=>a=.ptr p 0∧b'=.ptr q1 0∧b2=.ptr q 0∧c=.int .i64 (m:Int)∧d=.int .i64 (i3:Int)∧g=.int .i64 (k:Int)∧∃(j:Nat) (l2:List (Ty.byte).D) (cs2:List AV) (o2:List (Nat × List AV)) (s':Sx),x=.int .i64 (j:Int)∧Lp (xd .byte) k res4 j l2 s' ∧
    XSt H p b (o2++(o3++((R3++R1)++[(q,[y0,v,y2,v3]),(q1,rpl 4 .nils [])]))) H' s'∧Lv (tsz .byte) o2 j cs2 f∧Gl [] .byte l2 cs2
   let νw:AV→AV→AV→AV→AV→AV→AV→AV→AH→Nat:=fun _ _ _ _ _ _ _ x _=>match x with
    | .int _ j=>(k-j).toNat
    | _=>0
   refine⟨Jw,νw,⟨rfl,rfl,rfl,rfl,rfl,rfl,0,[],[],o4,s14,rfl,?_,s13,hrow,.nil⟩,?_⟩
   ·rw[hres4];exact .start
   intro e2 H13 hK
   obtain⟨g1,g2,g3,g4,g5,g7,j,l4,cs4,o5,s15,g8,hl4,s16,hrow5,hg4⟩:=(hK:Jw (e2 0) (e2 2) (e2 3) (e2 4) (e2 9) (e2 10) (e2 11) (e2 12) H13)
   obtain⟨row5,g6⟩:∃r,e2 10=r:=⟨_,rfl⟩
   rw[g6]at hrow5
   have hnu:νw (e2 0) (e2 2) (e2 3) (e2 4) (e2 9) (e2 10) (e2 11) (e2 12) H13=((k:Int)-(j:Int)).toNat:=by rw[g8]
   show y_pu (.bin .lss (.cst (e2 12)) (.cst (e2 11))) _
   rw[g8,g7,g6,g5,g4,g3,g2,g1]
   have hj:=hl4.le
   refine s16.guard (fun hlt2 he2=>?_) (fun hd2=>?_)
   ·refine XSt.byte s16 fun H14 s17=>?_
    have hcs:=hg4.n
    rw[hl4.len]at hcs
    have hr:RC .byte (xd .byte s15).1 [bv (xByte s15).1]:=rfl
    refine s17.add hrow5 hcs (k:=1) (c:=[bv (xByte s15).1]) rfl rfl rfl (by omega) (by omega) fun o' v' H15 s18 hv'=>?_
    refine y_pu_of (i_add j (by omega)) ⟨⟨rfl,rfl,rfl,rfl,rfl,rfl,j+1,_,_,o',_,rfl,hl4.next hlt2 he2,s18,hv',hg4.add hr.rf rfl⟩,?_⟩
    exact Nat.lt_of_lt_of_eq (by omega:((k:Int)-((j+1:Nat):Int)).toNat<((k:Int)-(j:Int)).toNat) hnu.symm
   ·have hd2:=hl4.done hd2
    rw[hd2]at hdef4
    have hf:=hg4.frz (o:=o5) (v:=row5) (by rw[hl4.len];exact hrow5)
    have s17:XSt H p b (o3++((((o5++R3)++R1)++[(q,[y0,v,y2,v3]),(q1,rpl 4 .nils [])]))) H13 s15:=s16.perm (by
     rw[List.append_assoc o5 R3,List.append_assoc o5]
     exact List.perm_append_comm_assoc _ _ _)
    refine y_pu_of (v:=.ptr q 3) rfl (s17.ld (c:=[y0,v,y2,v3]) (by simp) (o:=3) rfl ?_)
    have hcs:=hg3.n
    rw[hl3.len]at hcs
    refine s17.add hv3 hcs (k:=1) (c:=[row5]) hrow5.cell rfl rfl (by omega) (by omega) fun o' v' H14 s18 hv'=>?_
    rw[←List.append_assoc]at s18
    refine y_pu_of (v:=.ptr q 3) rfl (s18.putM hv'.cell rfl (by simp) fun H15 s19=>?_)
    rw[List.append_assoc]at s19
    have hg5:Gl (o5++R3) tBytes (l3++[(xd tBytes s10).1]) (cs3++[row5]):=(hg3.mono (List.subset_append_right _ _)).add (by rw[hdef4];exact hf.mono (by simp)) rfl
    have hl5:=hl3.next hlt he
    rw[hdef4]at hl5 hg5
    refine y_pu_of (i_add i3 (by omega)) ⟨⟨rfl,rfl,rfl,rfl,i3+1,_,_,o',_,v',s15,rfl,hl5,s19,hv',hg5⟩,?_⟩
    exact Nat.lt_of_lt_of_eq (by omega:((m:Int)-((i3+1:Nat):Int)).toNat<((m:Int)-(i3:Int)).toNat) hmu.symm
  ·have hd:=hl3.done hd
   rw[hd]at hdef3
   have hf3:=hg3.frz (o:=o3) (v:=v3) (by rw[hl3.len];exact hv3)
   rw[←List.append_assoc]at s11
   refine s11.outM rfl rfl fun H11 s12=>s12.fin hdef3 ⟨_,_,s12.live,?_,.inr rfl⟩
   have k1:RF (o3++(R3++R1)) (.list (.list tMove)) l [v]:=hf1.mono (fun x hx=>by simp[hx])
   have k3:RF (o3++(R3++R1)) (.list tBytes) l3 [v3]:=hf3.mono (fun x hx=>by
    rcases List.mem_append.1 hx with h | h<;>simp[h])
   exact r0.rf.pair (k1.pair (r2.rf.pair k3))))
end Go.Proofs.YtdandeekdbndgaaGreatDoor
namespace Go.AL
open Co
variable {P:Program}
structure Ch (t:Ty) {T:Type} (res:T × Sx) (f:t.D→T) (s:Sx):Prop where
 e:res=(f (xd t s).1,(xd t s).2)
theorem Ch.start {t:Ty}{res:t.D × Sx}{s:Sx}(h:res=xd t s):Ch t res id s:=⟨h⟩
theorem Ch.step {a b:Ty}{T:Type}{res:T × Sx}{f:(Ty.pair a b).D→T}{s:Sx}(h:Ch (.pair a b) res f s):Ch b res (fun y=>f ((xd a s).1,y)) (xd a s).2:=⟨h.e⟩
theorem Ch.un {a b c:Ty}{T:Type}{res:T × Sx}{f:(Ty.pair (.pair a b) c).D→T}{s:Sx}(h:Ch (.pair (.pair a b) c) res f s):Ch (.pair a (.pair b c)) res (fun y=>f ((y.1,y.2.1),y.2.2)) s:=⟨h.e⟩
theorem Ch.as3 {a b c d:Ty}{T:Type}{res:T × Sx}{f:(Ty.pair a (.pair b (.pair c d))).D→T}{s:Sx}(h:Ch (.pair a (.pair b (.pair c d))) res f s):Ch (.pair (.pair a (.pair b c)) d) res (fun y=>f (y.1.1,(y.1.2.1,(y.1.2.2,y.2)))) s:=⟨h.e⟩
theorem Ch.as4 {a b c d e:Ty}{T:Type}{res:T × Sx}{f:(Ty.pair a (.pair b (.pair c (.pair d e)))).D→T}{s:Sx}(h:Ch (.pair a (.pair b (.pair c (.pair d e)))) res f s):Ch (.pair (.pair a (.pair b (.pair c d))) e) res (fun y=>f (y.1.1,(y.1.2.1,(y.1.2.2.1,(y.1.2.2.2,y.2))))) s:=⟨h.e⟩
section
variable {H0 H:AH}{p:Nat}{L:List (Nat × List AV)}{b:List UInt8}{s:Sx}
theorem XSt.rdC {a c:Ty}{T α:Type}{rs:T × Sx}{f:(Ty.pair a c).D→T}{res:α × Sx}{ok:α→AV→AH→Prop}{g:FuncId}{K:AV→AH→Prop}(h:XSt H0 p b L H s) (hch:Ch (.pair a c) rs f s) (hg:XREAD P g a)
  (hK:∀d x cs H' s',XSt H0 p b L H' s'→Ch c rs (fun y=>f (d,y)) s'→x.cellsOf=some cs→RC a d cs→cs.length=tsz a→K x H'):y_call P g [.ptr p 0] H (yp (XPost H0 p b res ok)) K:=
 h.rdT hg fun x cs H' h' hx hr hl=>hK _ x cs H' _ h' hch.step hx hr hl
theorem XSt.fldC {a c:Ty}{T α:Type}{rs:T × Sx}{f:(Ty.pair a c).D→T}{res:α × Sx}{ok:α→AV→AH→Prop}{g:FuncId}{q o n:Nat}{pre z:List AV}{K:AH→Prop}(h:XSt H0 p b ((q,pre++z.drop o)::L) H s) (hch:Ch (.pair a c) rs f s) (hg:XREAD P g a) (hpre:pre.length=o) (hn:tsz a=n) (hz:o+n≤z.length)
  (hK:∀d cs H' s',XSt H0 p b ((q,(pre++cs)++z.drop (o+n))::L) H' s'→Ch c rs (fun y=>f (d,y)) s'→(pre++cs).length=o+n→RC a d cs→K H') :
  y_call P g [.ptr p 0] H (yp (XPost H0 p b res ok)) fun v6 h6=>y_pu (.fieldAddr o (.cst (.ptr q 0))) fun v7=>y_ef (.store n (.cst v7) (.cst v6)) h6 fun _ h8=>K h8:=
 h.fld hg hpre hn hz fun cs H' h' pl hr=>hK _ cs H' _ h' hch.step pl hr
theorem XSt.fldC2 {a c:Ty}{T α:Type}{rs:T × Sx}{f:(Ty.pair a c).D→T}{res:α × Sx}{ok:α→AV→AH→Prop}{g:FuncId}{q o1 o2 o n:Nat}{pre z:List AV}{K:AH→Prop}(h:XSt H0 p b ((q,pre++z.drop o)::L) H s) (hch:Ch (.pair a c) rs f s) (hg:XREAD P g a) (ho:o1+o2=o) (hpre:pre.length=o) (hn:tsz a=n) (hz:o+n≤z.length)
  (hK:∀d cs H' s',XSt H0 p b ((q,(pre++cs)++z.drop (o+n))::L) H' s'→Ch c rs (fun y=>f (d,y)) s'→(pre++cs).length=o+n→RC a d cs→K H') :
  y_call P g [.ptr p 0] H (yp (XPost H0 p b res ok)) fun v6 h6=>y_pu (.fieldAddr o1 (.cst (.ptr q 0))) fun v6'=>y_pu (.fieldAddr o2 (.cst v6')) fun v7=>y_ef (.store n (.cst v7) (.cst v6)) h6 fun _ h8=>K h8:=
 h.fld2 hg ho hpre hn hz fun cs H' h' pl hr=>hK _ cs H' _ h' hch.step pl hr
theorem XSt.rdeA {q k:Nat}{c:List AV}(h:XSt H0 p b L H s) (hm:(q,c)∈L) (hc:c.length=k):y_rde (.load (some k) (.cst (.ptr q 0))) (.agg c) H:=by
 obtain⟨_,_,h3⟩:=h.l _ hm
 have h3:H.get q=some (.cells c):=h3
 show aread _ _ _=_
 simp[aread,aload,AOpd.ev,AH.cells?,h3,apart,hc];exact List.take_of_length_le (by omega)
theorem XSt.perm2 {x y:Nat × List AV}(h:XSt H0 p b (x::y::L) H s):XSt H0 p b (y::x::L) H s:=h.perm (.swap _ _ _)
end
theorem buildAB {x y:AV}{c c' z:List AV}{n m:Nat}(hx:x.cellsOf=some c) (hy:y.cellsOf=some c') (hc:c.length=n) (hc':c'.length=m) (hz:z.length=n+m):apure (.build z [(0,n,.cst x),(n,m,.cst y)]) emp=some (.agg (c++c')):=by
 have h1:c++z.drop n++[]=c++z.drop n:=by simp
 have h2:n+m≤(c++z.drop n).length:=by simp;omega
 have h3:(c++z.drop n).take n=c:=by rw[List.take_append_of_le_length (by omega),List.take_of_length_le (by omega)]
 have h4:(c++z.drop n).drop (n+m)=[]:=List.drop_of_length_le (by simp;omega)
 have h5:List.take n c=c:=List.take_of_length_le (by omega)
 have h6:z.length-(n+m)=0:=by omega
 simp[apure,afill,AOpd.ev,hx,hy,hc,hc',hz,h5,List.drop_append,List.take_append]
end Go.AL
namespace Go.Proofs.YtdandeekdbndgaaGreatDoor
open Go Go.AL Go.AL.Co
set_option maxHeartbeats 4000000 in
theorem Y64:XREAD Tryz.prog 64 tLit:=fun{H p b s} hR=>xread_of hR (TX64 (by
 obtain⟨res,hres⟩:∃res,res=xd tLit s:=⟨_,rfl⟩
 rw[←hres]
 have ch:=Ch.start hres
 unfold tLit at ch
 unfold GX64
 generalize hz1:(I 0::rpl 6 AV.nils (I 0::rpl 4 AV.nils (rpl 4 (I 0) (AV.bool false::I 0::AV.bool false::[]))))=z1
 have hl1:z1.length=19:=by rw[←hz1];rfl
 generalize hz:(I 0::rpl 6 AV.nils (I 0::rpl 4 AV.nils (rpl 4 (I 0) (AV.bool false::I 0::[]))))=z
 have hl:z.length=18:=by rw[←hz];rfl
 clear hz hz1
 refine(XSt.start hR).alloc fun q1 H1 h1=>?_
 refine h1.rdC ch Y63 fun d0 x0 c0 H2 s2 h2 ch hx0 r0 l0=>?_
 have l0:c0.length=1:=l0
 refine y_pu_of (build1 hx0 (n:=1) l0 (by omega)) (h2.alloc fun q H3 h3=>?_)
 refine h3.putA (by rw[List.length_append,List.length_drop,l0,hl]) hl fun H4 h4=>?_
 refine h4.fldC ch Y68 l0 rfl (by omega) fun d1 c1 H5 s5 h5 ch p5 r1=>?_
 refine h5.fldC ch Y68 p5 rfl (by omega) fun d2 c2 H6 s6 h6 ch p6 r2=>?_
 refine h6.fldC ch.as3 Y134 p6 rfl (by omega) fun d3 c3 H7 s7 h7 ch p7 r3=>?_
 refine h7.fldC2 ch Y65 rfl p7 rfl (by omega) fun d4 c4 H8 s8 h8 ch p8 r4=>?_
 refine h8.fldC2 ch Y63 rfl p8 rfl (by omega) fun d5 c5 H9 s9 h9 ch p9 r5=>?_
 refine h9.fldC ch.as4 Y135 p9 rfl (by omega) fun d6 c6 H10 s10 h10 ch p10 r6=>?_
 have ch:=ch.un
 refine h10.fldC2 ch Y63 rfl p10 rfl (by omega) fun d7 c7 H11 s11 h11 ch p11 r7=>?_
 have ch:=ch.un
 refine h11.fldC2 ch Y63 rfl p11 rfl (by omega) fun d8 c8 H12 s12 h12 ch p12 r8=>?_
 have ch:=ch.un
 refine h12.fldC2 ch Y63 rfl p12 rfl (by omega) fun d9 c9 H13 s13 h13 ch p13 r9=>?_
 have ch:=ch.un
 refine h13.fldC2 ch Y63 rfl p13 rfl (by omega) fun d10 c10 H14 s14 h14 ch p14 r10=>?_
 refine h14.fldC2 ch Y136 rfl p14 rfl (by omega) fun d11 c11 H15 s15 h15 ch p15 r11=>?_
 refine h15.fldC ch Y63 p15 rfl (by omega) fun d12 c12 H16 s16 h16 ch p16 r12=>?_
 have h16:=h16.fdone (by omega)
 refine h16.ldA (.head _) p16 (h16.rdT Y136 fun x13 c13 H17 h17 hx13 r13 l13=>?_)
 have he:=ch.e
 generalize (xd .bool s16).1=d13 at he r13
 generalize (xd .bool s16).2=s17 at he h17
 refine⟨⟨h17.rdeA (.head _) p16,trivial⟩,?_⟩
 refine y_pu_of (buildAB (n:=18) (m:=1) (c:=c0++c1++c2++c3++c4++c5++c6++c7++c8++c9++c10++c11++c12) (x:=.agg (c0++c1++c2++c3++c4++c5++c6++c7++c8++c9++c10++c11++c12)) rfl hx13 p16 l13 hl1) ?_
 have h17:=h17.perm2
 refine h17.putA (by rw[List.length_append,p16,l13];rfl) hl1 fun H18 h18=>⟨trivial,?_⟩
 refine h18.ldA (.head _) (by rw[List.length_append,p16,l13];rfl) ?_
 refine h18.fin he ⟨[],_,fun w hw=>(by cases hw),RC.rf ?_,.inr rfl⟩
 obtain⟨a1,a2,rfl,ra1,a3,a4,rfl,ra3,ra4⟩:=r3
 obtain⟨b1,b2,rfl,rb1,b3,b4,rfl,rb3,b5,b6,rfl,rb5,rb6⟩:=r6
 simp only[List.append_assoc]
 refine⟨_,_,rfl,r0,_,_,rfl,r1,_,_,rfl,r2,_,_,rfl,ra1,_,_,rfl,ra3,_,_,rfl,ra4,_,_,rfl,r4,_,_,rfl,r5,_,_,rfl,rb1,_,_,rfl,rb3,_,_,rfl,rb5,_,_,rfl,rb6,c7++(c8++(c9++(c10++c11))),c12++c13,?_,?_,_,_,rfl,r12,r13⟩
 ·simp only[List.append_assoc]
 ·exact⟨_,_,rfl,r7,_,_,rfl,r8,_,_,rfl,r9,_,_,rfl,r10,r11⟩))
end Go.Proofs.YtdandeekdbndgaaGreatDoor
namespace Go.AL
open Co
variable {P:Program}
theorem splice_last {pre:List AV}{v v':AV}{o:Nat}(h:pre.length=o):splice (pre++[v]) o [v']=pre++[v']:=by
 rw[splice_eq (by simp;omega),List.take_append_of_le_length (by omega),List.take_of_length_le (by omega),List.drop_of_length_le (by simp;omega),List.append_nil]
theorem get_last {pre:List AV}{v:AV}{o:Nat}(h:pre.length=o):(pre++[v])[o]?=some v:=by
 rw[List.getElem?_append_right (by omega),h,Nat.sub_self];rfl
section
variable {H0 H:AH}{p:Nat}{L:List (Nat × List AV)}{b:List UInt8}{s:Sx}
theorem XSt.guard3 {A B:AH→Prop}{i n:Nat}(h:XSt H0 p b L H s) (hA:i<n→s.e=none→A H) (hB:¬(i<n∧s.e=none)→B H) :
  y_pu (.bin .lss (.cst (.int .i64 (i:Int))) (.cst (.int .i64 (n:Int)))) fun v13=>
  y_grp true v13 (fun(_ _ v16:AV) (h17:AH)=>
  y_pu (.pick (.cst v13) (.cst v16) (.cst (.bool false))) fun v18=>
  y_if0 v18 (A h17) (B h17)) (fun J14=>
  y_pu (.fieldAddr 2 (.cst (.ptr p 0))) fun v15=>
  y_rd (.load none (.cst v15)) H fun v16=>
  y_pu (.bin .eql (.cst v16) (.cst (I 0))) fun v17=>
  J14 v15 v16 v17 H) (fun J14=>J14 aud aud aud H):=by
 refine y_pu_of (v:=.bool (decide ((i:Int)<n))) rfl ?_
 by_cases hi:i<n
 ·rw[decide_eq_true (by omega:(i:Int)<n)]
  refine grp_t (y_pu_of (v:=.ptr p 2) rfl (h.ldE (y_pu_of (eql_ern _) (y_pu_of (v:=.bool s.e.isNone) rfl (y_if0_of (fun ht=>?_) (fun ht=>?_))))))
  ·exact hA hi (Option.isNone_iff_eq_none.1 ht)
  ·exact hB fun hh=>by rw[hh.2]at ht;cases ht
 ·rw[decide_eq_false (by omega:¬(i:Int)<n)]
  exact grp_st (y_pu_of (v:=.bool false) rfl (if_f (hB fun hh=>hi hh.1)))
end
def DPostC (H:AH) (res:Rs tProof.D):AOut→AH→Prop:=fun o H'=>KeepN H H'∧match res with
 | .ok d []=>∃x,o=.ret (.tup [x,.int .i64 0])∧RC tProof d [x]
 | .ok _ (_::_)=>o=.ret (.tup [.nils,.int .i64 4])
 | .err e=>o=.ret (.tup [.nils,.int .i64 (erno e)])
def DPostM (H:AH) (res:Rs tProof.D):AOut→AH→Prop:=fun o H'=>KeepN H H'∧match res with
 | .ok d []=>∃x R,o=.ret (.tup [x,.int .i64 0])∧RF R tProof d [x]∧∀w∈R,H.next≤w.1∧H'.get w.1=some (.cells w.2)
 | .ok _ (_::_)=>o=.ret (.tup [.nils,.int .i64 4])
 | .err e=>o=.ret (.tup [.nils,.int .i64 (erno e)])
theorem DPostM.scope {g:FuncId}{ar:List AV}{H:AH}{res:Rs tProof.D}(h:ACall P g ar H (DPostM H res)):ACall P g ar H (DPostC H res):=by
 refine ACall.scope (fun _ _=>h) h.1 fun _ htop o H' hp=>?_
 obtain⟨hk,hp⟩:=hp
 have hcut:H'.cut H.next H.gl=H:=by
  refine AH.ext (fun q=>?_) rfl rfl
  show(if q<H.next then H'.get q else none)=H.get q
  by_cases hq:q<H.next
  ·rw[if_pos hq,hk.get q hq]
  ·rw[if_neg hq,htop q (by omega)]
 have hold:∀q o,q<H.next→H'.get q=some o→H.get q=some o∨ScO H.next o:=fun q o hq ho=>.inl (by rw[←hk.get q hq];exact ho)
 rw[hcut]
 cases res with
 | err e=>
  have hp:o=_:=hp
  subst hp
  exact⟨.ret (.tup [.nils,.int .i64 (erno e)]),FrzR.low (.tup (.cons .nils (.cons (.int _ _) .nil))),hold,KeepN.refl _,rfl⟩
 | ok d r=>
  cases r with
  | cons x r=>
   have hp:o=_:=hp
   subst hp
   exact⟨.ret (.tup [.nils,.int .i64 4]),FrzR.low (.tup (.cons .nils (.cons (.int _ _) .nil))),hold,KeepN.refl _,rfl⟩
  | nil=>
   obtain⟨x,R,rfl,⟨c',h2,h3⟩,h4⟩:=hp
   have h5:=h2 H' H.next h4
   match c',h5,h3 with
   | [y],.cons h6 .nil,h3=>
    exact⟨.ret (.tup [y,.int .i64 0]),FrzR.tup (.cons h6 (.cons (.low (.int _ _)) .nil)),hold,KeepN.refl _,y,rfl,h3⟩
end Go.AL
namespace Go.Proofs.YtdandeekdbndgaaGreatDoor
open Go Go.AL Go.AL.Co
set_option maxHeartbeats 4000000 in
theorem Y23:XREAD Tryz.prog 23 tNode:=fun{H p b s} hR=>xread_of hR (TX23 (by
 obtain⟨res,hres⟩:∃res,res=xd tNode s:=⟨_,rfl⟩
 rw[←hres]
 have ch:=Ch.start hres
 unfold tNode at ch
 unfold GX23
 generalize hz:(rpl 5 (I 0) (rpl 6 AV.nils (I 0::rpl 4 AV.nils (rpl 4 (I 0) (AV.bool false::I 0::AV.bool false::rpl 4 AV.nils [])))))=z
 have hl:z.length=27:=by rw[←hz];rfl
 have hd:z.drop 26=[.nils]:=by rw[←hz];rfl
 clear hz
 refine(XSt.start hR).alloc fun q1 H1 h1=>?_
 refine h1.rdC ch Y63 fun d0 x0 c0 H2 s2 h2 ch hx0 r0 l0=>?_
 have l0:c0.length=1:=l0
 refine y_pu_of (build1 hx0 (n:=1) l0 (by omega)) (h2.alloc fun q H3 h3=>?_)
 refine h3.putA (by rw[List.length_append,List.length_drop,l0,hl]) hl fun H4 h4=>?_
 refine h4.fldC ch Y63 l0 rfl (by omega) fun d1 c1 H5 s5 h5 ch p5 r1=>?_
 refine h5.fldC ch Y63 p5 rfl (by omega) fun d2 c2 H6 s6 h6 ch p6 r2=>?_
 refine h6.fldC ch Y63 p6 rfl (by omega) fun d3 c3 H7 s7 h7 ch p7 r3=>?_
 refine h7.fldC ch Y64 p7 rfl (by omega) fun d4 c4 H8 s8 h8 ch p8 r4=>?_
 refine h8.fldC ch Y65 p8 rfl (by omega) fun d5 c5 H9 s9 h9 ch p9 r5=>?_
 refine h9.fldC ch Y66 p9 rfl (by omega) fun d6 c6 H10 s10 h10 ch p10 r6=>?_
 refine h10.fldC ch Y67 p10 rfl (by omega) fun d7 c7 H11 s11 h11 ch p11 r7=>?_
 have h11:XSt H p b ((q,c0++c1++c2++c3++c4++c5++c6++c7++z.drop 26)::[(q1,z)]) H11 s11:=h11
 rw[hd]at h11
 have p11:(c0++c1++c2++c3++c4++c5++c6++c7).length=26:=p11
 obtain⟨pre,hpre⟩:∃pre,pre=c0++c1++c2++c3++c4++c5++c6++c7:=⟨_,rfl⟩
 rw[←hpre]at h11 p11
 refine h11.call (X22 h11.rd) fun w H12 h12 hw=>?_
 obtain⟨rfl,hn⟩:=hw
 have he:=ch.e
 obtain⟨rs,hrs⟩:=mapX (xd tEqn) (xCount s11).1 (xCount s11).2
 rw[show xd (.list tEqn) s11=rs from(xd_list _ _).trans hrs.symm]at he
 generalize (xCount s11).1=n at hrs hn
 generalize (xCount s11).2=s12 at hrs h12
 let Iv:AV→AV→AV→AV→AV→AH→Prop:=fun a b' b2 c d H'=>a=.ptr p 0∧b'=.ptr q1 0∧b2=.ptr q 0∧c=.int .i64 (n:Int)∧∃(i:Nat) (l:List tEqn.D) (cs:List AV) (o:List (Nat × List AV)) (v:AV) (s':Sx),d=.int .i64 (i:Int)∧Lp (xd tEqn) n rs i l s' ∧
  XSt H p b (o++[(q,pre++[v]),(q1,z)]) H' s'∧Lv (tsz tEqn) o i cs v∧Gl [] tEqn l cs
 let μ:AV→AV→AV→AV→AV→AH→Nat:=fun _ _ _ _ d _=>match d with
  | .int _ j=>(n-j).toNat
  | _=>0
 refine⟨Iv,μ,⟨rfl,rfl,rfl,rfl,0,[],[],[],.nils,s12,rfl,?_,h12,.nil,.nil⟩,?_⟩
 ·rw[hrs];exact .start
 intro e H13 hI
 obtain⟨e1,e2,e3,e4,i,l,cs,o,v,s13,e5,hlp,h13,hv,hg⟩:=(hI:Iv (e 0) (e 2) (e 3) (e 4) (e 5) H13)
 have hmu:μ (e 0) (e 2) (e 3) (e 4) (e 5) H13=((n:Int)-(i:Int)).toNat:=by rw[e5]
 show y_pu (.bin .lss (.cst (e 5)) (.cst (e 4))) _
 rw[e5,e4,e3,e2,e1]
 have hi:=hlp.le
 refine h13.guard (fun hlt hn0=>?_) (fun hdn=>?_)
 ·refine h13.rdT Y68 fun x1 k1 H14 h14 hx1 g1 l1=>?_
  obtain⟨y1,rfl⟩:=len1 (show k1.length=1 from l1)
  refine y_pu_of (v:=.agg [y1,.nils]) (build1 hx1 (n:=1) (z:=[.nils,.nils]) rfl (by decide)) (h14.alloc fun qe H15 h15=>?_)
  refine h15.putA rfl rfl fun H16 h16=>?_
  refine h16.rdT Y68 fun x2 k2 H17 h17 hx2 g2 l2=>?_
  obtain⟨y2,rfl⟩:=len1 (show k2.length=1 from l2)
  refine y_pu_of (v:=.ptr qe 1) rfl (h17.put hx2 rfl (by simp) fun H18 h18=>?_)
  have h18:XSt H p b ((qe,[y1,y2])::(o++[(q,pre++[v]),(q1,z)])) H18 _:=h18
  refine y_pu_of (v:=.ptr q 26) rfl (h18.ld (c:=pre++[v]) (by simp) (get_last p11) ?_)
  refine h18.ldA (.head _) rfl ?_
  have hcs:=hg.n
  rw[hlp.len]at hcs
  refine(h18.sub (List.sublist_cons_self _ _)).add hv hcs (k:=2) (c:=[y1,y2]) rfl rfl rfl (by omega) (by omega) fun o' v' H19 h19 hv'=>?_
  refine y_pu_of (v:=.ptr q 26) rfl (h19.putM hv'.cell rfl (by simp[p11]) fun H20 h20=>?_)
  rw[splice_last p11]at h20
  have hr:RC tEqn (xd tEqn s13).1 [y1,y2]:=⟨[y1],[y2],rfl,g1,g2⟩
  refine y_pu_of (i_add i (by omega)) ⟨⟨rfl,rfl,rfl,rfl,i+1,_,_,o',v',_,rfl,hlp.next hlt hn0,h20,hv',hg.add hr.rf rfl⟩,?_⟩
  exact Nat.lt_of_lt_of_eq (by omega:((n:Int)-((i+1:Nat):Int)).toNat<((n:Int)-(i:Int)).toNat) hmu.symm
 ·refine h13.outM (by simp[p11]) hl fun H14 h14=>?_
  have hdn:=hlp.done hdn
  rw[hdn]at he
  have hf:=hg.frz (o:=o) (v:=v) (by rw[hlp.len];exact hv)
  rw[List.append_nil]at hf
  refine h14.fin he ⟨o,pre++[v],h14.live,?_,.inr rfl⟩
  rw[hpre]
  simp only[List.append_assoc]
  exact r0.rf.pair (r1.rf.pair (r2.rf.pair (r3.rf.pair (r4.rf.pair (r5.rf.pair (r6.rf.pair (r7.rf.pair hf)))))))))
set_option maxHeartbeats 4000000 in
theorem X7 {H:AH}{v:AV}{b:List UInt8}(hv:Inp H H.next b v) (hb:b.length<274877906944):ACall Tryz.prog 7 [v] H (DPostC H (tProof.dec b)):=DPostM.scope (TX7 (by
 unfold GX7
 have hv1:v.cellsOf=some [v]:=by cases hv<;>rfl
 refine y_pu_of (v:=.agg [v,I 0,I 0]) (by simp[apure,afill,AOpd.ev,hv1]) ?_
 refine y_ef_of (v:=.ptr H.next 0) (H':=H.push (.cells [.nils,I 0,I 0])) rfl ?_
 refine y_ef_of (v:=.unk) (H':=(H.push (.cells [.nils,I 0,I 0])).set H.next (.cells [v,I 0,I 0])) (by simp[aeff,AOpd.ev,AH.cells?,AH.get_push,AV.cellsOf,splice]) ?_
 obtain⟨H3,hH3⟩:∃H3,H3=(H.push (.cells [.nils,I 0,I 0])).set H.next (.cells [v,I 0,I 0]):=⟨_,rfl⟩
 rw[←hH3]
 have n3:H3.next=H.next+1:=by rw[hH3];rfl
 have l3:H3.gl=H.gl:=by rw[hH3];rfl
 have g3:H3.get H.next=some (.cells [v,I 0,I 0]):=by rw[hH3];simp[AH.get_set]
 have o3:∀q,q<H.next→H3.get q=H.get q:=fun q hq=>by
  have:q≠H.next:=by omega
  rw[hH3];simp[AH.get_set,AH.get_push,this]
 have hR:Rx H3 H.next b ⟨b,none⟩:=⟨by omega,hb,v,0,g3,Nat.zero_le _,rfl,by
  have hk:∀{v},Inp H H.next b v→Inp H3 H.next b v:=fun{v} hv=>by
   cases hv with
   | nils=>exact .nils
   | sim _ ex=>exact .sim b ex
   | own hlt hc ho hl hes=>exact .own hlt (by rw[o3 _ hlt];exact hc) ho hl hes
  exact hk hv⟩
 generalize hz:(rpl 5 (I 0) (rpl 6 AV.nils (I 0::rpl 4 AV.nils (rpl 4 (I 0) (AV.bool false::I 0::AV.bool false::rpl 4 AV.nils [])))))=z
 have hl:z.length=27:=by rw[←hz];rfl
 clear hz
 have hdec:=xd_dec tProof b
 refine(XSt.start hR).new fun o v1 H4 h4 hlv=>?_
 refine y_call_of (X22 h4.rd) (fun x H5 g=>?_) (fun x H5 g=>by obtain⟨_,_,g,_⟩:=g;cases g)
 obtain⟨k1,x',hx,⟨hw1,hn⟩,hr5⟩:=g
 cases hx
 subst hw1
 have h5:XSt H3 H.next b (o++[]) H5 (xCount ⟨b,none⟩).2:=⟨hr5,h4.k.trans k1,fun w hw=>by
  obtain⟨g1,g2,g3⟩:=h4.l w hw
  have:=h4.k.nx
  exact⟨g1,Nat.lt_of_lt_of_le g2 k1.nx,by rw[k1.get _ g2 (by omega)];exact g3⟩,h4.nd,h4.p0⟩
 obtain⟨rs,hrs⟩:=mapX (xd tNode) (xCount ⟨b,none⟩).1 (xCount ⟨b,none⟩).2
 rw[show xd tProof ⟨b,none⟩=rs from(xd_list tNode _).trans hrs.symm]at hdec
 generalize (xCount ⟨b,none⟩).1=n at hrs hn
 generalize (xCount ⟨b,none⟩).2=s5 at hrs h5
 let Iv:AV→AV→AV→AV→AV→AH→Prop:=fun a b' v' c d H'=>a=v∧b'=.ptr H.next 0∧c=.int .i64 (n:Int)∧∃(i:Nat) (l:List tNode.D) (cs:List AV) (o:List (Nat × List AV)) (s':Sx),d=.int .i64 (i:Int)∧Lp (xd tNode) n rs i l s'∧XSt H3 H.next b (o++[]) H' s'∧Lv (tsz tNode) o i cs v'∧Gl [] tNode l cs
 let μ:AV→AV→AV→AV→AV→AH→Nat:=fun _ _ _ _ d _=>match d with
  | .int _ j=>(n-j).toNat
  | _=>0
 refine⟨Iv,μ,⟨rfl,rfl,rfl,0,[],[],o,s5,rfl,?_,h5,hlv,.nil⟩,?_⟩
 ·rw[hrs];exact .start
 intro e H6 hI
 obtain⟨e1,e2,e4,i,l,cs,o,s6,e5,hlp,h6,hlv,hg⟩:=(hI:Iv (e 0) (e 4) (e 5) (e 6) (e 7) H6)
 obtain⟨w,e3⟩:∃w,e 5=w:=⟨_,rfl⟩
 rw[e3]at hlv
 have hmu:μ (e 0) (e 4) (e 5) (e 6) (e 7) H6=((n:Int)-(i:Int)).toNat:=by rw[e5]
 show y_pu (.bin .lss (.cst (e 7)) (.cst (e 6))) _
 rw[e5,e4,e3,e2,e1]
 have hi:=hlp.le
 refine h6.guard3 (fun hlt hn0=>?_) (fun hdn=>?_)
 ·refine y_call_of (Y23 h6.rd) (fun x H7 g=>?_) (fun x H7 g=>by obtain⟨_,_,g,_⟩:=g;cases g)
  obtain⟨k7,x',hx,⟨c,hxc,hr⟩,hr7⟩:=g
  cases hx
  have h7:XSt H3 H.next b (o++[]) H7 (xd tNode s6).2:=⟨hr7,h6.k.trans k7,fun w hw=>by
   obtain⟨g1,g2,g3⟩:=h6.l w hw
   exact⟨g1,Nat.lt_of_lt_of_le g2 k7.nx,by rw[k7.get _ g2 (by omega)];exact g3⟩,h6.nd,h6.p0⟩
  have hcl:=RC_len _ _ _ hr
  have hcs:=hg.n
  rw[hlp.len]at hcs
  refine h7.add hlv hcs (k:=27) hxc hcl hl (by omega) (by omega) fun o' v' H8 h8 hv'=>?_
  refine y_pu_of (i_add i (by omega)) ⟨⟨rfl,rfl,rfl,i+1,_,_,o',_,rfl,hlp.next hlt hn0,h8,hv',hg.add hr.rf hcl⟩,?_⟩
  exact Nat.lt_of_lt_of_eq (by omega:((n:Int)-((i+1:Nat):Int)).toNat<((n:Int)-(i:Int)).toNat) hmu.symm
 ·have hdn:=hlp.done hdn
  rw[hdn]at hdec
  have hf:=hg.frz (o:=o) (v:=w) (by rw[hlp.len];exact hlv)
  have hkn:∀{H7},KeepD H3 H.next H7→KeepN H H7:=fun{H7} k=>⟨by have:=k.nx;omega,fun q hq=>by rw[k.get q (by omega) (by omega),o3 q hq],k.gl.trans l3⟩
  have fin:∀(s7:Sx) (H7:AH),(s7.e=none→tProof.dec b=.ok l [])→(∀er,s7.e=some er→(∃x r,er=.form∧tProof.dec b=.ok l (x::r))∨tProof.dec b=.err er)→XSt H3 H.next b (o++[]) H7 s7 →
    y_pu (.fieldAddr 2 (.cst (.ptr H.next 0))) fun v26=>
    y_rd (.load none (.cst v26)) H7 fun v27=>
    y_pu (.bin .neq (.cst v27) (.cst (I 0))) fun v28=>
    y_if0 v28
    (y_pu (.fieldAddr 2 (.cst (.ptr H.next 0))) fun v29=>
    y_rd (.load none (.cst v29)) H7 fun v30=>
    DPostM H (tProof.dec b) (.ret (.tup [.nils,v30])) H7)
    (DPostM H (tProof.dec b) (.ret (.tup [w,(I 0)])) H7):=fun s7 H7 a1 a2 h7=>by
   refine y_pu_of (v:=.ptr H.next 2) rfl (h7.ldE (y_pu_of (neq_ern _) (y_if0_of (fun ht=>?_) (fun ht=>?_))))
   ·obtain⟨er,he⟩:∃er,s7.e=some er:=Option.isSome_iff_exists.1 ht
    refine y_pu_of (v:=.ptr H.next 2) rfl (h7.ldE ⟨hkn h7.k,?_⟩)
    rw[he]
    rcases a2 er he with⟨x,r,rfl,hd⟩ | hd
    ·rw[hd];rfl
    ·rw[hd];rfl
   ·have he:s7.e=none:=by
     cases hh:s7.e with
     | none=>rfl
     | some e'=>rw[hh]at ht;cases ht
    refine⟨hkn h7.k,?_⟩
    rw[a1 he]
    refine⟨w,o++[],rfl,hf,fun x hx=>?_⟩
    obtain⟨g1,_,g3⟩:=h7.l x hx
    exact⟨by omega,g3⟩
  have hlen6:=h6.rd.len
  refine y_pu_of (v:=.ptr H.next 1) rfl (h6.ldI fun j hj hdj=>?_)
  have hvl:apure (.len (.cst v)) emp=some (.int .i64 (b.length:Int)):=hv.len
  refine y_pu_of hvl (y_pu_of (v:=.bool (decide ((j:Int)<(b.length:Int)))) rfl (y_if_of (fun ht=>?_) (fun ht=>?_)))
  ·have ht:=of_decide_eq_true ht
   have hne:s6.r≠[]:=fun h0=>by
    rw[h0]at hdj
    have:=congrArg List.length hdj
    simp at this;omega
   refine y_call_of (X24 (e:=.form) h6.rd) (fun x H7 g=>?_) (fun x H7 g=>by obtain⟨_,_,g,_⟩:=g;cases g)
   obtain⟨k7,x',hx,_,hr7⟩:=g
   have h7:XSt H3 H.next b (o++[]) H7 (s6.fail .form):=⟨hr7,h6.k.trans k7,fun w hw=>by
    obtain⟨g1,g2,g3⟩:=h6.l w hw
    exact⟨g1,Nat.lt_of_lt_of_le g2 k7.nx,by rw[k7.get _ g2 (by omega)];exact g3⟩,h6.nd,h6.p0⟩
   refine fin (s6.fail .form) H7 (fun h0=>?_) (fun er he=>?_) h7
   ·exfalso
    unfold Sx.fail at h0
    split at h0
    ·cases h0
    ·rename_i hh;rw[hh]at h0;cases h0
   ·cases hd:tProof.dec b with
    | err e2=>
     rw[hd]at hdec
     have hdec:s6.e=some e2:=hdec
     rw[fail_err hdec,hdec]at he
     cases he
     exact .inr rfl
    | ok d r=>
     rw[hd]at hdec
     have hdec:(l,s6)=(d,⟨r,none⟩):=hdec
     cases hdec
     cases he
     cases r with
     | nil=>exact absurd rfl hne
     | cons x r=>exact .inl ⟨x,r,rfl,rfl⟩
  ·have ht:=of_decide_eq_false ht
   have hnil:s6.r=[]:=by rw[←hdj];exact List.drop_of_length_le (by omega)
   refine fin s6 H6 (fun h0=>?_) (fun er he=>?_) h6
   ·cases hd:tProof.dec b with
    | err e2=>
     rw[hd]at hdec
     have hdec:s6.e=some e2:=hdec
     rw[hdec]at h0;cases h0
    | ok d r=>
     rw[hd]at hdec
     have hdec:(l,s6)=(d,⟨r,none⟩):=hdec
     cases hdec
     have hnil:r=[]:=hnil
     rw[hnil]
   ·cases hd:tProof.dec b with
    | err e2=>
     rw[hd]at hdec
     have hdec:s6.e=some e2:=hdec
     rw[hdec]at he;cases he
     exact .inr rfl
    | ok d r=>
     rw[hd]at hdec
     have hdec:(l,s6)=(d,⟨r,none⟩):=hdec
     cases hdec
     cases he))
end Go.Proofs.YtdandeekdbndgaaGreatDoor
