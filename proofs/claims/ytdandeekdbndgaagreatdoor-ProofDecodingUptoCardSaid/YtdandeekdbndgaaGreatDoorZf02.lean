import Derived.Test.YtdandeekdbndgaaGreatDoorZf01
import Derived.Test.YtdandeekdbndgaaGreatDoorZc01
import Derived.Test.YtdandeekdbndgaaGreatDoorZd03
import Derived.Test.YtdandeekdbndgaaGreatDoorZd04
import Derived.Test.YtdandeekdbndgaaGreatDoorZe07
/-
  both Joins; the law gives back true on abstract arguments.
-/
namespace Go.AL
open Co
variable {P:Program}
structure NSt (H0:AH) (L:List (Nat × List AV)) (H:AH):Prop where
 k:KeepN H0 H
 l:∀x∈L,H0.next≤x.1∧x.1<H.next∧H.get x.1=some (.cells x.2)
 nd:(L.map (·.1)).Nodup
section
variable {H0 H:AH}{L:List (Nat × List AV)}
theorem NSt.start (H:AH):NSt H [] H:=⟨KeepN.refl _,fun x hx=>(by cases hx),List.nodup_nil⟩
theorem NSt.push {o:List AV}(h:NSt H0 L H):NSt H0 ((H.next,o)::L) (H.push (.cells o)):=by
 have hn:=h.k.nx
 have hold:∀q,q<H.next→(H.push (.cells o)).get q=H.get q:=fun q hq=>AH.get_push_ne _ _ (by omega)
 refine⟨h.k.trans (KeepN.push _ _),fun x hx=>?_,?_⟩
 ·cases hx with
  | head=>exact⟨hn,by simp,by simp⟩
  | tail _ hx=>
   obtain⟨h1,h2,h3⟩:=h.l x hx
   exact⟨h1,by simp;omega,by rw[hold _ h2];exact h3⟩
 ·rw[List.map_cons,List.nodup_cons]
  refine⟨fun hm=>?_,h.nd⟩
  obtain⟨x,hx,he⟩:=List.mem_map.1 hm
  have:=(h.l x hx).2.1
  omega
theorem NSt.alloc {z:List AV}{K:AV→AH→Prop}(h:NSt H0 L H) (hK:∀q H',NSt H0 ((q,z)::L) H'→K (.ptr q 0) H'):y_ef (.alloc z) H K:=
 y_ef_of (v:=.ptr H.next 0) (H':=H.push (.cells z)) rfl (hK _ _ h.push)
theorem NSt.box {x:AV}{c:List AV}{K:AV→AH→Prop}(h:NSt H0 L H) (hx:x.cellsOf=some c) (hK:∀q H',NSt H0 ((q,c)::L) H'→K (.ptr q 0) H'):y_ef (.box (.cst x)) H K:=
 y_ef_of (v:=.ptr H.next 0) (H':=H.push (.cells c)) (by simp[aeff,AOpd.ev,hx]) (hK _ _ h.push)
theorem NSt.sub {L':List (Nat × List AV)}(h:NSt H0 L H) (hs:L'.Sublist L):NSt H0 L' H:=⟨h.k,fun x hx=>h.l x (hs.subset hx),h.nd.sublist (hs.map _)⟩
theorem NSt.perm {L':List (Nat × List AV)}(h:NSt H0 L H) (hs:L'.Perm L):NSt H0 L' H:=⟨h.k,fun x hx=>h.l x (hs.subset hx),(hs.map _).nodup_iff.2 h.nd⟩
theorem NSt.swap {x y:Nat × List AV}(h:NSt H0 (x::y::L) H):NSt H0 (y::x::L) H:=h.perm (.swap _ _ _)
theorem NSt.set {q:Nat}{c c':List AV}(h:NSt H0 ((q,c)::L) H):NSt H0 ((q,c')::L) (H.set q (.cells c')):=by
 obtain⟨h1,h2,h3⟩:=h.l _ (.head _)
 have hold:∀r,r≠q→(H.set q (.cells c')).get r=H.get r:=fun r hr=>by simp[AH.get_set,hr]
 have hnd:=h.nd
 rw[List.map_cons,List.nodup_cons]at hnd
 refine⟨⟨by simpa using h.k.nx,fun r hr=>by rw[hold r (by simp only at h1;omega)];exact h.k.get r hr,h.k.gl⟩,fun w hw=>?_,by rw[List.map_cons,List.nodup_cons];exact hnd⟩
 cases hw with
 | head=>exact⟨h1,by simpa using h2,by simp[AH.get_set]⟩
 | tail _ hw=>
  obtain⟨g1,g2,g3⟩:=h.l w (.tail _ hw)
  exact⟨g1,by simpa using g2,by rw[hold _ fun e=>hnd.1 (List.mem_map.2 ⟨w,hw,e⟩)];exact g3⟩
theorem NSt.erase {q:Nat}{c:List AV}(h:NSt H0 ((q,c)::L) H):NSt H0 L (H.erase q):=by
 obtain⟨h1,h2,h3⟩:=h.l _ (.head _)
 have hnd:=h.nd
 rw[List.map_cons,List.nodup_cons]at hnd
 have hold:∀r,r≠q→(H.erase q).get r=H.get r:=fun r hr=>by simp[AH.get_erase,hr]
 refine⟨⟨h.k.nx,fun r hr=>by rw[hold r (by simp only at h1;omega)];exact h.k.get r hr,h.k.gl⟩,fun w hw=>?_,hnd.2⟩
 obtain⟨g1,g2,g3⟩:=h.l w (.tail _ hw)
 exact⟨g1,g2,by rw[hold _ fun e=>hnd.1 (List.mem_map.2 ⟨w,hw,e⟩)];exact g3⟩
theorem NSt.put {q o n:Nat}{c vs:List AV}{x:AV}{K:AV→AH→Prop}(h:NSt H0 ((q,c)::L) H) (hx:x.cellsOf=some vs) (hv:vs.length=n) (hz:o+n≤c.length)
  (hK:∀H',NSt H0 ((q,splice c o vs)::L) H'→K .unk H'):y_ef (.store n (.cst (.ptr q o)) (.cst x)) H K:=by
 obtain⟨h1,h2,h3⟩:=h.l _ (.head _)
 exact y_ef_of (v:=.unk) (H':=H.set q (.cells (splice c o vs))) (by
  simp only[aeff,AOpd.ev,AH.cells?,h3,hx]
  rw[if_pos ⟨hv,hz⟩]) (hK _ h.set)
theorem NSt.putA {q n:Nat}{c vs:List AV}{K:AV→AH→Prop}(h:NSt H0 ((q,c)::L) H) (hv:vs.length=n) (hz:c.length=n)
  (hK:∀H',NSt H0 ((q,vs)::L) H'→K .unk H'):y_ef (.store n (.cst (.ptr q 0)) (.cst (.agg vs))) H K:=
 h.put (vs:=vs) rfl hv (by omega) fun H' h'=>hK H' (by
  rw[show splice c 0 vs=vs by rw[splice_eq (by omega)];simp[List.drop_of_length_le (by omega:c.length≤vs.length)]]at h';exact h')
theorem NSt.ldA {q k:Nat}{c:List AV}{K:AV→Prop}(h:NSt H0 L H) (hm:(q,c)∈L) (hc:c.length=k) (hK:K (.agg c)):y_rd (.load (some k) (.cst (.ptr q 0))) H K:=by
 obtain⟨_,_,h3⟩:=h.l _ hm
 exact y_rd_of (v:=.agg c) (by simp[aread,aload,AOpd.ev,AH.cells?,h3,apart,hc];exact List.take_of_length_le (by omega)) hK
theorem NSt.ld {q o:Nat}{c:List AV}{x:AV}{K:AV→Prop}(h:NSt H0 L H) (hm:(q,c)∈L) (hx:c[o]?=some x) (hK:K x):y_rd (.load none (.cst (.ptr q o))) H K:=by
 obtain⟨_,_,h3⟩:=h.l _ hm
 exact y_rd_of (v:=x) (by simpa[aread,aload,AOpd.ev,AH.cells?,h3,apart]using hx) hK
theorem NSt.call {g:FuncId}{ar:List AV}{ok:AV→AH→Prop}{K:AV→AH→Prop}{Post:AOut→AH→Prop}(h:NSt H0 L H) (hC:ACall P g ar H fun o H'=>KeepN H H'∧∃x,o=.ret x∧ok x H')
  (hK:∀x H',NSt H0 L H'→ok x H'→K x H'):y_call P g ar H (yp Post) K:=by
 have hn:=h.k.nx
 refine y_call_of hC (fun x H' g=>?_) (fun x H' g=>by obtain⟨_,_,g,_⟩:=g;cases g)
 obtain⟨k1,x',hx,h1⟩:=g
 cases hx
 exact hK _ H' ⟨h.k.trans k1,fun w hw=>by
  obtain⟨g1,g2,g3⟩:=h.l w hw
  exact⟨g1,Nat.lt_of_lt_of_le g2 k1.nx,by rw[k1.get _ g2];exact g3⟩,h.nd⟩ h1
theorem NSt.app {k n bytes:Nat}{o:List (Nat × List AV)}{cs c z:List AV}{v x:AV}{K:AV→AH→Prop}(h:NSt H0 (o++L) H) (hv:Lv k o n cs v) (hcs:cs.length=n*k) (hx:x.cellsOf=some c) (hc:c.length=k) (hz:z.length=k) (hn:n<274877906944) (hby:bytes≤500)
  (hK:∀o' v' H',NSt H0 (o'++L) H'→Lv k o' (n+1) (cs++c) v'→K v' H'):y_ef (.buildSlice k 1 z [(0,k,(.cst x))]) H fun v17 h17=>y_ef (.append k bytes (.cst v) (.cst v17)) h17 K:=by
 have hd:z.drop k=[]:=List.drop_of_length_le (by omega)
 refine y_ef_of (v:=.sl H.next 0 1 (.ex 1)) (H':=H.push (.cells c)) (by
  simp[aeff,afill,AOpd.ev,hx,hc,hz,hd]) ?_
 have hb:(n+1)*bytes≤140737488355328:=by
  have:(n+1)*bytes≤274877906944*500:=Nat.mul_le_mul (by omega) hby
  omega
 have htk:c.take k=c:=List.take_of_length_le (by omega)
 have h1:=h.push (o:=c)
 cases hv with
 | nil=>
  have hb':bytes≤140737488355328:=by omega
  refine y_ef_of (v:=.sl (H.next+1) 0 1 (.op k)) (H':=(H.push (.cells c)).push (.cells c)) (by
   simp[aeff,AOpd.ev,aappend,aslcells,AH.cells?,AH.get_push,hc,htk,hb']) ?_
  refine hK [(H.next+1,c)] _ _ ?_ (.op (Nat.succ_pos _))
  exact(h1.push (o:=c)).sub (by
   show List.Sublist ((H.next+1,c)::L) ((H.next+1,c)::(H.next,c)::L)
   exact(List.Sublist.cons _ (List.Sublist.refl _)).cons_cons _)
 | ex q=>
  obtain⟨g1,g2,g3⟩:=h.l (q,[]) (.head _)
  have e1:q≠H.next:=by simp only at g2;omega
  have hb':bytes≤140737488355328:=by omega
  refine y_ef_of (v:=.sl (H.next+1) 0 1 (.op k)) (H':=(H.push (.cells c)).push (.cells c)) (by
   have g3:H.get q=some (.cells []):=g3
   simp[aeff,AOpd.ev,aappend,aslcells,AH.cells?,AH.get_push,hc,htk,hb',e1,g3]) ?_
  refine hK [(H.next+1,c)] _ _ ?_ (.op (Nat.succ_pos _))
  exact(h1.push (o:=c)).sub (by
   show List.Sublist ((H.next+1,c)::L) ((H.next+1,c)::(H.next,c)::(q,[])::L)
   exact(List.Sublist.cons _ (List.Sublist.cons _ (List.Sublist.refl _))).cons_cons _)
 | op hn0=>
  rename_i r
  obtain⟨g1,g2,g3⟩:=h.l (r,cs) (.head _)
  have e3:r≠H.next:=by simp only at g2;omega
  have htk2:cs.take (n*k)=cs:=List.take_of_length_le (by omega)
  refine y_ef_of (v:=.sl (H.next+1) 0 (n+1) (.op k)) (H':=((H.push (.cells c)).erase r).push (.cells (cs++c))) (by
   have hn1:n+1≤9223372036854775807:=by omega
   have g3:H.get r=some (.cells cs):=g3
   simp[aeff,AOpd.ev,aappend,aslcells,AH.cells?,AH.get_push,hc,htk,g3,e3,hcs,hb,htk2,hn1]) ?_
  refine hK [(H.next+1,cs++c)] _ _ ?_ (.op (Nat.succ_pos _))
  have h2:NSt H0 ((r,cs)::(H.next,c)::L) (H.push (.cells c)):=h1.swap
  have h3:=(h2.erase).push (o:=cs++c)
  exact h3.sub (by
   show List.Sublist ((H.next+1,cs++c)::L) ((H.next+1,cs++c)::(H.next,c)::L)
   exact(List.Sublist.cons _ (List.Sublist.refl _)).cons_cons _)
theorem NSt.live (h:NSt H0 L H):∀w∈L,H0.next≤w.1∧H.get w.1=some (.cells w.2):=fun w hw=>⟨(h.l w hw).1,(h.l w hw).2.2⟩
end
theorem ACall.frz {g:FuncId}{ar ar':List AV}{H H':AH}{Post:AOut→AH→Prop}(R:Nat→Prop) (h:ACall P g ar' H' Post) (ha:FrzVs H R ar ar') (hn:H'.next=H.next) (hg:H'.gl=H.gl)
  (hH:∀r o,H'.get r=some o→¬R r∧H.get r=some o):ACall P g ar H Post:=by
 refine⟨h.1,fun Z σ w vs hW hv=>?_⟩
 refine(h.2 (frZ Z σ H R w) σ w vs (hW.freezeR hn (fun r o h=>⟨(hH r o h).1,.inl (hH r o h).2⟩) hg) (FrzVs.sound hW ha hv)).mono fun x w' hx=>?_
 obtain⟨Z',σ',H1,out,g1,g2,g3,g4,g5,g6⟩:=hx
 exact⟨Z',σ',H1,out,(frZ_le hW).trans g1,by rw[←hn];exact g2,by rw[←hn];exact g3,g4,g5,g6⟩
end Go.AL
namespace Go.AL
open Co
variable {P:Program}
structure Upd (H:AH) (t:Nat) (c:List AV) (H':AH):Prop where
 nx:H'.next=H.next
 gl:H'.gl=H.gl
 get:∀x,x≠t→H'.get x=H.get x
 at_:H'.get t=some (.cells c)
theorem Upd.refl {H:AH}{t:Nat}{c:List AV}(h:H.get t=some (.cells c)):Upd H t c H:=⟨rfl,rfl,fun _ _=>rfl,h⟩
theorem Upd.put {H H1:AH}{t o:Nat}{c c':List AV}{x:AV}{K:AV→AH→Prop}(h:Upd H t c H1) (hx:x.cellsOf=some [x]) (ho:o<c.length) (hc:c.set o x=c') (hK:∀H',Upd H t c' H'→K .unk H'):y_ef (.store 1 (.cst (.ptr t o)) (.cst x)) H1 K:=by
 refine y_ef_of (v:=.unk) (H':=H1.set t (.cells c')) ?_ (hK _ ⟨h.nx,h.gl,fun y hy=>by rw[AH.get_set_ne _ _ hy];exact h.get y hy,by simp⟩)
 have h3:=h.at_
 have h4:o+1≤c.length:=ho
 subst hc
 simp[aeff,AOpd.ev,AH.cells?,h3,hx,h4,splice]
theorem Upd.ld {H H1:AH}{t o:Nat}{c:List AV}{x:AV}{K:AV→Prop}(h:Upd H t c H1) (hx:c[o]?=some x) (hK:K x):y_rd (.load none (.cst (.ptr t o))) H1 K:=by
 have h3:=h.at_
 exact y_rd_of (v:=x) (by simpa[aread,aload,AOpd.ev,AH.cells?,h3,apart]using hx) hK
theorem Upd.nst {H0 H H':AH}{t:Nat}{c c':List AV}{L:List (Nat × List AV)}(h:Upd H t c' H') (s:NSt H0 ((t,c)::L) H):NSt H0 ((t,c')::L) H':=by
 have e:H'=H.set t (.cells c'):=AH.ext (fun x=>by
  rw[AH.get_set]
  split
  ·rename_i e;subst e;exact h.at_
  ·rename_i e;exact h.get x e) h.nx h.gl
 rw[e]
 exact s.set
theorem nd_cells {d:tNode.D}{c:List AV}(h:RC tNode d c):∃c3,c=.int .i64 (n0 d)::.int .i64 (n1 d)::.int .i64 (n2 d)::c3∧c3.length=24∧∀x y z,RC tNode (nMk x y z (n3 d)) (.int .i64 x::.int .i64 y::.int .i64 z::c3):=by
 have hl:=RC_len tNode d c h
 obtain⟨c1,c2,rfl,h1,c3,c4,rfl,h2,c5,c6,rfl,h3,h4⟩:=h
 have h1:c1=[.int .i64 (n0 d)]:=h1
 have h2:c3=[.int .i64 (n1 d)]:=h2
 have h3:c5=[.int .i64 (n2 d)]:=h3
 subst h1 h2 h3
 refine⟨c6,rfl,?_,fun x y z=>⟨[_],_,rfl,rfl,[_],_,rfl,rfl,[_],_,rfl,rfl,h4⟩⟩
 have hl:_=27:=hl
 simp only[List.length_append,List.length_cons,List.length_nil]at hl
 omega
theorem eq_k (a b:Int):apure (.bin .eql (.cst (.int .i64 a)) (.cst (.int .i64 b))) emp=some (.bool (a==b)):=rfl
theorem add_k (a b:Int):apure (.bin .add (.cst (.int .i64 a)) (.cst (.int .i64 b))) emp=some (.int .i64 (wr (a+b))):=rfl
def MPost (H:AH) (d:tProof.D):AOut→AH→Prop:=fun o H'=>KeepN H H'∧∃x R,o=.ret x∧RF R tProof d [x]∧∀w∈R,H.next≤w.1∧H'.get w.1=some (.cells w.2)
def CPost (H:AH) (d:tProof.D):AOut→AH→Prop:=fun o H'=>KeepN H H'∧∃x,o=.ret x∧RC tProof d [x]
theorem MPost.scope {g:FuncId}{ar:List AV}{H:AH}{d:tProof.D}(h:ACall P g ar H (MPost H d)):ACall P g ar H (CPost H d):=by
 refine ACall.scope (fun _ _=>h) h.1 fun _ htop o H' hp=>?_
 obtain⟨hk,x,R,rfl,⟨c',h1,h2⟩,h3⟩:=hp
 have hcut:H'.cut H.next H.gl=H:=by
  refine AH.ext (fun q=>?_) rfl rfl
  show(if q<H.next then H'.get q else none)=H.get q
  by_cases hq:q<H.next
  ·rw[if_pos hq,hk.get q hq]
  ·rw[if_neg hq,htop q (by omega)]
 have hold:∀q o,q<H.next→H'.get q=some o→H.get q=some o∨ScO H.next o:=fun q o hq ho=>.inl (by rw[←hk.get q hq];exact ho)
 rw[hcut]
 have h4:=h1 H' H.next h3
 cases h4 with
 | cons h5 h6=>
  cases h6
  exact⟨.ret _,h5,hold,KeepN.refl _,_,rfl,h2⟩
end Go.AL
namespace Go.Proofs.YtdandeekdbndgaaGreatDoor
open Go Go.AL Go.AL.Co
def sh1 (a b k:Int):Int:=if a=1∨a=8∨a=9∨a=10 then wr (b+k)else b
def sh2 (a d k:Int):Int:=if a=1 then wr (d+k)else d
section
variable {H1:AH}{t:Nat}{c3:List AV}{a b d k:Int}
theorem sh28 {v4 v6 v7:AV}{J18:AV→AV→AV→AV→AV→AH→Prop}(hg:H1.get t=some (.cells (.int .i64 a::.int .i64 b::.int .i64 d::c3)))
  (hJ:∀H',Upd H1 t (.int .i64 a::.int .i64 (sh1 a b k)::.int .i64 (sh2 a d k)::c3) H'→J18 v4 (.int .i64 k) v6 v7 (.ptr t 0) H') :
  (y_pu (.fieldAddr 0 (.cst (.ptr t 0))) fun v15=>
 y_rd (.load none (.cst v15)) H1 fun v16=>
 y_pu (.bin .eql (.cst v16) (.cst (I 1))) fun v17=>
 y_if v17 J18
 (fun J18=>y_pu (.fieldAddr 1 (.cst (.ptr t 0))) fun v19=>
 y_rd (.load none (.cst v19)) H1 fun v20=>
 y_pu (.bin .add (.cst v20) (.cst (.int .i64 k))) fun v21=>
 y_pu (.fieldAddr 1 (.cst (.ptr t 0))) fun v22=>
 y_ef (.store 1 (.cst v22) (.cst v21)) H1 fun v23 h23=>
 y_pu (.fieldAddr 2 (.cst (.ptr t 0))) fun v24=>
 y_rd (.load none (.cst v24)) h23 fun v25=>
 y_pu (.bin .add (.cst v25) (.cst (.int .i64 k))) fun v26=>
 y_pu (.fieldAddr 2 (.cst (.ptr t 0))) fun v27=>
 y_ef (.store 1 (.cst v27) (.cst v26)) h23 fun v28 h28=>
 J18 v4 (.int .i64 k) v6 v7 (.ptr t 0) h28)
 (fun J18=>y_pu (.bin .eql (.cst v16) (.cst (I 8))) fun v19=>
 y_if v19 (fun(v20 v21 v22 v23 v24 v25:AV) (h26:AH)=>
 y_if0 v25
 (y_pu (.fieldAddr 1 (.cst v24)) fun v27=>
 y_rd (.load none (.cst v27)) h26 fun v28=>
 y_pu (.bin .add (.cst v28) (.cst v21)) fun v29=>
 y_pu (.fieldAddr 1 (.cst v24)) fun v30=>
 y_ef (.store 1 (.cst v30) (.cst v29)) h26 fun v31 h31=>
 J18 v20 v21 v22 v23 v24 h31)
 (J18 v20 v21 v22 v23 v24 h26))
 (fun J20=>J20 v4 (.int .i64 k) v6 v7 (.ptr t 0) v19 H1)
 (fun J20=>y_pu (.bin .eql (.cst v16) (.cst (I 9))) fun v21=>
 y_if0 v21
 (J20 v4 (.int .i64 k) v6 v7 (.ptr t 0) v21 H1)
 (y_pu (.bin .eql (.cst v16) (.cst (I 10))) fun v22=>
 J20 v4 (.int .i64 k) v6 v7 (.ptr t 0) v22 H1)))):=by
 have u0:=Upd.refl hg
 refine y_pu_of (v:=.ptr t 0) rfl (u0.ld rfl (y_pu_of (eq_k _ _) (y_if_of (fun h1=>?_) (fun h1=>?_))))
 ·have h1:a=1:=by simpa using h1
  subst h1
  refine y_pu_of (v:=.ptr t 1) rfl (u0.ld rfl (y_pu_of (add_k _ _) (y_pu_of (v:=.ptr t 1) rfl (u0.put rfl (by simp) rfl fun H2 u2=>?_))))
  refine y_pu_of (v:=.ptr t 2) rfl (u2.ld rfl (y_pu_of (add_k _ _) (y_pu_of (v:=.ptr t 2) rfl (u2.put rfl (by simp) rfl fun H3 u3=>?_))))
  exact hJ H3 u3
 ·have h1:¬a=1:=by simpa using h1
  have key:∀g:Bool,g=decide (a=8∨a=9∨a=10)→y_if0 (.bool g)
    (y_pu (.fieldAddr 1 (.cst (.ptr t 0))) fun v27=>
     y_rd (.load none (.cst v27)) H1 fun v28=>
     y_pu (.bin .add (.cst v28) (.cst (.int .i64 k))) fun v29=>
     y_pu (.fieldAddr 1 (.cst (.ptr t 0))) fun v30=>
     y_ef (.store 1 (.cst v30) (.cst v29)) H1 fun v31 h31=>
     J18 v4 (.int .i64 k) v6 v7 (.ptr t 0) h31)
    (J18 v4 (.int .i64 k) v6 v7 (.ptr t 0) H1):=fun g hg=>by
   have e2:sh2 a d k=d:=if_neg h1
   refine y_if0_of (fun h2=>?_) (fun h2=>?_)
   ·have h3:a=8∨a=9∨a=10:=by rw[h2]at hg;exact of_decide_eq_true hg.symm
    have e1:sh1 a b k=wr (b+k):=if_pos (.inr h3)
    refine y_pu_of (v:=.ptr t 1) rfl (u0.ld rfl (y_pu_of (add_k _ _) (y_pu_of (v:=.ptr t 1) rfl (u0.put rfl (by simp) rfl fun H2 u2=>?_))))
    refine hJ H2 ?_
    rw[e1,e2];exact u2
   ·have h3:¬(a=8∨a=9∨a=10):=by rw[h2]at hg;exact of_decide_eq_false hg.symm
    have e1:sh1 a b k=b:=if_neg (by omega)
    refine hJ H1 ?_
    rw[e1,e2];exact u0
  refine y_pu_of (eq_k _ _) (y_if_of (fun h2=>?_) (fun h2=>?_))
  ·have h8:a=8:=by simpa using h2
   exact key _ (by simp[h8])
  ·have h8:¬a=8:=by simpa using h2
   refine y_pu_of (eq_k _ _) (y_if0_of (fun h3=>?_) (fun h3=>?_))
   ·have h9:a=9:=by simpa using h3
    exact key _ (by simp[h9])
   ·have h9:¬a=9:=by simpa using h3
    refine y_pu_of (eq_k _ _) (key _ ?_)
    by_cases h10:a=10<;>simp[h8,h9,h10]
theorem sh26 {v6 v7 v8 v9:AV}{J19:AV→AV→AV→AV→AV→AV→AH→Prop}(hg:H1.get t=some (.cells (.int .i64 a::.int .i64 b::.int .i64 d::c3)))
  (hJ:∀H',Upd H1 t (.int .i64 a::.int .i64 (sh1 a b k)::.int .i64 (sh2 a d k)::c3) H'→J19 (.int .i64 k) v6 (.ptr t 0) v7 v8 v9 H') :
  (y_pu (.fieldAddr 0 (.cst (.ptr t 0))) fun v16=>
 y_rd (.load none (.cst v16)) H1 fun v17=>
 y_pu (.bin .eql (.cst v17) (.cst (I 1))) fun v18=>
 y_if v18 J19
 (fun J19=>y_pu (.fieldAddr 1 (.cst (.ptr t 0))) fun v20=>
 y_rd (.load none (.cst v20)) H1 fun v21=>
 y_pu (.bin .add (.cst v21) (.cst (.int .i64 k))) fun v22=>
 y_pu (.fieldAddr 2 (.cst (.ptr t 0))) fun v23=>
 y_rd (.load none (.cst v23)) H1 fun v24=>
 y_pu (.bin .add (.cst v24) (.cst (.int .i64 k))) fun v25=>
 y_pu (.fieldAddr 1 (.cst (.ptr t 0))) fun v26=>
 y_ef (.store 1 (.cst v26) (.cst v22)) H1 fun v27 h27=>
 y_pu (.fieldAddr 2 (.cst (.ptr t 0))) fun v28=>
 y_ef (.store 1 (.cst v28) (.cst v25)) h27 fun v29 h29=>
 J19 (.int .i64 k) v6 (.ptr t 0) v7 v8 v9 h29)
 (fun J19=>y_pu (.bin .eql (.cst v17) (.cst (I 8))) fun v20=>
 y_if v20 (fun(v21 v22 v23 v24 v25 v26 v27:AV) (h28:AH)=>
 y_if0 v27
 (y_pu (.fieldAddr 1 (.cst v23)) fun v29=>
 y_rd (.load none (.cst v29)) h28 fun v30=>
 y_pu (.bin .add (.cst v30) (.cst v21)) fun v31=>
 y_pu (.fieldAddr 1 (.cst v23)) fun v32=>
 y_ef (.store 1 (.cst v32) (.cst v31)) h28 fun v33 h33=>
 J19 v21 v22 v23 v24 v25 v26 h33)
 (J19 v21 v22 v23 v24 v25 v26 h28))
 (fun J21=>J21 (.int .i64 k) v6 (.ptr t 0) v7 v8 v9 v20 H1)
 (fun J21=>y_pu (.bin .eql (.cst v17) (.cst (I 9))) fun v22=>
 y_if0 v22
 (J21 (.int .i64 k) v6 (.ptr t 0) v7 v8 v9 v22 H1)
 (y_pu (.bin .eql (.cst v17) (.cst (I 10))) fun v23=>
 J21 (.int .i64 k) v6 (.ptr t 0) v7 v8 v9 v23 H1)))):=by
 have u0:=Upd.refl hg
 refine y_pu_of (v:=.ptr t 0) rfl (u0.ld rfl (y_pu_of (eq_k _ _) (y_if_of (fun h1=>?_) (fun h1=>?_))))
 ·have h1:a=1:=by simpa using h1
  subst h1
  refine y_pu_of (v:=.ptr t 1) rfl (u0.ld rfl (y_pu_of (add_k _ _) ?_))
  refine y_pu_of (v:=.ptr t 2) rfl (u0.ld rfl (y_pu_of (add_k _ _) ?_))
  refine y_pu_of (v:=.ptr t 1) rfl (u0.put rfl (by simp) rfl fun H2 u2=>?_)
  refine y_pu_of (v:=.ptr t 2) rfl (u2.put rfl (by simp) rfl fun H3 u3=>?_)
  exact hJ H3 u3
 ·have h1:¬a=1:=by simpa using h1
  have key:∀g:Bool,g=decide (a=8∨a=9∨a=10)→y_if0 (.bool g)
    (y_pu (.fieldAddr 1 (.cst (.ptr t 0))) fun v27=>
     y_rd (.load none (.cst v27)) H1 fun v28=>
     y_pu (.bin .add (.cst v28) (.cst (.int .i64 k))) fun v29=>
     y_pu (.fieldAddr 1 (.cst (.ptr t 0))) fun v30=>
     y_ef (.store 1 (.cst v30) (.cst v29)) H1 fun v31 h31=>
     J19 (.int .i64 k) v6 (.ptr t 0) v7 v8 v9 h31)
    (J19 (.int .i64 k) v6 (.ptr t 0) v7 v8 v9 H1):=fun g hg=>by
   have e2:sh2 a d k=d:=if_neg h1
   refine y_if0_of (fun h2=>?_) (fun h2=>?_)
   ·have h3:a=8∨a=9∨a=10:=by rw[h2]at hg;exact of_decide_eq_true hg.symm
    have e1:sh1 a b k=wr (b+k):=if_pos (.inr h3)
    refine y_pu_of (v:=.ptr t 1) rfl (u0.ld rfl (y_pu_of (add_k _ _) (y_pu_of (v:=.ptr t 1) rfl (u0.put rfl (by simp) rfl fun H2 u2=>?_))))
    refine hJ H2 ?_
    rw[e1,e2];exact u2
   ·have h3:¬(a=8∨a=9∨a=10):=by rw[h2]at hg;exact of_decide_eq_false hg.symm
    have e1:sh1 a b k=b:=if_neg (by omega)
    refine hJ H1 ?_
    rw[e1,e2];exact u0
  refine y_pu_of (eq_k _ _) (y_if_of (fun h2=>?_) (fun h2=>?_))
  ·have h8:a=8:=by simpa using h2
   exact key _ (by simp[h8])
  ·have h8:¬a=8:=by simpa using h2
   refine y_pu_of (eq_k _ _) (y_if0_of (fun h3=>?_) (fun h3=>?_))
   ·have h9:a=9:=by simpa using h3
    exact key _ (by simp[h9])
   ·have h9:¬a=9:=by simpa using h3
    refine y_pu_of (eq_k _ _) (key _ ?_)
    by_cases h10:a=10<;>simp[h8,h9,h10]
end
end Go.Proofs.YtdandeekdbndgaaGreatDoor
namespace Go.AL
open Co
variable {P:Program}
structure Pl (t:Ty) (l:List t.D) (cs:List AV):Prop where
 e:∃css:List (List AV),cs=css.flatten∧css.length=l.length∧∀(i:Nat) (x:t.D) (y:List AV),l[i]?=some x→css[i]?=some y→RC t x y
 n:cs.length=l.length*tsz t
theorem Pl.nil {t:Ty}:Pl t [] []:=⟨⟨[],rfl,rfl,fun i x y h=>by simp at h⟩,by simp⟩
theorem Pl.app {t:Ty}{l l':List t.D}{cs cs':List AV}(h:Pl t l cs) (h':Pl t l' cs'):Pl t (l++l') (cs++cs'):=by
 obtain⟨⟨css,h1,h2,h3⟩,h4⟩:=h
 obtain⟨⟨css',g1,g2,g3⟩,g4⟩:=h'
 refine⟨⟨css++css',by rw[h1,g1,List.flatten_append],by simp[h2,g2],fun i x y hx hy=>?_⟩,by rw[List.length_append,List.length_append,h4,g4,Nat.add_mul]⟩
 rcases Nat.lt_or_ge i l.length with hi | hi
 ·rw[List.getElem?_append_left (by omega)]at hx hy
  exact h3 i x y hx hy
 ·rw[List.getElem?_append_right (by omega)]at hx hy
  rw[h2]at hy
  exact g3 _ x y hx hy
theorem Pl.one {t:Ty}{d:t.D}{c:List AV}(h:RC t d c):Pl t [d] c:=⟨⟨[c],by simp,rfl,fun i x y hx hy=>by
 cases i with
 | zero=>cases hx;cases hy;exact h
 | succ i=>simp at hx⟩,by rw[RC_len t d c h];simp⟩
theorem Pl.rc {t:Ty}{l:List t.D}{cs:List AV}(ex:Bool) (h:Pl t l cs):RC (.list t) (show(Ty.list t).D from l) [.sim cs l.length ex]:=by
 obtain⟨⟨css,h1,h2,h3⟩,h4⟩:=h
 exact⟨_,cs,rfl,.sim h4,css,h1,h2,h3⟩
theorem Pl.of {t:Ty}{l:(Ty.list t).D}{v:AV}(h:RC (.list t) l [v]):∃cs,Pl t (asL l) cs∧∀H,aslcells (tsz t) v H=some ((asL l).length,cs):=by
 obtain⟨cs,h1,css,h2,h3,h4⟩:=(lr_of h).cells
 refine⟨cs,⟨⟨css,h2,h3,h4⟩,?_⟩,h1⟩
 obtain⟨cs',css',g1,g2,g3,g4,g5⟩:=list_parts h
 have hc:∀x∈css,x.length=tsz t:=fun x hx=>by
  obtain⟨j,hj⟩:=List.getElem?_of_mem hx
  have hlt:j<css.length:=by
   rcases Nat.lt_or_ge j css.length with h | h
   ·exact h
   ·rw[List.getElem?_eq_none h]at hj;cases hj
  exact RC_len t _ _ (h4 j _ x (List.getElem?_eq_getElem (by omega)) hj)
 rw[h2,flat_len css hc,h3]
theorem Pl.frz {t:Ty}{l:List t.D}{cs:List AV}{r:Nat}{lim:Lim}{R:List (Nat × List AV)}(h:Pl t l cs) (hR:(r,cs)∈R):RF R (.list t) (show(Ty.list t).D from l) [.sl r 0 l.length lim]:=by
 have hrc:=h.rc false
 refine⟨_,FZs.cons (fun H k hH=>?_) .nil,hrc⟩
 obtain⟨g1,g2⟩:=hH _ hR
 have hsc:Scs k cs:=by
  have:=RC_sc k _ _ _ hrc
  cases this with
  | cons a _=>cases a with | sim h=>exact h
 refine .sl (l:=cs) (m:=cs.length) g1 (by simp[AH.cells?,g2]) (by simp) ?_ (fun h0=>by rw[h.n,h0,Nat.zero_mul]) (fun h=>by cases h)
 rw[List.drop_zero,List.take_length]
 exact .low hsc
section
variable {H0 H:AH}{L:List (Nat × List AV)}
theorem NSt.appF {t:Ty}{l:List t.D}{l':(Ty.list t).D}{r bytes n:Nat}{lim:Lim}{cs:List AV}{v:AV}{K:AV→AH→Prop}(h:NSt H0 ((r,cs)::L) H) (hp:Pl t l cs) (hn:l.length=n) (hl:lim=.ex n∨lim=.op (tsz t)) (hv:RC (.list t) l' [v])
  (hb:(n+(asL l').length)*bytes≤140737488355328) (hb2:n+(asL l').length<274877906944) (hK:∀r' lim' cs' H',NSt H0 ((r',cs')::L) H'→Pl t (l++asL l') cs'→(lim'=.ex (n+(asL l').length)∨lim'=.op (tsz t))→K (.sl r' 0 (n+(asL l').length) lim') H') :
  y_ef (.append (tsz t) bytes (.cst (.sl r 0 n lim)) (.cst v)) H K:=by
 obtain⟨ds,hd,ha⟩:=Pl.of hv
 obtain⟨_,_,g3⟩:=h.l _ (.head _)
 have g3:H.get r=some (.cells cs):=g3
 have hpd:=hp.app hd
 have h63:n+(asL l').length≤9223372036854775807:=by omega
 have hcs:cs.length=n*tsz t:=by rw[hp.n,hn]
 have htk:cs.take (n*tsz t)=cs:=List.take_of_length_le (by omega)
 generalize hm:(asL l').length=m at *
 have hds:ds.length=m*tsz t:=by rw[hd.n,hm]
 by_cases h0:m=0
 ·subst h0
  have hds0:ds=[]:=List.eq_nil_of_length_eq_zero (by rw[hds,Nat.zero_mul])
  subst hds0
  rw[List.append_nil]at hpd
  rcases hl with rfl | rfl
  ·refine y_ef_of (v:=.sl r 0 n (.ex n)) (H':=H.set r (.cells cs)) (by
    have:splice cs (n*tsz t) []=cs:=by simp[splice]
    simp[aeff,AOpd.ev,aappend,ha,AH.cells?,g3,hcs,this]) (hK r _ cs _ h.set hpd (.inl rfl))
  ·exact y_ef_of (v:=.sl r 0 n (.op (tsz t))) (H':=H) (by simp[aeff,AOpd.ev,aappend,ha,AH.cells?,g3]) (hK r _ cs _ h hpd (.inr rfl))
 ·have hpos:0<m:=by omega
  rcases hl with rfl | rfl
  ·refine y_ef_of (v:=.sl H.next 0 (n+m) (.op (tsz t))) (H':=H.push (.cells (cs++ds))) (by
    simp[aeff,AOpd.ev,aappend,ha,AH.cells?,g3,hcs,htk,hb,h63,h0,hpos]) (hK _ _ _ _ (h.push.sub ?_) hpd (.inr rfl))
   exact(List.Sublist.cons _ (List.Sublist.refl _)).cons_cons _
  ·exact y_ef_of (v:=.sl H.next 0 (n+m) (.op (tsz t))) (H':=(H.erase r).push (.cells (cs++ds))) (by
    simp[aeff,AOpd.ev,aappend,ha,AH.cells?,g3,hcs,htk,hb,h63,h0,hpos]) (hK _ _ _ _ h.erase.push hpd (.inr rfl))
theorem NSt.appIn {k bytes n m:Nat}{q r:Nat}{cs rest c z:List AV}{K:AV→AH→Prop}(h:NSt H0 ((q,[.sl r 0 n (.ex m)])::(r,cs++rest)::L) H) (hcs:cs.length=n*k) (hr:rest.length=(m-n)*k) (hc:c.length=k) (hz:z.length=k) (hk:2≤k) (hn:n<m)
  (hK:∀H',NSt H0 ((q,[.sl r 0 (n+1) (.ex m)])::(r,(cs++c)++rest.drop k)::L) H'→K .unk H') :
  y_ef (.buildSlice k 1 z [(0,k,(.cst (.agg c)))]) H fun v28 h28=>
  y_ef (.append k bytes (.cst (.sl r 0 n (.ex m))) (.cst v28)) h28 fun v29 h29=>
  y_ef (.store 1 (.cst (.ptr q 0)) (.cst v29)) h29 K:=by
 have hd:z.drop k=[]:=List.drop_of_length_le (by omega)
 refine y_ef_of (v:=.sl H.next 0 1 (.ex 1)) (H':=H.push (.cells c)) (by
  simp[aeff,afill,AOpd.ev,AV.cellsOf,hc,hz,hd]) ?_
 have h1:=h.push (o:=c)
 obtain⟨_,gq,_⟩:=h.l _ (.head _)
 obtain⟨_,gr,gc⟩:=h.l _ (.tail _ (.head _))
 have gr:r<H.next:=gr
 have gc:H.get r=some (.cells (cs++rest)):=gc
 have hne:r≠H.next:=by omega
 have htk:c.take k=c:=List.take_of_length_le (by omega)
 have hlr:k≤rest.length:=by
  rw[hr]
  have:1*k≤(m-n)*k:=Nat.mul_le_mul_right _ (by omega)
  omega
 have hlen:(n+1)*k≤(cs++rest).length:=by rw[List.length_append,hcs,Nat.add_mul,Nat.one_mul];omega
 have hsp:splice (cs++rest) (n*k) c=(cs++c)++rest.drop k:=by
  rw[splice_eq (by rw[hc,List.length_append];omega),←hcs,hc,List.take_left,List.append_assoc,List.append_assoc]
  congr 2
  rw[List.drop_append]
  simp
 have hlen':(n+1)*k≤cs.length+rest.length:=by simpa using hlen
 refine y_ef_of (v:=.sl r 0 (n+1) (.ex m)) (H':=(H.push (.cells c)).set r (.cells ((cs++c)++rest.drop k))) (by
  have:n+1≤m:=hn
  simp[aeff,AOpd.ev,aappend,aslcells,AH.cells?,AH.get_push,hc,htk,hne,gc,this,hlen',hsp]) ?_
 have h2:NSt H0 ((r,cs++rest)::(q,[.sl r 0 n (.ex m)])::L) (H.push (.cells c)):=(h1.sub (List.sublist_cons_self _ _)).swap
 have h3:=(h2.set (c':=(cs++c)++rest.drop k)).swap
 exact h3.put (x:=.sl r 0 (n+1) (.ex m)) (vs:=[.sl r 0 (n+1) (.ex m)]) rfl rfl (by simp) fun H' h4=>hK H' h4
end
theorem bs1 {k:Nat}{z c:List AV}{H:AH}(hz:z.length=k) (hc:c.length=k):aeff (.buildSlice k 1 z [(0,k,(.cst (.agg c)))]) emp H=some (.sl H.next 0 1 (.ex 1),H.push (.cells c)):=by
 have hd:z.drop k=[]:=List.drop_of_length_le (by omega)
 simp[aeff,afill,AOpd.ev,AV.cellsOf,hc,hz,hd]
theorem root_rc {l:tLit.D}{n:Int}{c:List AV}(h:RC tLit l c):RC tNode (rootN l n) (.int .i64 1::.int .i64 1::.int .i64 n::.int .i64 0::(c++[.nils,.nils,.nils,.nils])):=by
 have e:∀t:Ty,RC (.list t) (eL t) [.nils]:=fun t=>⟨.nils,[],rfl,.nil,[],rfl,rfl,fun i x y h=>by simp[asL,eL]at h⟩
 exact⟨[_],_,rfl,rfl,[_],_,rfl,rfl,[_],_,rfl,rfl,[_],_,rfl,rfl,c,_,rfl,h,[_],_,rfl,e _,[_],_,rfl,e _,[_],[_],rfl,e _,e _⟩
theorem root_build {c:List AV}{n:Int}{z:List AV}(hz:z=rpl 5 (I 0) (rpl 6 .nils ((I 0)::(rpl 4 .nils (rpl 4 (I 0) ((.bool false)::((I 0)::((.bool false)::(rpl 4 .nils []))))))))) (h:c.length=19) :
  apure (.build z [(0,1,(.cst (I 1))),(1,1,(.cst (I 1))),(2,1,(.cst (.int .i64 n))),(4,19,(.cst (.agg c)))]) emp=some (.agg (.int .i64 1::.int .i64 1::.int .i64 n::.int .i64 0::(c++[.nils,.nils,.nils,.nils]))):=by
 subst hz
 match c,h with
 | [a0,a1,a2,a3,a4,a5,a6,a7,a8,a9,a10,a11,a12,a13,a14,a15,a16,a17,a18],_=>rfl
end Go.AL
namespace Go.Proofs.YtdandeekdbndgaaGreatDoor
open Go Go.AL Go.AL.Co
def shL (k:Int) (l:List tNode.D):tProof.D:=l.map (shN k)
set_option maxHeartbeats 1000000 in
theorem C28m {H:AH}{v0:AV}{a:tProof.D}{k:Int}(hR:RC tProof a [v0]) (hn:(asL (t:=tNode) a).length<274877906944):ACall Tryz.prog 28 [v0,.int .i64 k] H (MPost H (shL k (asL (t:=tNode) a))):=by
 have lr:=lr_of (t:=tNode) hR
 refine TX28 ?_
 unfold GX28
 refine y_ef_of (v:=.sl H.next 0 0 (.ex 0)) (H':=H.push (.cells [])) (by simp[aeff,afill]) ?_
 obtain⟨l,hl⟩:∃l:List tNode.D,l=asL (t:=tNode) a:=⟨_,rfl⟩
 rw[←hl]at lr hn ⊢
 obtain⟨n,hln⟩:∃n,n=l.length:=⟨_,rfl⟩
 rw[←hln]at hn
 let Iv:AV→AV→AV→AV→AH→Prop:=fun x y z w H'=>x=v0∧y=.int .i64 k∧∃(i:Nat) (o:List (Nat × List AV)) (cs:List AV),w=.int .i64 (i:Int)∧i≤n∧NSt H (o++[]) H'∧Lv 27 o i cs z∧Pl tNode ((l.take i).map (shN k)) cs
 let μ:AV→AV→AV→AV→AH→Nat:=fun _ _ _ d _=>match d with
  | .int _ j=>(n-j).toNat
  | _=>0
 refine⟨Iv,μ,⟨rfl,rfl,0,[(H.next,[])],[],rfl,Nat.zero_le _,(NSt.start H).push,.ex _,.nil⟩,?_⟩
 intro e H2 hI
 obtain⟨e1,e2,i,o,cs,e4,hi,s2,hv,hg⟩:=(hI:Iv (e 0) (e 1) (e 5) (e 6) H2)
 have hmu:μ (e 0) (e 1) (e 5) (e 6) H2=((n:Int)-(i:Int)).toNat:=by rw[e4]
 have hcs:cs.length=i*27:=by
  have:=hg.n
  rw[List.length_map,List.length_take]at this
  rw[this]
  show min i l.length*27=_
  rw[Nat.min_eq_left (by omega)]
 show y_pu (.len (.cst (e 0))) _
 rw[e1,e2,e4]
 refine cmp_idx (n:=n) (by rw[hln];exact lr.len) (fun hlt=>?_) (fun hge=>?_)
 ·obtain⟨cs1,c,g1,g2,g3,_,g5⟩:=lr.at_ i (by omega)
  obtain⟨c3,rfl,hc3,hc⟩:=nd_cells g2
  refine y_pu_of g1 (y_rd_of (g5 _) ?_)
  refine s2.alloc fun t H3 s3=>s3.putA g3 rfl fun H4 s4=>?_
  refine sh28 (s4.l _ (.head _)).2.2 fun H5 u5=>?_
  have s5:=u5.nst s4
  refine s5.ldA (.head _) (by simp[hc3]) ?_
  refine(s5.sub (List.sublist_cons_self _ _)).app hv hcs (x:=.agg _) rfl (by simp[hc3]) rfl (by omega) (by omega) fun o' v' H6 s6 hv'=>?_
  refine y_pu_of (i_add i (by omega)) ⟨⟨rfl,rfl,i+1,o',_,rfl,hlt,s6,hv',?_⟩,?_⟩
  ·have ht:(l.take (i+1)).map (shN k)=(l.take i).map (shN k)++[shN k (l[i]'(by omega))]:=by
    rw[show l.take (i+1)=l.take i++[l[i]'(by omega)]by rw[List.take_add_one,List.getElem?_eq_getElem (by omega)];rfl,List.map_append];rfl
   rw[ht]
   exact hg.app (.one (hc _ _ _))
  ·exact Nat.lt_of_lt_of_eq (by omega:((n:Int)-((i+1:Nat):Int)).toNat<((n:Int)-(i:Int)).toNat) hmu.symm
 ·have hie:i=n:=by omega
  subst hie
  rw[hln,List.take_length]at hg
  have hlm:(l.map (shN k)).length=i:=by rw[List.length_map,hln]
  refine⟨s2.k,_,_,rfl,?_,s2.live⟩
  rw[List.append_nil]
  generalize e 5=ve at hv ⊢
  cases hv with
  | nil=>
   have:l.map (shN k)=[]:=List.eq_nil_of_length_eq_zero hlm
   refine⟨[.nils],.low fun k=>.cons .nils .nil,.nils,[],rfl,?_,[],rfl,?_,fun i x y hx=>?_⟩
   ·show Frz _ _ _ (l.map (shN k)).length
    rw[hlm];exact .nil
   ·show 0=(l.map (shN k)).length
    rw[hlm]
   ·have hx:(l.map (shN k))[i]?=some x:=hx
    rw[this]at hx;simp at hx
  | ex q=>
   have:=hg.frz (r:=q) (lim:=.ex 0) (R:=[(q,[])]) (.head _)
   rw[hlm]at this;exact this
  | op h0=>
   rename_i r
   have:=hg.frz (r:=r) (lim:=.op 27) (R:=[(r,cs)]) (.head _)
   rw[hlm]at this;exact this
theorem C28 {H:AH}{v0:AV}{a:tProof.D}{k:Int}(hR:RC tProof a [v0]) (hn:(asL (t:=tNode) a).length<274877906944):ACall Tryz.prog 28 [v0,.int .i64 k] H (CPost H (shL k (asL (t:=tNode) a))):=MPost.scope (C28m hR hn)
theorem shL_len (k:Int) (l:List tNode.D):(asL (t:=tNode) (shL k l)).length=l.length:=by show(l.map (shN k)).length=_;simp
set_option maxHeartbeats 1000000 in
theorem C10 {H:AH}{v1 v2:AV}{cl:List AV}{l:tLit.D}{a b:tProof.D}(hl:RC tLit l cl) (ha:RC tProof a [v1]) (hb:RC tProof b [v2]) (hn:(asL (t:=tNode) a).length+(asL (t:=tNode) b).length<1073741824) :
  ACall Tryz.prog 10 [.agg cl,v1,v2] H (CPost H (joinD l a b)):=MPost.scope (TX10 (by
 unfold GX10
 have la:=(lr_of (t:=tNode) ha).len
 have hcl:cl.length=19:=RC_len tLit _ _ hl
 have na:(asL (t:=tNode) a).length<274877906944:=by omega
 have nb:(asL (t:=tNode) b).length<274877906944:=by omega
 have ea:=shL_len 1 (asL (t:=tNode) a)
 have eb:=shL_len (wr (1+((asL (t:=tNode) a).length:Int))) (asL (t:=tNode) b)
 refine(NSt.start H).box (x:=.agg cl) rfl fun q H1 s1=>?_
 refine y_pu_of la (y_pu_of (add_k _ _) (s1.ldA (.head _) hcl (y_pu_of (root_build rfl hcl) ?_)))
 have hrt:=root_rc (n:=wr (1+((asL (t:=tNode) a).length:Int))) hl
 generalize hrc:(AV.int .i64 1::AV.int .i64 1::AV.int .i64 (wr (1+((asL (t:=tNode) a).length:Int)))::AV.int .i64 0::(cl++[.nils,.nils,.nils,.nils]):List AV)=rc at hrt ⊢
 have hrl:rc.length=27:=RC_len tNode _ _ hrt
 refine y_ef_of (v:=.sl H1.next 0 1 (.ex 1)) (H':=H1.push (.cells rc)) (bs1 rfl hrl) ?_
 have s2:=s1.push (o:=rc)
 refine s2.call (ok:=fun x _=>RC tProof _ [x]) (C28 (k:=1) ha na) fun w H3 s3 hw=>?_
 refine s3.appF (t:=tNode) (Pl.one hrt) rfl (.inl rfl) hw (by rw[ea];omega) (by rw[ea];omega) fun r1 lim1 cs1 H4 s4 p4 hl4=>?_
 refine y_pu_of la (y_pu_of (add_k _ _) ?_)
 refine s4.call (ok:=fun x _=>RC tProof _ [x]) (C28 (k:=wr (1+((asL (t:=tNode) a).length:Int))) hb nb) fun w2 H5 s5 hw2=>?_
 refine s5.appF (t:=tNode) p4 (by simp;omega) hl4 hw2 (by rw[ea,eb];omega) (by rw[ea,eb];omega) fun r2 lim2 cs2 H6 s6 p6 hl6=>?_
 have hf:=p6.frz (lim:=lim2) (R:=[(r2,cs2),(q,cl)]) (.head _)
 refine⟨s6.k,_,_,rfl,?_,s6.live⟩
 have e:(([rootN l (wr (1+((asL (t:=tNode) a).length:Int)))]++asL (t:=tNode) (shL 1 (asL (t:=tNode) a)))++asL (t:=tNode) (shL (wr (1+((asL (t:=tNode) a).length:Int))) (asL (t:=tNode) b))).length=1+(asL (t:=tNode) (shL 1 (asL (t:=tNode) a))).length+(asL (t:=tNode) (shL (wr (1+((asL (t:=tNode) a).length:Int))) (asL (t:=tNode) b))).length:=by
  simp;omega
 rw[e]at hf
 exact hf))
def OSt (H0:AH) (q r m:Nat) (L:List (Nat × List AV)) (l:List tNode.D) (H:AH):Prop:=
 ∃cs rest,NSt H0 ((q,[.sl r 0 l.length (.ex m)])::(r,cs++rest)::L) H∧rest.length=(m-l.length)*27∧Pl tNode l cs
set_option maxHeartbeats 1000000 in
theorem C26 {H0 H:AH}{q r m:Nat}{L:List (Nat × List AV)}{l0:List tNode.D}{v0:AV}{a:tProof.D}{k:Int}(hs:OSt H0 q r m L l0 H) (hR:RC tProof a [v0]) (hm:l0.length+(asL (t:=tNode) a).length≤m) (hn:(asL (t:=tNode) a).length<274877906944) :
  ACall Tryz.prog 26 [v0,.int .i64 k,.ptr q 0] H (fun o H'=>o=.ret (.tup [])∧OSt H0 q r m L (l0++asL (t:=tNode) (shL k (asL (t:=tNode) a))) H'):=by
 have lr:=lr_of (t:=tNode) hR
 refine TX26 ?_
 unfold GX26
 obtain⟨l,hl⟩:∃l:List tNode.D,l=asL (t:=tNode) a:=⟨_,rfl⟩
 rw[←hl]at lr hn hm ⊢
 obtain⟨n,hln⟩:∃n,n=l.length:=⟨_,rfl⟩
 rw[←hln]at hn hm
 have hlen:apure (.len (.cst v0)) emp=some (.int .i64 (n:Int)):=by rw[hln];exact lr.len
 refine y_pu_of hlen ?_
 let Iv:AV→AV→AV→AV→AV→AH→Prop:=fun x y z u w H'=>x=.int .i64 k∧y=.ptr q 0∧z=v0∧u=.int .i64 (n:Int)∧∃i:Nat,w=.int .i64 (i:Int)∧i≤n∧OSt H0 q r m L (l0++(l.take i).map (shN k)) H'
 let μ:AV→AV→AV→AV→AV→AH→Nat:=fun _ _ _ _ d _=>match d with
  | .int _ j=>(n-j).toNat
  | _=>0
 refine⟨Iv,μ,⟨rfl,rfl,rfl,rfl,0,rfl,Nat.zero_le _,by simpa using hs⟩,?_⟩
 intro e H2 hI
 obtain⟨e1,e2,e3,e4,i,e5,hi,cs,rest,s2,hrest,hp⟩:=(hI:Iv (e 1) (e 2) (e 7) (e 8) (e 9) H2)
 have hmu:μ (e 1) (e 2) (e 7) (e 8) (e 9) H2=((n:Int)-(i:Int)).toNat:=by rw[e5]
 have hln':(l0++(l.take i).map (shN k)).length=l0.length+i:=by
  rw[List.length_append,List.length_map,List.length_take,Nat.min_eq_left (by omega)]
 show y_pu (.bin .lss (.cst (e 9)) (.cst (e 8))) _
 rw[e1,e2,e3,e4,e5]
 refine y_pu_of (v:=.bool (decide ((i:Int)<n))) rfl (y_if0_of (fun ht=>?_) (fun ht=>?_))
 ·have hlt:i<n:=by have:=of_decide_eq_true ht;omega
  obtain⟨cs1,c,g1,g2,g3,_,g5⟩:=lr.at_ i (by omega)
  obtain⟨c3,rfl,hc3,hc⟩:=nd_cells g2
  refine y_pu_of g1 (y_rd_of (g5 _) ?_)
  refine s2.alloc fun t H3 s3=>s3.putA g3 rfl fun H4 s4=>?_
  refine sh26 (s4.l _ (.head _)).2.2 fun H5 u5=>?_
  have s5:=u5.nst s4
  refine s5.ld (.tail _ (.head _)) rfl (s5.ldA (.head _) (by simp[hc3]) ?_)
  have s6:=s5.sub (List.sublist_cons_self _ _)
  rw[hln']at s6 hrest ⊢
  have hcs:cs.length=(l0.length+i)*27:=by
   have:=hp.n
   rw[hln']at this;exact this
  refine s6.appIn (k:=27) hcs hrest (by simp[hc3]) rfl (by omega) (by omega) fun H7 s7=>?_
  refine y_pu_of (i_add i (by omega)) ⟨⟨rfl,rfl,rfl,rfl,i+1,rfl,hlt,?_⟩,?_⟩
  ·have ht:l0++(l.take (i+1)).map (shN k)=(l0++(l.take i).map (shN k))++[shN k (l[i]'(by omega))]:=by
    rw[show l.take (i+1)=l.take i++[l[i]'(by omega)]by rw[List.take_add_one,List.getElem?_eq_getElem (by omega)];rfl,List.map_append,List.append_assoc];rfl
   have ht':((l0++(l.take i).map (shN k))++[shN k (l[i]'(by omega))]).length=l0.length+i+1:=by rw[List.length_append,hln'];rfl
   rw[ht]
   refine⟨_,rest.drop 27,by rw[ht'];exact s7,?_,hp.app (.one (hc _ _ _))⟩
   rw[ht',List.length_drop,hrest]
   have:m-(l0.length+i)=(m-(l0.length+i+1))+1:=by omega
   rw[this,Nat.add_mul]
   omega
  ·exact Nat.lt_of_lt_of_eq (by omega:((n:Int)-((i+1:Nat):Int)).toNat<((n:Int)-(i:Int)).toNat) hmu.symm
 ·have hie:i=n:=by have:=of_decide_eq_false ht;omega
  subst hie
  refine⟨rfl,?_⟩
  rw[hln,List.take_length]at s2 hrest hp
  exact⟨cs,rest,s2,hrest,hp⟩
theorem C27 {H:AH}{v0:AV}{d:tProof.D}(hR:RC tProof d [v0]) (hw:tProof.wf d) (hb:(tProof.enc d).length<274877906944):ACall Tryz.prog 27 [v0] H (CPost H d):=by
 refine TX27 ?_
 unfold GX27
 refine y_call_of (P6 (H:=H) hR hw (by show _<1099511627776;omega)) (fun w H1 h1=>?_) (fun w H1 h1=>by obtain⟨_,_,_,h,_⟩:=h1;cases h)
 obtain⟨r,p1,p2,p3,p4,p5⟩:=h1
 cases p3
 have i1:Inp H1 H1.next (tProof.enc d) (.sl r 0 (tProof.enc d).length (.op 1)):=
  Inp.own (H:=H1) (p:=H1.next) (b:=tProof.enc d) (r:=r) (o:=0) (l:=.op 1) p2 p4 (by rw[List.drop_zero];exact List.take_of_length_le (by simp)) (fun m h=>by cases h) (fun es h=>by cases h;rfl)
 have P:=P7 i1 hb
 have hd:tProof.dec (tProof.enc d)=.ok d []:=by
  have:=dec_enc tProof tProof_good d hw []
  rwa [List.append_nil]at this
 rw[hd]at P
 refine y_call_of P (fun w H2 h2=>?_) (fun w H2 h2=>by obtain⟨_,_,h,_⟩:=h2;cases h)
 obtain⟨k2,x,h2,hx⟩:=h2
 cases h2
 refine y_pu_of (v:=x) rfl (y_pu_of (v:=.int .i64 0) rfl ⟨p5.trans k2,x,rfl,RX_rc _ _ _ hx⟩)
set_option maxHeartbeats 1000000 in
theorem C9m {H:AH}{v1 v2:AV}{cl:List AV}{l:tLit.D}{a b:tProof.D}(hl:RC tLit l cl) (ha:RC tProof a [v1]) (hb:RC tProof b [v2]) (hn:(asL (t:=tNode) a).length+(asL (t:=tNode) b).length<268435456)
  (hw:tProof.wf (joinD l a b)) (he:(tProof.enc (joinD l a b)).length<274877906944) :
  ACall Tryz.prog 9 [.agg cl,v1,v2] H (CPost H (joinD l a b)):=by
 refine TX9 ?_
 unfold GX9
 have la:=(lr_of (t:=tNode) ha).len
 have lb:=(lr_of (t:=tNode) hb).len
 have hcl:cl.length=19:=RC_len tLit _ _ hl
 have ea:=shL_len 1 (asL (t:=tNode) a)
 have eb:=shL_len (wr (1+((asL (t:=tNode) a).length:Int))) (asL (t:=tNode) b)
 obtain⟨na,hna⟩:∃n,n=(asL (t:=tNode) a).length:=⟨_,rfl⟩
 obtain⟨nb,hnb⟩:∃n,n=(asL (t:=tNode) b).length:=⟨_,rfl⟩
 have hm:wr (wr (1+(na:Int))+(nb:Int))=((1+na+nb:Nat):Int):=by
  unfold wr
  rw[wrap_lt (n:=1+(na:Int)) (by omega),wrap_lt (by omega)];omega
 refine(NSt.start H).box (x:=.agg cl) rfl fun q0 H1 s1=>?_
 refine y_pu_of la (y_pu_of (add_k _ _) (y_pu_of lb (y_pu_of (add_k _ _) ?_)))
 rw[←hna,←hnb,show wr (wr (Int.ofNat 1+(na:Int))+(nb:Int))=((1+na+nb:Nat):Int)from hm]
 obtain⟨m,hmm⟩:∃m,m=1+na+nb:=⟨_,rfl⟩
 rw[←hmm]
 obtain⟨z,hz⟩:∃z,z=rpl 5 (I 0) (rpl 6 .nils ((I 0)::(rpl 4 .nils (rpl 4 (I 0) ((.bool false)::((I 0)::((.bool false)::(rpl 4 .nils [])))))))):=⟨_,rfl⟩
 have hzl:z.length=27:=by rw[hz];rfl
 rw[←hz]
 refine y_ef_of (v:=.sl H1.next 0 0 (.ex m)) (H':=H1.push (.cells (repl m z))) (by
  have h1:(m:Int)≤9223372036854775807:=by omega
  have h2:(440:Int)*(m:Int)≤281474976710656:=by omega
  simp[aeff,AOpd.ev,I,h1,h2]) ?_
 have s2:=s1.push (o:=repl m z)
 refine s2.alloc fun q H2 s3=>s3.put (x:=.sl H1.next 0 0 (.ex m)) (vs:=[.sl H1.next 0 0 (.ex m)]) rfl rfl (by simp) fun H3 s4=>?_
 have s4:NSt H ((q,[.sl H1.next 0 0 (.ex m)])::(H1.next,repl m z)::[(q0,cl)]) H3:=s4
 refine s4.ld (.head _) rfl (y_pu_of la (y_pu_of (add_k _ _) (s4.ldA (.tail _ (.tail _ (.head _))) hcl ?_)))
 refine y_pu_of (root_build hz hcl) ?_
 have hrt:=root_rc (n:=wr (1+((asL (t:=tNode) a).length:Int))) hl
 generalize hrc:(AV.int .i64 1::AV.int .i64 1::AV.int .i64 (wr (1+((asL (t:=tNode) a).length:Int)))::AV.int .i64 0::(cl++[.nils,.nils,.nils,.nils]):List AV)=rc at hrt ⊢
 have hrl:rc.length=27:=RC_len tNode _ _ hrt
 refine NSt.appIn (cs:=[]) (rest:=repl m z) (n:=0) (m:=m) (k:=27) s4 rfl (by rw[repl_length,hzl];simp) hrl hzl (by omega) (by omega) fun H4 s5=>?_
 have o5:OSt H q H1.next m [(q0,cl)] [rootN l (wr (1+((asL (t:=tNode) a).length:Int)))] H4:=⟨rc,(repl m z).drop 27,s5,by
  rw[List.length_drop,repl_length,hzl]
  show _=(m-1)*27
  omega,.one hrt⟩
 refine y_call_of (C26 (k:=1) o5 ha (by show 1+_≤_;omega) (by omega)) (fun w H5 h5=>?_) (fun w H5 h5=>by cases h5.1)
 obtain⟨_,o6⟩:=h5
 refine y_pu_of la (y_pu_of (add_k _ _) ?_)
 refine y_call_of (C26 (k:=wr (1+((asL (t:=tNode) a).length:Int))) o6 hb (by rw[List.length_append,ea];show 1+_+_≤_;omega) (by omega)) (fun w H6 h6=>?_) (fun w H6 h6=>by cases h6.1)
 obtain⟨_,cs,rest,s7,_,p7⟩:=h6
 refine s7.ld (.head _) rfl ?_
 obtain⟨J,hJ⟩:∃J:List tNode.D,J=([rootN l (wr (1+((asL (t:=tNode) a).length:Int)))]++asL (t:=tNode) (shL 1 (asL (t:=tNode) a)))++asL (t:=tNode) (shL (wr (1+((asL (t:=tNode) a).length:Int))) (asL (t:=tNode) b)):=⟨_,rfl⟩
 have hJd:(joinD l a b:List tNode.D)=J:=hJ.symm
 rw[←hJ]at s7 p7 ⊢
 have hrcJ:RC tProof (joinD l a b) [.sim cs J.length false]:=by rw[show joinD l a b=(show tProof.D from J)from hJd];exact p7.rc false
 obtain⟨g1,g2,g3⟩:=s7.l _ (.tail _ (.head _))
 have g3:H6.get H1.next=some (.cells (cs++rest)):=g3
 have hnq:H.next≤H1.next:=s1.k.nx
 have hcall:ACall Tryz.prog 27 [.sl H1.next 0 J.length (.ex m)] H6 (CPost (H6.erase H1.next) (joinD l a b)):=by
  refine ACall.frz (R:=fun x=>x=H1.next) (H':=H6.erase H1.next) (C27 (H:=H6.erase H1.next) hrcJ hw he) (.cons ?_ .nil) rfl rfl fun r o hr=>?_
  ·refine .sl (l:=cs++rest) (m:=cs.length) rfl (by simp[AH.cells?,g3]) (by simp) ?_ (fun h=>by rw[p7.n,h,Nat.zero_mul]) (fun h=>by cases h)
   rw[List.drop_zero,List.take_left]
   exact FrzVs.same _
  ·rw[AH.get_erase]at hr
   split at hr
   ·cases hr
   ·rename_i hne;exact⟨hne,hr⟩
 refine y_call_of hcall (fun w H7 h7=>?_) (fun w H7 h7=>by obtain⟨_,_,h,_⟩:=h7;cases h)
 obtain⟨k7,x,h7,hx⟩:=h7
 cases h7
 refine⟨⟨?_,fun y hy=>?_,?_⟩,_,rfl,hx⟩
 ·exact Nat.le_trans s7.k.nx k7.nx
 ·have h8:=s7.k.nx
  rw[k7.get y (by show y<H6.next;omega),AH.get_erase,if_neg (by omega)]
  exact s7.k.get y hy
 ·exact k7.gl.trans s7.k.gl
end Go.Proofs.YtdandeekdbndgaaGreatDoor
namespace Go.AL
open Co
section
variable {P:Program}
theorem ACall.frame {g:FuncId}{b:Bool}{H0 H:AH}(h:ACall P g [] H0 fun o H'=>o=.ret (.bool b)∧H'=H0) (h0:∀r,H0.get r=none) (hg:H.gl=H0.gl):ACall P g [] H fun o H'=>o=.ret (.bool b)∧H'=H:=by
 refine⟨h.1,fun Z σ w vs hW hv=>?_⟩
 have hF:=hW.freezeR (R:=fun _=>True) (H':=⟨fun _=>none,H.next,H.gl⟩) rfl (fun r o hr=>by cases hr)
 have hW0:WR (frZ Z σ H (fun _=>True) w) (fun _=>none) H0 w:=
  ⟨hF.z,fun r o p hr=>(by rw[h0]at hr;cases hr),fun r r' o o' p p' hr=>(by rw[h0]at hr;cases hr),fun _ _=>rfl,fun r _=>h0 r,by rw[←hg];exact hF.rest⟩
 have hv0:VRs (frZ Z σ H (fun _=>True) w) (fun _=>none) [] vs:=by cases hv;exact .nil
 refine(h.2 _ _ w vs hW0 hv0).mono fun x w' hx=>?_
 obtain⟨Z1,σ1,H1,out,g1,g2,g3,g4,g5,rfl,rfl⟩:=hx
 classical
 obtain⟨Z2,hZ2⟩:∃Z2:Zt,Z2={ Z1 with blk:=fun c=>if (∃r o p,H.get r=some o∧σ r=some p∧p.b=c)then none else Z1.blk c }:=⟨_,rfl⟩
 have hz:∀c o,Z2 c=some o→Z1 c=some o:=fun c o hc=>by
  rw[hZ2]at hc
  simp only at hc
  split at hc
  ·cases hc
  ·exact hc
 have hle:Zle Z Z2:=by
  have hl:=(frZ_le (R:=fun _=>True) hW).trans g1
  refine⟨fun c o hc=>?_,by rw[hZ2];exact hl.os,by rw[hZ2];exact hl.out,by rw[hZ2];exact hl.frz,by rw[hZ2];exact hl.sz⟩
  have:=hl.le c o hc
  rw[hZ2]
  simp only
  rw[if_neg]
  ·exact this
  ·rintro⟨r,o',p,q1,q2,rfl⟩
   rw[(hW.h r o' p q1 q2).1]at hc;cases hc
 refine⟨Z2,σ,H,.ret (.bool b),hle,Nw.refl _ _,Nat.le_refl _,⟨fun c o hc=>g4.z c o (hz c o hc),fun r o p q1 q2=>⟨?_,?_⟩,hW.inj,hW.fresh,hW.top,?_⟩,?_,rfl,rfl⟩
 ·rw[hZ2]
  simp only
  rw[if_pos ⟨r,o,p,q1,q2,rfl⟩]
 ·obtain⟨_,hO⟩:=hW.h r o p q1 q2
  have hlt:=hO.lt
  have e1:w.heap[p.b]?=some (w.heap[p.b]'hlt):=Array.getElem?_eq_getElem hlt
  have e2:frZ Z σ H (fun _=>True) w p.b=w.heap[p.b]?:=frZ_at (R:=fun _=>True) trivial q1 q2
  have e3:=g4.z _ _ (g1.le _ _ (e2.trans e1))
  exact hO.mono hle (Sle.refl _) (by rw[e3,e1])
 ·have hr:=g4.rest
  have hr0:=hW.rest
  exact⟨by rw[hr.1,hZ2],by rw[hr.2.1,hZ2],fun c o hc=>hle.le _ _ (hr0.2.2 c o hc)⟩
 ·obtain⟨cv,q1,q2⟩:=g5
  cases q2
  exact⟨_,q1,.bool b⟩
theorem G3_t {h:AH}{J:PG}{A:PG→Prop}(hA:A J):y_G3 true (.bool true) h J A:=⟨fun _=>hA,fun h=>absurd rfl h⟩
theorem NSt.ldE {H0 H:AH}{L:List (Nat × List AV)}{q k:Nat}{c:List AV}(h:NSt H0 L H) (hm:(q,c)∈L) (hc:c.length=k):aread (.load (some k) (.cst (.ptr q 0))) emp H=some (.agg c):=by
 obtain⟨_,_,h3⟩:=h.l _ hm
 simp[aread,aload,AOpd.ev,AH.cells?,h3,apart,hc];exact List.take_of_length_le (by omega)
theorem Frz.inp {v:AV}{b:List UInt8}(h:Frz 1 v (b.map bv) b.length) (H:AH) (p:Nat):Inp H p b v:=by
 cases b with
 | nil=>cases h with
  | nil=>exact .nils
  | sim _=>exact .sim [] _
 | cons x b=>cases h with
  | sim _=>exact .sim _ _
theorem dec_out (b:List UInt8):∃(d:tProof.D) (e:Int),tProof.wf d∧(asL (t:=tNode) d).length≤b.length+10∧(tProof.enc d).length≤b.length+10∧∀H o H',DPostC H (tProof.dec b) o H'→KeepN H H'∧∃x,o=.ret (.tup [x,.int .i64 e])∧RC tProof d [x]:=by
 have e0:RC tProof (eL tNode) [.nils]:=⟨.nils,[],rfl,.nil,[],rfl,rfl,fun i x y h=>by simp[asL,eL]at h⟩
 have l0:=eL_len tNode
 have n0:(asL (t:=tNode) (eL tNode)).length≤b.length+10:=Nat.zero_le _
 cases hd:tProof.dec b with
 | err e=>exact⟨eL tNode,erno e,eL_wf tNode,n0,by show((Ty.list tNode).enc (eL tNode)).length≤_;omega,fun H o H' h=>⟨h.1,_,h.2,e0⟩⟩
 | ok d r=>
  cases r with
  | nil=>
   obtain⟨g1,g2⟩:=dec_canon tProof b d [] hd
   have hl:=proof_len g2
   have g1:(tProof.enc d).length=b.length:=by rw[g1,List.append_nil]
   exact⟨d,0,g2,by omega,by omega,fun H o H' h=>by
    obtain⟨k,x,h1,h2⟩:=h
    exact⟨k,x,h1,h2⟩⟩
  | cons y r=>exact⟨eL tNode,4,eL_wf tNode,n0,by show((Ty.list tNode).enc (eL tNode)).length≤_;omega,fun H o H' h=>⟨h.1,_,h.2,e0⟩⟩
end
end Go.AL
namespace Go.Proofs.YtdandeekdbndgaaGreatDoor
open Go Go.AL Go.AL.Co
open Go.Proofs.YtdandeekdbndgaaGreatDoor.San (HP0 orc308)
variable [GLC]
 omit [GLC] in
theorem dpc {H H':AH}{res:Rs tProof.D}{o:AOut}(h:DPost H res o H'):DPostC H res o H':=by
  obtain⟨k,h⟩:=h
  refine⟨k,?_⟩
  cases res with
  | err e=>exact h
  | ok d r=>cases r with
   | nil=>obtain⟨x,h1,h2⟩:=h;exact⟨x,h1,RX_rc _ _ _ h2⟩
   | cons _ _=>exact h
set_option maxHeartbeats 2000000 in
theorem P3 (hS:CallsOk Tryz.prog orc308) {v0 v1:AV}{cl:List AV}{a:tProof.D}{l:tLit.D}{b:List UInt8}(hv:Frz 1 v0 (b.map bv) b.length) (hb:b.length<67108864) (ha:QV tProof a v1) (hwa:tProof.wf a) (hea:(tProof.enc a).length<67108864)
  (hl:RC tLit l cl) (hwl:tLit.wf l) (hel:(tLit.enc l).length<67108864) :
  ACall Tryz.prog 3 [v0,v1,.agg cl] (toAH HP0) (fun o _=>o=.ret (.bool true)):=by
 have ha':RC tProof a [v1]:=ha
 have hcl:cl.length=19:=RC_len tLit _ _ hl
 obtain⟨d,e,hwd,hnd,hed,hdec⟩:=dec_out b
 have hna:=proof_len hwa
 have hsum:(asL (t:=tNode) a).length+(asL (t:=tNode) d).length<268435456:=by omega
 have hje:=joinD_enc (l:=l) hwa hwd (by omega)
 refine TX3 ?_
 unfold GX3
 have hnx:HP0.nx=0:=by kernel_rfl
 have hnone:∀r,(toAH HP0).get r=none:=fun r=>by rw[toAH_get,hnx,if_neg (by omega)]
 refine(NSt.start (toAH HP0)).box (x:=.agg cl) rfl fun q H1 s1=>?_
 have s1:NSt (toAH HP0) [(q,cl)] H1:=s1
 have hP4:ACall Tryz.prog 4 [] (toAH HP0) fun o H'=>o=.ret (.bool true)∧H'=toAH HP0:=P4 hS
 refine y_call_of (hP4.frame hnone s1.k.gl) (fun w H2 h2=>?_) (fun w H2 h2=>by cases h2.1)
 obtain⟨h2,rfl⟩:=h2
 cases h2
 refine y_pu_of (hv.inp H2 H2.next).len (gtr_ex fun g=>?_)
 cases g with
 | true=>exact grp_s (y_pu_of (v:=.bool true) rfl (if_t rfl))
 | false=>
 refine grp_f ?_
 refine s1.call (ok:=fun x _=>∃t,x=.bool t) ((P5 ha hwa).mono fun o H' h=>⟨h.2,by obtain⟨⟨t,ht⟩,_⟩:=h;exact⟨.bool t,ht,t,rfl⟩⟩) fun w H3 s3 hw=>?_
 obtain⟨t,rfl⟩:=hw
 cases t with
 | false=>exact y_pu_of (v:=.bool true) rfl (y_pu_of (v:=.bool true) rfl (if_t rfl))
 | true=>
 refine un_not (y_pu_of (v:=.bool false) rfl (if_f ?_))
 refine s3.call (ok:=fun x _=>∃y,x=.tup [y,.int .i64 e]∧RC tProof d [y]) ((P7 (hv.inp H3 H3.next) (by omega)).mono fun o H' h=>by
  obtain⟨k,x,h1,h2⟩:=hdec _ _ _ (dpc h)
  exact⟨k,_,h1,x,rfl,h2⟩) fun w H4 s4 hw=>?_
 obtain⟨x,rfl,hx⟩:=hw
 refine y_pu_of (v:=x) rfl (y_pu_of (v:=.int .i64 e) rfl ?_)
 refine s4.call (ok:=fun x _=>∃y,x=.tup [y,.int .i64 e]∧RC tProof d [y]) ((X7 (hv.inp H4 H4.next) (by omega)).mono fun o H' h=>by
  obtain⟨k,x,h1,h2⟩:=hdec _ _ _ h
  exact⟨k,_,h1,x,rfl,h2⟩) fun w H5 s5 hw=>?_
 obtain⟨y,rfl,hy⟩:=hw
 refine y_pu_of (v:=y) rfl (y_pu_of (v:=.int .i64 e) rfl (y_pu_of (eql_self _) ?_))
 refine G3_t (G3_t (G3_t ?_))
 refine s5.call (ok:=fun x _=>x=.bool true) ((S8 (d:=d) hx hy hwd).mono fun o H' h=>⟨h.2,_,h.1,rfl⟩) fun w H6 s6 hw=>⟨trivial,?_⟩
 subst hw
 refine y_pu_of (v:=.bool true) rfl (G3_t (s6.ldA (.head _) hcl (G3_t (G3_t (G3_t (s6.ldA (.head _) hcl (G3_t (G3_t (G3_t ?_)))))))))
 refine s6.call (ok:=fun x _=>RC tProof (joinD l a d) [x]) (C9m hl ha' hx hsum (joinD_wf hwl hwa hwd (by omega)) (by omega)) fun w H7 s7 hw=>⟨⟨s7.ldE (.head _) hcl,trivial⟩,G3_t ?_⟩
 refine s7.call (ok:=fun x _=>RC tProof (joinD l a d) [x]) (C10 hl ha' hy (by omega)) fun w2 H8 s8 hw2=>⟨trivial,G3_t ?_⟩
 refine s8.call (ok:=fun x _=>x=.bool true) ((S8 (d:=joinD l a d) hw hw2 (joinD_wf hwl hwa hwd (by omega))).mono fun o H' h=>⟨h.2,_,h.1,rfl⟩) fun w3 H9 s9 hw3=>⟨trivial,?_⟩
 subst hw3
 exact y_pu_of (v:=.bool true) rfl (G3_t (y_pu_of (v:=.bool true) rfl rfl))
end Go.Proofs.YtdandeekdbndgaaGreatDoor
