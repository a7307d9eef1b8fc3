import Derived.Test.YtdcdbabponelcaaGreatDoorZb03
/-
  walks over printed propositions: steps, objects of ones own, freezing.
-/
set_option linter.unusedSectionVars false
set_option linter.unusedVariables false
set_option linter.unusedSimpArgs false
namespace Go.AL
abbrev OL:=List (Nat × List AV)
theorem nb {n m:Nat}(h:Nat.ble n m=true):n≤m:=Nat.le_of_ble_eq_true h
variable [BY] {P:Program}
def bv (x:UInt8):AV:=.int .u8 (x.toNat:Int)
theorem AA {k:AK}{K:AV→Prop}{v:AV}(h:Ap k emp=some v) (hK:K v):AB k K:=by unfold AB;rw[h];exact hK
theorem Cx {k:AK}{H:AH}{K:AV→Prop}{v:AV}(h:Ba k emp H=some v) (hK:K v):AP k H K:=by unfold AP;rw[h];exact hK
theorem CD {k:AK}{H H':AH}{K:AV→AH→Prop}{v:AV}(h:CS k emp H=some (v,H')) (hK:K v H'):AW k H K:=by unfold AW;rw[h];exact hK
theorem KZ {k:AK}{H:AH}{K:AV→AH→Prop}{c:List AV}{f:Nat→AV}(h:D0 k emp=some (c,f)) (hK:K (f H.next) (H.push (.cells c))):Ej k H K:=by unfold Ej;rw[h];exact hK
theorem IK {t:Bool}{A B:Prop}(ha:t=true→A) (hb:t=false→B):Ag (.bool t) A B:=⟨ha,hb⟩
theorem M9 {T:Type}{t:Bool}{J:T}{A B:T→Prop}(ha:t=true→A J) (hb:t=false→B J):Dk (.bool t) J A B:=⟨ha,hb⟩
theorem Df {g:FuncId}{ar:List AV}{H:AH}{post:Cc→AH→Prop}{Kp K:AV→AH→Prop}(hC:An P g ar H post) (hK:∀v H',post (.ret v) H'→K v H') (hP:∀v H',post (.pan v) H'→Kp v H'):AX P g ar H Kp K:=
 hC.mono fun o H' h=>by cases o with
  | ret v=>exact hK v H' h
  | pan v=>exact hP v H' h
theorem VT {fv:AV}{ar:List AV}{H:AH}{post:Cc→AH→Prop}{Kp K:AV→AH→Prop}(hC:EV P fv ar H post) (hK:∀v H',post (.ret v) H'→K v H') (hP:∀v H',post (.pan v) H'→Kp v H'):GN P fv ar H Kp K:=by
 unfold EV at hC
 split at hC
 ·rename_i g first cap
  show AX P g (NZ first (NZ ar cap)) H Kp K
  rw[HL,HL,←List.append_assoc]
  exact Df hC hK hP
 ·exact YC.mono hC fun o H' h=>by cases o with
   | ret v=>exact hK v H' h
   | pan v=>exact hP v H' h
 ·exact hC.elim
theorem FX {T:Type}{t w:Bool}{J:T}{A B:T→Prop}(ha:t=w→A J) (hb:t≠w→B J):Am w (.bool t) J A B:=by
 unfold Am N0
 simp only[I7]
 exact⟨fun h=>ha (by simpa using h),fun h=>hb (by simpa using h)⟩
structure D6 (H H':AH):Prop where
 nx:H.next≤H'.next
 get:∀q,q<H.next→H'.get q=H.get q
 gl:H'.gl=H.gl
theorem D6.push (H:AH) (o:DE):D6 H (H.push o):=⟨by simp,fun q hq=>AH.BN _ _ (by omega),rfl⟩
theorem D6.trans {H H1 H2:AH}(h1:D6 H H1) (h2:D6 H1 H2):D6 H H2:=⟨Nat.le_trans h1.nx h2.nx,fun q hq=>by have:=h1.nx;rw[h2.get q (by omega),h1.get q hq],h2.gl.trans h1.gl⟩
theorem D6.refl (H:AH):D6 H H:=⟨Nat.le_refl _,fun _ _=>rfl,rfl⟩
inductive rN (z:Nat):AV→List AV→Nat→Prop
 | nil:rN z .nils [] 0
 | sim {c:List AV} {n:Nat} {ex:Bool} (h:c.length=n*z):rN z (.sim c n ex) c n
theorem Ld {z:Nat}:∀(css:List (List AV)) (i:Nat) (y:List AV),(∀x∈css,x.length=z)→css[i]?=some y→(css.flatten.drop (i*z)).take z=y
 | [],i,y,_,h=>by simp at h
 | x::css,0,y,hz,h=>by
  have hx:x.length=z:=hz x (.head _)
  have e:x=y:=by simpa using h
  subst e
  simp only[List.flatten_cons,Nat.zero_mul,List.drop_zero]
  rw[List.take_append_of_le_length (by omega),List.take_of_length_le (by omega)]
 | x::css,i+1,y,hz,h=>by
  have hx:x.length=z:=hz x (.head _)
  have h':css[i]?=some y:=by simpa using h
  have:=Ld css i y (fun w hw=>hz w (.tail _ hw)) h'
  rw[←this]
  have e:(i+1)*z=x.length+i*z:=by rw[Nat.add_mul,Nat.one_mul,hx];omega
  simp only[List.flatten_cons]
  rw[e,←List.drop_drop,List.drop_left]
theorem Et {z:Nat}:∀(css:List (List AV)),(∀x∈css,x.length=z)→css.flatten.length=css.length*z
 | [],_=>by simp
 | x::css,hz=>by
  rw[List.flatten_cons,List.length_append,Et css fun w hw=>hz w (.tail _ hw),hz x (.head _),List.length_cons,Nat.add_mul];omega
inductive Lv (k:Nat):OL→Nat→List AV→AV→Prop
 | nil:Lv k [] 0 [] .nils
 | ex (q:Nat):Lv k [(q,[])] 0 [] (.sl q 0 0 (.ex 0))
 | op {r n:Nat} {cs:List AV} (hn:0<n):Lv k [(r,cs)] n cs (.sl r 0 n (.op k))
 | exn {r n:Nat} {cs:List AV} (hn:0<n):Lv k [(r,cs)] n cs (.sl r 0 n (.ex n))
theorem Lv.cell {k n:Nat}{o:OL}{cs:List AV}{v:AV}(h:Lv k o n cs v):v.cellsOf=some [v]:=by cases h<;>rfl
def FZ (R:OL) (v y:AV):Prop:=∀(H:AH) (k:Nat),(∀x∈R,k≤x.1∧H.get x.1=some (.cells x.2))→Fx H k v y
def Nv (R:OL) (c d:List AV):Prop:=∀(H:AH) (k:Nat),(∀x∈R,k≤x.1∧H.get x.1=some (.cells x.2))→Cd H k c d
theorem Nv.mono {R R':OL}{c d:List AV}(h:Nv R c d) (hs:R ⊆ R'):Nv R' c d:=fun H k hR=>h H k fun x hx=>hR x (hs hx)
theorem Nv.nil {R:OL}:Nv R [] []:=fun _ _ _=>.nil
theorem Nv.cons {R:OL}{x y:AV}{c d:List AV}(h:FZ R x y) (t:Nv R c d):Nv R (x::c) (y::d):=fun H k hR=>.cons (h H k hR) (t H k hR)
theorem Cd.app {H:AH}{k:Nat}:∀{a a' b b':List AV},Cd H k a a'→Cd H k b b'→Cd H k (a++b) (a'++b')
 | _,_,_,_,.nil,h=>h
 | _,_,_,_,.cons h t,h2=>.cons h (t.app h2)
theorem Nv.app {R:OL}{a a' b b':List AV}(h:Nv R a a') (h2:Nv R b b'):Nv R (a++b) (a'++b'):=fun H k hR=>(h H k hR).app (h2 H k hR)
theorem Nv.low {R:OL}{c:List AV}(h:∀k,DZ k c):Nv R c c:=fun _ k _=>.low (h k)
theorem FZ.agg {R:OL}{c d:List AV}(h:Nv R c d):FZ R (.agg c) (.agg d):=fun H k hR=>.agg (h H k hR)
structure BE (H0:AH) (L:OL) (H:AH):Prop where
 k:D6 H0 H
 l:∀x∈L,H0.next≤x.1∧x.1<H.next∧H.get x.1=some (.cells x.2)
 nd:(L.map (·.1)).Nodup
section
variable {H0 H:AH}{L:OL}
theorem BE.start (H:AH):BE H [] H:=⟨D6.refl _,fun x hx=>(by cases hx),List.nodup_nil⟩
theorem BE.push {o:List AV}(h:BE H0 L H):BE H0 ((H.next,o)::L) (H.push (.cells o)):=by
 have hn:=h.k.nx
 have hold:∀q,q<H.next→(H.push (.cells o)).get q=H.get q:=fun q hq=>AH.BN _ _ (by omega)
 refine⟨h.k.trans (D6.push _ _),fun x hx=>?_,?_⟩
 ·cases hx with
  | head=>exact⟨hn,by simp,by simp⟩
  | tail _ hx=>
   obtain⟨h1,h2,h3⟩:=h.l x hx
   exact⟨h1,by simp;omega,by rw[hold _ h2];exact h3⟩
 ·rw[List.map_cons,List.nodup_cons]
  refine⟨fun hm=>?_,h.nd⟩
  obtain⟨x,hx,he⟩:=List.mem_map.1 hm
  have:=(h.l x hx).2.1
  omega
theorem BE.alloc {z:List AV}{K:AV→AH→Prop}(h:BE H0 L H) (hK:∀q H',BE H0 ((q,z)::L) H'→K (.ptr q 0) H'):AW (.alloc z) H K:=
 CD (v:=.ptr H.next 0) (H':=H.push (.cells z)) rfl (hK _ _ h.push)
theorem BE.box {x:AV}{c:List AV}{K:AV→AH→Prop}(h:BE H0 L H) (hx:x.cellsOf=some c) (hK:∀q H',BE H0 ((q,c)::L) H'→K (.ptr q 0) H'):AW (.box (.cst x)) H K:=
 CD (v:=.ptr H.next 0) (H':=H.push (.cells c)) (by simp[CS,Ak.ev,hx]) (hK _ _ h.push)
theorem BE.sub {L':OL}(h:BE H0 L H) (hs:L'.Sublist L):BE H0 L' H:=⟨h.k,fun x hx=>h.l x (hs.subset hx),h.nd.sublist (hs.map _)⟩
theorem BE.perm {L':OL}(h:BE H0 L H) (hs:L'.Perm L):BE H0 L' H:=⟨h.k,fun x hx=>h.l x (hs.subset hx),(hs.map _).nodup_iff.2 h.nd⟩
theorem BE.swap {x y:Nat × List AV}(h:BE H0 (x::y::L) H):BE H0 (y::x::L) H:=h.perm (.swap _ _ _)
theorem BE.set {q:Nat}{c c':List AV}(h:BE H0 ((q,c)::L) H):BE H0 ((q,c')::L) (H.set q (.cells c')):=by
 obtain⟨h1,h2,h3⟩:=h.l _ (.head _)
 have hold:∀r,r≠q→(H.set q (.cells c')).get r=H.get r:=fun r hr=>by simp[AH.CZ,hr]
 have hnd:=h.nd
 rw[List.map_cons,List.nodup_cons]at hnd
 refine⟨⟨by simpa using h.k.nx,fun r hr=>by rw[hold r (by simp only at h1;omega)];exact h.k.get r hr,h.k.gl⟩,fun w hw=>?_,by rw[List.map_cons,List.nodup_cons];exact hnd⟩
 cases hw with
 | head=>exact⟨h1,by simpa using h2,by simp[AH.CZ]⟩
 | tail _ hw=>
  obtain⟨g1,g2,g3⟩:=h.l w (.tail _ hw)
  exact⟨g1,by simpa using g2,by rw[hold _ fun e=>hnd.1 (List.mem_map.2 ⟨w,hw,e⟩)];exact g3⟩
theorem BE.erase {q:Nat}{c:List AV}(h:BE H0 ((q,c)::L) H):BE H0 L (H.erase q):=by
 obtain⟨h1,h2,h3⟩:=h.l _ (.head _)
 have hnd:=h.nd
 rw[List.map_cons,List.nodup_cons]at hnd
 have hold:∀r,r≠q→(H.erase q).get r=H.get r:=fun r hr=>by simp[AH.get_erase,hr]
 refine⟨⟨h.k.nx,fun r hr=>by rw[hold r (by simp only at h1;omega)];exact h.k.get r hr,h.k.gl⟩,fun w hw=>?_,hnd.2⟩
 obtain⟨g1,g2,g3⟩:=h.l w (.tail _ hw)
 exact⟨g1,g2,by rw[hold _ fun e=>hnd.1 (List.mem_map.2 ⟨w,hw,e⟩)];exact g3⟩
theorem BE.put {q o n:Nat}{c vs:List AV}{x:AV}{K:AV→AH→Prop}(h:BE H0 ((q,c)::L) H) (hx:x.cellsOf=some vs) (hv:vs.length=n) (hz:o+n≤c.length)
  (hK:∀H',BE H0 ((q,Bj c o vs)::L) H'→K .unk H'):AW (.store n (.cst (.ptr q o)) (.cst x)) H K:=by
 obtain⟨h1,h2,h3⟩:=h.l _ (.head _)
 exact CD (v:=.unk) (H':=H.set q (.cells (Bj c o vs))) (by
  simp only[CS,Ak.ev,AH.cells?,h3,hx]
  rw[if_pos ⟨hv,hz⟩]) (hK _ h.set)
theorem BE.Cr {q n:Nat}{c vs:List AV}{K:AV→AH→Prop}(h:BE H0 ((q,c)::L) H) (hv:vs.length=n) (hz:c.length=n)
  (hK:∀H',BE H0 ((q,vs)::L) H'→K .unk H'):AW (.store n (.cst (.ptr q 0)) (.cst (.agg vs))) H K:=
 h.put (vs:=vs) rfl hv (by omega) fun H' h'=>hK H' (by
  rw[show Bj c 0 vs=vs by rw[CQ (by omega)];simp[List.drop_of_length_le (by omega:c.length≤vs.length)]]at h';exact h')
theorem BE.DN {q k:Nat}{c:List AV}{K:AV→Prop}(h:BE H0 L H) (hm:(q,c)∈L) (hc:c.length=k) (hK:K (.agg c)):AP (.load (some k) (.cst (.ptr q 0))) H K:=by
 obtain⟨_,_,h3⟩:=h.l _ hm
 exact Cx (v:=.agg c) (by simp[Ba,Cm,Ak.ev,AH.cells?,h3,apart,hc];exact List.take_of_length_le (by omega)) hK
theorem BE.ld {q o:Nat}{c:List AV}{x:AV}{K:AV→Prop}(h:BE H0 L H) (hm:(q,c)∈L) (hx:c[o]?=some x) (hK:K x):AP (.load none (.cst (.ptr q o))) H K:=by
 obtain⟨_,_,h3⟩:=h.l _ hm
 exact Cx (v:=x) (by simpa[Ba,Cm,Ak.ev,AH.cells?,h3,apart]using hx) hK
theorem BE.app {k n bytes:Nat}{o:OL}{cs c z:List AV}{v x:AV}{K:AV→AH→Prop}(h:BE H0 (o++L) H) (hv:Lv k o n cs v) (hcs:cs.length=n*k) (hx:x.cellsOf=some c) (hc:c.length=k) (hz:z.length=k) (hn:n<274877906944) (hby:bytes≤500)
  (hK:∀o' v' H',BE H0 (o'++L) H'→Lv k o' (n+1) (cs++c) v'→K v' H'):AW (.buildSlice k 1 z [(0,k,(.cst x))]) H fun v17 h17=>AW (.append k bytes (.cst v) (.cst v17)) h17 K:=by
 have hd:z.drop k=[]:=List.drop_of_length_le (by omega)
 refine CD (v:=.sl H.next 0 1 (.ex 1)) (H':=H.push (.cells c)) (by
  simp[CS,B2,Ak.ev,hx,hc,hz,hd]) ?_
 have hb:(n+1)*bytes≤140737488355328:=by
  have:(n+1)*bytes≤274877906944*500:=Nat.mul_le_mul (by omega) hby
  omega
 have htk:c.take k=c:=List.take_of_length_le (by omega)
 have h1:=h.push (o:=c)
 cases hv with
 | nil=>
  have hb':bytes≤140737488355328:=by omega
  refine CD (v:=.sl (H.next+1) 0 1 (.op k)) (H':=(H.push (.cells c)).push (.cells c)) (by
   simp[CS,Ak.ev,Cq,BM,AH.cells?,AH.EJ,hc,htk,hb']) ?_
  refine hK [(H.next+1,c)] _ _ ?_ (.op (Nat.succ_pos _))
  exact(h1.push (o:=c)).sub (by
   show List.Sublist ((H.next+1,c)::L) ((H.next+1,c)::(H.next,c)::L)
   exact(List.Sublist.cons _ (List.Sublist.refl _)).cons_cons _)
 | ex q=>
  obtain⟨g1,g2,g3⟩:=h.l (q,[]) (.head _)
  have e1:q≠H.next:=by simp only at g2;omega
  have hb':bytes≤140737488355328:=by omega
  refine CD (v:=.sl (H.next+1) 0 1 (.op k)) (H':=(H.push (.cells c)).push (.cells c)) (by
   have g3:H.get q=some (.cells []):=g3
   simp[CS,Ak.ev,Cq,BM,AH.cells?,AH.EJ,hc,htk,hb',e1,g3]) ?_
  refine hK [(H.next+1,c)] _ _ ?_ (.op (Nat.succ_pos _))
  exact(h1.push (o:=c)).sub (by
   show List.Sublist ((H.next+1,c)::L) ((H.next+1,c)::(H.next,c)::(q,[])::L)
   exact(List.Sublist.cons _ (List.Sublist.cons _ (List.Sublist.refl _))).cons_cons _)
 | op hn0=>
  rename_i r
  obtain⟨g1,g2,g3⟩:=h.l (r,cs) (.head _)
  have e3:r≠H.next:=by simp only at g2;omega
  have htk2:cs.take (n*k)=cs:=List.take_of_length_le (by omega)
  refine CD (v:=.sl (H.next+1) 0 (n+1) (.op k)) (H':=((H.push (.cells c)).erase r).push (.cells (cs++c))) (by
   have hn1:n+1≤9223372036854775807:=by omega
   have g3:H.get r=some (.cells cs):=g3
   simp[CS,Ak.ev,Cq,BM,AH.cells?,AH.EJ,hc,htk,g3,e3,hcs,hb,htk2,hn1]) ?_
  refine hK [(H.next+1,cs++c)] _ _ ?_ (.op (Nat.succ_pos _))
  have h2:BE H0 ((r,cs)::(H.next,c)::L) (H.push (.cells c)):=h1.swap
  have h3:=(h2.erase).push (o:=cs++c)
  exact h3.sub (by
   show List.Sublist ((H.next+1,cs++c)::L) ((H.next+1,cs++c)::(H.next,c)::L)
   exact(List.Sublist.cons _ (List.Sublist.refl _)).cons_cons _)
 | exn hn0=>
  rename_i r
  obtain⟨g1,g2,g3⟩:=h.l (r,cs) (.head _)
  have e3:r≠H.next:=by simp only at g2;omega
  have htk2:cs.take (n*k)=cs:=List.take_of_length_le (by omega)
  refine CD (v:=.sl (H.next+1) 0 (n+1) (.op k)) (H':=(H.push (.cells c)).push (.cells (cs++c))) (by
   have hn1:n+1≤9223372036854775807:=by omega
   have hn2:¬n+1≤n:=by omega
   have g3:H.get r=some (.cells cs):=g3
   simp[CS,Ak.ev,Cq,BM,AH.cells?,AH.EJ,hc,htk,g3,e3,hcs,hb,htk2,hn1,hn2]) ?_
  refine hK [(H.next+1,cs++c)] _ _ ?_ (.op (Nat.succ_pos _))
  exact(h1.push (o:=cs++c)).sub (by
   show List.Sublist ((H.next+1,cs++c)::L) ((H.next+1,cs++c)::(H.next,c)::(r,cs)::L)
   exact(List.Sublist.cons _ (List.Sublist.cons _ (List.Sublist.refl _))).cons_cons _)
theorem BE.live (h:BE H0 L H):∀w∈L,H0.next≤w.1∧H.get w.1=some (.cells w.2):=fun w hw=>⟨(h.l w hw).1,(h.l w hw).2.2⟩
end
end Go.AL
namespace Go.AL
variable [BY] {P:Program}
def CP (P:Program) (g:FuncId) (ar:List AV) (H:AH) (Q:AV→Prop):Prop:=An P g ar H fun o H'=>H'=H∧∃x,o=.ret x∧Q x
theorem CP.mono {g:FuncId}{ar:List AV}{H:AH}{Q Q':AV→Prop}(h:CP P g ar H Q) (hq:∀x,Q x→Q' x):CP P g ar H Q':=
 An.mono h fun o H' ⟨h1,x,h2,h3⟩=>⟨h1,x,h2,hq x h3⟩
theorem BK {g:FuncId}{ar:List AV}{H:AH}{Q:AV→Prop}{Kp K:AV→AH→Prop}(hC:CP P g ar H Q) (hK:∀x,Q x→K x H):AX P g ar H Kp K:=
 Df hC (fun v H' h=>by obtain⟨rfl,x,h2,h3⟩:=h;cases h2;exact hK _ h3) (fun v H' h=>by obtain⟨_,x,h2,_⟩:=h;cases h2)
theorem MS {fv:AV}{ar:List AV}{H:AH}{Q:AV→Prop}{Kp K:AV→AH→Prop}(hC:EV P fv ar H fun o H'=>H'=H∧∃x,o=.ret x∧Q x) (hK:∀x,Q x→K x H):GN P fv ar H Kp K:=
 VT hC (fun v H' h=>by obtain⟨rfl,x,h2,h3⟩:=h;cases h2;exact hK _ h3) (fun v H' h=>by obtain⟨_,x,h2,_⟩:=h;cases h2)
def MP (H:AH) (Q:AV→Prop):Cc→AH→Prop:=fun o H'=>D6 H H'∧∃x R y,o=.ret x∧FZ R x y∧(∀w∈R,H.next≤w.1∧H'.get w.1=some (.cells w.2))∧Q y
theorem CP.of {g:FuncId}{ar:List AV}{H:AH}{Q:AV→Prop}(h:An P g ar H (MP H Q)):CP P g ar H Q:=by
 refine An.scope (fun _ _=>h) h.1 fun _ htop o H' hp=>?_
 obtain⟨hk,x,R,y,rfl,h1,h3,hq⟩:=hp
 have hcut:H'.cut H.next H.gl=H:=by
  refine AH.ext (fun q=>?_) rfl rfl
  show(if q<H.next then H'.get q else none)=H.get q
  by_cases hq:q<H.next
  ·rw[if_pos hq,hk.get q hq]
  ·rw[if_neg hq,htop q (by omega)]
 have hold:∀q o,q<H.next→H'.get q=some o→H.get q=some o∨jE H.next o:=fun q o hq ho=>.inl (by rw[←hk.get q hq];exact ho)
 rw[hcut]
 exact⟨.ret y,h1 H' H.next h3,hold,rfl,_,rfl,hq⟩
theorem MP.same {H:AH}{Q:AV→Prop}{x:AV}(hs:∀k,Sc k x) (h:Q x):MP H Q (.ret x) H:=⟨D6.refl _,x,[],x,rfl,fun _ k _=>.low (hs k),fun _ h=>(by cases h),h⟩
theorem BE.fin {H0 H:AH}{L:OL}{Q:AV→Prop}{x y:AV}(s:BE H0 L H) (hf:FZ L x y) (h:Q y):MP H0 Q (.ret x) H:=⟨s.k,x,L,y,rfl,hf,s.live,h⟩
theorem BE.B9 {H0 H:AH}{L:OL}{Q:AV→Prop}{x:AV}(s:BE H0 L H) (hf:∀k,Sc k x) (h:Q x):MP H0 Q (.ret x) H:=⟨s.k,x,[],x,rfl,fun _ k _=>.low (hf k),fun _ h=>(by cases h),h⟩
theorem Aj {T:Type}{J:T}{A B:T→Prop}(h:A J):Am true (.bool true) J A B:=FX (fun _=>h) (fun e=>absurd rfl e)
theorem Au {T:Type}{J:T}{A B:T→Prop}(h:B J):Am true (.bool false) J A B:=FX (fun e=>by cases e) (fun _=>h)
theorem Af {T:Type}{J:T}{A B:T→Prop}(h:A J):Am false (.bool false) J A B:=FX (fun _=>h) (fun e=>absurd rfl e)
theorem BB {T:Type}{J:T}{A B:T→Prop}(h:B J):Am false (.bool true) J A B:=FX (fun e=>by cases e) (fun _=>h)
theorem BQ {w:Bool}{T:Type}{J:T}{A B:T→Prop}(h:B J):Am w AI J A B:=by
 show N0 w AI _ _
 unfold N0
 have g1:I7 AI=some none:=rfl
 simp only[g1]
 exact⟨fun h=>(by cases h),fun _=>h⟩
theorem Ai {A B:Prop}(h:A):Ag (.bool true) A B:=IK (fun _=>h) (fun e=>by cases e)
theorem AZ {A B:Prop}(h:B):Ag (.bool false) A B:=IK (fun e=>by cases e) (fun _=>h)
theorem CK {T:Type}{J:T}{A B:T→Prop}(h:A J):Dk (.bool true) J A B:=M9 (fun _=>h) (fun e=>by cases e)
theorem CL {T:Type}{J:T}{A B:T→Prop}(h:B J):Dk (.bool false) J A B:=M9 (fun e=>by cases e) (fun _=>h)
theorem wrap_i64 (n:Int):IntKind.i64.wrap n=if n % 18446744073709551616≥9223372036854775808 then n % 18446744073709551616-18446744073709551616 else n % 18446744073709551616:=by simp[IntKind.wrap,IntKind.bits,IntKind.signed]
theorem HA {n:Int}(h:-9223372036854775808≤n∧n≤9223372036854775807):IntKind.i64.wrap n=n:=by
 rw[wrap_i64];split<;>omega
abbrev iv (n:Int):AV:=.int .i64 n
abbrev aC (n:Int):Prop:=-9223372036854775808≤n∧n≤9223372036854775807
section
variable {K:AV→Prop}{a b:Int}
theorem BA (h:aC (a+b)) (hK:K (iv (a+b))):AB (.bin .add (.cst (iv a)) (.cst (iv b))) K:=AA (by show some (AV.int .i64 (IntKind.i64.wrap (a+b)))=_;rw[HA h]) hK
theorem D4 (h:aC (a-b)) (hK:K (iv (a-b))):AB (.bin .sub (.cst (iv a)) (.cst (iv b))) K:=AA (by show some (AV.int .i64 (IntKind.i64.wrap (a-b)))=_;rw[HA h]) hK
theorem Yv (h:aC (a*b)) (hK:K (iv (a*b))):AB (.bin .mul (.cst (iv a)) (.cst (iv b))) K:=AA (by show some (AV.int .i64 (IntKind.i64.wrap (a*b)))=_;rw[HA h]) hK
theorem EY (ha:0≤a) (hb:0<b) (hK:K (iv (a % b))):AB (.bin .rem (.cst (iv a)) (.cst (iv b))) K:=AA (by
 have h0:b≠0:=by omega
 show(if IntKind.i64=IntKind.i64∧b≠0 then some (AV.int .i64 (a.tmod b))else none)=_
 rw[if_pos ⟨rfl,h0⟩,Int.tmod_eq_emod_of_nonneg ha]) hK
theorem MZ (ha:0≤a) (hb:0<b) (hs:a≤9223372036854775807) (hK:K (iv (a / b))):AB (.bin .quo (.cst (iv a)) (.cst (iv b))) K:=AA (by
 have h0:b≠0:=by omega
 have h1:0≤a / b:=Int.ediv_nonneg ha (by omega)
 have h2:a / b≤a:=Int.ediv_le_self _ ha
 show(if IntKind.i64=IntKind.i64∧b≠0 then some (AV.int .i64 (IntKind.i64.wrap (a.tdiv b)))else none)=_
 rw[if_pos ⟨rfl,h0⟩,Int.tdiv_eq_ediv_of_nonneg ha,HA ⟨by omega,by omega⟩]) hK
theorem Ma (hK:K (.bool (decide (a<b)))):AB (.bin .lss (.cst (iv a)) (.cst (iv b))) K:=AA rfl hK
theorem Yx (hK:K (.bool (decide (a≤b)))):AB (.bin .leq (.cst (iv a)) (.cst (iv b))) K:=AA rfl hK
theorem Yy (hK:K (.bool (decide (b<a)))):AB (.bin .gtr (.cst (iv a)) (.cst (iv b))) K:=AA rfl hK
theorem eM (hK:K (.bool (decide (b≤a)))):AB (.bin .geq (.cst (iv a)) (.cst (iv b))) K:=AA rfl hK
theorem IV (hK:K (.bool (decide (a=b)))):AB (.bin .eql (.cst (iv a)) (.cst (iv b))) K:=AA (by show some (AV.bool (a==b))=_;congr 2) hK
theorem eL (hK:K (.bool (decide (a≠b)))):AB (.bin .neq (.cst (iv a)) (.cst (iv b))) K:=AA (by
 show some (AV.bool (a != b))=_
 congr 2
 by_cases h:a=b
 ·subst h;simp
 ·simp[h]) hK
theorem JJ {x:UInt8}(hK:K (iv (x.toNat:Int))):AB (.convI .i64 (.cst (bv x))) K:=AA (by
 have:=x.toNat_lt
 show some (AV.int .i64 (IntKind.i64.wrap (x.toNat:Int)))=_
 rw[HA ⟨by omega,by omega⟩]) hK
theorem eK {t:Bool}(hK:K (.bool (!t))):AB (.un .not (.cst (.bool t))) K:=AA rfl hK
end
structure FL (z:Nat) (Pr:Nat→List AV→Prop) (n:Nat) (v:AV):Prop where
 ex:(n=0∧v=.nils)∨∃(css:List (List AV)) (b:Bool),v=.sim css.flatten n b∧(n=0→b=true)∧css.length=n∧∀i c,css[i]?=some c→c.length=z∧(∀k,DZ k c)∧Pr i c
section
variable {z n:Nat}{Pr Pr':Nat→List AV→Prop}{v:AV}
theorem FL.nil:FL z Pr 0 .nils:=⟨.inl ⟨rfl,rfl⟩⟩
theorem FL.mono (h:FL z Pr n v) (hp:∀i c,i<n→Pr i c→Pr' i c):FL z Pr' n v:=by
 rcases h.ex with h | ⟨css,b,h1,h2,h3,h4⟩
 ·exact⟨.inl h⟩
 ·exact⟨.inr ⟨css,b,h1,h2,h3,fun i c hc=>by
   obtain⟨g1,g2,g3⟩:=h4 i c hc
   exact⟨g1,g2,hp i c (by rw[←h3];exact(List.getElem?_eq_some_iff.1 hc).1) g3⟩⟩⟩
theorem FL.sc (h:FL z Pr n v) (k:Nat):Sc k v:=by
 rcases h.ex with⟨_,rfl⟩ | ⟨css,b,rfl,h2,h3,h4⟩
 ·exact .nils
 ·refine .sim (DZ.Hs fun x hx=>?_)
  obtain⟨c,hc,hxc⟩:=List.mem_flatten.1 hx
  obtain⟨i,hi⟩:=List.getElem?_of_mem hc
  exact((h4 i c hi).2.1 k).mem hxc
theorem FL.one (h:FL z Pr n v):v.cellsOf=some [v]:=by
 rcases h.ex with⟨_,rfl⟩ | ⟨css,b,rfl,_⟩<;>rfl
theorem FL.len (h:FL z Pr n v){K:AV→Prop}(hK:K (iv (n:Int))):AB (.len (.cst v)) K:=by
 rcases h.ex with⟨rfl,rfl⟩ | ⟨css,b,rfl,_⟩<;>exact AA rfl hK
theorem FL.cells (h:FL z Pr n v):∃css:List (List AV),css.length=n∧(∀H,BM z v H=some (n,css.flatten))∧∀i c,css[i]?=some c→c.length=z∧(∀k,DZ k c)∧Pr i c:=by
 rcases h.ex with⟨rfl,rfl⟩ | ⟨css,b,rfl,_,h3,h4⟩
 ·exact⟨[],rfl,fun H=>rfl,fun i c h=>by simp at h⟩
 ·refine⟨css,h3,fun H=>?_,h4⟩
  have:css.flatten.length=n*z:=by
   rw[Et css fun c hc=>?_,h3]
   obtain⟨i,hi⟩:=List.getElem?_of_mem hc
   exact(h4 i c hi).1
  simp[BM,this]
theorem FL.at (h:FL z Pr n v){i:Nat}(hi:i<n):∃cs c,Ap (.indexAddrS z (.cst v) (.cst (iv (i:Int)))) emp=some (.pim cs (i*z))∧c.length=z∧(∀k,DZ k c)∧Pr i c∧(∀j x,c[j]?=some x→cs[i*z+j]?=some x)∧(cs.drop (i*z)).take z=c∧i*z+z≤cs.length:=by
 rcases h.ex with⟨rfl,_⟩ | ⟨css,b,rfl,_,h3,h4⟩
 ·omega
 ·have hc:css[i]?=some (css[i]'(by omega)):=List.getElem?_eq_getElem (by omega)
  have hz:∀c∈css,c.length=z:=fun c hc=>by
   obtain⟨i,hi⟩:=List.getElem?_of_mem hc
   exact(h4 i c hi).1
  obtain⟨g1,g2,g3⟩:=h4 i _ hc
  have hx:=Ld css i _ hz hc
  have hl:css.flatten.length=n*z:=by rw[Et css hz,h3]
  have hm:i*z+z≤n*z:=by
   have:(i+1)*z≤n*z:=Nat.mul_le_mul_right _ (by omega)
   rw[Nat.add_mul,Nat.one_mul]at this;exact this
  refine⟨css.flatten,css[i]'(by omega),?_,g1,g2,g3,fun j x hj=>?_,hx,by omega⟩
  ·have h9:(0:Int)≤(i:Int)∧(i:Int)<(n:Int):=by omega
   simp[Ap,Ak.ev,E_,h9]
  ·have hjz:j<z:=by rw[←g1];exact(List.getElem?_eq_some_iff.1 hj).1
   have h5:((css.flatten.drop (i*z)).take z)[j]?=(css[i]'(by omega))[j]?:=by rw[hx]
   rw[List.getElem?_take,if_pos hjz,List.getElem?_drop,hj]at h5
   exact h5
theorem FL.IG (h:FL z Pr n v){i:Nat}(hi:i<n){H:AH}{K:AV→Prop}(hK:∀c,c.length=z→(∀k,DZ k c)→Pr i c→K (.agg c)) :
  AB (.indexAddrS z (.cst v) (.cst (iv (i:Int)))) fun v2=>AP (.load (some z) (.cst v2)) H K:=by
 obtain⟨cs,c,h1,h2,h3,h4,_,h6,h7⟩:=h.at hi
 refine AA h1 (Cx (v:=.agg c) ?_ (hK c h2 h3 h4))
 simp[Ba,Cm,Ak.ev,apart,h6,h7]
theorem FL.Ef {Pr:Nat→List AV→Prop}(h:FL 1 Pr n v){i:Nat}(hi:i<n){H:AH}{K:AV→Prop}(hK:∀x,(∀k,Sc k x)→Pr i [x]→K x) :
  AB (.indexAddrS 1 (.cst v) (.cst (iv (i:Int)))) fun v2=>AP (.load none (.cst v2)) H K:=by
 obtain⟨cs,c,h1,h2,h3,h4,h5,_⟩:=h.at hi
 match c,h2 with
 | [x],_=>
  refine AA h1 (Cx (v:=x) ?_ (hK x (fun k=>by cases h3 k with | cons a _=>exact a) h4))
  have:=h5 0 x rfl
  simpa[Ba,Cm,Ak.ev,apart]using this
end
structure GL (R:OL) (z:Nat) (Pr:Nat→List AV→Prop) (n:Nat) (cs:List AV):Prop where
 ex:∃css:List (List AV),Nv R cs css.flatten∧css.length=n∧∀i c,css[i]?=some c→c.length=z∧(∀k,DZ k c)∧Pr i c
 n:cs.length=n*z
section
variable {R R':OL}{z n:Nat}{Pr Pr':Nat→List AV→Prop}{cs c c':List AV}
theorem GL.nil:GL R z Pr 0 []:=⟨⟨[],.nil,rfl,fun i c h=>by simp at h⟩,by simp⟩
theorem GL.mono (h:GL R z Pr n cs) (hs:R ⊆ R'):GL R' z Pr n cs:=by
 obtain⟨⟨css,h1,h2,h3⟩,h4⟩:=h
 exact⟨⟨css,h1.mono hs,h2,h3⟩,h4⟩
theorem GL.add (h:GL R z Pr n cs) (hf:Nv R c c') (hc:c.length=z) (hc':c'.length=z) (hs:∀k,DZ k c') (hp:Pr n c'):GL R z Pr (n+1) (cs++c):=by
 obtain⟨⟨css,h1,h2,h3⟩,h4⟩:=h
 refine⟨⟨css++[c'],?_,by simp[h2],fun i d hd=>?_⟩,by rw[List.length_append,h4,hc,Nat.add_mul,Nat.one_mul]⟩
 ·rw[List.flatten_append]
  simpa using h1.app hf
 ·rcases Nat.lt_or_ge i n with hi | hi
  ·rw[List.getElem?_append_left (by omega)]at hd
   exact h3 i d hd
  ·rw[List.getElem?_append_right (by omega)]at hd
   have h0:i=n:=by
    rcases Nat.eq_zero_or_pos (i-css.length)with h | h
    ·omega
    ·rw[List.getElem?_eq_none (by simp;omega)]at hd;cases hd
   subst h0
   rw[h2,Nat.sub_self]at hd
   cases hd
   exact⟨hc',hs,hp⟩
theorem GL.Dw (h:GL R z Pr n cs) (hc:c.length=z) (hs:∀k,DZ k c) (hp:Pr n c):GL R z Pr (n+1) (cs++c):=h.add (.low hs) hc hc hs hp
theorem GL.Gs {o:OL}{v:AV}(h:GL R z Pr n cs) (hv:Lv z o n cs v):∃y,FZ (o++R) v y∧FL z Pr n y:=by
 obtain⟨⟨css,h1,h2,h3⟩,h4⟩:=h
 have hcl:∀x∈css,x.length=z:=fun x hx=>by
  obtain⟨j,hj⟩:=List.getElem?_of_mem hx
  exact(h3 j x hj).1
 have hfl:css.flatten.length=n*z:=by rw[Et css hcl,h2]
 cases hv with
 | nil=>exact⟨.nils,fun _ _ _=>.low .nils,.nil⟩
 | ex q=>
  refine⟨.sim [] 0 true,fun H k hR=>?_,⟨.inr ⟨[],true,rfl,fun _=>rfl,rfl,fun i c h=>by simp at h⟩⟩⟩
  obtain⟨g1,g2⟩:=hR (q,[]) (.head _)
  exact .sl (l:=[]) (m:=0) g1 (by simp[AH.cells?,g2]) (by simp) .nil (fun _=>rfl) (fun _=>rfl)
 | op hn=>
  rename_i r
  refine⟨.sim css.flatten n false,fun H k hR=>?_,⟨.inr ⟨css,false,rfl,fun h=>by omega,h2,h3⟩⟩⟩
  obtain⟨g1,g2⟩:=hR (r,cs) (.head _)
  refine .sl (l:=cs) (m:=cs.length) g1 (by simp[AH.cells?,g2]) (by simp) ?_ (fun h=>by rw[h4,h,Nat.zero_mul]) (fun h=>by cases h)
  rw[List.drop_zero,List.take_length]
  exact h1 H k fun x hx=>hR x (List.mem_append_right _ hx)
 | exn hn=>
  rename_i r
  refine⟨.sim css.flatten n false,fun H k hR=>?_,⟨.inr ⟨css,false,rfl,fun h=>by omega,h2,h3⟩⟩⟩
  obtain⟨g1,g2⟩:=hR (r,cs) (.head _)
  refine .sl (l:=cs) (m:=cs.length) g1 (by simp[AH.cells?,g2]) (by simp) ?_ (fun h=>by rw[h4,h,Nat.zero_mul]) (fun h=>by cases h)
  rw[List.drop_zero,List.take_length]
  exact h1 H k fun x hx=>hR x (List.mem_append_right _ hx)
end
end Go.AL
namespace Go.AL
variable [BY] {P:Program}
section
variable {K:AV→Prop}{a b:Int}
theorem BT (ht:a<b→K (.bool true)) (hf:¬a<b→K (.bool false)):AB (.bin .lss (.cst (iv a)) (.cst (iv b))) K:=Ma (by
 by_cases h:a<b
 ·rw[decide_eq_true h];exact ht h
 ·rw[decide_eq_false h];exact hf h)
theorem Q2 (ht:a≤b→K (.bool true)) (hf:¬a≤b→K (.bool false)):AB (.bin .leq (.cst (iv a)) (.cst (iv b))) K:=Yx (by
 by_cases h:a≤b
 ·rw[decide_eq_true h];exact ht h
 ·rw[decide_eq_false h];exact hf h)
theorem GM (ht:b<a→K (.bool true)) (hf:¬b<a→K (.bool false)):AB (.bin .gtr (.cst (iv a)) (.cst (iv b))) K:=Yy (by
 by_cases h:b<a
 ·rw[decide_eq_true h];exact ht h
 ·rw[decide_eq_false h];exact hf h)
theorem Ox (ht:b≤a→K (.bool true)) (hf:¬b≤a→K (.bool false)):AB (.bin .geq (.cst (iv a)) (.cst (iv b))) K:=eM (by
 by_cases h:b≤a
 ·rw[decide_eq_true h];exact ht h
 ·rw[decide_eq_false h];exact hf h)
theorem FM (ht:a=b→K (.bool true)) (hf:¬a=b→K (.bool false)):AB (.bin .eql (.cst (iv a)) (.cst (iv b))) K:=IV (by
 by_cases h:a=b
 ·rw[decide_eq_true h];exact ht h
 ·rw[decide_eq_false h];exact hf h)
theorem ZD (ht:¬a=b→K (.bool true)) (hf:a=b→K (.bool false)):AB (.bin .neq (.cst (iv a)) (.cst (iv b))) K:=eL (by
 by_cases h:a=b
 ·rw[decide_eq_false (fun h'=>h' h)];exact hf h
 ·rw[decide_eq_true h];exact ht h)
theorem N5 (h:a<b) (hK:K (.bool true)):AB (.bin .lss (.cst (iv a)) (.cst (iv b))) K:=BT (fun _=>hK) (fun h'=>absurd h h')
theorem EZ (h:¬a<b) (hK:K (.bool false)):AB (.bin .lss (.cst (iv a)) (.cst (iv b))) K:=BT (fun h'=>absurd h' h) (fun _=>hK)
theorem N6 (h:a≤b) (hK:K (.bool true)):AB (.bin .leq (.cst (iv a)) (.cst (iv b))) K:=Q2 (fun _=>hK) (fun h'=>absurd h h')
theorem N7 (h:b<a) (hK:K (.bool true)):AB (.bin .gtr (.cst (iv a)) (.cst (iv b))) K:=GM (fun _=>hK) (fun h'=>absurd h h')
theorem Ea (h:¬b<a) (hK:K (.bool false)):AB (.bin .gtr (.cst (iv a)) (.cst (iv b))) K:=GM (fun h'=>absurd h' h) (fun _=>hK)
theorem MW (h:b≤a) (hK:K (.bool true)):AB (.bin .geq (.cst (iv a)) (.cst (iv b))) K:=Ox (fun _=>hK) (fun h'=>absurd h h')
theorem GK (h:¬b≤a) (hK:K (.bool false)):AB (.bin .geq (.cst (iv a)) (.cst (iv b))) K:=Ox (fun h'=>absurd h' h) (fun _=>hK)
theorem FF (h:a=b) (hK:K (.bool true)):AB (.bin .eql (.cst (iv a)) (.cst (iv b))) K:=FM (fun _=>hK) (fun h'=>absurd h h')
theorem ZA (h:¬a=b) (hK:K (.bool false)):AB (.bin .eql (.cst (iv a)) (.cst (iv b))) K:=FM (fun h'=>absurd h' h) (fun _=>hK)
theorem eI (h:¬a=b) (hK:K (.bool true)):AB (.bin .neq (.cst (iv a)) (.cst (iv b))) K:=ZD (fun _=>hK) (fun h'=>absurd h' h)
theorem DB (h:a=b) (hK:K (.bool false)):AB (.bin .neq (.cst (iv a)) (.cst (iv b))) K:=ZD (fun h'=>absurd h h') (fun _=>hK)
theorem Yw {a b:Nat}(hK:K (iv ((min a b:Nat):Int))):AB (.minmax false (.cst (iv (a:Int))) (.cst (iv (b:Int)))) K:=AA (by
 show some (AV.int .i64 (if (b:Int)<(a:Int)then(b:Int)else(a:Int)))=_
 congr 2
 split<;>omega) hK
theorem eJ {n:Nat}(hn:n<256) (hK:K (bv (UInt8.ofNat n))):AB (.convI .u8 (.cst (iv (n:Int)))) K:=AA (by
 show some (AV.int .u8 (IntKind.u8.wrap (n:Int)))=_
 have h1:IntKind.u8.wrap (n:Int)=(n:Int):=by simp[IntKind.wrap,IntKind.bits,IntKind.signed];omega
 have h2:(UInt8.ofNat n).toNat=n:=by simp;omega
 rw[h1]
 show _=some (AV.int .u8 ((UInt8.ofNat n).toNat:Int))
 rw[h2]) hK
end
def FB (n:Nat) (v:AV):Prop:=(n=0∧v=.nils)∨∃(bs:List UInt8) (b:Bool),v=.sim (bs.map bv) n b∧bs.length=n
section
variable {n:Nat}{v:AV}
theorem FB.len (h:FB n v){K:AV→Prop}(hK:K (iv (n:Int))):AB (.len (.cst v)) K:=by
 rcases h with⟨rfl,rfl⟩ | ⟨bs,b,rfl,_⟩<;>exact AA rfl hK
theorem FB.at (h:FB n v){i:Nat}(hi:i<n){H:AH}{K:AV→Prop}(hK:∀x,K (bv x)) :
  AB (.indexAddrS 1 (.cst v) (.cst (iv (i:Int)))) fun v2=>AP (.load none (.cst v2)) H K:=by
 rcases h with⟨rfl,_⟩ | ⟨bs,b,rfl,hl⟩
 ·omega
 ·have h9:(0:Int)≤(i:Int)∧(i:Int)<(n:Int):=by omega
  refine AA (v:=.pim (bs.map bv) i) (by simp[Ap,Ak.ev,E_,h9]) (Cx (v:=bv (bs[i]'(by omega))) ?_ (hK _))
  have:bs[i]?=some (bs[i]'(by omega)):=List.getElem?_eq_getElem (by omega)
  simp[Ba,Cm,Ak.ev,apart,this]
theorem FB.slice (h:FB n v) {lo hi:Nat}(h1:lo≤hi) (h2:hi≤n){K:AV→Prop}(hK:∀y,FB (hi-lo) y→K y) :
  AB (.sliceS 1 (.cst v) (some (.cst (iv (lo:Int)))) (some (.cst (iv (hi:Int)))) none) K:=by
 rcases h with⟨rfl,rfl⟩ | ⟨bs,b,rfl,hl⟩
 ·have e1:lo=0:=by omega
  have e2:hi=0:=by omega
  subst e1 e2
  exact AA (v:=.nils) rfl (hK _ (.inl ⟨rfl,rfl⟩))
 ·have c1:(0:Int)≤(lo:Int)∧(lo:Int)≤(hi:Int)∧(hi:Int)≤(n:Int):=by omega
  have e1:((hi:Int)-(lo:Int)).toNat=hi-lo:=by omega
  refine AA (v:=.sim (((bs.drop lo).take (hi-lo)).map bv) (hi-lo) (b&&decide ((hi:Int)=(n:Int)))) ?_ (hK _ (.inr ⟨_,_,rfl,by simp;omega⟩))
  simp[Ap,Ak.ints,Ak.ev,Lj,c1,e1,List.map_take,List.map_drop]
end
theorem FB.sc {n:Nat}{v:AV}(h:FB n v) (k:Nat):Sc k v:=by
 rcases h with⟨_,rfl⟩ | ⟨bs,b,rfl,hl⟩
 ·exact .nils
 ·exact .sim (DZ.Hs fun x hx=>by obtain⟨y,_,rfl⟩:=List.mem_map.1 hx;exact .int _ _)
theorem BU (n:Nat):I (no_index (OfNat.ofNat n))=iv (no_index (OfNat.ofNat n)):=rfl
section
variable {H0 H:AH}{L:OL}
theorem BE.new {k:Nat}{K:AV→AH→Prop}(h:BE H0 L H) (hK:∀o v H',BE H0 (o++L) H'→Lv k o 0 [] v→K v H'):AW (.buildSlice k 0 [] []) H K:=
 CD (v:=.sl H.next 0 0 (.ex 0)) (H':=H.push (.cells [])) (by simp[CS,B2]) (hK [(H.next,[])] _ _ h.push (.ex _))
end
end Go.AL
namespace Go.AL
variable [BY] {P:Program}
theorem Nb {T:Type}{t:Bool}{J:T}{A B:T→Prop}(Φ:T→Prop) (hJ:Φ J) (ha:t=true→∀J,Φ J→A J) (hb:t=false→∀J,Φ J→B J):Dk (.bool t) J A B:=
 M9 (fun h=>ha h J hJ) (fun h=>hb h J hJ)
theorem Y_ {T:Type}{w t:Bool}{J:T}{A B:T→Prop}(Φ:T→Prop) (hJ:Φ J) (ha:t=w→∀J,Φ J→A J) (hb:t≠w→∀J,Φ J→B J):Am w (.bool t) J A B:=
 FX (fun h=>ha h J hJ) (fun h=>hb h J hJ)
section
variable {H0 H:AH}{L A B o:OL}
theorem BE.DP (h:BE H0 (A++(o++B)) H):BE H0 (o++(A++B)) H:=h.perm (by
 rw[←List.append_assoc,←List.append_assoc]
 exact List.Perm.append_right B List.perm_append_comm)
theorem BE.eF {q:Nat}{c c':List AV}(h:BE H0 (A++(q,c)::B) H):BE H0 (A++(q,c')::B) (H.set q (.cells c')):=by
 have h1:BE H0 ((q,c)::(A++B)) H:=h.perm List.perm_middle.symm
 exact(h1.set (c':=c')).perm List.perm_middle
theorem BE.B6 {q o n:Nat}{c vs:List AV}{x:AV}{K:AV→AH→Prop}(h:BE H0 (A++(q,c)::B) H) (hx:x.cellsOf=some vs) (hv:vs.length=n) (hz:o+n≤c.length)
  (hK:∀H',BE H0 (A++(q,Bj c o vs)::B) H'→K .unk H'):AW (.store n (.cst (.ptr q o)) (.cst x)) H K:=by
 obtain⟨h1,h2,h3⟩:=h.l (q,c) (List.mem_append_right _ (.head _))
 have h3:H.get q=some (.cells c):=h3
 exact CD (v:=.unk) (H':=H.set q (.cells (Bj c o vs))) (by
  simp only[CS,Ak.ev,AH.cells?,h3,hx]
  rw[if_pos ⟨hv,hz⟩]) (hK _ h.eF)
theorem BE.Ch {q o k:Nat}{c d:List AV}{K:AV→Prop}(h:BE H0 L H) (hm:(q,c)∈L) (hx:(c.drop o).take k=d) (hz:o+k≤c.length) (hK:K (.agg d)):AP (.load (some k) (.cst (.ptr q o))) H K:=by
 obtain⟨_,_,h3⟩:=h.l _ hm
 have h3:H.get q=some (.cells c):=h3
 exact Cx (v:=.agg d) (by simp[Ba,Cm,Ak.ev,AH.cells?,h3,apart,hz,hx]) hK
theorem BE.bs {k n:Nat}{z out:List AV}{ps:List (Nat × Nat × Ak)}{K:AV→AH→Prop}(h:BE H0 L H) (hf:B2 emp z ps=some out) (hK:∀q H',BE H0 ((q,out)::L) H'→K (.sl q 0 n (.ex n)) H'):AW (.buildSlice k n z ps) H K:=
 CD (v:=.sl H.next 0 n (.ex n)) (H':=H.push (.cells out)) (by simp only[CS,hf]) (hK _ _ h.push)
end
end Go.AL
namespace Go.AL
variable [BY] {P:Program}
theorem FZ.mono {R R':OL}{v y:AV}(h:FZ R v y) (hs:R ⊆ R'):FZ R' v y:=fun H k hR=>h H k fun x hx=>hR x (hs hx)
theorem FZ.low {R:OL}{v:AV}(h:∀k,Sc k v):FZ R v v:=fun _ k _=>.low (h k)
theorem FZ.row {R:OL}{r n:Nat}{c:List AV}(hm:(r,c)∈R) (hs:∀k,DZ k c) (hn:n=0→c=[]):FZ R (.sl r 0 n (.ex n)) (.sim c n true):=fun H k hR=>by
 obtain⟨g1,g2⟩:=hR _ hm
 refine .sl (l:=c) (m:=c.length) g1 (by simp[AH.cells?,g2]) (by simp) ?_ (fun h=>by rw[hn h];rfl) (fun _=>rfl)
 rw[List.drop_zero,List.take_length]
 exact .low (hs k)
end Go.AL
namespace Go.AL
variable [BY] {P:Program}
section
variable {H0 H:AH}{L A B o:OL}
theorem BE.Ei {q o:Nat}{c:List AV}{x:AV}(h:BE H0 L H) (hm:(q,c)∈L) (hx:c[o]?=some x):B3 (.load none (.cst (.ptr q o))) x H:=by
 obtain⟨_,_,h3⟩:=h.l _ hm
 show Ba _ emp H=some x
 simpa[Ba,Cm,Ak.ev,AH.cells?,h3,apart]using hx
theorem BE.fD {q o k:Nat}{c d:List AV}(h:BE H0 L H) (hm:(q,c)∈L) (hx:(c.drop o).take k=d) (hz:o+k≤c.length):B3 (.load (some k) (.cst (.ptr q o))) (.agg d) H:=by
 obtain⟨_,_,h3⟩:=h.l _ hm
 have h3:H.get q=some (.cells c):=h3
 show Ba _ emp H=some (.agg d)
 simp[Ba,Cm,Ak.ev,AH.cells?,h3,apart,hz,hx]
theorem Hb {k n:Nat}{z:List AV}{ps:List (Nat × Nat × Ak)}{K:AV→AH→Prop}(h:AW (.buildSlice k n z ps) H K):Ej (.buildSlice k n z ps) H K:=by
 have h:Option.rec (motive:=fun _=>Prop) False (fun p=>Prod.rec (motive:=fun _=>Prop) K p) (CS (.buildSlice k n z ps) emp H):=h
 cases hf:B2 emp z ps with
 | none=>
  have e:CS (.buildSlice k n z ps) emp H=none:=by simp only[CS,hf]
  rw[e]at h
  exact h.elim
 | some out=>
  have e:CS (.buildSlice k n z ps) emp H=some (.sl H.next 0 n (.ex n),H.push (.cells out)):=by simp only[CS,hf]
  rw[e]at h
  exact KZ (c:=out) (f:=fun r=>.sl r 0 n (.ex n)) (by simp only[D0,hf]) h
end
end Go.AL
namespace Go.AL
variable [BY] {P:Program}
structure LL (z:Nat) (Pr:Nat→List AV→Prop) (n:Nat) (v:AV):Prop where
 ex:(n=0∧v=.nils)∨∃(css:List (List AV)) (b:Bool),v=.sim css.flatten n b∧css.length=n∧∀i c,css[i]?=some c→c.length=z∧(∀k,DZ k c)∧Pr i c
section
variable {z n:Nat}{Pr Pr':Nat→List AV→Prop}{v:AV}
theorem LL.len (h:LL z Pr n v){K:AV→Prop}(hK:K (iv (n:Int))):AB (.len (.cst v)) K:=by
 rcases h.ex with⟨rfl,rfl⟩ | ⟨css,b,rfl,_⟩<;>exact AA rfl hK
theorem LL.Ef {Pr:Nat→List AV→Prop}(h:LL 1 Pr n v){i:Nat}(hi:i<n){H:AH}{K:AV→Prop}(hK:∀x,(∀k,Sc k x)→Pr i [x]→K x) :
  AB (.indexAddrS 1 (.cst v) (.cst (iv (i:Int)))) fun v2=>AP (.load none (.cst v2)) H K:=by
 rcases h.ex with⟨rfl,_⟩ | ⟨css,b,rfl,h3,h4⟩
 ·omega
 ·have hf:FL 1 Pr n (.sim css.flatten n true):=⟨.inr ⟨css,true,rfl,fun _=>rfl,h3,h4⟩⟩
  have h9:(0:Int)≤(i:Int)∧(i:Int)<(n:Int):=by omega
  have e:Ap (.indexAddrS 1 (.cst (.sim css.flatten n b)) (.cst (iv (i:Int)))) emp=Ap (.indexAddrS 1 (.cst (.sim css.flatten n true)) (.cst (iv (i:Int)))) emp:=by simp[Ap,Ak.ev,E_,h9]
  have:=hf.Ef hi (H:=H) (K:=K) hK
  unfold AB at this ⊢
  rw[e];exact this
end
theorem Lv.len {k n:Nat}{o:OL}{cs:List AV}{v:AV}(h:Lv k o n cs v){K:AV→Prop}(hK:K (iv (n:Int))):AB (.len (.cst v)) K:=by
 cases h<;>exact AA rfl hK
section
variable {H0 H:AH}{L A B o:OL}
theorem BE.mark {q n:Nat}{c:List AV}{K:AV→AH→Prop}(h:BE H0 L H) (hm:(q,c)∈L) (hn:0<n) (hK:K (.sl q 0 n (.ex n)) H):AW (.mark (.cst (.sl q 0 n (.ex n)))) H K:=by
 obtain⟨_,_,h3⟩:=h.l _ hm
 have h3:H.get q=some (.cells c):=h3
 exact CD (v:=.sl q 0 n (.ex n)) (H':=H) (by simp[CS,Ak.ev,AH.cells?,h3,hn]) hK
end
end Go.AL
namespace Go.AL
variable [BY] {P:Program}
section
variable {H0 H:AH}{L A B o:OL}
theorem BE.Zj {q o:Nat}{c:List AV}{x:AV}{K:AV→Prop}(h:BE H0 L H) (hq:q<H0.next) (hg:H0.get q=some (.cells c)) (hx:c[o]?=some x) (hK:K x):AP (.load none (.cst (.ptr q o))) H K:=
 Cx (v:=x) (by
  have:=h.k.get q hq
  rw[hg]at this
  simpa[Ba,Cm,Ak.ev,AH.cells?,this,apart]using hx) hK
end
end Go.AL
namespace Go.AL
variable [BY] {P:Program}
theorem fe {T:Type}{J:T}{A:T→Prop}(Φ:T→Prop) (hJ:Φ J) (ha:∀J,Φ J→A J):QI J A:=ha J hJ
theorem ZV {a b:UInt8}{K:AV→Prop}(hK:K (.bool (decide (a.toNat<b.toNat)))):AB (.bin .lss (.cst (bv a)) (.cst (bv b))) K:=AA (by
 show some (AV.bool (decide ((a.toNat:Int)<(b.toNat:Int))))=_
 congr 2;simp) hK
theorem RR {t b:Bool}{K:AV→Prop}(hK:K (.bool (t&&b))):AB (.pick (.cst (.bool t)) (.cst (.bool b)) (.cst (.bool false))) K:=AA (by cases t<;>rfl) hK
theorem HN {T:Type}{t:Bool}{J:T}{A B:T→Prop}(ha:t=true→A J) (hb:t=false→B J):Am true (.bool t) J A B:=FX ha (fun h=>hb (by cases t<;>simp at h ⊢))
end Go.AL
namespace Go.AL
variable [BY] {P:Program}
theorem An.k_ {g:FuncId}{ar ar':List AV}{H H':AH}{Post:Cc→AH→Prop}(R:Nat→Prop) (h:An P g ar' H' Post) (ha:Bu H R ar ar') (hn:H'.next=H.next) (hg:H'.gl=H.gl)
  (hH:∀r o,H'.get r=some o→¬R r∧(H.get r=some o∨∃l l',o=.cells l'∧H.get r=some (.cells l)∧Bu H R l l')):An P g ar H Post:=by
 refine⟨h.1,fun Z σ w vs hW hv=>?_⟩
 refine(h.2 (On Z σ H R w) σ w vs (hW.Km hn hH hg) (Bu.sound hW ha hv)).mono fun x w' hx=>?_
 obtain⟨Z',σ',H1,out,g1,g2,g3,g4,g5,g6⟩:=hx
 exact⟨Z',σ',H1,out,(Gt hW).trans g1,by rw[←hn];exact g2,by rw[←hn];exact g3,g4,g5,g6⟩
theorem Bu.fg {H:AH}{R:Nat→Prop}:∀{a a' b b':List AV},Bu H R a a'→Bu H R b b'→Bu H R (a++b) (a'++b')
 | _,_,_,_,.nil,h=>h
 | _,_,_,_,.cons h t,h2=>.cons h (t.fg h2)
theorem EU.row {H:AH}{R:Nat→Prop}{r n:Nat}{lim:Nu}{l l':List AV}{ex:Bool}(hr:R r) (hc:H.get r=some (.cells l)) (hl:Bu H R l l') (hn:n=0→l=[]) (hx:ex=true→lim=.ex n):EU H R (.sl r 0 n lim) (.sim l' n ex):=by
 refine .sl (l:=l) (m:=l.length) hr (by simp[AH.cells?,hc]) (by omega) ?_ (fun h=>by rw[hn h];rfl) hx
 rw[List.drop_zero,List.take_length];exact hl
section
variable {H0 H:AH}{L A B o:OL}
theorem BE.ne {q r:Nat}{c d:List AV}(h:BE H0 (A++(q,c)::B) H) (hr:(r,d)∈A++B):r≠q:=by
 have hnd:=h.nd
 have h1:((A++(q,c)::B).map (·.1)).Perm (((q,c)::(A++B)).map (·.1)):=(List.perm_middle).map _
 have h2:=h1.nodup_iff.1 hnd
 rw[List.map_cons,List.nodup_cons]at h2
 intro e
 subst e
 exact h2.1 (List.mem_map.2 ⟨_,hr,rfl⟩)
theorem BE.UL {q:Nat}{c:List AV}(h:BE H0 (A++(q,c)::B) H):BE H0 (A++B) (H.erase q):=(h.perm (List.perm_middle.symm)).erase
theorem BE.UW {q:Nat}{c:List AV}{g:FuncId}{ar ar':List AV}{Q:AV→Prop}{Kp K:AV→AH→Prop}(h:BE H0 (A++(q,c)::B) H) (ha:Bu H (fun r=>r=q) ar ar')
  (hC:∀H',BE H0 (A++B) H'→CP P g ar' H' Q) (hK:∀v H',BE H0 (A++B) H'→Q v→K v H'):AX P g ar H Kp K:=by
 have s:=h.UL
 refine Df (An.k_ (fun r=>r=q) (hC _ s) ha rfl rfl fun r o hr=>?_) (fun v H' hq=>by obtain⟨rfl,x,h2,h3⟩:=hq;cases h2;exact hK _ _ s h3) (fun v H' hq=>by obtain⟨_,x,h2,_⟩:=hq;cases h2)
 rw[AH.get_erase]at hr
 split at hr
 ·cases hr
 ·rename_i hne
  exact⟨hne,.inl hr⟩
end
end Go.AL
namespace Go.AL
variable [BY] {P:Program}
section
variable {H0 H:AH}{L A B o:OL}
end
end Go.AL
