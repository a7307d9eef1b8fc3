import Derived.Test.YtlmkmpomgdbjhaaGreatDoorZa04
/-
  a part of the proof.
-/
set_option linter.unusedSectionVars false
set_option linter.unusedVariables false
set_option linter.unusedSimpArgs false
namespace Go.AL
noncomputable section
variable [BX]
def By (ds:AV) (e:Env):Env:=e.set AN ds
theorem CW {ds:AV}{e:Env}{t:Nat}(h:t≠AN):By ds e t=e t:=by simp[By,Env.AM,h]
theorem Cu (ds:AV) (e:Env):By ds e AN=ds:=by simp[By,Env.AM]
theorem L_ {ds:AV}{e:Env}{d:Option Nat}{v:AV}(h:d≠some AN):(By ds e).put d v=By ds (e.put d v):=by
 cases d with
 | none=>rfl
 | some d=>
  have h:d≠AN:=fun x=>h (by rw[x])
  funext t
  simp only[Env.put,By,Env.AM]
  by_cases h1:t=d
  ·subst h1;rw[if_pos rfl,if_neg h,if_pos rfl]
  ·rw[if_neg h1]
   by_cases h2:t=AN
   ·rw[if_pos h2,if_pos h2]
   ·rw[if_neg h2,if_neg h2,if_neg h1]
def Z4 (l:List Nat):Bool:=l.all fun t=>Nat.ble (t+1) AN
theorem Jc {l:List Nat}(h:Z4 l=true):∀t∈l,t≠AN:=fun t ht=>by
 have:=CY.1 h t ht
 have:=Ab this
 omega
def Vx (o:A_):Bool:=Z4 o.k.tmps&&(!o.k.B2&&(Rw o&&(match o.gd with | none=>true | some (s,_)=>Nat.ble (s+1) AN)))
section
variable {P:Program}{ds:AV}
theorem L7 {k:AK}{e:Env}(h:Z4 k.tmps=true):∀t∈k.tmps,e t=By ds e t:=fun t ht=>(CW (Jc h t ht)).symm
theorem Mt {o:A_}(h:Vx o=true):Z4 o.k.tmps=true/\o.k.B2=false/\o.dst≠some AN/\∀s w,o.gd=some (s,w)->s≠AN:=by
 simp only[Vx,AS,E7]at h
 obtain⟨h1,h2,h3,h4⟩:=h
 refine⟨h1,h2,EX h3,fun s w hg=>?_⟩
 rw[hg]at h4
 have:=Ab h4
 omega
theorem On [YC] {K K':Env->AH->Prop}{Kp Kp':AV->Env->AH->Prop}(hK:∀e H,K e H->K' (By ds e) H) (hKp:∀v e H,Kp v e H->Kp' v (By ds e) H):∀(ops:List A_) (e:Env) (H:AH),ops.all Vx=true->CJ P ops e H K Kp->CJ P ops (By ds e) H K' Kp'
 | [],e,H,_,h=>hK e H h
 | ⟨dst,k,gd⟩::ops,e,H,ho,h=>by
  rw[EB,AS]at ho
  obtain⟨o1,o2,o3,o4⟩:=Mt ho.1
  have go:HN P k e H (fun v H'=>CJ P ops (e.put dst v) H' K Kp) (fun v H'=>Kp v e H')->HN P k (By ds e) H (fun v H'=>CJ P ops ((By ds e).put dst v) H' K' Kp') (fun v H'=>Kp' v (By ds e) H'):=fun h=>by
   rw[<- M9 (L7 (ds:=ds) o1)]
   exact KD (fun v H' hx=>by rw[L_ o3];exact On hK hKp ops _ H' ho.2 hx) (fun v H' hx=>hKp v e H' hx) h
  cases gd with
  | none=>
   have h:HN P k e H (fun v H'=>CJ P ops (e.put dst v) H' K Kp) (fun v H'=>Kp v e H'):=by
    clear go
    cases k<;>first | (cases o2;done) | exact h
   exact Fm o2 (go h)
  | some g=>
   obtain⟨s,w⟩:=g
   have hs:=o4 s w rfl
   have h:match Mc (e s)with
    | some b=>(b=some w->HN P k e H (fun v H'=>CJ P ops (e.put dst v) H' K Kp) (fun v H'=>Kp v e H'))/\(b≠some w->CJ P ops (e.put dst Ad) H K Kp)
    | none=>False:=h
   split at h
   ·rename_i b hb
    refine W7 (b:=b) (by rw[CW hs];exact hb) (fun hw=>go (h.1 hw)) fun hw=>?_
    rw[L_ o3]
    exact On hK hKp ops _ H ho.2 (h.2 hw)
   ·exact h.elim
theorem Qj [YC] {K K':Env->AH->Prop}{Kp Kp':AV->Env->AH->Prop}{ep:Env}(hK:∀e H,K e H->K' (By ds e) H) (hKp:∀v H,Kp v ep H->Kp' v (By ds ep) H):∀(its:List DV) (e:Env) (H:AH) (pend:E4),its.all (fun it=>Vx it.o)=true->A0 P ep K Kp its e H pend->A0 P (By ds ep) K' Kp' its (By ds e) H pend
 | [],e,H,_,_,h=>hK e H h
 | it::l,e,H,pend,ho,h=>by
  rw[EB,AS]at ho
  obtain⟨o1,o2,o3,o4⟩:=Mt ho.1
  have c1:=fun H'=>KA (H:=H') (L7 (ds:=ds) (e:=e) o1)
  have c2:=KB (L7 (ds:=ds) (e:=e) o1)
  have c3:=QZ (L7 (ds:=ds) (e:=e) o1)
  have rec':∀v H' pend',A0 P ep K Kp l (e.put it.o.dst v) H' pend'->A0 P (By ds ep) K' Kp' l ((By ds e).put it.o.dst v) H' pend':=fun v H' pend' hx=>by
   rw[L_ o3];exact Qj hK hKp l _ H' pend' ho.2 hx
  simp only[A0]at h ⊢
  have step:(if it.eff then HN P it.o.k e H (fun v H'=>U9 it.fl pend H'/\A0 P ep K Kp l (e.put it.o.dst v) H' pend) (fun v H'=>Kp v ep H')
   else match AI it.o.k e with
    | some v=>A0 P ep K Kp l (e.put it.o.dst v) H pend
    | none=>match AZ it.o.k e H with
     | some v=>A0 P ep K Kp l (e.put it.o.dst v) H ((it.i,fun H'=>AZ it.o.k e H'=some v)::pend)
     | none=>match FQ it.o.k e with
      | some (c,f)=>A0 P ep K Kp l (e.put it.o.dst (f H.next)) (H.push (.cells c)) ((it.i,fun H'=>H'.get H.next=some (.cells c))::pend)
      | none=>False)->(if it.eff then HN P it.o.k (By ds e) H (fun v H'=>U9 it.fl pend H'/\A0 P (By ds ep) K' Kp' l ((By ds e).put it.o.dst v) H' pend) (fun v H'=>Kp' v (By ds ep) H')
   else match AI it.o.k (By ds e)with
    | some v=>A0 P (By ds ep) K' Kp' l ((By ds e).put it.o.dst v) H pend
    | none=>match AZ it.o.k (By ds e) H with
     | some v=>A0 P (By ds ep) K' Kp' l ((By ds e).put it.o.dst v) H ((it.i,fun H'=>AZ it.o.k (By ds e) H'=some v)::pend)
     | none=>match FQ it.o.k (By ds e)with
      | some (c,f)=>A0 P (By ds ep) K' Kp' l ((By ds e).put it.o.dst (f H.next)) (H.push (.cells c)) ((it.i,fun H'=>H'.get H.next=some (.cells c))::pend)
      | none=>False):=fun h=>by
   by_cases he:it.eff=true
   ·rw[if_pos he]at h ⊢
    rw[<- M9 (L7 (ds:=ds) o1)]
    exact KD (fun v H' hx=>⟨hx.1,rec' v H' pend hx.2⟩) (fun v H' hx=>hKp v H' hx) h
   ·rw[if_neg he]at h ⊢
    rw[<- c2,<- c1,<- c3]
    split at h
    ·exact rec' _ _ _ h
    ·split at h
     ·rename_i v hv
      have:=rec' v H _ h
      simp only[<- c1];exact this
     ·split at h
      ·exact rec' _ _ _ h
      ·exact h
  split at h
  ·exact step h
  ·rename_i s w hg
   have hs:=o4 s w hg
   rw[CW hs]
   split at h
   ·exact⟨fun hw=>step (h.1 hw),fun hw=>rec' _ _ _ (h.2 hw)⟩
   ·exact h.elim
theorem cU {plan:List DV}{e:Env}(h:plan.all (fun it=>Vx it.o)=true):JD plan (By ds e)=By ds (JD plan e):=by
 funext t
 by_cases ht:t=AN
 ·subst ht
  rw[Cu]
  unfold JD
  rw[if_neg,Cu]
  intro hx
  obtain⟨it,h1,h2⟩:=Gj.1 hx
  exact(Mt (CY.1 h it h1)).2.2.1 (by simpa using h2)
 ·rw[CW ht]
  unfold JD
  rw[CW ht]
end
def FV:Ax->Bool
 | .skip=>true
 | .reg ops=>ops.all Vx
 | .dreg plan=>plan.all fun it=>Vx it.o
 | .seq a b=>FV a&&FV b
 | .cond c a b=>Z4 c.tmps&&(FV a&&FV b)
 | .block _ a=>FV a
 | .loop a=>FV a
 | .exit _=>true
 | .ret=>true
 | .rng g ps a b=>Z4 g.tmps&&(Z4 ps&&(FV a&&FV b))
abbrev ZJ:=FuncId->List AV->KH->Option (List Nat × List (List AV))
def VU (P:Program) (g:FuncId) (caps:List AV) (H:AH) (ks:List Nat) (xs:List (List AV)):Prop:=NF P g caps H xs.length (fun i _ x=>xs[i]?=some x) (fun I=>∀i H',I i H'->∀r∈ks,H'.cells? r=H.cells? r) fun _ _=>True
def SJ (P:Program) (its:ZJ):Prop:=∀g caps h ks xs,its g caps h=some (ks,xs)->VU P g caps (Ai h) ks xs
def V8 (h h':KH) (r:Nat):Bool:=Option.rec (motive:=fun _=>Bool) false (fun l=>Option.rec (motive:=fun _=>Bool) false (fun l'=>HI l l') (Bz h' r)) (Bz h r)
def Rk (h h':KH) (ks:List Nat):Bool:=List.rec (motive:=fun _=>Bool) true (fun r _ ih=>V8 h h' r&&ih) ks
theorem NX {h h':KH}:∀(ks:List Nat),Rk h h' ks=true->∀r∈ks,(Ai h').cells? r=(Ai h).cells? r
 | [],_,r,hr=>by cases hr
 | k::ks,hk,r,hr=>by
  have hk:(V8 h h' k&&Rk h h' ks)=true:=hk
  rw[AS]at hk
  rcases DM.1 hr with rfl | hr
  rotate_left
  ·exact NX ks hk.2 r hr
  ·have h1:=hk.1
   unfold V8 at h1
   rw[<- Bq,<- Bq]
   cases e1:Bz h r with
   | none=>rw[e1]at h1;cases h1
   | some l=>
    cases e2:Bz h' r with
    | none=>rw[e1,e2]at h1;cases h1
    | some l'=>
     rw[e1,e2]at h1
     rw[Ca l l' h1]
def lY (zs:List AV) (K:AV->List AV->KC):KC:=List.rec (motive:=fun _=>KC) .bad (fun v t _=>K v t) zs
def lX (zs:List AV) (K:KC):KC:=List.rec (motive:=fun _=>KC) K (fun _ _ _=>.bad) zs
def Wx (ps:List Nat):List AV->Env->(Env->KC)->KC:=
 List.rec (motive:=fun _=>List AV->Env->(Env->KC)->KC) (fun x e K=>lX x (K e)) (fun p _ ih x e K=>lY x fun v t=>ih t (e.set p v) K) ps
def Tp (f:List AV->KH->(KH->KC)->KC) (ks:List Nat) (h0:KH) (xs:List (List AV)):KH->(KH->KC)->KC:=List.rec (motive:=fun _=>KH->(KH->KC)->KC) (fun h K=>K h) (fun x _ ih h K=>f x h fun h'=>Bool.rec (motive:=fun _=>KC) .bad (ih h' K) (Rk h0 h' ks)) xs
def dP (its:ZJ) (v:AV) (h:KH) (K:List Nat->List (List AV)->KC):KC:=
 FP.rec (motive:=fun _=>KC) .bad (fun g first cap=>List.rec (motive:=fun _=>KC) (Option.rec (motive:=fun _=>KC) .bad (fun p=>K p.1 p.2) (its g cap h)) (fun _ _ _=>.bad) first) (Vj v)
def Yh (c:KC):KC:=KC.rec (motive:=fun _=>KC) (fun v h=>.ret v h) (fun _ _=>.bad) .bad c
theorem ei {c r:KC}(hb:r≠.bad) (h:Yh c=r):c=r/\∀v h',r≠.Bi v h':=by
 cases c with
 | ret v h'=>have h:KC.ret v h'=r:=h;subst h;exact⟨rfl,fun _ _ hh=>by cases hh⟩
 | Bi v h'=>exact absurd h.symm hb
 | bad=>exact absurd h.symm hb
def Uc:Nat->EK:=(fun(_:AK->Nat) _=>KZ) Zl
theorem Zb {r:KC}(hb:r≠.bad){its:ZJ}{v:AV}{h:KH}{K:List Nat->List (List AV)->KC}(hh:dP its v h K=r):∃f caps ks xs,v=.fn (.func f) [] caps/\its f caps h=some (ks,xs)/\K ks xs=r:=by
 unfold dP at hh
 cases hv:Vj v with
 | no=>rw[hv]at hh;exact absurd hh.symm hb
 | «at» f first caps=>
  rw[hv]at hh
  cases first with
  | cons x l=>exact absurd hh.symm hb
  | nil=>
   have hh:Option.rec (motive:=fun _=>KC) .bad (fun p=>K p.1 p.2) (its f caps h)=r:=hh
   cases hi:its f caps h with
   | none=>rw[hi]at hh;exact absurd hh.symm hb
   | some p=>rw[hi]at hh;exact⟨f,caps,p.1,p.2,Si hv,hi,hh⟩
theorem RE {r:KC}(hb:r≠.bad){K:Env->KC}:∀(ps:List Nat) (x:List AV) (e:Env),Wx ps x e K=r->x.length=ps.length/\K (D6 e ps x)=r
 | [],[],e,h=>⟨rfl,h⟩
 | [],_::_,e,h=>absurd h.symm hb
 | p::ps,[],e,h=>absurd h.symm hb
 | p::ps,v::x,e,h=>by
  obtain⟨h1,h2⟩:=RE hb ps x (e.set p v) h
  exact⟨by rw[BV,BV,h1],h2⟩
theorem Mm:∀(ps:List Nat) (x:List AV) (e:Env) (t:Nat),t ∉ ps->D6 e ps x t=e t
 | [],x,e,t,_=>by cases x<;>rfl
 | p::ps,[],e,t,_=>rfl
 | p::ps,v::x,e,t,h=>by
  show D6 (e.set p v) ps x t=e t
  rw[Mm ps x _ t (fun hh=>h (Ct _ hh)),Env.G1 _ _ (fun hh=>h (by rw[hh];exact Be ..))]
theorem PR {d:AV}:∀(ps:List Nat) (x:List AV) (e:Env),Z4 ps=true->D6 (By d e) ps x=By d (D6 e ps x)
 | [],x,e,_=>by cases x<;>rfl
 | p::ps,[],e,_=>rfl
 | p::ps,v::x,e,h=>by
  have hp:p≠AN:=Jc h p (Be ..)
  have h2:Z4 ps=true:=by
   simp only[Z4,EB,AS]at h ⊢;exact h.2
  show D6 ((By d e).set p v) ps x=By d (D6 (e.set p v) ps x)
  rw[<- PR ps x (e.set p v) h2]
  have:(By d e).set p v=By d (e.set p v):=L_ (d:=some p) (fun hh=>hp (by cases hh;rfl))
  rw[this]
theorem T9 {d:AV}{ps:List Nat}{x:List AV}{e:Env}(h:Z4 ps=true) (hd:e AN=.tup []):So (By d e) ps x=By (.tup []) (D6 e ps x):=by
 unfold So
 rw[PR ps x e h]
 funext t
 by_cases ht:t=AN
 ·subst ht;rw[Env.GC,Cu]
 ·rw[Env.G1 _ _ ht,CW ht,CW ht]
def runM (its:ZJ) (call:Ag) (c:Ax):HT->EK->(Nat->EK)->EK->EK:=
 Ax.rec (motive:=fun _=>HT->EK->(Nat->EK)->EK->EK)
  (fun _ kn _ _=>kn)
  (fun ops _ kn _ _ e h=>jC call ops e h kn)
  (fun plan _ kn _ _ e h=>Xg call plan e h kn)
  (fun _ _ ra rb t kn ke kr=>HT.rec (motive:=fun _=>EK) KZ (fun x y _ _=>ra x (rb y kn ke kr) ke kr) (fun _ _ _ _=>KZ) (fun _ _ _ _ _=>KZ) t)
  (fun c _ _ ra rb t kn ke kr e h=>HT.rec (motive:=fun _=>KC) .bad (fun _ _ _ _=>.bad) (fun x y _ _=>A7 (c.ev e) (ra x kn ke kr e h) (rb y kn ke kr e h))
   (fun l x y _ _=>JW (c.ev e) (IP l Ar kn) (fun J=>ra x (CQ l J) ke kr e h) (fun J=>rb y (CQ l J) ke kr e h)) t)
  (fun id _ ra t kn ke kr e h=>HT.rec (motive:=fun _=>KC) .bad (fun _ _ _ _=>.bad) (fun x _ _ _=>ra x kn (TB id kn ke) kr e h)
   (fun l x _ _ _=>Zi (IP l Ar kn) fun J=>ra x (CQ l J) (TB id (CQ l J) ke) kr e h) t)
  (fun _ ra t _ ke kr e h=>HT.rec (motive:=fun _=>KC) .bad (fun _ _ _ _=>.bad) (fun _ _ _ _=>.bad)
   (fun l x _ _ _=>CQ l (BG (CT l) fun self=>IP l Ar fun e h=>ra x (CQ l self) ke kr e h) e h) t)
  (fun id _ _ ke _=>ke id)
  (fun _ _ _ kr=>kr)
  (fun g ps _ _ ra rb t kn _ _ e h=>HT.rec (motive:=fun _=>KC) .bad (fun a b _ _=>Yh (dP its (g.ev e) h fun ks xs=>
   Tp (fun x h K=>Wx ps x e fun e=>ra a (rb b (fun _ h=>K h) Uc KZ) Uc KZ e h) ks h xs h fun h=>kn e h)) (fun _ _ _ _=>.bad) (fun _ _ _ _ _=>.bad) t) c
def iI (M:List AV->Prop) (r:KC) (kn:EK) (ke:Nat->EK) (kr:EK):Ex->Env->AH->Prop:=fun x E H=>∃e ds,M ds/\E=By (.tup ds) e/\KQ r kn ke kr x e H
theorem G9 {ds:AV}{l:List Nat}{e:Env}{H:AH}(hd:e AN=.tup []):VS (By ds e) H (By ds (II l e Ar)) H:=
 VS.GI (fun t=>by
  by_cases h:t=AN
  ·subst h;rw[Cu,Cu];exact .inl rfl
  ·rw[CW h,CW h];exact(Cx hd).1 t) (by rw[Cu,Cu])
theorem iI.join {M:List AV->Prop}{r:KC}{l:List Nat}{kn:EK}{ke:Nat->EK}{kr:EK}:∀x E H,iI M r (CQ l (IP l Ar kn)) ke kr x E H->lJ (iI M r kn ke kr) x E H:=by
 rintro x E H ⟨e,ds,hM,rfl,hd,h,rfl,hx⟩
 cases x with
 | normal=>
  simp only[C3]at hx
  exact⟨_,_,G9 (l:=l) hd,_,ds,hM,rfl,(Cx hd).2,h,rfl,hx⟩
 | exit i=>exact BB ⟨e,ds,hM,rfl,hd,h,rfl,hx⟩
 | ret=>exact BB ⟨e,ds,hM,rfl,hd,h,rfl,hx⟩
 | Bi v=>exact⟨e,ds,hM,rfl,hd,h,rfl,hx⟩
section
variable {P:Program}{call:Ag}{r:KC}{n:Nat}{hs:Hints}{its:ZJ}
theorem K_ (hC:AW P call) (hI:SJ P its) (hmix:P.follows .mixedOrders=true) (hn:n<=AN):∀(c:Code) (ac:Ax),comp P hs n c=some ac->FV ac=true->∀(M:List AV->Prop) (ro:Option Nat),(Hz ac=true\/(ro=none/\∀ds,M ds->M (.nili::ds))) ->
  ∀(r:KC) (t:HT) (kn:EK) (ke:Nat->EK) (kr:EK) (e:Env) (h:KH) (ds:List AV),r≠.bad->M ds->e AN=.tup []->runM its call ac t kn ke kr e h=r->CS ro P n c (iI M r kn ke kr) (By (.tup ds) e) (Ai h):=by
 intro c
 induction c with
 | skip=>
  intro ac hc _ M ro hk r t kn ke kr e h ds hb hM hd hr
  simp only[comp,AD]at hc;subst hc
  exact CS.skip ⟨e,ds,hM,rfl,hd,h,rfl,hr⟩
 | exit id=>
  intro ac hc _ M ro hk r t kn ke kr e h ds hb hM hd hr
  simp only[comp,AD]at hc;subst hc
  exact CS.exit ⟨e,ds,hM,rfl,hd,h,rfl,hr⟩
 | ret=>
  intro ac hc _ M ro hk r t kn ke kr e h ds hb hM hd hr
  simp only[comp,AD]at hc;subst hc
  exact CS.ret ⟨e,ds,hM,rfl,hd,h,rfl,hr⟩
 | region id ops draw=>
  intro ac hc ho M ro hk r t kn ke kr e h ds hb hM hd hr
  have hbb:KC.bad≠r:=fun h=>hb h.symm
  have h1:∀e' h',e' AN=.tup []->kn e' h'=r->KQ r kn ke kr .normal e' (Ai h'):=fun e' h' q1 q2=>⟨q1,h',rfl,q2⟩
  have h2:∀v h',r=.Bi v h'->∀e',e' AN=.tup []->KQ r kn ke kr (.Bi v) e' (Ai h'):=fun v h' q1 e' q2=>⟨q2,h',rfl,q1⟩
  refine CS.ae hmix hn hc (hk.elim .inr fun h=>.inl h.1) ?_
  cases draw with
  | true=>
   simp only[comp]at hc
   split at hc<;>(try (cases hc;done))
   split at hc<;>(try (cases hc;done))
   rename_i plan hpl
   split at hc<;>(try (cases hc;done))
   simp only[AD]at hc;subst hc
   have hk:=Na hC hb (K':=fun e' H'=>KQ r kn ke kr .normal e' H') (Kp':=fun v e' H'=>KQ r kn ke kr (.Bi v) e' H') h1 h2 hd hr
   refine Oh ?_
   rw[cU ho]
   exact Qj (fun e' H' q=>Fu ⟨e',ds,hM,rfl,q⟩) (fun v H' q=>⟨_,ds,hM,rfl,q⟩) plan e _ [] ho hk
  | false=>
   simp only[comp,AO]at hc
   obtain⟨al,hal,rfl⟩:=hc
   have hk:=Px hC hb (K':=fun e' H'=>KQ r kn ke kr .normal e' H') (Kp':=fun v e' H'=>KQ r kn ke kr (.Bi v) e' H') h1 h2 hd hr
   exact HF (On (fun e' H' q=>Fu ⟨e',ds,hM,rfl,q⟩) (fun v e' H' q=>⟨e',ds,hM,rfl,q⟩) al e _ ho hk)
 | seq x y ihx ihy=>
  intro ac hc ho M ro hk r t kn ke kr e h ds hb hM hd hr
  have hbb:KC.bad≠r:=fun h=>hb h.symm
  simp only[comp]at hc
  split at hc
  ·rename_i ax ay hx hy
   simp only[AD]at hc;subst hc
   simp only[FV,AS]at ho
   cases t with
   | l=>exact absurd hr hbb
   | i a b=>exact absurd hr hbb
   | j l a b=>exact absurd hr hbb
   | s a b=>
    have hr:runM its call ax a (runM its call ay b kn ke kr) ke kr e h=r:=hr
    refine CS.seq (CS.post ?_ (ihx ax hx ho.1 M ro (hk.imp (fun h=>by simp only[Hz,AS]at h;exact h.1) id) r a _ ke kr e h ds hb hM hd hr))
    rintro z E' H' ⟨e',ds',hM',rfl,hd',h',rfl,hz⟩
    refine BB ?_
    cases z with
    | normal=>exact ihy ay hy ho.2 M ro (hk.imp (fun h=>by simp only[Hz,AS]at h;exact h.2) id) r b kn ke kr e' h' ds' hb hM' hd' hz
    | exit i=>exact⟨e',ds',hM',rfl,hd',h',rfl,hz⟩
    | ret=>exact⟨e',ds',hM',rfl,hd',h',rfl,hz⟩
    | Bi v=>exact⟨e',ds',hM',rfl,hd',h',rfl,hz⟩
  ·cases hc
 | cond c x y ihx ihy=>
  intro ac hc ho M ro hk r t kn ke kr e h ds hb hM hd hr
  have hbb:KC.bad≠r:=fun h=>hb h.symm
  simp only[comp]at hc
  split at hc
  ·rename_i c' ax ay h1 hx hy
   simp only[AD]at hc;subst hc
   simp only[FV,AS]at ho
   obtain⟨hoc,hox,hoy⟩:=ho
   have k1:Hz ax=true\/(ro=none/\∀ds,M ds->M (.nili::ds)):=hk.imp (fun h=>by simp only[Hz,AS]at h;exact h.1) id
   have k2:Hz ay=true\/(ro=none/\∀ds,M ds->M (.nili::ds)):=hk.imp (fun h=>by simp only[Hz,AS]at h;exact h.2) id
   have hev:c'.ev (By (.tup ds) e)=c'.ev e:=AF.BN fun t ht=>CW (Jc hoc t ht)
   have go:∀{A B:KC} {Q:Ex->Env->AH->Prop},A7 (c'.ev e) A B=r->(A=r->CS ro P n x Q (By (.tup ds) e) (Ai h))->(B=r->CS ro P n y Q (By (.tup ds) e) (Ai h))->CS ro P n (.cond c x y) Q (By (.tup ds) e) (Ai h):=fun{A B Q} hi ha hbq=>by
    unfold A7 at hi
    cases hv:Tw (c'.ev e)with
    | no=>rw[hv]at hi;exact absurd hi hbb
    | «at» b=>
     rw[hv]at hi
     refine CS.cond h1 (by rw[hev];exact OV hv) (fun ht=>?_) (fun ht=>?_)
     ·subst ht;exact ha hi
     ·subst ht;exact hbq hi
   cases t with
   | l=>exact absurd hr hbb
   | s a b=>exact absurd hr hbb
   | i a b=>exact go hr (fun q=>ihx ax hx hox M ro k1 r a kn ke kr e h ds hb hM hd q) (fun q=>ihy ay hy hoy M ro k2 r b kn ke kr e h ds hb hM hd q)
   | j l a b=>exact go hr (fun q=>(ihx ax hx hox M ro k1 r a _ ke kr e h ds hb hM hd q).post iI.join) (fun q=>(ihy ay hy hoy M ro k2 r b _ ke kr e h ds hb hM hd q).post iI.join)
  ·cases hc
 | block id x ih=>
  intro ac hc ho M ro hk r t kn ke kr e h ds hb hM hd hr
  have hbb:KC.bad≠r:=fun h=>hb h.symm
  simp only[comp,AO]at hc
  obtain⟨ax,hx,rfl⟩:=hc
  cases t with
  | l=>exact absurd hr hbb
  | s a b=>exact absurd hr hbb
  | i a b=>
   refine CS.block ((ih ax hx ho M ro hk r a kn (TB id kn ke) kr e h ds hb hM hd hr).post ?_)
   rintro z E' H' ⟨e',ds',hM',rfl,hd',h',rfl,hz⟩
   refine BB ?_
   cases z with
   | normal=>exact⟨e',ds',hM',rfl,hd',h',rfl,hz⟩
   | exit i=>
    simp only[Ob]at hz
    simp only[]
    by_cases hi:i=id
    ·rw[if_pos hi];rw[if_pos hi]at hz;exact⟨e',ds',hM',rfl,hd',h',rfl,hz⟩
    ·rw[if_neg hi];rw[if_neg hi]at hz;exact⟨e',ds',hM',rfl,hd',h',rfl,hz⟩
   | ret=>exact⟨e',ds',hM',rfl,hd',h',rfl,hz⟩
   | Bi v=>exact⟨e',ds',hM',rfl,hd',h',rfl,hz⟩
  | j l a b=>
   have hr:runM its call ax a (CQ l (IP l Ar kn)) (TB id (CQ l (IP l Ar kn)) ke) kr e h=r:=hr
   refine CS.block ((ih ax hx ho M ro hk r a _ _ kr e h ds hb hM hd hr).post ?_)
   rintro z E' H' ⟨e',ds',hM',rfl,hd',h',rfl,hz⟩
   cases z with
   | normal=>exact iI.join (l:=l) .normal _ _ ⟨e',ds',hM',rfl,hd',h',rfl,hz⟩
   | exit i=>
    simp only[Ob]at hz
    by_cases hi:i=id
    ·rw[if_pos hi]at hz
     simp only[C3]at hz
     refine⟨_,_,G9 (l:=l) hd',?_⟩
     simp only[hi,if_true]
     exact⟨_,ds',hM',rfl,(Cx hd').2,h',rfl,hz⟩
    ·rw[if_neg hi]at hz
     refine BB ?_
     simp only[]
     rw[if_neg hi];exact⟨e',ds',hM',rfl,hd',h',rfl,hz⟩
   | ret=>exact BB ⟨e',ds',hM',rfl,hd',h',rfl,hz⟩
   | Bi v=>exact⟨e',ds',hM',rfl,hd',h',rfl,hz⟩
 | loop x ih=>
  intro ac hc ho M ro hk r t kn ke kr e h ds hb hM hd hr
  have hbb:KC.bad≠r:=fun h=>hb h.symm
  simp only[comp,AO]at hc
  obtain⟨ax,hx,rfl⟩:=hc
  cases t with
  | l=>exact absurd hr hbb
  | s a b=>exact absurd hr hbb
  | i a b=>exact absurd hr hbb
  | j l a b=>
   have hr:CQ l (Vd (CT l) (fun self=>IP l Ar fun e h=>runM its call ax a (CQ l self) ke kr e h) bH) e h=r:=hr
   generalize hbody:(fun self:JT l=>IP l Ar fun e h=>runM its call ax a (CQ l self) ke kr e h)=body at hr
   refine CS.loop (L:=fun k E H=>∃e ds,M ds/\E=By (.tup ds) e/\e AN=.tup []/\∃h,Ai h=H/\CQ l (Vd (CT l) body k) e h=r) ⟨e,ds,hM,rfl,hd,h,rfl,hr⟩ ?_
   rintro k E1 H1 ⟨e1,ds1,hM1,rfl,hd1,h1,rfl,hr1⟩
   cases k with
   | zero=>
    have hr1:CQ l (CT l) e1 h1=r:=hr1
    rw[LN]at hr1
    exact absurd hr1 hbb
   | succ k=>
    have hr1:CQ l (body (Vd (CT l) body k)) e1 h1=r:=hr1
    rw[<- hbody,C3,hbody]at hr1
    refine CS.vs (G9 (l:=l) hd1) ((ih ax hx ho M ro hk r a _ ke kr _ h1 ds1 hb hM1 (Cx hd1).2 hr1).post ?_)
    rintro z E' H' ⟨e',ds',hM',rfl,hd',h',rfl,hz⟩
    refine BB ?_
    cases z with
    | normal=>exact⟨k,Nat.lt_succ_self k,e',ds',hM',rfl,hd',h',rfl,hz⟩
    | exit i=>exact⟨e',ds',hM',rfl,hd',h',rfl,hz⟩
    | ret=>exact⟨e',ds',hM',rfl,hd',h',rfl,hz⟩
    | Bi v=>exact⟨e',ds',hM',rfl,hd',h',rfl,hz⟩
 | rangeFunc g ps zs bd iha ihb=>
  intro ac hc ho M ro hk r t kn ke kr e h ds hb hM hd hr
  have hbb:KC.bad≠r:=fun h=>hb h.symm
  simp only[comp]at hc
  split at hc<;>(try (cases hc;done))
  rename_i g' aa ab hg ha hb'
  split at hc<;>(try (cases hc;done))
  rename_i hok
  simp only[AD]at hc;subst hc
  obtain⟨hps,ra,rb⟩:=hok
  have hps:∀p∈ps.toList,p<n:=fun p hp=>by simpa using CY.1 hps p hp
  obtain⟨hro,hcl⟩:=hk.resolve_left (by simp[Hz])
  subst hro
  simp only[FV,AS]at ho
  obtain⟨og,op,oa,ob⟩:=ho
  cases t with
  | l=>exact absurd hr hbb
  | i a b=>exact absurd hr hbb
  | j l a b=>exact absurd hr hbb
  | s a b=>
   have hr:Yh (dP its (g'.ev e) h fun ks xs=>Tp (fun x h K=>Wx ps.toList x e fun e=>runM its call aa a (runM its call ab b (fun _ h=>K h) Uc KZ) Uc KZ e h) ks h xs h fun h=>kn e h)=r:=hr
   obtain⟨hr,hnp⟩:=ei hb hr
   obtain⟨f,caps,ks,xs,q1,q2,q3⟩:=Zb hb hr
   generalize hfn:(fun(x:List AV) (h:KH) (K:KH->KC)=>Wx ps.toList x e fun e=>runM its call aa a (runM its call ab b (fun _ h=>K h) Uc KZ) Uc KZ e h)=F at q3
   have hev:g'.ev (By (.tup ds) e)=g'.ev e:=AF.BN fun t ht=>CW (Jc og t ht)
   refine CS.mK (f:=f) (caps:=caps) (ds:=ds) (I:=fun i H=>∃h',Ai h'=H/\(∀r∈ks,(Ai h').cells? r=(Ai h).cells? r)/\Tp F ks h (xs.drop i) h' (fun h=>kn e h)=r) hn hg hps (by rw[hev];exact q1) (Cu _ _) (hI f caps h ks xs q2) (fun i H' hI'=>by obtain⟨h',rfl,k1,_⟩:=hI';exact k1) ⟨h,rfl,fun _ _=>rfl,q3⟩ (fun i x Hi _ hx hIi hle=>?_) (fun Hn hIn=>?_)
   ·obtain⟨h',rfl,_,hr'⟩:=hIi
    obtain⟨hi,hx⟩:=BU.1 hx
    rw[C8 hi,hx]at hr'
    have hr':F x h' (fun h''=>Bool.rec (motive:=fun _=>KC) .bad (Tp F ks h (xs.drop (i+1)) h'' fun h=>kn e h) (Rk h h'' ks))=r:=hr'
    rw[<- hfn]at hr'
    obtain⟨p1,p2⟩:=RE hb ps.toList x e hr'
    rw[hfn]at p2
    refine⟨by simpa using p1,fun l=>?_⟩
    rw[T9 op hd]
    have hse:D6 e ps.toList x AN=.tup []:=by rw[Mm _ _ _ _ (fun hm=>Jc op _ hm rfl)];exact hd
    refine CS.post ?_ (iha aa ha oa (fun ds=>ds=[]) (some l) (.inl ra) r a _ Uc KZ _ h' [] hb rfl hse p2)
    rintro z E' H' ⟨e',ds',rfl,rfl,hd',h'',rfl,hz⟩
    cases z with
    | exit i=>exact absurd hz hbb
    | ret=>exact absurd hz hbb
    | Bi v=>exact absurd hz (hnp _ _)
    | normal=>
     refine BB ⟨rfl,?_⟩
     refine CS.post ?_ (ihb ab hb' ob (fun ds=>ds=[]) (some l) (.inl rb) r b _ Uc KZ e' h'' [] hb rfl hd' hz)
     rintro z2 E2 H2 ⟨e2,ds2,rfl,rfl,hd2,h2,rfl,hz2⟩
     cases z2 with
     | exit i=>exact absurd hz2 hbb
     | ret=>exact absurd hz2 hbb
     | Bi v=>exact absurd hz2 (hnp _ _)
     | normal=>
      have hz2:Bool.rec (motive:=fun _=>KC) .bad (Tp F ks h (xs.drop (i+1)) h2 fun h=>kn e h) (Rk h h2 ks)=r:=hz2
      cases hkk:Rk h h2 ks with
      | false=>rw[hkk]at hz2;exact absurd hz2 hbb
      | true=>rw[hkk]at hz2;exact BB ⟨rfl,⟨h2,rfl,NX ks hkk,hz2⟩,trivial⟩
   ·obtain⟨h',rfl,_,hr'⟩:=hIn
    rw[List.drop_length]at hr'
    refine⟨e,.nili::ds,hcl ds hM,?_,hd,h',rfl,hr'⟩
    funext t
    by_cases ht:t=AN
    ·subst ht;rw[Env.GC,Cu]
    ·rw[Env.G1 _ _ ht,CW ht,CW ht]
 | label l=>
  intro ac hc _ M ro hk r t kn ke kr e h ds hb hM hd hr
  simp only[comp,AD]at hc;subst hc
  exact CS.label ⟨e,ds,hM,rfl,hd,h,rfl,hr⟩
 | scope x ih=>
  intro ac hc ho M ro hk r t kn ke kr e h ds hb hM hd hr
  have hbb:KC.bad≠r:=fun h=>hb h.symm
  simp only[comp,AO]at hc
  obtain⟨ax,hx,rfl⟩:=hc
  simp only[FV,AS]at ho
  obtain⟨_,hox,_⟩:=ho
  have k1:Hz ax=true\/(ro=none/\∀ds,M ds->M (.nili::ds)):=hk.imp (fun h=>by simp only[Hz,AS]at h;exact h.1) id
  cases t with
  | l=>exact absurd hr hbb
  | s a b=>exact absurd hr hbb
  | i a b=>exact CS.scope (ih ax hx hox M ro k1 r a kn ke kr e h ds hb hM hd hr)
  | j l a b=>exact CS.scope ((ih ax hx hox M ro k1 r a _ ke kr e h ds hb hM hd hr).post iI.join)
 | _=>intro ac hc;simp[comp]at hc
end
end
noncomputable section
variable [BX]
section
variable {P:Program}
theorem Mh.cY {f:FuncId}{n:Nat}{ac:Ax}{ars:List Cc}(hF:Mh P f n ac ars){args:List AV}{H:AH}{post:Am->AH->Prop}(hlen:args.length<=n)
  (h:∀c hs,comp P hs n c=some ac->DS P n c (dpost P ars post) (CI args) H):AP P f args H post:=by
 have hle:=hF.le
 obtain⟨fn,c,hs,hf,Di,hb,hn,hc,hr⟩:=hF.ex
 subst hn
 refine AP.Vz ⟨fn,hf,Di,by rw[hb];rfl⟩ fun Z σ w vs hO _ hW hv=>calls_of_wp_defers hf hb ?_
 have hfr:FR Z σ fn.ntmps (CI args) { tmps:=vs.toArray++Array.replicate (fn.ntmps-vs.toArray.size) undef,defers:=[] }:=MY hv hlen hle
 refine Code.wp_mono ?_ (wpIn_wide.1 (h c hs hc Z σ _ w Z σ H.next hO Ly (CR.refl _) (Nw.refl _ _) (A5 _) hW hfr))
 intro ex a' w' hq
 obtain⟨Z',σ',z,e',H',g1,g2,g3,g4,g5,g6,g,all,m,hds,hx,hA⟩:=hq
 cases z with
 | normal=>cases g6;subst hx;exact Fh (m:=none) hr g1 g2 g3 g4 g5 hds rfl hA
 | ret=>cases g6;subst hx;exact Fh (m:=none) hr g1 g2 g3 g4 g5 hds rfl hA
 | Bi v=>
  obtain⟨cv,rfl,hv⟩:=g6
  subst hx
  exact Fh (m:=some v) hr g1 g2 g3 g4 g5 hds ⟨cv,rfl,hv⟩ hA
 | exit i=>exact hx.elim
def XM (q:List Cc):Bool:=q.all fun x=>match x with
 | .tmp t=>Nat.ble (t+1) AN
 | .cell a _=>Nat.ble (a+1) AN
theorem GQ {ds:AV}{e:Env}{H:AH}:∀q:List Cc,XM q=true->DQ (By ds e) H q=DQ e H q
 | [],_=>rfl
 | .tmp t::q,h=>by
  simp only[XM,EB,AS]at h
  have:=Ab h.1
  simp only[DQ,GQ q h.2,CW (ds:=ds) (e:=e) (t:=t) (by omega)]
 | .cell a g::q,h=>by
  simp only[XM,EB,AS]at h
  have:=Ab h.1
  simp only[DQ,GQ q h.2,CW (ds:=ds) (e:=e) (t:=a) (by omega)]
theorem Tu {e:Env}{H:AH}{K:Env->AH->Prop}{Kp:AV->Env->AH->Prop}{l:List A_}{d:Option Nat}{f:AF}{args:List AF}{g:FuncId}{first cap ds:List AV}(hf:f.ev e=.fn (.func g) first cap) (hd:e AN=.tup ds)
  (hK:CJ P l ((e.set AN (.tup (.tup [.fn (.func g) [] [],.tup (first++args.map (·.ev e)++cap)]::ds))).put d .unk) H K Kp):CJ P (⟨d,.defer f args,none⟩::l) e H K Kp:=by
 simp only[CJ,hf,hd];exact hK
theorem VG {e:Env}{H:AH}{K:Env->AH->Prop}{Kp:AV->Env->AH->Prop}(h:K e H):CJ P [] e H K Kp:=h
def Pm:ZJ:=fun _ _ _=>none
theorem UR {P:Program}:SJ P Pm:=fun _ _ _ _ _ h=>by cases h
def gS (np:Nat) (q:List Cc) (a0 a1 a3:Ax) (t:Nat) (g:FuncId) (cp:List AF) (t0 t1 t3:HT):Ag->List AV->KH->KC:=fun call zs h=>
 Yh (MQ np 0 Ar zs h fun e h=>run call a0 t0 (run call a1 t1 (fun e h=>runM Pm call a3 t3 (Ik q) (fun _=>KZ) (Ik q) (e.set t (.fn (.func g) [] (GH e cp))) h) (fun _=>KZ) KZ) (fun _=>KZ) KZ e h)
theorem Ui {f g:FuncId}{n np t:Nat}{q:List Cc}{a0 a1 a3:Ax}{cp:List AF}{t0 t1 t3:HT}
  (hF:Mh P f n (.seq a0 (.seq a1 (.seq (.reg [⟨some t,.mkFunc (.func g) [] cp,none⟩,⟨none,.defer (.tmp t) [],none⟩]) a3))) q)
  (ht:Nat.ble (t+1) AN=true) (ho:FV a3=true) (hro:Hz a3=true) (hq:XM q=true) (hnp:Nat.ble np n=true) (hA:∀all H,all.length=cp.length->FW P g all none H fun H'=>H'=H) {F:GF} (hf:F=gS np q a0 a1 a3 t g cp t0 t1 t3):Aw P f F:=by
 subst hf
 intro call hC zs h
 have hnp:=Ab hnp
 have ht:=Ab ht
 refine⟨fun v hv hr=>?_,fun v hv hr=>?_⟩
 ·obtain⟨r,hr'⟩:∃r,r=MQ np 0 Ar zs h fun e h=>run call a0 t0 (run call a1 t1 (fun e h=>runM Pm call a3 t3 (Ik q) (fun _=>KZ) (Ik q) (e.set t (.fn (.func g) [] (GH e cp))) h) (fun _=>KZ) KZ) (fun _=>KZ) KZ e h:=⟨_,rfl⟩
  have hr:Yh r=.ret v hv:=by rw[hr'];exact hr
  have hrv:r=.ret v hv:=by
   cases r with
   | ret v' h'=>exact hr
   | Bi v' h'=>cases hr
   | bad=>cases hr
  subst hrv
  have hb:KC.ret v hv≠.bad:=by intro x;cases x
  have hnb:∀{x:KC},x=KC.bad->x=.ret v hv->False:=fun h1 h2=>by rw[h1]at h2;cases h2
  obtain⟨h1,e,h2,h3⟩:=IM hb np 0 Ar zs hr'.symm
  have hle:=hF.le
  have he:e=CI zs:=by
   funext t
   rw[h3,CI,Ar,Ck,Cr]
   by_cases c1:t=AN
   ·subst c1
    rw[if_neg (by omega),if_pos rfl,if_pos rfl]
   ·rw[if_neg c1,if_neg c1]
    by_cases c2:t<np
    ·rw[if_pos (by omega)];rfl
    ·rw[if_neg (by omega),A6,BM (by omega)];rfl
  subst he
  refine hF.cY (by omega) fun c hs hc=>?_
  obtain⟨c0,c',rfl,Ut,hc'⟩:=Dc hc
  obtain⟨c1,c'',rfl,TD,hc''⟩:=Dc hc'
  obtain⟨cd,c3,rfl,hcd,QD⟩:=Dc hc''
  refine CS.seq (CS.post ?_ (KU hC hF.mix hle hb c0 a0 Ut t0 _ _ _ _ h (by simp[CI]) h2))
  rintro z e1 H1 ⟨hd1,h1',rfl,hz⟩
  refine BB ?_
  cases z with
  | exit i=>exact(hnb rfl hz).elim
  | ret=>exact(hnb rfl hz).elim
  | Bi v=>cases hz
  | normal=>
  refine CS.seq (CS.post ?_ (KU hC hF.mix hle hb c1 a1 TD t1 _ _ _ e1 h1' hd1 hz))
  rintro z e2 H2 ⟨hd2,h2',rfl,hz⟩
  refine BB ?_
  cases z with
  | exit i=>exact(hnb rfl hz).elim
  | ret=>exact(hnb rfl hz).elim
  | Bi v=>cases hz
  | normal=>
  refine CS.seq (CS.ae hF.mix hle hcd (.inl rfl) (HF ?_))
  refine Fm rfl (Gt (k:=.mkFunc (.func g) [] cp) (v:=(.fn (.func g) [] (cp.map (·.ev e2)),Ai h2')) rfl (by simp[A2,AI]) ?_)
  have hne:t≠AN:=by omega
  have hd3:(e2.put (some t) (.fn (.func g) [] (cp.map (·.ev e2)))) AN=.tup []:=by
   rw[B4 (fun h=>hne (by cases h;rfl))];exact hd2
  have hev:(AF.tmp t).ev (e2.put (some t) (.fn (.func g) [] (cp.map (·.ev e2))))=.fn (.func g) [] (cp.map (·.ev e2)):=by simp[AF.ev,Env.put,Env.AM]
  refine Tu (args:=[]) hev hd3 ?_
  refine VG (Fu ?_)
  have hz:runM Pm call a3 t3 (Ik q) (fun _=>KZ) (Ik q) (e2.set t (.fn (.func g) [] (GH e2 cp))) h2'=.ret v hv:=hz
  rw[Gl]at hz
  refine CS.post ?_ (K_ hC UR hF.mix hle c3 a3 QD ho (fun ds=>ds=[.tup [.fn (.func g) [] [],.tup (cp.map (·.ev e2))]]) none (.inl hro) _ t3 _ _ _ _ h2' _ hb rfl hd3 hz)
  rintro z E3 H3 ⟨e3,_,rfl,rfl,hd3',h3',rfl,hz⟩
  have fin:Ik q e3 h3'=.ret v hv->FW P g (cp.map (·.ev e2)) none (Ai h3') fun H'=>match DQ (By (.tup [.tup [.fn (.func g) [] [],.tup (cp.map (·.ev e2))]]) e3) H' q with
    | some vs=>Am.ret (I9 vs)=.ret v/\H'=Ai hv
    | none=>False:=fun hk=>by
   obtain⟨l,k1,k2⟩:=IL hb hk
   cases k2
   refine(hA (cp.map (·.ev e2)) _ (BR ..)).mono fun H' hH=>?_
   subst hH
   rw[GQ q hq,k1]
   exact⟨rfl,rfl⟩
  refine BB ?_
  cases z with
  | exit i=>exact(hnb rfl hz).elim
  | Bi v=>cases hz
  | normal=>exact⟨g,_,none,Cu _ _,rfl,fin hz⟩
  | ret=>exact⟨g,_,none,Cu _ _,rfl,fin hz⟩
 ·exfalso
  have hr:Yh _=KC.Bi v hv:=hr
  revert hr
  generalize (MQ np 0 Ar zs h _:KC)=r
  intro hr
  cases r<;>cases hr
def bL (its:ZJ) (np:Nat) (q:List Cc) (ac:Ax) (t:HT):Ag->List AV->KH->KC:=fun call zs h=>
 MQ np 0 Ar zs h fun e h=>runM its call ac t (Ik q) (fun _=>KZ) (Ik q) e h
theorem NZ {g n np:Nat}{q:List Cc}{ac:Ax}{t:HT}{its:ZJ}(hF:Mh P g n ac q) (hI:SJ P its) (ho:FV ac=true) (hq:XM q=true) (hnp:Nat.ble np n=true){F:GF}(hf:F=bL its np q ac t):Aw P g F:=by
 subst hf
 intro call hC zs h
 have hnp:=Ab hnp
 have main:∀(r:KC) (post:Am->AH->Prop),bL its np q ac t call zs h=r->r≠.bad->(∀v h',r=.ret v h'->post (.ret v) (Ai h'))->(∀v h',r=.Bi v h'->post (.Bi v) (Ai h'))->AP P g zs (Ai h) post:=by
  intro r post hr hb p1 p2
  obtain⟨h1,e,h2,h3⟩:=IM hb np 0 Ar zs hr
  have hle:=hF.le
  have he:CI zs=By (.tup []) e:=by
   funext t
   by_cases c1:t=AN
   ·subst c1
    rw[Cu,CI,if_pos rfl]
   ·rw[CW c1,h3,CI,Ar,Ck,Cr,if_neg c1,if_neg c1]
    by_cases c2:t<np
    ·rw[if_pos (by omega)];rfl
    ·rw[if_neg (by omega),A6,BM (by omega)];rfl
  have hd:e AN=.tup []:=by
   rw[h3,Ar,Ck,Cr,if_neg (by omega),if_pos rfl]
  refine hF.cW (by omega) fun c hs hc=>?_
  rw[he]
  refine CS.post ?_ (K_ hC hI hF.mix hF.le c ac hc ho (fun ds=>∀x∈ds,x=.nili) none (.inr ⟨rfl,fun ds hds x hx=>by cases hx with
   | head=>rfl
   | tail _ hx=>exact hds x hx⟩) r t _ _ _ _ h [] hb IE hd h2)
  rintro x E' H' ⟨e',ds,hM,rfl,hd',h',rfl,hx⟩
  refine BB ⟨⟨ds,Cu _ _,hM⟩,?_⟩
  cases x with
  | normal=>
   obtain⟨l,g1,g2⟩:=IL hb hx
   simp only[GN,GQ q hq,g1]
   exact p1 _ _ g2
  | ret=>
   obtain⟨l,g1,g2⟩:=IL hb hx
   simp only[GN,GQ q hq,g1]
   exact p1 _ _ g2
  | exit i=>exact absurd hx.symm hb
  | Bi v=>exact p2 _ _ hx
 exact⟨fun v h' hr=>main _ _ hr (by intro hh;cases hh) (fun v' h'' hh=>by cases hh;exact⟨rfl,rfl⟩) (fun v' h'' hh=>by cases hh),
  fun v h' hr=>main _ _ hr (by intro hh;cases hh) (fun v' h'' hh=>by cases hh) (fun v' h'' hh=>by cases hh;exact⟨rfl,rfl⟩)⟩
end
end
noncomputable section
section
variable [BX] [YC]
def aP (id:Nat) (K:PK) (ke:Nat->PK):Nat->PK:=(fun(_:Nat) i=>Bool.rec (motive:=fun _=>PK) (ke i) K (Nat.beq i id)) Qs
theorem XO (id:Nat) (K:PK) (ke:Nat->PK) (i:Nat):aP id K ke i=if i=id then K else ke i:=by
 show Bool.rec (motive:=fun _=>PK) (ke i) K (Nat.beq i id)=_
 rw[Ck]
 by_cases h:i=id<;>simp[h]
def ZN:PK:=fun _ _=>False
def RB (zs:List AV) (K:AV->List AV->Prop):Prop:=match zs with
 | v::t=>K v t
 | []=>False
def Ww (zs:List AV) (K:Prop):Prop:=match zs with
 | _::_=>False
 | []=>K
def Tk (P:Program) (fv:AV) (H:AH) (B:List AV->AH->(AH->Prop)->Prop) (K:AH->Prop):Prop:=∃(f:FuncId) (caps:List AV) (N:Nat) (X:Nat->AH->List AV->Prop) (Cl:(Nat->AH->Prop)->Prop) (G:AH->AH->Prop) (I:Nat->AH->Prop),
 fv=.fn (.func f) [] caps/\NF P f caps H N X Cl G/\Cl I/\I 0 H/\(∀i x Hi,i<N->X i Hi x->I i Hi->H.next<=Hi.next->B x Hi fun H2=>I (i+1) H2/\G Hi H2)/\∀Hn,I N Hn->K Hn
def SX:AV->AH->Prop:=fun _ _=>False
def mW:Nat:=
 let _a:=RB
 let _b:=Ww
 let _c:=Tk
 let _d:=SX
 Qs
def aU (ps:List Nat):List AV->Env->(Env->Prop)->Prop:=
 (fun(_:Nat)=>List.rec (motive:=fun _=>List AV->Env->(Env->Prop)->Prop) (fun x e K=>Ww x (K e)) (fun p _ ih x e K=>RB x fun v t=>ih t (e.set p v) K) ps) mW
theorem RT {K:Env->Prop}:∀(ps:List Nat) (x:List AV) (e:Env),aU ps x e K->x.length=ps.length/\K (D6 e ps x)
 | [],[],e,h=>⟨rfl,h⟩
 | [],_::_,e,h=>(show False from h).elim
 | p::ps,[],e,h=>(show False from h).elim
 | p::ps,v::x,e,h=>by
  obtain⟨h1,h2⟩:=RT ps x (e.set p v) h
  exact⟨by rw[BV,BV,h1],h2⟩
def YT:Nat->PK:=(fun(_:Nat) _=>ZN) mW
def mY (P:Program) (c:Ax):(AV->AH->Prop)->HT->PK->(Nat->PK)->PK->PK:=
 Ax.rec (motive:=fun _=>(AV->AH->Prop)->HT->PK->(Nat->PK)->PK->PK)
  (fun _ _ kn _ _=>kn)
  (fun ops Kp _ kn _ _ e h=>mZ P Kp ops e h kn)
  (fun plan Kp _ kn _ _ e h=>aQ P Kp plan e h kn)
  (fun _ _ ra rb Kp t kn ke kr=>HT.rec (motive:=fun _=>PK) ZN (fun x y _ _=>ra Kp x (rb Kp y kn ke kr) ke kr) (fun _ _ _ _=>ZN) (fun _ _ _ _ _=>ZN) t)
  (fun c _ _ ra rb Kp t kn ke kr e h=>HT.rec (motive:=fun _=>Prop) False (fun _ _ _ _=>False) (fun x y _ _=>AU (c.ev e) (ra Kp x kn ke kr e h) (rb Kp y kn ke kr e h))
   (fun l x y _ _=>Qr (c.ev e) (OE l Ar kn) (fun J=>ra Kp x (GD l J) ke kr e h) (fun J=>rb Kp y (GD l J) ke kr e h)) t)
  (fun id _ ra Kp t kn ke kr e h=>HT.rec (motive:=fun _=>Prop) False (fun _ _ _ _=>False) (fun x _ _ _=>ra Kp x kn (aP id kn ke) kr e h)
   (fun l x _ _ _=>Wv (OE l Ar kn) fun J=>ra Kp x (GD l J) (aP id (GD l J) ke) kr e h) t)
  (fun _ ra Kp t _ ke kr e h=>HT.rec (motive:=fun _=>Prop) False (fun _ _ _ _=>False) (fun _ _ _ _=>False)
   (fun l x _ _ _=>Ah l (fun self=>OE l Ar fun e h=>ra Kp x (GD l self) ke kr e h) (II l e Ar) h) t)
  (fun id _ _ _ ke _=>ke id)
  (fun _ _ _ _ kr=>kr)
  (fun g ps _ _ ra rb _ t kn _ _ e h=>HT.rec (motive:=fun _=>Prop) False (fun a b _ _=>Tk P (g.ev e) h (fun x h K=>aU ps x e fun e=>ra SX a (rb SX b (fun _ h=>K h) YT ZN) YT ZN e h) fun h=>kn e h) (fun _ _ _ _=>False) (fun _ _ _ _ _=>False) t) c
def prun (P:Program) (Kp:AV->AH->Prop) (c:Ax):HT->PK->(Nat->PK)->PK->PK:=mY P c Kp
def PQ (Kp:AV->AH->Prop) (kn:PK) (ke:Nat->PK) (kr:PK):Ex->Env->AH->Prop:=fun x e H=>e AN=.tup []/\match x with
 | .normal=>kn e H
 | .exit i=>ke i e H
 | .ret=>kr e H
 | .Bi v=>Kp v H
def ft (M:List AV->Prop) (Kp:AV->AH->Prop) (kn:PK) (ke:Nat->PK) (kr:PK):Ex->Env->AH->Prop:=fun x E H=>∃e ds,M ds/\E=By (.tup ds) e/\PQ Kp kn ke kr x e H
theorem ft.join {M:List AV->Prop}{Kp:AV->AH->Prop}{l:List Nat}{kn:PK}{ke:Nat->PK}{kr:PK}:∀x E H,ft M Kp (GD l (OE l Ar kn)) ke kr x E H->lJ (ft M Kp kn ke kr) x E H:=by
 rintro x E H ⟨e,ds,hM,rfl,hd,hx⟩
 cases x with
 | normal=>
  simp only[D9]at hx
  exact⟨_,_,G9 (l:=l) hd,_,ds,hM,rfl,(Cx hd).2,hx⟩
 | exit i=>exact BB ⟨e,ds,hM,rfl,hd,hx⟩
 | ret=>exact BB ⟨e,ds,hM,rfl,hd,hx⟩
 | Bi v=>exact⟨e,ds,hM,rfl,hd,hx⟩
theorem MD:∀{l:List Nat}{J:JP l}{e e':Env}{h:AH},(∀i∈l,e i=e' i)->Eh l J e h=Eh l J e' h
 | [],_,_,_,_,_=>rfl
 | i::l,J,e,e',h,hh=>by
  show Eh l (J (e i)) e h=Eh l (J (e' i)) e' h
  rw[hh i (.head _)]
  exact MD fun j hj=>hh j (.tail _ hj)
theorem NS:∀{l:List Nat}{J:JN l}{e e':Env}{h:AH},(∀i∈l,e i=e' i)->Jm l J e h=Jm l J e' h
 | [],_,_,_,_,_=>rfl
 | i::l,J,e,e',h,hh=>by
  show Jm l (J (e i)) e h=Jm l (J (e' i)) e' h
  rw[hh i (.head _)]
  exact NS fun j hj=>hh j (.tail _ hj)
theorem MC:∀(l:List Nat) (e0:Env) (f:PK) (e:Env) (h:AH),Eh l (UD l e0 f) e h=f (II l e e0) h
 | [],_,_,_,_=>rfl
 | i::l,e0,f,e,h=>by
  show Eh l (UD l (e0.set i (e i)) f) e h=_
  rw[MC l];rfl
section
variable {P:Program}{n:Nat}{hs:Hints}
theorem Pb (hmix:P.follows .mixedOrders=true) (hn:n<=AN):∀(c:Code) (ac:Ax),comp P hs n c=some ac->FV ac=true->∀(M:List AV->Prop) (ro:Option Nat),(Hz ac=true\/(ro=none/\∀ds,M ds->M (.nili::ds))) ->
  ∀(Kp:AV->AH->Prop) (t:HT) (kn:PK) (ke:Nat->PK) (kr:PK) (e:Env) (h:AH) (ds:List AV),M ds->e AN=.tup []->prun P Kp ac t kn ke kr e h->CS ro P n c (ft M Kp kn ke kr) (By (.tup ds) e) h:=by
 intro c
 induction c with
 | skip=>
  intro ac hc ho M ro hk Kp t kn ke kr e h ds hM hd hr
  simp only[comp,AD]at hc;subst hc
  exact CS.skip ⟨e,ds,hM,rfl,hd,hr⟩
 | exit id=>
  intro ac hc ho M ro hk Kp t kn ke kr e h ds hM hd hr
  simp only[comp,AD]at hc;subst hc
  exact CS.exit ⟨e,ds,hM,rfl,hd,hr⟩
 | ret=>
  intro ac hc ho M ro hk Kp t kn ke kr e h ds hM hd hr
  simp only[comp,AD]at hc;subst hc
  exact CS.ret ⟨e,ds,hM,rfl,hd,hr⟩
 | region id ops draw=>
  intro ac hc ho M ro hk Kp t kn ke kr e h ds hM hd hr
  have h1:∀e' h',e' AN=.tup []->kn e' h'->PQ Kp kn ke kr .normal e' h':=fun e' h' q1 q2=>⟨q1,q2⟩
  have h2:∀v h',Kp v h'->∀e',e' AN=.tup []->PQ Kp kn ke kr (.Bi v) e' h':=fun v h' q1 e' q2=>⟨q2,q1⟩
  refine CS.ae hmix hn hc (hk.elim .inr fun h=>.inl h.1) ?_
  cases draw with
  | true=>
   simp only[comp]at hc
   split at hc<;>(try (cases hc;done))
   split at hc<;>(try (cases hc;done))
   rename_i plan hpl
   split at hc<;>(try (cases hc;done))
   simp only[AD]at hc;subst hc
   have hk:=UI (K':=fun e' H'=>PQ Kp kn ke kr .normal e' H') (Kp':=fun v e' H'=>PQ Kp kn ke kr (.Bi v) e' H') h1 h2 hd hr
   refine Oh ?_
   rw[cU ho]
   exact Qj (fun e' H' q=>Fu ⟨e',ds,hM,rfl,q⟩) (fun v H' q=>⟨_,ds,hM,rfl,q⟩) plan e _ [] ho hk
  | false=>
   simp only[comp,AO]at hc
   obtain⟨al,hal,rfl⟩:=hc
   have hk:=Vr (K':=fun e' H'=>PQ Kp kn ke kr .normal e' H') (Kp':=fun v e' H'=>PQ Kp kn ke kr (.Bi v) e' H') h1 h2 hd hr
   exact HF (On (fun e' H' q=>Fu ⟨e',ds,hM,rfl,q⟩) (fun v e' H' q=>⟨e',ds,hM,rfl,q⟩) al e _ ho hk)
 | seq x y ihx ihy=>
  intro ac hc ho M ro hk Kp t kn ke kr e h ds hM hd hr
  simp only[comp]at hc
  split at hc
  ·rename_i ax ay hx hy
   simp only[AD]at hc;subst hc
   simp only[FV,AS]at ho
   cases t with
   | l=>exact(show False from hr).elim
   | i a b=>exact(show False from hr).elim
   | j l a b=>exact(show False from hr).elim
   | s a b=>
    have hr:prun P Kp ax a (prun P Kp ay b kn ke kr) ke kr e h:=hr
    refine CS.seq (CS.post ?_ (ihx ax hx ho.1 M ro (hk.imp (fun h=>by simp only[Hz,AS]at h;exact h.1) id) Kp a _ ke kr e h ds hM hd hr))
    rintro z E' H' ⟨e',ds',hM',rfl,hd',hz⟩
    refine BB ?_
    cases z with
    | normal=>exact ihy ay hy ho.2 M ro (hk.imp (fun h=>by simp only[Hz,AS]at h;exact h.2) id) Kp b kn ke kr e' H' ds' hM' hd' hz
    | exit i=>exact⟨e',ds',hM',rfl,hd',hz⟩
    | ret=>exact⟨e',ds',hM',rfl,hd',hz⟩
    | Bi v=>exact⟨e',ds',hM',rfl,hd',hz⟩
  ·cases hc
 | cond c x y ihx ihy=>
  intro ac hc ho M ro hk Kp t kn ke kr e h ds hM hd hr
  simp only[comp]at hc
  split at hc
  ·rename_i c' ax ay h1 hx hy
   simp only[AD]at hc;subst hc
   simp only[FV,AS]at ho
   obtain⟨hoc,hox,hoy⟩:=ho
   have k1:Hz ax=true\/(ro=none/\∀ds,M ds->M (.nili::ds)):=hk.imp (fun h=>by simp only[Hz,AS]at h;exact h.1) id
   have k2:Hz ay=true\/(ro=none/\∀ds,M ds->M (.nili::ds)):=hk.imp (fun h=>by simp only[Hz,AS]at h;exact h.2) id
   have hev:c'.ev (By (.tup ds) e)=c'.ev e:=AF.BN fun t ht=>CW (Jc hoc t ht)
   have go:∀{A B:Prop} {Q:Ex->Env->AH->Prop},AU (c'.ev e) A B->(A->CS ro P n x Q (By (.tup ds) e) h)->(B->CS ro P n y Q (By (.tup ds) e) h)->CS ro P n (.cond c x y) Q (By (.tup ds) e) h:=fun{A B Q} hi ha hbq=>by
    unfold AU at hi
    split at hi
    ·rename_i b hb
     exact CS.cond h1 (by rw[hev];exact hb) (fun ht=>ha (hi.1 ht)) (fun ht=>hbq (hi.2 ht))
    ·exact hi.elim
   cases t with
   | l=>exact(show False from hr).elim
   | s a b=>exact(show False from hr).elim
   | i a b=>exact go hr (fun q=>ihx ax hx hox M ro k1 Kp a kn ke kr e h ds hM hd q) (fun q=>ihy ay hy hoy M ro k2 Kp b kn ke kr e h ds hM hd q)
   | j l a b=>exact go hr (fun q=>(ihx ax hx hox M ro k1 Kp a _ ke kr e h ds hM hd q).post ft.join) (fun q=>(ihy ay hy hoy M ro k2 Kp b _ ke kr e h ds hM hd q).post ft.join)
  ·cases hc
 | block id x ih=>
  intro ac hc ho M ro hk Kp t kn ke kr e h ds hM hd hr
  simp only[comp,AO]at hc
  obtain⟨ax,hx,rfl⟩:=hc
  cases t with
  | l=>exact(show False from hr).elim
  | s a b=>exact(show False from hr).elim
  | i a b=>
   refine CS.block ((ih ax hx ho M ro hk Kp a kn (aP id kn ke) kr e h ds hM hd hr).post ?_)
   rintro z e' H' ⟨e',ds',hM',rfl,hd',hz⟩
   refine BB ?_
   cases z with
   | normal=>exact⟨e',ds',hM',rfl,hd',hz⟩
   | exit i=>
    simp only[XO]at hz
    simp only[]
    by_cases hi:i=id
    ·rw[if_pos hi];rw[if_pos hi]at hz;exact⟨e',ds',hM',rfl,hd',hz⟩
    ·rw[if_neg hi];rw[if_neg hi]at hz;exact⟨e',ds',hM',rfl,hd',hz⟩
   | ret=>exact⟨e',ds',hM',rfl,hd',hz⟩
   | Bi v=>exact⟨e',ds',hM',rfl,hd',hz⟩
  | j l a b=>
   have hr:prun P Kp ax a (GD l (OE l Ar kn)) (aP id (GD l (OE l Ar kn)) ke) kr e h:=hr
   refine CS.block ((ih ax hx ho M ro hk Kp a _ _ kr e h ds hM hd hr).post ?_)
   rintro z E' H' ⟨e',ds',hM',rfl,hd',hz⟩
   cases z with
   | normal=>exact ft.join (l:=l) .normal _ _ ⟨e',ds',hM',rfl,hd',hz⟩
   | exit i=>
    simp only[XO]at hz
    by_cases hi:i=id
    ·rw[if_pos hi]at hz
     simp only[D9]at hz
     refine⟨_,_,G9 (l:=l) hd',?_⟩
     simp only[hi,if_true]
     exact⟨_,ds',hM',rfl,(Cx hd').2,hz⟩
    ·rw[if_neg hi]at hz
     refine BB ?_
     simp only[]
     rw[if_neg hi];exact⟨e',ds',hM',rfl,hd',hz⟩
   | ret=>exact BB ⟨e',ds',hM',rfl,hd',hz⟩
   | Bi v=>exact⟨e',ds',hM',rfl,hd',hz⟩
 | loop x ih=>
  intro ac hc ho M ro hk Kp t kn ke kr e h ds hM hd hr
  simp only[comp,AO]at hc
  obtain⟨ax,hx,rfl⟩:=hc
  cases t with
  | l=>exact(show False from hr).elim
  | s a b=>exact(show False from hr).elim
  | i a b=>exact(show False from hr).elim
  | j l a b=>
   have hr:Ah l (fun self=>OE l Ar fun e h=>prun P Kp ax a (GD l self) ke kr e h) (II l e Ar) h:=hr
   obtain⟨I,μ,hI,step⟩:=hr
   refine CS.vs (G9 (l:=l) hd) (CS.loop (L:=fun k E H=>∃e ds,M ds/\E=By (.tup ds) e/\e AN=.tup []/\Eh l I e H/\Jm l μ e H=k) ⟨_,ds,hM,rfl,(Cx hd).2,hI,rfl⟩ ?_)
   rintro k E1 H1 ⟨e1,ds1,hM1,rfl,hd1,hI1,rfl⟩
   have st:=step e1 H1 hI1
   have st:GD l (OE l Ar fun e h=>prun P Kp ax a (GD l (UD l emp fun e' H'=>Eh l I e' H'/\Jm l μ e' H'<Jm l μ e1 H1)) ke kr e h) e1 H1:=st
   rw[D9]at st
   refine CS.vs (G9 (l:=l) hd1) ((ih ax hx ho M ro hk Kp a _ ke kr _ H1 ds1 hM1 (Cx hd1).2 st).post ?_)
   rintro z e' H' ⟨e',ds',hM',rfl,hd',hz⟩
   refine BB ?_
   cases z with
   | normal=>
    have hz:Eh l (UD l emp fun e' H'=>Eh l I e' H'/\Jm l μ e' H'<Jm l μ e1 H1) e' H':=hz
    rw[MC]at hz
    have c:∀i∈l,II l e' emp i=e' i:=fun i hi=>by rw[Dh,if_pos hi]
    rw[MD c,NS c]at hz
    exact⟨_,hz.2,e',ds',hM',rfl,hd',hz.1,rfl⟩
   | exit i=>exact⟨e',ds',hM',rfl,hd',hz⟩
   | ret=>exact⟨e',ds',hM',rfl,hd',hz⟩
   | Bi v=>exact⟨e',ds',hM',rfl,hd',hz⟩
 | rangeFunc g ps zs bd iha ihb=>
  intro ac hc ho M ro hk Kp t kn ke kr e h ds hM hd hr
  simp only[comp]at hc
  split at hc<;>(try (cases hc;done))
  rename_i g' aa ab hg ha hb'
  split at hc<;>(try (cases hc;done))
  rename_i hok
  simp only[AD]at hc;subst hc
  obtain⟨hps,ra,rb⟩:=hok
  have hps:∀p∈ps.toList,p<n:=fun p hp=>by simpa using CY.1 hps p hp
  obtain⟨hro,hcl⟩:=hk.resolve_left (by simp[Hz])
  subst hro
  simp only[FV,AS]at ho
  obtain⟨og,op,oa,ob⟩:=ho
  cases t with
  | l=>exact(show False from hr).elim
  | i a b=>exact(show False from hr).elim
  | j l a b=>exact(show False from hr).elim
  | s a b=>
   have hr:Tk P (g'.ev e) h (fun x h K=>aU ps.toList x e fun e=>prun P SX aa a (prun P SX ab b (fun _ h=>K h) YT ZN) YT ZN e h) fun h=>kn e h:=hr
   obtain⟨f,caps,N,X,Cl,G,I,q1,q2,qc,q3,q4,q5⟩:=hr
   have hev:g'.ev (By (.tup ds) e)=g'.ev e:=AF.BN fun t ht=>CW (Jc og t ht)
   refine CS.mK (f:=f) (caps:=caps) (N:=N) (X:=X) (Cl:=Cl) (G:=G) (ds:=ds) (I:=I) hn hg hps (by rw[hev];exact q1) (Cu _ _) q2 qc q3 (fun i x Hi hi hx hIi hle=>?_) (fun Hn hIn=>?_)
   ·obtain⟨p1,p2⟩:=RT ps.toList x e (q4 i x Hi hi hx hIi hle)
    refine⟨by simpa using p1,fun l=>?_⟩
    rw[T9 op hd]
    have hse:D6 e ps.toList x AN=.tup []:=by rw[Mm _ _ _ _ (fun hm=>Jc op _ hm rfl)];exact hd
    refine CS.post ?_ (iha aa ha oa (fun ds=>ds=[]) (some l) (.inl ra) SX a _ YT ZN _ Hi [] rfl hse p2)
    rintro z E' H' ⟨e',ds',rfl,rfl,hd',hz⟩
    cases z with
    | exit i=>exact(show False from hz).elim
    | ret=>exact(show False from hz).elim
    | Bi v=>exact(show False from hz).elim
    | normal=>
     refine BB ⟨rfl,?_⟩
     refine CS.post ?_ (ihb ab hb' ob (fun ds=>ds=[]) (some l) (.inl rb) SX b _ YT ZN e' H' [] rfl hd' hz)
     rintro z2 E2 H2 ⟨e2,ds2,rfl,rfl,hd2,hz2⟩
     cases z2 with
     | exit i=>exact(show False from hz2).elim
     | ret=>exact(show False from hz2).elim
     | Bi v=>exact(show False from hz2).elim
     | normal=>exact BB ⟨rfl,hz2⟩
   ·refine⟨e,.nili::ds,hcl ds hM,?_,hd,q5 Hn hIn⟩
    funext t
    by_cases ht:t=AN
    ·subst ht;rw[Env.GC,Cu]
    ·rw[Env.G1 _ _ ht,CW ht,CW ht]
 | label l=>
  intro ac hc ho M ro hk Kp t kn ke kr e h ds hM hd hr
  simp only[comp,AD]at hc;subst hc
  exact CS.label ⟨e,ds,hM,rfl,hd,hr⟩
 | scope x ih=>
  intro ac hc ho M ro hk Kp t kn ke kr e h ds hM hd hr
  simp only[comp,AO]at hc
  obtain⟨ax,hx,rfl⟩:=hc
  simp only[FV,AS]at ho
  obtain⟨_,hox,_⟩:=ho
  have k1:Hz ax=true\/(ro=none/\∀ds,M ds->M (.nili::ds)):=hk.imp (fun h=>by simp only[Hz,AS]at h;exact h.1) id
  cases t with
  | l=>exact(show False from hr).elim
  | s a b=>exact(show False from hr).elim
  | i a b=>exact CS.scope (ih ax hx hox M ro k1 Kp a kn ke kr e h ds hM hd (hr.1 rfl))
  | j l a b=>exact CS.scope ((ih ax hx hox M ro k1 Kp a _ ke kr e h ds hM hd (hr.1 rfl)).post ft.join)
 | _=>intro ac hc;simp[comp]at hc
end
def ij (q:List Cc) (e:Env) (h:AH):(List AV->Prop)->Prop:=
 (fun(_:Nat)=>List.rec (motive:=fun _=>(List AV->Prop)->Prop) (fun K=>K []) (fun r _ ih K=>Cc.rec (motive:=fun _=>Prop) (fun i=>ih fun l=>K (e i::l)) (fun a g=>AE (.load g (.cst (e a))) h fun v=>ih fun l=>K (v::l)) r) q) Qs
theorem MA {e:Env}{h:AH}:∀{q:List Cc}{K:List AV->Prop},ij q e h K->∃l,DQ e h q=some l/\K l
 | [],K,hr=>⟨[],rfl,hr⟩
 | .tmp i::q,K,hr=>by
  obtain⟨l,h1,h2⟩:=MA (q:=q) (K:=fun l=>K (e i::l)) hr
  exact⟨_,by simp only[DQ,h1];rfl,h2⟩
 | .cell a g::q,K,hr=>by
  have hr:AE (.load g (.cst (e a))) h (fun v=>ij q e h fun l=>K (v::l)):=hr
  obtain⟨v,g1,g2⟩:=L0 hr
  obtain⟨l,h1,h2⟩:=MA (q:=q) g2
  have g1:BC g (e a) h=some v:=g1
  exact⟨_,by simp only[DQ,g1,h1];rfl,h2⟩
def eR (q:List Cc) (Post:Am->AH->Prop):PK:=fun e h=>ij q e h fun l=>Post (.ret (I9 l)) h
def Xv (zs:List AV):Env:=fun i=>Bool.rec (motive:=fun _=>AV) (bK zs i) (.tup []) (Nat.beq i AN)
theorem QN (zs:List AV):Xv zs=CI zs:=by
 funext i
 unfold Xv CI
 rw[Ck,Uf]
 by_cases h:i=AN<;>simp[h]
def yp (Post:Am->AH->Prop):AV->AH->Prop:=fun v H=>Post (.Bi v) H
def aO (P:Program) (q:List Cc) (ac:Ax) (t:HT) (zs:List AV) (H:AH) (Post:Am->AH->Prop):Prop:=
 prun P (yp Post) ac t (eR q Post) (fun _=>ZN) (eR q Post) (Xv zs) H
theorem gf {P:Program}{g:FuncId}{fn:Func}{n:Nat}{hs:Hints}{q:List Cc}(hmix:P.follows .mixedOrders=true) (hf:P.funcs[g]?=some fn) (Di:(fn.name=="runtime.NumGoroutine")=false)
  (hn:fn.ntmps=n) (hb:(fn.body.bind (comp P hs n)).isSome=true) (hr:Gb P fn.results.toList=some q) (hle:Nat.ble n AN=true):Mh P g n (Ea P fn hs n) q:=by
 obtain⟨ac,hac⟩:=FA.1 hb
 have e:Ea P fn hs n=ac:=by unfold Ea;rw[hac]
 rw[e]
 exact Mh.mk' hmix hf Di hn hac hr hle
theorem UG {q:List Cc}(hq:XM q=true){Post:Am->AH->Prop}:∀x E H,ft (fun ds=>∀x∈ds,x=.nili) (yp Post) (eR q Post) (fun _=>ZN) (eR q Post) x E H->lJ (fun x e H=>(∃ds,e AN=.tup ds/\∀x∈ds,x=.nili)/\GN q Post x e H) x E H:=by
 rintro x E' H' ⟨e',ds,hM,rfl,hd,hx⟩
 refine BB ⟨⟨ds,Cu _ _,hM⟩,?_⟩
 cases x with
 | normal=>
  obtain⟨l,g1,g2⟩:=MA hx
  simp only[GN,GQ q hq,g1];exact g2
 | ret=>
  obtain⟨l,g1,g2⟩:=MA hx
  simp only[GN,GQ q hq,g1];exact g2
 | exit i=>exact(show False from hx).elim
 | Bi v=>exact hx
theorem Pn:∀ds:List AV,(∀x∈ds,x=.nili)->∀x∈(.nili::ds:List AV),x=.nili:=fun ds hds x hx=>by
 cases hx with
 | head=>rfl
 | tail _ hx=>exact hds x hx
theorem Ru (zs:List AV):By (.tup []) (Xv zs)=CI zs:=by
 rw[QN]
 funext t
 by_cases h:t=AN
 ·subst h;rw[Cu];simp[CI]
 ·rw[CW h]
end
section
variable [BX]
theorem Pd {P:Program}{g n:Nat}{q:List Cc}{ac:Ax}{t:HT}(hF:Mh P g n ac q) (ho:FV ac=true) (hq:XM q=true){zs:List AV}(hlen:Nat.ble zs.length n=true){H:AH}{Post:Am->AH->Prop}{G:Prop}(hG:G=aO P q ac t zs H Post) (h:G):AP P g zs H Post:=by
 rw[hG]at h
 refine hF.cW (Ab hlen) fun c hs hc=>?_
 rw[<- Ru]
 exact CS.post (UG hq) (Pb hF.mix hF.le c ac hc ho _ none (.inr ⟨rfl,Pn⟩) _ t _ _ _ _ H [] IE (by rw[QN];simp[CI]) h)
theorem Vt {P:Program}{g n:Nat}{q:List Cc}{ac:Ax}{t:HT}(hF:Mh P g n ac q) (ho:FV ac=true) (hq:XM q=true){caps:List AV}{N:Nat}{X:Nat->AH->List AV->Prop}{Cl:(Nat->AH->Prop)->Prop}{G:AH->AH->Prop}(hlen:Nat.ble (caps.length+1) n=true){H:AH}
  (h:∀l I,Cl I->I 0 H->@aO (Vb l N X G I) P q ac t (.fn (.yield l) [] []::caps) H (fun out H'=>(∃v,out=.ret v)/\I N H')):NF P g caps H N X Cl G:=
 hF.tN (Ab hlen) fun l I hCl hI c hs hc=>by
  rw[<- Ru]
  exact @CS.post (Vb l N X G I) _ _ _ _ _ _ _ _ (@UG _ (Vb l N X G I) _ hq _) (@Pb _ (Vb l N X G I) _ _ _ hF.mix hF.le c ac hc ho _ none (.inr ⟨rfl,Pn⟩) _ t _ _ _ _ H [] IE (by rw[QN];simp[CI]) (h l I hCl hI))
end
end
section
variable [BX]
mutual
inductive Wl:AV->Prop
 | bool (b:Bool):Wl (.bool b)
 | int (k:IntKind) (n:Int):Wl (.int k n)
 | str (l:List UInt8):Wl (.str l)
 | nilp:Wl .nilp
 | nils:Wl .nils
 | nilm:Wl .nilm
 | nili:Wl .nili
 | agg {l:List AV} (h:TY l):Wl (.agg l)
 | tup {l:List AV} (h:TY l):Wl (.tup l)
inductive TY:List AV->Prop
 | nil:TY []
 | cons {x:AV} {l:List AV} (h:Wl x) (t:TY l):TY (x::l)
end
mutual
theorem Wl.vr {Z Z':Zt}{σ σ':Sg}:∀{x:AV}{v:Value},Wl x->VR Z σ x v->VR Z' σ' x v
 | _,_,.bool _,h=>by cases h;exact .bool _
 | _,_,.int _ _,h=>by cases h;exact .int _ _
 | _,_,.str _,h=>by cases h;exact .str _
 | _,_,.nilp,h=>by cases h;exact .nilp
 | _,_,.nils,h=>by cases h;exact .nils
 | _,_,.nilm,h=>by cases h;exact .nilm
 | _,_,.nili,h=>by cases h;exact .nili
 | _,_,.agg hp,h=>by cases h with | agg h1 h=>exact .agg h1 (hp.vr h)
 | _,_,.tup hp,h=>by cases h with | tup h=>exact .tup (hp.vr h)
theorem TY.vr {Z Z':Zt}{σ σ':Sg}:∀{l:List AV}{vs:List Value},TY l->CE Z σ l vs->CE Z' σ' l vs
 | _,_,.nil,h=>by cases h;exact .nil
 | _,_,.cons hx ht,h=>by cases h with | cons a b=>exact .cons (hx.vr a) (ht.vr b)
end
section
variable {P:Program}
end
end
noncomputable section
variable [BX]
mutual
inductive KL (H:AH):AV->AV->Prop
 | pln {x:AV} (h:Wl x):KL H x x
 | unk (x:AV):KL H x .unk
 | sl {r o n m:Nat} {lim:SI} {l l':List AV} {ex:Bool} (hc:H.cells? r=some l) (hm:o+m<=l.length) (hl:GU H ((l.drop o).take m) l') (hn:n=0->m=0) (hx:ex=true->lim=.ex n) :
   KL H (.sl r o n lim) (.sim l' n ex)
 | ptr {r o:Nat} {l l':List AV} (hc:H.cells? r=some l) (hl:GU H l l'):KL H (.ptr r o) (.pim l' o)
 | ifc {t:TypeId} {x y:AV} (h:KL H x y):KL H (.ifc t x) (.ifc t y)
 | agg {l l':List AV} (h:GU H l l'):KL H (.agg l) (.agg l')
 | tup {l l':List AV} (h:GU H l l'):KL H (.tup l) (.tup l')
inductive GU (H:AH):List AV->List AV->Prop
 | nil:GU H [] []
 | cons {x y:AV} {l l':List AV} (h:KL H x y) (t:GU H l l'):GU H (x::l) (y::l')
end
section
variable {Z Z2:Zt}{σ σ2:Sg}{H:AH}{w:World}
theorem GU.len {l l':List AV}(h:GU H l l'):l.length=l'.length:=by
 induction l generalizing l' with
 | nil=>cases h;rfl
 | cons x l ih=>cases h with | cons a b=>simp[ih b]
mutual
theorem KL.sound (hW:WR Z σ H w) (h2:∀r o p,H.get r=some o->σ r=some p->Z2 p.b=w.heap[p.b]?):∀{x y:AV},KL H x y->∀{v:Value},VR Z σ x v->VR Z2 σ2 y v
 | _,_,.pln h,v,hv=>h.vr hv
 | _,_,.unk _,v,_=>.unk v
 | _,_,@KL.sl _ r o n m lim l l' ex hc hm hl hn hx,v,hv=>by
  have hlen:m=l'.length:=by have:=hl.len;simp at this;omega
  have main:∀(p:JA),σ r=some p->∀cap,n<=cap->(ex=true->cap=n)->VR Z2 σ2 (.sim l' n ex) (.slice (some ⟨p.b,p.base+o,none⟩) n cap):=by
   intro p hp cap Q3 hxc
   obtain⟨_,c,el,fr,hb,_,_,h4,h5,h6⟩:=hW.row hc hp
   have hz:=h2 r _ p (cells?_some hc) hp
   rw[hb]at hz
   have e1:(c.toList.drop (p.base+o)).take l'.length=(((c.toList.drop p.base).take l.length).drop o).take m:=by
    rw[E9,C0,EH,CV (by omega),hlen]
   refine .sim Q3 hxc rfl hz ?_ ?_
   ·simp only[e1];intro u hu;exact h6 u (ET (D0 hu))
   ·simp only[e1];exact GU.sound hW h2 hl ((h5.drop _).take _)
  cases hv with
  | slx hp hnm=>exact main _ hp _ hnm (fun h=>by have:=hx h;simp only[SI.ex.injEq]at this;exact this)
  | slxz hp ad=>
   have h0:l'=[]:=B0 (by rw[<- hlen];exact hn rfl)
   subst h0;exact .simz ad (fun _=>rfl)
  | slo hp hnm hs=>exact main _ hp _ hnm (fun h=>by have:=hx h;cases this)
  | sloz hp ad=>
   have h0:l'=[]:=B0 (by rw[<- hlen];exact hn rfl)
   subst h0;exact .simz ad (fun h=>by have:=hx h;cases this)
 | _,_,@KL.ptr _ r o l l' hc hl,v,hv=>by
  obtain⟨p,hp,rfl⟩:=hv.HX
  obtain⟨_,c,el,fr,hb,_,_,h4,h5,h6⟩:=hW.row hc hp
  have hz:=h2 r _ p (cells?_some hc) hp
  rw[hb]at hz
  have hlen:=hl.len
  refine .pim hz ?_ ?_
  ·rw[<- hlen];exact h6
  ·rw[<- hlen];exact GU.sound hW h2 hl h5
 | _,_,.ifc h,v,hv=>by cases hv with | ifc hv=>exact .ifc (KL.sound hW h2 h hv)
 | _,_,.agg h,v,hv=>by cases hv with | agg h1 hv=>exact .agg h1 (GU.sound hW h2 h hv)
 | _,_,.tup h,v,hv=>by cases hv with | tup hv=>exact .tup (GU.sound hW h2 h hv)
theorem GU.sound (hW:WR Z σ H w) (h2:∀r o p,H.get r=some o->σ r=some p->Z2 p.b=w.heap[p.b]?):∀{l l':List AV},GU H l l'->∀{vs:List Value},CE Z σ l vs->CE Z2 σ2 l' vs
 | _,_,.nil,vs,hv=>by cases hv;exact .nil
 | _,_,.cons h t,vs,hv=>by cases hv with | cons a b=>exact .cons (KL.sound hW h2 h a) (GU.sound hW h2 t b)
end
end
section
variable {P:Program}
end
mutual
def LF:AV->Bool
 | .bool _=>true | .int _ _=>true | .str _=>true | .nilp=>true | .nils=>true | .nilm=>true | .nili=>true
 | .agg l=>UA l
 | .tup l=>UA l
 | _=>false
def UA:List AV->Bool
 | []=>true
 | x::l=>LF x&&UA l
end
mutual
theorem LD:∀x,LF x=true->Wl x
 | .bool _,_=>.bool _ | .int _ _,_=>.int _ _ | .str _,_=>.str _ | .nilp,_=>.nilp | .nils,_=>.nils | .nilm,_=>.nilm | .nili,_=>.nili
 | .agg l,h=>.agg (Je l (by simpa[LF]using h))
 | .tup l,h=>.tup (Je l (by simpa[LF]using h))
 | .unk,h=>by simp[LF]at h
 | .ptr _ _,h=>by simp[LF]at h
 | .pim _ _,h=>by simp[LF]at h
 | .sl _ _ _ _,h=>by simp[LF]at h
 | .sim _ _ _,h=>by simp[LF]at h
 | .mp _,h=>by simp[LF]at h
 | .nilf,h=>by simp[LF]at h
 | .fn _ _ _,h=>by simp[LF]at h
 | .ifc _ _,h=>by simp[LF]at h
theorem Je:∀l,UA l=true->TY l
 | [],_=>.nil
 | x::l,h=>by
  simp only[UA,AS]at h
  exact .cons (LD x h.1) (Je l h.2)
end
mutual
def cE (h:KH):AV->AV->Bool
 | y,x=>(ES x y&&LF y)||(match y with
  | .pim l' o=>(match x with
   | .ptr r o0=>Nat.beq o0 o&&(match Bz h r with | some l=>MW h l' l | none=>false)
   | _=>false)
  | .sim l' n ex=>(match x with
   | .sl r o n0 lim=>Nat.beq n0 n&&(match Bz h r with | some l=>Nat.ble (o+l'.length) l.length&&MW h l' ((l.drop o).take l'.length) | none=>false)&&(!(Nat.beq n 0)||l'.isEmpty)&&(!ex||Rc lim (.ex n))
   | _=>false)
  | .ifc t y=>(match x with
   | .ifc t' x=>Nat.beq t' t&&cE h y x
   | _=>false)
  | .agg l'=>(match x with
   | .agg l=>MW h l' l
   | _=>false)
  | .tup l'=>(match x with
   | .tup l=>MW h l' l
   | _=>false)
  | _=>false)
def MW (h:KH):List AV->List AV->Bool
 | [],l=>(match l with
  | []=>true
  | _=>false)
 | y::l',l=>(match l with
  | x::l=>cE h y x&&MW h l' l
  | []=>false)
end
mutual
theorem LO {h:KH}:∀(y x:AV),cE h y x=true->KL (Ai h) x y:=by
 intro y x hh
 unfold cE at hh
 simp only[Ee,AS]at hh
 rcases hh with⟨h1,h2⟩ | hh
 ·rw[CB _ _ h1];exact .pln (LD _ h2)
 ·cases y with
  | pim l' o=>
   cases x<;>try (cases hh;done)
   rename_i r o0
   simp only[AS,FC]at hh
   obtain⟨rfl,h3⟩:=hh
   split at h3
   ·rename_i l hl
    rw[Bq]at hl
    exact .ptr hl (GK l' l h3)
   ·cases h3
  | sim l' n ex=>
   cases x<;>try (cases hh;done)
   rename_i r o n0 lim
   simp only[AS,FC,Ee,E7]at hh
   obtain⟨⟨⟨rfl,h3⟩,h4⟩,h5⟩:=hh
   split at h3
   ·rename_i l hl
    rw[Bq]at hl
    simp only[AS]at h3
    refine .sl hl (Ab h3.1) (GK l' _ h3.2) (fun hn=>?_) (fun hx=>?_)
    ·subst hn
     rcases h4 with h4 | h4
     ·cases h4
     ·simpa using h4
    ·subst hx
     rcases h5 with h5 | h5
     ·cases h5
     ·exact HZ h5
   ·cases h3
  | ifc t y=>
   cases x<;>try (cases hh;done)
   simp only[AS,FC]at hh
   obtain⟨rfl,h2⟩:=hh
   exact .ifc (LO y _ h2)
  | agg l'=>
   cases x<;>try (cases hh;done)
   exact .agg (GK l' _ hh)
  | tup l'=>
   cases x<;>try (cases hh;done)
   exact .tup (GK l' _ hh)
  | _=>cases hh
theorem GK {h:KH}:∀(l' l:List AV),MW h l' l=true->GU (Ai h) l l'
 | [],l,hh=>by
  cases l with
  | nil=>exact .nil
  | cons _ _=>simp[MW]at hh
 | y::l',l,hh=>by
  cases l with
  | nil=>simp[MW]at hh
  | cons x l=>
   simp only[MW,AS]at hh
   exact .cons (LO y x hh.1) (GK l' l hh.2)
end
def TM (zs:List AV) (R:AV) (r:KC):Bool:=OB 0 zs&&KC.rec (motive:=fun _=>Bool) (fun v h'=>cE h' R v) (fun _ _=>false) false r
def Pk (g0:FuncId) (as0:List AV) (R:AV) (rest:Ag):Ag:=fun g zs h=>Bool.rec (motive:=fun _=>KC) (rest g zs h) (.ret R h) (Nat.beq g g0&&HI zs as0)
theorem Mu {P:Program}{g0:FuncId}{as0:List AV}{R:AV}{rest:Ag}(hr:AW P rest) (hR:∀H:AH,H.gl=BX.G->fp P g0 as0 H R H):AW P (Pk g0 as0 R rest):=by
 intro g zs h
 unfold Pk
 cases hc:(Nat.beq g g0&&HI zs as0)with
 | false=>exact hr g zs h
 | true=>
  simp only[AS,FC]at hc
  obtain⟨rfl,h2⟩:=hc
  have e:=Ca _ _ h2
  subst e
  refine⟨fun v h' q=>?_,fun v h' q=>by cases q⟩
  cases q
  exact hR _ rfl
def eY (r:Nat) (l:List Nat):Bool:=List.rec (motive:=fun _=>Bool) false (fun x _ ih=>Nat.beq x r||ih) l
mutual
def fQ (ids:List Nat) (h:KH):AV->AV->Bool
 | y,x=>ES x y||(match y with
  | .pim l' o=>(match x with
   | .ptr r o0=>eY r ids&&Nat.beq o0 o&&(match Bz h r with | some l=>MX ids h l' l | none=>false)
   | _=>false)
  | .sim l' n ex=>(match x with
   | .sl r o n0 lim=>eY r ids&&Nat.beq n0 n&&(match Bz h r with | some l=>Nat.ble (o+l'.length) l.length&&MX ids h l' ((l.drop o).take l'.length) | none=>false)&&(!(Nat.beq n 0)||l'.isEmpty)&&(!ex||Rc lim (.ex n))
   | _=>false)
  | .ifc t y=>(match x with
   | .ifc t' x=>Nat.beq t' t&&fQ ids h y x
   | _=>false)
  | .agg l'=>(match x with
   | .agg l=>MX ids h l' l
   | _=>false)
  | .tup l'=>(match x with
   | .tup l=>MX ids h l' l
   | _=>false)
  | _=>false)
def MX (ids:List Nat) (h:KH):List AV->List AV->Bool
 | [],l=>(match l with
  | []=>true
  | _=>false)
 | y::l',l=>(match l with
  | x::l=>fQ ids h y x&&MX ids h l' l
  | []=>false)
end
mutual
theorem QG {ids:List Nat}{h:KH}:∀(y x:AV),fQ ids h y x=true->Eb (Ai h) (fun r=>eY r ids=true) x y:=by
 intro y x hh
 unfold fQ at hh
 simp only[Ee]at hh
 rcases hh with h1 | hh
 ·rw[CB _ _ h1];exact .same _
 ·cases y with
  | pim l' o=>
   cases x<;>try (cases hh;done)
   rename_i r o0
   simp only[AS,FC]at hh
   obtain⟨⟨h1,rfl⟩,h3⟩:=hh
   split at h3
   ·rename_i l hl
    rw[Bq]at hl
    exact .ptr h1 hl (GM l' l h3)
   ·cases h3
  | sim l' n ex=>
   cases x<;>try (cases hh;done)
   rename_i r o n0 lim
   simp only[AS,FC,Ee,E7]at hh
   obtain⟨⟨⟨⟨h1,rfl⟩,h3⟩,h4⟩,h5⟩:=hh
   split at h3
   ·rename_i l hl
    rw[Bq]at hl
    simp only[AS]at h3
    refine .sl h1 hl (Ab h3.1) (GM l' _ h3.2) (fun hn=>?_) (fun hx=>?_)
    ·subst hn
     rcases h4 with h4 | h4
     ·cases h4
     ·simpa using h4
    ·subst hx
     rcases h5 with h5 | h5
     ·cases h5
     ·exact HZ h5
   ·cases h3
  | ifc t y=>
   cases x<;>try (cases hh;done)
   simp only[AS,FC]at hh
   obtain⟨rfl,h2⟩:=hh
   exact .ifc (QG y _ h2)
  | agg l'=>
   cases x<;>try (cases hh;done)
   exact .agg (GM l' _ hh)
  | tup l'=>
   cases x<;>try (cases hh;done)
   exact .tup (GM l' _ hh)
  | _=>cases hh
theorem GM {ids:List Nat}{h:KH}:∀(l' l:List AV),MX ids h l' l=true->CG (Ai h) (fun r=>eY r ids=true) l l'
 | [],l,hh=>by
  cases l with
  | nil=>exact .nil
  | cons _ _=>simp[MX]at hh
 | y::l',l,hh=>by
  cases l with
  | nil=>simp[MX]at hh
  | cons x l=>
   simp only[MX,AS]at hh
   exact .cons (QG y x hh.1) (GM l' l hh.2)
end
end
section
variable [BX] {P:Program}
def bv (x:UInt8):AV:=.int .u8 (x.toNat:Int)
theorem AA {k:AK}{K:AV->Prop}{v:AV}(h:AI k emp=some v) (hK:K v):AB k K:=by unfold AB;rw[h];exact hK
theorem AX {k:AK}{H:AH}{K:AV->Prop}{v:AV}(h:AZ k emp H=some v) (hK:K v):AE k H K:=by unfold AE;rw[h];exact hK
theorem Ap {k:AK}{H H':AH}{K:AV->AH->Prop}{v:AV}(h:BL k emp H=some (v,H')) (hK:K v H'):AQ k H K:=by unfold AQ;rw[h];exact hK
theorem Wu {k:AK}{H:AH}{K:AV->AH->Prop}{c:List AV}{f:Nat->AV}(h:FQ k emp=some (c,f)) (hK:K (f H.next) (H.push (.cells c))):Ny k H K:=by unfold Ny;rw[h];exact hK
theorem B3 {t:Bool}{A B:Prop}(ha:t=true->A) (hb:t=false->B):AU (.bool t) A B:=⟨ha,hb⟩
theorem L3 {T:Type}{t:Bool}{J:T}{A B:T->Prop}(ha:t=true->A J) (hb:t=false->B J):Qr (.bool t) J A B:=⟨ha,hb⟩
theorem BK {g:FuncId}{ar:List AV}{H:AH}{post:Am->AH->Prop}{Kp K:AV->AH->Prop}(hC:AP P g ar H post) (hK:∀v H',post (.ret v) H'->K v H') (hP:∀v H',post (.Bi v) H'->Kp v H'):AG P g ar H Kp K:=
 hC.mono fun o H' h=>by cases o with
  | ret v=>exact hK v H' h
  | Bi v=>exact hP v H' h
theorem SY {fv:AV}{ar:List AV}{H:AH}{post:Am->AH->Prop}{Kp K:AV->AH->Prop}(hC:HJ P fv ar H post) (hK:∀v H',post (.ret v) H'->K v H') (hP:∀v H',post (.Bi v) H'->Kp v H'):DT P fv ar H Kp K:=by
 unfold HJ at hC
 split at hC
 ·rename_i g first cap
  show AG P g (TC first (TC ar cap)) H Kp K
  rw[Ka,Ka,<- Ao]
  exact BK hC hK hP
 ·exact YC.mono hC fun o H' h=>by cases o with
   | ret v=>exact hK v H' h
   | Bi v=>exact hP v H' h
 ·exact hC.elim
theorem D3 {T:Type}{t w:Bool}{J:T}{A B:T->Prop}(ha:t=w->A J) (hb:t≠w->B J):BF w (.bool t) J A B:=by
 unfold BF Tm
 simp only[Mc]
 exact⟨fun h=>ha (by simpa using h),fun h=>hb (by simpa using h)⟩
structure BT (H H':AH):Prop where
 nx:H.next<=H'.next
 get:∀q,q<H.next->H'.get q=H.get q
 gl:H'.gl=H.gl
theorem BT.push (H:AH) (o:Cy):BT H (H.push o):=⟨by simp,fun q hq=>AH.Ae _ _ (by omega),rfl⟩
theorem BT.trans {H H1 H2:AH}(h1:BT H H1) (h2:BT H1 H2):BT H H2:=⟨Cs h1.nx h2.nx,fun q hq=>by have:=h1.nx;rw[h2.get q (by omega),h1.get q hq],h2.gl.trans h1.gl⟩
theorem BT.refl (H:AH):BT H H:=⟨A5 _,fun _ _=>rfl,rfl⟩
inductive lG (z:Nat):AV->List AV->Nat->Prop
 | nil:lG z .nils [] 0
 | sim {c:List AV} {n:Nat} {ex:Bool} (h:c.length=n*z):lG z (.sim c n ex) c n
theorem Ju {z:Nat}:∀(css:List (List AV)) (i:Nat) (y:List AV),(∀x∈css,x.length=z)->css[i]?=some y->(css.flatten.drop (i*z)).take z=y
 | [],i,y,_,h=>by simp at h
 | x::css,0,y,hz,h=>by
  have hx:x.length=z:=hz x (.head _)
  have e:x=y:=by simpa using h
  subst e
  simp only[Lj,HR,B_]
  rw[Dd (by omega),Ac (by omega)]
 | x::css,i+1,y,hz,h=>by
  have hx:x.length=z:=hz x (.head _)
  have h':css[i]?=some y:=by simpa using h
  have:=Ju css i y (fun w hw=>hz w (.tail _ hw)) h'
  rw[<- this]
  have e:(i+1)*z=x.length+i*z:=by rw[EG,Gw,hx];omega
  simp only[Lj]
  rw[e,<- C0,List.drop_left]
theorem GO {z:Nat}:∀(css:List (List AV)),(∀x∈css,x.length=z)->css.flatten.length=css.length*z
 | [],_=>by simp
 | x::css,hz=>by
  rw[Lj,Aa,GO css fun w hw=>hz w (.tail _ hw),hz x (.head _),BV,EG];omega
inductive Lv (k:Nat):List (Nat × List AV)->Nat->List AV->AV->Prop
 | nil:Lv k [] 0 [] .nils
 | ex (q:Nat):Lv k [(q,[])] 0 [] (.sl q 0 0 (.ex 0))
 | op {r n:Nat} {cs:List AV} (hn:0<n):Lv k [(r,cs)] n cs (.sl r 0 n (.op k))
 | exn {r n:Nat} {cs:List AV} (hn:0<n):Lv k [(r,cs)] n cs (.sl r 0 n (.ex n))
theorem Lv.cell {k n:Nat}{o:List (Nat × List AV)}{cs:List AV}{v:AV}(h:Lv k o n cs v):v.cellsOf=some [v]:=by cases h<;>rfl
def FZ (R:List (Nat × List AV)) (v y:AV):Prop:=∀(H:AH) (k:Nat),(∀x∈R,k<=x.1/\H.get x.1=some (.cells x.2))->GS H k v y
def VQ (R:List (Nat × List AV)) (c d:List AV):Prop:=∀(H:AH) (k:Nat),(∀x∈R,k<=x.1/\H.get x.1=some (.cells x.2))->CH H k c d
theorem VQ.mono {R R':List (Nat × List AV)}{c d:List AV}(h:VQ R c d) (hs:R ⊆ R'):VQ R' c d:=fun H k hR=>h H k fun x hx=>hR x (hs hx)
theorem VQ.nil {R:List (Nat × List AV)}:VQ R [] []:=fun _ _ _=>.nil
theorem VQ.cons {R:List (Nat × List AV)}{x y:AV}{c d:List AV}(h:FZ R x y) (t:VQ R c d):VQ R (x::c) (y::d):=fun H k hR=>.cons (h H k hR) (t H k hR)
theorem CH.app {H:AH}{k:Nat}:∀{a a' b b':List AV},CH H k a a'->CH H k b b'->CH H k (a++b) (a'++b')
 | _,_,_,_,.nil,h=>h
 | _,_,_,_,.cons h t,h2=>.cons h (t.app h2)
theorem VQ.app {R:List (Nat × List AV)}{a a' b b':List AV}(h:VQ R a a') (h2:VQ R b b'):VQ R (a++b) (a'++b'):=fun H k hR=>(h H k hR).app (h2 H k hR)
theorem VQ.low {R:List (Nat × List AV)}{c:List AV}(h:∀k,HK k c):VQ R c c:=fun _ k _=>.low (h k)
theorem FZ.agg {R:List (Nat × List AV)}{c d:List AV}(h:VQ R c d):FZ R (.agg c) (.agg d):=fun H k hR=>.agg (h H k hR)
structure BO (H0:AH) (L:List (Nat × List AV)) (H:AH):Prop where
 k:BT H0 H
 l:∀x∈L,H0.next<=x.1/\x.1<H.next/\H.get x.1=some (.cells x.2)
 nd:(L.map (·.1)).Nodup
section
variable {H0 H:AH}{L:List (Nat × List AV)}
theorem BO.start (H:AH):BO H [] H:=⟨BT.refl _,fun x hx=>(by cases hx),Wp⟩
theorem BO.push {o:List AV}(h:BO H0 L H):BO H0 ((H.next,o)::L) (H.push (.cells o)):=by
 have hn:=h.k.nx
 have hold:∀q,q<H.next->(H.push (.cells o)).get q=H.get q:=fun q hq=>AH.Ae _ _ (by omega)
 refine⟨h.k.trans (BT.push _ _),fun x hx=>?_,?_⟩
 ·cases hx with
  | head=>exact⟨hn,by simp,by simp⟩
  | tail _ hx=>
   obtain⟨h1,h2,h3⟩:=h.l x hx
   exact⟨h1,by simp;omega,by rw[hold _ h2];exact h3⟩
 ·rw[B6,Fy]
  refine⟨fun hm=>?_,h.nd⟩
  obtain⟨x,hx,he⟩:=Bt.1 hm
  have:=(h.l x hx).2.1
  omega
theorem BO.alloc {z:List AV}{K:AV->AH->Prop}(h:BO H0 L H) (hK:∀q H',BO H0 ((q,z)::L) H'->K (.ptr q 0) H'):AQ (.alloc z) H K:=
 Ap (v:=.ptr H.next 0) (H':=H.push (.cells z)) rfl (hK _ _ h.push)
theorem BO.box {x:AV}{c:List AV}{K:AV->AH->Prop}(h:BO H0 L H) (hx:x.cellsOf=some c) (hK:∀q H',BO H0 ((q,c)::L) H'->K (.ptr q 0) H'):AQ (.box (.cst x)) H K:=
 Ap (v:=.ptr H.next 0) (H':=H.push (.cells c)) (by simp[BL,AF.ev,hx]) (hK _ _ h.push)
theorem BO.sub {L':List (Nat × List AV)}(h:BO H0 L H) (hs:L'.Sublist L):BO H0 L' H:=⟨h.k,fun x hx=>h.l x (hs.subset hx),h.nd.sublist (hs.map _)⟩
theorem BO.perm {L':List (Nat × List AV)}(h:BO H0 L H) (hs:L'.Perm L):BO H0 L' H:=⟨h.k,fun x hx=>h.l x (hs.subset hx),(hs.map _).nodup_iff.2 h.nd⟩
theorem BO.swap {x y:Nat × List AV}(h:BO H0 (x::y::L) H):BO H0 (y::x::L) H:=h.perm (.swap _ _ _)
theorem BO.set {q:Nat}{c c':List AV}(h:BO H0 ((q,c)::L) H):BO H0 ((q,c')::L) (H.set q (.cells c')):=by
 obtain⟨h1,h2,h3⟩:=h.l _ (.head _)
 have hold:∀r,r≠q->(H.set q (.cells c')).get r=H.get r:=fun r hr=>by simp[AH.AY,hr]
 have hnd:=h.nd
 rw[B6,Fy]at hnd
 refine⟨⟨by simpa using h.k.nx,fun r hr=>by rw[hold r (by simp only at h1;omega)];exact h.k.get r hr,h.k.gl⟩,fun w hw=>?_,by rw[B6,Fy];exact hnd⟩
 cases hw with
 | head=>exact⟨h1,by simpa using h2,by simp[AH.AY]⟩
 | tail _ hw=>
  obtain⟨g1,g2,g3⟩:=h.l w (.tail _ hw)
  exact⟨g1,by simpa using g2,by rw[hold _ fun e=>hnd.1 (Bt.2 ⟨w,hw,e⟩)];exact g3⟩
theorem BO.erase {q:Nat}{c:List AV}(h:BO H0 ((q,c)::L) H):BO H0 L (H.erase q):=by
 obtain⟨h1,h2,h3⟩:=h.l _ (.head _)
 have hnd:=h.nd
 rw[B6,Fy]at hnd
 have hold:∀r,r≠q->(H.erase q).get r=H.get r:=fun r hr=>by simp[AH.get_erase,hr]
 refine⟨⟨h.k.nx,fun r hr=>by rw[hold r (by simp only at h1;omega)];exact h.k.get r hr,h.k.gl⟩,fun w hw=>?_,hnd.2⟩
 obtain⟨g1,g2,g3⟩:=h.l w (.tail _ hw)
 exact⟨g1,g2,by rw[hold _ fun e=>hnd.1 (Bt.2 ⟨w,hw,e⟩)];exact g3⟩
theorem BO.put {q o n:Nat}{c vs:List AV}{x:AV}{K:AV->AH->Prop}(h:BO H0 ((q,c)::L) H) (hx:x.cellsOf=some vs) (hv:vs.length=n) (hz:o+n<=c.length)
  (hK:∀H',BO H0 ((q,As c o vs)::L) H'->K .unk H'):AQ (.store n (.cst (.ptr q o)) (.cst x)) H K:=by
 obtain⟨h1,h2,h3⟩:=h.l _ (.head _)
 exact Ap (v:=.unk) (H':=H.set q (.cells (As c o vs))) (by
  simp only[BL,AF.ev,AH.cells?,h3,hx]
  rw[if_pos ⟨hv,hz⟩]) (hK _ h.set)
theorem BO.Gk {q n:Nat}{c vs:List AV}{K:AV->AH->Prop}(h:BO H0 ((q,c)::L) H) (hv:vs.length=n) (hz:c.length=n)
  (hK:∀H',BO H0 ((q,vs)::L) H'->K .unk H'):AQ (.store n (.cst (.ptr q 0)) (.cst (.agg vs))) H K:=
 h.put (vs:=vs) rfl hv (by omega) fun H' h'=>hK H' (by
  rw[show As c 0 vs=vs by rw[DB (by omega)];simp[Bu (by omega:c.length<=vs.length)]]at h';exact h')
theorem BO.Hc {q k:Nat}{c:List AV}{K:AV->Prop}(h:BO H0 L H) (hm:(q,c)∈L) (hc:c.length=k) (hK:K (.agg c)):AE (.load (some k) (.cst (.ptr q 0))) H K:=by
 obtain⟨_,_,h3⟩:=h.l _ hm
 exact AX (v:=.agg c) (by simp[AZ,BC,AF.ev,AH.cells?,h3,apart,hc];exact Ac (by omega)) hK
theorem BO.ld {q o:Nat}{c:List AV}{x:AV}{K:AV->Prop}(h:BO H0 L H) (hm:(q,c)∈L) (hx:c[o]?=some x) (hK:K x):AE (.load none (.cst (.ptr q o))) H K:=by
 obtain⟨_,_,h3⟩:=h.l _ hm
 exact AX (v:=x) (by simpa[AZ,BC,AF.ev,AH.cells?,h3,apart]using hx) hK
theorem BO.call {g:FuncId}{ar:List AV}{ok:AV->AH->Prop}{K:AV->AH->Prop}{Post:Am->AH->Prop}(h:BO H0 L H) (hC:AP P g ar H fun o H'=>BT H H'/\∃x,o=.ret x/\ok x H')
  (hK:∀x H',BO H0 L H'->ok x H'->K x H'):AG P g ar H (yp Post) K:=by
 have hn:=h.k.nx
 refine BK hC (fun x H' g=>?_) (fun x H' g=>by obtain⟨_,_,g,_⟩:=g;cases g)
 obtain⟨k1,x',hx,h1⟩:=g
 cases hx
 exact hK _ H' ⟨h.k.trans k1,fun w hw=>by
  obtain⟨g1,g2,g3⟩:=h.l w hw
  exact⟨g1,DD g2 k1.nx,by rw[k1.get _ g2];exact g3⟩,h.nd⟩ h1
theorem BO.app {k n bytes:Nat}{o:List (Nat × List AV)}{cs c z:List AV}{v x:AV}{K:AV->AH->Prop}(h:BO H0 (o++L) H) (hv:Lv k o n cs v) (hcs:cs.length=n*k) (hx:x.cellsOf=some c) (hc:c.length=k) (hz:z.length=k) (hn:n<274877906944) (hby:bytes<=500)
  (hK:∀o' v' H',BO H0 (o'++L) H'->Lv k o' (n+1) (cs++c) v'->K v' H'):AQ (.buildSlice k 1 z [(0,k,(.cst x))]) H fun v17 h17=>AQ (.append k bytes (.cst v) (.cst v17)) h17 K:=by
 have hd:z.drop k=[]:=Bu (by omega)
 refine Ap (v:=.sl H.next 0 1 (.ex 1)) (H':=H.push (.cells c)) (by
  simp[BL,B5,AF.ev,hx,hc,hz,hd]) ?_
 have hb:(n+1)*bytes<=140737488355328:=by
  have:(n+1)*bytes<=274877906944*500:=Ou (by omega) hby
  omega
 have htk:c.take k=c:=Ac (by omega)
 have h1:=h.push (o:=c)
 cases hv with
 | nil=>
  have hb':bytes<=140737488355328:=by omega
  refine Ap (v:=.sl (H.next+1) 0 1 (.op k)) (H':=(H.push (.cells c)).push (.cells c)) (by
   simp[BL,AF.ev,Bx,Aj,AH.cells?,AH.Af,hc,htk,hb']) ?_
  refine hK [(H.next+1,c)] _ _ ?_ (.op (JU _))
  exact(h1.push (o:=c)).sub (by
   show List.Sublist ((H.next+1,c)::L) ((H.next+1,c)::(H.next,c)::L)
   exact(List.Sublist.cons _ (FD _)).cons_cons _)
 | ex q=>
  obtain⟨g1,g2,g3⟩:=h.l (q,[]) (.head _)
  have e1:q≠H.next:=by simp only at g2;omega
  have hb':bytes<=140737488355328:=by omega
  refine Ap (v:=.sl (H.next+1) 0 1 (.op k)) (H':=(H.push (.cells c)).push (.cells c)) (by
   have g3:H.get q=some (.cells []):=g3
   simp[BL,AF.ev,Bx,Aj,AH.cells?,AH.Af,hc,htk,hb',e1,g3]) ?_
  refine hK [(H.next+1,c)] _ _ ?_ (.op (JU _))
  exact(h1.push (o:=c)).sub (by
   show List.Sublist ((H.next+1,c)::L) ((H.next+1,c)::(H.next,c)::(q,[])::L)
   exact(List.Sublist.cons _ (List.Sublist.cons _ (FD _))).cons_cons _)
 | op hn0=>
  rename_i r
  obtain⟨g1,g2,g3⟩:=h.l (r,cs) (.head _)
  have e3:r≠H.next:=by simp only at g2;omega
  have htk2:cs.take (n*k)=cs:=Ac (by omega)
  refine Ap (v:=.sl (H.next+1) 0 (n+1) (.op k)) (H':=((H.push (.cells c)).erase r).push (.cells (cs++c))) (by
   have hn1:n+1<=9223372036854775807:=by omega
   have g3:H.get r=some (.cells cs):=g3
   simp[BL,AF.ev,Bx,Aj,AH.cells?,AH.Af,hc,htk,g3,e3,hcs,hb,htk2,hn1]) ?_
  refine hK [(H.next+1,cs++c)] _ _ ?_ (.op (JU _))
  have h2:BO H0 ((r,cs)::(H.next,c)::L) (H.push (.cells c)):=h1.swap
  have h3:=(h2.erase).push (o:=cs++c)
  exact h3.sub (by
   show List.Sublist ((H.next+1,cs++c)::L) ((H.next+1,cs++c)::(H.next,c)::L)
   exact(List.Sublist.cons _ (FD _)).cons_cons _)
 | exn hn0=>
  rename_i r
  obtain⟨g1,g2,g3⟩:=h.l (r,cs) (.head _)
  have e3:r≠H.next:=by simp only at g2;omega
  have htk2:cs.take (n*k)=cs:=Ac (by omega)
  refine Ap (v:=.sl (H.next+1) 0 (n+1) (.op k)) (H':=(H.push (.cells c)).push (.cells (cs++c))) (by
   have hn1:n+1<=9223372036854775807:=by omega
   have hn2:¬n+1<=n:=by omega
   have g3:H.get r=some (.cells cs):=g3
   simp[BL,AF.ev,Bx,Aj,AH.cells?,AH.Af,hc,htk,g3,e3,hcs,hb,htk2,hn1,hn2]) ?_
  refine hK [(H.next+1,cs++c)] _ _ ?_ (.op (JU _))
  exact(h1.push (o:=cs++c)).sub (by
   show List.Sublist ((H.next+1,cs++c)::L) ((H.next+1,cs++c)::(H.next,c)::(r,cs)::L)
   exact(List.Sublist.cons _ (List.Sublist.cons _ (FD _))).cons_cons _)
theorem BO.live (h:BO H0 L H):∀w∈L,H0.next<=w.1/\H.get w.1=some (.cells w.2):=fun w hw=>⟨(h.l w hw).1,(h.l w hw).2.2⟩
end
end
section
variable [BX] {P:Program}
def CP (P:Program) (g:FuncId) (ar:List AV) (H:AH) (Q:AV->Prop):Prop:=AP P g ar H fun o H'=>H'=H/\∃x,o=.ret x/\Q x
theorem CP.mono {g:FuncId}{ar:List AV}{H:AH}{Q Q':AV->Prop}(h:CP P g ar H Q) (hq:∀x,Q x->Q' x):CP P g ar H Q':=
 AP.mono h fun o H' ⟨h1,x,h2,h3⟩=>⟨h1,x,h2,hq x h3⟩
theorem I8 {g:FuncId}{ar:List AV}{H:AH}{Q:AV->Prop}{Kp K:AV->AH->Prop}(hC:CP P g ar H Q) (hK:∀x,Q x->K x H):AG P g ar H Kp K:=
 BK hC (fun v H' h=>by obtain⟨rfl,x,h2,h3⟩:=h;cases h2;exact hK _ h3) (fun v H' h=>by obtain⟨_,x,h2,_⟩:=h;cases h2)
def MP (H:AH) (Q:AV->Prop):Am->AH->Prop:=fun o H'=>BT H H'/\∃x R y,o=.ret x/\FZ R x y/\(∀w∈R,H.next<=w.1/\H'.get w.1=some (.cells w.2))/\Q y
theorem CP.of {g:FuncId}{ar:List AV}{H:AH}{Q:AV->Prop}(h:AP P g ar H (MP H Q)):CP P g ar H Q:=by
 refine AP.scope (fun _ _=>h) h.1 fun _ htop o H' hp=>?_
 obtain⟨hk,x,R,y,rfl,h1,h3,hq⟩:=hp
 have hcut:H'.cut H.next H.gl=H:=by
  refine AH.ext (fun q=>?_) rfl rfl
  show(if q<H.next then H'.get q else none)=H.get q
  by_cases hq:q<H.next
  ·rw[if_pos hq,hk.get q hq]
  ·rw[if_neg hq,htop q (by omega)]
 have hold:∀q o,q<H.next->H'.get q=some o->H.get q=some o\/lT H.next o:=fun q o hq ho=>.inl (by rw[<- hk.get q hq];exact ho)
 rw[hcut]
 exact⟨.ret y,h1 H' H.next h3,hold,rfl,_,rfl,hq⟩
theorem BO.fin {H0 H:AH}{L:List (Nat × List AV)}{Q:AV->Prop}{x y:AV}(s:BO H0 L H) (hf:FZ L x y) (h:Q y):MP H0 Q (.ret x) H:=⟨s.k,x,L,y,rfl,hf,s.live,h⟩
theorem BO.U3 {H0 H:AH}{L:List (Nat × List AV)}{Q:AV->Prop}{x:AV}(s:BO H0 L H) (hf:∀k,Sc k x) (h:Q x):MP H0 Q (.ret x) H:=⟨s.k,x,[],x,rfl,fun _ k _=>.low (hf k),fun _ h=>(by cases h),h⟩
theorem BO.cp {H0 H:AH}{L:List (Nat × List AV)}{g:FuncId}{ar:List AV}{Q:AV->Prop}{Kp K:AV->AH->Prop}(_:BO H0 L H) (hC:CP P g ar H Q) (hK:∀x,Q x->K x H):AG P g ar H Kp K:=I8 hC hK
theorem TE {T:Type}{J:T}{A B:T->Prop}(h:A J):BF true (.bool true) J A B:=D3 (fun _=>h) (fun e=>absurd rfl e)
theorem jV {T:Type}{J:T}{A B:T->Prop}(h:B J):BF true (.bool false) J A B:=D3 (fun e=>by cases e) (fun _=>h)
theorem QE {T:Type}{J:T}{A B:T->Prop}(h:A J):BF false (.bool false) J A B:=D3 (fun _=>h) (fun e=>absurd rfl e)
theorem TF {T:Type}{J:T}{A B:T->Prop}(h:B J):BF false (.bool true) J A B:=D3 (fun e=>by cases e) (fun _=>h)
theorem Cw {A B:Prop}(h:A):AU (.bool true) A B:=B3 (fun _=>h) (fun e=>by cases e)
theorem BS {A B:Prop}(h:B):AU (.bool false) A B:=B3 (fun e=>by cases e) (fun _=>h)
theorem tC {T:Type}{J:T}{A B:T->Prop}(h:A J):Qr (.bool true) J A B:=L3 (fun _=>h) (fun e=>by cases e)
theorem tD {T:Type}{J:T}{A B:T->Prop}(h:B J):Qr (.bool false) J A B:=L3 (fun e=>by cases e) (fun _=>h)
theorem wrap_i64 (n:Int):IntKind.i64.wrap n=if n % 18446744073709551616>=9223372036854775808 then n % 18446744073709551616-18446744073709551616 else n % 18446744073709551616:=by simp[IntKind.wrap,IntKind.bits,IntKind.signed]
theorem OT {n:Int}(h:-9223372036854775808<=n/\n<=9223372036854775807):IntKind.i64.wrap n=n:=by
 rw[wrap_i64];split<;>omega
abbrev iv (n:Int):AV:=.int .i64 n
abbrev jt (n:Int):Prop:=-9223372036854775808<=n/\n<=9223372036854775807
section
variable {K:AV->Prop}{a b:Int}
theorem Dg (h:jt (a+b)) (hK:K (iv (a+b))):AB (.bin .add (.cst (iv a)) (.cst (iv b))) K:=AA (by show some (AV.int .i64 (IntKind.i64.wrap (a+b)))=_;rw[OT h]) hK
theorem Km (h:jt (a-b)) (hK:K (iv (a-b))):AB (.bin .sub (.cst (iv a)) (.cst (iv b))) K:=AA (by show some (AV.int .i64 (IntKind.i64.wrap (a-b)))=_;rw[OT h]) hK
theorem PT (h:jt (a*b)) (hK:K (iv (a*b))):AB (.bin .mul (.cst (iv a)) (.cst (iv b))) K:=AA (by show some (AV.int .i64 (IntKind.i64.wrap (a*b)))=_;rw[OT h]) hK
theorem gG (ha:0<=a) (hb:0<b) (hK:K (iv (a % b))):AB (.bin .rem (.cst (iv a)) (.cst (iv b))) K:=AA (by
 have h0:b≠0:=by omega
 show(if IntKind.i64=IntKind.i64/\b≠0 then some (AV.int .i64 (a.tmod b))else none)=_
 rw[if_pos ⟨rfl,h0⟩,Oz ha]) hK
theorem mE (ha:0<=a) (hb:0<b) (hs:a<=9223372036854775807) (hK:K (iv (a / b))):AB (.bin .quo (.cst (iv a)) (.cst (iv b))) K:=AA (by
 have h0:b≠0:=by omega
 have h1:0<=a / b:=Int.ediv_nonneg ha (by omega)
 have h2:a / b<=a:=Int.ediv_le_self _ ha
 show(if IntKind.i64=IntKind.i64/\b≠0 then some (AV.int .i64 (IntKind.i64.wrap (a.tdiv b)))else none)=_
 rw[if_pos ⟨rfl,h0⟩,O0 ha,OT ⟨by omega,by omega⟩]) hK
theorem gH (hK:K (.bool (decide (a<b)))):AB (.bin .lss (.cst (iv a)) (.cst (iv b))) K:=AA rfl hK
theorem mG (hK:K (.bool (decide (b<a)))):AB (.bin .gtr (.cst (iv a)) (.cst (iv b))) K:=AA rfl hK
theorem mH (hK:K (.bool (decide (b<=a)))):AB (.bin .geq (.cst (iv a)) (.cst (iv b))) K:=AA rfl hK
theorem mI (hK:K (.bool (decide (a=b)))):AB (.bin .eql (.cst (iv a)) (.cst (iv b))) K:=AA (by show some (AV.bool (a==b))=_;congr 2) hK
theorem mF (hK:K (.bool (decide (a≠b)))):AB (.bin .neq (.cst (iv a)) (.cst (iv b))) K:=AA (by
 show some (AV.bool (a != b))=_
 congr 2
 by_cases h:a=b
 ·subst h;simp
 ·simp[h]) hK
theorem RM {t:Bool}(hK:K (.bool (!t))):AB (.un .not (.cst (.bool t))) K:=AA rfl hK
end
structure FL (z:Nat) (Pr:Nat->List AV->Prop) (n:Nat) (v:AV):Prop where
 ex:(n=0/\v=.nils)\/∃(css:List (List AV)) (b:Bool),v=.sim css.flatten n b/\(n=0->b=true)/\css.length=n/\∀i c,css[i]?=some c->c.length=z/\(∀k,HK k c)/\Pr i c
section
variable {z n:Nat}{Pr Pr':Nat->List AV->Prop}{v:AV}
theorem FL.nil:FL z Pr 0 .nils:=⟨.inl ⟨rfl,rfl⟩⟩
theorem FL.mono (h:FL z Pr n v) (hp:∀i c,i<n->Pr i c->Pr' i c):FL z Pr' n v:=by
 rcases h.ex with h | ⟨css,b,h1,h2,h3,h4⟩
 ·exact⟨.inl h⟩
 ·exact⟨.inr ⟨css,b,h1,h2,h3,fun i c hc=>by
   obtain⟨g1,g2,g3⟩:=h4 i c hc
   exact⟨g1,g2,hp i c (by rw[<- h3];exact(BU.1 hc).1) g3⟩⟩⟩
theorem FL.sc (h:FL z Pr n v) (k:Nat):Sc k v:=by
 rcases h.ex with⟨_,rfl⟩ | ⟨css,b,rfl,h2,h3,h4⟩
 ·exact .nils
 ·refine .sim (HK.Ii fun x hx=>?_)
  obtain⟨c,hc,hxc⟩:=Ow.1 hx
  obtain⟨i,hi⟩:=Cd hc
  exact((h4 i c hi).2.1 k).mem hxc
theorem FL.one (h:FL z Pr n v):v.cellsOf=some [v]:=by
 rcases h.ex with⟨_,rfl⟩ | ⟨css,b,rfl,_⟩<;>rfl
theorem FL.len (h:FL z Pr n v){K:AV->Prop}(hK:K (iv (n:Int))):AB (.len (.cst v)) K:=by
 rcases h.ex with⟨rfl,rfl⟩ | ⟨css,b,rfl,_⟩<;>exact AA rfl hK
theorem FL.cells (h:FL z Pr n v):∃css:List (List AV),css.length=n/\(∀H,Aj z v H=some (n,css.flatten))/\∀i c,css[i]?=some c->c.length=z/\(∀k,HK k c)/\Pr i c:=by
 rcases h.ex with⟨rfl,rfl⟩ | ⟨css,b,rfl,_,h3,h4⟩
 ·exact⟨[],rfl,fun H=>rfl,fun i c h=>by simp at h⟩
 ·refine⟨css,h3,fun H=>?_,h4⟩
  have:css.flatten.length=n*z:=by
   rw[GO css fun c hc=>?_,h3]
   obtain⟨i,hi⟩:=Cd hc
   exact(h4 i c hi).1
  simp[Aj,this]
theorem FL.at (h:FL z Pr n v){i:Nat}(hi:i<n):∃cs c,AI (.indexAddrS z (.cst v) (.cst (iv (i:Int)))) emp=some (.pim cs (i*z))/\c.length=z/\(∀k,HK k c)/\Pr i c/\(∀j x,c[j]?=some x->cs[i*z+j]?=some x)/\(cs.drop (i*z)).take z=c/\i*z+z<=cs.length:=by
 rcases h.ex with⟨rfl,_⟩ | ⟨css,b,rfl,_,h3,h4⟩
 ·omega
 ·have hc:css[i]?=some (css[i]'(by omega)):=Ak (by omega)
  have hz:∀c∈css,c.length=z:=fun c hc=>by
   obtain⟨i,hi⟩:=Cd hc
   exact(h4 i c hi).1
  obtain⟨g1,g2,g3⟩:=h4 i _ hc
  have hx:=Ju css i _ hz hc
  have hl:css.flatten.length=n*z:=by rw[GO css hz,h3]
  have hm:i*z+z<=n*z:=by
   have:(i+1)*z<=n*z:=DW _ (by omega)
   rw[EG,Gw]at this;exact this
  refine⟨css.flatten,css[i]'(by omega),?_,g1,g2,g3,fun j x hj=>?_,hx,by omega⟩
  ·have h9:(0:Int)<=(i:Int)/\(i:Int)<(n:Int):=by omega
   simp[AI,AF.ev,E0,h9]
  ·have hjz:j<z:=by rw[<- g1];exact(BU.1 hj).1
   have h5:((css.flatten.drop (i*z)).take z)[j]?=(css[i]'(by omega))[j]?:=by rw[hx]
   rw[EE,if_pos hjz,DX,hj]at h5
   exact h5
theorem FL.Om {Pr:Nat->List AV->Prop}(h:FL 1 Pr n v){i:Nat}(hi:i<n){H:AH}{K:AV->Prop}(hK:∀x,(∀k,Sc k x)->Pr i [x]->K x) :
  AB (.indexAddrS 1 (.cst v) (.cst (iv (i:Int)))) fun v2=>AE (.load none (.cst v2)) H K:=by
 obtain⟨cs,c,h1,h2,h3,h4,h5,_⟩:=h.at hi
 match c,h2 with
 | [x],_=>
  refine AA h1 (AX (v:=x) ?_ (hK x (fun k=>by cases h3 k with | cons a _=>exact a) h4))
  have:=h5 0 x rfl
  simpa[AZ,BC,AF.ev,apart]using this
end
structure GL (R:List (Nat × List AV)) (z:Nat) (Pr:Nat->List AV->Prop) (n:Nat) (cs:List AV):Prop where
 ex:∃css:List (List AV),VQ R cs css.flatten/\css.length=n/\∀i c,css[i]?=some c->c.length=z/\(∀k,HK k c)/\Pr i c
 n:cs.length=n*z
section
variable {R R':List (Nat × List AV)}{z n:Nat}{Pr Pr':Nat->List AV->Prop}{cs c c':List AV}
theorem GL.nil:GL R z Pr 0 []:=⟨⟨[],.nil,rfl,fun i c h=>by simp at h⟩,by simp⟩
theorem GL.mono (h:GL R z Pr n cs) (hs:R ⊆ R'):GL R' z Pr n cs:=by
 obtain⟨⟨css,h1,h2,h3⟩,h4⟩:=h
 exact⟨⟨css,h1.mono hs,h2,h3⟩,h4⟩
theorem GL.add (h:GL R z Pr n cs) (hf:VQ R c c') (hc:c.length=z) (hc':c'.length=z) (hs:∀k,HK k c') (hp:Pr n c'):GL R z Pr (n+1) (cs++c):=by
 obtain⟨⟨css,h1,h2,h3⟩,h4⟩:=h
 refine⟨⟨css++[c'],?_,by simp[h2],fun i d hd=>?_⟩,by rw[Aa,h4,hc,EG,Gw]⟩
 ·rw[Gz]
  simpa using h1.app hf
 ·rcases B8 i n with hi | hi
  ·rw[ED (by omega)]at hd
   exact h3 i d hd
  ·rw[De (by omega)]at hd
   have h0:i=n:=by
    rcases DE (i-css.length)with h | h
    ·omega
    ·rw[BM (by simp;omega)]at hd;cases hd
   subst h0
   rw[h2,Ia]at hd
   cases hd
   exact⟨hc',hs,hp⟩
theorem GL.tR (h:GL R z Pr n cs) (hc:c.length=z) (hs:∀k,HK k c) (hp:Pr n c):GL R z Pr (n+1) (cs++c):=h.add (.low hs) hc hc hs hp
theorem GL.QI {o:List (Nat × List AV)}{v:AV}(h:GL R z Pr n cs) (hv:Lv z o n cs v):∃y,FZ (o++R) v y/\FL z Pr n y:=by
 obtain⟨⟨css,h1,h2,h3⟩,h4⟩:=h
 have hcl:∀x∈css,x.length=z:=fun x hx=>by
  obtain⟨j,hj⟩:=Cd hx
  exact(h3 j x hj).1
 have hfl:css.flatten.length=n*z:=by rw[GO css hcl,h2]
 cases hv with
 | nil=>exact⟨.nils,fun _ _ _=>.low .nils,.nil⟩
 | ex q=>
  refine⟨.sim [] 0 true,fun H k hR=>?_,⟨.inr ⟨[],true,rfl,fun _=>rfl,rfl,fun i c h=>by simp at h⟩⟩⟩
  obtain⟨g1,g2⟩:=hR (q,[]) (.head _)
  exact .sl (l:=[]) (m:=0) g1 (by simp[AH.cells?,g2]) (by simp) .nil (fun _=>rfl) (fun _=>rfl)
 | op hn=>
  rename_i r
  refine⟨.sim css.flatten n false,fun H k hR=>?_,⟨.inr ⟨css,false,rfl,fun h=>by omega,h2,h3⟩⟩⟩
  obtain⟨g1,g2⟩:=hR (r,cs) (.head _)
  refine .sl (l:=cs) (m:=cs.length) g1 (by simp[AH.cells?,g2]) (by simp) ?_ (fun h=>by rw[h4,h,HR]) (fun h=>by cases h)
  rw[B_,Gh]
  exact h1 H k fun x hx=>hR x (CL _ hx)
 | exn hn=>
  rename_i r
  refine⟨.sim css.flatten n false,fun H k hR=>?_,⟨.inr ⟨css,false,rfl,fun h=>by omega,h2,h3⟩⟩⟩
  obtain⟨g1,g2⟩:=hR (r,cs) (.head _)
  refine .sl (l:=cs) (m:=cs.length) g1 (by simp[AH.cells?,g2]) (by simp) ?_ (fun h=>by rw[h4,h,HR]) (fun h=>by cases h)
  rw[B_,Gh]
  exact h1 H k fun x hx=>hR x (CL _ hx)
end
end
end Go.AL
namespace Go.AL.Co
inductive Er where
 | short
 | form
 deriving DecidableEq
inductive Rs (α:Type) where
 | ok (x:α) (r:List UInt8)
 | err (e:Er)
def Rs.bind {α β:Type}(x:Rs α) (f:α->List UInt8->Rs β):Rs β:=match x with
 | .ok a r=>f a r
 | .err e=>.err e
def Io (u:Nat):List UInt8:=if u<=127 then[UInt8.ofNat u]else UInt8.ofNat (u % 128+128)::Io (u / 128)
 termination_by u
 decreasing_by omega
def LW:Nat->List UInt8->Rs Nat
 | _,[]=>.err .short
 | i,x::r=>if (i=9/\1<x.toNat)\/(0<i/\x.toNat=0)then .err .form else
   if x.toNat<128 then .ok x.toNat r else(LW (i+1) r).bind fun v r'=>.ok (x.toNat-128+128*v) r'
theorem ofNat_toNat {n:Nat}(h:n<256):(UInt8.ofNat n).toNat=n:=by simp;omega
theorem QL (u:Nat):Io u≠[]:=by
 unfold Io;split<;>simp
theorem Yv:∀(k i u:Nat) (r:List UInt8),i+k=9->u<2 ^ (64-7*i)->(0<i->0<u)->LW i (Io u++r)=.ok u r:=by
 intro k
 induction k with
 | zero=>
  intro i u r hi hu hp
  have hi9:i=9:=by omega
  subst hi9
  have hu1:u<2:=by simpa using hu
  have hup:=hp (by omega)
  have:u=1:=by omega
  subst this
  unfold Io
  simp[LW]
 | succ k ih=>
  intro i u r hi hu hp
  unfold Io
  by_cases h:u<=127
  ·rw[if_pos h]
   have h1:(UInt8.ofNat u).toNat=u:=ofNat_toNat (by omega)
   simp only[Ec,B7,LW,h1]
   have hc:¬((i=9/\1<u)\/(0<i/\u=0)):=by
    rintro(⟨h9,_⟩ | ⟨hp',h0⟩)
    ·omega
    ·have:=hp hp';omega
   rw[if_neg hc,if_pos (by omega)]
  ·rw[if_neg h]
   have h1:(UInt8.ofNat (u % 128+128)).toNat=u % 128+128:=ofNat_toNat (by omega)
   simp only[Ec,LW,h1]
   have hc:¬((i=9/\1<u % 128+128)\/(0<i/\u % 128+128=0)):=by omega
   rw[if_neg hc,if_neg (by omega)]
   have hpow:2 ^ (64-7*i)=2 ^ (64-7*(i+1))*128:=by
    have:64-7*i=(64-7*(i+1))+7:=by omega
    rw[this,Tg]
   have hdiv:u / 128<2 ^ (64-7*(i+1)):=by
    rw[hpow]at hu
    exact Lu (by rw[Gy];exact hu)
   have hih:=ih (i+1) (u / 128) r (by omega) hdiv (fun _=>by omega)
   have e:u % 128+128-128+128*(u / 128)=u:=by omega
   simp only[hih,Rs.bind,e]
def zz (n:Int):Nat:=if 0<=n then 2*n.toNat else 2*(-n-1).toNat+1
def OA (u:Nat):Int:=if u % 2=1 then -((u / 2:Nat):Int)-1 else((u / 2:Nat):Int)
theorem df (n:Int):OA (zz n)=n:=by unfold OA zz;split<;>split<;>omega
def BY (n:Int):List UInt8:=Io (zz n)
def M4 (b:List UInt8):Rs Int:=(LW 0 b).bind fun u r=>.ok (OA u) r
def GZ (n:Int):Prop:=-9223372036854775808<=n/\n<=9223372036854775807
theorem fy {n:Int}(h:GZ n):zz n<2 ^ 64:=by unfold zz;obtain⟨h1,h2⟩:=h;split<;>omega
theorem Rv {n:Int}(h:GZ n) (r:List UInt8):M4 (BY n++r)=.ok n r:=by
 unfold M4 BY
 rw[Yv 9 0 (zz n) r (by omega) (by simpa using fy h) (by omega)]
 simp[Rs.bind,df]
theorem U6 (n:Int):BY n≠[]:=QL _
inductive Ty where
 | int
 | byte
 | bool
 | list (t:Ty)
 | pair (a b:Ty)
 | vec (n:Nat)
def Ty.D:Ty->Type
 | .int=>Int
 | .byte=>UInt8
 | .bool=>Bool
 | .list t=>List t.D
 | .pair a b=>a.D × b.D
 | .vec _=>List UInt8
def Cm {t:Ty}(l:(Ty.list t).D):List t.D:=l
def No {n:Nat}(l:(Ty.vec n).D):List UInt8:=l
def Ty.pos:Ty->Prop
 | .vec n=>0<n
 | .list t=>t.pos
 | .pair a b=>a.pos/\b.pos
 | _=>True
def Ty.wf:(t:Ty)->t.D->Prop
 | .int,n=>GZ n
 | .byte,_=>True
 | .bool,_=>True
 | .list t,l=>GZ ((Cm l).length:Int)/\∀x∈Cm l,t.wf x
 | .pair a b,p=>a.wf p.1/\b.wf p.2
 | .vec n,l=>(No l).length=n
def Ty.enc:(t:Ty)->t.D->List UInt8
 | .int,n=>BY n
 | .byte,x=>[x]
 | .bool,b=>[bif (show Bool from b)then 1 else 0]
 | .list t,l=>BY ((Cm l).length:Int)++(Cm l).flatMap t.enc
 | .pair a b,p=>a.enc p.1++b.enc p.2
 | .vec _,l=>l
def many {α:Type}(f:List UInt8->Rs α):Nat->List UInt8->Rs (List α)
 | 0,b=>.ok [] b
 | n+1,b=>(f b).bind fun x r=>(many f n r).bind fun l r'=>.ok (x::l) r'
def CN:List UInt8->Rs UInt8
 | []=>.err .short
 | x::r=>.ok x r
def Ty.dec:(t:Ty)->List UInt8->Rs t.D
 | .int,b=>M4 b
 | .byte,b=>CN b
 | .bool,b=>(CN b).bind fun x r=>if 1<x.toNat then .err .form else .ok (decide (x.toNat=1)) r
 | .list t,b=>(M4 b).bind fun n r=>if n<0 then .err .form else if (r.length:Int)<n then .err .short else many t.dec n.toNat r
 | .pair a b,l=>(a.dec l).bind fun x r=>(b.dec r).bind fun y r'=>.ok (x,y) r'
 | .vec n,b=>(many CN n b)
theorem Pq {α:Type}{f:List UInt8->Rs α}{g:α->List UInt8}:∀(l:List α) (r:List UInt8),(∀x∈l,∀r,f (g x++r)=.ok x r)->many f l.length (l.flatMap g++r)=.ok l r
 | [],r,_=>rfl
 | x::l,r,h=>by
  simp only[BV,many,D2,Ao]
  rw[h x (by simp)]
  simp only[Rs.bind]
  rw[Pq l r fun y hy=>h y (by simp[hy])]
theorem Xu:∀(t:Ty),t.pos->∀x:t.D,t.wf x->t.enc x≠[]
 | .int,_,n,_=>U6 n
 | .byte,_,x,_=>by simp[Ty.enc]
 | .bool,_,x,_=>by simp[Ty.enc]
 | .list t,_,l,_=>by
  simp only[Ty.enc]
  intro h
  exact U6 _ (List.append_eq_nil_iff.1 h).1
 | .pair a b,hp,p,hw=>by
  simp only[Ty.enc]
  intro h
  exact Xu a hp.1 p.1 hw.1 (List.append_eq_nil_iff.1 h).1
 | .vec n,hp,l,hw=>by
  simp only[Ty.enc]
  intro h
  have hw:(No l).length=n:=hw
  have:(No l)=[]:=h
  rw[this]at hw
  simp only[Ty.pos,Gv]at hp hw
  omega
theorem gg:∀l:List UInt8,l.flatMap (fun x=>[x])=l
 | []=>rfl
 | x::l=>by rw[D2,gg l];rfl
def Ty.Yo:Ty->Prop
 | .list t=>t.pos/\t.Yo
 | .pair a b=>a.Yo/\b.Yo
 | _=>True
theorem Og:∀(t:Ty),t.Yo->∀(d:t.D),t.wf d->∀r,t.dec (t.enc d++r)=.ok d r
 | .int,_,d,hw,r=>Rv hw r
 | .byte,_,d,_,r=>rfl
 | .bool,_,d,_,r=>by
  show(CN ([bif (show Bool from d)then 1 else 0]++r)).bind _=_
  cases d<;>simp[CN,Rs.bind]
 | .list t,hg,l,hw,r=>by
  obtain⟨h1,h2⟩:=hw
  have key0:((M4 (BY ((Cm l).length:Int)++(Cm l).flatMap t.enc++r)).bind (fun n r=>if n<0 then .err .form else if (r.length:Int)<n then .err .short else many t.dec n.toNat r):Rs (List t.D))=.ok (Cm l) r:=by
   rw[Ao,Rv h1]
   simp only[Rs.bind]
   have hlen:(Cm l).length<=((Cm l).flatMap t.enc).length:=by
    have key:∀l:List t.D,(∀x∈l,t.wf x)->l.length<=(l.flatMap t.enc).length:=by
     intro l
     induction l with
     | nil=>simp
     | cons x l ih=>
      intro hx
      have h3:0<(t.enc x).length:=List.length_pos_iff.2 (Xu t hg.1 x (hx x (by simp)))
      have h4:=ih fun y hy=>hx y (by simp[hy])
      simp only[D2,Aa,BV];omega
    exact key l h2
   rw[if_neg (by omega),if_neg (by rw[Aa];omega)]
   rw[Cp]
   exact Pq l r fun x hx r=>Og t hg.2 x (h2 x hx) r
  exact key0
 | .pair a b,hg,p,hw,r=>by
  show(a.dec (a.enc p.1++b.enc p.2++r)).bind _=_
  rw[Ao,Og a hg.1 p.1 hw.1]
  simp only[Rs.bind]
  rw[Og b hg.2 p.2 hw.2];rfl
 | .vec n,_,l,hw,r=>by
  have hw:(No l).length=n:=hw
  show many CN n ((No l)++r)=_
  have:=Pq (f:=CN) (g:=fun x=>[x]) (No l) r (fun x _ r=>rfl)
  rw[gg,hw]at this
  exact this
def whole (t:Ty) (b:List UInt8):Except Er t.D:=match t.dec b with
 | .ok x []=>.ok x
 | .ok _ (_::_)=>.error .form
 | .err e=>.error e
def FG:Ty:=.pair .int .byte
def B9:Ty:=.list FG
def A4:Ty:=.list .int
def EP:Ty:=.pair .bool .byte
def CA:Ty:=.pair .int (.list EP)
def BA:Ty:=.vec 32
def Bo:Ty:=.list .byte
def tQ:Ty:=.pair .int (.pair .int (.pair .int (.pair .int .bool)))
def FF:Ty:=.pair .int (.pair B9 (.pair B9 (.pair (.list BA) (.pair (.list A4) (.pair (.list .bool) (.pair A4 (.pair .int (.pair (.list BA) (.pair (.list (.list CA)) (.pair (.list .bool) (.pair (.list Bo) (.pair tQ (.pair .int .bool)))))))))))))
def DF:Ty:=.pair .int (.pair A4 (.pair .int (.pair .int (.pair .int (.pair .int (.pair .int .int))))))
def FU:Ty:=.pair B9 B9
def EN:Ty:=.pair .int (.pair .int (.pair .int (.pair .int (.pair FF (.pair A4 (.pair (.list A4) (.pair (.list DF) (.list FU))))))))
def AR:Ty:=.list EN
theorem Tx:AR.Yo:=by
 simp[AR,EN,FU,DF,FF,tQ,Bo,BA,CA,EP,A4,B9,FG,Ty.Yo,Ty.pos]
end Go.AL.Co
namespace Go.AL
def iG:List A_:=[
 ⟨(some 5),.move (.tmp 1),none⟩,
 ⟨(some 6),.convI .u64 (.tmp 5),none⟩,
 ⟨(some 7),.bin .shl (.tmp 6) (.cst (.int .u64 1)),none⟩,
 ⟨(some 4),.move (.tmp 7),none⟩]
def iF:List A_:=[
 ⟨(some 8),.move (.tmp 1),none⟩,
 ⟨(some 9),.bin .lss (.tmp 8) (.cst (.int .i64 0)),none⟩]
def iE:List A_:=[
 ⟨(some 10),.move (.tmp 1),none⟩,
 ⟨(some 11),.un .xor (.tmp 10),none⟩,
 ⟨(some 12),.convI .u64 (.tmp 11),none⟩,
 ⟨(some 13),.bin .shl (.tmp 12) (.cst (.int .u64 1)),none⟩,
 ⟨(some 14),.bin .or (.tmp 13) (.cst (.int .u64 1)),none⟩,
 ⟨(some 4),.move (.tmp 14),none⟩]
def iD:List A_:=[
 ⟨(some 15),.move (.tmp 4),none⟩,
 ⟨(some 16),.bin .gtr (.tmp 15) (.cst (.int .u64 127)),none⟩]
def iC:List A_:=[
 ⟨(some 19),.move (.tmp 0),none⟩,
 ⟨(some 20),.move (.tmp 0),none⟩,
 ⟨(some 21),.nilCheck (.tmp 20),none⟩,
 ⟨(some 22),.fieldAddr 0 (.tmp 21),none⟩,
 ⟨(some 23),.load none (.tmp 22),none⟩,
 ⟨(some 24),.move (.tmp 4),none⟩,
 ⟨(some 25),.convI .u8 (.tmp 24),none⟩,
 ⟨(some 26),.bin .or (.tmp 25) (.cst (.int .u8 128)),none⟩,
 ⟨(some 27),.buildSlice 1 1 [(.int .u8 0)] [(0,1,(.tmp 26))],none⟩,
 ⟨(some 28),.append 1 1 (.tmp 23) (.tmp 27),none⟩,
 ⟨(some 29),.nilCheck (.tmp 19),none⟩,
 ⟨(some 30),.fieldAddr 0 (.tmp 29),none⟩,
 ⟨none,.store 1 (.tmp 30) (.tmp 28),none⟩]
def iB:List A_:=[
 ⟨(some 17),.move (.tmp 4),none⟩,
 ⟨(some 18),.bin .shr (.tmp 17) (.cst (.int .u64 7)),none⟩,
 ⟨(some 4),.move (.tmp 18),none⟩]
def c_:Ax:=(.seq (.seq (.reg iD) (.cond (.tmp 16) .skip (.exit 0))) (.seq (.block 1 (.reg iC)) (.reg iB)))
def cz:List A_:=[
 ⟨(some 31),.move (.tmp 0),none⟩,
 ⟨(some 32),.move (.tmp 0),none⟩,
 ⟨(some 33),.nilCheck (.tmp 32),none⟩,
 ⟨(some 34),.fieldAddr 0 (.tmp 33),none⟩,
 ⟨(some 35),.load none (.tmp 34),none⟩,
 ⟨(some 36),.move (.tmp 4),none⟩,
 ⟨(some 37),.convI .u8 (.tmp 36),none⟩,
 ⟨(some 38),.buildSlice 1 1 [(.int .u8 0)] [(0,1,(.tmp 37))],none⟩,
 ⟨(some 39),.append 1 1 (.tmp 35) (.tmp 38),none⟩,
 ⟨(some 40),.nilCheck (.tmp 31),none⟩,
 ⟨(some 41),.fieldAddr 0 (.tmp 40),none⟩,
 ⟨none,.store 1 (.tmp 41) (.tmp 39),none⟩]
def rZ:Ax:=(.seq (.reg iG) (.seq (.seq (.reg iF) (.cond (.tmp 9) (.reg iE) .skip)) (.seq (.block 0 (.loop c_)) (.reg cz))))
def ot:List Cc:=[]
def gz:List A_:=[
 ⟨(some 4),.move (.tmp 0),none⟩,
 ⟨(some 5),.move (.tmp 0),none⟩,
 ⟨(some 6),.nilCheck (.tmp 5),none⟩,
 ⟨(some 7),.fieldAddr 0 (.tmp 6),none⟩,
 ⟨(some 8),.load none (.tmp 7),none⟩,
 ⟨(some 9),.move (.tmp 1),none⟩,
 ⟨(some 10),.buildSlice 1 1 [(.int .u8 0)] [(0,1,(.tmp 9))],none⟩,
 ⟨(some 11),.append 1 1 (.tmp 8) (.tmp 10),none⟩,
 ⟨(some 12),.nilCheck (.tmp 4),none⟩,
 ⟨(some 13),.fieldAddr 0 (.tmp 12),none⟩,
 ⟨none,.store 1 (.tmp 13) (.tmp 11),none⟩]
def xS:Ax:=(.reg gz)
def ta:List Cc:=[]
section
inductive Wr (H:AH) (p:Nat):Option Nat->List UInt8->Prop
 | nil (hp:H.get p=some (.cells [.nils])) (hlt:p<H.next):Wr H p none []
 | row {r:Nat} {bs:List UInt8} (hp:H.get p=some (.cells [.sl r 0 bs.length (.op 1)])) (hr:H.get r=some (.cells (bs.map bv))) (hne:r≠p) (hlt:p<H.next) (hrt:r<H.next):Wr H p (some r) bs
def DU (H:AH) (p:Nat) (ro:Option Nat) (bs':List UInt8):Am->AH->Prop:=fun o H'=>
 o=.ret (.tup [])/\∃r',H.next<=r'/\Wr H' p (some r') bs'/\H.next<=H'.next/\(∀q,q<H.next->q≠p->some q≠ro->H'.get q=H.get q)/\H'.gl=H.gl
theorem Az {P:Program}{e:Env}{H H1:AH}{K:Env->AH->Prop}{Kp:AV->Env->AH->Prop}{l:List A_}{d:Option Nat}{k:AK}{v:AV}
  (h:A2 k e H=some (v,H1)) (hp:k.plain=true) (hK:CJ P l (e.put d v) H1 K Kp):CJ P (⟨d,k,none⟩::l) e H K Kp:=dV (v:=(v,H1)) h hp hK
variable {P:Program}
theorem gm {e:Env}{H:AH}{ars:List Cc}{post:Am->AH->Prop}{Kp:AV->Env->AH->Prop}(h1:e AN=.tup []) (h2:GN ars post .normal e H) :
  CJ P [] e H (fun e' H'=>VV (fun x e H'=>e AN=.tup []/\GN ars post x e H') .normal e' H') Kp:=Tt (Fu (Q:=fun x e H'=>e AN=.tup []/\GN ars post x e H') ⟨h1,h2⟩)
theorem DU.mk {H H':AH}{p:Nat}{ro:Option Nat}{bs':List UInt8}{e:Env}(r':Nat) (h1:H.next<=r') (h2:Wr H' p (some r') bs') (h3:H.next<=H'.next) (h4:∀q,q<H.next->q≠p->some q≠ro->H'.get q=H.get q) (h5:H'.gl=H.gl) :
  GN [] (DU H p ro bs') .normal e H':=⟨rfl,r',h1,h2,h3,h4,h5⟩
set_option maxRecDepth 4000 in
theorem xP (F:Mh P 112 14 xS ta){H:AH}{p:Nat}{ro:Option Nat}{bs:List UInt8}(x:UInt8) (hW:Wr H p ro bs) (hb:bs.length<1099511627776) :
  AP P 112 [.ptr p 0,bv x] H (DU H p ro (bs++[x])):=by
 refine F.call (by simp) ?_
 unfold xS gz
 refine HF ?_
 cases hW with
 | nil hp hlt=>
  have h1:p≠H.next:=by omega
  have h2:p≠H.next+1:=by omega
  iterate 11 refine Az (by simp[A2,AI,AZ,BL,AF.ev,Env.put,Env.AM,CI,AN,I7,Fo,BC,AH.cells?,AH.Af,AH.AY,AH.get_erase,apart,Bx,Aj,B5,AV.cellsOf,As,hp,h1,h2,bv];first | done | rfl | exact⟨rfl,rfl⟩) rfl ?_
  refine gm (by simp[Env.put,Env.AM,CI,AN]) (DU.mk (H.next+1) (by omega) ?_ (by simp;omega) ?_ rfl)
  ·refine .row (bs:=[x]) ?_ ?_ (by omega) (by simp;omega) (by simp)
   ·simp[AH.AY]
   ·simp[AH.AY,AH.Af,bv];omega
  ·intro q hq hqp hqr
   have h3:q≠H.next:=by omega
   have h4:q≠H.next+1:=by omega
   simp[AH.AY,AH.Af,hqp,h3,h4]
 | row hp hr hne hlt hrt=>
  rename_i r
  have h1:p≠H.next:=by omega
  have h2:p≠H.next+1:=by omega
  have h3:r≠H.next:=by omega
  have h4:¬p=r:=fun e=>hne e.symm
  have h5:bs.length+1<=140737488355328:=by omega
  have h6:bs.length+1<=9223372036854775807:=by omega
  iterate 11 refine Az (by simp[A2,AI,AZ,BL,AF.ev,Env.put,Env.AM,CI,AN,I7,Fo,BC,AH.cells?,AH.Af,AH.AY,AH.get_erase,apart,Bx,Aj,B5,AV.cellsOf,As,hp,hr,h1,h2,h3,h4,h5,h6,bv];first | done | rfl | exact⟨rfl,rfl⟩) rfl ?_
  refine gm (by simp[Env.put,Env.AM,CI,AN]) (DU.mk (H.next+1) (by omega) ?_ (by simp;omega) ?_ rfl)
  ·refine .row ?_ ?_ (by omega) (by simp;omega) (by simp)
   ·simp[AH.AY]
   ·have h7:H.next+1≠p:=by omega
    simp[AH.AY,AH.Af,AH.get_erase,bv,h7]
    exact Ac (by simp)
  ·intro q hq hqp hqr
   have h7:q≠H.next:=by omega
   have h8:q≠H.next+1:=by omega
   have h9:q≠r:=fun e=>hqr (by rw[e])
   simp[AH.AY,AH.Af,AH.get_erase,hqp,h7,h8,h9]
end
section
variable [BX]
section
variable {P:Program}
theorem AP.Oi {g:FuncId}{al al':List AV}{R:AV}{H0 H:AH}(h:AP P g al' H0 fun o H'=>∃v,o=.ret v/\KL H' v R) (hs:HK 0 al') (ha:CG H (fun _=>True) al al') (h0:∀r,H0.get r=none) (hg:H.gl=H0.gl):AP P g al H fun o H'=>o=.ret R/\H'=H:=by
 refine⟨h.1,fun Z σ w vs hW hv=>?_⟩
 have hF:=hW.TH (R:=fun _=>True) (H':=⟨fun _=>none,H.next,H.gl⟩) rfl (fun r o hr=>by cases hr)
 have hW0:WR (VW Z σ H (fun _=>True) w) (fun _=>none) H0 w:=
  ⟨hF.z,fun r o p hr=>(by rw[h0]at hr;cases hr),fun r r' o o' p p' hr=>(by rw[h0]at hr;cases hr),fun _ _=>rfl,fun r _=>h0 r,by rw[<- hg];exact hF.rest⟩
 have hv0:CE (VW Z σ H (fun _=>True) w) (fun _=>none) al' vs:=by
  have:=(CG.sound hW ha hv).cut hs
  have e:IT 0 σ=fun _=>none:=by funext r;simp[IT]
  rwa [e]at this
 refine(h.2 _ _ w vs hW0 hv0).mono fun x w' hx=>?_
 obtain⟨Z1,σ1,H1',out,g1,g2,g3,g4,g5,v,rfl,hR⟩:=hx
 classical
 obtain⟨Z2,hZ2⟩:∃Z2:Zt,Z2={ Z1 with blk:=fun c=>if (∃r o p,H.get r=some o/\σ r=some p/\p.b=c)then none else if (∃r o p,H1'.get r=some o/\σ1 r=some p/\p.b=c)then w'.heap[c]? else Z1.blk c }:=⟨_,rfl⟩
 have hold:∀r o p,H.get r=some o->σ r=some p->∃x,Z1 p.b=some x/\w.heap[p.b]?=some x:=fun r o p q1 q2=>by
  obtain⟨_,hO⟩:=hW.h r o p q1 q2
  have hlt:=hO.lt
  have e1:w.heap[p.b]?=some (w.heap[p.b]'hlt):=Ll hlt
  have e2:VW Z σ H (fun _=>True) w p.b=w.heap[p.b]?:=WM (R:=fun _=>True) trivial q1 q2
  exact⟨_,g1.le _ _ (e2.trans e1),e1⟩
 have hown:∀r o p,H1'.get r=some o->σ1 r=some p->Z2 p.b=w'.heap[p.b]?:=fun r o p q1 q2=>by
  have hn:=(g4.h r o p q1 q2).1
  rw[hZ2]
  simp only
  rw[if_neg,if_pos ⟨r,o,p,q1,q2,rfl⟩]
  rintro⟨r',o',p',k1,k2,k3⟩
  obtain⟨x,k4,_⟩:=hold r' o' p' k1 k2
  rw[k3,hn]at k4;cases k4
 have hz:∀c o,Z2 c=some o->w'.heap[c]?=some o:=fun c o hc=>by
  rw[hZ2]at hc
  simp only at hc
  split at hc
  ·cases hc
  ·split at hc
   ·exact hc
   ·exact g4.z c o hc
 have hle:CR Z Z2:=by
  have hl:=(LQ (R:=fun _=>True) hW).trans g1
  refine⟨fun c o hc=>?_,by rw[hZ2];exact hl.os,by rw[hZ2];exact hl.out,by rw[hZ2];exact hl.QI,by rw[hZ2];exact hl.old⟩
  have:=hl.le c o hc
  rw[hZ2]
  simp only
  rw[if_neg,if_neg]
  ·exact this
  ·rintro⟨r,o',p,q1,q2,rfl⟩
   rw[(g4.h r o' p q1 q2).1]at this;cases this
  ·rintro⟨r,o',p,q1,q2,rfl⟩
   rw[(hW.h r o' p q1 q2).1]at hc;cases hc
 refine⟨Z2,σ,H,(.ret R),hle,Nw.refl _ _,A5 _,⟨hz,fun r o p q1 q2=>⟨?_,?_⟩,hW.inj,hW.fresh,hW.top,?_⟩,?_,rfl,rfl⟩
 ·rw[hZ2]
  simp only
  rw[if_pos ⟨r,o,p,q1,q2,rfl⟩]
 ·obtain⟨_,hO⟩:=hW.h r o p q1 q2
  obtain⟨x,k1,k2⟩:=hold r o p q1 q2
  have e3:=g4.z _ _ k1
  exact hO.mono hle (Le.refl _) (by rw[e3,k2])
 ·have hr:=g4.rest
  have hr0:=hW.rest
  exact⟨by rw[hr.1,hZ2],by rw[hr.2.1,hZ2],fun c o hc=>⟨hle.le _ _ (hr0.2.2 c o hc).1,(hr0.2.2 c o hc).2⟩⟩
 ·obtain⟨cv,q1,q2⟩:=g5
  exact⟨_,q1,hR.sound g4 hown q2⟩
end
mutual
theorem GS.all {H:AH}:∀{x y:AV},GS H 0 x y->Eb H (fun _=>True) x y
 | _,_,.low _=>.same _
 | _,_,.unk _=>.unk _
 | _,_,.sl _ hc hm hl hn hx=>.sl trivial hc hm (CH.all hl) hn hx
 | _,_,.ptr _ hc hl=>.ptr trivial hc (CH.all hl)
 | _,_,.ifc h=>.ifc (GS.all h)
 | _,_,.agg h=>.agg (CH.all h)
 | _,_,.tup h=>.tup (CH.all h)
 | _,_,.fn h1 h2=>.fn (CH.all h1) (CH.all h2)
theorem CH.all {H:AH}:∀{l l':List AV},CH H 0 l l'->CG H (fun _=>True) l l'
 | _,_,.nil=>.nil
 | _,_,.cons h t=>.cons (GS.all h) (CH.all t)
end
def dB (P:Program) (g:FuncId) (as0:List AV) (R:AV):Prop:=∀(H:AH) (zs:List AV),H.gl=BX.G->CG H (fun _=>True) zs as0->fp P g zs H R H
noncomputable def Aq (g0:FuncId) (as0:List AV) (R:AV) (rest:Ag):Ag:=fun g zs h=>Bool.rec (motive:=fun _=>KC) (rest g zs h) (.ret R h) (Nat.beq g g0&&Jt h 0 as0 zs)
theorem KX {P:Program}{g0:FuncId}{as0:List AV}{R:AV}{rest:Ag}(hr:AW P rest) (hR:dB P g0 as0 R):AW P (Aq g0 as0 R rest):=by
 intro g zs h
 unfold Aq
 cases hc:(Nat.beq g g0&&Jt h 0 as0 zs)with
 | false=>exact hr g zs h
 | true=>
  simp only[AS,FC]at hc
  obtain⟨rfl,h2⟩:=hc
  have e:=(Ew _ _ h2).all
  refine⟨fun v h' q=>?_,fun v h' q=>by cases q⟩
  cases q
  exact hR _ _ rfl e
end
section
variable [BX]
section
variable {P:Program}
def mC:Ax->Ax
 | .seq a _=>a
 | _=>.skip
def OW:Ax->Ax
 | .seq _ b=>b
 | _=>.skip
def xO:Ax->Ax
 | .cond _ a _=>a
 | _=>.skip
theorem Uj {f g:FuncId}{fn:Func}{n np t:Nat}{hs:Hints}{q:List Cc}{cp:List AF}{t0 t1 t3:HT}{F:GF}(hmix:P.follows .mixedOrders=true) (hf:P.funcs[f]?=some fn) (Di:(fn.name=="runtime.NumGoroutine")=false)
  (hn:fn.ntmps=n) (hb:(fn.body.bind (comp P hs n)).isSome=true) (hr:Gb P fn.results.toList=some q) (hle:Nat.ble n AN=true)
  (hsh:Ea P fn hs n=.seq (mC (Ea P fn hs n)) (.seq (mC (OW (Ea P fn hs n))) (.seq (.reg [⟨some t,.mkFunc (.func g) [] cp,none⟩,⟨none,.defer (.tmp t) [],none⟩]) (OW (OW (OW (Ea P fn hs n)))))))
  (ht:Nat.ble (t+1) AN=true) (ho:FV (OW (OW (OW (Ea P fn hs n))))=true) (hro:Hz (OW (OW (OW (Ea P fn hs n))))=true) (hq:XM q=true) (hnp:Nat.ble np n=true)
  (hA:∀all H,all.length=cp.length->FW P g all none H fun H'=>H'=H) (hF:F=gS np q (mC (Ea P fn hs n)) (mC (OW (Ea P fn hs n))) (OW (OW (OW (Ea P fn hs n)))) t g cp t0 t1 t3):Aw P f F:=by
 obtain⟨ac,hac⟩:=FA.1 hb
 have e:Ea P fn hs n=ac:=by unfold Ea;rw[hac]
 rw[e]at hsh ho hro hF
 have hfun:Mh P f n ac q:=Mh.mk' hmix hf Di hn hac hr hle
 rw[hsh]at hfun
 exact Ui hfun ht ho hro hq hnp hA hF
theorem NB {g:FuncId}{fn:Func}{n ra rb rc rd L:Nat}{hs:Hints}(hmix:P.follows .mixedOrders=true) (hf:P.funcs[g]?=some fn) (Di:(fn.name=="runtime.NumGoroutine")=false)
  (hn:fn.ntmps=n) (hb:(fn.body.bind (comp P hs n)).isSome=true) (hr:fn.results=#[]) (hle:Nat.ble n AN=true) (hlen:Nat.ble L n=true)
  (hsh:Ea P fn hs n=.seq (.reg [⟨some ra,.recover,none⟩,⟨some rb,.move (.tmp ra),none⟩]) (.seq (.reg [⟨some rc,.move (.tmp rb),none⟩,⟨some rd,.eq true .iface (.tmp rc) (.cst .nili),none⟩]) (.cond (.tmp rd) (xO (OW (OW (Ea P fn hs n)))) .skip)))
  (hd:(Nat.ble (ra+1) AN&&Nat.ble (rb+1) AN&&Nat.ble (rc+1) AN&&Nat.ble (rd+1) AN)=true):∀all H,all.length=L->FW P g all none H fun H'=>H'=H:=by
 intro all H hall
 obtain⟨ac,hac⟩:=FA.1 hb
 have e:Ea P fn hs n=ac:=by unfold Ea;rw[hac]
 rw[e]at hsh
 subst hn
 obtain⟨c,hc,hcc⟩:=C7.1 hac
 rw[hsh]at hcc
 simp only[AS]at hd
 obtain⟨⟨⟨d1,d2⟩,d3⟩,d4⟩:=hd
 have d1:=Ab d1
 have d2:=Ab d2
 have d3:=Ab d3
 have d4:=Ab d4
 have n1:¬AN=ra:=by omega
 have n2:¬AN=rb:=by omega
 have n3:¬AN=rc:=by omega
 have n4:¬AN=rd:=by omega
 refine SC hmix hf (by simpa using Di) hc (Ab hle) (by have:=Ab hlen;omega) hcc hr ?_
 refine Dw ?_
 refine dV (v:=(.nili,H)) (by simp[A2,AI,AF.ev,Env.AM,M8]) rfl ?_
 refine dV (v:=(.bool false,H)) (by simp[A2,AI,AF.ev,Env.put,Env.AM,VY]) rfl ?_
 refine Tt (Vg (Jz (t:=false) (by simp[AF.ev,Env.put,Env.AM]) (fun h=>by cases h) (fun _=>LX ?_)))
 exact⟨by simp[Env.put,Env.AM,CI,n1,n2,n3,n4],rfl⟩
end
end
noncomputable section
section
variable {P:Program}
def ZB:List A_->Env->AH->Option (Env × AH)
 | [],e,H=>some (e,H)
 | o::l,e,H=>match o.gd with
  | some _=>none
  | none=>match A2 o.k e H with
   | some (v,H1)=>ZB l (e.put o.dst v) H1
   | none=>none
theorem UP {n:Nat}(hn:n<=AN){ops:Array Oper}{K:Exit->Act->List Frame->World->Prop}{cs:List Frame}:∀(l:List Oper) (al:List A_) (i:Nat),ops.toList.drop i=l->CC P n ops l=some al ->
  ∀(e:Env) (H:AH) (e1:Env) (H1:AH),ZB al e H=some (e1,H1)->∀(Z:Zt) (σ:Sg) (a:Act) (w:World),WR Z σ H w->FR Z σ n e a ->
  (∀σ' a' w',Nw σ H.next σ'->H.next<=H1.next->WR Z σ' H1 w'->FR Z σ' n e1 a'->K .normal a' cs w')->wpOpsS P ops K (List.range' i l.length) a cs w
 | [],al,i,_,hc,e,H,e1,H1,hr,Z,σ,a,w,hW,hF,hK=>by
  simp only[CC,AD]at hc
  subst hc
  simp only[ZB,AD,A1]at hr
  obtain⟨rfl,rfl⟩:=hr
  exact hK σ a w (Nw.refl _ _) (A5 _) hW hF
 | o::l,al,i,hd,hc,e,H,e1,H1,hr,Z,σ,a,w,hW,hF,hK=>by
  simp only[CC]at hc
  split at hc<;>(try (cases hc;done))
  rename_i x xs hx hxs
  simp only[AD]at hc
  subst hc
  obtain⟨k1,d1,n1,g1⟩:=CX hx
  simp only[ZB]at hr
  split at hr<;>(try (cases hr;done))
  rename_i hgd
  split at hr<;>(try (cases hr;done))
  rename_i v H2 hone
  have w1:o.guard=none:=by rcases g1 with⟨h1,_⟩ | ⟨_,_,_,_,h2,_⟩;exact h1;rw[hgd]at h2;cases h2
  obtain⟨cv,w',σ',hrun,hN,hW',hv⟩:=QX k1 hW hF.er hone
  have hle:H.next<=H2.next:=M_ hone
  have hget:ops[i]?=some o:=by
   have:=congrArg (·[0]?) hd
   simpa using this
  have hd':ops.toList.drop (i+1)=l:=by
   have:=congrArg (List.drop 1) hd
   simpa[C0,Nat.add_comm]using this
  have hF':=(hF.mono (CR.refl _) (hW.sle hN)).put hn (d:=x.dst) (fun y hy=>n1 y (by rw[<- d1];exact hy)) hv
  rw[d1]at hF'
  rw[d1]at hr
  have ih:=UP hn (K:=K) (cs:=cs) l xs (i+1) hd' hxs _ _ _ _ hr Z σ' (a.put o.dst cv) w' hW' hF' fun σ2 a2 w2 q1 q2 q3 q4=>hK σ2 a2 w2 (hN.trans q1 hle) (Cs hle q2) q3 q4
  rw[BV,PA]
  rw[wpOpsS,hget]
  simp only[Region.wanted,w1,if_true]
  rcases hrun with hrun | ⟨hrun,rfl⟩
  ·simp only[hrun,Oper.upon_value];exact ih
  ·simp only[hrun,Oper.upon_skip];exact ih
theorem ZF {g:FuncId}{fn:Func}{c:Code}{hs:Hints}{rest:Ax}{ra:Nat}{l:List A_}{all:List AV}{m:Option AV}{H H1:AH}{e1:Env}{post:AH->Prop}(hmix:P.follows .mixedOrders=true) (hf:P.funcs[g]?=some fn)
  (Di:fn.name≠"runtime.NumGoroutine") (hb:fn.body=some c) (hn:fn.ntmps<=AN) (hlen:all.length<=fn.ntmps)
  (hc:comp P hs fn.ntmps c=some (.seq (.reg (⟨some ra,.recover,none⟩::l)) rest)) (hr:fn.results=#[])
  (hrun:ZB l ((CI all).set ra (M8 m)) H=some (e1,H1))
  (h:D P rest (fun x e H'=>e AN=.tup []/\(match x with | .normal | .ret=>post H' | _=>False)) e1 H1):FW P g all m H post:=by
 refine FW.Vz ⟨fn,hf,Di,by rw[hb];rfl⟩ fun Z σ w vs u hO hW hv hu=>callsD_of_wpS hf hb ?_
 intro c₀ cs hmode
 have hfr:FR Z σ fn.ntmps (CI all) { tmps:=vs.toArray++Array.replicate (fn.ntmps-vs.toArray.size) undef,defers:=[] }:=MY hv hlen hn
 generalize ({ tmps:=vs.toArray++Array.replicate (fn.ntmps-vs.toArray.size) undef,defers:=[] }:Act)=a0 at hfr
 obtain⟨c1,c2,rfl,TD,Us⟩:=Dc hc
 refine wpS_seq ?_
 obtain⟨id,ops,rfl,hal⟩:=MZ TD
 obtain⟨o1,ol,hops,q1,q2⟩:∃o1 ol,ops.toList=o1::ol/\Dj P fn.ntmps ops o1=some ⟨some ra,.recover,none⟩/\CC P fn.ntmps ops ol=some l:=by
  cases hl:ops.toList with
  | nil=>rw[hl]at hal;simp[CC]at hal
  | cons o1 t=>
   rw[hl]at hal
   simp only[CC]at hal
   split at hal<;>(try (cases hal;done))
   rename_i x xs hx hxs
   simp only[AD,O4]at hal
   obtain⟨rfl,rfl⟩:=hal
   exact⟨o1,t,rfl,hx,hxs⟩
 obtain⟨k1,d1,n1,g1⟩:=CX q1
 have w1:o1.guard=none:=by rcases g1 with⟨h1,_⟩ | ⟨_,_,_,_,h2,_⟩;exact h1;cases h2
 obtain⟨args,ats,ho1⟩:=C4 k1
 have e1':(execOp a0.eval o1).run P w=.ok .recover w:=by rw[Db ho1];simp[builtin]
 have mv:∀(rv:Value) (cs':List Frame),(∃u',cs'={ c₀ with mode:=u' }::cs/\settle u'=.returning)->VR Z σ (M8 m) rv ->
   wpOpsS P ops (Exit.thenS (c2.wpS P (bodyPostS P fn c₀ cs (fun e u' w'=>∃v Z' σ' H',e=.returned v/\settle u'=.returning/\CR Z Z'/\Nw σ H.next σ'/\H.next<=H'.next/\WR Z' σ' H' w'/\post H')))
    (bodyPostS P fn c₀ cs (fun e u' w'=>∃v Z' σ' H',e=.returned v/\settle u'=.returning/\CR Z Z'/\Nw σ H.next σ'/\H.next<=H'.next/\WR Z' σ' H' w'/\post H'))) (List.range' 1 ol.length) (a0.put o1.dst rv) cs' w:=by
  rintro rv cs' ⟨u',rfl,hset⟩ hrv
  have f1:=hfr.put hn (d:=some ra) (fun x hx=>n1 x (by rw[<- d1];exact hx)) hrv
  rw[show o1.dst=some ra from d1.symm]
  refine UP hn ol l 1 (by rw[hops];rfl) q2 _ H e1 H1 hrun Z σ _ w hW f1 fun σ1 a1 w1' hN hle hW1 hF1=>?_
  refine wpS_of_wp ?_
  refine Code.wp_mono ?_ (Ta hmix hn c2 _ Us Z σ1 H1 _ _ w1' Z σ1 H1.next _ hO (CR.refl _) (Nw.refl _ _) (A5 _) hW1 hF1 h)
  intro ex a' w' hq
  obtain⟨Z',σ',z,e',H',p1,p2,p3,p4,p5,p6,p7,p8⟩:=hq
  have hd:a'.defers=[]:=by
   obtain⟨l,k1,k2⟩:=p5.ds
   rw[p7]at k1;simp only[AV.tup.injEq]at k1;subst k1
   generalize a'.defers=dd at k2
   cases k2;rfl
  have hres:(results fn a'.tmps).run P w'=.ok (.tuple #[]) w':=by simp[results,hr]
  have hN2:Nw σ H.next σ':=hN.trans p2 hle
  have hle2:H.next<=H'.next:=Cs hle p3
  cases z with
  | normal=>cases p6;exact⟨hd,u',rfl,_,hres,_,Z',σ',H',rfl,hset,p1,hN2,hle2,p4,p8⟩
  | ret=>cases p6;exact⟨hd,u',rfl,_,hres,_,Z',σ',H',rfl,hset,p1,hN2,hle2,p4,p8⟩
  | Bi v=>exact p8.elim
  | exit i=>exact p8.elim
 refine wpS_region ?_
 have hsz:ops.size=ol.length+1:=by rw[<- Fp,hops,BV]
 rw[hsz,List.range_eq_range',PA]
 rw[wpOpsS]
 have h0:ops[0]?=some o1:=by rw[<- Ht,hops];rfl
 rw[h0]
 simp only[Region.wanted,w1,if_true,e1']
 cases m with
 | none=>
  have hu:u=.returning:=hu
  have:recoverD (c₀::cs)=none:=by simp[recoverD,hmode,hu]
  rw[this]
  exact mv .nilIface _ ⟨.returning,by rw[<- hu,<- hmode],rfl⟩ .nili
 | some v=>
  obtain⟨cv,hu,hcv⟩:=hu
  have:recoverD (c₀::cs)=some (cv,{ c₀ with mode:=.panicking [{ v:=cv,recovered:=true }] }::cs):=by simp[recoverD,hmode,hu]
  rw[this]
  exact mv cv _ ⟨_,rfl,rfl⟩ hcv
theorem FW.scope {g:FuncId}{all:List AV}{m:Option AV}{H:AH}{post:AH->Prop}(h:FW P g all m H post) (hp:∀H',post H'->∀r,r<H.next->H'.get r=H.get r):FW P g all m H fun H'=>H'=H:=by
 refine⟨h.1,fun Z σ w vs u hW hv hu=>(h.2 Z σ w vs u hW hv hu).mono fun x u' w' hx=>?_⟩
 obtain⟨v,Z',σ',H',e1,e2,g1,g2,g3,g4,g5⟩:=hx
 have hk:=hp H' g5
 have hall:∀r o p,r<H.next->H'.get r=some o->σ' r=some p->lT H.next o:=by
  intro r o p hr ho hp
  rw[hk r hr]at ho
  have hp':σ r=some p:=by rw[<- g2 r hr];exact hp
  have:=(hW.h r o p ho hp').2
  cases this with
  | cells hb hs' hf hl hv h1=>exact Lb hW.fresh hv
  | map hb hn he=>
   intro e hm
   obtain⟨i,hi⟩:=Cd hm
   obtain⟨m,q1,q2,q3,q4⟩:=he i e.1 e.2.1 e.2.2 hi
   exact⟨KJ hW.fresh q2,KJ hW.fresh q3⟩
  | iter hb h0 hm hs' hc=>
   intro r' hr'
   rcases hm with⟨hm,_⟩ | ⟨r2,q,h1,h2,_⟩
   ·rw[hm]at hr';cases hr'
   ·rw[h1]at hr';cases hr'
    rcases B8 r' H.next with hlt | hge
    ·exact hlt
    ·have:=hW.fresh r' hge;rw[h2]at this;cases this
 refine⟨v,Mr Z' σ' H' H.next w',IT H.next σ',H'.cut H.next H.gl,e1,e2,g1.trans (MG g4),fun r hr=>?_,A5 _,g4.cR hall (fun b o hb=>⟨g1.le _ _ (hW.rest.2.2 b o hb).1,(hW.rest.2.2 b o hb).2⟩),AH.cQ hW.top hk⟩
 simp only[IT,hr,if_true];exact g2 r hr
variable [BX]
def jD (call:Ag) (l:List (Ax × HT)) (K:EK):EK:=List.rec (motive:=fun _=>EK) K (fun p _ ih=>run call p.1 p.2 ih (fun _=>KZ) KZ) l
def eF (l:List (Ax × HT)) (c:Ax):Ax:=List.rec (motive:=fun _=>Ax) c (fun p _ ih=>.seq p.1 ih) l
theorem Py {call:Ag}{n:Nat}{hs:Hints}{v:AV}{hv:KH}{Q:Ex->Env->AH->Prop}{a:Ax}(hC:AW P call) (hmix:P.follows .mixedOrders=true) (hn:n<=AN):∀(pre:List (Ax × HT)) (c:Code) (K:EK) (e:Env) (h:KH),
  comp P hs n c=some (eF pre a)->e AN=.tup []->jD call pre K e h=.ret v hv->(∀c' e' h',comp P hs n c'=some a->e' AN=.tup []->K e' h'=.ret v hv->DS P n c' Q e' (Ai h'))->DS P n c Q e (Ai h)
 | [],c,K,e,h,hc,hd,hr,hK=>hK c e h hc hd hr
 | p::pre,c,K,e,h,hc,hd,hr,hK=>by
  have hb:KC.ret v hv≠.bad:=by intro x;cases x
  have hnb:∀{x:KC},x=KC.bad->x=.ret v hv->False:=fun h1 h2=>by rw[h1]at h2;cases h2
  obtain⟨c0,c',rfl,Ut,hc'⟩:=Dc (show comp P hs n c=some (.seq p.1 (eF pre a))from hc)
  refine CS.seq (CS.post ?_ (KU hC hmix hn hb c0 p.1 Ut p.2 _ _ _ e h hd hr))
  rintro z e1 H1 ⟨hd1,h1',rfl,hz⟩
  refine BB ?_
  cases z with
  | exit i=>exact(hnb rfl hz).elim
  | ret=>exact(hnb rfl hz).elim
  | Bi v=>cases hz
  | normal=>exact Py hC hmix hn pre c' K e1 h1' hc' hd1 hz hK
def gR (np:Nat) (q:List Cc) (pre:List (Ax × HT)) (a3:Ax) (t:Nat) (g:FuncId) (cp:List AF) (t3:HT):Ag->List AV->KH->KC:=fun call zs h=>
 Yh (MQ np 0 Ar zs h fun e h=>jD call pre (fun e h=>runM Pm call a3 t3 (Ik q) (fun _=>KZ) (Ik q) (e.set t (.fn (.func g) [] (GH e cp))) h) e h)
theorem Ug {f g:FuncId}{n np t:Nat}{q:List Cc}{pre:List (Ax × HT)}{a3:Ax}{cp:List AF}{t3:HT}
  (hF:Mh P f n (eF pre (.seq (.reg [⟨some t,.mkFunc (.func g) [] cp,none⟩,⟨none,.defer (.tmp t) [],none⟩]) a3)) q)
  (ht:Nat.ble (t+1) AN=true) (ho:FV a3=true) (hro:Hz a3=true) (hq:XM q=true) (hnp:Nat.ble np n=true) (hA:∀all H,all.length=cp.length->FW P g all none H fun H'=>H'=H) {F:GF} (hf:F=gR np q pre a3 t g cp t3):Aw P f F:=by
 subst hf
 intro call hC zs h
 have hnp:=Ab hnp
 have ht:=Ab ht
 refine⟨fun v hv hr=>?_,fun v hv hr=>?_⟩
 ·obtain⟨r,hr'⟩:∃r,r=MQ np 0 Ar zs h fun e h=>jD call pre (fun e h=>runM Pm call a3 t3 (Ik q) (fun _=>KZ) (Ik q) (e.set t (.fn (.func g) [] (GH e cp))) h) e h:=⟨_,rfl⟩
  have hr:Yh r=.ret v hv:=by rw[hr'];exact hr
  have hrv:r=.ret v hv:=by
   cases r with
   | ret v' h'=>exact hr
   | Bi v' h'=>cases hr
   | bad=>cases hr
  subst hrv
  have hb:KC.ret v hv≠.bad:=by intro x;cases x
  have hnb:∀{x:KC},x=KC.bad->x=.ret v hv->False:=fun h1 h2=>by rw[h1]at h2;cases h2
  obtain⟨h1,e,h2,h3⟩:=IM hb np 0 Ar zs hr'.symm
  have hle:=hF.le
  have he:e=CI zs:=by
   funext t
   rw[h3,CI,Ar,Ck,Cr]
   by_cases c1:t=AN
   ·subst c1
    rw[if_neg (by omega),if_pos rfl,if_pos rfl]
   ·rw[if_neg c1,if_neg c1]
    by_cases c2:t<np
    ·rw[if_pos (by omega)];rfl
    ·rw[if_neg (by omega),A6,BM (by omega)];rfl
  subst he
  refine hF.cY (by omega) fun c hs hc=>?_
  refine Py (a:=.seq (.reg [⟨some t,.mkFunc (.func g) [] cp,none⟩,⟨none,.defer (.tmp t) [],none⟩]) a3) hC hF.mix hle pre c _ _ h hc (by simp[CI]) h2 fun c'' e2 h2' hc'' hd2 hz=>?_
  obtain⟨cd,c3,rfl,hcd,QD⟩:=Dc hc''
  refine CS.seq (CS.ae hF.mix hle hcd (.inl rfl) (HF ?_))
  refine Fm rfl (Gt (k:=.mkFunc (.func g) [] cp) (v:=(.fn (.func g) [] (cp.map (·.ev e2)),Ai h2')) rfl (by simp[A2,AI]) ?_)
  have hne:t≠AN:=by omega
  have hd3:(e2.put (some t) (.fn (.func g) [] (cp.map (·.ev e2)))) AN=.tup []:=by
   rw[B4 (fun h=>hne (by cases h;rfl))];exact hd2
  have hev:(AF.tmp t).ev (e2.put (some t) (.fn (.func g) [] (cp.map (·.ev e2))))=.fn (.func g) [] (cp.map (·.ev e2)):=by simp[AF.ev,Env.put,Env.AM]
  refine Tu (args:=[]) hev hd3 ?_
  refine VG (Fu ?_)
  have hz:runM Pm call a3 t3 (Ik q) (fun _=>KZ) (Ik q) (e2.set t (.fn (.func g) [] (GH e2 cp))) h2'=.ret v hv:=hz
  rw[Gl]at hz
  refine CS.post ?_ (K_ hC UR hF.mix hle c3 a3 QD ho (fun ds=>ds=[.tup [.fn (.func g) [] [],.tup (cp.map (·.ev e2))]]) none (.inl hro) _ t3 _ _ _ _ h2' _ hb rfl hd3 hz)
  rintro z E3 H3 ⟨e3,_,rfl,rfl,hd3',h3',rfl,hz⟩
  have fin:Ik q e3 h3'=.ret v hv->FW P g (cp.map (·.ev e2)) none (Ai h3') fun H'=>match DQ (By (.tup [.tup [.fn (.func g) [] [],.tup (cp.map (·.ev e2))]]) e3) H' q with
    | some vs=>Am.ret (I9 vs)=.ret v/\H'=Ai hv
    | none=>False:=fun hk=>by
   obtain⟨l,k1,k2⟩:=IL hb hk
   cases k2
   refine(hA (cp.map (·.ev e2)) _ (BR ..)).mono fun H' hH=>?_
   subst hH
   rw[GQ q hq,k1]
   exact⟨rfl,rfl⟩
  refine BB ?_
  cases z with
  | exit i=>exact(hnb rfl hz).elim
  | Bi v=>cases hz
  | normal=>exact⟨g,_,none,Cu _ _,rfl,fin hz⟩
  | ret=>exact⟨g,_,none,Cu _ _,rfl,fin hz⟩
 ·exfalso
  have hr:Yh _=KC.Bi v hv:=hr
  revert hr
  generalize (MQ np 0 Ar zs h _:KC)=r
  intro hr
  cases r<;>cases hr
def aJ:Nat->Ax->List Ax
 | 0,_=>[]
 | k+1,ac=>mC ac::aJ k (OW ac)
def PZ:Nat->Ax->Ax
 | 0,ac=>ac
 | k+1,ac=>PZ k (OW ac)
theorem Uh {f g:FuncId}{fn:Func}{n np t:Nat}{hs:Hints}{q:List Cc}{cp:List AF}(ts:List HT){t3:HT}{F:GF}(hmix:P.follows .mixedOrders=true) (hf:P.funcs[f]?=some fn) (Di:(fn.name=="runtime.NumGoroutine")=false)
  (hn:fn.ntmps=n) (hb:(fn.body.bind (comp P hs n)).isSome=true) (hr:Gb P fn.results.toList=some q) (hle:Nat.ble n AN=true)
  (hsh:Ea P fn hs n=eF ((aJ ts.length (Ea P fn hs n)).zip ts) (.seq (.reg [⟨some t,.mkFunc (.func g) [] cp,none⟩,⟨none,.defer (.tmp t) [],none⟩]) (OW (PZ ts.length (Ea P fn hs n)))))
  (ht:Nat.ble (t+1) AN=true) (ho:FV (OW (PZ ts.length (Ea P fn hs n)))=true) (hro:Hz (OW (PZ ts.length (Ea P fn hs n)))=true) (hq:XM q=true) (hnp:Nat.ble np n=true)
  (hA:∀all H,all.length=cp.length->FW P g all none H fun H'=>H'=H) (hF:F=gR np q ((aJ ts.length (Ea P fn hs n)).zip ts) (OW (PZ ts.length (Ea P fn hs n))) t g cp t3):Aw P f F:=by
 obtain⟨ac,hac⟩:=FA.1 hb
 have e:Ea P fn hs n=ac:=by unfold Ea;rw[hac]
 rw[e]at hsh ho hro hF
 have hfun:Mh P f n ac q:=Mh.mk' hmix hf Di hn hac hr hle
 rw[hsh]at hfun
 exact Ug hfun ht ho hro hq hnp hA hF
end
end
end Go.AL
