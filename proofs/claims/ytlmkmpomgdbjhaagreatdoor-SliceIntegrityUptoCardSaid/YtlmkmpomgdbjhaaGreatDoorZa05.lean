import Derived.Test.YtlmkmpomgdbjhaaGreatDoorZa04
/-
  a part of the proof.
-/
set_option linter.unusedSectionVars false
set_option linter.unusedVariables false
set_option linter.unusedSimpArgs false
namespace Go.AL
noncomputable section
variable [BQ]
def Bw (ds:AV) (e:Env):Env:=e.set AM ds
theorem CU {ds:AV}{e:Env}{t:Nat}(h:t≠AM):Bw ds e t=e t:=by simp[Bw,Env.AN,h]
theorem Cs (ds:AV) (e:Env):Bw ds e AM=ds:=by simp[Bw,Env.AN]
theorem Ll {ds:AV}{e:Env}{d:Option Nat}{v:AV}(h:d≠some AM):(Bw ds e).put d v=Bw ds (e.put d v):=by
 cases d with
 | none=>rfl
 | some d=>
  have h:d≠AM:=fun x=>h (by rw[x])
  funext t
  simp only[Env.put,Bw,Env.AN]
  by_cases h1:t=d
  ·subst h1;rw[if_pos rfl,if_neg h,if_pos rfl]
  ·rw[if_neg h1]
   by_cases h2:t=AM
   ·rw[if_pos h2,if_pos h2]
   ·rw[if_neg h2,if_neg h2,if_neg h1]
def ZT (l:List Nat):Bool:=l.all fun t=>Nat.ble (t+1) AM
theorem JK {l:List Nat}(h:ZT l=true):∀t∈l,t≠AM:=fun t ht=>by
 have:=CW.1 h t ht
 have:=Aa this
 omega
def Vd (o:A_):Bool:=ZT o.k.tmps&&(!o.k.B0&&(Rg o&&(match o.gd with | none=>true | some (s,_)=>Nat.ble (s+1) AM)))
section
variable {P:Program}{ds:AV}
theorem Li {k:AK}{e:Env}(h:ZT k.tmps=true):∀t∈k.tmps,e t=Bw ds e t:=fun t ht=>(CU (JK h t ht)).symm
theorem Mg {o:A_}(h:Vd o=true):ZT o.k.tmps=true/\o.k.B0=false/\o.dst≠some AM/\∀s w,o.gd=some (s,w)->s≠AM:=by
 simp only[Vd,AS,E5]at h
 obtain⟨h1,h2,h3,h4⟩:=h
 refine⟨h1,h2,EW h3,fun s w hg=>?_⟩
 rw[hg]at h4
 have:=Aa h4
 omega
theorem OX [YC] {K K':Env->AH->Prop}{Kp Kp':AV->Env->AH->Prop}(hK:∀e H,K e H->K' (Bw ds e) H) (hKp:∀v e H,Kp v e H->Kp' v (Bw ds e) H):∀(ops:List A_) (e:Env) (H:AH),ops.all Vd=true->CI P ops e H K Kp->CI P ops (Bw ds e) H K' Kp'
 | [],e,H,_,h=>hK e H h
 | ⟨dst,k,gd⟩::ops,e,H,ho,h=>by
  rw[Dz,AS]at ho
  obtain⟨o1,o2,o3,o4⟩:=Mg ho.1
  have go:G1 P k e H (fun v H'=>CI P ops (e.put dst v) H' K Kp) (fun v H'=>Kp v e H')->G1 P k (Bw ds e) H (fun v H'=>CI P ops ((Bw ds e).put dst v) H' K' Kp') (fun v H'=>Kp' v (Bw ds e) H'):=fun h=>by
   rw[<- Mw (Li (ds:=ds) o1)]
   exact Jq (fun v H' hx=>by rw[Ll o3];exact OX hK hKp ops _ H' ho.2 hx) (fun v H' hx=>hKp v e H' hx) h
  cases gd with
  | none=>
   have h:G1 P k e H (fun v H'=>CI P ops (e.put dst v) H' K Kp) (fun v H'=>Kp v e H'):=by
    clear go
    cases k<;>first | (cases o2;done) | exact h
   exact Fb o2 (go h)
  | some g=>
   obtain⟨s,w⟩:=g
   have hs:=o4 s w rfl
   have h:match MN (e s)with
    | some b=>(b=some w->G1 P k e H (fun v H'=>CI P ops (e.put dst v) H' K Kp) (fun v H'=>Kp v e H'))/\(b≠some w->CI P ops (e.put dst Bp) H K Kp)
    | none=>False:=h
   split at h
   ·rename_i b hb
    refine Wf (b:=b) (by rw[CU hs];exact hb) (fun hw=>go (h.1 hw)) fun hw=>?_
    rw[Ll o3]
    exact OX hK hKp ops _ H ho.2 (h.2 hw)
   ·exact h.elim
theorem QU [YC] {K K':Env->AH->Prop}{Kp Kp':AV->Env->AH->Prop}{ep:Env}(hK:∀e H,K e H->K' (Bw ds e) H) (hKp:∀v H,Kp v ep H->Kp' v (Bw ds ep) H):∀(its:List DX) (e:Env) (H:AH) (pend:Ez),its.all (fun it=>Vd it.o)=true->A1 P ep K Kp its e H pend->A1 P (Bw ds ep) K' Kp' its (Bw ds e) H pend
 | [],e,H,_,_,h=>hK e H h
 | it::l,e,H,pend,ho,h=>by
  rw[Dz,AS]at ho
  obtain⟨o1,o2,o3,o4⟩:=Mg ho.1
  have c1:=fun H'=>Jo (H:=H') (Li (ds:=ds) (e:=e) o1)
  have c2:=Jp (Li (ds:=ds) (e:=e) o1)
  have c3:=QL (Li (ds:=ds) (e:=e) o1)
  have rec':∀v H' pend',A1 P ep K Kp l (e.put it.o.dst v) H' pend'->A1 P (Bw ds ep) K' Kp' l ((Bw ds e).put it.o.dst v) H' pend':=fun v H' pend' hx=>by
   rw[Ll o3];exact QU hK hKp l _ H' pend' ho.2 hx
  simp only[A1]at h ⊢
  have step:(if it.eff then G1 P it.o.k e H (fun v H'=>Ul it.fl pend H'/\A1 P ep K Kp l (e.put it.o.dst v) H' pend) (fun v H'=>Kp v ep H')
   else match AJ it.o.k e with
    | some v=>A1 P ep K Kp l (e.put it.o.dst v) H pend
    | none=>match AY it.o.k e H with
     | some v=>A1 P ep K Kp l (e.put it.o.dst v) H ((it.i,fun H'=>AY it.o.k e H'=some v)::pend)
     | none=>match FK it.o.k e with
      | some (c,f)=>A1 P ep K Kp l (e.put it.o.dst (f H.next)) (H.push (.cells c)) ((it.i,fun H'=>H'.get H.next=some (.cells c))::pend)
      | none=>False)->(if it.eff then G1 P it.o.k (Bw ds e) H (fun v H'=>Ul it.fl pend H'/\A1 P (Bw ds ep) K' Kp' l ((Bw ds e).put it.o.dst v) H' pend) (fun v H'=>Kp' v (Bw ds ep) H')
   else match AJ it.o.k (Bw ds e)with
    | some v=>A1 P (Bw ds ep) K' Kp' l ((Bw ds e).put it.o.dst v) H pend
    | none=>match AY it.o.k (Bw ds e) H with
     | some v=>A1 P (Bw ds ep) K' Kp' l ((Bw ds e).put it.o.dst v) H ((it.i,fun H'=>AY it.o.k (Bw ds e) H'=some v)::pend)
     | none=>match FK it.o.k (Bw ds e)with
      | some (c,f)=>A1 P (Bw ds ep) K' Kp' l ((Bw ds e).put it.o.dst (f H.next)) (H.push (.cells c)) ((it.i,fun H'=>H'.get H.next=some (.cells c))::pend)
      | none=>False):=fun h=>by
   by_cases he:it.eff=true
   ·rw[if_pos he]at h ⊢
    rw[<- Mw (Li (ds:=ds) o1)]
    exact Jq (fun v H' hx=>⟨hx.1,rec' v H' pend hx.2⟩) (fun v H' hx=>hKp v H' hx) h
   ·rw[if_neg he]at h ⊢
    rw[<- c2,<- c1,<- c3]
    split at h
    ·exact rec' _ _ _ h
    ·split at h
     ·rename_i v hv
      have:=rec' v H _ h
      simp only[<- c1];exact this
     ·split at h
      ·exact rec' _ _ _ h
      ·exact h
  split at h
  ·exact step h
  ·rename_i s w hg
   have hs:=o4 s w hg
   rw[CU hs]
   split at h
   ·exact⟨fun hw=>step (h.1 hw),fun hw=>rec' _ _ _ (h.2 hw)⟩
   ·exact h.elim
theorem bn {plan:List DX}{e:Env}(h:plan.all (fun it=>Vd it.o)=true):Is plan (Bw ds e)=Bw ds (Is plan e):=by
 funext t
 by_cases ht:t=AM
 ·subst ht
  rw[Cs]
  unfold Is
  rw[if_neg,Cs]
  intro hx
  obtain⟨it,h1,h2⟩:=GW.1 hx
  exact(Mg (CW.1 h it h1)).2.2.1 (by simpa using h2)
 ·rw[CU ht]
  unfold Is
  rw[CU ht]
end
def FN:Ay->Bool
 | .skip=>true
 | .reg ops=>ops.all Vd
 | .dreg plan=>plan.all fun it=>Vd it.o
 | .seq a b=>FN a&&FN b
 | .cond c a b=>ZT c.tmps&&(FN a&&FN b)
 | .block _ a=>FN a
 | .loop a=>FN a
 | .exit _=>true
 | .ret=>true
 | .rng g ps a b=>ZT g.tmps&&(ZT ps&&(FN a&&FN b))
abbrev Ya:=FuncId->List AV->KH->Option (List Nat × List (List AV))
def U_ (P:Program) (g:FuncId) (caps:List AV) (H:AH) (ks:List Nat) (xs:List (List AV)):Prop:=M3 P g caps H xs.length (fun i _ x=>xs[i]?=some x) (fun I=>∀i H',I i H'->∀r∈ks,H'.cells? r=H.cells? r) fun _ _=>True
def Rx (P:Program) (its:Ya):Prop:=∀g caps h ks xs,its g caps h=some (ks,xs)->U_ P g caps (Ah h) ks xs
def Vo (h h':KH) (r:Nat):Bool:=Option.rec (motive:=fun _=>Bool) false (fun l=>Option.rec (motive:=fun _=>Bool) false (fun l'=>Gv l l') (Bx h' r)) (Bx h r)
def RT (h h':KH) (ks:List Nat):Bool:=List.rec (motive:=fun _=>Bool) true (fun r _ ih=>Vo h h' r&&ih) ks
theorem NL {h h':KH}:∀(ks:List Nat),RT h h' ks=true->∀r∈ks,(Ah h').cells? r=(Ah h).cells? r
 | [],_,r,hr=>by cases hr
 | k::ks,hk,r,hr=>by
  have hk:(Vo h h' k&&RT h h' ks)=true:=hk
  rw[AS]at hk
  rcases DF.1 hr with rfl | hr
  rotate_left
  ·exact NL ks hk.2 r hr
  ·have h1:=hk.1
   unfold Vo at h1
   rw[<- Bn,<- Bn]
   cases e1:Bx h r with
   | none=>rw[e1]at h1;cases h1
   | some l=>
    cases e2:Bx h' r with
    | none=>rw[e1,e2]at h1;cases h1
    | some l'=>
     rw[e1,e2]at h1
     rw[CY l l' h1]
def lF (zs:List AV) (K:AV->List AV->KC):KC:=List.rec (motive:=fun _=>KC) .bad (fun v t _=>K v t) zs
def lE (zs:List AV) (K:KC):KC:=List.rec (motive:=fun _=>KC) K (fun _ _ _=>.bad) zs
def Wc (ps:List Nat):List AV->Env->(Env->KC)->KC:=
 List.rec (motive:=fun _=>List AV->Env->(Env->KC)->KC) (fun x e K=>lE x (K e)) (fun p _ ih x e K=>lF x fun v t=>ih t (e.set p v) K) ps
def TX (f:List AV->KH->(KH->KC)->KC) (ks:List Nat) (h0:KH) (xs:List (List AV)):KH->(KH->KC)->KC:=List.rec (motive:=fun _=>KH->(KH->KC)->KC) (fun h K=>K h) (fun x _ ih h K=>f x h fun h'=>Bool.rec (motive:=fun _=>KC) .bad (ih h' K) (RT h0 h' ks)) xs
def cf (its:Ya) (v:AV) (h:KH) (K:List Nat->List (List AV)->KC):KC:=
 FP.rec (motive:=fun _=>KC) .bad (fun g first cap=>List.rec (motive:=fun _=>KC) (Option.rec (motive:=fun _=>KC) .bad (fun p=>K p.1 p.2) (its g cap h)) (fun _ _ _=>.bad) first) (VO v)
def X_ (c:KC):KC:=KC.rec (motive:=fun _=>KC) (fun v h=>.ret v h) (fun _ _=>.bad) .bad c
theorem dz {c r:KC}(hb:r≠.bad) (h:X_ c=r):c=r/\∀v h',r≠.Bd v h':=by
 cases c with
 | ret v h'=>have h:KC.ret v h'=r:=h;subst h;exact⟨rfl,fun _ _ hh=>by cases hh⟩
 | Bd v h'=>exact absurd h.symm hb
 | bad=>exact absurd h.symm hb
def UL:Nat->EK:=(fun(_:AK->Nat) _=>KK) ZD
theorem Yv {r:KC}(hb:r≠.bad){its:Ya}{v:AV}{h:KH}{K:List Nat->List (List AV)->KC}(hh:cf its v h K=r):∃f caps ks xs,v=.fn (.func f) [] caps/\its f caps h=some (ks,xs)/\K ks xs=r:=by
 unfold cf at hh
 cases hv:VO v with
 | no=>rw[hv]at hh;exact absurd hh.symm hb
 | «at» f first caps=>
  rw[hv]at hh
  cases first with
  | cons x l=>exact absurd hh.symm hb
  | nil=>
   have hh:Option.rec (motive:=fun _=>KC) .bad (fun p=>K p.1 p.2) (its f caps h)=r:=hh
   cases hi:its f caps h with
   | none=>rw[hi]at hh;exact absurd hh.symm hb
   | some p=>rw[hi]at hh;exact⟨f,caps,p.1,p.2,SO hv,hi,hh⟩
theorem Q5 {r:KC}(hb:r≠.bad){K:Env->KC}:∀(ps:List Nat) (x:List AV) (e:Env),Wc ps x e K=r->x.length=ps.length/\K (D5 e ps x)=r
 | [],[],e,h=>⟨rfl,h⟩
 | [],_::_,e,h=>absurd h.symm hb
 | p::ps,[],e,h=>absurd h.symm hb
 | p::ps,v::x,e,h=>by
  obtain⟨h1,h2⟩:=Q5 hb ps x (e.set p v) h
  exact⟨by rw[Be,Be,h1],h2⟩
theorem Ma:∀(ps:List Nat) (x:List AV) (e:Env) (t:Nat),t ∉ ps->D5 e ps x t=e t
 | [],x,e,t,_=>by cases x<;>rfl
 | p::ps,[],e,t,_=>rfl
 | p::ps,v::x,e,t,h=>by
  show D5 (e.set p v) ps x t=e t
  rw[Ma ps x _ t (fun hh=>h (Cx _ hh)),Env.Gf _ _ (fun hh=>h (by rw[hh];exact BY ..))]
theorem PB {d:AV}:∀(ps:List Nat) (x:List AV) (e:Env),ZT ps=true->D5 (Bw d e) ps x=Bw d (D5 e ps x)
 | [],x,e,_=>by cases x<;>rfl
 | p::ps,[],e,_=>rfl
 | p::ps,v::x,e,h=>by
  have hp:p≠AM:=JK h p (BY ..)
  have h2:ZT ps=true:=by
   simp only[ZT,Dz,AS]at h ⊢;exact h.2
  show D5 ((Bw d e).set p v) ps x=Bw d (D5 (e.set p v) ps x)
  rw[<- PB ps x (e.set p v) h2]
  have:(Bw d e).set p v=Bw d (e.set p v):=Ll (d:=some p) (fun hh=>hp (by cases hh;rfl))
  rw[this]
theorem To {d:AV}{ps:List Nat}{x:List AV}{e:Env}(h:ZT ps=true) (hd:e AM=.tup []):SV (Bw d e) ps x=Bw (.tup []) (D5 e ps x):=by
 unfold SV
 rw[PB ps x e h]
 funext t
 by_cases ht:t=AM
 ·subst ht;rw[Env.Fu,Cs]
 ·rw[Env.Gf _ _ ht,CU ht,CU ht]
def runM (its:Ya) (call:Ag) (c:Ay):HT->EK->(Nat->EK)->EK->EK:=
 Ay.rec (motive:=fun _=>HT->EK->(Nat->EK)->EK->EK)
  (fun _ kn _ _=>kn)
  (fun ops _ kn _ _ e h=>iU call ops e h kn)
  (fun plan _ kn _ _ e h=>XG call plan e h kn)
  (fun _ _ ra rb t kn ke kr=>HT.rec (motive:=fun _=>EK) KK (fun x y _ _=>ra x (rb y kn ke kr) ke kr) (fun _ _ _ _=>KK) (fun _ _ _ _ _=>KK) t)
  (fun c _ _ ra rb t kn ke kr e h=>HT.rec (motive:=fun _=>KC) .bad (fun _ _ _ _=>.bad) (fun x y _ _=>A7 (c.ev e) (ra x kn ke kr e h) (rb y kn ke kr e h))
   (fun l x y _ _=>JF (c.ev e) (Hv l A5 kn) (fun J=>ra x (CN l J) ke kr e h) (fun J=>rb y (CN l J) ke kr e h)) t)
  (fun id _ ra t kn ke kr e h=>HT.rec (motive:=fun _=>KC) .bad (fun _ _ _ _=>.bad) (fun x _ _ _=>ra x kn (Sk id kn ke) kr e h)
   (fun l x _ _ _=>ZA (Hv l A5 kn) fun J=>ra x (CN l J) (Sk id (CN l J) ke) kr e h) t)
  (fun _ ra t _ ke kr e h=>HT.rec (motive:=fun _=>KC) .bad (fun _ _ _ _=>.bad) (fun _ _ _ _=>.bad)
   (fun l x _ _ _=>CN l (BH (CR l) fun self=>Hv l A5 fun e h=>ra x (CN l self) ke kr e h) e h) t)
  (fun id _ _ ke _=>ke id)
  (fun _ _ _ kr=>kr)
  (fun g ps _ _ ra rb t kn _ _ e h=>HT.rec (motive:=fun _=>KC) .bad (fun a b _ _=>X_ (cf its (g.ev e) h fun ks xs=>
   TX (fun x h K=>Wc ps x e fun e=>ra a (rb b (fun _ h=>K h) UL KK) UL KK e h) ks h xs h fun h=>kn e h)) (fun _ _ _ _=>.bad) (fun _ _ _ _ _=>.bad) t) c
def gT (M:List AV->Prop) (r:KC) (kn:EK) (ke:Nat->EK) (kr:EK):Ex->Env->AH->Prop:=fun x E H=>∃e ds,M ds/\E=Bw (.tup ds) e/\KQ r kn ke kr x e H
theorem Gm {ds:AV}{l:List Nat}{e:Env}{H:AH}(hd:e AM=.tup []):VS (Bw ds e) H (Bw ds (Hp l e A5)) H:=
 VS.GJ (fun t=>by
  by_cases h:t=AM
  ·subst h;rw[Cs,Cs];exact .inl rfl
  ·rw[CU h,CU h];exact(Cv hd).1 t) (by rw[Cs,Cs])
theorem gT.join {M:List AV->Prop}{r:KC}{l:List Nat}{kn:EK}{ke:Nat->EK}{kr:EK}:∀x E H,gT M r (CN l (Hv l A5 kn)) ke kr x E H->kY (gT M r kn ke kr) x E H:=by
 rintro x E H ⟨e,ds,hM,rfl,hd,h,rfl,hx⟩
 cases x with
 | normal=>
  simp only[C1]at hx
  exact⟨_,_,Gm (l:=l) hd,_,ds,hM,rfl,(Cv hd).2,h,rfl,hx⟩
 | exit i=>exact BB ⟨e,ds,hM,rfl,hd,h,rfl,hx⟩
 | ret=>exact BB ⟨e,ds,hM,rfl,hd,h,rfl,hx⟩
 | Bd v=>exact⟨e,ds,hM,rfl,hd,h,rfl,hx⟩
section
variable {P:Program}{call:Ag}{r:KC}{n:Nat}{hs:Hints}{its:Ya}
theorem Kl (hC:AT P call) (hI:Rx P its) (hmix:P.follows .mixedOrders=true) (hn:n<=AM):∀(c:Code) (ac:Ay),comp P hs n c=some ac->FN ac=true->∀(M:List AV->Prop) (ro:Option Nat),(Hg ac=true\/(ro=none/\∀ds,M ds->M (.nili::ds))) ->
  ∀(r:KC) (t:HT) (kn:EK) (ke:Nat->EK) (kr:EK) (e:Env) (h:KH) (ds:List AV),r≠.bad->M ds->e AM=.tup []->runM its call ac t kn ke kr e h=r->CQ ro P n c (gT M r kn ke kr) (Bw (.tup ds) e) (Ah h):=by
 intro c
 induction c with
 | skip=>
  intro ac hc _ M ro hk r t kn ke kr e h ds hb hM hd hr
  simp only[comp,AD]at hc;subst hc
  exact CQ.skip ⟨e,ds,hM,rfl,hd,h,rfl,hr⟩
 | exit id=>
  intro ac hc _ M ro hk r t kn ke kr e h ds hb hM hd hr
  simp only[comp,AD]at hc;subst hc
  exact CQ.exit ⟨e,ds,hM,rfl,hd,h,rfl,hr⟩
 | ret=>
  intro ac hc _ M ro hk r t kn ke kr e h ds hb hM hd hr
  simp only[comp,AD]at hc;subst hc
  exact CQ.ret ⟨e,ds,hM,rfl,hd,h,rfl,hr⟩
 | region id ops draw=>
  intro ac hc ho M ro hk r t kn ke kr e h ds hb hM hd hr
  have hbb:KC.bad≠r:=fun h=>hb h.symm
  have h1:∀e' h',e' AM=.tup []->kn e' h'=r->KQ r kn ke kr .normal e' (Ah h'):=fun e' h' q1 q2=>⟨q1,h',rfl,q2⟩
  have h2:∀v h',r=.Bd v h'->∀e',e' AM=.tup []->KQ r kn ke kr (.Bd v) e' (Ah h'):=fun v h' q1 e' q2=>⟨q2,h',rfl,q1⟩
  refine CQ.Z9 hmix hn hc (hk.elim .inr fun h=>.inl h.1) ?_
  cases draw with
  | true=>
   simp only[comp]at hc
   split at hc<;>(try (cases hc;done))
   split at hc<;>(try (cases hc;done))
   rename_i plan hpl
   split at hc<;>(try (cases hc;done))
   simp only[AD]at hc;subst hc
   have hk:=NO hC hb (K':=fun e' H'=>KQ r kn ke kr .normal e' H') (Kp':=fun v e' H'=>KQ r kn ke kr (.Bd v) e' H') h1 h2 hd hr
   refine OT ?_
   rw[bn ho]
   exact QU (fun e' H' q=>Fj ⟨e',ds,hM,rfl,q⟩) (fun v H' q=>⟨_,ds,hM,rfl,q⟩) plan e _ [] ho hk
  | false=>
   simp only[comp,AP]at hc
   obtain⟨al,hal,rfl⟩:=hc
   have hk:=Ph hC hb (K':=fun e' H'=>KQ r kn ke kr .normal e' H') (Kp':=fun v e' H'=>KQ r kn ke kr (.Bd v) e' H') h1 h2 hd hr
   exact Gs (OX (fun e' H' q=>Fj ⟨e',ds,hM,rfl,q⟩) (fun v e' H' q=>⟨e',ds,hM,rfl,q⟩) al e _ ho hk)
 | seq x y ihx ihy=>
  intro ac hc ho M ro hk r t kn ke kr e h ds hb hM hd hr
  have hbb:KC.bad≠r:=fun h=>hb h.symm
  simp only[comp]at hc
  split at hc
  ·rename_i ax ay hx hy
   simp only[AD]at hc;subst hc
   simp only[FN,AS]at ho
   cases t with
   | l=>exact absurd hr hbb
   | i a b=>exact absurd hr hbb
   | j l a b=>exact absurd hr hbb
   | s a b=>
    have hr:runM its call ax a (runM its call ay b kn ke kr) ke kr e h=r:=hr
    refine CQ.seq (CQ.post ?_ (ihx ax hx ho.1 M ro (hk.imp (fun h=>by simp only[Hg,AS]at h;exact h.1) id) r a _ ke kr e h ds hb hM hd hr))
    rintro z E' H' ⟨e',ds',hM',rfl,hd',h',rfl,hz⟩
    refine BB ?_
    cases z with
    | normal=>exact ihy ay hy ho.2 M ro (hk.imp (fun h=>by simp only[Hg,AS]at h;exact h.2) id) r b kn ke kr e' h' ds' hb hM' hd' hz
    | exit i=>exact⟨e',ds',hM',rfl,hd',h',rfl,hz⟩
    | ret=>exact⟨e',ds',hM',rfl,hd',h',rfl,hz⟩
    | Bd v=>exact⟨e',ds',hM',rfl,hd',h',rfl,hz⟩
  ·cases hc
 | cond c x y ihx ihy=>
  intro ac hc ho M ro hk r t kn ke kr e h ds hb hM hd hr
  have hbb:KC.bad≠r:=fun h=>hb h.symm
  simp only[comp]at hc
  split at hc
  ·rename_i c' ax ay h1 hx hy
   simp only[AD]at hc;subst hc
   simp only[FN,AS]at ho
   obtain⟨hoc,hox,hoy⟩:=ho
   have k1:Hg ax=true\/(ro=none/\∀ds,M ds->M (.nili::ds)):=hk.imp (fun h=>by simp only[Hg,AS]at h;exact h.1) id
   have k2:Hg ay=true\/(ro=none/\∀ds,M ds->M (.nili::ds)):=hk.imp (fun h=>by simp only[Hg,AS]at h;exact h.2) id
   have hev:c'.ev (Bw (.tup ds) e)=c'.ev e:=AE.BN fun t ht=>CU (JK hoc t ht)
   have go:∀{A B:KC} {Q:Ex->Env->AH->Prop},A7 (c'.ev e) A B=r->(A=r->CQ ro P n x Q (Bw (.tup ds) e) (Ah h))->(B=r->CQ ro P n y Q (Bw (.tup ds) e) (Ah h))->CQ ro P n (.cond c x y) Q (Bw (.tup ds) e) (Ah h):=fun{A B Q} hi ha hbq=>by
    unfold A7 at hi
    cases hv:Te (c'.ev e)with
    | no=>rw[hv]at hi;exact absurd hi hbb
    | «at» b=>
     rw[hv]at hi
     refine CQ.cond h1 (by rw[hev];exact OG hv) (fun ht=>?_) (fun ht=>?_)
     ·subst ht;exact ha hi
     ·subst ht;exact hbq hi
   cases t with
   | l=>exact absurd hr hbb
   | s a b=>exact absurd hr hbb
   | i a b=>exact go hr (fun q=>ihx ax hx hox M ro k1 r a kn ke kr e h ds hb hM hd q) (fun q=>ihy ay hy hoy M ro k2 r b kn ke kr e h ds hb hM hd q)
   | j l a b=>exact go hr (fun q=>(ihx ax hx hox M ro k1 r a _ ke kr e h ds hb hM hd q).post gT.join) (fun q=>(ihy ay hy hoy M ro k2 r b _ ke kr e h ds hb hM hd q).post gT.join)
  ·cases hc
 | block id x ih=>
  intro ac hc ho M ro hk r t kn ke kr e h ds hb hM hd hr
  have hbb:KC.bad≠r:=fun h=>hb h.symm
  simp only[comp,AP]at hc
  obtain⟨ax,hx,rfl⟩:=hc
  cases t with
  | l=>exact absurd hr hbb
  | s a b=>exact absurd hr hbb
  | i a b=>
   refine CQ.block ((ih ax hx ho M ro hk r a kn (Sk id kn ke) kr e h ds hb hM hd hr).post ?_)
   rintro z E' H' ⟨e',ds',hM',rfl,hd',h',rfl,hz⟩
   refine BB ?_
   cases z with
   | normal=>exact⟨e',ds',hM',rfl,hd',h',rfl,hz⟩
   | exit i=>
    simp only[OO]at hz
    simp only[]
    by_cases hi:i=id
    ·rw[if_pos hi];rw[if_pos hi]at hz;exact⟨e',ds',hM',rfl,hd',h',rfl,hz⟩
    ·rw[if_neg hi];rw[if_neg hi]at hz;exact⟨e',ds',hM',rfl,hd',h',rfl,hz⟩
   | ret=>exact⟨e',ds',hM',rfl,hd',h',rfl,hz⟩
   | Bd v=>exact⟨e',ds',hM',rfl,hd',h',rfl,hz⟩
  | j l a b=>
   have hr:runM its call ax a (CN l (Hv l A5 kn)) (Sk id (CN l (Hv l A5 kn)) ke) kr e h=r:=hr
   refine CQ.block ((ih ax hx ho M ro hk r a _ _ kr e h ds hb hM hd hr).post ?_)
   rintro z E' H' ⟨e',ds',hM',rfl,hd',h',rfl,hz⟩
   cases z with
   | normal=>exact gT.join (l:=l) .normal _ _ ⟨e',ds',hM',rfl,hd',h',rfl,hz⟩
   | exit i=>
    simp only[OO]at hz
    by_cases hi:i=id
    ·rw[if_pos hi]at hz
     simp only[C1]at hz
     refine⟨_,_,Gm (l:=l) hd',?_⟩
     simp only[hi,if_true]
     exact⟨_,ds',hM',rfl,(Cv hd').2,h',rfl,hz⟩
    ·rw[if_neg hi]at hz
     refine BB ?_
     simp only[]
     rw[if_neg hi];exact⟨e',ds',hM',rfl,hd',h',rfl,hz⟩
   | ret=>exact BB ⟨e',ds',hM',rfl,hd',h',rfl,hz⟩
   | Bd v=>exact⟨e',ds',hM',rfl,hd',h',rfl,hz⟩
 | loop x ih=>
  intro ac hc ho M ro hk r t kn ke kr e h ds hb hM hd hr
  have hbb:KC.bad≠r:=fun h=>hb h.symm
  simp only[comp,AP]at hc
  obtain⟨ax,hx,rfl⟩:=hc
  cases t with
  | l=>exact absurd hr hbb
  | s a b=>exact absurd hr hbb
  | i a b=>exact absurd hr hbb
  | j l a b=>
   have hr:CN l (VH (CR l) (fun self=>Hv l A5 fun e h=>runM its call ax a (CN l self) ke kr e h) aS) e h=r:=hr
   generalize hbody:(fun self:JT l=>Hv l A5 fun e h=>runM its call ax a (CN l self) ke kr e h)=body at hr
   refine CQ.loop (L:=fun k E H=>∃e ds,M ds/\E=Bw (.tup ds) e/\e AM=.tup []/\∃h,Ah h=H/\CN l (VH (CR l) body k) e h=r) ⟨e,ds,hM,rfl,hd,h,rfl,hr⟩ ?_
   rintro k E1 H1 ⟨e1,ds1,hM1,rfl,hd1,h1,rfl,hr1⟩
   cases k with
   | zero=>
    have hr1:CN l (CR l) e1 h1=r:=hr1
    rw[Kz]at hr1
    exact absurd hr1 hbb
   | succ k=>
    have hr1:CN l (body (VH (CR l) body k)) e1 h1=r:=hr1
    rw[<- hbody,C1,hbody]at hr1
    refine CQ.vs (Gm (l:=l) hd1) ((ih ax hx ho M ro hk r a _ ke kr _ h1 ds1 hb hM1 (Cv hd1).2 hr1).post ?_)
    rintro z E' H' ⟨e',ds',hM',rfl,hd',h',rfl,hz⟩
    refine BB ?_
    cases z with
    | normal=>exact⟨k,Nat.lt_succ_self k,e',ds',hM',rfl,hd',h',rfl,hz⟩
    | exit i=>exact⟨e',ds',hM',rfl,hd',h',rfl,hz⟩
    | ret=>exact⟨e',ds',hM',rfl,hd',h',rfl,hz⟩
    | Bd v=>exact⟨e',ds',hM',rfl,hd',h',rfl,hz⟩
 | rangeFunc g ps zs bd iha ihb=>
  intro ac hc ho M ro hk r t kn ke kr e h ds hb hM hd hr
  have hbb:KC.bad≠r:=fun h=>hb h.symm
  simp only[comp]at hc
  split at hc<;>(try (cases hc;done))
  rename_i g' aa ab hg ha hb'
  split at hc<;>(try (cases hc;done))
  rename_i hok
  simp only[AD]at hc;subst hc
  obtain⟨hps,ra,rb⟩:=hok
  have hps:∀p∈ps.toList,p<n:=fun p hp=>by simpa using CW.1 hps p hp
  obtain⟨hro,hcl⟩:=hk.resolve_left (by simp[Hg])
  subst hro
  simp only[FN,AS]at ho
  obtain⟨og,op,oa,ob⟩:=ho
  cases t with
  | l=>exact absurd hr hbb
  | i a b=>exact absurd hr hbb
  | j l a b=>exact absurd hr hbb
  | s a b=>
   have hr:X_ (cf its (g'.ev e) h fun ks xs=>TX (fun x h K=>Wc ps.toList x e fun e=>runM its call aa a (runM its call ab b (fun _ h=>K h) UL KK) UL KK e h) ks h xs h fun h=>kn e h)=r:=hr
   obtain⟨hr,hnp⟩:=dz hb hr
   obtain⟨f,caps,ks,xs,q1,q2,q3⟩:=Yv hb hr
   generalize hfn:(fun(x:List AV) (h:KH) (K:KH->KC)=>Wc ps.toList x e fun e=>runM its call aa a (runM its call ab b (fun _ h=>K h) UL KK) UL KK e h)=F at q3
   have hev:g'.ev (Bw (.tup ds) e)=g'.ev e:=AE.BN fun t ht=>CU (JK og t ht)
   refine CQ.lf (f:=f) (caps:=caps) (ds:=ds) (I:=fun i H=>∃h',Ah h'=H/\(∀r∈ks,(Ah h').cells? r=(Ah h).cells? r)/\TX F ks h (xs.drop i) h' (fun h=>kn e h)=r) hn hg hps (by rw[hev];exact q1) (Cs _ _) (hI f caps h ks xs q2) (fun i H' hI'=>by obtain⟨h',rfl,k1,_⟩:=hI';exact k1) ⟨h,rfl,fun _ _=>rfl,q3⟩ (fun i x Hi _ hx hIi hle=>?_) (fun Hn hIn=>?_)
   ·obtain⟨h',rfl,_,hr'⟩:=hIi
    obtain⟨hi,hx⟩:=CJ.1 hx
    rw[Gc hi,hx]at hr'
    have hr':F x h' (fun h''=>Bool.rec (motive:=fun _=>KC) .bad (TX F ks h (xs.drop (i+1)) h'' fun h=>kn e h) (RT h h'' ks))=r:=hr'
    rw[<- hfn]at hr'
    obtain⟨p1,p2⟩:=Q5 hb ps.toList x e hr'
    rw[hfn]at p2
    refine⟨by simpa using p1,fun l=>?_⟩
    rw[To op hd]
    have hse:D5 e ps.toList x AM=.tup []:=by rw[Ma _ _ _ _ (fun hm=>JK op _ hm rfl)];exact hd
    refine CQ.post ?_ (iha aa ha oa (fun ds=>ds=[]) (some l) (.inl ra) r a _ UL KK _ h' [] hb rfl hse p2)
    rintro z E' H' ⟨e',ds',rfl,rfl,hd',h'',rfl,hz⟩
    cases z with
    | exit i=>exact absurd hz hbb
    | ret=>exact absurd hz hbb
    | Bd v=>exact absurd hz (hnp _ _)
    | normal=>
     refine BB ⟨rfl,?_⟩
     refine CQ.post ?_ (ihb ab hb' ob (fun ds=>ds=[]) (some l) (.inl rb) r b _ UL KK e' h'' [] hb rfl hd' hz)
     rintro z2 E2 H2 ⟨e2,ds2,rfl,rfl,hd2,h2,rfl,hz2⟩
     cases z2 with
     | exit i=>exact absurd hz2 hbb
     | ret=>exact absurd hz2 hbb
     | Bd v=>exact absurd hz2 (hnp _ _)
     | normal=>
      have hz2:Bool.rec (motive:=fun _=>KC) .bad (TX F ks h (xs.drop (i+1)) h2 fun h=>kn e h) (RT h h2 ks)=r:=hz2
      cases hkk:RT h h2 ks with
      | false=>rw[hkk]at hz2;exact absurd hz2 hbb
      | true=>rw[hkk]at hz2;exact BB ⟨rfl,⟨h2,rfl,NL ks hkk,hz2⟩,trivial⟩
   ·obtain⟨h',rfl,_,hr'⟩:=hIn
    rw[List.drop_length]at hr'
    refine⟨e,.nili::ds,hcl ds hM,?_,hd,h',rfl,hr'⟩
    funext t
    by_cases ht:t=AM
    ·subst ht;rw[Env.Fu,Cs]
    ·rw[Env.Gf _ _ ht,CU ht,CU ht]
 | label l=>
  intro ac hc _ M ro hk r t kn ke kr e h ds hb hM hd hr
  simp only[comp,AD]at hc;subst hc
  exact CQ.label ⟨e,ds,hM,rfl,hd,h,rfl,hr⟩
 | scope x ih=>
  intro ac hc ho M ro hk r t kn ke kr e h ds hb hM hd hr
  have hbb:KC.bad≠r:=fun h=>hb h.symm
  simp only[comp,AP]at hc
  obtain⟨ax,hx,rfl⟩:=hc
  simp only[FN,AS]at ho
  obtain⟨_,hox,_⟩:=ho
  have k1:Hg ax=true\/(ro=none/\∀ds,M ds->M (.nili::ds)):=hk.imp (fun h=>by simp only[Hg,AS]at h;exact h.1) id
  cases t with
  | l=>exact absurd hr hbb
  | s a b=>exact absurd hr hbb
  | i a b=>exact CQ.scope (ih ax hx hox M ro k1 r a kn ke kr e h ds hb hM hd hr)
  | j l a b=>exact CQ.scope ((ih ax hx hox M ro k1 r a _ ke kr e h ds hb hM hd hr).post gT.join)
 | _=>intro ac hc;simp[comp]at hc
end
end
noncomputable section
variable [BQ]
section
variable {P:Program}
theorem MT.br {f:FuncId}{n:Nat}{ac:Ay}{ars:List CZ}(hF:MT P f n ac ars){args:List AV}{H:AH}{post:Al->AH->Prop}(hlen:args.length<=n)
  (h:∀c hs,comp P hs n c=some ac->DS P n c (dpost P ars post) (CH args) H):AQ P f args H post:=by
 have hle:=hF.le
 obtain⟨fn,c,hs,hf,Dh,hb,hn,hc,hr⟩:=hF.ex
 subst hn
 refine AQ.Vf ⟨fn,hf,Dh,by rw[hb];rfl⟩ fun Z σ w vs hO _ hW hv=>calls_of_wp_defers hf hb ?_
 have hfr:FR Z σ fn.ntmps (CH args) { tmps:=vs.toArray++Array.replicate (fn.ntmps-vs.toArray.size) undef,defers:=[] }:=MF hv hlen hle
 refine Code.wp_mono ?_ (wpIn_wide.1 (h c hs hc Z σ _ w Z σ H.next hO LY (CO.refl _) (Nw.refl _ _) (A4 _) hW hfr))
 intro ex a' w' hq
 obtain⟨Z',σ',z,e',H',g1,g2,g3,g4,g5,g6,g,all,m,hds,hx,hA⟩:=hq
 cases z with
 | normal=>cases g6;subst hx;exact FW (m:=none) hr g1 g2 g3 g4 g5 hds rfl hA
 | ret=>cases g6;subst hx;exact FW (m:=none) hr g1 g2 g3 g4 g5 hds rfl hA
 | Bd v=>
  obtain⟨cv,rfl,hv⟩:=g6
  subst hx
  exact FW (m:=some v) hr g1 g2 g3 g4 g5 hds ⟨cv,rfl,hv⟩ hA
 | exit i=>exact hx.elim
def Wu (q:List CZ):Bool:=q.all fun x=>match x with
 | .tmp t=>Nat.ble (t+1) AM
 | .cell a _=>Nat.ble (a+1) AM
theorem F4 {ds:AV}{e:Env}{H:AH}:∀q:List CZ,Wu q=true->DU (Bw ds e) H q=DU e H q
 | [],_=>rfl
 | .tmp t::q,h=>by
  simp only[Wu,Dz,AS]at h
  have:=Aa h.1
  simp only[DU,F4 q h.2,CU (ds:=ds) (e:=e) (t:=t) (by omega)]
 | .cell a g::q,h=>by
  simp only[Wu,Dz,AS]at h
  have:=Aa h.1
  simp only[DU,F4 q h.2,CU (ds:=ds) (e:=e) (t:=a) (by omega)]
theorem Td {e:Env}{H:AH}{K:Env->AH->Prop}{Kp:AV->Env->AH->Prop}{l:List A_}{d:Option Nat}{f:AE}{args:List AE}{g:FuncId}{first cap ds:List AV}(hf:f.ev e=.fn (.func g) first cap) (hd:e AM=.tup ds)
  (hK:CI P l ((e.set AM (.tup (.tup [.fn (.func g) [] [],.tup (first++args.map (·.ev e)++cap)]::ds))).put d .unk) H K Kp):CI P (⟨d,.defer f args,none⟩::l) e H K Kp:=by
 simp only[CI,hf,hd];exact hK
theorem Uv {e:Env}{H:AH}{K:Env->AH->Prop}{Kp:AV->Env->AH->Prop}(h:K e H):CI P [] e H K Kp:=h
def PY:Ya:=fun _ _ _=>none
theorem T_ {P:Program}:Rx P PY:=fun _ _ _ _ _ h=>by cases h
def fk (np:Nat) (q:List CZ) (a0 a1 a3:Ay) (t:Nat) (g:FuncId) (cp:List AE) (t0 t1 t3:HT):Ag->List AV->KH->KC:=fun call zs h=>
 X_ (L8 np 0 A5 zs h fun e h=>run call a0 t0 (run call a1 t1 (fun e h=>runM PY call a3 t3 (IS q) (fun _=>KK) (IS q) (e.set t (.fn (.func g) [] (Fy e cp))) h) (fun _=>KK) KK) (fun _=>KK) KK e h)
theorem UR {f g:FuncId}{n np t:Nat}{q:List CZ}{a0 a1 a3:Ay}{cp:List AE}{t0 t1 t3:HT}
  (hF:MT P f n (.seq a0 (.seq a1 (.seq (.reg [⟨some t,.mkFunc (.func g) [] cp,none⟩,⟨none,.defer (.tmp t) [],none⟩]) a3))) q)
  (ht:Nat.ble (t+1) AM=true) (ho:FN a3=true) (hro:Hg a3=true) (hq:Wu q=true) (hnp:Nat.ble np n=true) (hA:∀all H,all.length=cp.length->FO P g all none H fun H'=>H'=H) {F:GF} (hf:F=fk np q a0 a1 a3 t g cp t0 t1 t3):Ax P f F:=by
 subst hf
 intro call hC zs h
 have hnp:=Aa hnp
 have ht:=Aa ht
 refine⟨fun v hv hr=>?_,fun v hv hr=>?_⟩
 ·obtain⟨r,hr'⟩:∃r,r=L8 np 0 A5 zs h fun e h=>run call a0 t0 (run call a1 t1 (fun e h=>runM PY call a3 t3 (IS q) (fun _=>KK) (IS q) (e.set t (.fn (.func g) [] (Fy e cp))) h) (fun _=>KK) KK) (fun _=>KK) KK e h:=⟨_,rfl⟩
  have hr:X_ r=.ret v hv:=by rw[hr'];exact hr
  have hrv:r=.ret v hv:=by
   cases r with
   | ret v' h'=>exact hr
   | Bd v' h'=>cases hr
   | bad=>cases hr
  subst hrv
  have hb:KC.ret v hv≠.bad:=by intro x;cases x
  have hnb:∀{x:KC},x=KC.bad->x=.ret v hv->False:=fun h1 h2=>by rw[h1]at h2;cases h2
  obtain⟨h1,e,h2,h3⟩:=Ht hb np 0 A5 zs hr'.symm
  have hle:=hF.le
  have he:e=CH zs:=by
   funext t
   rw[h3,CH,A5,Ci,Cm]
   by_cases c1:t=AM
   ·subst c1
    rw[if_neg (by omega),if_pos rfl,if_pos rfl]
   ·rw[if_neg c1,if_neg c1]
    by_cases c2:t<np
    ·rw[if_pos (by omega)];rfl
    ·rw[if_neg (by omega),Ac,BT (by omega)];rfl
  subst he
  refine hF.br (by omega) fun c hs hc=>?_
  obtain⟨c0,c',rfl,Uc,hc'⟩:=Dc hc
  obtain⟨c1,c'',rfl,Sn,hc''⟩:=Dc hc'
  obtain⟨cd,c3,rfl,hcd,Py⟩:=Dc hc''
  refine CQ.seq (CQ.post ?_ (J2 hC hF.mix hle hb c0 a0 Uc t0 _ _ _ _ h (by simp[CH]) h2))
  rintro z e1 H1 ⟨hd1,h1',rfl,hz⟩
  refine BB ?_
  cases z with
  | exit i=>exact(hnb rfl hz).elim
  | ret=>exact(hnb rfl hz).elim
  | Bd v=>cases hz
  | normal=>
  refine CQ.seq (CQ.post ?_ (J2 hC hF.mix hle hb c1 a1 Sn t1 _ _ _ e1 h1' hd1 hz))
  rintro z e2 H2 ⟨hd2,h2',rfl,hz⟩
  refine BB ?_
  cases z with
  | exit i=>exact(hnb rfl hz).elim
  | ret=>exact(hnb rfl hz).elim
  | Bd v=>cases hz
  | normal=>
  refine CQ.seq (CQ.Z9 hF.mix hle hcd (.inl rfl) (Gs ?_))
  refine Fb rfl (GR (k:=.mkFunc (.func g) [] cp) (v:=(.fn (.func g) [] (cp.map (·.ev e2)),Ah h2')) rfl (by simp[A6,AJ]) ?_)
  have hne:t≠AM:=by omega
  have hd3:(e2.put (some t) (.fn (.func g) [] (cp.map (·.ev e2)))) AM=.tup []:=by
   rw[B2 (fun h=>hne (by cases h;rfl))];exact hd2
  have hev:(AE.tmp t).ev (e2.put (some t) (.fn (.func g) [] (cp.map (·.ev e2))))=.fn (.func g) [] (cp.map (·.ev e2)):=by simp[AE.ev,Env.put,Env.AN]
  refine Td (args:=[]) hev hd3 ?_
  refine Uv (Fj ?_)
  have hz:runM PY call a3 t3 (IS q) (fun _=>KK) (IS q) (e2.set t (.fn (.func g) [] (Fy e2 cp))) h2'=.ret v hv:=hz
  rw[GI]at hz
  refine CQ.post ?_ (Kl hC T_ hF.mix hle c3 a3 Py ho (fun ds=>ds=[.tup [.fn (.func g) [] [],.tup (cp.map (·.ev e2))]]) none (.inl hro) _ t3 _ _ _ _ h2' _ hb rfl hd3 hz)
  rintro z E3 H3 ⟨e3,_,rfl,rfl,hd3',h3',rfl,hz⟩
  have fin:IS q e3 h3'=.ret v hv->FO P g (cp.map (·.ev e2)) none (Ah h3') fun H'=>match DU (Bw (.tup [.tup [.fn (.func g) [] [],.tup (cp.map (·.ev e2))]]) e3) H' q with
    | some vs=>Al.ret (Im vs)=.ret v/\H'=Ah hv
    | none=>False:=fun hk=>by
   obtain⟨l,k1,k2⟩:=Hs hb hk
   cases k2
   refine(hA (cp.map (·.ev e2)) _ (Au ..)).mono fun H' hH=>?_
   subst hH
   rw[F4 q hq,k1]
   exact⟨rfl,rfl⟩
  refine BB ?_
  cases z with
  | exit i=>exact(hnb rfl hz).elim
  | Bd v=>cases hz
  | normal=>exact⟨g,_,none,Cs _ _,rfl,fin hz⟩
  | ret=>exact⟨g,_,none,Cs _ _,rfl,fin hz⟩
 ·exfalso
  have hr:X_ _=KC.Bd v hv:=hr
  revert hr
  generalize (L8 np 0 A5 zs h _:KC)=r
  intro hr
  cases r<;>cases hr
def aW (its:Ya) (np:Nat) (q:List CZ) (ac:Ay) (t:HT):Ag->List AV->KH->KC:=fun call zs h=>
 L8 np 0 A5 zs h fun e h=>runM its call ac t (IS q) (fun _=>KK) (IS q) e h
theorem NN {g n np:Nat}{q:List CZ}{ac:Ay}{t:HT}{its:Ya}(hF:MT P g n ac q) (hI:Rx P its) (ho:FN ac=true) (hq:Wu q=true) (hnp:Nat.ble np n=true){F:GF}(hf:F=aW its np q ac t):Ax P g F:=by
 subst hf
 intro call hC zs h
 have hnp:=Aa hnp
 have main:∀(r:KC) (post:Al->AH->Prop),aW its np q ac t call zs h=r->r≠.bad->(∀v h',r=.ret v h'->post (.ret v) (Ah h'))->(∀v h',r=.Bd v h'->post (.Bd v) (Ah h'))->AQ P g zs (Ah h) post:=by
  intro r post hr hb p1 p2
  obtain⟨h1,e,h2,h3⟩:=Ht hb np 0 A5 zs hr
  have hle:=hF.le
  have he:CH zs=Bw (.tup []) e:=by
   funext t
   by_cases c1:t=AM
   ·subst c1
    rw[Cs,CH,if_pos rfl]
   ·rw[CU c1,h3,CH,A5,Ci,Cm,if_neg c1,if_neg c1]
    by_cases c2:t<np
    ·rw[if_pos (by omega)];rfl
    ·rw[if_neg (by omega),Ac,BT (by omega)];rfl
  have hd:e AM=.tup []:=by
   rw[h3,A5,Ci,Cm,if_neg (by omega),if_pos rfl]
  refine hF.bp (by omega) fun c hs hc=>?_
  rw[he]
  refine CQ.post ?_ (Kl hC hI hF.mix hF.le c ac hc ho (fun ds=>∀x∈ds,x=.nili) none (.inr ⟨rfl,fun ds hds x hx=>by cases hx with
   | head=>rfl
   | tail _ hx=>exact hds x hx⟩) r t _ _ _ _ h [] hb Hl hd h2)
  rintro x E' H' ⟨e',ds,hM,rfl,hd',h',rfl,hx⟩
  refine BB ⟨⟨ds,Cs _ _,hM⟩,?_⟩
  cases x with
  | normal=>
   obtain⟨l,g1,g2⟩:=Hs hb hx
   simp only[F1,F4 q hq,g1]
   exact p1 _ _ g2
  | ret=>
   obtain⟨l,g1,g2⟩:=Hs hb hx
   simp only[F1,F4 q hq,g1]
   exact p1 _ _ g2
  | exit i=>exact absurd hx.symm hb
  | Bd v=>exact p2 _ _ hx
 exact⟨fun v h' hr=>main _ _ hr (by intro hh;cases hh) (fun v' h'' hh=>by cases hh;exact⟨rfl,rfl⟩) (fun v' h'' hh=>by cases hh),
  fun v h' hr=>main _ _ hr (by intro hh;cases hh) (fun v' h'' hh=>by cases hh) (fun v' h'' hh=>by cases hh;exact⟨rfl,rfl⟩)⟩
end
end
noncomputable section
section
variable [BQ] [YC]
def Zu (id:Nat) (K:PK) (ke:Nat->PK):Nat->PK:=(fun(_:Nat) i=>Bool.rec (motive:=fun _=>PK) (ke i) K (Nat.beq i id)) Qh
theorem Ww (id:Nat) (K:PK) (ke:Nat->PK) (i:Nat):Zu id K ke i=if i=id then K else ke i:=by
 show Bool.rec (motive:=fun _=>PK) (ke i) K (Nat.beq i id)=_
 rw[Ci]
 by_cases h:i=id<;>simp[h]
def Yf:PK:=fun _ _=>False
def Q4 (zs:List AV) (K:AV->List AV->Prop):Prop:=match zs with
 | v::t=>K v t
 | []=>False
def Wb (zs:List AV) (K:Prop):Prop:=match zs with
 | _::_=>False
 | []=>K
def TR (P:Program) (fv:AV) (H:AH) (B:List AV->AH->(AH->Prop)->Prop) (K:AH->Prop):Prop:=∃(f:FuncId) (caps:List AV) (N:Nat) (X:Nat->AH->List AV->Prop) (Cl:(Nat->AH->Prop)->Prop) (G:AH->AH->Prop) (I:Nat->AH->Prop),
 fv=.fn (.func f) [] caps/\M3 P f caps H N X Cl G/\Cl I/\I 0 H/\(∀i x Hi,i<N->X i Hi x->I i Hi->H.next<=Hi.next->B x Hi fun H2=>I (i+1) H2/\G Hi H2)/\∀Hn,I N Hn->K Hn
def SF:AV->AH->Prop:=fun _ _=>False
def l_:Nat:=
 let _a:=Q4
 let _b:=Wb
 let _c:=TR
 let _d:=SF
 Qh
def Zz (ps:List Nat):List AV->Env->(Env->Prop)->Prop:=
 (fun(_:Nat)=>List.rec (motive:=fun _=>List AV->Env->(Env->Prop)->Prop) (fun x e K=>Wb x (K e)) (fun p _ ih x e K=>Q4 x fun v t=>ih t (e.set p v) K) ps) l_
theorem RB {K:Env->Prop}:∀(ps:List Nat) (x:List AV) (e:Env),Zz ps x e K->x.length=ps.length/\K (D5 e ps x)
 | [],[],e,h=>⟨rfl,h⟩
 | [],_::_,e,h=>(show False from h).elim
 | p::ps,[],e,h=>(show False from h).elim
 | p::ps,v::x,e,h=>by
  obtain⟨h1,h2⟩:=RB ps x (e.set p v) h
  exact⟨by rw[Be,Be,h1],h2⟩
def Xw:Nat->PK:=(fun(_:Nat) _=>Yf) l_
def mB (P:Program) (c:Ay):(AV->AH->Prop)->HT->PK->(Nat->PK)->PK->PK:=
 Ay.rec (motive:=fun _=>(AV->AH->Prop)->HT->PK->(Nat->PK)->PK->PK)
  (fun _ _ kn _ _=>kn)
  (fun ops Kp _ kn _ _ e h=>mC P Kp ops e h kn)
  (fun plan Kp _ kn _ _ e h=>Zv P Kp plan e h kn)
  (fun _ _ ra rb Kp t kn ke kr=>HT.rec (motive:=fun _=>PK) Yf (fun x y _ _=>ra Kp x (rb Kp y kn ke kr) ke kr) (fun _ _ _ _=>Yf) (fun _ _ _ _ _=>Yf) t)
  (fun c _ _ ra rb Kp t kn ke kr e h=>HT.rec (motive:=fun _=>Prop) False (fun _ _ _ _=>False) (fun x y _ _=>AZ (c.ev e) (ra Kp x kn ke kr e h) (rb Kp y kn ke kr e h))
   (fun l x y _ _=>MU (c.ev e) (Nn l A5 kn) (fun J=>ra Kp x (Fv l J) ke kr e h) (fun J=>rb Kp y (Fv l J) ke kr e h)) t)
  (fun id _ ra Kp t kn ke kr e h=>HT.rec (motive:=fun _=>Prop) False (fun _ _ _ _=>False) (fun x _ _ _=>ra Kp x kn (Zu id kn ke) kr e h)
   (fun l x _ _ _=>Wa (Nn l A5 kn) fun J=>ra Kp x (Fv l J) (Zu id (Fv l J) ke) kr e h) t)
  (fun _ ra Kp t _ ke kr e h=>HT.rec (motive:=fun _=>Prop) False (fun _ _ _ _=>False) (fun _ _ _ _=>False)
   (fun l x _ _ _=>Ak l (fun self=>Nn l A5 fun e h=>ra Kp x (Fv l self) ke kr e h) (Hp l e A5) h) t)
  (fun id _ _ _ ke _=>ke id)
  (fun _ _ _ _ kr=>kr)
  (fun g ps _ _ ra rb _ t kn _ _ e h=>HT.rec (motive:=fun _=>Prop) False (fun a b _ _=>TR P (g.ev e) h (fun x h K=>Zz ps x e fun e=>ra SF a (rb SF b (fun _ h=>K h) Xw Yf) Xw Yf e h) fun h=>kn e h) (fun _ _ _ _=>False) (fun _ _ _ _ _=>False) t) c
def prun (P:Program) (Kp:AV->AH->Prop) (c:Ay):HT->PK->(Nat->PK)->PK->PK:=mB P c Kp
def PQ (Kp:AV->AH->Prop) (kn:PK) (ke:Nat->PK) (kr:PK):Ex->Env->AH->Prop:=fun x e H=>e AM=.tup []/\match x with
 | .normal=>kn e H
 | .exit i=>ke i e H
 | .ret=>kr e H
 | .Bd v=>Kp v H
def fM (M:List AV->Prop) (Kp:AV->AH->Prop) (kn:PK) (ke:Nat->PK) (kr:PK):Ex->Env->AH->Prop:=fun x E H=>∃e ds,M ds/\E=Bw (.tup ds) e/\PQ Kp kn ke kr x e H
theorem fM.join {M:List AV->Prop}{Kp:AV->AH->Prop}{l:List Nat}{kn:PK}{ke:Nat->PK}{kr:PK}:∀x E H,fM M Kp (Fv l (Nn l A5 kn)) ke kr x E H->kY (fM M Kp kn ke kr) x E H:=by
 rintro x E H ⟨e,ds,hM,rfl,hd,hx⟩
 cases x with
 | normal=>
  simp only[D7]at hx
  exact⟨_,_,Gm (l:=l) hd,_,ds,hM,rfl,(Cv hd).2,hx⟩
 | exit i=>exact BB ⟨e,ds,hM,rfl,hd,hx⟩
 | ret=>exact BB ⟨e,ds,hM,rfl,hd,hx⟩
 | Bd v=>exact⟨e,ds,hM,rfl,hd,hx⟩
theorem Lp:∀{l:List Nat}{J:JP l}{e e':Env}{h:AH},(∀i∈l,e i=e' i)->Ef l J e h=Ef l J e' h
 | [],_,_,_,_,_=>rfl
 | i::l,J,e,e',h,hh=>by
  show Ef l (J (e i)) e h=Ef l (J (e' i)) e' h
  rw[hh i (.head _)]
  exact Lp fun j hj=>hh j (.tail _ hj)
theorem NH:∀{l:List Nat}{J:JN l}{e e':Env}{h:AH},(∀i∈l,e i=e' i)->JV l J e h=JV l J e' h
 | [],_,_,_,_,_=>rfl
 | i::l,J,e,e',h,hh=>by
  show JV l (J (e i)) e h=JV l (J (e' i)) e' h
  rw[hh i (.head _)]
  exact NH fun j hj=>hh j (.tail _ hj)
theorem Lo:∀(l:List Nat) (e0:Env) (f:PK) (e:Env) (h:AH),Ef l (Tt l e0 f) e h=f (Hp l e e0) h
 | [],_,_,_,_=>rfl
 | i::l,e0,f,e,h=>by
  show Ef l (Tt l (e0.set i (e i)) f) e h=_
  rw[Lo l];rfl
section
variable {P:Program}{n:Nat}{hs:Hints}
theorem PN (hmix:P.follows .mixedOrders=true) (hn:n<=AM):∀(c:Code) (ac:Ay),comp P hs n c=some ac->FN ac=true->∀(M:List AV->Prop) (ro:Option Nat),(Hg ac=true\/(ro=none/\∀ds,M ds->M (.nili::ds))) ->
  ∀(Kp:AV->AH->Prop) (t:HT) (kn:PK) (ke:Nat->PK) (kr:PK) (e:Env) (h:AH) (ds:List AV),M ds->e AM=.tup []->prun P Kp ac t kn ke kr e h->CQ ro P n c (fM M Kp kn ke kr) (Bw (.tup ds) e) h:=by
 intro c
 induction c with
 | skip=>
  intro ac hc ho M ro hk Kp t kn ke kr e h ds hM hd hr
  simp only[comp,AD]at hc;subst hc
  exact CQ.skip ⟨e,ds,hM,rfl,hd,hr⟩
 | exit id=>
  intro ac hc ho M ro hk Kp t kn ke kr e h ds hM hd hr
  simp only[comp,AD]at hc;subst hc
  exact CQ.exit ⟨e,ds,hM,rfl,hd,hr⟩
 | ret=>
  intro ac hc ho M ro hk Kp t kn ke kr e h ds hM hd hr
  simp only[comp,AD]at hc;subst hc
  exact CQ.ret ⟨e,ds,hM,rfl,hd,hr⟩
 | region id ops draw=>
  intro ac hc ho M ro hk Kp t kn ke kr e h ds hM hd hr
  have h1:∀e' h',e' AM=.tup []->kn e' h'->PQ Kp kn ke kr .normal e' h':=fun e' h' q1 q2=>⟨q1,q2⟩
  have h2:∀v h',Kp v h'->∀e',e' AM=.tup []->PQ Kp kn ke kr (.Bd v) e' h':=fun v h' q1 e' q2=>⟨q2,q1⟩
  refine CQ.Z9 hmix hn hc (hk.elim .inr fun h=>.inl h.1) ?_
  cases draw with
  | true=>
   simp only[comp]at hc
   split at hc<;>(try (cases hc;done))
   split at hc<;>(try (cases hc;done))
   rename_i plan hpl
   split at hc<;>(try (cases hc;done))
   simp only[AD]at hc;subst hc
   have hk:=Tz (K':=fun e' H'=>PQ Kp kn ke kr .normal e' H') (Kp':=fun v e' H'=>PQ Kp kn ke kr (.Bd v) e' H') h1 h2 hd hr
   refine OT ?_
   rw[bn ho]
   exact QU (fun e' H' q=>Fj ⟨e',ds,hM,rfl,q⟩) (fun v H' q=>⟨_,ds,hM,rfl,q⟩) plan e _ [] ho hk
  | false=>
   simp only[comp,AP]at hc
   obtain⟨al,hal,rfl⟩:=hc
   have hk:=VX (K':=fun e' H'=>PQ Kp kn ke kr .normal e' H') (Kp':=fun v e' H'=>PQ Kp kn ke kr (.Bd v) e' H') h1 h2 hd hr
   exact Gs (OX (fun e' H' q=>Fj ⟨e',ds,hM,rfl,q⟩) (fun v e' H' q=>⟨e',ds,hM,rfl,q⟩) al e _ ho hk)
 | seq x y ihx ihy=>
  intro ac hc ho M ro hk Kp t kn ke kr e h ds hM hd hr
  simp only[comp]at hc
  split at hc
  ·rename_i ax ay hx hy
   simp only[AD]at hc;subst hc
   simp only[FN,AS]at ho
   cases t with
   | l=>exact(show False from hr).elim
   | i a b=>exact(show False from hr).elim
   | j l a b=>exact(show False from hr).elim
   | s a b=>
    have hr:prun P Kp ax a (prun P Kp ay b kn ke kr) ke kr e h:=hr
    refine CQ.seq (CQ.post ?_ (ihx ax hx ho.1 M ro (hk.imp (fun h=>by simp only[Hg,AS]at h;exact h.1) id) Kp a _ ke kr e h ds hM hd hr))
    rintro z E' H' ⟨e',ds',hM',rfl,hd',hz⟩
    refine BB ?_
    cases z with
    | normal=>exact ihy ay hy ho.2 M ro (hk.imp (fun h=>by simp only[Hg,AS]at h;exact h.2) id) Kp b kn ke kr e' H' ds' hM' hd' hz
    | exit i=>exact⟨e',ds',hM',rfl,hd',hz⟩
    | ret=>exact⟨e',ds',hM',rfl,hd',hz⟩
    | Bd v=>exact⟨e',ds',hM',rfl,hd',hz⟩
  ·cases hc
 | cond c x y ihx ihy=>
  intro ac hc ho M ro hk Kp t kn ke kr e h ds hM hd hr
  simp only[comp]at hc
  split at hc
  ·rename_i c' ax ay h1 hx hy
   simp only[AD]at hc;subst hc
   simp only[FN,AS]at ho
   obtain⟨hoc,hox,hoy⟩:=ho
   have k1:Hg ax=true\/(ro=none/\∀ds,M ds->M (.nili::ds)):=hk.imp (fun h=>by simp only[Hg,AS]at h;exact h.1) id
   have k2:Hg ay=true\/(ro=none/\∀ds,M ds->M (.nili::ds)):=hk.imp (fun h=>by simp only[Hg,AS]at h;exact h.2) id
   have hev:c'.ev (Bw (.tup ds) e)=c'.ev e:=AE.BN fun t ht=>CU (JK hoc t ht)
   have go:∀{A B:Prop} {Q:Ex->Env->AH->Prop},AZ (c'.ev e) A B->(A->CQ ro P n x Q (Bw (.tup ds) e) h)->(B->CQ ro P n y Q (Bw (.tup ds) e) h)->CQ ro P n (.cond c x y) Q (Bw (.tup ds) e) h:=fun{A B Q} hi ha hbq=>by
    unfold AZ at hi
    split at hi
    ·rename_i b hb
     exact CQ.cond h1 (by rw[hev];exact hb) (fun ht=>ha (hi.1 ht)) (fun ht=>hbq (hi.2 ht))
    ·exact hi.elim
   cases t with
   | l=>exact(show False from hr).elim
   | s a b=>exact(show False from hr).elim
   | i a b=>exact go hr (fun q=>ihx ax hx hox M ro k1 Kp a kn ke kr e h ds hM hd q) (fun q=>ihy ay hy hoy M ro k2 Kp b kn ke kr e h ds hM hd q)
   | j l a b=>exact go hr (fun q=>(ihx ax hx hox M ro k1 Kp a _ ke kr e h ds hM hd q).post fM.join) (fun q=>(ihy ay hy hoy M ro k2 Kp b _ ke kr e h ds hM hd q).post fM.join)
  ·cases hc
 | block id x ih=>
  intro ac hc ho M ro hk Kp t kn ke kr e h ds hM hd hr
  simp only[comp,AP]at hc
  obtain⟨ax,hx,rfl⟩:=hc
  cases t with
  | l=>exact(show False from hr).elim
  | s a b=>exact(show False from hr).elim
  | i a b=>
   refine CQ.block ((ih ax hx ho M ro hk Kp a kn (Zu id kn ke) kr e h ds hM hd hr).post ?_)
   rintro z e' H' ⟨e',ds',hM',rfl,hd',hz⟩
   refine BB ?_
   cases z with
   | normal=>exact⟨e',ds',hM',rfl,hd',hz⟩
   | exit i=>
    simp only[Ww]at hz
    simp only[]
    by_cases hi:i=id
    ·rw[if_pos hi];rw[if_pos hi]at hz;exact⟨e',ds',hM',rfl,hd',hz⟩
    ·rw[if_neg hi];rw[if_neg hi]at hz;exact⟨e',ds',hM',rfl,hd',hz⟩
   | ret=>exact⟨e',ds',hM',rfl,hd',hz⟩
   | Bd v=>exact⟨e',ds',hM',rfl,hd',hz⟩
  | j l a b=>
   have hr:prun P Kp ax a (Fv l (Nn l A5 kn)) (Zu id (Fv l (Nn l A5 kn)) ke) kr e h:=hr
   refine CQ.block ((ih ax hx ho M ro hk Kp a _ _ kr e h ds hM hd hr).post ?_)
   rintro z E' H' ⟨e',ds',hM',rfl,hd',hz⟩
   cases z with
   | normal=>exact fM.join (l:=l) .normal _ _ ⟨e',ds',hM',rfl,hd',hz⟩
   | exit i=>
    simp only[Ww]at hz
    by_cases hi:i=id
    ·rw[if_pos hi]at hz
     simp only[D7]at hz
     refine⟨_,_,Gm (l:=l) hd',?_⟩
     simp only[hi,if_true]
     exact⟨_,ds',hM',rfl,(Cv hd').2,hz⟩
    ·rw[if_neg hi]at hz
     refine BB ?_
     simp only[]
     rw[if_neg hi];exact⟨e',ds',hM',rfl,hd',hz⟩
   | ret=>exact BB ⟨e',ds',hM',rfl,hd',hz⟩
   | Bd v=>exact⟨e',ds',hM',rfl,hd',hz⟩
 | loop x ih=>
  intro ac hc ho M ro hk Kp t kn ke kr e h ds hM hd hr
  simp only[comp,AP]at hc
  obtain⟨ax,hx,rfl⟩:=hc
  cases t with
  | l=>exact(show False from hr).elim
  | s a b=>exact(show False from hr).elim
  | i a b=>exact(show False from hr).elim
  | j l a b=>
   have hr:Ak l (fun self=>Nn l A5 fun e h=>prun P Kp ax a (Fv l self) ke kr e h) (Hp l e A5) h:=hr
   obtain⟨I,μ,hI,step⟩:=hr
   refine CQ.vs (Gm (l:=l) hd) (CQ.loop (L:=fun k E H=>∃e ds,M ds/\E=Bw (.tup ds) e/\e AM=.tup []/\Ef l I e H/\JV l μ e H=k) ⟨_,ds,hM,rfl,(Cv hd).2,hI,rfl⟩ ?_)
   rintro k E1 H1 ⟨e1,ds1,hM1,rfl,hd1,hI1,rfl⟩
   have st:=step e1 H1 hI1
   have st:Fv l (Nn l A5 fun e h=>prun P Kp ax a (Fv l (Tt l emp fun e' H'=>Ef l I e' H'/\JV l μ e' H'<JV l μ e1 H1)) ke kr e h) e1 H1:=st
   rw[D7]at st
   refine CQ.vs (Gm (l:=l) hd1) ((ih ax hx ho M ro hk Kp a _ ke kr _ H1 ds1 hM1 (Cv hd1).2 st).post ?_)
   rintro z e' H' ⟨e',ds',hM',rfl,hd',hz⟩
   refine BB ?_
   cases z with
   | normal=>
    have hz:Ef l (Tt l emp fun e' H'=>Ef l I e' H'/\JV l μ e' H'<JV l μ e1 H1) e' H':=hz
    rw[Lo]at hz
    have c:∀i∈l,Hp l e' emp i=e' i:=fun i hi=>by rw[Dg,if_pos hi]
    rw[Lp c,NH c]at hz
    exact⟨_,hz.2,e',ds',hM',rfl,hd',hz.1,rfl⟩
   | exit i=>exact⟨e',ds',hM',rfl,hd',hz⟩
   | ret=>exact⟨e',ds',hM',rfl,hd',hz⟩
   | Bd v=>exact⟨e',ds',hM',rfl,hd',hz⟩
 | rangeFunc g ps zs bd iha ihb=>
  intro ac hc ho M ro hk Kp t kn ke kr e h ds hM hd hr
  simp only[comp]at hc
  split at hc<;>(try (cases hc;done))
  rename_i g' aa ab hg ha hb'
  split at hc<;>(try (cases hc;done))
  rename_i hok
  simp only[AD]at hc;subst hc
  obtain⟨hps,ra,rb⟩:=hok
  have hps:∀p∈ps.toList,p<n:=fun p hp=>by simpa using CW.1 hps p hp
  obtain⟨hro,hcl⟩:=hk.resolve_left (by simp[Hg])
  subst hro
  simp only[FN,AS]at ho
  obtain⟨og,op,oa,ob⟩:=ho
  cases t with
  | l=>exact(show False from hr).elim
  | i a b=>exact(show False from hr).elim
  | j l a b=>exact(show False from hr).elim
  | s a b=>
   have hr:TR P (g'.ev e) h (fun x h K=>Zz ps.toList x e fun e=>prun P SF aa a (prun P SF ab b (fun _ h=>K h) Xw Yf) Xw Yf e h) fun h=>kn e h:=hr
   obtain⟨f,caps,N,X,Cl,G,I,q1,q2,qc,q3,q4,q5⟩:=hr
   have hev:g'.ev (Bw (.tup ds) e)=g'.ev e:=AE.BN fun t ht=>CU (JK og t ht)
   refine CQ.lf (f:=f) (caps:=caps) (N:=N) (X:=X) (Cl:=Cl) (G:=G) (ds:=ds) (I:=I) hn hg hps (by rw[hev];exact q1) (Cs _ _) q2 qc q3 (fun i x Hi hi hx hIi hle=>?_) (fun Hn hIn=>?_)
   ·obtain⟨p1,p2⟩:=RB ps.toList x e (q4 i x Hi hi hx hIi hle)
    refine⟨by simpa using p1,fun l=>?_⟩
    rw[To op hd]
    have hse:D5 e ps.toList x AM=.tup []:=by rw[Ma _ _ _ _ (fun hm=>JK op _ hm rfl)];exact hd
    refine CQ.post ?_ (iha aa ha oa (fun ds=>ds=[]) (some l) (.inl ra) SF a _ Xw Yf _ Hi [] rfl hse p2)
    rintro z E' H' ⟨e',ds',rfl,rfl,hd',hz⟩
    cases z with
    | exit i=>exact(show False from hz).elim
    | ret=>exact(show False from hz).elim
    | Bd v=>exact(show False from hz).elim
    | normal=>
     refine BB ⟨rfl,?_⟩
     refine CQ.post ?_ (ihb ab hb' ob (fun ds=>ds=[]) (some l) (.inl rb) SF b _ Xw Yf e' H' [] rfl hd' hz)
     rintro z2 E2 H2 ⟨e2,ds2,rfl,rfl,hd2,hz2⟩
     cases z2 with
     | exit i=>exact(show False from hz2).elim
     | ret=>exact(show False from hz2).elim
     | Bd v=>exact(show False from hz2).elim
     | normal=>exact BB ⟨rfl,hz2⟩
   ·refine⟨e,.nili::ds,hcl ds hM,?_,hd,q5 Hn hIn⟩
    funext t
    by_cases ht:t=AM
    ·subst ht;rw[Env.Fu,Cs]
    ·rw[Env.Gf _ _ ht,CU ht,CU ht]
 | label l=>
  intro ac hc ho M ro hk Kp t kn ke kr e h ds hM hd hr
  simp only[comp,AD]at hc;subst hc
  exact CQ.label ⟨e,ds,hM,rfl,hd,hr⟩
 | scope x ih=>
  intro ac hc ho M ro hk Kp t kn ke kr e h ds hM hd hr
  simp only[comp,AP]at hc
  obtain⟨ax,hx,rfl⟩:=hc
  simp only[FN,AS]at ho
  obtain⟨_,hox,_⟩:=ho
  have k1:Hg ax=true\/(ro=none/\∀ds,M ds->M (.nili::ds)):=hk.imp (fun h=>by simp only[Hg,AS]at h;exact h.1) id
  cases t with
  | l=>exact(show False from hr).elim
  | s a b=>exact(show False from hr).elim
  | i a b=>exact CQ.scope (ih ax hx hox M ro k1 Kp a kn ke kr e h ds hM hd (hr.1 rfl))
  | j l a b=>exact CQ.scope ((ih ax hx hox M ro k1 Kp a _ ke kr e h ds hM hd (hr.1 rfl)).post fM.join)
 | _=>intro ac hc;simp[comp]at hc
end
def iE (q:List CZ) (e:Env) (h:AH):(List AV->Prop)->Prop:=
 (fun(_:Nat)=>List.rec (motive:=fun _=>(List AV->Prop)->Prop) (fun K=>K []) (fun r _ ih K=>CZ.rec (motive:=fun _=>Prop) (fun i=>ih fun l=>K (e i::l)) (fun a g=>AG (.load g (.cst (e a))) h fun v=>ih fun l=>K (v::l)) r) q) Qh
theorem Lm {e:Env}{h:AH}:∀{q:List CZ}{K:List AV->Prop},iE q e h K->∃l,DU e h q=some l/\K l
 | [],K,hr=>⟨[],rfl,hr⟩
 | .tmp i::q,K,hr=>by
  obtain⟨l,h1,h2⟩:=Lm (q:=q) (K:=fun l=>K (e i::l)) hr
  exact⟨_,by simp only[DU,h1];rfl,h2⟩
 | .cell a g::q,K,hr=>by
  have hr:AG (.load g (.cst (e a))) h (fun v=>iE q e h fun l=>K (v::l)):=hr
  obtain⟨v,g1,g2⟩:=La hr
  obtain⟨l,h1,h2⟩:=Lm (q:=q) g2
  have g1:BJ g (e a) h=some v:=g1
  exact⟨_,by simp only[DU,g1,h1];rfl,h2⟩
def dj (q:List CZ) (Post:Al->AH->Prop):PK:=fun e h=>iE q e h fun l=>Post (.ret (Im l)) h
def XT (zs:List AV):Env:=fun i=>Bool.rec (motive:=fun _=>AV) (aV zs i) (.tup []) (Nat.beq i AM)
theorem QA (zs:List AV):XT zs=CH zs:=by
 funext i
 unfold XT CH
 rw[Ci,UO]
 by_cases h:i=AM<;>simp[h]
def yp (Post:Al->AH->Prop):AV->AH->Prop:=fun v H=>Post (.Bd v) H
def Zs (P:Program) (q:List CZ) (ac:Ay) (t:HT) (zs:List AV) (H:AH) (Post:Al->AH->Prop):Prop:=
 prun P (yp Post) ac t (dj q Post) (fun _=>Yf) (dj q Post) (XT zs) H
theorem fw {P:Program}{g:FuncId}{fn:Func}{n:Nat}{hs:Hints}{q:List CZ}(hmix:P.follows .mixedOrders=true) (hf:P.funcs[g]?=some fn) (Dh:(fn.name=="runtime.NumGoroutine")=false)
  (hn:fn.ntmps=n) (hb:(fn.body.bind (comp P hs n)).isSome=true) (hr:F_ P fn.results.toList=some q) (hle:Nat.ble n AM=true):MT P g n (EY P fn hs n) q:=by
 obtain⟨ac,hac⟩:=E9.1 hb
 have e:EY P fn hs n=ac:=by unfold EY;rw[hac]
 rw[e]
 exact MT.mk' hmix hf Dh hn hac hr hle
theorem Tw {q:List CZ}(hq:Wu q=true){Post:Al->AH->Prop}:∀x E H,fM (fun ds=>∀x∈ds,x=.nili) (yp Post) (dj q Post) (fun _=>Yf) (dj q Post) x E H->kY (fun x e H=>(∃ds,e AM=.tup ds/\∀x∈ds,x=.nili)/\F1 q Post x e H) x E H:=by
 rintro x E' H' ⟨e',ds,hM,rfl,hd,hx⟩
 refine BB ⟨⟨ds,Cs _ _,hM⟩,?_⟩
 cases x with
 | normal=>
  obtain⟨l,g1,g2⟩:=Lm hx
  simp only[F1,F4 q hq,g1];exact g2
 | ret=>
  obtain⟨l,g1,g2⟩:=Lm hx
  simp only[F1,F4 q hq,g1];exact g2
 | exit i=>exact(show False from hx).elim
 | Bd v=>exact hx
theorem PZ:∀ds:List AV,(∀x∈ds,x=.nili)->∀x∈(.nili::ds:List AV),x=.nili:=fun ds hds x hx=>by
 cases hx with
 | head=>rfl
 | tail _ hx=>exact hds x hx
theorem Rf (zs:List AV):Bw (.tup []) (XT zs)=CH zs:=by
 rw[QA]
 funext t
 by_cases h:t=AM
 ·subst h;rw[Cs];simp[CH]
 ·rw[CU h]
end
section
variable [BQ]
theorem PR {P:Program}{g n:Nat}{q:List CZ}{ac:Ay}{t:HT}(hF:MT P g n ac q) (ho:FN ac=true) (hq:Wu q=true){zs:List AV}(hlen:Nat.ble zs.length n=true){H:AH}{Post:Al->AH->Prop}{G:Prop}(hG:G=Zs P q ac t zs H Post) (h:G):AQ P g zs H Post:=by
 rw[hG]at h
 refine hF.bp (Aa hlen) fun c hs hc=>?_
 rw[<- Rf]
 exact CQ.post (Tw hq) (PN hF.mix hF.le c ac hc ho _ none (.inr ⟨rfl,PZ⟩) _ t _ _ _ _ H [] Hl (by rw[QA];simp[CH]) h)
theorem VZ {P:Program}{g n:Nat}{q:List CZ}{ac:Ay}{t:HT}(hF:MT P g n ac q) (ho:FN ac=true) (hq:Wu q=true){caps:List AV}{N:Nat}{X:Nat->AH->List AV->Prop}{Cl:(Nat->AH->Prop)->Prop}{G:AH->AH->Prop}(hlen:Nat.ble (caps.length+1) n=true){H:AH}
  (h:∀l I,Cl I->I 0 H->@Zs (VF l N X G I) P q ac t (.fn (.yield l) [] []::caps) H (fun out H'=>(∃v,out=.ret v)/\I N H')):M3 P g caps H N X Cl G:=
 hF.sL (Aa hlen) fun l I hCl hI c hs hc=>by
  rw[<- Rf]
  exact @CQ.post (VF l N X G I) _ _ _ _ _ _ _ _ (@Tw _ (VF l N X G I) _ hq _) (@PN _ (VF l N X G I) _ _ _ hF.mix hF.le c ac hc ho _ none (.inr ⟨rfl,PZ⟩) _ t _ _ _ _ H [] Hl (by rw[QA];simp[CH]) (h l I hCl hI))
end
end
section
variable [BQ]
mutual
inductive WO:AV->Prop
 | bool (b:Bool):WO (.bool b)
 | int (k:IntKind) (n:Int):WO (.int k n)
 | str (l:List UInt8):WO (.str l)
 | nilp:WO .nilp
 | nils:WO .nils
 | nilm:WO .nilm
 | nili:WO .nili
 | agg {l:List AV} (h:TE l):WO (.agg l)
 | tup {l:List AV} (h:TE l):WO (.tup l)
inductive TE:List AV->Prop
 | nil:TE []
 | cons {x:AV} {l:List AV} (h:WO x) (t:TE l):TE (x::l)
end
mutual
theorem WO.vr {Z Z':Zt}{σ σ':Sg}:∀{x:AV}{v:Value},WO x->VR Z σ x v->VR Z' σ' x v
 | _,_,.bool _,h=>by cases h;exact .bool _
 | _,_,.int _ _,h=>by cases h;exact .int _ _
 | _,_,.str _,h=>by cases h;exact .str _
 | _,_,.nilp,h=>by cases h;exact .nilp
 | _,_,.nils,h=>by cases h;exact .nils
 | _,_,.nilm,h=>by cases h;exact .nilm
 | _,_,.nili,h=>by cases h;exact .nili
 | _,_,.agg hp,h=>by cases h with | agg h1 h=>exact .agg h1 (hp.vr h)
 | _,_,.tup hp,h=>by cases h with | tup h=>exact .tup (hp.vr h)
theorem TE.vr {Z Z':Zt}{σ σ':Sg}:∀{l:List AV}{vs:List Value},TE l->CC Z σ l vs->CC Z' σ' l vs
 | _,_,.nil,h=>by cases h;exact .nil
 | _,_,.cons hx ht,h=>by cases h with | cons a b=>exact .cons (hx.vr a) (ht.vr b)
end
section
variable {P:Program}
end
end
noncomputable section
variable [BQ]
mutual
inductive Ir (H:AH):AV->AV->Prop
 | pln {x:AV} (h:WO x):Ir H x x
 | unk (x:AV):Ir H x .unk
 | sl {r o n m:Nat} {lim:Qe} {l l':List AV} {ex:Bool} (hc:H.cells? r=some l) (hm:o+m<=l.length) (hl:F7 H ((l.drop o).take m) l') (hn:n=0->m=0) (hx:ex=true->lim=.ex n) :
   Ir H (.sl r o n lim) (.sim l' n ex)
 | ptr {r o:Nat} {l l':List AV} (hc:H.cells? r=some l) (hl:F7 H l l'):Ir H (.ptr r o) (.pim l' o)
 | ifc {t:TypeId} {x y:AV} (h:Ir H x y):Ir H (.ifc t x) (.ifc t y)
 | agg {l l':List AV} (h:F7 H l l'):Ir H (.agg l) (.agg l')
 | tup {l l':List AV} (h:F7 H l l'):Ir H (.tup l) (.tup l')
inductive F7 (H:AH):List AV->List AV->Prop
 | nil:F7 H [] []
 | cons {x y:AV} {l l':List AV} (h:Ir H x y) (t:F7 H l l'):F7 H (x::l) (y::l')
end
section
variable {Z Z2:Zt}{σ σ2:Sg}{H:AH}{w:World}
theorem F7.len {l l':List AV}(h:F7 H l l'):l.length=l'.length:=by
 induction l generalizing l' with
 | nil=>cases h;rfl
 | cons x l ih=>cases h with | cons a b=>simp[ih b]
mutual
theorem Ir.sound (hW:WR Z σ H w) (h2:∀r o p,H.get r=some o->σ r=some p->Z2 p.b=w.heap[p.b]?):∀{x y:AV},Ir H x y->∀{v:Value},VR Z σ x v->VR Z2 σ2 y v
 | _,_,.pln h,v,hv=>h.vr hv
 | _,_,.unk _,v,_=>.unk v
 | _,_,@Ir.sl _ r o n m lim l l' ex hc hm hl hn hx,v,hv=>by
  have hlen:m=l'.length:=by have:=hl.len;simp at this;omega
  have main:∀(p:Ip),σ r=some p->∀cap,n<=cap->(ex=true->cap=n)->VR Z2 σ2 (.sim l' n ex) (.slice (some ⟨p.b,p.base+o,none⟩) n cap):=by
   intro p hp cap Qs hxc
   obtain⟨_,c,el,fr,hb,_,_,h4,h5,h6⟩:=hW.row hc hp
   have hz:=h2 r _ p (cells?_some hc) hp
   rw[hb]at hz
   have e1:(c.toList.drop (p.base+o)).take l'.length=(((c.toList.drop p.base).take l.length).drop o).take m:=by
    rw[Fl,De,Ea,B7 (by omega),hlen]
   refine .sim Qs hxc rfl hz ?_ ?_
   ·simp only[e1];intro u hu;exact h6 u (ED (Dq hu))
   ·simp only[e1];exact F7.sound hW h2 hl ((h5.drop _).take _)
  cases hv with
  | slx hp hnm=>exact main _ hp _ hnm (fun h=>by have:=hx h;simp only[Qe.ex.injEq]at this;exact this)
  | slxz hp ad=>
   have h0:l'=[]:=By (by rw[<- hlen];exact hn rfl)
   subst h0;exact .simz ad (fun _=>rfl)
  | slo hp hnm hs=>exact main _ hp _ hnm (fun h=>by have:=hx h;cases this)
  | sloz hp ad=>
   have h0:l'=[]:=By (by rw[<- hlen];exact hn rfl)
   subst h0;exact .simz ad (fun h=>by have:=hx h;cases this)
 | _,_,@Ir.ptr _ r o l l' hc hl,v,hv=>by
  obtain⟨p,hp,rfl⟩:=hv.HF
  obtain⟨_,c,el,fr,hb,_,_,h4,h5,h6⟩:=hW.row hc hp
  have hz:=h2 r _ p (cells?_some hc) hp
  rw[hb]at hz
  have hlen:=hl.len
  refine .pim hz ?_ ?_
  ·rw[<- hlen];exact h6
  ·rw[<- hlen];exact F7.sound hW h2 hl h5
 | _,_,.ifc h,v,hv=>by cases hv with | ifc hv=>exact .ifc (Ir.sound hW h2 h hv)
 | _,_,.agg h,v,hv=>by cases hv with | agg h1 hv=>exact .agg h1 (F7.sound hW h2 h hv)
 | _,_,.tup h,v,hv=>by cases hv with | tup hv=>exact .tup (F7.sound hW h2 h hv)
theorem F7.sound (hW:WR Z σ H w) (h2:∀r o p,H.get r=some o->σ r=some p->Z2 p.b=w.heap[p.b]?):∀{l l':List AV},F7 H l l'->∀{vs:List Value},CC Z σ l vs->CC Z2 σ2 l' vs
 | _,_,.nil,vs,hv=>by cases hv;exact .nil
 | _,_,.cons h t,vs,hv=>by cases hv with | cons a b=>exact .cons (Ir.sound hW h2 h a) (F7.sound hW h2 t b)
end
end
section
variable {P:Program}
end
mutual
def Kq:AV->Bool
 | .bool _=>true | .int _ _=>true | .str _=>true | .nilp=>true | .nils=>true | .nilm=>true | .nili=>true
 | .agg l=>Tq l
 | .tup l=>Tq l
 | _=>false
def Tq:List AV->Bool
 | []=>true
 | x::l=>Kq x&&Tq l
end
mutual
theorem Ko:∀x,Kq x=true->WO x
 | .bool _,_=>.bool _ | .int _ _,_=>.int _ _ | .str _,_=>.str _ | .nilp,_=>.nilp | .nils,_=>.nils | .nilm,_=>.nilm | .nili,_=>.nili
 | .agg l,h=>.agg (JM l (by simpa[Kq]using h))
 | .tup l,h=>.tup (JM l (by simpa[Kq]using h))
 | .unk,h=>by simp[Kq]at h
 | .ptr _ _,h=>by simp[Kq]at h
 | .pim _ _,h=>by simp[Kq]at h
 | .sl _ _ _ _,h=>by simp[Kq]at h
 | .sim _ _ _,h=>by simp[Kq]at h
 | .mp _,h=>by simp[Kq]at h
 | .nilf,h=>by simp[Kq]at h
 | .fn _ _ _,h=>by simp[Kq]at h
 | .ifc _ _,h=>by simp[Kq]at h
theorem JM:∀l,Tq l=true->TE l
 | [],_=>.nil
 | x::l,h=>by
  simp only[Tq,AS]at h
  exact .cons (Ko x h.1) (JM l h.2)
end
mutual
def bT (h:KH):AV->AV->Bool
 | y,x=>(EP x y&&Kq y)||(match y with
  | .pim l' o=>(match x with
   | .ptr r o0=>Nat.beq o0 o&&(match Bx h r with | some l=>MC h l' l | none=>false)
   | _=>false)
  | .sim l' n ex=>(match x with
   | .sl r o n0 lim=>Nat.beq n0 n&&(match Bx h r with | some l=>Nat.ble (o+l'.length) l.length&&MC h l' ((l.drop o).take l'.length) | none=>false)&&(!(Nat.beq n 0)||l'.isEmpty)&&(!ex||RM lim (.ex n))
   | _=>false)
  | .ifc t y=>(match x with
   | .ifc t' x=>Nat.beq t' t&&bT h y x
   | _=>false)
  | .agg l'=>(match x with
   | .agg l=>MC h l' l
   | _=>false)
  | .tup l'=>(match x with
   | .tup l=>MC h l' l
   | _=>false)
  | _=>false)
def MC (h:KH):List AV->List AV->Bool
 | [],l=>(match l with
  | []=>true
  | _=>false)
 | y::l',l=>(match l with
  | x::l=>bT h y x&&MC h l' l
  | []=>false)
end
mutual
theorem K0 {h:KH}:∀(y x:AV),bT h y x=true->Ir (Ah h) x y:=by
 intro y x hh
 unfold bT at hh
 simp only[Ec,AS]at hh
 rcases hh with⟨h1,h2⟩ | hh
 ·rw[CA _ _ h1];exact .pln (Ko _ h2)
 ·cases y with
  | pim l' o=>
   cases x<;>try (cases hh;done)
   rename_i r o0
   simp only[AS,E_]at hh
   obtain⟨rfl,h3⟩:=hh
   split at h3
   ·rename_i l hl
    rw[Bn]at hl
    exact .ptr hl (Fz l' l h3)
   ·cases h3
  | sim l' n ex=>
   cases x<;>try (cases hh;done)
   rename_i r o n0 lim
   simp only[AS,E_,Ec,E5]at hh
   obtain⟨⟨⟨rfl,h3⟩,h4⟩,h5⟩:=hh
   split at h3
   ·rename_i l hl
    rw[Bn]at hl
    simp only[AS]at h3
    refine .sl hl (Aa h3.1) (Fz l' _ h3.2) (fun hn=>?_) (fun hx=>?_)
    ·subst hn
     rcases h4 with h4 | h4
     ·cases h4
     ·simpa using h4
    ·subst hx
     rcases h5 with h5 | h5
     ·cases h5
     ·exact HH h5
   ·cases h3
  | ifc t y=>
   cases x<;>try (cases hh;done)
   simp only[AS,E_]at hh
   obtain⟨rfl,h2⟩:=hh
   exact .ifc (K0 y _ h2)
  | agg l'=>
   cases x<;>try (cases hh;done)
   exact .agg (Fz l' _ hh)
  | tup l'=>
   cases x<;>try (cases hh;done)
   exact .tup (Fz l' _ hh)
  | _=>cases hh
theorem Fz {h:KH}:∀(l' l:List AV),MC h l' l=true->F7 (Ah h) l l'
 | [],l,hh=>by
  cases l with
  | nil=>exact .nil
  | cons _ _=>simp[MC]at hh
 | y::l',l,hh=>by
  cases l with
  | nil=>simp[MC]at hh
  | cons x l=>
   simp only[MC,AS]at hh
   exact .cons (K0 y x hh.1) (Fz l' l hh.2)
end
def Sx (zs:List AV) (R:AV) (r:KC):Bool:=Nk 0 zs&&KC.rec (motive:=fun _=>Bool) (fun v h'=>bT h' R v) (fun _ _=>false) false r
def PW (g0:FuncId) (as0:List AV) (R:AV) (rest:Ag):Ag:=fun g zs h=>Bool.rec (motive:=fun _=>KC) (rest g zs h) (.ret R h) (Nat.beq g g0&&Gv zs as0)
theorem Mh {P:Program}{g0:FuncId}{as0:List AV}{R:AV}{rest:Ag}(hr:AT P rest) (hR:∀H:AH,H.gl=BQ.G->fK P g0 as0 H R H):AT P (PW g0 as0 R rest):=by
 intro g zs h
 unfold PW
 cases hc:(Nat.beq g g0&&Gv zs as0)with
 | false=>exact hr g zs h
 | true=>
  simp only[AS,E_]at hc
  obtain⟨rfl,h2⟩:=hc
  have e:=CY _ _ h2
  subst e
  refine⟨fun v h' q=>?_,fun v h' q=>by cases q⟩
  cases q
  exact hR _ rfl
def du (r:Nat) (l:List Nat):Bool:=List.rec (motive:=fun _=>Bool) false (fun x _ ih=>Nat.beq x r||ih) l
mutual
def eg (ids:List Nat) (h:KH):AV->AV->Bool
 | y,x=>EP x y||(match y with
  | .pim l' o=>(match x with
   | .ptr r o0=>du r ids&&Nat.beq o0 o&&(match Bx h r with | some l=>MD ids h l' l | none=>false)
   | _=>false)
  | .sim l' n ex=>(match x with
   | .sl r o n0 lim=>du r ids&&Nat.beq n0 n&&(match Bx h r with | some l=>Nat.ble (o+l'.length) l.length&&MD ids h l' ((l.drop o).take l'.length) | none=>false)&&(!(Nat.beq n 0)||l'.isEmpty)&&(!ex||RM lim (.ex n))
   | _=>false)
  | .ifc t y=>(match x with
   | .ifc t' x=>Nat.beq t' t&&eg ids h y x
   | _=>false)
  | .agg l'=>(match x with
   | .agg l=>MD ids h l' l
   | _=>false)
  | .tup l'=>(match x with
   | .tup l=>MD ids h l' l
   | _=>false)
  | _=>false)
def MD (ids:List Nat) (h:KH):List AV->List AV->Bool
 | [],l=>(match l with
  | []=>true
  | _=>false)
 | y::l',l=>(match l with
  | x::l=>eg ids h y x&&MD ids h l' l
  | []=>false)
end
mutual
theorem P1 {ids:List Nat}{h:KH}:∀(y x:AV),eg ids h y x=true->ES (Ah h) (fun r=>du r ids=true) x y:=by
 intro y x hh
 unfold eg at hh
 simp only[Ec]at hh
 rcases hh with h1 | hh
 ·rw[CA _ _ h1];exact .same _
 ·cases y with
  | pim l' o=>
   cases x<;>try (cases hh;done)
   rename_i r o0
   simp only[AS,E_]at hh
   obtain⟨⟨h1,rfl⟩,h3⟩:=hh
   split at h3
   ·rename_i l hl
    rw[Bn]at hl
    exact .ptr h1 hl (F0 l' l h3)
   ·cases h3
  | sim l' n ex=>
   cases x<;>try (cases hh;done)
   rename_i r o n0 lim
   simp only[AS,E_,Ec,E5]at hh
   obtain⟨⟨⟨⟨h1,rfl⟩,h3⟩,h4⟩,h5⟩:=hh
   split at h3
   ·rename_i l hl
    rw[Bn]at hl
    simp only[AS]at h3
    refine .sl h1 hl (Aa h3.1) (F0 l' _ h3.2) (fun hn=>?_) (fun hx=>?_)
    ·subst hn
     rcases h4 with h4 | h4
     ·cases h4
     ·simpa using h4
    ·subst hx
     rcases h5 with h5 | h5
     ·cases h5
     ·exact HH h5
   ·cases h3
  | ifc t y=>
   cases x<;>try (cases hh;done)
   simp only[AS,E_]at hh
   obtain⟨rfl,h2⟩:=hh
   exact .ifc (P1 y _ h2)
  | agg l'=>
   cases x<;>try (cases hh;done)
   exact .agg (F0 l' _ hh)
  | tup l'=>
   cases x<;>try (cases hh;done)
   exact .tup (F0 l' _ hh)
  | _=>cases hh
theorem F0 {ids:List Nat}{h:KH}:∀(l' l:List AV),MD ids h l' l=true->B6 (Ah h) (fun r=>du r ids=true) l l'
 | [],l,hh=>by
  cases l with
  | nil=>exact .nil
  | cons _ _=>simp[MD]at hh
 | y::l',l,hh=>by
  cases l with
  | nil=>simp[MD]at hh
  | cons x l=>
   simp only[MD,AS]at hh
   exact .cons (P1 y x hh.1) (F0 l' l hh.2)
end
end
section
variable [BQ] {P:Program}
def bv (x:UInt8):AV:=.int .u8 (x.toNat:Int)
theorem AA {k:AK}{K:AV->Prop}{v:AV}(h:AJ k emp=some v) (hK:K v):AB k K:=by unfold AB;rw[h];exact hK
theorem BG {k:AK}{H:AH}{K:AV->Prop}{v:AV}(h:AY k emp H=some v) (hK:K v):AG k H K:=by unfold AG;rw[h];exact hK
theorem Aq {k:AK}{H H':AH}{K:AV->AH->Prop}{v:AV}(h:BC k emp H=some (v,H')) (hK:K v H'):AO k H K:=by unfold AO;rw[h];exact hK
theorem OE {k:AK}{H:AH}{K:AV->AH->Prop}{c:List AV}{f:Nat->AV}(h:FK k emp=some (c,f)) (hK:K (f H.next) (H.push (.cells c))):Lb k H K:=by unfold Lb;rw[h];exact hK
theorem B_ {t:Bool}{A B:Prop}(ha:t=true->A) (hb:t=false->B):AZ (.bool t) A B:=⟨ha,hb⟩
theorem Lc {T:Type}{t:Bool}{J:T}{A B:T->Prop}(ha:t=true->A J) (hb:t=false->B J):MU (.bool t) J A B:=⟨ha,hb⟩
theorem BA {g:FuncId}{ar:List AV}{H:AH}{post:Al->AH->Prop}{Kp K:AV->AH->Prop}(hC:AQ P g ar H post) (hK:∀v H',post (.ret v) H'->K v H') (hP:∀v H',post (.Bd v) H'->Kp v H'):AF P g ar H Kp K:=
 hC.mono fun o H' h=>by cases o with
  | ret v=>exact hK v H' h
  | Bd v=>exact hP v H' h
theorem SG {fv:AV}{ar:List AV}{H:AH}{post:Al->AH->Prop}{Kp K:AV->AH->Prop}(hC:Gw P fv ar H post) (hK:∀v H',post (.ret v) H'->K v H') (hP:∀v H',post (.Bd v) H'->Kp v H'):DV P fv ar H Kp K:=by
 unfold Gw at hC
 split at hC
 ·rename_i g first cap
  show AF P g (Sl first (Sl ar cap)) H Kp K
  rw[KL,KL,<- Ar]
  exact BA hC hK hP
 ·exact YC.mono hC fun o H' h=>by cases o with
   | ret v=>exact hK v H' h
   | Bd v=>exact hP v H' h
 ·exact hC.elim
theorem D2 {T:Type}{t w:Bool}{J:T}{A B:T->Prop}(ha:t=w->A J) (hb:t≠w->B J):DG w (.bool t) J A B:=by
 unfold DG TU
 simp only[MN]
 exact⟨fun h=>ha (by simpa using h),fun h=>hb (by simpa using h)⟩
structure C9 (H H':AH):Prop where
 nx:H.next<=H'.next
 get:∀q,q<H.next->H'.get q=H.get q
 gl:H'.gl=H.gl
theorem C9.push (H:AH) (o:Cw):C9 H (H.push o):=⟨by simp,fun q hq=>AH.Af _ _ (by omega),rfl⟩
theorem C9.trans {H H1 H2:AH}(h1:C9 H H1) (h2:C9 H1 H2):C9 H H2:=⟨Cq h1.nx h2.nx,fun q hq=>by have:=h1.nx;rw[h2.get q (by omega),h1.get q hq],h2.gl.trans h1.gl⟩
theorem C9.refl (H:AH):C9 H H:=⟨A4 _,fun _ _=>rfl,rfl⟩
inductive kV (z:Nat):AV->List AV->Nat->Prop
 | nil:kV z .nils [] 0
 | sim {c:List AV} {n:Nat} {ex:Bool} (h:c.length=n*z):kV z (.sim c n ex) c n
theorem Je {z:Nat}:∀(css:List (List AV)) (i:Nat) (y:List AV),(∀x∈css,x.length=z)->css[i]?=some y->(css.flatten.drop (i*z)).take z=y
 | [],i,y,_,h=>by simp at h
 | x::css,0,y,hz,h=>by
  have hx:x.length=z:=hz x (.head _)
  have e:x=y:=by simpa using h
  subst e
  simp only[Oa,G_,B5]
  rw[EA (by omega),AX (by omega)]
 | x::css,i+1,y,hz,h=>by
  have hx:x.length=z:=hz x (.head _)
  have h':css[i]?=some y:=by simpa using h
  have:=Je css i y (fun w hw=>hz w (.tail _ hw)) h'
  rw[<- this]
  have e:(i+1)*z=x.length+i*z:=by rw[EC,GY,hx];omega
  simp only[Oa]
  rw[e,<- De,List.drop_left]
theorem F2 {z:Nat}:∀(css:List (List AV)),(∀x∈css,x.length=z)->css.flatten.length=css.length*z
 | [],_=>by simp
 | x::css,hz=>by
  rw[Oa,AW,F2 css fun w hw=>hz w (.tail _ hw),hz x (.head _),Be,EC];omega
inductive Lv (k:Nat):List (Nat × List AV)->Nat->List AV->AV->Prop
 | nil:Lv k [] 0 [] .nils
 | ex (q:Nat):Lv k [(q,[])] 0 [] (.sl q 0 0 (.ex 0))
 | op {r n:Nat} {cs:List AV} (hn:0<n):Lv k [(r,cs)] n cs (.sl r 0 n (.op k))
 | exn {r n:Nat} {cs:List AV} (hn:0<n):Lv k [(r,cs)] n cs (.sl r 0 n (.ex n))
theorem Lv.cell {k n:Nat}{o:List (Nat × List AV)}{cs:List AV}{v:AV}(h:Lv k o n cs v):v.cellsOf=some [v]:=by cases h<;>rfl
def FZ (R:List (Nat × List AV)) (v y:AV):Prop:=∀(H:AH) (k:Nat),(∀x∈R,k<=x.1/\H.get x.1=some (.cells x.2))->F6 H k v y
def U8 (R:List (Nat × List AV)) (c d:List AV):Prop:=∀(H:AH) (k:Nat),(∀x∈R,k<=x.1/\H.get x.1=some (.cells x.2))->CF H k c d
theorem U8.mono {R R':List (Nat × List AV)}{c d:List AV}(h:U8 R c d) (hs:R ⊆ R'):U8 R' c d:=fun H k hR=>h H k fun x hx=>hR x (hs hx)
theorem U8.nil {R:List (Nat × List AV)}:U8 R [] []:=fun _ _ _=>.nil
theorem U8.cons {R:List (Nat × List AV)}{x y:AV}{c d:List AV}(h:FZ R x y) (t:U8 R c d):U8 R (x::c) (y::d):=fun H k hR=>.cons (h H k hR) (t H k hR)
theorem CF.app {H:AH}{k:Nat}:∀{a a' b b':List AV},CF H k a a'->CF H k b b'->CF H k (a++b) (a'++b')
 | _,_,_,_,.nil,h=>h
 | _,_,_,_,.cons h t,h2=>.cons h (t.app h2)
theorem U8.app {R:List (Nat × List AV)}{a a' b b':List AV}(h:U8 R a a') (h2:U8 R b b'):U8 R (a++b) (a'++b'):=fun H k hR=>(h H k hR).app (h2 H k hR)
theorem U8.low {R:List (Nat × List AV)}{c:List AV}(h:∀k,Gy k c):U8 R c c:=fun _ k _=>.low (h k)
theorem FZ.agg {R:List (Nat × List AV)}{c d:List AV}(h:U8 R c d):FZ R (.agg c) (.agg d):=fun H k hR=>.agg (h H k hR)
structure A2 (H0:AH) (L:List (Nat × List AV)) (H:AH):Prop where
 k:C9 H0 H
 l:∀x∈L,H0.next<=x.1/\x.1<H.next/\H.get x.1=some (.cells x.2)
 nd:(L.map (·.1)).Nodup
section
variable {H0 H:AH}{L:List (Nat × List AV)}
theorem A2.start (H:AH):A2 H [] H:=⟨C9.refl _,fun x hx=>(by cases hx),WV⟩
theorem A2.push {o:List AV}(h:A2 H0 L H):A2 H0 ((H.next,o)::L) (H.push (.cells o)):=by
 have hn:=h.k.nx
 have hold:∀q,q<H.next->(H.push (.cells o)).get q=H.get q:=fun q hq=>AH.Af _ _ (by omega)
 refine⟨h.k.trans (C9.push _ _),fun x hx=>?_,?_⟩
 ·cases hx with
  | head=>exact⟨hn,by simp,by simp⟩
  | tail _ hx=>
   obtain⟨h1,h2,h3⟩:=h.l x hx
   exact⟨h1,by simp;omega,by rw[hold _ h2];exact h3⟩
 ·rw[B1,GC]
  refine⟨fun hm=>?_,h.nd⟩
  obtain⟨x,hx,he⟩:=Bk.1 hm
  have:=(h.l x hx).2.1
  omega
theorem A2.alloc {z:List AV}{K:AV->AH->Prop}(h:A2 H0 L H) (hK:∀q H',A2 H0 ((q,z)::L) H'->K (.ptr q 0) H'):AO (.alloc z) H K:=
 Aq (v:=.ptr H.next 0) (H':=H.push (.cells z)) rfl (hK _ _ h.push)
theorem A2.box {x:AV}{c:List AV}{K:AV->AH->Prop}(h:A2 H0 L H) (hx:x.cellsOf=some c) (hK:∀q H',A2 H0 ((q,c)::L) H'->K (.ptr q 0) H'):AO (.box (.cst x)) H K:=
 Aq (v:=.ptr H.next 0) (H':=H.push (.cells c)) (by simp[BC,AE.ev,hx]) (hK _ _ h.push)
theorem A2.sub {L':List (Nat × List AV)}(h:A2 H0 L H) (hs:L'.Sublist L):A2 H0 L' H:=⟨h.k,fun x hx=>h.l x (hs.subset hx),h.nd.sublist (hs.map _)⟩
theorem A2.perm {L':List (Nat × List AV)}(h:A2 H0 L H) (hs:L'.Perm L):A2 H0 L' H:=⟨h.k,fun x hx=>h.l x (hs.subset hx),(hs.map _).nodup_iff.2 h.nd⟩
theorem A2.swap {x y:Nat × List AV}(h:A2 H0 (x::y::L) H):A2 H0 (y::x::L) H:=h.perm (.swap _ _ _)
theorem A2.set {q:Nat}{c c':List AV}(h:A2 H0 ((q,c)::L) H):A2 H0 ((q,c')::L) (H.set q (.cells c')):=by
 obtain⟨h1,h2,h3⟩:=h.l _ (.head _)
 have hold:∀r,r≠q->(H.set q (.cells c')).get r=H.get r:=fun r hr=>by simp[AH.AU,hr]
 have hnd:=h.nd
 rw[B1,GC]at hnd
 refine⟨⟨by simpa using h.k.nx,fun r hr=>by rw[hold r (by simp only at h1;omega)];exact h.k.get r hr,h.k.gl⟩,fun w hw=>?_,by rw[B1,GC];exact hnd⟩
 cases hw with
 | head=>exact⟨h1,by simpa using h2,by simp[AH.AU]⟩
 | tail _ hw=>
  obtain⟨g1,g2,g3⟩:=h.l w (.tail _ hw)
  exact⟨g1,by simpa using g2,by rw[hold _ fun e=>hnd.1 (Bk.2 ⟨w,hw,e⟩)];exact g3⟩
theorem A2.erase {q:Nat}{c:List AV}(h:A2 H0 ((q,c)::L) H):A2 H0 L (H.erase q):=by
 obtain⟨h1,h2,h3⟩:=h.l _ (.head _)
 have hnd:=h.nd
 rw[B1,GC]at hnd
 have hold:∀r,r≠q->(H.erase q).get r=H.get r:=fun r hr=>by simp[AH.get_erase,hr]
 refine⟨⟨h.k.nx,fun r hr=>by rw[hold r (by simp only at h1;omega)];exact h.k.get r hr,h.k.gl⟩,fun w hw=>?_,hnd.2⟩
 obtain⟨g1,g2,g3⟩:=h.l w (.tail _ hw)
 exact⟨g1,g2,by rw[hold _ fun e=>hnd.1 (Bk.2 ⟨w,hw,e⟩)];exact g3⟩
theorem A2.put {q o n:Nat}{c vs:List AV}{x:AV}{K:AV->AH->Prop}(h:A2 H0 ((q,c)::L) H) (hx:x.cellsOf=some vs) (hv:vs.length=n) (hz:o+n<=c.length)
  (hK:∀H',A2 H0 ((q,Ap c o vs)::L) H'->K .unk H'):AO (.store n (.cst (.ptr q o)) (.cst x)) H K:=by
 obtain⟨h1,h2,h3⟩:=h.l _ (.head _)
 exact Aq (v:=.unk) (H':=H.set q (.cells (Ap c o vs))) (by
  simp only[BC,AE.ev,AH.cells?,h3,hx]
  rw[if_pos ⟨hv,hz⟩]) (hK _ h.set)
theorem A2.DZ {q n:Nat}{c vs:List AV}{K:AV->AH->Prop}(h:A2 H0 ((q,c)::L) H) (hv:vs.length=n) (hz:c.length=n)
  (hK:∀H',A2 H0 ((q,vs)::L) H'->K .unk H'):AO (.store n (.cst (.ptr q 0)) (.cst (.agg vs))) H K:=
 h.put (vs:=vs) rfl hv (by omega) fun H' h'=>hK H' (by
  rw[show Ap c 0 vs=vs by rw[Cu (by omega)];simp[Bt (by omega:c.length<=vs.length)]]at h';exact h')
theorem A2.Gx {q k:Nat}{c:List AV}{K:AV->Prop}(h:A2 H0 L H) (hm:(q,c)∈L) (hc:c.length=k) (hK:K (.agg c)):AG (.load (some k) (.cst (.ptr q 0))) H K:=by
 obtain⟨_,_,h3⟩:=h.l _ hm
 exact BG (v:=.agg c) (by simp[AY,BJ,AE.ev,AH.cells?,h3,apart,hc];exact AX (by omega)) hK
theorem A2.ld {q o:Nat}{c:List AV}{x:AV}{K:AV->Prop}(h:A2 H0 L H) (hm:(q,c)∈L) (hx:c[o]?=some x) (hK:K x):AG (.load none (.cst (.ptr q o))) H K:=by
 obtain⟨_,_,h3⟩:=h.l _ hm
 exact BG (v:=x) (by simpa[AY,BJ,AE.ev,AH.cells?,h3,apart]using hx) hK
theorem A2.call {g:FuncId}{ar:List AV}{ok:AV->AH->Prop}{K:AV->AH->Prop}{Post:Al->AH->Prop}(h:A2 H0 L H) (hC:AQ P g ar H fun o H'=>C9 H H'/\∃x,o=.ret x/\ok x H')
  (hK:∀x H',A2 H0 L H'->ok x H'->K x H'):AF P g ar H (yp Post) K:=by
 have hn:=h.k.nx
 refine BA hC (fun x H' g=>?_) (fun x H' g=>by obtain⟨_,_,g,_⟩:=g;cases g)
 obtain⟨k1,x',hx,h1⟩:=g
 cases hx
 exact hK _ H' ⟨h.k.trans k1,fun w hw=>by
  obtain⟨g1,g2,g3⟩:=h.l w hw
  exact⟨g1,C6 g2 k1.nx,by rw[k1.get _ g2];exact g3⟩,h.nd⟩ h1
theorem A2.app {k n bytes:Nat}{o:List (Nat × List AV)}{cs c z:List AV}{v x:AV}{K:AV->AH->Prop}(h:A2 H0 (o++L) H) (hv:Lv k o n cs v) (hcs:cs.length=n*k) (hx:x.cellsOf=some c) (hc:c.length=k) (hz:z.length=k) (hn:n<274877906944) (hby:bytes<=500)
  (hK:∀o' v' H',A2 H0 (o'++L) H'->Lv k o' (n+1) (cs++c) v'->K v' H'):AO (.buildSlice k 1 z [(0,k,(.cst x))]) H fun v17 h17=>AO (.append k bytes (.cst v) (.cst v17)) h17 K:=by
 have hd:z.drop k=[]:=Bt (by omega)
 refine Aq (v:=.sl H.next 0 1 (.ex 1)) (H':=H.push (.cells c)) (by
  simp[BC,Bv,AE.ev,hx,hc,hz,hd]) ?_
 have hb:(n+1)*bytes<=140737488355328:=by
  have:(n+1)*bytes<=274877906944*500:=Oe (by omega) hby
  omega
 have htk:c.take k=c:=AX (by omega)
 have h1:=h.push (o:=c)
 cases hv with
 | nil=>
  have hb':bytes<=140737488355328:=by omega
  refine Aq (v:=.sl (H.next+1) 0 1 (.op k)) (H':=(H.push (.cells c)).push (.cells c)) (by
   simp[BC,AE.ev,BO,Ae,AH.cells?,AH.Ai,hc,htk,hb']) ?_
  refine hK [(H.next+1,c)] _ _ ?_ (.op (JB _))
  exact(h1.push (o:=c)).sub (by
   show List.Sublist ((H.next+1,c)::L) ((H.next+1,c)::(H.next,c)::L)
   exact(List.Sublist.cons _ (DN _)).cons_cons _)
 | ex q=>
  obtain⟨g1,g2,g3⟩:=h.l (q,[]) (.head _)
  have e1:q≠H.next:=by simp only at g2;omega
  have hb':bytes<=140737488355328:=by omega
  refine Aq (v:=.sl (H.next+1) 0 1 (.op k)) (H':=(H.push (.cells c)).push (.cells c)) (by
   have g3:H.get q=some (.cells []):=g3
   simp[BC,AE.ev,BO,Ae,AH.cells?,AH.Ai,hc,htk,hb',e1,g3]) ?_
  refine hK [(H.next+1,c)] _ _ ?_ (.op (JB _))
  exact(h1.push (o:=c)).sub (by
   show List.Sublist ((H.next+1,c)::L) ((H.next+1,c)::(H.next,c)::(q,[])::L)
   exact(List.Sublist.cons _ (List.Sublist.cons _ (DN _))).cons_cons _)
 | op hn0=>
  rename_i r
  obtain⟨g1,g2,g3⟩:=h.l (r,cs) (.head _)
  have e3:r≠H.next:=by simp only at g2;omega
  have htk2:cs.take (n*k)=cs:=AX (by omega)
  refine Aq (v:=.sl (H.next+1) 0 (n+1) (.op k)) (H':=((H.push (.cells c)).erase r).push (.cells (cs++c))) (by
   have hn1:n+1<=9223372036854775807:=by omega
   have g3:H.get r=some (.cells cs):=g3
   simp[BC,AE.ev,BO,Ae,AH.cells?,AH.Ai,hc,htk,g3,e3,hcs,hb,htk2,hn1]) ?_
  refine hK [(H.next+1,cs++c)] _ _ ?_ (.op (JB _))
  have h2:A2 H0 ((r,cs)::(H.next,c)::L) (H.push (.cells c)):=h1.swap
  have h3:=(h2.erase).push (o:=cs++c)
  exact h3.sub (by
   show List.Sublist ((H.next+1,cs++c)::L) ((H.next+1,cs++c)::(H.next,c)::L)
   exact(List.Sublist.cons _ (DN _)).cons_cons _)
 | exn hn0=>
  rename_i r
  obtain⟨g1,g2,g3⟩:=h.l (r,cs) (.head _)
  have e3:r≠H.next:=by simp only at g2;omega
  have htk2:cs.take (n*k)=cs:=AX (by omega)
  refine Aq (v:=.sl (H.next+1) 0 (n+1) (.op k)) (H':=(H.push (.cells c)).push (.cells (cs++c))) (by
   have hn1:n+1<=9223372036854775807:=by omega
   have hn2:¬n+1<=n:=by omega
   have g3:H.get r=some (.cells cs):=g3
   simp[BC,AE.ev,BO,Ae,AH.cells?,AH.Ai,hc,htk,g3,e3,hcs,hb,htk2,hn1,hn2]) ?_
  refine hK [(H.next+1,cs++c)] _ _ ?_ (.op (JB _))
  exact(h1.push (o:=cs++c)).sub (by
   show List.Sublist ((H.next+1,cs++c)::L) ((H.next+1,cs++c)::(H.next,c)::(r,cs)::L)
   exact(List.Sublist.cons _ (List.Sublist.cons _ (DN _))).cons_cons _)
theorem A2.live (h:A2 H0 L H):∀w∈L,H0.next<=w.1/\H.get w.1=some (.cells w.2):=fun w hw=>⟨(h.l w hw).1,(h.l w hw).2.2⟩
end
end
section
variable [BQ] {P:Program}
def CP (P:Program) (g:FuncId) (ar:List AV) (H:AH) (Q:AV->Prop):Prop:=AQ P g ar H fun o H'=>H'=H/\∃x,o=.ret x/\Q x
theorem CP.mono {g:FuncId}{ar:List AV}{H:AH}{Q Q':AV->Prop}(h:CP P g ar H Q) (hq:∀x,Q x->Q' x):CP P g ar H Q':=
 AQ.mono h fun o H' ⟨h1,x,h2,h3⟩=>⟨h1,x,h2,hq x h3⟩
theorem Ed {g:FuncId}{ar:List AV}{H:AH}{Q:AV->Prop}{Kp K:AV->AH->Prop}(hC:CP P g ar H Q) (hK:∀x,Q x->K x H):AF P g ar H Kp K:=
 BA hC (fun v H' h=>by obtain⟨rfl,x,h2,h3⟩:=h;cases h2;exact hK _ h3) (fun v H' h=>by obtain⟨_,x,h2,_⟩:=h;cases h2)
def MP (H:AH) (Q:AV->Prop):Al->AH->Prop:=fun o H'=>C9 H H'/\∃x R y,o=.ret x/\FZ R x y/\(∀w∈R,H.next<=w.1/\H'.get w.1=some (.cells w.2))/\Q y
theorem CP.of {g:FuncId}{ar:List AV}{H:AH}{Q:AV->Prop}(h:AQ P g ar H (MP H Q)):CP P g ar H Q:=by
 refine AQ.scope (fun _ _=>h) h.1 fun _ htop o H' hp=>?_
 obtain⟨hk,x,R,y,rfl,h1,h3,hq⟩:=hp
 have hcut:H'.cut H.next H.gl=H:=by
  refine AH.ext (fun q=>?_) rfl rfl
  show(if q<H.next then H'.get q else none)=H.get q
  by_cases hq:q<H.next
  ·rw[if_pos hq,hk.get q hq]
  ·rw[if_neg hq,htop q (by omega)]
 have hold:∀q o,q<H.next->H'.get q=some o->H.get q=some o\/ku H.next o:=fun q o hq ho=>.inl (by rw[<- hk.get q hq];exact ho)
 rw[hcut]
 exact⟨.ret y,h1 H' H.next h3,hold,rfl,_,rfl,hq⟩
theorem A2.fin {H0 H:AH}{L:List (Nat × List AV)}{Q:AV->Prop}{x y:AV}(s:A2 H0 L H) (hf:FZ L x y) (h:Q y):MP H0 Q (.ret x) H:=⟨s.k,x,L,y,rfl,hf,s.live,h⟩
theorem A2.Mo {H0 H:AH}{L:List (Nat × List AV)}{Q:AV->Prop}{x:AV}(s:A2 H0 L H) (hf:∀k,Sc k x) (h:Q x):MP H0 Q (.ret x) H:=⟨s.k,x,[],x,rfl,fun _ k _=>.low (hf k),fun _ h=>(by cases h),h⟩
theorem A2.cp {H0 H:AH}{L:List (Nat × List AV)}{g:FuncId}{ar:List AV}{Q:AV->Prop}{Kp K:AV->AH->Prop}(_:A2 H0 L H) (hC:CP P g ar H Q) (hK:∀x,Q x->K x H):AF P g ar H Kp K:=Ed hC hK
theorem So {T:Type}{J:T}{A B:T->Prop}(h:A J):DG true (.bool true) J A B:=D2 (fun _=>h) (fun e=>absurd rfl e)
theorem iy {T:Type}{J:T}{A B:T->Prop}(h:B J):DG true (.bool false) J A B:=D2 (fun e=>by cases e) (fun _=>h)
theorem Sp {T:Type}{J:T}{A B:T->Prop}(h:A J):DG false (.bool false) J A B:=D2 (fun _=>h) (fun e=>absurd rfl e)
theorem Pz {T:Type}{J:T}{A B:T->Prop}(h:B J):DG false (.bool true) J A B:=D2 (fun e=>by cases e) (fun _=>h)
theorem B8 {A B:Prop}(h:A):AZ (.bool true) A B:=B_ (fun _=>h) (fun e=>by cases e)
theorem Bu {A B:Prop}(h:B):AZ (.bool false) A B:=B_ (fun e=>by cases e) (fun _=>h)
theorem sB {T:Type}{J:T}{A B:T->Prop}(h:A J):MU (.bool true) J A B:=Lc (fun _=>h) (fun e=>by cases e)
theorem sC {T:Type}{J:T}{A B:T->Prop}(h:B J):MU (.bool false) J A B:=Lc (fun e=>by cases e) (fun _=>h)
theorem wrap_i64 (n:Int):IntKind.i64.wrap n=if n % 18446744073709551616>=9223372036854775808 then n % 18446744073709551616-18446744073709551616 else n % 18446744073709551616:=by simp[IntKind.wrap,IntKind.bits,IntKind.signed]
theorem Le {n:Int}(h:-9223372036854775808<=n/\n<=9223372036854775807):IntKind.i64.wrap n=n:=by
 rw[wrap_i64];split<;>omega
abbrev iv (n:Int):AV:=.int .i64 n
abbrev jT (n:Int):Prop:=-9223372036854775808<=n/\n<=9223372036854775807
section
variable {K:AV->Prop}{a b:Int}
theorem CE (h:jT (a+b)) (hK:K (iv (a+b))):AB (.bin .add (.cst (iv a)) (.cst (iv b))) K:=AA (by show some (AV.int .i64 (IntKind.i64.wrap (a+b)))=_;rw[Le h]) hK
theorem DP (h:jT (a-b)) (hK:K (iv (a-b))):AB (.bin .sub (.cst (iv a)) (.cst (iv b))) K:=AA (by show some (AV.int .i64 (IntKind.i64.wrap (a-b)))=_;rw[Le h]) hK
theorem Hd (h:jT (a*b)) (hK:K (iv (a*b))):AB (.bin .mul (.cst (iv a)) (.cst (iv b))) K:=AA (by show some (AV.int .i64 (IntKind.i64.wrap (a*b)))=_;rw[Le h]) hK
theorem Tk (ha:0<=a) (hb:0<b) (hK:K (iv (a % b))):AB (.bin .rem (.cst (iv a)) (.cst (iv b))) K:=AA (by
 have h0:b≠0:=by omega
 show(if IntKind.i64=IntKind.i64/\b≠0 then some (AV.int .i64 (a.tmod b))else none)=_
 rw[if_pos ⟨rfl,h0⟩,JE ha]) hK
theorem fW (ha:0<=a) (hb:0<b) (hs:a<=9223372036854775807) (hK:K (iv (a / b))):AB (.bin .quo (.cst (iv a)) (.cst (iv b))) K:=AA (by
 have h0:b≠0:=by omega
 have h1:0<=a / b:=Int.ediv_nonneg ha (by omega)
 have h2:a / b<=a:=Int.ediv_le_self _ ha
 show(if IntKind.i64=IntKind.i64/\b≠0 then some (AV.int .i64 (IntKind.i64.wrap (a.tdiv b)))else none)=_
 rw[if_pos ⟨rfl,h0⟩,Oh ha,Le ⟨by omega,by omega⟩]) hK
theorem Tm (hK:K (.bool (decide (a<b)))):AB (.bin .lss (.cst (iv a)) (.cst (iv b))) K:=AA rfl hK
theorem lY (hK:K (.bool (decide (b<a)))):AB (.bin .gtr (.cst (iv a)) (.cst (iv b))) K:=AA rfl hK
theorem lZ (hK:K (.bool (decide (b<=a)))):AB (.bin .geq (.cst (iv a)) (.cst (iv b))) K:=AA rfl hK
theorem la (hK:K (.bool (decide (a=b)))):AB (.bin .eql (.cst (iv a)) (.cst (iv b))) K:=AA (by show some (AV.bool (a==b))=_;congr 2) hK
theorem lX (hK:K (.bool (decide (a≠b)))):AB (.bin .neq (.cst (iv a)) (.cst (iv b))) K:=AA (by
 show some (AV.bool (a != b))=_
 congr 2
 by_cases h:a=b
 ·subst h;simp
 ·simp[h]) hK
theorem Tl {t:Bool}(hK:K (.bool (!t))):AB (.un .not (.cst (.bool t))) K:=AA rfl hK
end
structure FL (z:Nat) (Pr:Nat->List AV->Prop) (n:Nat) (v:AV):Prop where
 ex:(n=0/\v=.nils)\/∃(css:List (List AV)) (b:Bool),v=.sim css.flatten n b/\(n=0->b=true)/\css.length=n/\∀i c,css[i]?=some c->c.length=z/\(∀k,Gy k c)/\Pr i c
section
variable {z n:Nat}{Pr Pr':Nat->List AV->Prop}{v:AV}
theorem FL.nil:FL z Pr 0 .nils:=⟨.inl ⟨rfl,rfl⟩⟩
theorem FL.mono (h:FL z Pr n v) (hp:∀i c,i<n->Pr i c->Pr' i c):FL z Pr' n v:=by
 rcases h.ex with h | ⟨css,b,h1,h2,h3,h4⟩
 ·exact⟨.inl h⟩
 ·exact⟨.inr ⟨css,b,h1,h2,h3,fun i c hc=>by
   obtain⟨g1,g2,g3⟩:=h4 i c hc
   exact⟨g1,g2,hp i c (by rw[<- h3];exact(CJ.1 hc).1) g3⟩⟩⟩
theorem FL.sc (h:FL z Pr n v) (k:Nat):Sc k v:=by
 rcases h.ex with⟨_,rfl⟩ | ⟨css,b,rfl,h2,h3,h4⟩
 ·exact .nils
 ·refine .sim (Gy.Kr fun x hx=>?_)
  obtain⟨c,hc,hxc⟩:=TL.1 hx
  obtain⟨i,hi⟩:=DC hc
  exact((h4 i c hi).2.1 k).mem hxc
theorem FL.one (h:FL z Pr n v):v.cellsOf=some [v]:=by
 rcases h.ex with⟨_,rfl⟩ | ⟨css,b,rfl,_⟩<;>rfl
theorem FL.len (h:FL z Pr n v){K:AV->Prop}(hK:K (iv (n:Int))):AB (.len (.cst v)) K:=by
 rcases h.ex with⟨rfl,rfl⟩ | ⟨css,b,rfl,_⟩<;>exact AA rfl hK
theorem FL.cells (h:FL z Pr n v):∃css:List (List AV),css.length=n/\(∀H,Ae z v H=some (n,css.flatten))/\∀i c,css[i]?=some c->c.length=z/\(∀k,Gy k c)/\Pr i c:=by
 rcases h.ex with⟨rfl,rfl⟩ | ⟨css,b,rfl,_,h3,h4⟩
 ·exact⟨[],rfl,fun H=>rfl,fun i c h=>by simp at h⟩
 ·refine⟨css,h3,fun H=>?_,h4⟩
  have:css.flatten.length=n*z:=by
   rw[F2 css fun c hc=>?_,h3]
   obtain⟨i,hi⟩:=DC hc
   exact(h4 i c hi).1
  simp[Ae,this]
theorem FL.at (h:FL z Pr n v){i:Nat}(hi:i<n):∃cs c,AJ (.indexAddrS z (.cst v) (.cst (iv (i:Int)))) emp=some (.pim cs (i*z))/\c.length=z/\(∀k,Gy k c)/\Pr i c/\(∀j x,c[j]?=some x->cs[i*z+j]?=some x)/\(cs.drop (i*z)).take z=c/\i*z+z<=cs.length:=by
 rcases h.ex with⟨rfl,_⟩ | ⟨css,b,rfl,_,h3,h4⟩
 ·omega
 ·have hc:css[i]?=some (css[i]'(by omega)):=Ab (by omega)
  have hz:∀c∈css,c.length=z:=fun c hc=>by
   obtain⟨i,hi⟩:=DC hc
   exact(h4 i c hi).1
  obtain⟨g1,g2,g3⟩:=h4 i _ hc
  have hx:=Je css i _ hz hc
  have hl:css.flatten.length=n*z:=by rw[F2 css hz,h3]
  have hm:i*z+z<=n*z:=by
   have:(i+1)*z<=n*z:=DY _ (by omega)
   rw[EC,GY]at this;exact this
  refine⟨css.flatten,css[i]'(by omega),?_,g1,g2,g3,fun j x hj=>?_,hx,by omega⟩
  ·have h9:(0:Int)<=(i:Int)/\(i:Int)<(n:Int):=by omega
   simp[AJ,AE.ev,Ey,h9]
  ·have hjz:j<z:=by rw[<- g1];exact(CJ.1 hj).1
   have h5:((css.flatten.drop (i*z)).take z)[j]?=(css[i]'(by omega))[j]?:=by rw[hx]
   rw[D0,if_pos hjz,DD,hj]at h5
   exact h5
theorem FL.gD {Pr:Nat->List AV->Prop}(h:FL 1 Pr n v){i:Nat}(hi:i<n){H:AH}{K:AV->Prop}(hK:∀x,(∀k,Sc k x)->Pr i [x]->K x) :
  AB (.indexAddrS 1 (.cst v) (.cst (iv (i:Int)))) fun v2=>AG (.load none (.cst v2)) H K:=by
 obtain⟨cs,c,h1,h2,h3,h4,h5,_⟩:=h.at hi
 match c,h2 with
 | [x],_=>
  refine AA h1 (BG (v:=x) ?_ (hK x (fun k=>by cases h3 k with | cons a _=>exact a) h4))
  have:=h5 0 x rfl
  simpa[AY,BJ,AE.ev,apart]using this
end
structure GL (R:List (Nat × List AV)) (z:Nat) (Pr:Nat->List AV->Prop) (n:Nat) (cs:List AV):Prop where
 ex:∃css:List (List AV),U8 R cs css.flatten/\css.length=n/\∀i c,css[i]?=some c->c.length=z/\(∀k,Gy k c)/\Pr i c
 n:cs.length=n*z
section
variable {R R':List (Nat × List AV)}{z n:Nat}{Pr Pr':Nat->List AV->Prop}{cs c c':List AV}
theorem GL.nil:GL R z Pr 0 []:=⟨⟨[],.nil,rfl,fun i c h=>by simp at h⟩,by simp⟩
theorem GL.mono (h:GL R z Pr n cs) (hs:R ⊆ R'):GL R' z Pr n cs:=by
 obtain⟨⟨css,h1,h2,h3⟩,h4⟩:=h
 exact⟨⟨css,h1.mono hs,h2,h3⟩,h4⟩
theorem GL.add (h:GL R z Pr n cs) (hf:U8 R c c') (hc:c.length=z) (hc':c'.length=z) (hs:∀k,Gy k c') (hp:Pr n c'):GL R z Pr (n+1) (cs++c):=by
 obtain⟨⟨css,h1,h2,h3⟩,h4⟩:=h
 refine⟨⟨css++[c'],?_,by simp[h2],fun i d hd=>?_⟩,by rw[AW,h4,hc,EC,GY]⟩
 ·rw[G4]
  simpa using h1.app hf
 ·rcases CT i n with hi | hi
  ·rw[Dr (by omega)]at hd
   exact h3 i d hd
  ·rw[C4 (by omega)]at hd
   have h0:i=n:=by
    rcases DB (i-css.length)with h | h
    ·omega
    ·rw[BT (by simp;omega)]at hd;cases hd
   subst h0
   rw[h2,HB]at hd
   cases hd
   exact⟨hc',hs,hp⟩
theorem GL.sN (h:GL R z Pr n cs) (hc:c.length=z) (hs:∀k,Gy k c) (hp:Pr n c):GL R z Pr (n+1) (cs++c):=h.add (.low hs) hc hc hs hp
theorem GL.P3 {o:List (Nat × List AV)}{v:AV}(h:GL R z Pr n cs) (hv:Lv z o n cs v):∃y,FZ (o++R) v y/\FL z Pr n y:=by
 obtain⟨⟨css,h1,h2,h3⟩,h4⟩:=h
 have hcl:∀x∈css,x.length=z:=fun x hx=>by
  obtain⟨j,hj⟩:=DC hx
  exact(h3 j x hj).1
 have hfl:css.flatten.length=n*z:=by rw[F2 css hcl,h2]
 cases hv with
 | nil=>exact⟨.nils,fun _ _ _=>.low .nils,.nil⟩
 | ex q=>
  refine⟨.sim [] 0 true,fun H k hR=>?_,⟨.inr ⟨[],true,rfl,fun _=>rfl,rfl,fun i c h=>by simp at h⟩⟩⟩
  obtain⟨g1,g2⟩:=hR (q,[]) (.head _)
  exact .sl (l:=[]) (m:=0) g1 (by simp[AH.cells?,g2]) (by simp) .nil (fun _=>rfl) (fun _=>rfl)
 | op hn=>
  rename_i r
  refine⟨.sim css.flatten n false,fun H k hR=>?_,⟨.inr ⟨css,false,rfl,fun h=>by omega,h2,h3⟩⟩⟩
  obtain⟨g1,g2⟩:=hR (r,cs) (.head _)
  refine .sl (l:=cs) (m:=cs.length) g1 (by simp[AH.cells?,g2]) (by simp) ?_ (fun h=>by rw[h4,h,G_]) (fun h=>by cases h)
  rw[B5,GU]
  exact h1 H k fun x hx=>hR x (BS _ hx)
 | exn hn=>
  rename_i r
  refine⟨.sim css.flatten n false,fun H k hR=>?_,⟨.inr ⟨css,false,rfl,fun h=>by omega,h2,h3⟩⟩⟩
  obtain⟨g1,g2⟩:=hR (r,cs) (.head _)
  refine .sl (l:=cs) (m:=cs.length) g1 (by simp[AH.cells?,g2]) (by simp) ?_ (fun h=>by rw[h4,h,G_]) (fun h=>by cases h)
  rw[B5,GU]
  exact h1 H k fun x hx=>hR x (BS _ hx)
end
end
end Go.AL
namespace Go.AL.Co
inductive Er where
 | short
 | form
 deriving DecidableEq
inductive Rs (α:Type) where
 | ok (x:α) (r:List UInt8)
 | err (e:Er)
def Rs.bind {α β:Type}(x:Rs α) (f:α->List UInt8->Rs β):Rs β:=match x with
 | .ok a r=>f a r
 | .err e=>.err e
def MG (u:Nat):List UInt8:=if u<=127 then[UInt8.ofNat u]else UInt8.ofNat (u % 128+128)::MG (u / 128)
 termination_by u
 decreasing_by omega
def QB:Nat->List UInt8->Rs Nat
 | _,[]=>.err .short
 | i,x::r=>if (i=9/\1<x.toNat)\/(0<i/\x.toNat=0)then .err .form else
   if x.toNat<128 then .ok x.toNat r else(QB (i+1) r).bind fun v r'=>.ok (x.toNat-128+128*v) r'
theorem ofNat_toNat {n:Nat}(h:n<256):(UInt8.ofNat n).toNat=n:=by simp;omega
theorem bZ (u:Nat):MG u≠[]:=by
 unfold MG;split<;>simp
def zz (n:Int):Nat:=if 0<=n then 2*n.toNat else 2*(-n-1).toNat+1
def Qj (u:Nat):Int:=if u % 2=1 then -((u / 2:Nat):Int)-1 else((u / 2:Nat):Int)
def Ba (n:Int):List UInt8:=MG (zz n)
def Qt (b:List UInt8):Rs Int:=(QB 0 b).bind fun u r=>.ok (Qj u) r
def Q0 (n:Int):Prop:=-9223372036854775808<=n/\n<=9223372036854775807
theorem kz {n:Int}(h:Q0 n):zz n<2 ^ 64:=by unfold zz;obtain⟨h1,h2⟩:=h;split<;>omega
inductive Ty where
 | int
 | byte
 | bool
 | list (t:Ty)
 | pair (a b:Ty)
 | vec (n:Nat)
def Ty.D:Ty->Type
 | .int=>Int
 | .byte=>UInt8
 | .bool=>Bool
 | .list t=>List t.D
 | .pair a b=>a.D × b.D
 | .vec _=>List UInt8
def GA {t:Ty}(l:(Ty.list t).D):List t.D:=l
def Rl {n:Nat}(l:(Ty.vec n).D):List UInt8:=l
def Ty.wf:(t:Ty)->t.D->Prop
 | .int,n=>Q0 n
 | .byte,_=>True
 | .bool,_=>True
 | .list t,l=>Q0 ((GA l).length:Int)/\∀x∈GA l,t.wf x
 | .pair a b,p=>a.wf p.1/\b.wf p.2
 | .vec n,l=>(Rl l).length=n
def Ty.enc:(t:Ty)->t.D->List UInt8
 | .int,n=>Ba n
 | .byte,x=>[x]
 | .bool,b=>[bif (show Bool from b)then 1 else 0]
 | .list t,l=>Ba ((GA l).length:Int)++(GA l).flatMap t.enc
 | .pair a b,p=>a.enc p.1++b.enc p.2
 | .vec _,l=>l
def many {α:Type}(f:List UInt8->Rs α):Nat->List UInt8->Rs (List α)
 | 0,b=>.ok [] b
 | n+1,b=>(f b).bind fun x r=>(many f n r).bind fun l r'=>.ok (x::l) r'
def C7:List UInt8->Rs UInt8
 | []=>.err .short
 | x::r=>.ok x r
def Ty.dec:(t:Ty)->List UInt8->Rs t.D
 | .int,b=>Qt b
 | .byte,b=>C7 b
 | .bool,b=>(C7 b).bind fun x r=>if 1<x.toNat then .err .form else .ok (decide (x.toNat=1)) r
 | .list t,b=>(Qt b).bind fun n r=>if n<0 then .err .form else if (r.length:Int)<n then .err .short else many t.dec n.toNat r
 | .pair a b,l=>(a.dec l).bind fun x r=>(b.dec r).bind fun y r'=>.ok (x,y) r'
 | .vec n,b=>(many C7 n b)
def whole (t:Ty) (b:List UInt8):Except Er t.D:=match t.dec b with
 | .ok x []=>.ok x
 | .ok _ (_::_)=>.error .form
 | .err e=>.error e
def O9:Ty:=.pair .int .byte
def CG:Ty:=.list O9
def BM:Ty:=.list .int
def Gd:Ty:=.pair .bool .byte
def DH:Ty:=.pair .int (.list Gd)
def Bl:Ty:=.vec 32
def Ch:Ty:=.list .byte
def tQ:Ty:=.pair .int (.pair .int (.pair .int (.pair .int .bool)))
def Ge:Ty:=.pair .int (.pair CG (.pair CG (.pair (.list Bl) (.pair (.list BM) (.pair (.list .bool) (.pair BM (.pair .int (.pair (.list Bl) (.pair (.list (.list DH)) (.pair (.list .bool) (.pair (.list Ch) (.pair tQ (.pair .int .bool)))))))))))))
def Em:Ty:=.pair .int (.pair BM (.pair .int (.pair .int (.pair .int (.pair .int (.pair .int .int))))))
def IK:Ty:=.pair CG CG
def HC:Ty:=.pair .int (.pair .int (.pair .int (.pair .int (.pair Ge (.pair BM (.pair (.list BM) (.pair (.list Em) (.list IK))))))))
def Ad:Ty:=.list HC
end Go.AL.Co
namespace Go.AL
def gR:List A_:=[
 ⟨(some 5),.move (.tmp 1),none⟩,
 ⟨(some 6),.convI .u64 (.tmp 5),none⟩,
 ⟨(some 7),.bin .shl (.tmp 6) (.cst (.int .u64 1)),none⟩,
 ⟨(some 4),.move (.tmp 7),none⟩]
def gQ:List A_:=[
 ⟨(some 8),.move (.tmp 1),none⟩,
 ⟨(some 9),.bin .lss (.tmp 8) (.cst (.int .i64 0)),none⟩]
def gP:List A_:=[
 ⟨(some 10),.move (.tmp 1),none⟩,
 ⟨(some 11),.un .xor (.tmp 10),none⟩,
 ⟨(some 12),.convI .u64 (.tmp 11),none⟩,
 ⟨(some 13),.bin .shl (.tmp 12) (.cst (.int .u64 1)),none⟩,
 ⟨(some 14),.bin .or (.tmp 13) (.cst (.int .u64 1)),none⟩,
 ⟨(some 4),.move (.tmp 14),none⟩]
def gO:List A_:=[
 ⟨(some 15),.move (.tmp 4),none⟩,
 ⟨(some 16),.bin .gtr (.tmp 15) (.cst (.int .u64 127)),none⟩]
def gN:List A_:=[
 ⟨(some 19),.move (.tmp 0),none⟩,
 ⟨(some 20),.move (.tmp 0),none⟩,
 ⟨(some 21),.nilCheck (.tmp 20),none⟩,
 ⟨(some 22),.fieldAddr 0 (.tmp 21),none⟩,
 ⟨(some 23),.load none (.tmp 22),none⟩,
 ⟨(some 24),.move (.tmp 4),none⟩,
 ⟨(some 25),.convI .u8 (.tmp 24),none⟩,
 ⟨(some 26),.bin .or (.tmp 25) (.cst (.int .u8 128)),none⟩,
 ⟨(some 27),.buildSlice 1 1 [(.int .u8 0)] [(0,1,(.tmp 26))],none⟩,
 ⟨(some 28),.append 1 1 (.tmp 23) (.tmp 27),none⟩,
 ⟨(some 29),.nilCheck (.tmp 19),none⟩,
 ⟨(some 30),.fieldAddr 0 (.tmp 29),none⟩,
 ⟨none,.store 1 (.tmp 30) (.tmp 28),none⟩]
def gM:List A_:=[
 ⟨(some 17),.move (.tmp 4),none⟩,
 ⟨(some 18),.bin .shr (.tmp 17) (.cst (.int .u64 7)),none⟩,
 ⟨(some 4),.move (.tmp 18),none⟩]
def cH:Ay:=(.seq (.seq (.reg gO) (.cond (.tmp 16) .skip (.exit 0))) (.seq (.block 1 (.reg gN)) (.reg gM)))
def cG:List A_:=[
 ⟨(some 31),.move (.tmp 0),none⟩,
 ⟨(some 32),.move (.tmp 0),none⟩,
 ⟨(some 33),.nilCheck (.tmp 32),none⟩,
 ⟨(some 34),.fieldAddr 0 (.tmp 33),none⟩,
 ⟨(some 35),.load none (.tmp 34),none⟩,
 ⟨(some 36),.move (.tmp 4),none⟩,
 ⟨(some 37),.convI .u8 (.tmp 36),none⟩,
 ⟨(some 38),.buildSlice 1 1 [(.int .u8 0)] [(0,1,(.tmp 37))],none⟩,
 ⟨(some 39),.append 1 1 (.tmp 35) (.tmp 38),none⟩,
 ⟨(some 40),.nilCheck (.tmp 31),none⟩,
 ⟨(some 41),.fieldAddr 0 (.tmp 40),none⟩,
 ⟨none,.store 1 (.tmp 41) (.tmp 39),none⟩]
def qY:Ay:=(.seq (.reg gR) (.seq (.seq (.reg gQ) (.cond (.tmp 9) (.reg gP) .skip)) (.seq (.block 0 (.loop cH)) (.reg cG))))
def oH:List CZ:=[]
def gG:List A_:=[
 ⟨(some 4),.move (.tmp 0),none⟩,
 ⟨(some 5),.move (.tmp 0),none⟩,
 ⟨(some 6),.nilCheck (.tmp 5),none⟩,
 ⟨(some 7),.fieldAddr 0 (.tmp 6),none⟩,
 ⟨(some 8),.load none (.tmp 7),none⟩,
 ⟨(some 9),.move (.tmp 1),none⟩,
 ⟨(some 10),.buildSlice 1 1 [(.int .u8 0)] [(0,1,(.tmp 9))],none⟩,
 ⟨(some 11),.append 1 1 (.tmp 8) (.tmp 10),none⟩,
 ⟨(some 12),.nilCheck (.tmp 4),none⟩,
 ⟨(some 13),.fieldAddr 0 (.tmp 12),none⟩,
 ⟨none,.store 1 (.tmp 13) (.tmp 11),none⟩]
def v_:Ay:=(.reg gG)
def sV:List CZ:=[]
section
inductive Wr (H:AH) (p:Nat):Option Nat->List UInt8->Prop
 | nil (hp:H.get p=some (.cells [.nils])) (hlt:p<H.next):Wr H p none []
 | row {r:Nat} {bs:List UInt8} (hp:H.get p=some (.cells [.sl r 0 bs.length (.op 1)])) (hr:H.get r=some (.cells (bs.map bv))) (hne:r≠p) (hlt:p<H.next) (hrt:r<H.next):Wr H p (some r) bs
def DW (H:AH) (p:Nat) (ro:Option Nat) (bs':List UInt8):Al->AH->Prop:=fun o H'=>
 o=.ret (.tup [])/\∃r',H.next<=r'/\Wr H' p (some r') bs'/\H.next<=H'.next/\(∀q,q<H.next->q≠p->some q≠ro->H'.get q=H.get q)/\H'.gl=H.gl
theorem A0 {P:Program}{e:Env}{H H1:AH}{K:Env->AH->Prop}{Kp:AV->Env->AH->Prop}{l:List A_}{d:Option Nat}{k:AK}{v:AV}
  (h:A6 k e H=some (v,H1)) (hp:k.plain=true) (hK:CI P l (e.put d v) H1 K Kp):CI P (⟨d,k,none⟩::l) e H K Kp:=ct (v:=(v,H1)) h hp hK
variable {P:Program}
theorem f_ {e:Env}{H:AH}{ars:List CZ}{post:Al->AH->Prop}{Kp:AV->Env->AH->Prop}(h1:e AM=.tup []) (h2:F1 ars post .normal e H) :
  CI P [] e H (fun e' H'=>VA (fun x e H'=>e AM=.tup []/\F1 ars post x e H') .normal e' H') Kp:=Tc (Fj (Q:=fun x e H'=>e AM=.tup []/\F1 ars post x e H') ⟨h1,h2⟩)
theorem DW.mk {H H':AH}{p:Nat}{ro:Option Nat}{bs':List UInt8}{e:Env}(r':Nat) (h1:H.next<=r') (h2:Wr H' p (some r') bs') (h3:H.next<=H'.next) (h4:∀q,q<H.next->q≠p->some q≠ro->H'.get q=H.get q) (h5:H'.gl=H.gl) :
  F1 [] (DW H p ro bs') .normal e H':=⟨rfl,r',h1,h2,h3,h4,h5⟩
set_option maxRecDepth 4000 in
theorem vu (F:MT P 112 14 v_ sV){H:AH}{p:Nat}{ro:Option Nat}{bs:List UInt8}(x:UInt8) (hW:Wr H p ro bs) (hb:bs.length<1099511627776) :
  AQ P 112 [.ptr p 0,bv x] H (DW H p ro (bs++[x])):=by
 refine F.call (by simp) ?_
 unfold v_ gG
 refine Gs ?_
 cases hW with
 | nil hp hlt=>
  have h1:p≠H.next:=by omega
  have h2:p≠H.next+1:=by omega
  iterate 11 refine A0 (by simp[A6,AJ,AY,BC,AE.ev,Env.put,Env.AN,CH,AM,Ik,Fc,BJ,AH.cells?,AH.Ai,AH.AU,AH.get_erase,apart,BO,Ae,Bv,AV.cellsOf,Ap,hp,h1,h2,bv];first | done | rfl | exact⟨rfl,rfl⟩) rfl ?_
  refine f_ (by simp[Env.put,Env.AN,CH,AM]) (DW.mk (H.next+1) (by omega) ?_ (by simp;omega) ?_ rfl)
  ·refine .row (bs:=[x]) ?_ ?_ (by omega) (by simp;omega) (by simp)
   ·simp[AH.AU]
   ·simp[AH.AU,AH.Ai,bv];omega
  ·intro q hq hqp hqr
   have h3:q≠H.next:=by omega
   have h4:q≠H.next+1:=by omega
   simp[AH.AU,AH.Ai,hqp,h3,h4]
 | row hp hr hne hlt hrt=>
  rename_i r
  have h1:p≠H.next:=by omega
  have h2:p≠H.next+1:=by omega
  have h3:r≠H.next:=by omega
  have h4:¬p=r:=fun e=>hne e.symm
  have h5:bs.length+1<=140737488355328:=by omega
  have h6:bs.length+1<=9223372036854775807:=by omega
  iterate 11 refine A0 (by simp[A6,AJ,AY,BC,AE.ev,Env.put,Env.AN,CH,AM,Ik,Fc,BJ,AH.cells?,AH.Ai,AH.AU,AH.get_erase,apart,BO,Ae,Bv,AV.cellsOf,Ap,hp,hr,h1,h2,h3,h4,h5,h6,bv];first | done | rfl | exact⟨rfl,rfl⟩) rfl ?_
  refine f_ (by simp[Env.put,Env.AN,CH,AM]) (DW.mk (H.next+1) (by omega) ?_ (by simp;omega) ?_ rfl)
  ·refine .row ?_ ?_ (by omega) (by simp;omega) (by simp)
   ·simp[AH.AU]
   ·have h7:H.next+1≠p:=by omega
    simp[AH.AU,AH.Ai,AH.get_erase,bv,h7]
    exact AX (by simp)
  ·intro q hq hqp hqr
   have h7:q≠H.next:=by omega
   have h8:q≠H.next+1:=by omega
   have h9:q≠r:=fun e=>hqr (by rw[e])
   simp[AH.AU,AH.Ai,AH.get_erase,hqp,h7,h8,h9]
end
section
variable [BQ]
section
variable {P:Program}
theorem AQ.MI {g:FuncId}{al al':List AV}{R:AV}{H0 H:AH}(h:AQ P g al' H0 fun o H'=>∃v,o=.ret v/\Ir H' v R) (hs:Gy 0 al') (ha:B6 H (fun _=>True) al al') (h0:∀r,H0.get r=none) (hg:H.gl=H0.gl):AQ P g al H fun o H'=>o=.ret R/\H'=H:=by
 refine⟨h.1,fun Z σ w vs hW hv=>?_⟩
 have hF:=hW.Sr (R:=fun _=>True) (H':=⟨fun _=>none,H.next,H.gl⟩) rfl (fun r o hr=>by cases hr)
 have hW0:WR (VB Z σ H (fun _=>True) w) (fun _=>none) H0 w:=
  ⟨hF.z,fun r o p hr=>(by rw[h0]at hr;cases hr),fun r r' o o' p p' hr=>(by rw[h0]at hr;cases hr),fun _ _=>rfl,fun r _=>h0 r,by rw[<- hg];exact hF.rest⟩
 have hv0:CC (VB Z σ H (fun _=>True) w) (fun _=>none) al' vs:=by
  have:=(B6.sound hW ha hv).cut hs
  have e:Hy 0 σ=fun _=>none:=by funext r;simp[Hy]
  rwa [e]at this
 refine(h.2 _ _ w vs hW0 hv0).mono fun x w' hx=>?_
 obtain⟨Z1,σ1,H1',out,g1,g2,g3,g4,g5,v,rfl,hR⟩:=hx
 classical
 obtain⟨Z2,hZ2⟩:∃Z2:Zt,Z2={ Z1 with blk:=fun c=>if (∃r o p,H.get r=some o/\σ r=some p/\p.b=c)then none else if (∃r o p,H1'.get r=some o/\σ1 r=some p/\p.b=c)then w'.heap[c]? else Z1.blk c }:=⟨_,rfl⟩
 have hold:∀r o p,H.get r=some o->σ r=some p->∃x,Z1 p.b=some x/\w.heap[p.b]?=some x:=fun r o p q1 q2=>by
  obtain⟨_,hO⟩:=hW.h r o p q1 q2
  have hlt:=hO.lt
  have e1:w.heap[p.b]?=some (w.heap[p.b]'hlt):=LQ hlt
  have e2:VB Z σ H (fun _=>True) w p.b=w.heap[p.b]?:=V2 (R:=fun _=>True) trivial q1 q2
  exact⟨_,g1.le _ _ (e2.trans e1),e1⟩
 have hown:∀r o p,H1'.get r=some o->σ1 r=some p->Z2 p.b=w'.heap[p.b]?:=fun r o p q1 q2=>by
  have hn:=(g4.h r o p q1 q2).1
  rw[hZ2]
  simp only
  rw[if_neg,if_pos ⟨r,o,p,q1,q2,rfl⟩]
  rintro⟨r',o',p',k1,k2,k3⟩
  obtain⟨x,k4,_⟩:=hold r' o' p' k1 k2
  rw[k3,hn]at k4;cases k4
 have hz:∀c o,Z2 c=some o->w'.heap[c]?=some o:=fun c o hc=>by
  rw[hZ2]at hc
  simp only at hc
  split at hc
  ·cases hc
  ·split at hc
   ·exact hc
   ·exact g4.z c o hc
 have hle:CO Z Z2:=by
  have hl:=(K3 (R:=fun _=>True) hW).trans g1
  refine⟨fun c o hc=>?_,by rw[hZ2];exact hl.os,by rw[hZ2];exact hl.out,by rw[hZ2];exact hl.P3,by rw[hZ2];exact hl.old⟩
  have:=hl.le c o hc
  rw[hZ2]
  simp only
  rw[if_neg,if_neg]
  ·exact this
  ·rintro⟨r,o',p,q1,q2,rfl⟩
   rw[(g4.h r o' p q1 q2).1]at this;cases this
  ·rintro⟨r,o',p,q1,q2,rfl⟩
   rw[(hW.h r o' p q1 q2).1]at hc;cases hc
 refine⟨Z2,σ,H,(.ret R),hle,Nw.refl _ _,A4 _,⟨hz,fun r o p q1 q2=>⟨?_,?_⟩,hW.inj,hW.fresh,hW.top,?_⟩,?_,rfl,rfl⟩
 ·rw[hZ2]
  simp only
  rw[if_pos ⟨r,o,p,q1,q2,rfl⟩]
 ·obtain⟨_,hO⟩:=hW.h r o p q1 q2
  obtain⟨x,k1,k2⟩:=hold r o p q1 q2
  have e3:=g4.z _ _ k1
  exact hO.mono hle (LH.refl _) (by rw[e3,k2])
 ·have hr:=g4.rest
  have hr0:=hW.rest
  exact⟨by rw[hr.1,hZ2],by rw[hr.2.1,hZ2],fun c o hc=>⟨hle.le _ _ (hr0.2.2 c o hc).1,(hr0.2.2 c o hc).2⟩⟩
 ·obtain⟨cv,q1,q2⟩:=g5
  exact⟨_,q1,hR.sound g4 hown q2⟩
end
mutual
theorem F6.all {H:AH}:∀{x y:AV},F6 H 0 x y->ES H (fun _=>True) x y
 | _,_,.low _=>.same _
 | _,_,.unk _=>.unk _
 | _,_,.sl _ hc hm hl hn hx=>.sl trivial hc hm (CF.all hl) hn hx
 | _,_,.ptr _ hc hl=>.ptr trivial hc (CF.all hl)
 | _,_,.ifc h=>.ifc (F6.all h)
 | _,_,.agg h=>.agg (CF.all h)
 | _,_,.tup h=>.tup (CF.all h)
 | _,_,.fn h1 h2=>.fn (CF.all h1) (CF.all h2)
theorem CF.all {H:AH}:∀{l l':List AV},CF H 0 l l'->B6 H (fun _=>True) l l'
 | _,_,.nil=>.nil
 | _,_,.cons h t=>.cons (F6.all h) (CF.all t)
end
def cJ (P:Program) (g:FuncId) (as0:List AV) (R:AV):Prop:=∀(H:AH) (zs:List AV),H.gl=BQ.G->B6 H (fun _=>True) zs as0->fK P g zs H R H
noncomputable def As (g0:FuncId) (as0:List AV) (R:AV) (rest:Ag):Ag:=fun g zs h=>Bool.rec (motive:=fun _=>KC) (rest g zs h) (.ret R h) (Nat.beq g g0&&Jd h 0 as0 zs)
theorem KF {P:Program}{g0:FuncId}{as0:List AV}{R:AV}{rest:Ag}(hr:AT P rest) (hR:cJ P g0 as0 R):AT P (As g0 as0 R rest):=by
 intro g zs h
 unfold As
 cases hc:(Nat.beq g g0&&Jd h 0 as0 zs)with
 | false=>exact hr g zs h
 | true=>
  simp only[AS,E_]at hc
  obtain⟨rfl,h2⟩:=hc
  have e:=(Eu _ _ h2).all
  refine⟨fun v h' q=>?_,fun v h' q=>by cases q⟩
  cases q
  exact hR _ _ rfl e
end
section
variable [BQ]
section
variable {P:Program}
def lV:Ay->Ay
 | .seq a _=>a
 | _=>.skip
def OI:Ay->Ay
 | .seq _ b=>b
 | _=>.skip
def vt:Ay->Ay
 | .cond _ a _=>a
 | _=>.skip
theorem US {f g:FuncId}{fn:Func}{n np t:Nat}{hs:Hints}{q:List CZ}{cp:List AE}{t0 t1 t3:HT}{F:GF}(hmix:P.follows .mixedOrders=true) (hf:P.funcs[f]?=some fn) (Dh:(fn.name=="runtime.NumGoroutine")=false)
  (hn:fn.ntmps=n) (hb:(fn.body.bind (comp P hs n)).isSome=true) (hr:F_ P fn.results.toList=some q) (hle:Nat.ble n AM=true)
  (hsh:EY P fn hs n=.seq (lV (EY P fn hs n)) (.seq (lV (OI (EY P fn hs n))) (.seq (.reg [⟨some t,.mkFunc (.func g) [] cp,none⟩,⟨none,.defer (.tmp t) [],none⟩]) (OI (OI (OI (EY P fn hs n)))))))
  (ht:Nat.ble (t+1) AM=true) (ho:FN (OI (OI (OI (EY P fn hs n))))=true) (hro:Hg (OI (OI (OI (EY P fn hs n))))=true) (hq:Wu q=true) (hnp:Nat.ble np n=true)
  (hA:∀all H,all.length=cp.length->FO P g all none H fun H'=>H'=H) (hF:F=fk np q (lV (EY P fn hs n)) (lV (OI (EY P fn hs n))) (OI (OI (OI (EY P fn hs n)))) t g cp t0 t1 t3):Ax P f F:=by
 obtain⟨ac,hac⟩:=E9.1 hb
 have e:EY P fn hs n=ac:=by unfold EY;rw[hac]
 rw[e]at hsh ho hro hF
 have hfun:MT P f n ac q:=MT.mk' hmix hf Dh hn hac hr hle
 rw[hsh]at hfun
 exact UR hfun ht ho hro hq hnp hA hF
theorem Mz {g:FuncId}{fn:Func}{n ra rb rc rd L:Nat}{hs:Hints}(hmix:P.follows .mixedOrders=true) (hf:P.funcs[g]?=some fn) (Dh:(fn.name=="runtime.NumGoroutine")=false)
  (hn:fn.ntmps=n) (hb:(fn.body.bind (comp P hs n)).isSome=true) (hr:fn.results=#[]) (hle:Nat.ble n AM=true) (hlen:Nat.ble L n=true)
  (hsh:EY P fn hs n=.seq (.reg [⟨some ra,.recover,none⟩,⟨some rb,.move (.tmp ra),none⟩]) (.seq (.reg [⟨some rc,.move (.tmp rb),none⟩,⟨some rd,.eq true .iface (.tmp rc) (.cst .nili),none⟩]) (.cond (.tmp rd) (vt (OI (OI (EY P fn hs n)))) .skip)))
  (hd:(Nat.ble (ra+1) AM&&Nat.ble (rb+1) AM&&Nat.ble (rc+1) AM&&Nat.ble (rd+1) AM)=true):∀all H,all.length=L->FO P g all none H fun H'=>H'=H:=by
 intro all H hall
 obtain⟨ac,hac⟩:=E9.1 hb
 have e:EY P fn hs n=ac:=by unfold EY;rw[hac]
 rw[e]at hsh
 subst hn
 obtain⟨c,hc,hcc⟩:=C5.1 hac
 rw[hsh]at hcc
 simp only[AS]at hd
 obtain⟨⟨⟨d1,d2⟩,d3⟩,d4⟩:=hd
 have d1:=Aa d1
 have d2:=Aa d2
 have d3:=Aa d3
 have d4:=Aa d4
 have n1:¬AM=ra:=by omega
 have n2:¬AM=rb:=by omega
 have n3:¬AM=rc:=by omega
 have n4:¬AM=rd:=by omega
 refine Rq hmix hf (by simpa using Dh) hc (Aa hle) (by have:=Aa hlen;omega) hcc hr ?_
 refine Dx ?_
 refine ct (v:=(.nili,H)) (by simp[A6,AJ,AE.ev,Env.AN,Mv]) rfl ?_
 refine ct (v:=(.bool false,H)) (by simp[A6,AJ,AE.ev,Env.put,Env.AN,Yg]) rfl ?_
 refine Tc (VL (Ji (t:=false) (by simp[AE.ev,Env.put,Env.AN]) (fun h=>by cases h) (fun _=>K7 ?_)))
 exact⟨by simp[Env.put,Env.AN,CH,n1,n2,n3,n4],rfl⟩
end
end
noncomputable section
section
variable {P:Program}
def YR:List A_->Env->AH->Option (Env × AH)
 | [],e,H=>some (e,H)
 | o::l,e,H=>match o.gd with
  | some _=>none
  | none=>match A6 o.k e H with
   | some (v,H1)=>YR l (e.put o.dst v) H1
   | none=>none
theorem T8 {n:Nat}(hn:n<=AM){ops:Array Oper}{K:Exit->Act->List Frame->World->Prop}{cs:List Frame}:∀(l:List Oper) (al:List A_) (i:Nat),ops.toList.drop i=l->CB P n ops l=some al ->
  ∀(e:Env) (H:AH) (e1:Env) (H1:AH),YR al e H=some (e1,H1)->∀(Z:Zt) (σ:Sg) (a:Act) (w:World),WR Z σ H w->FR Z σ n e a ->
  (∀σ' a' w',Nw σ H.next σ'->H.next<=H1.next->WR Z σ' H1 w'->FR Z σ' n e1 a'->K .normal a' cs w')->wpOpsS P ops K (List.range' i l.length) a cs w
 | [],al,i,_,hc,e,H,e1,H1,hr,Z,σ,a,w,hW,hF,hK=>by
  simp only[CB,AD]at hc
  subst hc
  simp only[YR,AD,Ao]at hr
  obtain⟨rfl,rfl⟩:=hr
  exact hK σ a w (Nw.refl _ _) (A4 _) hW hF
 | o::l,al,i,hd,hc,e,H,e1,H1,hr,Z,σ,a,w,hW,hF,hK=>by
  simp only[CB]at hc
  split at hc<;>(try (cases hc;done))
  rename_i x xs hx hxs
  simp only[AD]at hc
  subst hc
  obtain⟨k1,d1,n1,g1⟩:=CV hx
  simp only[YR]at hr
  split at hr<;>(try (cases hr;done))
  rename_i hgd
  split at hr<;>(try (cases hr;done))
  rename_i v H2 hone
  have w1:o.guard=none:=by rcases g1 with⟨h1,_⟩ | ⟨_,_,_,_,h2,_⟩;exact h1;rw[hgd]at h2;cases h2
  obtain⟨cv,w',σ',hrun,hN,hW',hv⟩:=QJ k1 hW hF.er hone
  have hle:H.next<=H2.next:=Mx hone
  have hget:ops[i]?=some o:=by
   have:=congrArg (·[0]?) hd
   simpa using this
  have hd':ops.toList.drop (i+1)=l:=by
   have:=congrArg (List.drop 1) hd
   simpa[De,Nat.add_comm]using this
  have hF':=(hF.mono (CO.refl _) (hW.sle hN)).put hn (d:=x.dst) (fun y hy=>n1 y (by rw[<- d1];exact hy)) hv
  rw[d1]at hF'
  rw[d1]at hr
  have ih:=T8 hn (K:=K) (cs:=cs) l xs (i+1) hd' hxs _ _ _ _ hr Z σ' (a.put o.dst cv) w' hW' hF' fun σ2 a2 w2 q1 q2 q3 q4=>hK σ2 a2 w2 (hN.trans q1 hle) (Cq hle q2) q3 q4
  rw[Be,Ov]
  rw[wpOpsS,hget]
  simp only[Region.wanted,w1,if_true]
  rcases hrun with hrun | ⟨hrun,rfl⟩
  ·simp only[hrun,Oper.upon_value];exact ih
  ·simp only[hrun,Oper.upon_skip];exact ih
theorem YW {g:FuncId}{fn:Func}{c:Code}{hs:Hints}{rest:Ay}{ra:Nat}{l:List A_}{all:List AV}{m:Option AV}{H H1:AH}{e1:Env}{post:AH->Prop}(hmix:P.follows .mixedOrders=true) (hf:P.funcs[g]?=some fn)
  (Dh:fn.name≠"runtime.NumGoroutine") (hb:fn.body=some c) (hn:fn.ntmps<=AM) (hlen:all.length<=fn.ntmps)
  (hc:comp P hs fn.ntmps c=some (.seq (.reg (⟨some ra,.recover,none⟩::l)) rest)) (hr:fn.results=#[])
  (hrun:YR l ((CH all).set ra (Mv m)) H=some (e1,H1))
  (h:D P rest (fun x e H'=>e AM=.tup []/\(match x with | .normal | .ret=>post H' | _=>False)) e1 H1):FO P g all m H post:=by
 refine FO.Vf ⟨fn,hf,Dh,by rw[hb];rfl⟩ fun Z σ w vs u hO hW hv hu=>callsD_of_wpS hf hb ?_
 intro c₀ cs hmode
 have hfr:FR Z σ fn.ntmps (CH all) { tmps:=vs.toArray++Array.replicate (fn.ntmps-vs.toArray.size) undef,defers:=[] }:=MF hv hlen hn
 generalize ({ tmps:=vs.toArray++Array.replicate (fn.ntmps-vs.toArray.size) undef,defers:=[] }:Act)=a0 at hfr
 obtain⟨c1,c2,rfl,Sn,Ub⟩:=Dc hc
 refine wpS_seq ?_
 obtain⟨id,ops,rfl,hal⟩:=MH Sn
 obtain⟨o1,ol,hops,q1,q2⟩:∃o1 ol,ops.toList=o1::ol/\Di P fn.ntmps ops o1=some ⟨some ra,.recover,none⟩/\CB P fn.ntmps ops ol=some l:=by
  cases hl:ops.toList with
  | nil=>rw[hl]at hal;simp[CB]at hal
  | cons o1 t=>
   rw[hl]at hal
   simp only[CB]at hal
   split at hal<;>(try (cases hal;done))
   rename_i x xs hx hxs
   simp only[AD,Ny]at hal
   obtain⟨rfl,rfl⟩:=hal
   exact⟨o1,t,rfl,hx,hxs⟩
 obtain⟨k1,d1,n1,g1⟩:=CV q1
 have w1:o1.guard=none:=by rcases g1 with⟨h1,_⟩ | ⟨_,_,_,_,h2,_⟩;exact h1;cases h2
 obtain⟨args,ats,ho1⟩:=C2 k1
 have e1':(execOp a0.eval o1).run P w=.ok .recover w:=by rw[Db ho1];simp[builtin]
 have mv:∀(rv:Value) (cs':List Frame),(∃u',cs'={ c₀ with mode:=u' }::cs/\settle u'=.returning)->VR Z σ (Mv m) rv ->
   wpOpsS P ops (Exit.thenS (c2.wpS P (bodyPostS P fn c₀ cs (fun e u' w'=>∃v Z' σ' H',e=.returned v/\settle u'=.returning/\CO Z Z'/\Nw σ H.next σ'/\H.next<=H'.next/\WR Z' σ' H' w'/\post H')))
    (bodyPostS P fn c₀ cs (fun e u' w'=>∃v Z' σ' H',e=.returned v/\settle u'=.returning/\CO Z Z'/\Nw σ H.next σ'/\H.next<=H'.next/\WR Z' σ' H' w'/\post H'))) (List.range' 1 ol.length) (a0.put o1.dst rv) cs' w:=by
  rintro rv cs' ⟨u',rfl,hset⟩ hrv
  have f1:=hfr.put hn (d:=some ra) (fun x hx=>n1 x (by rw[<- d1];exact hx)) hrv
  rw[show o1.dst=some ra from d1.symm]
  refine T8 hn ol l 1 (by rw[hops];rfl) q2 _ H e1 H1 hrun Z σ _ w hW f1 fun σ1 a1 w1' hN hle hW1 hF1=>?_
  refine wpS_of_wp ?_
  refine Code.wp_mono ?_ (TG hmix hn c2 _ Ub Z σ1 H1 _ _ w1' Z σ1 H1.next _ hO (CO.refl _) (Nw.refl _ _) (A4 _) hW1 hF1 h)
  intro ex a' w' hq
  obtain⟨Z',σ',z,e',H',p1,p2,p3,p4,p5,p6,p7,p8⟩:=hq
  have hd:a'.defers=[]:=by
   obtain⟨l,k1,k2⟩:=p5.ds
   rw[p7]at k1;simp only[AV.tup.injEq]at k1;subst k1
   generalize a'.defers=dd at k2
   cases k2;rfl
  have hres:(results fn a'.tmps).run P w'=.ok (.tuple #[]) w':=by simp[results,hr]
  have hN2:Nw σ H.next σ':=hN.trans p2 hle
  have hle2:H.next<=H'.next:=Cq hle p3
  cases z with
  | normal=>cases p6;exact⟨hd,u',rfl,_,hres,_,Z',σ',H',rfl,hset,p1,hN2,hle2,p4,p8⟩
  | ret=>cases p6;exact⟨hd,u',rfl,_,hres,_,Z',σ',H',rfl,hset,p1,hN2,hle2,p4,p8⟩
  | Bd v=>exact p8.elim
  | exit i=>exact p8.elim
 refine wpS_region ?_
 have hsz:ops.size=ol.length+1:=by rw[<- Fe,hops,Be]
 rw[hsz,List.range_eq_range',Ov]
 rw[wpOpsS]
 have h0:ops[0]?=some o1:=by rw[<- HY,hops];rfl
 rw[h0]
 simp only[Region.wanted,w1,if_true,e1']
 cases m with
 | none=>
  have hu:u=.returning:=hu
  have:recoverD (c₀::cs)=none:=by simp[recoverD,hmode,hu]
  rw[this]
  exact mv .nilIface _ ⟨.returning,by rw[<- hu,<- hmode],rfl⟩ .nili
 | some v=>
  obtain⟨cv,hu,hcv⟩:=hu
  have:recoverD (c₀::cs)=some (cv,{ c₀ with mode:=.panicking [{ v:=cv,recovered:=true }] }::cs):=by simp[recoverD,hmode,hu]
  rw[this]
  exact mv cv _ ⟨_,rfl,rfl⟩ hcv
theorem FO.scope {g:FuncId}{all:List AV}{m:Option AV}{H:AH}{post:AH->Prop}(h:FO P g all m H post) (hp:∀H',post H'->∀r,r<H.next->H'.get r=H.get r):FO P g all m H fun H'=>H'=H:=by
 refine⟨h.1,fun Z σ w vs u hW hv hu=>(h.2 Z σ w vs u hW hv hu).mono fun x u' w' hx=>?_⟩
 obtain⟨v,Z',σ',H',e1,e2,g1,g2,g3,g4,g5⟩:=hx
 have hk:=hp H' g5
 have hall:∀r o p,r<H.next->H'.get r=some o->σ' r=some p->ku H.next o:=by
  intro r o p hr ho hp
  rw[hk r hr]at ho
  have hp':σ r=some p:=by rw[<- g2 r hr];exact hp
  have:=(hW.h r o p ho hp').2
  cases this with
  | cells hb hs' hf hl hv h1=>exact LC hW.fresh hv
  | map hb hn he=>
   intro e hm
   obtain⟨i,hi⟩:=DC hm
   obtain⟨m,q1,q2,q3,q4⟩:=he i e.1 e.2.1 e.2.2 hi
   exact⟨Jt hW.fresh q2,Jt hW.fresh q3⟩
  | iter hb h0 hm hs' hc=>
   intro r' hr'
   rcases hm with⟨hm,_⟩ | ⟨r2,q,h1,h2,_⟩
   ·rw[hm]at hr';cases hr'
   ·rw[h1]at hr';cases hr'
    rcases CT r' H.next with hlt | hge
    ·exact hlt
    ·have:=hW.fresh r' hge;rw[h2]at this;cases this
 refine⟨v,Me Z' σ' H' H.next w',Hy H.next σ',H'.cut H.next H.gl,e1,e2,g1.trans (Lx g4),fun r hr=>?_,A4 _,g4.bh hall (fun b o hb=>⟨g1.le _ _ (hW.rest.2.2 b o hb).1,(hW.rest.2.2 b o hb).2⟩),AH.bg hW.top hk⟩
 simp only[Hy,hr,if_true];exact g2 r hr
variable [BQ]
def iV (call:Ag) (l:List (Ay × HT)) (K:EK):EK:=List.rec (motive:=fun _=>EK) K (fun p _ ih=>run call p.1 p.2 ih (fun _=>KK) KK) l
def dR (l:List (Ay × HT)) (c:Ay):Ay:=List.rec (motive:=fun _=>Ay) c (fun p _ ih=>.seq p.1 ih) l
theorem Pj {call:Ag}{n:Nat}{hs:Hints}{v:AV}{hv:KH}{Q:Ex->Env->AH->Prop}{a:Ay}(hC:AT P call) (hmix:P.follows .mixedOrders=true) (hn:n<=AM):∀(pre:List (Ay × HT)) (c:Code) (K:EK) (e:Env) (h:KH),
  comp P hs n c=some (dR pre a)->e AM=.tup []->iV call pre K e h=.ret v hv->(∀c' e' h',comp P hs n c'=some a->e' AM=.tup []->K e' h'=.ret v hv->DS P n c' Q e' (Ah h'))->DS P n c Q e (Ah h)
 | [],c,K,e,h,hc,hd,hr,hK=>hK c e h hc hd hr
 | p::pre,c,K,e,h,hc,hd,hr,hK=>by
  have hb:KC.ret v hv≠.bad:=by intro x;cases x
  have hnb:∀{x:KC},x=KC.bad->x=.ret v hv->False:=fun h1 h2=>by rw[h1]at h2;cases h2
  obtain⟨c0,c',rfl,Uc,hc'⟩:=Dc (show comp P hs n c=some (.seq p.1 (dR pre a))from hc)
  refine CQ.seq (CQ.post ?_ (J2 hC hmix hn hb c0 p.1 Uc p.2 _ _ _ e h hd hr))
  rintro z e1 H1 ⟨hd1,h1',rfl,hz⟩
  refine BB ?_
  cases z with
  | exit i=>exact(hnb rfl hz).elim
  | ret=>exact(hnb rfl hz).elim
  | Bd v=>cases hz
  | normal=>exact Pj hC hmix hn pre c' K e1 h1' hc' hd1 hz hK
def fj (np:Nat) (q:List CZ) (pre:List (Ay × HT)) (a3:Ay) (t:Nat) (g:FuncId) (cp:List AE) (t3:HT):Ag->List AV->KH->KC:=fun call zs h=>
 X_ (L8 np 0 A5 zs h fun e h=>iV call pre (fun e h=>runM PY call a3 t3 (IS q) (fun _=>KK) (IS q) (e.set t (.fn (.func g) [] (Fy e cp))) h) e h)
theorem UP {f g:FuncId}{n np t:Nat}{q:List CZ}{pre:List (Ay × HT)}{a3:Ay}{cp:List AE}{t3:HT}
  (hF:MT P f n (dR pre (.seq (.reg [⟨some t,.mkFunc (.func g) [] cp,none⟩,⟨none,.defer (.tmp t) [],none⟩]) a3)) q)
  (ht:Nat.ble (t+1) AM=true) (ho:FN a3=true) (hro:Hg a3=true) (hq:Wu q=true) (hnp:Nat.ble np n=true) (hA:∀all H,all.length=cp.length->FO P g all none H fun H'=>H'=H) {F:GF} (hf:F=fj np q pre a3 t g cp t3):Ax P f F:=by
 subst hf
 intro call hC zs h
 have hnp:=Aa hnp
 have ht:=Aa ht
 refine⟨fun v hv hr=>?_,fun v hv hr=>?_⟩
 ·obtain⟨r,hr'⟩:∃r,r=L8 np 0 A5 zs h fun e h=>iV call pre (fun e h=>runM PY call a3 t3 (IS q) (fun _=>KK) (IS q) (e.set t (.fn (.func g) [] (Fy e cp))) h) e h:=⟨_,rfl⟩
  have hr:X_ r=.ret v hv:=by rw[hr'];exact hr
  have hrv:r=.ret v hv:=by
   cases r with
   | ret v' h'=>exact hr
   | Bd v' h'=>cases hr
   | bad=>cases hr
  subst hrv
  have hb:KC.ret v hv≠.bad:=by intro x;cases x
  have hnb:∀{x:KC},x=KC.bad->x=.ret v hv->False:=fun h1 h2=>by rw[h1]at h2;cases h2
  obtain⟨h1,e,h2,h3⟩:=Ht hb np 0 A5 zs hr'.symm
  have hle:=hF.le
  have he:e=CH zs:=by
   funext t
   rw[h3,CH,A5,Ci,Cm]
   by_cases c1:t=AM
   ·subst c1
    rw[if_neg (by omega),if_pos rfl,if_pos rfl]
   ·rw[if_neg c1,if_neg c1]
    by_cases c2:t<np
    ·rw[if_pos (by omega)];rfl
    ·rw[if_neg (by omega),Ac,BT (by omega)];rfl
  subst he
  refine hF.br (by omega) fun c hs hc=>?_
  refine Pj (a:=.seq (.reg [⟨some t,.mkFunc (.func g) [] cp,none⟩,⟨none,.defer (.tmp t) [],none⟩]) a3) hC hF.mix hle pre c _ _ h hc (by simp[CH]) h2 fun c'' e2 h2' hc'' hd2 hz=>?_
  obtain⟨cd,c3,rfl,hcd,Py⟩:=Dc hc''
  refine CQ.seq (CQ.Z9 hF.mix hle hcd (.inl rfl) (Gs ?_))
  refine Fb rfl (GR (k:=.mkFunc (.func g) [] cp) (v:=(.fn (.func g) [] (cp.map (·.ev e2)),Ah h2')) rfl (by simp[A6,AJ]) ?_)
  have hne:t≠AM:=by omega
  have hd3:(e2.put (some t) (.fn (.func g) [] (cp.map (·.ev e2)))) AM=.tup []:=by
   rw[B2 (fun h=>hne (by cases h;rfl))];exact hd2
  have hev:(AE.tmp t).ev (e2.put (some t) (.fn (.func g) [] (cp.map (·.ev e2))))=.fn (.func g) [] (cp.map (·.ev e2)):=by simp[AE.ev,Env.put,Env.AN]
  refine Td (args:=[]) hev hd3 ?_
  refine Uv (Fj ?_)
  have hz:runM PY call a3 t3 (IS q) (fun _=>KK) (IS q) (e2.set t (.fn (.func g) [] (Fy e2 cp))) h2'=.ret v hv:=hz
  rw[GI]at hz
  refine CQ.post ?_ (Kl hC T_ hF.mix hle c3 a3 Py ho (fun ds=>ds=[.tup [.fn (.func g) [] [],.tup (cp.map (·.ev e2))]]) none (.inl hro) _ t3 _ _ _ _ h2' _ hb rfl hd3 hz)
  rintro z E3 H3 ⟨e3,_,rfl,rfl,hd3',h3',rfl,hz⟩
  have fin:IS q e3 h3'=.ret v hv->FO P g (cp.map (·.ev e2)) none (Ah h3') fun H'=>match DU (Bw (.tup [.tup [.fn (.func g) [] [],.tup (cp.map (·.ev e2))]]) e3) H' q with
    | some vs=>Al.ret (Im vs)=.ret v/\H'=Ah hv
    | none=>False:=fun hk=>by
   obtain⟨l,k1,k2⟩:=Hs hb hk
   cases k2
   refine(hA (cp.map (·.ev e2)) _ (Au ..)).mono fun H' hH=>?_
   subst hH
   rw[F4 q hq,k1]
   exact⟨rfl,rfl⟩
  refine BB ?_
  cases z with
  | exit i=>exact(hnb rfl hz).elim
  | Bd v=>cases hz
  | normal=>exact⟨g,_,none,Cs _ _,rfl,fin hz⟩
  | ret=>exact⟨g,_,none,Cs _ _,rfl,fin hz⟩
 ·exfalso
  have hr:X_ _=KC.Bd v hv:=hr
  revert hr
  generalize (L8 np 0 A5 zs h _:KC)=r
  intro hr
  cases r<;>cases hr
def Zn:Nat->Ay->List Ay
 | 0,_=>[]
 | k+1,ac=>lV ac::Zn k (OI ac)
def PL:Nat->Ay->Ay
 | 0,ac=>ac
 | k+1,ac=>PL k (OI ac)
theorem UQ {f g:FuncId}{fn:Func}{n np t:Nat}{hs:Hints}{q:List CZ}{cp:List AE}(ts:List HT){t3:HT}{F:GF}(hmix:P.follows .mixedOrders=true) (hf:P.funcs[f]?=some fn) (Dh:(fn.name=="runtime.NumGoroutine")=false)
  (hn:fn.ntmps=n) (hb:(fn.body.bind (comp P hs n)).isSome=true) (hr:F_ P fn.results.toList=some q) (hle:Nat.ble n AM=true)
  (hsh:EY P fn hs n=dR ((Zn ts.length (EY P fn hs n)).zip ts) (.seq (.reg [⟨some t,.mkFunc (.func g) [] cp,none⟩,⟨none,.defer (.tmp t) [],none⟩]) (OI (PL ts.length (EY P fn hs n)))))
  (ht:Nat.ble (t+1) AM=true) (ho:FN (OI (PL ts.length (EY P fn hs n)))=true) (hro:Hg (OI (PL ts.length (EY P fn hs n)))=true) (hq:Wu q=true) (hnp:Nat.ble np n=true)
  (hA:∀all H,all.length=cp.length->FO P g all none H fun H'=>H'=H) (hF:F=fj np q ((Zn ts.length (EY P fn hs n)).zip ts) (OI (PL ts.length (EY P fn hs n))) t g cp t3):Ax P f F:=by
 obtain⟨ac,hac⟩:=E9.1 hb
 have e:EY P fn hs n=ac:=by unfold EY;rw[hac]
 rw[e]at hsh ho hro hF
 have hfun:MT P f n ac q:=MT.mk' hmix hf Dh hn hac hr hle
 rw[hsh]at hfun
 exact UP hfun ht ho hro hq hnp hA hF
end
end
end Go.AL
