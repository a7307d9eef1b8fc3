import Derived.Test.YtdandeekdbndgaaGreatDoorZb02
/-
  what code asks, as printed propositions.
-/
namespace Go.AL
noncomputable def gndP (e:Env) (ps:List (Nat × Nat × AOpd)):List (Nat × Nat × AOpd):=List.rec (motive:=fun _=>List (Nat × Nat × AOpd)) [] (fun p _ ih=>(p.1,p.2.1,.cst (p.2.2.ev e))::ih) ps
theorem gndP_eq (e:Env):∀(ps:List (Nat × Nat × AOpd)) (c:List AV),afill emp c (gndP e ps)=afill e c ps
 | [],c=>rfl
 | (o,n,x)::ps,c=>by
  show afill emp c ((o,n,.cst (x.ev e))::gndP e ps)=_
  simp only[afill,AOpd.ev,gndP_eq e ps]
noncomputable def kgndA (e:Env) (k:AK):AK:=match k with
 | .move x=>.move (gnd e x)
 | .pick c a b=>.pick (gnd e c) (gnd e a) (gnd e b)
 | .build z ps=>.build z (gndP e ps)
 | .nilCheck x=>.nilCheck (gnd e x)
 | .bin op x y=>.bin op (gnd e x) (gnd e y)
 | .convI k x=>.convI k (gnd e x)
 | .mkIface t x=>.mkIface t (gnd e x)
 | .fieldAddr off x=>.fieldAddr off (gnd e x)
 | .field g off x=>.field g off (gnd e x)
 | .indexAddrA n z x i=>.indexAddrA n z (gnd e x) (gnd e i)
 | .indexAddrS z x i=>.indexAddrS z (gnd e x) (gnd e i)
 | .extract i x=>.extract i (gnd e x)
 | .len x=>.len (gnd e x)
 | .load g x=>.load g (gnd e x)
 | .box x=>.box (gnd e x)
 | .buildSlice z n c ps=>.buildSlice z n c (gndP e ps)
 | .store n x v=>.store n (gnd e x) (gnd e v)
 | .append z b s x=>.append z b (gnd e s) (gnd e x)
 | k=>kgnd e k
inductive PCl where
 | mv (x:AOpd)
 | ifc (t:TypeId) (x:AOpd)
 | fnc (f:Fn) (a b:List AOpd)
 | call (f:AOpd) (args:List AOpd)
 | pan (x:AOpd)
 | no
 | pu
 | rd
 | ef
def pcl (k:AK):PCl:=match k with
 | .move x=>.mv x
 | .mkIface t x=>.ifc t x
 | .mkFunc f a b=>.fnc f a b
 | .call f args=>.call f args
 | .panic x=>.pan x
 | .defer _ _=>.no
 | .recover=>.no
 | .load .. | .strOfBytes _ | .lookup .. | .lenMap _=>.rd
 | .alloc _ | .box _ | .buildSlice .. | .mkSlice .. | .store .. | .append .. | .mark _ | .appendZ .. | .makeMap | .mapUpd ..=>.ef
 | _=>.pu
noncomputable def y_pu (k:AK) (K:AV→Prop):Prop:=Option.rec (motive:=fun _=>Prop) False K (apure k emp)
noncomputable def y_rd (k:AK) (H:AH) (K:AV→Prop):Prop:=Option.rec (motive:=fun _=>Prop) False K (aread k emp H)
noncomputable def y_ef (k:AK) (H:AH) (K:AV→AH→Prop):Prop:=Option.rec (motive:=fun _=>Prop) False (fun p=>Prod.rec (motive:=fun _=>Prop) K p) (aeff k emp H)
def y_call (P:Program) (g:FuncId) (as:List AV) (H:AH) (Kp K:AV→AH→Prop):Prop:=ACall P g as H fun o H'=>match o with
 | .ret v=>K v H'
 | .pan v=>Kp v H'
noncomputable def y_cl (P:Program) (fv:AV) (as:List AV) (H:AH) (Kp K:AV→AH→Prop):Prop:=
 FP.rec (motive:=fun _=>Prop) False (fun g first cap=>y_call P g (kapp first (kapp as cap)) H Kp K) (toFP fv)
def y_pan (v:AV) (H:AH) (Kp:AV→AH→Prop):Prop:=match v with
 | .ifc t v=>Kp (.ifc t v) H
 | _=>False
def y_gd (w:Bool) (v:AV) (A B:Prop):Prop:=match agd v with
 | some b=>(b=some w→A)∧(b≠some w→B)
 | none=>False
def y_grp {T:Type}(w:Bool) (v:AV) (J:T) (A B:T→Prop):Prop:=y_gd w v (A J) (B J)
def y_if0 (v:AV) (A B:Prop):Prop:=match v with
 | .bool t=>(t=true→A)∧(t=false→B)
 | _=>False
def y_if {T:Type}(v:AV) (J:T) (A B:T→Prop):Prop:=y_if0 v (A J) (B J)
def y_blk {T:Type}(J:T) (A:T→Prop):Prop:=A J
abbrev PK:=Env→AH→Prop
def JP (l:List Nat):Type:=List.rec (motive:=fun _=>Type) (AH→Prop) (fun _ _ t=>AV→t) l
def JN (l:List Nat):Type:=List.rec (motive:=fun _=>Type) (AH→Nat) (fun _ _ t=>AV→t) l
noncomputable def ncall (l:List Nat):JN l→Env→AH→Nat:=
 List.rec (motive:=fun l=>JN l→Env→AH→Nat) (fun J _ h=>J h) (fun i _ ih J e h=>ih (J (e i)) e h) l
noncomputable def pcall0 (l:List Nat):JP l→PK:=
 List.rec (motive:=fun l=>JP l→PK) (fun J _ h=>J h) (fun i _ ih J e h=>ih (J (e i)) e h) l
noncomputable def plam0 (l:List Nat):Env→PK→JP l:=
 List.rec (motive:=fun l=>Env→PK→JP l) (fun e0 f h=>f e0 h) (fun i _ ih e0 f v=>ih (e0.set i v) f) l
def y_loop (l:List Nat) (body:JP l→JP l) (e:Env) (H:AH):Prop:=∃(I:JP l) (μ:JN l),pcall0 l I e H∧∀e H,pcall0 l I e H→pcall0 l (body (plam0 l emp fun e' H'=>pcall0 l I e' H'∧ncall l μ e' H'<ncall l μ e H)) e H
noncomputable def yTop:Nat:=
 let _a:=@y_loop
 let _b:=@y_if Nat
 let _c:=@y_grp Nat
 let _d:=@y_blk Nat
 let _e:=y_cl
 let _f:=y_pan
 let _g:=y_pu
 let _h:=y_rd
 let _i:=y_ef
 0
noncomputable def pcall (l:List Nat):JP l→PK:=
 (fun(_:Nat)=>(List.rec (motive:=fun l=>JP l→PK) (fun J _ h=>J h) (fun i _ ih J e h=>ih (J (e i)) e h) l:JP l→PK)) yTop
noncomputable def plam (l:List Nat):Env→PK→JP l:=
 (fun(_:Nat)=>(List.rec (motive:=fun l=>Env→PK→JP l) (fun e0 f h=>f e0 h) (fun i _ ih e0 f v=>ih (e0.set i v) f) l:Env→PK→JP l)) yTop
theorem pcall_plam:∀(l:List Nat) (e0:Env) (f:PK) (e:Env) (h:AH),pcall l (plam l e0 f) e h=f (kset l e e0) h
 | [],_,_,_,_=>rfl
 | i::l,e0,f,e,h=>by
  show pcall l (plam l (e0.set i (e i)) f) e h=_
  rw[pcall_plam l];rfl
noncomputable def paop (P:Program) (k:AK) (e:Env) (H:AH) (Kp K:AV→AH→Prop):Prop:=
 (fun(_:Nat)=>PCl.rec (motive:=fun _=>Prop) (fun x=>K (x.ev e) H) (fun t x=>K (.ifc t (x.ev e)) H) (fun f a b=>K (.fn f (kevs e a) (kevs e b)) H) (fun f args=>y_cl P (f.ev e) (kevs e args) H Kp K) (fun x=>y_pan (x.ev e) H Kp) False
  (y_pu (kgndA e k) fun v=>K v H) (y_rd (kgndA e k) H fun v=>K v H) (y_ef (kgndA e k) H K) (pcl k)) yTop
theorem y_pu_inv {k:AK}{K:AV→Prop}(h:y_pu k K):∃v,apure k emp=some v∧K v:=by
 unfold y_pu at h
 cases hk:apure k emp with
 | none=>rw[hk]at h;exact h.elim
 | some v=>rw[hk]at h;exact⟨v,rfl,h⟩
theorem y_rd_inv {k:AK}{H:AH}{K:AV→Prop}(h:y_rd k H K):∃v,aread k emp H=some v∧K v:=by
 unfold y_rd at h
 cases hk:aread k emp H with
 | none=>rw[hk]at h;exact h.elim
 | some v=>rw[hk]at h;exact⟨v,rfl,h⟩
theorem y_ef_inv {k:AK}{H:AH}{K:AV→AH→Prop}(h:y_ef k H K):∃v H',aeff k emp H=some (v,H')∧K v H':=by
 unfold y_ef at h
 cases hk:aeff k emp H with
 | none=>rw[hk]at h;exact h.elim
 | some p=>rw[hk]at h;exact⟨p.1,p.2,rfl,h⟩
theorem kgndA_pu (e:Env) (k:AK) (hk:pcl k=.pu):apure (kgndA e k) emp=apure k e:=by
 cases k<;>first
  | (cases hk;done)
  | rfl
  | (simp only[apure,kgndA,gndP_eq];done)
  | (simp only[apure,kgndA,kgnd,gndO_eq];rfl)
theorem kgndA_rd (e:Env) (H:AH) (k:AK) (hk:pcl k=.rd):aread (kgndA e k) emp H=aread k e H∧apure k e=none:=by
 cases k<;>first
  | (cases hk;done)
  | exact⟨rfl,rfl⟩
theorem kgndA_ef (e:Env) (H:AH) (k:AK) (hk:pcl k=.ef):aeff (kgndA e k) emp H=aeff k e H∧apure k e=none∧aread k e H=none:=by
 cases k<;>first
  | (cases hk;done)
  | exact⟨rfl,rfl,rfl⟩
  | (refine⟨?_,rfl,rfl⟩;simp only[aeff,kgndA,gndP_eq];done)
theorem aop_mono {P:Program}{k:AK}{e:Env}{H:AH}{K1 K2 Kp1 Kp2:AV→AH→Prop}(hk:∀v H',K1 v H'→K2 v H') (hp:∀v H',Kp1 v H'→Kp2 v H') (ha:aop P k e H K1 Kp1):aop P k e H K2 Kp2:=by
 unfold aop at ha ⊢
 split at ha
 ·unfold ACallV at ha ⊢
  split at ha
  ·exact ha.mono fun o H' hq=>by cases o with
    | ret v=>exact hk _ _ hq
    | pan v=>exact hp _ _ hq
  ·exact ha
 ·split at ha
  ·exact hp _ _ ha
  ·exact ha
 ·exact ha
 ·exact ha
 ·split at ha
  ·exact hk _ _ ha
  ·exact ha
theorem paop_one {P:Program}{k:AK}{e:Env}{H:AH}{Kp K:AV→AH→Prop}(hp:k.plain=true) (h:paop P k e H Kp K):∃v H',aone k e H=some (v,H')∧K v H':=by
 have h:PCl.rec (motive:=fun _=>Prop) (fun x=>K (x.ev e) H) (fun t x=>K (.ifc t (x.ev e)) H) (fun f a b=>K (.fn f (kevs e a) (kevs e b)) H) (fun f args=>y_cl P (f.ev e) (kevs e args) H Kp K) (fun x=>y_pan (x.ev e) H Kp) False
  (y_pu (kgndA e k) fun v=>K v H) (y_rd (kgndA e k) H fun v=>K v H) (y_ef (kgndA e k) H K) (pcl k):=h
 cases hc:pcl k with
 | mv x=>
  rw[hc]at h
  cases k<;>(try (cases hc;done))<;>(try (simp[pcl]at hc;done))
  simp only[pcl,PCl.mv.injEq]at hc;subst hc
  exact⟨_,_,rfl,h⟩
 | ifc t x=>
  rw[hc]at h
  cases k<;>(try (cases hc;done))<;>(try (simp[pcl]at hc;done))
  simp only[pcl,PCl.ifc.injEq]at hc;obtain⟨rfl,rfl⟩:=hc
  exact⟨_,_,rfl,h⟩
 | fnc f a b=>
  rw[hc]at h
  cases k<;>(try (cases hc;done))<;>(try (simp[pcl]at hc;done))
  simp only[pcl,PCl.fnc.injEq]at hc;obtain⟨rfl,rfl,rfl⟩:=hc
  exact⟨_,_,by simp only[aone,apure,←kevs_eq],h⟩
 | call f args=>cases k<;>first | (cases hp;done) | (cases hc;done) | (simp[pcl]at hc;done)
 | pan x=>cases k<;>first | (cases hp;done) | (cases hc;done) | (simp[pcl]at hc;done)
 | no=>rw[hc]at h;exact h.elim
 | pu=>
  rw[hc]at h
  obtain⟨v,h1,h2⟩:=y_pu_inv h
  rw[kgndA_pu e k hc]at h1
  exact⟨v,H,by simp only[aone,h1],h2⟩
 | rd=>
  rw[hc]at h
  obtain⟨v,h1,h2⟩:=y_rd_inv h
  obtain⟨g1,g2⟩:=kgndA_rd e H k hc
  rw[g1]at h1
  exact⟨v,H,by simp only[aone,g2,h1],h2⟩
 | ef=>
  rw[hc]at h
  obtain⟨v,H',h1,h2⟩:=y_ef_inv h
  obtain⟨g1,g2,g3⟩:=kgndA_ef e H k hc
  rw[g1]at h1
  exact⟨v,H',by simp only[aone,g2,g3,h1],h2⟩
theorem paop_sound {P:Program}{k:AK}{e:Env}{H:AH}{Kp K:AV→AH→Prop}(h:paop P k e H Kp K):aop P k e H K Kp∧k.isDefer=false:=by
 by_cases hp:k.plain=true
 ·obtain⟨v,H',h1,h2⟩:=paop_one hp h
  exact⟨aop_plain hp h1 h2,plain_nd hp⟩
 ·cases k<;>(try exact absurd rfl hp)
  case call f args=>
   refine⟨?_,rfl⟩
   have h:y_cl P (f.ev e) (kevs e args) H Kp K:=h
   simp only[y_cl,kapp_eq,kevs_eq,←List.append_assoc]at h
   cases hfp:toFP (f.ev e)with
   | no=>rw[hfp]at h;exact h.elim
   | «at» g first cap=>
    rw[hfp]at h
    exact aop_call (toFP_at hfp) rfl h (fun v H' hv=>hv) (fun v H' hv=>hv)
  case panic x=>
   refine⟨?_,rfl⟩
   have h:y_pan (x.ev e) H Kp:=h
   unfold y_pan at h
   split at h
   ·rename_i t v hx
    simp only[aop,hx];exact h
   ·exact h.elim
  case defer f args=>exact(show False from h).elim
  case recover=>exact(show False from h).elim
theorem y_gd_inv {w:Bool}{v:AV}{A B:Prop}(h:y_gd w v A B):∃o,agd v=some o∧(o=some w→A)∧(o≠some w→B):=by
 unfold y_gd at h
 split at h
 ·rename_i b hb;exact⟨b,hb,h.1,h.2⟩
 ·exact h.elim
noncomputable def pseq (P:Program) (Kp:AV→AH→Prop) (ops:List AOper):Env→AH→PK→Prop:=
 List.rec (motive:=fun _=>Env→AH→PK→Prop) (fun e h K=>K e h) (fun o _ ih e h K=>paop P o.k e h Kp fun v h'=>ih (e.put o.dst v) h' K) ops
noncomputable def pgrp (P:Program) (Kp:AV→AH→Prop) (g:Grp) (e:Env) (h:AH) (K:PK):Prop:=Prod.rec (motive:=fun _=>Prop) (fun g ops=>Option.rec (motive:=fun _=>Prop)
  (Bool.rec (motive:=fun _=>Prop) False (pseq P Kp ops e h K) (ops.all (fun o=>o.gd.isNone)))
  (fun p=>Prod.rec (motive:=fun _=>Prop) (fun s w=>Bool.rec (motive:=fun _=>Prop) False (y_grp w (e s) (plam (dsts ops) e K) (fun J=>pseq P Kp ops e h (pcall (dsts ops) J)) (fun J=>pcall (dsts ops) J (fun _=>aud) h)) (ops.all (gSame s w))) p) g) g
noncomputable def pops (P:Program) (Kp:AV→AH→Prop) (gs:List Grp):Env→AH→PK→Prop:=
 List.rec (motive:=fun _=>Env→AH→PK→Prop) (fun e h K=>K e h) (fun g _ ih e h K=>pgrp P Kp g e h fun e' h'=>ih e' h' K) gs
noncomputable def preg (P:Program) (Kp:AV→AH→Prop) (ops:List AOper) (e:Env) (h:AH) (K:PK):Prop:=Bool.rec (motive:=fun _=>Prop) False (pops P Kp (grp ops) e h K) (ops.all dOk)
theorem prec_ok {b:Bool}{x:Prop}(h:Bool.rec (motive:=fun _=>Prop) False x b):b=true∧x:=by
 cases b with
 | true=>exact⟨rfl,h⟩
 | false=>exact h.elim
section
variable {P:Program}{Kp:AV→AH→Prop}{K':Env→AH→Prop}{Kp':AV→Env→AH→Prop}
theorem pseq_sound {s:Nat}{w:Bool}{K:PK}(h2:∀v h,Kp v h→∀e,e dslot=.tup []→Kp' v e h):∀(ops:List AOper) (e:Env) (h:AH),ops.all dOk=true→e dslot=.tup [] →
  (agd (e s)=some (some w)∧ops.all (gSame s w)=true∨ops.all (fun o=>o.gd.isNone)=true)→pseq P Kp ops e h K →
  (∀e' h',(∀t,t ∉ dsts ops→e' t=e t)→e' dslot=.tup []→K e' h'→K' e' h')→aops P ops e h K' Kp'
 | [],e,h,_,hd,_,hr,h1=>h1 e h (fun _ _=>rfl) hd hr
 | o::ops,e,h,ho,hd,hg,hr,h1=>by
  have hr:paop P o.k e h Kp fun v h'=>pseq P Kp ops (e.put o.dst v) h' K:=hr
  simp only[List.all_cons,Bool.and_eq_true]at ho hg
  have hd':∀v,(e.put o.dst v) dslot=.tup []:=fun v=>by rw[put_ne (dOk_spec ho.1)];exact hd
  have go:∀v h',(agd ((e.put o.dst v) s)=some (some w)∧ops.all (gSame s w)=true∨ops.all (fun o=>o.gd.isNone)=true)→pseq P Kp ops (e.put o.dst v) h' K→aops P ops (e.put o.dst v) h' K' Kp':=fun v h' hg' hx=>
   pseq_sound h2 ops (e.put o.dst v) h' ho.2 (hd' v) hg' hx fun e' h'' q1 q2 q3=>h1 e' h'' (fun t ht=>by
    have ht:t ∉ dcons o.dst (dsts ops):=ht
    rw[mem_dcons,not_or]at ht
    rw[q1 t ht.2,put_ne ht.1]) q2 q3
  have mono:(∀v,agd ((e.put o.dst v) s)=some (some w)∧ops.all (gSame s w)=true∨ops.all (fun o=>o.gd.isNone)=true)→aop P o.k e h (fun v H'=>aops P ops (e.put o.dst v) H' K' Kp') (fun v H'=>Kp' v e H'):=fun hg'=>
   aop_mono (fun v H' hx=>go v H' (hg' v) hx) (fun v H' hx=>h2 v H' hx e hd) (paop_sound hr).1
  have nd:=(paop_sound hr).2
  obtain⟨dst,k,gd⟩:=o
  rcases hg with⟨g1,g2,g3⟩ | ⟨g2,g3⟩
  ·obtain⟨rfl,g4⟩:=gSame_spec g2
   exact w_gdO g1 (fun _=>mono fun v=>.inl ⟨by rw[put_ne g4];exact g1,g3⟩) (fun hn=>absurd rfl hn)
  ·simp only[Option.isNone_iff_eq_none]at g2
   subst g2
   exact aops_none nd (mono fun v=>.inr g3)
theorem pops_sound {K:PK}(h1:∀e h,e dslot=.tup []→K e h→K' e h) (h2:∀v h,Kp v h→∀e,e dslot=.tup []→Kp' v e h) :
  ∀(gs:List Grp) (e:Env) (h:AH),(unG gs).all dOk=true→e dslot=.tup []→pops P Kp gs e h K→aops P (unG gs) e h K' Kp'
 | [],e,h,_,hd,hr=>h1 e h hd hr
 | (g,ops)::gs,e,h,ho,hd,hr=>by
  have hr:pgrp P Kp (g,ops) e h fun e' h'=>pops P Kp gs e' h' K:=hr
  change (ops++unG gs).all dOk=true at ho
  rw[List.all_append,Bool.and_eq_true]at ho
  have rest:∀e' h',e' dslot=.tup []→pops P Kp gs e' h' K→aops P (unG gs) e' h' K' Kp':=fun e' h' hd' hx=>pops_sound h1 h2 gs e' h' ho.2 hd' hx
  refine aops_app ops (unG gs) e h ?_
  cases g with
  | none=>
   obtain⟨g1,g2⟩:=prec_ok hr
   exact pseq_sound (s:=0) (w:=true) h2 ops e h ho.1 hd (.inr g1) g2 fun e' h' _ q2 q3=>rest e' h' q2 q3
  | some p=>
   obtain⟨s,w⟩:=p
   obtain⟨g1,g2⟩:=prec_ok hr
   obtain⟨b,k1,k2,k3⟩:=y_gd_inv g2
   by_cases hw:b=some w
   ·subst hw
    refine pseq_sound h2 ops e h ho.1 hd (.inl ⟨k1,g1⟩) (k2 rfl) fun e' h' q1 q2 q3=>rest e' h' q2 ?_
    rw[pcall_plam]at q3
    have:kset (dsts ops) e' e=e':=by
     funext t
     rw[kset_get]
     split
     ·rfl
     ·rename_i hm;exact(q1 t hm).symm
    rw[this]at q3;exact q3
   ·have k3:=k3 hw
    simp only[pcall_plam]at k3
    refine aops_off hw ops e h g1 k1 (rest _ h ?_ k3)
    rw[kset_get,if_neg (dsts_ok ho.1)]
    exact hd
theorem preg_sound {K:PK}(h1:∀e h,e dslot=.tup []→K e h→K' e h) (h2:∀v h,Kp v h→∀e,e dslot=.tup []→Kp' v e h)
  {ops:List AOper} {e:Env} {h:AH} (hd:e dslot=.tup []) (hr:preg P Kp ops e h K):aops P ops e h K' Kp':=by
 obtain⟨g1,g2⟩:=prec_ok hr
 have:=pops_sound h1 h2 (grp ops) e h (by rw[grp_flat];exact g1) hd g2
 rw[grp_flat]at this;exact this
end
end Go.AL
namespace Go.AL
noncomputable def y_nw (k:AK) (H:AH) (K:AV→AH→Prop):Prop:=Option.rec (motive:=fun _=>Prop) False (fun p=>Prod.rec (motive:=fun _=>Prop) (fun c f=>K (f H.next) (H.push (.cells c))) p) (anew k emp)
theorem y_nw_inv {k:AK}{H:AH}{K:AV→AH→Prop}(h:y_nw k H K):∃c f,anew k emp=some (c,f)∧K (f H.next) (H.push (.cells c)):=by
 unfold y_nw at h
 cases hk:anew k emp with
 | none=>rw[hk]at h;exact h.elim
 | some p=>rw[hk]at h;exact⟨p.1,p.2,rfl,h⟩
theorem kgndA_nw (e:Env) (k:AK) (hk:pcl k=.ef):anew (kgndA e k) emp=anew k e:=by
 cases k<;>first
  | (cases hk;done)
  | rfl
  | (simp only[anew,kgndA,gndP_eq];done)
noncomputable def pfree (k:AK) (e:Env) (H:AH) (K:AV→AH→Prop):Prop:=
 (fun(_:Nat)=>PCl.rec (motive:=fun _=>Prop) (fun x=>K (x.ev e) H) (fun t x=>K (.ifc t (x.ev e)) H) (fun f a b=>K (.fn f (kevs e a) (kevs e b)) H) (fun _ _=>False) (fun _=>False) False
  (y_pu (kgndA e k) fun v=>K v H) (y_rd (kgndA e k) H fun v=>K v H) (y_nw (kgndA e k) H K) (pcl k)) yTop
noncomputable def pdact (P:Program) (Kp:AV→AH→Prop) (eff:Bool) (k:AK) (e:Env) (H:AH) (K:AV→AH→Prop):Prop:=
 (fun(_:Nat)=>Bool.rec (motive:=fun _=>Prop) (pfree k e H K) (paop P k e H Kp K) eff) yTop
theorem pfree_inv {k:AK}{e:Env}{H:AH}{K:AV→AH→Prop}(h:pfree k e H K):(∃v,apure k e=some v∧K v H)∨(∃v,apure k e=none∧aread k e H=some v∧aread (kgndA e k) emp H=some v∧K v H∧pcl k=.rd) ∨
  (∃c f,apure k e=none∧aread k e H=none∧anew k e=some (c,f)∧K (f H.next) (H.push (.cells c))):=by
 have h:PCl.rec (motive:=fun _=>Prop) (fun x=>K (x.ev e) H) (fun t x=>K (.ifc t (x.ev e)) H) (fun f a b=>K (.fn f (kevs e a) (kevs e b)) H) (fun _ _=>False) (fun _=>False) False
  (y_pu (kgndA e k) fun v=>K v H) (y_rd (kgndA e k) H fun v=>K v H) (y_nw (kgndA e k) H K) (pcl k):=h
 cases hc:pcl k with
 | mv x=>
  rw[hc]at h
  cases k<;>(try (cases hc;done))<;>(try (simp[pcl]at hc;done))
  simp only[pcl,PCl.mv.injEq]at hc;subst hc
  exact .inl ⟨_,rfl,h⟩
 | ifc t x=>
  rw[hc]at h
  cases k<;>(try (cases hc;done))<;>(try (simp[pcl]at hc;done))
  simp only[pcl,PCl.ifc.injEq]at hc;obtain⟨rfl,rfl⟩:=hc
  exact .inl ⟨_,rfl,h⟩
 | fnc f a b=>
  rw[hc]at h
  cases k<;>(try (cases hc;done))<;>(try (simp[pcl]at hc;done))
  simp only[pcl,PCl.fnc.injEq]at hc;obtain⟨rfl,rfl,rfl⟩:=hc
  exact .inl ⟨_,by simp only[apure,←kevs_eq],h⟩
 | call f args=>rw[hc]at h;exact h.elim
 | pan x=>rw[hc]at h;exact h.elim
 | no=>rw[hc]at h;exact h.elim
 | pu=>
  rw[hc]at h
  obtain⟨v,h1,h2⟩:=y_pu_inv h
  rw[kgndA_pu e k hc]at h1
  exact .inl ⟨v,h1,h2⟩
 | rd=>
  rw[hc]at h
  obtain⟨v,h1,h2⟩:=y_rd_inv h
  obtain⟨g1,g2⟩:=kgndA_rd e H k hc
  exact .inr (.inl ⟨v,g2,by rw[←g1];exact h1,h1,h2,rfl⟩)
 | ef=>
  rw[hc]at h
  obtain⟨c,f,h1,h2⟩:=y_nw_inv h
  obtain⟨_,g2,g3⟩:=kgndA_ef e H k hc
  rw[kgndA_nw e k hc]at h1
  exact .inr (.inr ⟨c,f,g2,g3,h1,h2⟩)
noncomputable def pdseq (P:Program) (Kp:AV→AH→Prop) (its:List DIt):Env→AH→PK→Prop:=
 List.rec (motive:=fun _=>Env→AH→PK→Prop) (fun e h K=>K e h) (fun it _ ih e h K=>pdact P Kp it.eff it.o.k e h fun v h'=>ih (e.put it.o.dst v) h' K) its
noncomputable def pdgrp (P:Program) (Kp:AV→AH→Prop) (g:GrpD) (e:Env) (h:AH) (K:PK):Prop:=Prod.rec (motive:=fun _=>Prop) (fun g its=>Option.rec (motive:=fun _=>Prop)
  (Bool.rec (motive:=fun _=>Prop) False (pdseq P Kp its e h K) (its.all (fun it=>it.o.gd.isNone)))
  (fun p=>Prod.rec (motive:=fun _=>Prop) (fun s w=>Bool.rec (motive:=fun _=>Prop) False (y_grp w (e s) (plam (ddsts its) e K) (fun J=>pdseq P Kp its e h (pcall (ddsts its) J)) (fun J=>pcall (ddsts its) J (fun _=>aud) h)) (its.all (fun it=>gSame s w it.o))) p) g) g
noncomputable def pdops (P:Program) (Kp:AV→AH→Prop) (gs:List GrpD):Env→AH→PK→Prop:=
 List.rec (motive:=fun _=>Env→AH→PK→Prop) (fun e h K=>K e h) (fun g _ ih e h K=>pdgrp P Kp g e h fun e' h'=>ih e' h' K) gs
section
variable {P:Program}{Kp:AV→AH→Prop}{ep:Env}{K':Env→AH→Prop}{Kp':AV→Env→AH→Prop}
theorem pdact_sound {i pre:Nat}{d:Option Nat}{k:AK}{eff:Bool}{l:List DIt}{e:Env}{h:AH}{pend:Pend}{K:AV→AH→Prop}(hr:pdact P Kp eff k e h K)
  (h1:∀v h' pend',K v h'→adops P ep K' Kp' l (e.put d v) h' pend') (h2:∀v h',Kp v h'→Kp' v ep h'):adops P ep K' Kp' (⟨i,⟨d,k,none⟩,pre,[],eff⟩::l) e h pend:=by
 cases eff with
 | true=>exact p_eff (aop_mono (fun v H' hk=>⟨trivial,h1 v H' pend hk⟩) (fun v H' hk=>h2 v H' hk) (paop_sound hr).1)
 | false=>
  rcases pfree_inv hr with⟨v,g1,g2⟩ | ⟨v,g0,g1,_,g2,_⟩ | ⟨c,f,g0,g1,g2,g3⟩
  ·exact p_pure g1 (h1 v h pend g2)
  ·exact p_read g0 g1 (h1 v h _ g2)
  ·exact p_new g0 g1 g2 (h1 _ _ _ g3)
theorem pdseq_sound {s:Nat}{w:Bool}{K:PK}{rest:List DIt}(h2:∀v h,Kp v h→Kp' v ep h):∀(its:List DIt) (e:Env) (h:AH) (pend:Pend),its.all fOk=true→e dslot=.tup [] →
  (agd (e s)=some (some w)∧its.all (fun it=>gSame s w it.o)=true∨its.all (fun it=>it.o.gd.isNone)=true)→pdseq P Kp its e h K →
  (∀e' h' pend',(∀t,t ∉ ddsts its→e' t=e t)→e' dslot=.tup []→K e' h'→adops P ep K' Kp' rest e' h' pend')→adops P ep K' Kp' (its++rest) e h pend
 | [],e,h,pend,_,hd,_,hr,h1=>h1 e h pend (fun _ _=>rfl) hd hr
 | it::its,e,h,pend,ho,hd,hg,hr,h1=>by
  have hr:pdact P Kp it.eff it.o.k e h fun v h'=>pdseq P Kp its (e.put it.o.dst v) h' K:=hr
  simp only[List.all_cons,Bool.and_eq_true]at ho hg
  obtain⟨ho1,ho2⟩:=ho
  simp only[fOk,Bool.and_eq_true]at ho1
  have hd':∀v,(e.put it.o.dst v) dslot=.tup []:=fun v=>by rw[put_ne (dOk_spec ho1.1)];exact hd
  have go:∀v h' pend',(agd ((e.put it.o.dst v) s)=some (some w)∧its.all (fun it=>gSame s w it.o)=true∨its.all (fun it=>it.o.gd.isNone)=true)→pdseq P Kp its (e.put it.o.dst v) h' K→adops P ep K' Kp' (its++rest) (e.put it.o.dst v) h' pend':=fun v h' pend' hg' hx=>
   pdseq_sound h2 its (e.put it.o.dst v) h' pend' ho2 (hd' v) hg' hx fun e' h'' pend'' q1 q2 q3=>h1 e' h'' pend'' (fun t ht=>by
    have ht:t ∉ dcons it.o.dst (ddsts its):=ht
    rw[mem_dcons,not_or]at ht
    rw[q1 t ht.2,put_ne ht.1]) q2 q3
  obtain⟨i,⟨dst,k,gd⟩,pre,fl,eff⟩:=it
  have hfl:=ho1.2
  simp only[List.isEmpty_iff]at hfl
  subst hfl
  rcases hg with⟨g1,g2,g3⟩ | ⟨g2,g3⟩
  ·obtain⟨hh,g4⟩:=gSame_spec g2
   simp only at hh g4
   subst hh
   exact p_gdO g1 (fun _=>pdact_sound hr (fun v h' pend' hx=>go v h' pend' (.inl ⟨by simp only;rw[put_ne g4];exact g1,g3⟩) hx) h2) (fun hn=>absurd rfl hn)
  ·simp only[Option.isNone_iff_eq_none]at g2
   subst g2
   exact pdact_sound hr (fun v h' pend' hx=>go v h' pend' (.inr g3) hx) h2
theorem pdops_sound {K:PK}(h1:∀e h,e dslot=.tup []→K e h→K' e h) (h2:∀v h,Kp v h→Kp' v ep h) :
  ∀(gs:List GrpD) (e:Env) (h:AH) (pend:Pend),(unGD gs).all fOk=true→e dslot=.tup []→pdops P Kp gs e h K→adops P ep K' Kp' (unGD gs) e h pend
 | [],e,h,pend,_,hd,hr=>h1 e h hd hr
 | (g,its)::gs,e,h,pend,ho,hd,hr=>by
  have hr:pdgrp P Kp (g,its) e h fun e' h'=>pdops P Kp gs e' h' K:=hr
  change (its++unGD gs).all fOk=true at ho
  rw[List.all_append,Bool.and_eq_true]at ho
  have rest:∀e' h' pend',e' dslot=.tup []→pdops P Kp gs e' h' K→adops P ep K' Kp' (unGD gs) e' h' pend':=fun e' h' pend' hd' hx=>pdops_sound h1 h2 gs e' h' pend' ho.2 hd' hx
  show adops P ep K' Kp' (its++unGD gs) e h pend
  cases g with
  | none=>
   obtain⟨g1,g2⟩:=prec_ok hr
   exact pdseq_sound (s:=0) (w:=true) h2 its e h pend ho.1 hd (.inr g1) g2 fun e' h' pend' _ q2 q3=>rest e' h' pend' q2 q3
  | some p=>
   obtain⟨s,w⟩:=p
   obtain⟨g1,g2⟩:=prec_ok hr
   obtain⟨b,k1,k2,k3⟩:=y_gd_inv g2
   by_cases hw:b=some w
   ·subst hw
    refine pdseq_sound h2 its e h pend ho.1 hd (.inl ⟨k1,g1⟩) (k2 rfl) fun e' h' pend' q1 q2 q3=>rest e' h' pend' q2 ?_
    rw[pcall_plam]at q3
    have:kset (ddsts its) e' e=e':=by
     funext t
     rw[kset_get]
     split
     ·rfl
     ·rename_i hm;exact(q1 t hm).symm
    rw[this]at q3;exact q3
   ·have k3:=k3 hw
    simp only[pcall_plam]at k3
    refine adops_off hw its e h pend g1 k1 (rest _ h _ ?_ k3)
    rw[kset_get,if_neg (ddsts_ok ho.1)]
    exact hd
end
abbrev PPd:=List (Nat × (AH→Prop))
noncomputable def pchk (fl:List Nat) (pd:PPd) (h:AH):Prop:=List.rec (motive:=fun _=>Prop) True (fun p _ ih=>Bool.rec (motive:=fun _=>Prop) ih (p.2 h∧ih) (memN p.1 fl)) pd
theorem pchk_of {fl:List Nat}{h:AH}:∀{pd:PPd},pchk fl pd h→∀p∈pd,p.1∈fl→p.2 h
 | p::pd,hk,q,hq,hf=>by
  have hk:Bool.rec (motive:=fun _=>Prop) (pchk fl pd h) (p.2 h∧pchk fl pd h) (memN p.1 fl):=hk
  cases hq with
  | head=>rw[memN_of hf]at hk;exact hk.1
  | tail _ hq=>
   refine pchk_of (pd:=pd) ?_ q hq hf
   cases hm:memN p.1 fl with
   | false=>rw[hm]at hk;exact hk
   | true=>rw[hm]at hk;exact hk.2
def PPRel (pd:PPd) (pend:Pend):Prop:=∀i p,pend.lookup i=some p→∃b,(i,b)∈pd∧∀x,b x→p x
theorem PPRel.more {pd:PPd}{pend:Pend}(h:PPRel pd pend) (q:Nat × (AH→Prop)):PPRel (q::pd) pend:=fun i p hi=>let ⟨b,h1,h2⟩:=h i p hi;⟨b,.tail _ h1,h2⟩
theorem PPRel.cons {pd:PPd}{pend:Pend}(h:PPRel pd pend){i:Nat}{b:AH→Prop}{p:AH→Prop}(hp:∀x,b x→p x):PPRel ((i,b)::pd) ((i,p)::pend):=fun j q hj=>by
 rw[List.lookup_cons]at hj
 by_cases hij:(j==i)=true
 ·rw[hij]at hj
  simp only[Option.some.injEq]at hj
  subst hj
  have:j=i:=by simpa using hij
  subst this
  exact⟨b,.head _,hp⟩
 ·simp only[Bool.not_eq_true]at hij
  rw[hij]at hj
  obtain⟨b',h1,h2⟩:=h j q hj
  exact⟨b',.tail _ h1,h2⟩
theorem PPRel.chk {pd:PPd}{pend:Pend}(hp:PPRel pd pend){h:AH}:∀{fl fl':List Nat},(∀i∈fl',i∈fl)→pchk fl pd h→chk fl' pend h
 | _,[],_,_=>trivial
 | fl,i::is,hs,hk=>by
  refine⟨?_,PPRel.chk hp (fun j hj=>hs j (.tail _ hj)) hk⟩
  cases hl:pend.lookup i with
  | none=>trivial
  | some p=>
   obtain⟨b,h1,h2⟩:=hp i p hl
   exact h2 h (pchk_of hk _ h1 (hs i (.head _)))
abbrev PG:=AV→(AH→Prop)→AH→Prop
def y_tt:AH→Prop:=fun _=>True
def y_rde (k:AK) (v:AV):AH→Prop:=fun H=>aread k emp H=some v
def y_nwe (k:AK) (r:Nat):AH→Prop:=fun H=>∃c f,anew k emp=some (c,f)∧H.get r=some (.cells c)
def y_G3 (w:Bool) (v:AV) (h:AH) (J:PG) (A:PG→Prop):Prop:=y_gd w v (A J) (J aud y_tt h)
noncomputable def pitem (P:Program) (Kp:AV→AH→Prop) (eff:Bool) (fl:List Nat) (pd:PPd) (k:AK) (e:Env) (H:AH) (K:PG):Prop:=
 (fun(_:Nat)=>Bool.rec (motive:=fun _=>Prop)
  (PCl.rec (motive:=fun _=>Prop) (fun x=>K (x.ev e) y_tt H) (fun t x=>K (.ifc t (x.ev e)) y_tt H) (fun f a b=>K (.fn f (kevs e a) (kevs e b)) y_tt H) (fun _ _=>False) (fun _=>False) False
   (y_pu (kgndA e k) fun v=>K v y_tt H) (y_rd (kgndA e k) H fun v=>K v (y_rde (kgndA e k) v) H) (y_nw (kgndA e k) H fun v H'=>K v (y_nwe (kgndA e k) H.next) H') (pcl k))
  (paop P k e H Kp fun v H'=>pchk fl pd H'∧K v y_tt H') eff) yTop
noncomputable def pslow (P:Program) (Kp:AV→AH→Prop) (l:List DIt):Env→AH→PPd→PK→Prop:=
 (fun(_:Nat)=>List.rec (motive:=fun _=>Env→AH→PPd→PK→Prop) (fun e h _ K=>K e h) (fun it _ ih e h pd K=>
  Option.rec (motive:=fun _=>Prop) (pitem P Kp it.eff it.fl pd it.o.k e h fun v c h'=>ih (e.put it.o.dst v) h' ((it.i,c)::pd) K)
   (fun p=>y_G3 p.2 (e p.1) h (fun v c h'=>ih (e.put it.o.dst v) h' ((it.i,c)::pd) K) fun J=>pitem P Kp it.eff it.fl pd it.o.k e h J) it.o.gd) l) yTop
section
variable {P:Program}{Kp:AV→AH→Prop}{ep:Env}{K':Env→AH→Prop}{Kp':AV→Env→AH→Prop}
theorem pitem_sound {i pre:Nat}{d:Option Nat}{k:AK}{eff:Bool}{fl:List Nat}{pd:PPd}{l:List DIt}{e:Env}{h:AH}{pend:Pend}(hp:PPRel pd pend){K:PG}(hr:pitem P Kp eff fl pd k e h K)
  (h1:∀v c h' pend',PPRel ((i,c)::pd) pend'→K v c h'→adops P ep K' Kp' l (e.put d v) h' pend') (h2:∀v h',Kp v h'→Kp' v ep h'):adops P ep K' Kp' (⟨i,⟨d,k,none⟩,pre,fl,eff⟩::l) e h pend:=by
 cases eff with
 | true=>
  have hr:paop P k e h Kp fun v H'=>pchk fl pd H'∧K v y_tt H':=hr
  exact p_eff (aop_mono (fun v H' hk=>⟨hp.chk (fun _ hi=>hi) hk.1,h1 v y_tt H' pend (hp.more _) hk.2⟩) (fun v H' hk=>h2 v H' hk) (paop_sound hr).1)
 | false=>
  have hr:PCl.rec (motive:=fun _=>Prop) (fun x=>K (x.ev e) y_tt h) (fun t x=>K (.ifc t (x.ev e)) y_tt h) (fun f a b=>K (.fn f (kevs e a) (kevs e b)) y_tt h) (fun _ _=>False) (fun _=>False) False
   (y_pu (kgndA e k) fun v=>K v y_tt h) (y_rd (kgndA e k) h fun v=>K v (y_rde (kgndA e k) v) h) (y_nw (kgndA e k) h fun v H'=>K v (y_nwe (kgndA e k) h.next) H') (pcl k):=hr
  cases hc:pcl k with
  | mv x=>
   rw[hc]at hr
   cases k<;>(try (cases hc;done))<;>(try (simp[pcl]at hc;done))
   simp only[pcl,PCl.mv.injEq]at hc;subst hc
   exact p_pure rfl (h1 _ _ _ _ (hp.more _) hr)
  | ifc t x=>
   rw[hc]at hr
   cases k<;>(try (cases hc;done))<;>(try (simp[pcl]at hc;done))
   simp only[pcl,PCl.ifc.injEq]at hc;obtain⟨rfl,rfl⟩:=hc
   exact p_pure rfl (h1 _ _ _ _ (hp.more _) hr)
  | fnc f a b=>
   rw[hc]at hr
   cases k<;>(try (cases hc;done))<;>(try (simp[pcl]at hc;done))
   simp only[pcl,PCl.fnc.injEq]at hc;obtain⟨rfl,rfl,rfl⟩:=hc
   exact p_pure (by simp only[apure,←kevs_eq]) (h1 _ _ _ _ (hp.more _) hr)
  | call f args=>rw[hc]at hr;exact hr.elim
  | pan x=>rw[hc]at hr;exact hr.elim
  | no=>rw[hc]at hr;exact hr.elim
  | pu=>
   rw[hc]at hr
   obtain⟨v,g1,g2⟩:=y_pu_inv hr
   rw[kgndA_pu e k hc]at g1
   exact p_pure g1 (h1 v _ _ _ (hp.more _) g2)
  | rd=>
   rw[hc]at hr
   obtain⟨v,g1,g2⟩:=y_rd_inv hr
   obtain⟨q1,q2⟩:=kgndA_rd e h k hc
   rw[q1]at g1
   exact p_read q2 g1 (h1 v _ h _ (hp.cons fun x hx=>by rw[←(kgndA_rd e x k hc).1];exact hx) g2)
  | ef=>
   rw[hc]at hr
   obtain⟨c,f,g1,g2⟩:=y_nw_inv hr
   obtain⟨_,q2,q3⟩:=kgndA_ef e h k hc
   have g1':=g1
   rw[kgndA_nw e k hc]at g1'
   refine p_new q2 q3 g1' (h1 _ _ _ _ (hp.cons fun x hx=>?_) g2)
   obtain⟨c',f',k1,k2⟩:=hx
   rw[g1]at k1;cases k1;exact k2
theorem pslow_sound {K:PK}(h1:∀e h,e dslot=.tup []→K e h→K' e h) (h2:∀v h,Kp v h→Kp' v ep h) :
  ∀(l:List DIt) (e:Env) (h:AH) (pd:PPd) (pend:Pend),PPRel pd pend→l.all (fun it=>dOk it.o)=true→e dslot=.tup []→pslow P Kp l e h pd K→adops P ep K' Kp' l e h pend
 | [],e,h,pd,pend,_,_,hd,hr=>h1 e h hd hr
 | ⟨i,⟨dst,k,gd⟩,pre,fl,eff⟩::l,e,h,pd,pend,hp,ho,hd,hr=>by
  simp only[List.all_cons,Bool.and_eq_true]at ho
  have go:∀v c h' pend',PPRel ((i,c)::pd) pend'→pslow P Kp l (e.put dst v) h' ((i,c)::pd) K→adops P ep K' Kp' l (e.put dst v) h' pend':=fun v c h' pend' hp' hx=>
   pslow_sound h1 h2 l _ h' _ pend' hp' ho.2 (by rw[put_ne (dOk_spec ho.1)];exact hd) hx
  cases gd with
  | none=>
   have hr:pitem P Kp eff fl pd k e h fun v c h'=>pslow P Kp l (e.put dst v) h' ((i,c)::pd) K:=hr
   exact pitem_sound hp hr (fun v c h' pend' q1 q2=>go v c h' pend' q1 q2) h2
  | some p=>
   obtain⟨s,w⟩:=p
   have hr:y_gd w (e s) (pitem P Kp eff fl pd k e h fun v c h'=>pslow P Kp l (e.put dst v) h' ((i,c)::pd) K) (pslow P Kp l (e.put dst aud) h ((i,y_tt)::pd) K):=hr
   obtain⟨b,k1,k2,k3⟩:=y_gd_inv hr
   exact p_gdO k1 (fun hw=>pitem_sound hp (k2 hw) (fun v c h' pend' q1 q2=>go v c h' pend' q1 q2) h2) (fun hw=>go aud y_tt h pend (hp.more _) (k3 hw))
end
noncomputable def pdreg (P:Program) (Kp:AV→AH→Prop) (plan:List DIt) (e:Env) (h:AH) (K:PK):Prop:=
 Bool.rec (motive:=fun _=>Prop) (Bool.rec (motive:=fun _=>Prop) False (pslow P Kp plan e h [] K) (plan.all (fun it=>dOk it.o))) (pdops P Kp (grpD plan) e h K) (plan.all fOk)
theorem pdreg_sound {P:Program}{Kp:AV→AH→Prop}{K':Env→AH→Prop}{Kp':AV→Env→AH→Prop}{K:PK}(h1:∀e h,e dslot=.tup []→K e h→K' e h) (h2:∀v h,Kp v h→∀e,e dslot=.tup []→Kp' v e h)
  {plan:List DIt} {e:Env} {h:AH} (hd:e dslot=.tup []) (hr:pdreg P Kp plan e h K):adops P (clr plan e) K' Kp' plan e h []:=by
 unfold pdreg at hr
 cases hf:plan.all fOk with
 | true=>
  rw[hf]at hr
  have hd':plan.all (fun it=>dOk it.o)=true:=by
   rw[List.all_eq_true]at hf ⊢
   intro x hx
   have:=hf x hx
   simp only[fOk,Bool.and_eq_true]at this
   exact this.1
  have:=pdops_sound (ep:=clr plan e) (Kp':=Kp') h1 (fun v h hv=>h2 v h hv _ (by rw[clr_dslot hd'];exact hd)) (grpD plan) e h [] (by rw[grpD_flat];exact hf) hd hr
  rw[grpD_flat]at this;exact this
 | false=>
  rw[hf]at hr
  obtain⟨g1,g2⟩:=prec_ok hr
  exact pslow_sound h1 (fun v h hv=>h2 v h hv _ (by rw[clr_dslot g1];exact hd)) plan e h [] [] (fun i p hi=>by cases hi) g1 hd g2
end Go.AL
namespace Go.AL
noncomputable def pexi (id:Nat) (K:PK) (ke:Nat→PK):Nat→PK:=(fun(_:Nat) i=>Bool.rec (motive:=fun _=>PK) (ke i) K (Nat.beq i id)) yTop
theorem pexi_eq (id:Nat) (K:PK) (ke:Nat→PK) (i:Nat):pexi id K ke i=if i=id then K else ke i:=by
 show Bool.rec (motive:=fun _=>PK) (ke i) K (Nat.beq i id)=_
 rw[beq_decide]
 by_cases h:i=id<;>simp[h]
noncomputable def pno:PK:=fun _ _=>False
noncomputable def prun (P:Program) (Kp:AV→AH→Prop) (c:ACode):HT→PK→(Nat→PK)→PK→PK:=
 ACode.rec (motive:=fun _=>HT→PK→(Nat→PK)→PK→PK)
  (fun _ kn _ _=>kn)
  (fun ops _ kn _ _ e h=>preg P Kp ops e h kn)
  (fun plan _ kn _ _ e h=>pdreg P Kp plan e h kn)
  (fun _ _ ra rb t kn ke kr=>HT.rec (motive:=fun _=>PK) pno (fun x y _ _=>ra x (rb y kn ke kr) ke kr) (fun _ _ _ _=>pno) (fun _ _ _ _ _=>pno) t)
  (fun c _ _ ra rb t kn ke kr e h=>HT.rec (motive:=fun _=>Prop) False (fun _ _ _ _=>False) (fun x y _ _=>y_if0 (c.ev e) (ra x kn ke kr e h) (rb y kn ke kr e h))
   (fun l x y _ _=>y_if (c.ev e) (plam l jenv kn) (fun J=>ra x (pcall l J) ke kr e h) (fun J=>rb y (pcall l J) ke kr e h)) t)
  (fun id _ ra t kn ke kr e h=>HT.rec (motive:=fun _=>Prop) False (fun _ _ _ _=>False) (fun x _ _ _=>ra x kn (pexi id kn ke) kr e h)
   (fun l x _ _ _=>y_blk (plam l jenv kn) fun J=>ra x (pcall l J) (pexi id (pcall l J) ke) kr e h) t)
  (fun _ ra t _ ke kr e h=>HT.rec (motive:=fun _=>Prop) False (fun _ _ _ _=>False) (fun _ _ _ _=>False)
   (fun l x _ _ _=>y_loop l (fun self=>plam l jenv fun e h=>ra x (pcall l self) ke kr e h) (kset l e jenv) h) t)
  (fun id _ _ ke _=>ke id)
  (fun _ _ _ kr=>kr) c
def PQ (Kp:AV→AH→Prop) (kn:PK) (ke:Nat→PK) (kr:PK):Ex→Env→AH→Prop:=fun x e H=>e dslot=.tup []∧match x with
 | .normal=>kn e H
 | .exit i=>ke i e H
 | .ret=>kr e H
 | .pan v=>Kp v H
theorem PQ.join {Kp:AV→AH→Prop}{l:List Nat}{kn:PK}{ke:Nat→PK}{kr:PK}:∀x e H,PQ Kp (pcall l (plam l jenv kn)) ke kr x e H→vsX (PQ Kp kn ke kr) x e H:=by
 rintro x e H ⟨hd,hx⟩
 cases x with
 | normal=>
  simp only[pcall_plam]at hx
  exact⟨_,_,kset_vs (l:=l) hd,(kset_keep hd).2,hx⟩
 | exit i=>exact vsX_same ⟨hd,hx⟩
 | ret=>exact vsX_same ⟨hd,hx⟩
 | pan v=>exact⟨hd,hx⟩
theorem pcall0_congr:∀{l:List Nat}{J:JP l}{e e':Env}{h:AH},(∀i∈l,e i=e' i)→pcall0 l J e h=pcall0 l J e' h
 | [],_,_,_,_,_=>rfl
 | i::l,J,e,e',h,hh=>by
  show pcall0 l (J (e i)) e h=pcall0 l (J (e' i)) e' h
  rw[hh i (.head _)]
  exact pcall0_congr fun j hj=>hh j (.tail _ hj)
theorem ncall_congr:∀{l:List Nat}{J:JN l}{e e':Env}{h:AH},(∀i∈l,e i=e' i)→ncall l J e h=ncall l J e' h
 | [],_,_,_,_,_=>rfl
 | i::l,J,e,e',h,hh=>by
  show ncall l (J (e i)) e h=ncall l (J (e' i)) e' h
  rw[hh i (.head _)]
  exact ncall_congr fun j hj=>hh j (.tail _ hj)
theorem pcall0_plam0:∀(l:List Nat) (e0:Env) (f:PK) (e:Env) (h:AH),pcall0 l (plam0 l e0 f) e h=f (kset l e e0) h
 | [],_,_,_,_=>rfl
 | i::l,e0,f,e,h=>by
  show pcall0 l (plam0 l (e0.set i (e i)) f) e h=_
  rw[pcall0_plam0 l];rfl
section
variable {P:Program}{n:Nat}{hs:Hints}{Kp:AV→AH→Prop}
theorem prun_sound (hmix:P.follows .mixedOrders=true) (hn:n≤dslot):∀(c:Code) (ac:ACode),comp P hs n c=some ac →
  ∀(t:HT) (kn:PK) (ke:Nat→PK) (kr:PK) (e:Env) (h:AH),e dslot=.tup []→prun P Kp ac t kn ke kr e h→DS P n c (PQ Kp kn ke kr) e h:=by
 intro c
 induction c with
 | skip=>
  intro ac hc t kn ke kr e h hd hr
  simp only[comp,Option.some.injEq]at hc;subst hc
  exact DS.skip ⟨hd,hr⟩
 | exit id=>
  intro ac hc t kn ke kr e h hd hr
  simp only[comp,Option.some.injEq]at hc;subst hc
  exact DS.exit ⟨hd,hr⟩
 | ret=>
  intro ac hc t kn ke kr e h hd hr
  simp only[comp,Option.some.injEq]at hc;subst hc
  exact DS.ret ⟨hd,hr⟩
 | region id ops draw=>
  intro ac hc t kn ke kr e h hd hr
  have h1:∀e' h',e' dslot=.tup []→kn e' h'→vsQ (PQ Kp kn ke kr) .normal e' h':=fun e' h' q1 q2=>vs_same ⟨q1,q2⟩
  have h2:∀v h',Kp v h'→∀e',e' dslot=.tup []→PQ Kp kn ke kr (.pan v) e' h':=fun v h' q1 e' q2=>⟨q2,q1⟩
  refine DS.of_D hmix hn hc ?_
  cases draw with
  | true=>
   simp only[comp]at hc
   split at hc<;>(try (cases hc;done))
   split at hc<;>(try (cases hc;done))
   rename_i plan hpl
   split at hc<;>(try (cases hc;done))
   simp only[Option.some.injEq]at hc;subst hc
   exact d_dregV (pdreg_sound (K':=fun e' H'=>vsQ (PQ Kp kn ke kr) .normal e' H') (Kp':=fun v e' H'=>PQ Kp kn ke kr (.pan v) e' H') h1 h2 hd hr)
  | false=>
   simp only[comp,Option.map_eq_some_iff]at hc
   obtain⟨al,hal,rfl⟩:=hc
   exact d_regV (preg_sound (K':=fun e' H'=>vsQ (PQ Kp kn ke kr) .normal e' H') (Kp':=fun v e' H'=>PQ Kp kn ke kr (.pan v) e' H') h1 h2 hd hr)
 | seq x y ihx ihy=>
  intro ac hc t kn ke kr e h hd hr
  simp only[comp]at hc
  split at hc
  ·rename_i ax ay hx hy
   simp only[Option.some.injEq]at hc;subst hc
   cases t with
   | l=>exact(show False from hr).elim
   | i a b=>exact(show False from hr).elim
   | j l a b=>exact(show False from hr).elim
   | s a b=>
    have hr:prun P Kp ax a (prun P Kp ay b kn ke kr) ke kr e h:=hr
    refine DS.seq (DS.post ?_ (ihx ax hx a _ ke kr e h hd hr))
    rintro z e' H' ⟨hd',hz⟩
    refine vsX_same ?_
    cases z with
    | normal=>exact ihy ay hy b kn ke kr e' H' hd' hz
    | exit i=>exact⟨hd',hz⟩
    | ret=>exact⟨hd',hz⟩
    | pan v=>exact⟨hd',hz⟩
  ·cases hc
 | cond c x y ihx ihy=>
  intro ac hc t kn ke kr e h hd hr
  simp only[comp]at hc
  split at hc
  ·rename_i c' ax ay h1 hx hy
   simp only[Option.some.injEq]at hc;subst hc
   have go:∀{A B:Prop} {Q:Ex→Env→AH→Prop},y_if0 (c'.ev e) A B→(A→DS P n x Q e h)→(B→DS P n y Q e h)→DS P n (.cond c x y) Q e h:=fun{A B Q} hi ha hbq=>by
    unfold y_if0 at hi
    split at hi
    ·rename_i b hb
     exact DS.cond h1 hb (fun ht=>ha (hi.1 ht)) (fun ht=>hbq (hi.2 ht))
    ·exact hi.elim
   cases t with
   | l=>exact(show False from hr).elim
   | s a b=>exact(show False from hr).elim
   | i a b=>exact go hr (fun q=>ihx ax hx a kn ke kr e h hd q) (fun q=>ihy ay hy b kn ke kr e h hd q)
   | j l a b=>exact go hr (fun q=>(ihx ax hx a _ ke kr e h hd q).post PQ.join) (fun q=>(ihy ay hy b _ ke kr e h hd q).post PQ.join)
  ·cases hc
 | block id x ih=>
  intro ac hc t kn ke kr e h hd hr
  simp only[comp,Option.map_eq_some_iff]at hc
  obtain⟨ax,hx,rfl⟩:=hc
  cases t with
  | l=>exact(show False from hr).elim
  | s a b=>exact(show False from hr).elim
  | i a b=>
   refine DS.block ((ih ax hx a kn (pexi id kn ke) kr e h hd hr).post ?_)
   rintro z e' H' ⟨hd',hz⟩
   refine vsX_same ?_
   cases z with
   | normal=>exact⟨hd',hz⟩
   | exit i=>
    simp only[pexi_eq]at hz
    simp only[]
    by_cases hi:i=id
    ·rw[if_pos hi];rw[if_pos hi]at hz;exact⟨hd',hz⟩
    ·rw[if_neg hi];rw[if_neg hi]at hz;exact⟨hd',hz⟩
   | ret=>exact⟨hd',hz⟩
   | pan v=>exact⟨hd',hz⟩
  | j l a b=>
   have hr:prun P Kp ax a (pcall l (plam l jenv kn)) (pexi id (pcall l (plam l jenv kn)) ke) kr e h:=hr
   refine DS.block ((ih ax hx a _ _ kr e h hd hr).post ?_)
   rintro z e' H' ⟨hd',hz⟩
   cases z with
   | normal=>exact PQ.join (l:=l) .normal e' _ ⟨hd',hz⟩
   | exit i=>
    simp only[pexi_eq]at hz
    by_cases hi:i=id
    ·rw[if_pos hi]at hz
     simp only[pcall_plam]at hz
     refine⟨_,_,kset_vs (l:=l) hd',?_⟩
     simp only[hi,if_true]
     exact⟨(kset_keep hd').2,hz⟩
    ·rw[if_neg hi]at hz
     refine vsX_same ?_
     simp only[]
     rw[if_neg hi];exact⟨hd',hz⟩
   | ret=>exact vsX_same ⟨hd',hz⟩
   | pan v=>exact⟨hd',hz⟩
 | loop x ih=>
  intro ac hc t kn ke kr e h hd hr
  simp only[comp,Option.map_eq_some_iff]at hc
  obtain⟨ax,hx,rfl⟩:=hc
  cases t with
  | l=>exact(show False from hr).elim
  | s a b=>exact(show False from hr).elim
  | i a b=>exact(show False from hr).elim
  | j l a b=>
   have hr:y_loop l (fun self=>plam l jenv fun e h=>prun P Kp ax a (pcall l self) ke kr e h) (kset l e jenv) h:=hr
   obtain⟨I,μ,hI,step⟩:=hr
   refine DS.vs (kset_vs (l:=l) hd) (DS.loop (L:=fun k e H=>e dslot=.tup []∧pcall0 l I e H∧ncall l μ e H=k) ⟨(kset_keep hd).2,hI,rfl⟩ ?_)
   rintro k e1 H1 ⟨hd1,hI1,rfl⟩
   have st:=step e1 H1 hI1
   have st:pcall l (plam l jenv fun e h=>prun P Kp ax a (pcall l (plam0 l emp fun e' H'=>pcall0 l I e' H'∧ncall l μ e' H'<ncall l μ e1 H1)) ke kr e h) e1 H1:=st
   rw[pcall_plam]at st
   refine DS.vs (kset_vs (l:=l) hd1) ((ih ax hx a _ ke kr _ H1 (kset_keep hd1).2 st).post ?_)
   rintro z e' H' ⟨hd',hz⟩
   refine vsX_same ?_
   cases z with
   | normal=>
    have hz:pcall0 l (plam0 l emp fun e' H'=>pcall0 l I e' H'∧ncall l μ e' H'<ncall l μ e1 H1) e' H':=hz
    rw[pcall0_plam0]at hz
    have c:∀i∈l,kset l e' emp i=e' i:=fun i hi=>by rw[kset_get,if_pos hi]
    rw[pcall0_congr c,ncall_congr c]at hz
    exact⟨_,hz.2,hd',hz.1,rfl⟩
   | exit i=>exact⟨hd',hz⟩
   | ret=>exact⟨hd',hz⟩
   | pan v=>exact⟨hd',hz⟩
 | _=>intro ac hc;simp[comp]at hc
end
noncomputable def pres (q:List ARes) (e:Env) (h:AH):(List AV→Prop)→Prop:=
 (fun(_:Nat)=>List.rec (motive:=fun _=>(List AV→Prop)→Prop) (fun K=>K []) (fun r _ ih K=>ARes.rec (motive:=fun _=>Prop) (fun i=>ih fun l=>K (e i::l)) (fun a g=>y_rd (.load g (.cst (e a))) h fun v=>ih fun l=>K (v::l)) r) q) yTop
theorem pres_inv {e:Env}{h:AH}:∀{q:List ARes}{K:List AV→Prop},pres q e h K→∃l,aress e h q=some l∧K l
 | [],K,hr=>⟨[],rfl,hr⟩
 | .tmp i::q,K,hr=>by
  obtain⟨l,h1,h2⟩:=pres_inv (q:=q) (K:=fun l=>K (e i::l)) hr
  exact⟨_,by simp only[aress,h1];rfl,h2⟩
 | .cell a g::q,K,hr=>by
  have hr:y_rd (.load g (.cst (e a))) h (fun v=>pres q e h fun l=>K (v::l)):=hr
  obtain⟨v,g1,g2⟩:=y_rd_inv hr
  obtain⟨l,h1,h2⟩:=pres_inv (q:=q) g2
  have g1:aload g (e a) h=some v:=g1
  exact⟨_,by simp only[aress,g1,h1];rfl,h2⟩
noncomputable def pfin (q:List ARes) (Post:AOut→AH→Prop):PK:=fun e h=>pres q e h fun l=>Post (.ret (retv l)) h
noncomputable def eargs (as:List AV):Env:=fun i=>Bool.rec (motive:=fun _=>AV) (kgetU as i) (.tup []) (Nat.beq i dslot)
theorem eargs_eq (as:List AV):eargs as=env0 as:=by
 funext i
 unfold eargs env0
 rw[beq_decide,kgetU_eq]
 by_cases h:i=dslot<;>simp[h]
def yp (Post:AOut→AH→Prop):AV→AH→Prop:=fun v H=>Post (.pan v) H
noncomputable def pfun (P:Program) (q:List ARes) (ac:ACode) (t:HT) (as:List AV) (H:AH) (Post:AOut→AH→Prop):Prop:=
 prun P (yp Post) ac t (pfin q Post) (fun _=>pno) (pfin q Post) (eargs as) H
theorem funOf {P:Program}{g:FuncId}{fn:Func}{n:Nat}{hs:Hints}{q:List ARes}(hmix:P.follows .mixedOrders=true) (hf:P.funcs[g]?=some fn) (hname:(fn.name=="runtime.NumGoroutine")=false)
  (hn:fn.ntmps=n) (hb:(fn.body.bind (comp P hs n)).isSome=true) (hr:cRess P fn.results.toList=some q) (hle:Nat.ble n dslot=true):Fun P g n (acOf P fn hs n) q:=by
 obtain⟨ac,hac⟩:=Option.isSome_iff_exists.1 hb
 have e:acOf P fn hs n=ac:=by unfold acOf;rw[hac]
 rw[e]
 exact Fun.mk' hmix hf hname hn hac hr hle
theorem pfun_sound {P:Program}{g n:Nat}{q:List ARes}{ac:ACode}{t:HT}(hF:Fun P g n ac q){as:List AV}(hlen:Nat.ble as.length n=true){H:AH}{Post:AOut→AH→Prop}{G:Prop}(hG:G=pfun P q ac t as H Post) (h:G):ACall P g as H Post:=by
 rw[hG]at h
 refine hF.callS (Nat.le_of_ble_eq_true hlen) fun c hs hc=>?_
 rw[←eargs_eq]
 refine(prun_sound hF.mix hF.le c ac hc t _ _ _ _ H (by rw[eargs_eq];simp[env0]) h).post ?_
 rintro x e' H' ⟨hd,hx⟩
 refine vsX_same ⟨hd,?_⟩
 cases x with
 | normal=>
  obtain⟨l,g1,g2⟩:=pres_inv hx
  simp only[fpost,g1];exact g2
 | ret=>
  obtain⟨l,g1,g2⟩:=pres_inv hx
  simp only[fpost,g1];exact g2
 | exit i=>exact(show False from hx).elim
 | pan v=>exact hx
end Go.AL
