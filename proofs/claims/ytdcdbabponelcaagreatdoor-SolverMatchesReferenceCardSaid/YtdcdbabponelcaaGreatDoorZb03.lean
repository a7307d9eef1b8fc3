import Derived.Test.YtdcdbabponelcaaGreatDoorZb02
import Derived.Test.YtdcdbabponelcaaGreatDoorZa04
/-
  what code asks, as printed propositions; the machine with loops over functions; calls at any heap.
-/
set_option linter.unusedSectionVars false
set_option linter.unusedVariables false
set_option linter.unusedSimpArgs false
noncomputable section
namespace Go.AL
variable [BY] [YC]
def WE (e:Env) (ps:List (Nat × Nat × Ak)):List (Nat × Nat × Ak):=List.rec (motive:=fun _=>List (Nat × Nat × Ak)) [] (fun p _ ih=>(p.1,p.2.1,.cst (p.2.2.ev e))::ih) ps
theorem Kk (e:Env):∀(ps:List (Nat × Nat × Ak)) (c:List AV),B2 emp c (WE e ps)=B2 e c ps
 | [],c=>rfl
 | (o,n,x)::ps,c=>by
  show B2 emp c ((o,n,.cst (x.ev e))::WE e ps)=_
  simp only[B2,Ak.ev,Kk e ps]
def CX (e:Env) (k:AK):AK:=match k with
 | .move x=>.move (Dm e x)
 | .pick c a b=>.pick (Dm e c) (Dm e a) (Dm e b)
 | .build z ps=>.build z (WE e ps)
 | .nilCheck x=>.nilCheck (Dm e x)
 | .bin op x y=>.bin op (Dm e x) (Dm e y)
 | .convI k x=>.convI k (Dm e x)
 | .mkIface t x=>.mkIface t (Dm e x)
 | .fieldAddr off x=>.fieldAddr off (Dm e x)
 | .field g off x=>.field g off (Dm e x)
 | .indexAddrA n z x i=>.indexAddrA n z (Dm e x) (Dm e i)
 | .indexAddrS z x i=>.indexAddrS z (Dm e x) (Dm e i)
 | .extract i x=>.extract i (Dm e x)
 | .len x=>.len (Dm e x)
 | .load g x=>.load g (Dm e x)
 | .box x=>.box (Dm e x)
 | .buildSlice z n c ps=>.buildSlice z n c (WE e ps)
 | .store n x v=>.store n (Dm e x) (Dm e v)
 | .append z b s x=>.append z b (Dm e s) (Dm e x)
 | k=>LV e k
inductive PB where
 | mv (x:Ak)
 | ifc (t:TypeId) (x:Ak)
 | fnc (f:Fn) (a b:List Ak)
 | call (f:Ak) (args:List Ak)
 | pan (x:Ak)
 | no
 | pu
 | rd
 | ef
def HI (k:AK):PB:=match k with
 | .move x=>.mv x
 | .mkIface t x=>.ifc t x
 | .mkFunc f a b=>.fnc f a b
 | .call f args=>.call f args
 | .panic x=>.pan x
 | .defer _ _=>.no
 | .recover=>.no
 | .load .. | .strOfBytes _ | .lookup .. | .lenMap _ | .ext ..=>.rd
 | .alloc _ | .box _ | .buildSlice .. | .mkSlice .. | .store .. | .append .. | .mark _ | .appendZ .. | .makeMap | .mapUpd .. | .bytesOf _ | .Gw .. | .copy ..=>.ef
 | _=>.pu
def AB (k:AK) (K:AV→Prop):Prop:=Option.rec (motive:=fun _=>Prop) False K (Ap k emp)
def AP (k:AK) (H:AH) (K:AV→Prop):Prop:=Option.rec (motive:=fun _=>Prop) False K (Ba k emp H)
def AW (k:AK) (H:AH) (K:AV→AH→Prop):Prop:=Option.rec (motive:=fun _=>Prop) False (fun p=>Prod.rec (motive:=fun _=>Prop) K p) (CS k emp H)
def AX (P:Program) (g:FuncId) (as:List AV) (H:AH) (Kp K:AV→AH→Prop):Prop:=An P g as H fun o H'=>match o with
 | .ret v=>K v H'
 | .pan v=>Kp v H'
def ZP (fv:AV) (as:List AV) (H:AH) (Kp K:AV→AH→Prop):Prop:=match fv with
 | .fn (.yield l) [] []=>YC.y l as H fun o H'=>match o with
  | .ret v=>K v H'
  | .pan v=>Kp v H'
 | _=>False
def GN (P:Program) (fv:AV) (as:List AV) (H:AH) (Kp K:AV→AH→Prop):Prop:=
 FP.rec (motive:=fun _=>Prop) (ZP fv as H Kp K) (fun g first cap=>AX P g (NZ first (NZ as cap)) H Kp K) (RJ fv)
def Ny (v:AV) (H:AH) (Kp:AV→AH→Prop):Prop:=match v with
 | .ifc t v=>Kp (.ifc t v) H
 | _=>False
def N0 (w:Bool) (v:AV) (A B:Prop):Prop:=match I7 v with
 | some b=>(b=some w→A)∧(b≠some w→B)
 | none=>False
def Am {T:Type}(w:Bool) (v:AV) (J:T) (A B:T→Prop):Prop:=N0 w v (A J) (B J)
def Ag (v:AV) (A B:Prop):Prop:=match v with
 | .bool t=>(t=true→A)∧(t=false→B)
 | _=>False
def Dk {T:Type}(v:AV) (J:T) (A B:T→Prop):Prop:=Ag v (A J) (B J)
def QI {T:Type}(J:T) (A:T→Prop):Prop:=A J
abbrev PK:=Env→AH→Prop
def JP (l:List Nat):Type:=List.rec (motive:=fun _=>Type) (AH→Prop) (fun _ _ t=>AV→t) l
def JN (l:List Nat):Type:=List.rec (motive:=fun _=>Type) (AH→Nat) (fun _ _ t=>AV→t) l
def Gg (l:List Nat):JN l→Env→AH→Nat:=
 List.rec (motive:=fun l=>JN l→Env→AH→Nat) (fun J _ h=>J h) (fun i _ ih J e h=>ih (J (e i)) e h) l
def Dq (l:List Nat):JP l→PK:=
 List.rec (motive:=fun l=>JP l→PK) (fun J _ h=>J h) (fun i _ ih J e h=>ih (J (e i)) e h) l
def OM (l:List Nat):Env→PK→JP l:=
 List.rec (motive:=fun l=>Env→PK→JP l) (fun e0 f h=>f e0 h) (fun i _ ih e0 f v=>ih (e0.set i v) f) l
def A_ (l:List Nat) (body:JP l→JP l) (e:Env) (H:AH):Prop:=∃(I:JP l) (μ:JN l),Dq l I e H∧∀e H,Dq l I e H→Dq l (body (OM l emp fun e' H'=>Dq l I e' H'∧Gg l μ e' H'<Gg l μ e H)) e H
def MG:Nat:=
 let _a:=@A_
 let _b:=@Dk Nat
 let _c:=@Am Nat
 let _d:=@QI Nat
 let _e:=GN
 let _f:=Ny
 let _g:=AB
 let _h:=AP
 let _i:=AW
 0
def EH (l:List Nat):JP l→PK:=
 (fun(_:Nat)=>(List.rec (motive:=fun l=>JP l→PK) (fun J _ h=>J h) (fun i _ ih J e h=>ih (J (e i)) e h) l:JP l→PK)) MG
def KR (l:List Nat):Env→PK→JP l:=
 (fun(_:Nat)=>(List.rec (motive:=fun l=>Env→PK→JP l) (fun e0 f h=>f e0 h) (fun i _ ih e0 f v=>ih (e0.set i v) f) l:Env→PK→JP l)) MG
theorem C4:∀(l:List Nat) (e0:Env) (f:PK) (e:Env) (h:AH),EH l (KR l e0 f) e h=f (Fi l e e0) h
 | [],_,_,_,_=>rfl
 | i::l,e0,f,e,h=>by
  show EH l (KR l (e0.set i (e i)) f) e h=_
  rw[C4 l];rfl
def PX (P:Program) (k:AK) (e:Env) (H:AH) (Kp K:AV→AH→Prop):Prop:=
 (fun(_:Nat)=>PB.rec (motive:=fun _=>Prop) (fun x=>K (x.ev e) H) (fun t x=>K (.ifc t (x.ev e)) H) (fun f a b=>K (.fn f (FU e a) (FU e b)) H) (fun f args=>GN P (f.ev e) (FU e args) H Kp K) (fun x=>Ny (x.ev e) H Kp) False
  (AB (CX e k) fun v=>K v H) (AP (CX e k) H fun v=>K v H) (AW (CX e k) H K) (HI k)) MG
theorem Kt {k:AK}{K:AV→Prop}(h:AB k K):∃v,Ap k emp=some v∧K v:=by
 unfold AB at h
 cases hk:Ap k emp with
 | none=>rw[hk]at h;exact h.elim
 | some v=>rw[hk]at h;exact⟨v,rfl,h⟩
theorem IJ {k:AK}{H:AH}{K:AV→Prop}(h:AP k H K):∃v,Ba k emp H=some v∧K v:=by
 unfold AP at h
 cases hk:Ba k emp H with
 | none=>rw[hk]at h;exact h.elim
 | some v=>rw[hk]at h;exact⟨v,rfl,h⟩
theorem SR {k:AK}{H:AH}{K:AV→AH→Prop}(h:AW k H K):∃v H',CS k emp H=some (v,H')∧K v H':=by
 unfold AW at h
 cases hk:CS k emp H with
 | none=>rw[hk]at h;exact h.elim
 | some p=>rw[hk]at h;exact⟨p.1,p.2,rfl,h⟩
theorem LS (e:Env) (k:AK) (hk:HI k=.pu):Ap (CX e k) emp=Ap k e:=by
 cases k<;>first
  | (cases hk;done)
  | rfl
  | (simp only[Ap,CX,Kk];done)
  | (simp only[Ap,CX,LV,Kl];rfl)
theorem Io (e:Env) (H:AH) (k:AK) (hk:HI k=.rd):Ba (CX e k) emp H=Ba k e H∧Ap k e=none:=by
 cases k<;>first
  | (cases hk;done)
  | exact⟨rfl,rfl⟩
theorem LU (e:Env) (H:AH) (k:AK) (hk:HI k=.ef):CS (CX e k) emp H=CS k e H∧Ap k e=none∧Ba k e H=none:=by
 cases k<;>first
  | (cases hk;done)
  | exact⟨rfl,rfl,rfl⟩
  | (refine⟨?_,rfl,rfl⟩;simp only[CS,CX,Kk];done)
theorem G1 {P:Program}{k:AK}{e:Env}{H:AH}{K1 K2 Kp1 Kp2:AV→AH→Prop}(hk:∀v H',K1 v H'→K2 v H') (hp:∀v H',Kp1 v H'→Kp2 v H') (ha:Fy P k e H K1 Kp1):Fy P k e H K2 Kp2:=by
 unfold Fy at ha ⊢
 split at ha
 ·unfold EV at ha ⊢
  split at ha
  ·exact ha.mono fun o H' hq=>by cases o with
    | ret v=>exact hk _ _ hq
    | pan v=>exact hp _ _ hq
  ·exact YC.mono ha fun o H' hq=>by cases o with
    | ret v=>exact hk _ _ hq
    | pan v=>exact hp _ _ hq
  ·exact ha
 ·split at ha
  ·exact hp _ _ ha
  ·exact ha
 ·exact ha
 ·exact ha
 ·split at ha
  ·exact hk _ _ ha
  ·exact ha
theorem TL {P:Program}{k:AK}{e:Env}{H:AH}{Kp K:AV→AH→Prop}(hp:k.plain=true) (h:PX P k e H Kp K):∃v H',EN k e H=some (v,H')∧K v H':=by
 have h:PB.rec (motive:=fun _=>Prop) (fun x=>K (x.ev e) H) (fun t x=>K (.ifc t (x.ev e)) H) (fun f a b=>K (.fn f (FU e a) (FU e b)) H) (fun f args=>GN P (f.ev e) (FU e args) H Kp K) (fun x=>Ny (x.ev e) H Kp) False
  (AB (CX e k) fun v=>K v H) (AP (CX e k) H fun v=>K v H) (AW (CX e k) H K) (HI k):=h
 cases hc:HI k with
 | mv x=>
  rw[hc]at h
  cases k<;>(try (cases hc;done))<;>(try (simp[HI]at hc;done))
  simp only[HI,PB.mv.injEq]at hc;subst hc
  exact⟨_,_,rfl,h⟩
 | ifc t x=>
  rw[hc]at h
  cases k<;>(try (cases hc;done))<;>(try (simp[HI]at hc;done))
  simp only[HI,PB.ifc.injEq]at hc;obtain⟨rfl,rfl⟩:=hc
  exact⟨_,_,rfl,h⟩
 | fnc f a b=>
  rw[hc]at h
  cases k<;>(try (cases hc;done))<;>(try (simp[HI]at hc;done))
  simp only[HI,PB.fnc.injEq]at hc;obtain⟨rfl,rfl,rfl⟩:=hc
  exact⟨_,_,by simp only[EN,Ap,←GD],h⟩
 | call f args=>cases k<;>first | (cases hp;done) | (cases hc;done) | (simp[HI]at hc;done)
 | pan x=>cases k<;>first | (cases hp;done) | (cases hc;done) | (simp[HI]at hc;done)
 | no=>rw[hc]at h;exact h.elim
 | pu=>
  rw[hc]at h
  obtain⟨v,h1,h2⟩:=Kt h
  rw[LS e k hc]at h1
  exact⟨v,H,by simp only[EN,h1],h2⟩
 | rd=>
  rw[hc]at h
  obtain⟨v,h1,h2⟩:=IJ h
  obtain⟨g1,g2⟩:=Io e H k hc
  rw[g1]at h1
  exact⟨v,H,by simp only[EN,g2,h1],h2⟩
 | ef=>
  rw[hc]at h
  obtain⟨v,H',h1,h2⟩:=SR h
  obtain⟨g1,g2,g3⟩:=LU e H k hc
  rw[g1]at h1
  exact⟨v,H',by simp only[EN,g2,g3,h1],h2⟩
theorem GA {P:Program}{k:AK}{e:Env}{H:AH}{Kp K:AV→AH→Prop}(h:PX P k e H Kp K):Fy P k e H K Kp∧k.Bv=false:=by
 by_cases hp:k.plain=true
 ·obtain⟨v,H',h1,h2⟩:=TL hp h
  exact⟨M1 hp h1 h2,TG hp⟩
 ·cases k<;>(try exact absurd rfl hp)
  case call f args=>
   refine⟨?_,rfl⟩
   have h:GN P (f.ev e) (FU e args) H Kp K:=h
   simp only[GN,HL,GD,←List.append_assoc]at h
   cases hfp:RJ (f.ev e)with
   | no=>
    rw[hfp]at h
    have h:ZP (f.ev e) (args.map (·.ev e)) H Kp K:=h
    unfold ZP at h
    split at h
    ·rename_i l hl
     simp only[Fy,EV,hl];exact h
    ·exact h.elim
   | «at» g first cap=>
    rw[hfp]at h
    exact Lm (QS hfp) rfl h (fun v H' hv=>hv) (fun v H' hv=>hv)
  case panic x=>
   refine⟨?_,rfl⟩
   have h:Ny (x.ev e) H Kp:=h
   unfold Ny at h
   split at h
   ·rename_i t v hx
    simp only[Fy,hx];exact h
   ·exact h.elim
  case defer f args=>exact(show False from h).elim
  case recover=>exact(show False from h).elim
theorem Ku {w:Bool}{v:AV}{A B:Prop}(h:N0 w v A B):∃o,I7 v=some o∧(o=some w→A)∧(o≠some w→B):=by
 unfold N0 at h
 split at h
 ·rename_i b hb;exact⟨b,hb,h.1,h.2⟩
 ·exact h.elim
def TC (P:Program) (Kp:AV→AH→Prop) (ops:List Bz):Env→AH→PK→Prop:=
 List.rec (motive:=fun _=>Env→AH→PK→Prop) (fun e h K=>K e h) (fun o _ ih e h K=>PX P o.k e h Kp fun v h'=>ih (e.put o.dst v) h' K) ops
def eU (P:Program) (Kp:AV→AH→Prop) (g:SM) (e:Env) (h:AH) (K:PK):Prop:=Prod.rec (motive:=fun _=>Prop) (fun g ops=>Option.rec (motive:=fun _=>Prop)
  (Bool.rec (motive:=fun _=>Prop) False (TC P Kp ops e h K) (ops.all (fun o=>o.gd.isNone)))
  (fun p=>Prod.rec (motive:=fun _=>Prop) (fun s w=>Bool.rec (motive:=fun _=>Prop) False (Am w (e s) (KR (H_ ops) e K) (fun J=>TC P Kp ops e h (EH (H_ ops) J)) (fun J=>EH (H_ ops) J (fun _=>AI) h)) (ops.all (DO s w))) p) g) g
def Vw (P:Program) (Kp:AV→AH→Prop) (gs:List SM):Env→AH→PK→Prop:=
 List.rec (motive:=fun _=>Env→AH→PK→Prop) (fun e h K=>K e h) (fun g _ ih e h K=>eU P Kp g e h fun e' h'=>ih e' h' K) gs
def eR (P:Program) (Kp:AV→AH→Prop) (ops:List Bz) (e:Env) (h:AH) (K:PK):Prop:=Bool.rec (motive:=fun _=>Prop) False (Vw P Kp (dV ops) e h K) (ops.all My)
theorem HG {b:Bool}{x:Prop}(h:Bool.rec (motive:=fun _=>Prop) False x b):b=true∧x:=by
 cases b with
 | true=>exact⟨rfl,h⟩
 | false=>exact h.elim
section
variable {P:Program}{Kp:AV→AH→Prop}{K':Env→AH→Prop}{Kp':AV→Env→AH→Prop}
theorem Hq {s:Nat}{w:Bool}{K:PK}(h2:∀v h,Kp v h→∀e,e Ao=.tup []→Kp' v e h):∀(ops:List Bz) (e:Env) (h:AH),ops.all My=true→e Ao=.tup [] →
  (I7 (e s)=some (some w)∧ops.all (DO s w)=true∨ops.all (fun o=>o.gd.isNone)=true)→TC P Kp ops e h K →
  (∀e' h',(∀t,t ∉ H_ ops→e' t=e t)→e' Ao=.tup []→K e' h'→K' e' h')→Cp P ops e h K' Kp'
 | [],e,h,_,hd,_,hr,h1=>h1 e h (fun _ _=>rfl) hd hr
 | o::ops,e,h,ho,hd,hg,hr,h1=>by
  have hr:PX P o.k e h Kp fun v h'=>TC P Kp ops (e.put o.dst v) h' K:=hr
  simp only[List.all_cons,Bool.and_eq_true]at ho hg
  have hd':∀v,(e.put o.dst v) Ao=.tup []:=fun v=>by rw[B0 (DW ho.1)];exact hd
  have go:∀v h',(I7 ((e.put o.dst v) s)=some (some w)∧ops.all (DO s w)=true∨ops.all (fun o=>o.gd.isNone)=true)→TC P Kp ops (e.put o.dst v) h' K→Cp P ops (e.put o.dst v) h' K' Kp':=fun v h' hg' hx=>
   Hq h2 ops (e.put o.dst v) h' ho.2 (hd' v) hg' hx fun e' h'' q1 q2 q3=>h1 e' h'' (fun t ht=>by
    have ht:t ∉ Gu o.dst (H_ ops):=ht
    rw[Eh,not_or]at ht
    rw[q1 t ht.2,B0 ht.1]) q2 q3
  have mono:(∀v,I7 ((e.put o.dst v) s)=some (some w)∧ops.all (DO s w)=true∨ops.all (fun o=>o.gd.isNone)=true)→Fy P o.k e h (fun v H'=>Cp P ops (e.put o.dst v) H' K' Kp') (fun v H'=>Kp' v e H'):=fun hg'=>
   G1 (fun v H' hx=>go v H' (hg' v) hx) (fun v H' hx=>h2 v H' hx e hd) (GA hr).1
  have nd:=(GA hr).2
  obtain⟨dst,k,gd⟩:=o
  rcases hg with⟨g1,g2,g3⟩ | ⟨g2,g3⟩
  ·obtain⟨rfl,g4⟩:=D_ g2
   exact QM g1 (fun _=>mono fun v=>.inl ⟨by rw[B0 g4];exact g1,g3⟩) (fun hn=>absurd rfl hn)
  ·simp only[Option.isNone_iff_eq_none]at g2
   subst g2
   exact JY nd (mono fun v=>.inr g3)
theorem LC {K:PK}(h1:∀e h,e Ao=.tup []→K e h→K' e h) (h2:∀v h,Kp v h→∀e,e Ao=.tup []→Kp' v e h) :
  ∀(gs:List SM) (e:Env) (h:AH),(QP gs).all My=true→e Ao=.tup []→Vw P Kp gs e h K→Cp P (QP gs) e h K' Kp'
 | [],e,h,_,hd,hr=>h1 e h hd hr
 | (g,ops)::gs,e,h,ho,hd,hr=>by
  have hr:eU P Kp (g,ops) e h fun e' h'=>Vw P Kp gs e' h' K:=hr
  change (ops++QP gs).all My=true at ho
  rw[List.all_append,Bool.and_eq_true]at ho
  have rest:∀e' h',e' Ao=.tup []→Vw P Kp gs e' h' K→Cp P (QP gs) e' h' K' Kp':=fun e' h' hd' hx=>LC h1 h2 gs e' h' ho.2 hd' hx
  refine Ft ops (QP gs) e h ?_
  cases g with
  | none=>
   obtain⟨g1,g2⟩:=HG hr
   exact Hq (s:=0) (w:=true) h2 ops e h ho.1 hd (.inr g1) g2 fun e' h' _ q2 q3=>rest e' h' q2 q3
  | some p=>
   obtain⟨s,w⟩:=p
   obtain⟨g1,g2⟩:=HG hr
   obtain⟨b,k1,k2,k3⟩:=Ku g2
   by_cases hw:b=some w
   ·subst hw
    refine Hq h2 ops e h ho.1 hd (.inl ⟨k1,g1⟩) (k2 rfl) fun e' h' q1 q2 q3=>rest e' h' q2 ?_
    rw[C4]at q3
    have:Fi (H_ ops) e' e=e':=by
     funext t
     rw[Cs]
     split
     ·rfl
     ·rename_i hm;exact(q1 t hm).symm
    rw[this]at q3;exact q3
   ·have k3:=k3 hw
    simp only[C4]at k3
    refine Ll hw ops e h g1 k1 (rest _ h ?_ k3)
    rw[Cs,if_neg (Ni ho.1)]
    exact hd
theorem PS {K:PK}(h1:∀e h,e Ao=.tup []→K e h→K' e h) (h2:∀v h,Kp v h→∀e,e Ao=.tup []→Kp' v e h)
  {ops:List Bz} {e:Env} {h:AH} (hd:e Ao=.tup []) (hr:eR P Kp ops e h K):Cp P ops e h K' Kp':=by
 obtain⟨g1,g2⟩:=HG hr
 have:=LC h1 h2 (dV ops) e h (by rw[Gq];exact g1) hd g2
 rw[Gq]at this;exact this
end
end Go.AL
 
end
noncomputable section
namespace Go.AL
variable [BY] [YC]
def Ej (k:AK) (H:AH) (K:AV→AH→Prop):Prop:=Option.rec (motive:=fun _=>Prop) False (fun p=>Prod.rec (motive:=fun _=>Prop) (fun c f=>K (f H.next) (H.push (.cells c))) p) (D0 k emp)
theorem Nz {k:AK}{H:AH}{K:AV→AH→Prop}(h:Ej k H K):∃c f,D0 k emp=some (c,f)∧K (f H.next) (H.push (.cells c)):=by
 unfold Ej at h
 cases hk:D0 k emp with
 | none=>rw[hk]at h;exact h.elim
 | some p=>rw[hk]at h;exact⟨p.1,p.2,rfl,h⟩
theorem Ob (e:Env) (k:AK) (hk:HI k=.ef):D0 (CX e k) emp=D0 k e:=by
 cases k<;>first
  | (cases hk;done)
  | rfl
  | (simp only[D0,CX,Kk];done)
def Y1 (k:AK) (e:Env) (H:AH) (K:AV→AH→Prop):Prop:=
 (fun(_:Nat)=>PB.rec (motive:=fun _=>Prop) (fun x=>K (x.ev e) H) (fun t x=>K (.ifc t (x.ev e)) H) (fun f a b=>K (.fn f (FU e a) (FU e b)) H) (fun _ _=>False) (fun _=>False) False
  (AB (CX e k) fun v=>K v H) (AP (CX e k) H fun v=>K v H) (Ej (CX e k) H K) (HI k)) MG
def TK (P:Program) (Kp:AV→AH→Prop) (eff:Bool) (k:AK) (e:Env) (H:AH) (K:AV→AH→Prop):Prop:=
 (fun(_:Nat)=>Bool.rec (motive:=fun _=>Prop) (Y1 k e H K) (PX P k e H Kp K) eff) MG
theorem RW {k:AK}{e:Env}{H:AH}{K:AV→AH→Prop}(h:Y1 k e H K):(∃v,Ap k e=some v∧K v H)∨(∃v,Ap k e=none∧Ba k e H=some v∧Ba (CX e k) emp H=some v∧K v H∧HI k=.rd) ∨
  (∃c f,Ap k e=none∧Ba k e H=none∧D0 k e=some (c,f)∧K (f H.next) (H.push (.cells c))):=by
 have h:PB.rec (motive:=fun _=>Prop) (fun x=>K (x.ev e) H) (fun t x=>K (.ifc t (x.ev e)) H) (fun f a b=>K (.fn f (FU e a) (FU e b)) H) (fun _ _=>False) (fun _=>False) False
  (AB (CX e k) fun v=>K v H) (AP (CX e k) H fun v=>K v H) (Ej (CX e k) H K) (HI k):=h
 cases hc:HI k with
 | mv x=>
  rw[hc]at h
  cases k<;>(try (cases hc;done))<;>(try (simp[HI]at hc;done))
  simp only[HI,PB.mv.injEq]at hc;subst hc
  exact .inl ⟨_,rfl,h⟩
 | ifc t x=>
  rw[hc]at h
  cases k<;>(try (cases hc;done))<;>(try (simp[HI]at hc;done))
  simp only[HI,PB.ifc.injEq]at hc;obtain⟨rfl,rfl⟩:=hc
  exact .inl ⟨_,rfl,h⟩
 | fnc f a b=>
  rw[hc]at h
  cases k<;>(try (cases hc;done))<;>(try (simp[HI]at hc;done))
  simp only[HI,PB.fnc.injEq]at hc;obtain⟨rfl,rfl,rfl⟩:=hc
  exact .inl ⟨_,by simp only[Ap,←GD],h⟩
 | call f args=>rw[hc]at h;exact h.elim
 | pan x=>rw[hc]at h;exact h.elim
 | no=>rw[hc]at h;exact h.elim
 | pu=>
  rw[hc]at h
  obtain⟨v,h1,h2⟩:=Kt h
  rw[LS e k hc]at h1
  exact .inl ⟨v,h1,h2⟩
 | rd=>
  rw[hc]at h
  obtain⟨v,h1,h2⟩:=IJ h
  obtain⟨g1,g2⟩:=Io e H k hc
  exact .inr (.inl ⟨v,g2,by rw[←g1];exact h1,h1,h2,rfl⟩)
 | ef=>
  rw[hc]at h
  obtain⟨c,f,h1,h2⟩:=Nz h
  obtain⟨_,g2,g3⟩:=LU e H k hc
  rw[Ob e k hc]at h1
  exact .inr (.inr ⟨c,f,g2,g3,h1,h2⟩)
def OO (P:Program) (Kp:AV→AH→Prop) (its:List Cv):Env→AH→PK→Prop:=
 List.rec (motive:=fun _=>Env→AH→PK→Prop) (fun e h K=>K e h) (fun it _ ih e h K=>TK P Kp it.eff it.o.k e h fun v h'=>ih (e.put it.o.dst v) h' K) its
def Y2 (P:Program) (Kp:AV→AH→Prop) (g:KX) (e:Env) (h:AH) (K:PK):Prop:=Prod.rec (motive:=fun _=>Prop) (fun g its=>Option.rec (motive:=fun _=>Prop)
  (Bool.rec (motive:=fun _=>Prop) False (OO P Kp its e h K) (its.all (fun it=>it.o.gd.isNone)))
  (fun p=>Prod.rec (motive:=fun _=>Prop) (fun s w=>Bool.rec (motive:=fun _=>Prop) False (Am w (e s) (KR (Ev its) e K) (fun J=>OO P Kp its e h (EH (Ev its) J)) (fun J=>EH (Ev its) J (fun _=>AI) h)) (its.all (fun it=>DO s w it.o))) p) g) g
def QX (P:Program) (Kp:AV→AH→Prop) (gs:List KX):Env→AH→PK→Prop:=
 List.rec (motive:=fun _=>Env→AH→PK→Prop) (fun e h K=>K e h) (fun g _ ih e h K=>Y2 P Kp g e h fun e' h'=>ih e' h' K) gs
section
variable {P:Program}{Kp:AV→AH→Prop}{ep:Env}{K':Env→AH→Prop}{Kp':AV→Env→AH→Prop}
theorem Jo {i pre:Nat}{d:Option Nat}{k:AK}{eff:Bool}{l:List Cv}{e:Env}{h:AH}{pend:Dl}{K:AV→AH→Prop}(hr:TK P Kp eff k e h K)
  (h1:∀v h' pend',K v h'→BO P ep K' Kp' l (e.put d v) h' pend') (h2:∀v h',Kp v h'→Kp' v ep h'):BO P ep K' Kp' (⟨i,⟨d,k,none⟩,pre,[],eff⟩::l) e h pend:=by
 cases eff with
 | true=>exact Qb (G1 (fun v H' hk=>⟨trivial,h1 v H' pend hk⟩) (fun v H' hk=>h2 v H' hk) (GA hr).1)
 | false=>
  rcases RW hr with⟨v,g1,g2⟩ | ⟨v,g0,g1,_,g2,_⟩ | ⟨c,f,g0,g1,g2,g3⟩
  ·exact Hr g1 (h1 v h pend g2)
  ·exact NM g0 g1 (h1 v h _ g2)
  ·exact QZ g0 g1 g2 (h1 _ _ _ g3)
theorem Gd {s:Nat}{w:Bool}{K:PK}{rest:List Cv}(h2:∀v h,Kp v h→Kp' v ep h):∀(its:List Cv) (e:Env) (h:AH) (pend:Dl),its.all O_=true→e Ao=.tup [] →
  (I7 (e s)=some (some w)∧its.all (fun it=>DO s w it.o)=true∨its.all (fun it=>it.o.gd.isNone)=true)→OO P Kp its e h K →
  (∀e' h' pend',(∀t,t ∉ Ev its→e' t=e t)→e' Ao=.tup []→K e' h'→BO P ep K' Kp' rest e' h' pend')→BO P ep K' Kp' (its++rest) e h pend
 | [],e,h,pend,_,hd,_,hr,h1=>h1 e h pend (fun _ _=>rfl) hd hr
 | it::its,e,h,pend,ho,hd,hg,hr,h1=>by
  have hr:TK P Kp it.eff it.o.k e h fun v h'=>OO P Kp its (e.put it.o.dst v) h' K:=hr
  simp only[List.all_cons,Bool.and_eq_true]at ho hg
  obtain⟨ho1,ho2⟩:=ho
  simp only[O_,Bool.and_eq_true]at ho1
  have hd':∀v,(e.put it.o.dst v) Ao=.tup []:=fun v=>by rw[B0 (DW ho1.1)];exact hd
  have go:∀v h' pend',(I7 ((e.put it.o.dst v) s)=some (some w)∧its.all (fun it=>DO s w it.o)=true∨its.all (fun it=>it.o.gd.isNone)=true)→OO P Kp its (e.put it.o.dst v) h' K→BO P ep K' Kp' (its++rest) (e.put it.o.dst v) h' pend':=fun v h' pend' hg' hx=>
   Gd h2 its (e.put it.o.dst v) h' pend' ho2 (hd' v) hg' hx fun e' h'' pend'' q1 q2 q3=>h1 e' h'' pend'' (fun t ht=>by
    have ht:t ∉ Gu it.o.dst (Ev its):=ht
    rw[Eh,not_or]at ht
    rw[q1 t ht.2,B0 ht.1]) q2 q3
  obtain⟨i,⟨dst,k,gd⟩,pre,fl,eff⟩:=it
  have hfl:=ho1.2
  simp only[List.isEmpty_iff]at hfl
  subst hfl
  rcases hg with⟨g1,g2,g3⟩ | ⟨g2,g3⟩
  ·obtain⟨hh,g4⟩:=D_ g2
   simp only at hh g4
   subst hh
   exact OR g1 (fun _=>Jo hr (fun v h' pend' hx=>go v h' pend' (.inl ⟨by simp only;rw[B0 g4];exact g1,g3⟩) hx) h2) (fun hn=>absurd rfl hn)
  ·simp only[Option.isNone_iff_eq_none]at g2
   subst g2
   exact Jo hr (fun v h' pend' hx=>go v h' pend' (.inr g3) hx) h2
theorem Jn {K:PK}(h1:∀e h,e Ao=.tup []→K e h→K' e h) (h2:∀v h,Kp v h→Kp' v ep h) :
  ∀(gs:List KX) (e:Env) (h:AH) (pend:Dl),(IP gs).all O_=true→e Ao=.tup []→QX P Kp gs e h K→BO P ep K' Kp' (IP gs) e h pend
 | [],e,h,pend,_,hd,hr=>h1 e h hd hr
 | (g,its)::gs,e,h,pend,ho,hd,hr=>by
  have hr:Y2 P Kp (g,its) e h fun e' h'=>QX P Kp gs e' h' K:=hr
  change (its++IP gs).all O_=true at ho
  rw[List.all_append,Bool.and_eq_true]at ho
  have rest:∀e' h' pend',e' Ao=.tup []→QX P Kp gs e' h' K→BO P ep K' Kp' (IP gs) e' h' pend':=fun e' h' pend' hd' hx=>Jn h1 h2 gs e' h' pend' ho.2 hd' hx
  show BO P ep K' Kp' (its++IP gs) e h pend
  cases g with
  | none=>
   obtain⟨g1,g2⟩:=HG hr
   exact Gd (s:=0) (w:=true) h2 its e h pend ho.1 hd (.inr g1) g2 fun e' h' pend' _ q2 q3=>rest e' h' pend' q2 q3
  | some p=>
   obtain⟨s,w⟩:=p
   obtain⟨g1,g2⟩:=HG hr
   obtain⟨b,k1,k2,k3⟩:=Ku g2
   by_cases hw:b=some w
   ·subst hw
    refine Gd h2 its e h pend ho.1 hd (.inl ⟨k1,g1⟩) (k2 rfl) fun e' h' pend' q1 q2 q3=>rest e' h' pend' q2 ?_
    rw[C4]at q3
    have:Fi (Ev its) e' e=e':=by
     funext t
     rw[Cs]
     split
     ·rfl
     ·rename_i hm;exact(q1 t hm).symm
    rw[this]at q3;exact q3
   ·have k3:=k3 hw
    simp only[C4]at k3
    refine Jc hw its e h pend g1 k1 (rest _ h _ ?_ k3)
    rw[Cs,if_neg (Lg ho.1)]
    exact hd
end
abbrev Uh:=List (Nat × (AH→Prop))
def RX (fl:List Nat) (pd:Uh) (h:AH):Prop:=List.rec (motive:=fun _=>Prop) True (fun p _ ih=>Bool.rec (motive:=fun _=>Prop) ih (p.2 h∧ih) (OV p.1 fl)) pd
theorem QY {fl:List Nat}{h:AH}:∀{pd:Uh},RX fl pd h→∀p∈pd,p.1∈fl→p.2 h
 | p::pd,hk,q,hq,hf=>by
  have hk:Bool.rec (motive:=fun _=>Prop) (RX fl pd h) (p.2 h∧RX fl pd h) (OV p.1 fl):=hk
  cases hq with
  | head=>rw[NT hf]at hk;exact hk.1
  | tail _ hq=>
   refine QY (pd:=pd) ?_ q hq hf
   cases hm:OV p.1 fl with
   | false=>rw[hm]at hk;exact hk
   | true=>rw[hm]at hk;exact hk.2
def Fw (pd:Uh) (pend:Dl):Prop:=∀i p,pend.lookup i=some p→∃b,(i,b)∈pd∧∀x,b x→p x
theorem Fw.more {pd:Uh}{pend:Dl}(h:Fw pd pend) (q:Nat × (AH→Prop)):Fw (q::pd) pend:=fun i p hi=>let ⟨b,h1,h2⟩:=h i p hi;⟨b,.tail _ h1,h2⟩
theorem Fw.cons {pd:Uh}{pend:Dl}(h:Fw pd pend){i:Nat}{b:AH→Prop}{p:AH→Prop}(hp:∀x,b x→p x):Fw ((i,b)::pd) ((i,p)::pend):=fun j q hj=>by
 rw[List.lookup_cons]at hj
 by_cases hij:(j==i)=true
 ·rw[hij]at hj
  simp only[Option.some.injEq]at hj
  subst hj
  have:j=i:=by simpa using hij
  subst this
  exact⟨b,.head _,hp⟩
 ·simp only[Bool.not_eq_true]at hij
  rw[hij]at hj
  obtain⟨b',h1,h2⟩:=h j q hj
  exact⟨b',.tail _ h1,h2⟩
theorem Fw.PA {pd:Uh}{pend:Dl}(hp:Fw pd pend){h:AH}:∀{fl fl':List Nat},(∀i∈fl',i∈fl)→RX fl pd h→PA fl' pend h
 | _,[],_,_=>trivial
 | fl,i::is,hs,hk=>by
  refine⟨?_,Fw.PA hp (fun j hj=>hs j (.tail _ hj)) hk⟩
  cases hl:pend.lookup i with
  | none=>trivial
  | some p=>
   obtain⟨b,h1,h2⟩:=hp i p hl
   exact h2 h (QY hk _ h1 (hs i (.head _)))
abbrev PG:=AV→(AH→Prop)→AH→Prop
def Fz:AH→Prop:=fun _=>True
def B3 (k:AK) (v:AV):AH→Prop:=fun H=>Ba k emp H=some v
def SQ (k:AK) (r:Nat):AH→Prop:=fun H=>∃c f,D0 k emp=some (c,f)∧H.get r=some (.cells c)
def N1 (w:Bool) (v:AV) (h:AH) (J:PG) (A:PG→Prop):Prop:=N0 w v (A J) (J AI Fz h)
def ON (P:Program) (Kp:AV→AH→Prop) (eff:Bool) (fl:List Nat) (pd:Uh) (k:AK) (e:Env) (H:AH) (K:PG):Prop:=
 (fun(_:Nat)=>Bool.rec (motive:=fun _=>Prop)
  (PB.rec (motive:=fun _=>Prop) (fun x=>K (x.ev e) Fz H) (fun t x=>K (.ifc t (x.ev e)) Fz H) (fun f a b=>K (.fn f (FU e a) (FU e b)) Fz H) (fun _ _=>False) (fun _=>False) False
   (AB (CX e k) fun v=>K v Fz H) (AP (CX e k) H fun v=>K v (B3 (CX e k) v) H) (Ej (CX e k) H fun v H'=>K v (SQ (CX e k) H.next) H') (HI k))
  (PX P k e H Kp fun v H'=>RX fl pd H'∧K v Fz H') eff) MG
def Mf (P:Program) (Kp:AV→AH→Prop) (l:List Cv):Env→AH→Uh→PK→Prop:=
 (fun(_:Nat)=>List.rec (motive:=fun _=>Env→AH→Uh→PK→Prop) (fun e h _ K=>K e h) (fun it _ ih e h pd K=>
  Option.rec (motive:=fun _=>Prop) (ON P Kp it.eff it.fl pd it.o.k e h fun v c h'=>ih (e.put it.o.dst v) h' ((it.i,c)::pd) K)
   (fun p=>N1 p.2 (e p.1) h (fun v c h'=>ih (e.put it.o.dst v) h' ((it.i,c)::pd) K) fun J=>ON P Kp it.eff it.fl pd it.o.k e h J) it.o.gd) l) MG
section
variable {P:Program}{Kp:AV→AH→Prop}{ep:Env}{K':Env→AH→Prop}{Kp':AV→Env→AH→Prop}
theorem Jl {i pre:Nat}{d:Option Nat}{k:AK}{eff:Bool}{fl:List Nat}{pd:Uh}{l:List Cv}{e:Env}{h:AH}{pend:Dl}(hp:Fw pd pend){K:PG}(hr:ON P Kp eff fl pd k e h K)
  (h1:∀v c h' pend',Fw ((i,c)::pd) pend'→K v c h'→BO P ep K' Kp' l (e.put d v) h' pend') (h2:∀v h',Kp v h'→Kp' v ep h'):BO P ep K' Kp' (⟨i,⟨d,k,none⟩,pre,fl,eff⟩::l) e h pend:=by
 cases eff with
 | true=>
  have hr:PX P k e h Kp fun v H'=>RX fl pd H'∧K v Fz H':=hr
  exact Qb (G1 (fun v H' hk=>⟨hp.PA (fun _ hi=>hi) hk.1,h1 v Fz H' pend (hp.more _) hk.2⟩) (fun v H' hk=>h2 v H' hk) (GA hr).1)
 | false=>
  have hr:PB.rec (motive:=fun _=>Prop) (fun x=>K (x.ev e) Fz h) (fun t x=>K (.ifc t (x.ev e)) Fz h) (fun f a b=>K (.fn f (FU e a) (FU e b)) Fz h) (fun _ _=>False) (fun _=>False) False
   (AB (CX e k) fun v=>K v Fz h) (AP (CX e k) h fun v=>K v (B3 (CX e k) v) h) (Ej (CX e k) h fun v H'=>K v (SQ (CX e k) h.next) H') (HI k):=hr
  cases hc:HI k with
  | mv x=>
   rw[hc]at hr
   cases k<;>(try (cases hc;done))<;>(try (simp[HI]at hc;done))
   simp only[HI,PB.mv.injEq]at hc;subst hc
   exact Hr rfl (h1 _ _ _ _ (hp.more _) hr)
  | ifc t x=>
   rw[hc]at hr
   cases k<;>(try (cases hc;done))<;>(try (simp[HI]at hc;done))
   simp only[HI,PB.ifc.injEq]at hc;obtain⟨rfl,rfl⟩:=hc
   exact Hr rfl (h1 _ _ _ _ (hp.more _) hr)
  | fnc f a b=>
   rw[hc]at hr
   cases k<;>(try (cases hc;done))<;>(try (simp[HI]at hc;done))
   simp only[HI,PB.fnc.injEq]at hc;obtain⟨rfl,rfl,rfl⟩:=hc
   exact Hr (by simp only[Ap,←GD]) (h1 _ _ _ _ (hp.more _) hr)
  | call f args=>rw[hc]at hr;exact hr.elim
  | pan x=>rw[hc]at hr;exact hr.elim
  | no=>rw[hc]at hr;exact hr.elim
  | pu=>
   rw[hc]at hr
   obtain⟨v,g1,g2⟩:=Kt hr
   rw[LS e k hc]at g1
   exact Hr g1 (h1 v _ _ _ (hp.more _) g2)
  | rd=>
   rw[hc]at hr
   obtain⟨v,g1,g2⟩:=IJ hr
   obtain⟨q1,q2⟩:=Io e h k hc
   rw[q1]at g1
   exact NM q2 g1 (h1 v _ h _ (hp.cons fun x hx=>by rw[←(Io e x k hc).1];exact hx) g2)
  | ef=>
   rw[hc]at hr
   obtain⟨c,f,g1,g2⟩:=Nz hr
   obtain⟨_,q2,q3⟩:=LU e h k hc
   have g1':=g1
   rw[Ob e k hc]at g1'
   refine QZ q2 q3 g1' (h1 _ _ _ _ (hp.cons fun x hx=>?_) g2)
   obtain⟨c',f',k1,k2⟩:=hx
   rw[g1]at k1;cases k1;exact k2
theorem Jk {K:PK}(h1:∀e h,e Ao=.tup []→K e h→K' e h) (h2:∀v h,Kp v h→Kp' v ep h) :
  ∀(l:List Cv) (e:Env) (h:AH) (pd:Uh) (pend:Dl),Fw pd pend→l.all (fun it=>My it.o)=true→e Ao=.tup []→Mf P Kp l e h pd K→BO P ep K' Kp' l e h pend
 | [],e,h,pd,pend,_,_,hd,hr=>h1 e h hd hr
 | ⟨i,⟨dst,k,gd⟩,pre,fl,eff⟩::l,e,h,pd,pend,hp,ho,hd,hr=>by
  simp only[List.all_cons,Bool.and_eq_true]at ho
  have go:∀v c h' pend',Fw ((i,c)::pd) pend'→Mf P Kp l (e.put dst v) h' ((i,c)::pd) K→BO P ep K' Kp' l (e.put dst v) h' pend':=fun v c h' pend' hp' hx=>
   Jk h1 h2 l _ h' _ pend' hp' ho.2 (by rw[B0 (DW ho.1)];exact hd) hx
  cases gd with
  | none=>
   have hr:ON P Kp eff fl pd k e h fun v c h'=>Mf P Kp l (e.put dst v) h' ((i,c)::pd) K:=hr
   exact Jl hp hr (fun v c h' pend' q1 q2=>go v c h' pend' q1 q2) h2
  | some p=>
   obtain⟨s,w⟩:=p
   have hr:N0 w (e s) (ON P Kp eff fl pd k e h fun v c h'=>Mf P Kp l (e.put dst v) h' ((i,c)::pd) K) (Mf P Kp l (e.put dst AI) h ((i,Fz)::pd) K):=hr
   obtain⟨b,k1,k2,k3⟩:=Ku hr
   exact OR k1 (fun hw=>Jl hp (k2 hw) (fun v c h' pend' q1 q2=>go v c h' pend' q1 q2) h2) (fun hw=>go AI Fz h pend (hp.more _) (k3 hw))
end
def TJ (P:Program) (Kp:AV→AH→Prop) (plan:List Cv) (e:Env) (h:AH) (K:PK):Prop:=
 Bool.rec (motive:=fun _=>Prop) (Bool.rec (motive:=fun _=>Prop) False (Mf P Kp plan e h [] K) (plan.all (fun it=>My it.o))) (QX P Kp (Rg plan) e h K) (plan.all O_)
theorem OP {P:Program}{Kp:AV→AH→Prop}{K':Env→AH→Prop}{Kp':AV→Env→AH→Prop}{K:PK}(h1:∀e h,e Ao=.tup []→K e h→K' e h) (h2:∀v h,Kp v h→∀e,e Ao=.tup []→Kp' v e h)
  {plan:List Cv} {e:Env} {h:AH} (hd:e Ao=.tup []) (hr:TJ P Kp plan e h K):BO P (Gw plan e) K' Kp' plan e h []:=by
 unfold TJ at hr
 cases hf:plan.all O_ with
 | true=>
  rw[hf]at hr
  have hd':plan.all (fun it=>My it.o)=true:=by
   rw[List.all_eq_true]at hf ⊢
   intro x hx
   have:=hf x hx
   simp only[O_,Bool.and_eq_true]at this
   exact this.1
  have:=Jn (ep:=Gw plan e) (Kp':=Kp') h1 (fun v h hv=>h2 v h hv _ (by rw[HO hd'];exact hd)) (Rg plan) e h [] (by rw[Fm];exact hf) hd hr
  rw[Fm]at this;exact this
 | false=>
  rw[hf]at hr
  obtain⟨g1,g2⟩:=HG hr
  exact Jk h1 (fun v h hv=>h2 v h hv _ (by rw[HO g1];exact hd)) plan e h [] [] (fun i p hi=>by cases hi) g1 hd g2
end Go.AL
 
end
noncomputable section
namespace Go.AL
variable [BY]
def B7 (ds:AV) (e:Env):Env:=e.set Ao ds
theorem Cj {ds:AV}{e:Env}{t:Nat}(h:t≠Ao):B7 ds e t=e t:=by simp[B7,Env.B4,h]
theorem Dp (ds:AV) (e:Env):B7 ds e Ao=ds:=by simp[B7,Env.B4]
theorem IW {ds:AV}{e:Env}{d:Option Nat}{v:AV}(h:d≠some Ao):(B7 ds e).put d v=B7 ds (e.put d v):=by
 cases d with
 | none=>rfl
 | some d=>
  have h:d≠Ao:=fun x=>h (by rw[x])
  funext t
  simp only[Env.put,B7,Env.B4]
  by_cases h1:t=d
  ·subst h1;rw[if_pos rfl,if_neg h,if_pos rfl]
  ·rw[if_neg h1]
   by_cases h2:t=Ao
   ·rw[if_pos h2,if_pos h2]
   ·rw[if_neg h2,if_neg h2,if_neg h1]
def Ss (l:List Nat):Bool:=l.all fun t=>Nat.ble (t+1) Ao
theorem K0 {l:List Nat}(h:Ss l=true):∀t∈l,t≠Ao:=fun t ht=>by
 have:=List.all_eq_true.1 h t ht
 have:=Nat.le_of_ble_eq_true this
 omega
def Pa (o:Bz):Bool:=Ss o.k.tmps&&(!o.k.Bv&&(My o&&(match o.gd with | none=>true | some (s,_)=>Nat.ble (s+1) Ao)))
section
variable {P:Program}{ds:AV}
theorem IQ {k:AK}{e:Env}(h:Ss k.tmps=true):∀t∈k.tmps,e t=B7 ds e t:=fun t ht=>(Cj (K0 h t ht)).symm
theorem JK {o:Bz}(h:Pa o=true):Ss o.k.tmps=true∧o.k.Bv=false∧o.dst≠some Ao∧∀s w,o.gd=some (s,w)→s≠Ao:=by
 simp only[Pa,Bool.and_eq_true,Bool.not_eq_true']at h
 obtain⟨h1,h2,h3,h4⟩:=h
 refine⟨h1,h2,DW h3,fun s w hg=>?_⟩
 rw[hg]at h4
 have:=Nat.le_of_ble_eq_true h4
 omega
theorem Nl [YC] {K K':Env→AH→Prop}{Kp Kp':AV→Env→AH→Prop}(hK:∀e H,K e H→K' (B7 ds e) H) (hKp:∀v e H,Kp v e H→Kp' v (B7 ds e) H):∀(ops:List Bz) (e:Env) (H:AH),ops.all Pa=true→Cp P ops e H K Kp→Cp P ops (B7 ds e) H K' Kp'
 | [],e,H,_,h=>hK e H h
 | ⟨dst,k,gd⟩::ops,e,H,ho,h=>by
  rw[List.all_cons,Bool.and_eq_true]at ho
  obtain⟨o1,o2,o3,o4⟩:=JK ho.1
  have go:Fy P k e H (fun v H'=>Cp P ops (e.put dst v) H' K Kp) (fun v H'=>Kp v e H')→Fy P k (B7 ds e) H (fun v H'=>Cp P ops ((B7 ds e).put dst v) H' K' Kp') (fun v H'=>Kp' v (B7 ds e) H'):=fun h=>by
   rw[←JZ (IQ (ds:=ds) o1)]
   exact G1 (fun v H' hx=>by rw[IW o3];exact Nl hK hKp ops _ H' ho.2 hx) (fun v H' hx=>hKp v e H' hx) h
  cases gd with
  | none=>
   have h:Fy P k e H (fun v H'=>Cp P ops (e.put dst v) H' K Kp) (fun v H'=>Kp v e H'):=by
    clear go
    cases k<;>first | (cases o2;done) | exact h
   exact JY o2 (go h)
  | some g=>
   obtain⟨s,w⟩:=g
   have hs:=o4 s w rfl
   have h:match I7 (e s)with
    | some b=>(b=some w→Fy P k e H (fun v H'=>Cp P ops (e.put dst v) H' K Kp) (fun v H'=>Kp v e H'))∧(b≠some w→Cp P ops (e.put dst AI) H K Kp)
    | none=>False:=h
   split at h
   ·rename_i b hb
    refine QM (b:=b) (by rw[Cj hs];exact hb) (fun hw=>go (h.1 hw)) fun hw=>?_
    rw[IW o3]
    exact Nl hK hKp ops _ H ho.2 (h.2 hw)
   ·exact h.elim
theorem O1 [YC] {K K':Env→AH→Prop}{Kp Kp':AV→Env→AH→Prop}{ep:Env}(hK:∀e H,K e H→K' (B7 ds e) H) (hKp:∀v H,Kp v ep H→Kp' v (B7 ds ep) H):∀(its:List Cv) (e:Env) (H:AH) (pend:Dl),its.all (fun it=>Pa it.o)=true→BO P ep K Kp its e H pend→BO P (B7 ds ep) K' Kp' its (B7 ds e) H pend
 | [],e,H,_,_,h=>hK e H h
 | it::l,e,H,pend,ho,h=>by
  rw[List.all_cons,Bool.and_eq_true]at ho
  obtain⟨o1,o2,o3,o4⟩:=JK ho.1
  have c1:=fun H'=>Gz (H:=H') (IQ (ds:=ds) (e:=e) o1)
  have c2:=G0 (IQ (ds:=ds) (e:=e) o1)
  have c3:=Ln (IQ (ds:=ds) (e:=e) o1)
  have rec':∀v H' pend',BO P ep K Kp l (e.put it.o.dst v) H' pend'→BO P (B7 ds ep) K' Kp' l ((B7 ds e).put it.o.dst v) H' pend':=fun v H' pend' hx=>by
   rw[IW o3];exact O1 hK hKp l _ H' pend' ho.2 hx
  simp only[BO]at h ⊢
  have step:(if it.eff then Fy P it.o.k e H (fun v H'=>PA it.fl pend H'∧BO P ep K Kp l (e.put it.o.dst v) H' pend) (fun v H'=>Kp v ep H')
   else match Ap it.o.k e with
    | some v=>BO P ep K Kp l (e.put it.o.dst v) H pend
    | none=>match Ba it.o.k e H with
     | some v=>BO P ep K Kp l (e.put it.o.dst v) H ((it.i,fun H'=>Ba it.o.k e H'=some v)::pend)
     | none=>match D0 it.o.k e with
      | some (c,f)=>BO P ep K Kp l (e.put it.o.dst (f H.next)) (H.push (.cells c)) ((it.i,fun H'=>H'.get H.next=some (.cells c))::pend)
      | none=>False)→(if it.eff then Fy P it.o.k (B7 ds e) H (fun v H'=>PA it.fl pend H'∧BO P (B7 ds ep) K' Kp' l ((B7 ds e).put it.o.dst v) H' pend) (fun v H'=>Kp' v (B7 ds ep) H')
   else match Ap it.o.k (B7 ds e)with
    | some v=>BO P (B7 ds ep) K' Kp' l ((B7 ds e).put it.o.dst v) H pend
    | none=>match Ba it.o.k (B7 ds e) H with
     | some v=>BO P (B7 ds ep) K' Kp' l ((B7 ds e).put it.o.dst v) H ((it.i,fun H'=>Ba it.o.k (B7 ds e) H'=some v)::pend)
     | none=>match D0 it.o.k (B7 ds e)with
      | some (c,f)=>BO P (B7 ds ep) K' Kp' l ((B7 ds e).put it.o.dst (f H.next)) (H.push (.cells c)) ((it.i,fun H'=>H'.get H.next=some (.cells c))::pend)
      | none=>False):=fun h=>by
   by_cases he:it.eff=true
   ·rw[if_pos he]at h ⊢
    rw[←JZ (IQ (ds:=ds) o1)]
    exact G1 (fun v H' hx=>⟨hx.1,rec' v H' pend hx.2⟩) (fun v H' hx=>hKp v H' hx) h
   ·rw[if_neg he]at h ⊢
    rw[←c2,←c1,←c3]
    split at h
    ·exact rec' _ _ _ h
    ·split at h
     ·rename_i v hv
      have:=rec' v H _ h
      simp only[←c1];exact this
     ·split at h
      ·exact rec' _ _ _ h
      ·exact h
  split at h
  ·exact step h
  ·rename_i s w hg
   have hs:=o4 s w hg
   rw[Cj hs]
   split at h
   ·exact⟨fun hw=>step (h.1 hw),fun hw=>rec' _ _ _ (h.2 hw)⟩
   ·exact h.elim
theorem Z4 {plan:List Cv}{e:Env}(h:plan.all (fun it=>Pa it.o)=true):Gw plan (B7 ds e)=B7 ds (Gw plan e):=by
 funext t
 by_cases ht:t=Ao
 ·subst ht
  rw[Dp]
  unfold Gw
  rw[if_neg,Dp]
  intro hx
  obtain⟨it,h1,h2⟩:=List.any_eq_true.1 hx
  exact(JK (List.all_eq_true.1 h it h1)).2.2.1 (by simpa using h2)
 ·rw[Cj ht]
  unfold Gw
  rw[Cj ht]
end
def I8:CJ→Bool
 | .skip=>true
 | .reg ops=>ops.all Pa
 | .dreg plan=>plan.all fun it=>Pa it.o
 | .seq a b=>I8 a&&I8 b
 | .cond c a b=>Ss c.tmps&&(I8 a&&I8 b)
 | .block _ a=>I8 a
 | .loop a=>I8 a
 | .exit _=>true
 | .ret=>true
 | .dS g ps a b=>Ss g.tmps&&(Ss ps&&(I8 a&&I8 b))
abbrev dj:=FuncId→List AV→Option (List (List AV))
def qQ (P:Program) (its:dj):Prop:=∀g caps xs,its g caps=some xs→∀H,ic P g caps H xs
def dv (as:List AV) (K:AV→List AV→KC):KC:=List.rec (motive:=fun _=>KC) .bad (fun v t _=>K v t) as
def du (as:List AV) (K:KC):KC:=List.rec (motive:=fun _=>KC) K (fun _ _ _=>.bad) as
def dt (ps:List Nat):List AV→Env→(Env→KC)→KC:=
 List.rec (motive:=fun _=>List AV→Env→(Env→KC)→KC) (fun x e K=>du x (K e)) (fun p _ ih x e K=>dv x fun v t=>ih t (e.set p v) K) ps
def dr (f:List AV→KH→(KH→KC)→KC) (xs:List (List AV)):KH→(KH→KC)→KC:=List.rec (motive:=fun _=>KH→(KH→KC)→KC) (fun h K=>K h) (fun x _ ih h K=>f x h fun h'=>ih h' K) xs
def kV (its:dj) (v:AV) (K:List (List AV)→KC):KC:=
 FP.rec (motive:=fun _=>KC) .bad (fun g first cap=>List.rec (motive:=fun _=>KC) (Option.rec (motive:=fun _=>KC) .bad K (its g cap)) (fun _ _ _=>.bad) first) (RJ v)
def pt (c:KC):KC:=KC.rec (motive:=fun _=>KC) (fun v h=>.ret v h) (fun _ _=>.bad) .bad c
def fG:Nat→EK:=(fun(_:AK→Nat) _=>OZ) VY
theorem MY:∀(ps:List Nat) (x:List AV) (e:Env) (t:Nat),t ∉ ps→Db e ps x t=e t
 | [],x,e,t,_=>by cases x<;>rfl
 | p::ps,[],e,t,_=>rfl
 | p::ps,v::x,e,t,h=>by
  show Db (e.set p v) ps x t=e t
  rw[MY ps x _ t (fun hh=>h (List.mem_cons_of_mem _ hh)),Env.F8 _ _ (fun hh=>h (by rw[hh];exact List.mem_cons_self ..))]
theorem K5 {d:AV}:∀(ps:List Nat) (x:List AV) (e:Env),Ss ps=true→Db (B7 d e) ps x=B7 d (Db e ps x)
 | [],x,e,_=>by cases x<;>rfl
 | p::ps,[],e,_=>rfl
 | p::ps,v::x,e,h=>by
  have hp:p≠Ao:=K0 h p (List.mem_cons_self ..)
  have h2:Ss ps=true:=by
   simp only[Ss,List.all_cons,Bool.and_eq_true]at h ⊢;exact h.2
  show Db ((B7 d e).set p v) ps x=B7 d (Db (e.set p v) ps x)
  rw[←K5 ps x (e.set p v) h2]
  have:(B7 d e).set p v=B7 d (e.set p v):=IW (d:=some p) (fun hh=>hp (by cases hh;rfl))
  rw[this]
theorem TA {d:AV}{ps:List Nat}{x:List AV}{e:Env}(h:Ss ps=true) (hd:e Ao=.tup []):OG (B7 d e) ps x=B7 (.tup []) (Db e ps x):=by
 unfold OG
 rw[K5 ps x e h]
 funext t
 by_cases ht:t=Ao
 ·subst ht;rw[Env.FY,Dp]
 ·rw[Env.F8 _ _ ht,Cj ht,Cj ht]
def runM (its:dj) (call:Bq) (c:CJ):HT→EK→(Nat→EK)→EK→EK:=
 CJ.rec (motive:=fun _=>HT→EK→(Nat→EK)→EK→EK)
  (fun _ kn _ _=>kn)
  (fun ops _ kn _ _ e h=>Zl call ops e h kn)
  (fun plan _ kn _ _ e h=>Qo call plan e h kn)
  (fun _ _ ra rb t kn ke kr=>HT.rec (motive:=fun _=>EK) OZ (fun x y _ _=>ra x (rb y kn ke kr) ke kr) (fun _ _ _ _=>OZ) (fun _ _ _ _ _=>OZ) t)
  (fun c _ _ ra rb t kn ke kr e h=>HT.rec (motive:=fun _=>KC) .bad (fun _ _ _ _=>.bad) (fun x y _ _=>AQ (c.ev e) (ra x kn ke kr e h) (rb y kn ke kr e h))
   (fun l x y _ _=>CN (c.ev e) (Hw l BS kn) (fun J=>ra x (Ci l J) ke kr e h) (fun J=>rb y (Ci l J) ke kr e h)) t)
  (fun id _ ra t kn ke kr e h=>HT.rec (motive:=fun _=>KC) .bad (fun _ _ _ _=>.bad) (fun x _ _ _=>ra x kn (Pl id kn ke) kr e h)
   (fun l x _ _ _=>MU (Hw l BS kn) fun J=>ra x (Ci l J) (Pl id (Ci l J) ke) kr e h) t)
  (fun _ ra t _ ke kr e h=>HT.rec (motive:=fun _=>KC) .bad (fun _ _ _ _=>.bad) (fun _ _ _ _=>.bad)
   (fun l x _ _ _=>Ci l (Ad (BH l) fun self=>Hw l BS fun e h=>ra x (Ci l self) ke kr e h) e h) t)
  (fun id _ _ ke _=>ke id)
  (fun _ _ _ kr=>kr)
  (fun g ps _ _ ra rb t kn _ _ e h=>HT.rec (motive:=fun _=>KC) .bad (fun a b _ _=>pt (kV its (g.ev e) fun xs=>
   dr (fun x h K=>dt ps x e fun e=>ra a (rb b (fun _ h=>K h) fG OZ) fG OZ e h) xs h fun h=>kn e h)) (fun _ _ _ _=>.bad) (fun _ _ _ _ _=>.bad) t) c
def wF (M:List AV→Prop) (r:KC) (kn:EK) (ke:Nat→EK) (kr:EK):Ex→Env→AH→Prop:=fun x E H=>∃e ds,M ds∧E=B7 (.tup ds) e∧KQ r kn ke kr x e H
theorem Ij {ds:AV}{l:List Nat}{e:Env}{H:AH}(hd:e Ao=.tup []):VS (B7 ds e) H (B7 ds (Fi l e BS)) H:=
 VS.Tm (fun t=>by
  by_cases h:t=Ao
  ·subst h;rw[Dp,Dp];exact .inl rfl
  ·rw[Cj h,Cj h];exact(Cw hd).1 t) (by rw[Dp,Dp])
section
variable {P:Program}{call:Bq}{r:KC}{n:Nat}{hs:Hints}{its:dj}
end
end Go.AL
 
end
namespace Go.AL
variable [BY]
section
variable {P:Program}
def dT (q:List Da):Bool:=q.all fun x=>match x with
 | .tmp t=>Nat.ble (t+1) Ao
 | .cell a _=>Nat.ble (a+1) Ao
theorem I0 {ds:AV}{e:Env}{H:AH}:∀q:List Da,dT q=true→DY (B7 ds e) H q=DY e H q
 | [],_=>rfl
 | .tmp t::q,h=>by
  simp only[dT,List.all_cons,Bool.and_eq_true]at h
  have:=Nat.le_of_ble_eq_true h.1
  simp only[DY,I0 q h.2,Cj (ds:=ds) (e:=e) (t:=t) (by omega)]
 | .cell a g::q,h=>by
  simp only[dT,List.all_cons,Bool.and_eq_true]at h
  have:=Nat.le_of_ble_eq_true h.1
  simp only[DY,I0 q h.2,Cj (ds:=ds) (e:=e) (t:=a) (by omega)]
def eh:dj:=fun _ _=>none
noncomputable def p_ (np:Nat) (q:List Da) (a0 a1 a3:CJ) (t:Nat) (g:FuncId) (cp:List Ak) (t0 t1 t3:HT):Bq→List AV→KH→KC:=fun call as h=>
 pt (Qt np 0 BS as h fun e h=>run call a0 t0 (run call a1 t1 (fun e h=>runM eh call a3 t3 (Pk q) (fun _=>OZ) (Pk q) (e.set t (.fn (.func g) [] (FU e cp))) h) (fun _=>OZ) OZ) (fun _=>OZ) OZ e h)
noncomputable def pz (its:dj) (np:Nat) (q:List Da) (ac:CJ) (t:HT):Bq→List AV→KH→KC:=fun call as h=>
 Qt np 0 BS as h fun e h=>runM its call ac t (Pk q) (fun _=>OZ) (Pk q) e h
end
end Go.AL
noncomputable section
namespace Go.AL
section
variable [BY] [YC]
def TI (id:Nat) (K:PK) (ke:Nat→PK):Nat→PK:=(fun(_:Nat) i=>Bool.rec (motive:=fun _=>PK) (ke i) K (Nat.beq i id)) MG
theorem QW (id:Nat) (K:PK) (ke:Nat→PK) (i:Nat):TI id K ke i=if i=id then K else ke i:=by
 show Bool.rec (motive:=fun _=>PK) (ke i) K (Nat.beq i id)=_
 rw[DD]
 by_cases h:i=id<;>simp[h]
def SG:PK:=fun _ _=>False
def Yt (as:List AV) (K:AV→List AV→Prop):Prop:=match as with
 | v::t=>K v t
 | []=>False
def Ys (as:List AV) (K:Prop):Prop:=match as with
 | _::_=>False
 | []=>K
def SO (P:Program) (fv:AV) (H:AH) (B:List AV→AH→(AH→Prop)→Prop) (K:AH→Prop):Prop:=∃(f:FuncId) (caps:List AV) (xs:List (List AV)) (I:Nat→AH→Prop),
 fv=.fn (.func f) [] caps∧ic P f caps H xs∧I 0 H∧(∀i x Hi,xs[i]?=some x→I i Hi→H.next≤Hi.next→B x Hi (I (i+1)))∧∀Hn,I xs.length Hn→K Hn
def PD:AV→AH→Prop:=fun _ _=>False
def eP:Nat:=
 let _a:=Yt
 let _b:=Ys
 let _c:=SO
 let _d:=PD
 MG
def TM (ps:List Nat):List AV→Env→(Env→Prop)→Prop:=
 (fun(_:Nat)=>List.rec (motive:=fun _=>List AV→Env→(Env→Prop)→Prop) (fun x e K=>Ys x (K e)) (fun p _ ih x e K=>Yt x fun v t=>ih t (e.set p v) K) ps) eP
theorem Mh {K:Env→Prop}:∀(ps:List Nat) (x:List AV) (e:Env),TM ps x e K→x.length=ps.length∧K (Db e ps x)
 | [],[],e,h=>⟨rfl,h⟩
 | [],_::_,e,h=>(show False from h).elim
 | p::ps,[],e,h=>(show False from h).elim
 | p::ps,v::x,e,h=>by
  obtain⟨h1,h2⟩:=Mh ps x (e.set p v) h
  exact⟨by rw[List.length_cons,List.length_cons,h1],h2⟩
def RV:Nat→PK:=(fun(_:Nat) _=>SG) eP
def eQ (P:Program) (c:CJ):(AV→AH→Prop)→HT→PK→(Nat→PK)→PK→PK:=
 CJ.rec (motive:=fun _=>(AV→AH→Prop)→HT→PK→(Nat→PK)→PK→PK)
  (fun _ _ kn _ _=>kn)
  (fun ops Kp _ kn _ _ e h=>eR P Kp ops e h kn)
  (fun plan Kp _ kn _ _ e h=>TJ P Kp plan e h kn)
  (fun _ _ ra rb Kp t kn ke kr=>HT.rec (motive:=fun _=>PK) SG (fun x y _ _=>ra Kp x (rb Kp y kn ke kr) ke kr) (fun _ _ _ _=>SG) (fun _ _ _ _ _=>SG) t)
  (fun c _ _ ra rb Kp t kn ke kr e h=>HT.rec (motive:=fun _=>Prop) False (fun _ _ _ _=>False) (fun x y _ _=>Ag (c.ev e) (ra Kp x kn ke kr e h) (rb Kp y kn ke kr e h))
   (fun l x y _ _=>Dk (c.ev e) (KR l BS kn) (fun J=>ra Kp x (EH l J) ke kr e h) (fun J=>rb Kp y (EH l J) ke kr e h)) t)
  (fun id _ ra Kp t kn ke kr e h=>HT.rec (motive:=fun _=>Prop) False (fun _ _ _ _=>False) (fun x _ _ _=>ra Kp x kn (TI id kn ke) kr e h)
   (fun l x _ _ _=>QI (KR l BS kn) fun J=>ra Kp x (EH l J) (TI id (EH l J) ke) kr e h) t)
  (fun _ ra Kp t _ ke kr e h=>HT.rec (motive:=fun _=>Prop) False (fun _ _ _ _=>False) (fun _ _ _ _=>False)
   (fun l x _ _ _=>A_ l (fun self=>KR l BS fun e h=>ra Kp x (EH l self) ke kr e h) (Fi l e BS) h) t)
  (fun id _ _ _ ke _=>ke id)
  (fun _ _ _ _ kr=>kr)
  (fun g ps _ _ ra rb _ t kn _ _ e h=>HT.rec (motive:=fun _=>Prop) False (fun a b _ _=>SO P (g.ev e) h (fun x h K=>TM ps x e fun e=>ra PD a (rb PD b (fun _ h=>K h) RV SG) RV SG e h) fun h=>kn e h) (fun _ _ _ _=>False) (fun _ _ _ _ _=>False) t) c
def prun (P:Program) (Kp:AV→AH→Prop) (c:CJ):HT→PK→(Nat→PK)→PK→PK:=eQ P c Kp
def PQ (Kp:AV→AH→Prop) (kn:PK) (ke:Nat→PK) (kr:PK):Ex→Env→AH→Prop:=fun x e H=>e Ao=.tup []∧match x with
 | .normal=>kn e H
 | .exit i=>ke i e H
 | .ret=>kr e H
 | .pan v=>Kp v H
def ZJ (M:List AV→Prop) (Kp:AV→AH→Prop) (kn:PK) (ke:Nat→PK) (kr:PK):Ex→Env→AH→Prop:=fun x E H=>∃e ds,M ds∧E=B7 (.tup ds) e∧PQ Kp kn ke kr x e H
theorem ZJ.join {M:List AV→Prop}{Kp:AV→AH→Prop}{l:List Nat}{kn:PK}{ke:Nat→PK}{kr:PK}:∀x E H,ZJ M Kp (EH l (KR l BS kn)) ke kr x E H→eC (ZJ M Kp kn ke kr) x E H:=by
 rintro x E H ⟨e,ds,hM,rfl,hd,hx⟩
 cases x with
 | normal=>
  simp only[C4]at hx
  exact⟨_,_,Ij (l:=l) hd,_,ds,hM,rfl,(Cw hd).2,hx⟩
 | exit i=>exact B8 ⟨e,ds,hM,rfl,hd,hx⟩
 | ret=>exact B8 ⟨e,ds,hM,rfl,hd,hx⟩
 | pan v=>exact⟨e,ds,hM,rfl,hd,hx⟩
theorem Ib:∀{l:List Nat}{J:JP l}{e e':Env}{h:AH},(∀i∈l,e i=e' i)→Dq l J e h=Dq l J e' h
 | [],_,_,_,_,_=>rfl
 | i::l,J,e,e',h,hh=>by
  show Dq l (J (e i)) e h=Dq l (J (e' i)) e' h
  rw[hh i (.head _)]
  exact Ib fun j hj=>hh j (.tail _ hj)
theorem Jp:∀{l:List Nat}{J:JN l}{e e':Env}{h:AH},(∀i∈l,e i=e' i)→Gg l J e h=Gg l J e' h
 | [],_,_,_,_,_=>rfl
 | i::l,J,e,e',h,hh=>by
  show Gg l (J (e i)) e h=Gg l (J (e' i)) e' h
  rw[hh i (.head _)]
  exact Jp fun j hj=>hh j (.tail _ hj)
theorem Ia:∀(l:List Nat) (e0:Env) (f:PK) (e:Env) (h:AH),Dq l (OM l e0 f) e h=f (Fi l e e0) h
 | [],_,_,_,_=>rfl
 | i::l,e0,f,e,h=>by
  show Dq l (OM l (e0.set i (e i)) f) e h=_
  rw[Ia l];rfl
section
variable {P:Program}{n:Nat}{hs:Hints}
theorem PN (hmix:P.follows .mixedOrders=true) (hn:n≤Ao):∀(c:Code) (ac:CJ),comp P hs n c=some ac→I8 ac=true→∀(M:List AV→Prop) (ro:Option Nat),(Kf ac=true∨(ro=none∧∀ds,M ds→M (.nili::ds))) →
  ∀(Kp:AV→AH→Prop) (t:HT) (kn:PK) (ke:Nat→PK) (kr:PK) (e:Env) (h:AH) (ds:List AV),M ds→e Ao=.tup []→prun P Kp ac t kn ke kr e h→DT ro P n c (ZJ M Kp kn ke kr) (B7 (.tup ds) e) h:=by
 intro c
 induction c with
 | skip=>
  intro ac hc ho M ro hk Kp t kn ke kr e h ds hM hd hr
  simp only[comp,Option.some.injEq]at hc;subst hc
  exact DT.skip ⟨e,ds,hM,rfl,hd,hr⟩
 | exit id=>
  intro ac hc ho M ro hk Kp t kn ke kr e h ds hM hd hr
  simp only[comp,Option.some.injEq]at hc;subst hc
  exact DT.exit ⟨e,ds,hM,rfl,hd,hr⟩
 | ret=>
  intro ac hc ho M ro hk Kp t kn ke kr e h ds hM hd hr
  simp only[comp,Option.some.injEq]at hc;subst hc
  exact DT.ret ⟨e,ds,hM,rfl,hd,hr⟩
 | region id ops draw=>
  intro ac hc ho M ro hk Kp t kn ke kr e h ds hM hd hr
  have h1:∀e' h',e' Ao=.tup []→kn e' h'→PQ Kp kn ke kr .normal e' h':=fun e' h' q1 q2=>⟨q1,q2⟩
  have h2:∀v h',Kp v h'→∀e',e' Ao=.tup []→PQ Kp kn ke kr (.pan v) e' h':=fun v h' q1 e' q2=>⟨q2,q1⟩
  refine DT.ec hmix hn hc (hk.elim .inr fun h=>.inl h.1) ?_
  cases draw with
  | true=>
   simp only[comp]at hc
   split at hc<;>(try (cases hc;done))
   split at hc<;>(try (cases hc;done))
   rename_i plan hpl
   split at hc<;>(try (cases hc;done))
   simp only[Option.some.injEq]at hc;subst hc
   have hk:=OP (K':=fun e' H'=>PQ Kp kn ke kr .normal e' H') (Kp':=fun v e' H'=>PQ Kp kn ke kr (.pan v) e' H') h1 h2 hd hr
   refine Qz ?_
   rw[Z4 ho]
   exact O1 (fun e' H' q=>M_ ⟨e',ds,hM,rfl,q⟩) (fun v H' q=>⟨_,ds,hM,rfl,q⟩) plan e _ [] ho hk
  | false=>
   simp only[comp,Option.map_eq_some_iff]at hc
   obtain⟨al,hal,rfl⟩:=hc
   have hk:=PS (K':=fun e' H'=>PQ Kp kn ke kr .normal e' H') (Kp':=fun v e' H'=>PQ Kp kn ke kr (.pan v) e' H') h1 h2 hd hr
   exact UN (Nl (fun e' H' q=>M_ ⟨e',ds,hM,rfl,q⟩) (fun v e' H' q=>⟨e',ds,hM,rfl,q⟩) al e _ ho hk)
 | seq x y ihx ihy=>
  intro ac hc ho M ro hk Kp t kn ke kr e h ds hM hd hr
  simp only[comp]at hc
  split at hc
  ·rename_i ax ay hx hy
   simp only[Option.some.injEq]at hc;subst hc
   simp only[I8,Bool.and_eq_true]at ho
   cases t with
   | l=>exact(show False from hr).elim
   | i a b=>exact(show False from hr).elim
   | j l a b=>exact(show False from hr).elim
   | s a b=>
    have hr:prun P Kp ax a (prun P Kp ay b kn ke kr) ke kr e h:=hr
    refine DT.seq (DT.post ?_ (ihx ax hx ho.1 M ro (hk.imp (fun h=>by simp only[Kf,Bool.and_eq_true]at h;exact h.1) id) Kp a _ ke kr e h ds hM hd hr))
    rintro z E' H' ⟨e',ds',hM',rfl,hd',hz⟩
    refine B8 ?_
    cases z with
    | normal=>exact ihy ay hy ho.2 M ro (hk.imp (fun h=>by simp only[Kf,Bool.and_eq_true]at h;exact h.2) id) Kp b kn ke kr e' H' ds' hM' hd' hz
    | exit i=>exact⟨e',ds',hM',rfl,hd',hz⟩
    | ret=>exact⟨e',ds',hM',rfl,hd',hz⟩
    | pan v=>exact⟨e',ds',hM',rfl,hd',hz⟩
  ·cases hc
 | cond c x y ihx ihy=>
  intro ac hc ho M ro hk Kp t kn ke kr e h ds hM hd hr
  simp only[comp]at hc
  split at hc
  ·rename_i c' ax ay h1 hx hy
   simp only[Option.some.injEq]at hc;subst hc
   simp only[I8,Bool.and_eq_true]at ho
   obtain⟨hoc,hox,hoy⟩:=ho
   have k1:Kf ax=true∨(ro=none∧∀ds,M ds→M (.nili::ds)):=hk.imp (fun h=>by simp only[Kf,Bool.and_eq_true]at h;exact h.1) id
   have k2:Kf ay=true∨(ro=none∧∀ds,M ds→M (.nili::ds)):=hk.imp (fun h=>by simp only[Kf,Bool.and_eq_true]at h;exact h.2) id
   have hev:c'.ev (B7 (.tup ds) e)=c'.ev e:=Ak.Bl fun t ht=>Cj (K0 hoc t ht)
   have go:∀{A B:Prop} {Q:Ex→Env→AH→Prop},Ag (c'.ev e) A B→(A→DT ro P n x Q (B7 (.tup ds) e) h)→(B→DT ro P n y Q (B7 (.tup ds) e) h)→DT ro P n (.cond c x y) Q (B7 (.tup ds) e) h:=fun{A B Q} hi ha hbq=>by
    unfold Ag at hi
    split at hi
    ·rename_i b hb
     exact DT.cond h1 (by rw[hev];exact hb) (fun ht=>ha (hi.1 ht)) (fun ht=>hbq (hi.2 ht))
    ·exact hi.elim
   cases t with
   | l=>exact(show False from hr).elim
   | s a b=>exact(show False from hr).elim
   | i a b=>exact go hr (fun q=>ihx ax hx hox M ro k1 Kp a kn ke kr e h ds hM hd q) (fun q=>ihy ay hy hoy M ro k2 Kp b kn ke kr e h ds hM hd q)
   | j l a b=>exact go hr (fun q=>(ihx ax hx hox M ro k1 Kp a _ ke kr e h ds hM hd q).post ZJ.join) (fun q=>(ihy ay hy hoy M ro k2 Kp b _ ke kr e h ds hM hd q).post ZJ.join)
  ·cases hc
 | block id x ih=>
  intro ac hc ho M ro hk Kp t kn ke kr e h ds hM hd hr
  simp only[comp,Option.map_eq_some_iff]at hc
  obtain⟨ax,hx,rfl⟩:=hc
  cases t with
  | l=>exact(show False from hr).elim
  | s a b=>exact(show False from hr).elim
  | i a b=>
   refine DT.block ((ih ax hx ho M ro hk Kp a kn (TI id kn ke) kr e h ds hM hd hr).post ?_)
   rintro z e' H' ⟨e',ds',hM',rfl,hd',hz⟩
   refine B8 ?_
   cases z with
   | normal=>exact⟨e',ds',hM',rfl,hd',hz⟩
   | exit i=>
    simp only[QW]at hz
    simp only[]
    by_cases hi:i=id
    ·rw[if_pos hi];rw[if_pos hi]at hz;exact⟨e',ds',hM',rfl,hd',hz⟩
    ·rw[if_neg hi];rw[if_neg hi]at hz;exact⟨e',ds',hM',rfl,hd',hz⟩
   | ret=>exact⟨e',ds',hM',rfl,hd',hz⟩
   | pan v=>exact⟨e',ds',hM',rfl,hd',hz⟩
  | j l a b=>
   have hr:prun P Kp ax a (EH l (KR l BS kn)) (TI id (EH l (KR l BS kn)) ke) kr e h:=hr
   refine DT.block ((ih ax hx ho M ro hk Kp a _ _ kr e h ds hM hd hr).post ?_)
   rintro z E' H' ⟨e',ds',hM',rfl,hd',hz⟩
   cases z with
   | normal=>exact ZJ.join (l:=l) .normal _ _ ⟨e',ds',hM',rfl,hd',hz⟩
   | exit i=>
    simp only[QW]at hz
    by_cases hi:i=id
    ·rw[if_pos hi]at hz
     simp only[C4]at hz
     refine⟨_,_,Ij (l:=l) hd',?_⟩
     simp only[hi,if_true]
     exact⟨_,ds',hM',rfl,(Cw hd').2,hz⟩
    ·rw[if_neg hi]at hz
     refine B8 ?_
     simp only[]
     rw[if_neg hi];exact⟨e',ds',hM',rfl,hd',hz⟩
   | ret=>exact B8 ⟨e',ds',hM',rfl,hd',hz⟩
   | pan v=>exact⟨e',ds',hM',rfl,hd',hz⟩
 | loop x ih=>
  intro ac hc ho M ro hk Kp t kn ke kr e h ds hM hd hr
  simp only[comp,Option.map_eq_some_iff]at hc
  obtain⟨ax,hx,rfl⟩:=hc
  cases t with
  | l=>exact(show False from hr).elim
  | s a b=>exact(show False from hr).elim
  | i a b=>exact(show False from hr).elim
  | j l a b=>
   have hr:A_ l (fun self=>KR l BS fun e h=>prun P Kp ax a (EH l self) ke kr e h) (Fi l e BS) h:=hr
   obtain⟨I,μ,hI,step⟩:=hr
   refine DT.vs (Ij (l:=l) hd) (DT.loop (L:=fun k E H=>∃e ds,M ds∧E=B7 (.tup ds) e∧e Ao=.tup []∧Dq l I e H∧Gg l μ e H=k) ⟨_,ds,hM,rfl,(Cw hd).2,hI,rfl⟩ ?_)
   rintro k E1 H1 ⟨e1,ds1,hM1,rfl,hd1,hI1,rfl⟩
   have st:=step e1 H1 hI1
   have st:EH l (KR l BS fun e h=>prun P Kp ax a (EH l (OM l emp fun e' H'=>Dq l I e' H'∧Gg l μ e' H'<Gg l μ e1 H1)) ke kr e h) e1 H1:=st
   rw[C4]at st
   refine DT.vs (Ij (l:=l) hd1) ((ih ax hx ho M ro hk Kp a _ ke kr _ H1 ds1 hM1 (Cw hd1).2 st).post ?_)
   rintro z e' H' ⟨e',ds',hM',rfl,hd',hz⟩
   refine B8 ?_
   cases z with
   | normal=>
    have hz:Dq l (OM l emp fun e' H'=>Dq l I e' H'∧Gg l μ e' H'<Gg l μ e1 H1) e' H':=hz
    rw[Ia]at hz
    have c:∀i∈l,Fi l e' emp i=e' i:=fun i hi=>by rw[Cs,if_pos hi]
    rw[Ib c,Jp c]at hz
    exact⟨_,hz.2,e',ds',hM',rfl,hd',hz.1,rfl⟩
   | exit i=>exact⟨e',ds',hM',rfl,hd',hz⟩
   | ret=>exact⟨e',ds',hM',rfl,hd',hz⟩
   | pan v=>exact⟨e',ds',hM',rfl,hd',hz⟩
 | rangeFunc g ps as bd iha ihb=>
  intro ac hc ho M ro hk Kp t kn ke kr e h ds hM hd hr
  simp only[comp]at hc
  split at hc<;>(try (cases hc;done))
  rename_i g' aa ab hg ha hb'
  split at hc<;>(try (cases hc;done))
  rename_i hok
  simp only[Option.some.injEq]at hc;subst hc
  obtain⟨hps,ra,rb⟩:=hok
  have hps:∀p∈ps.toList,p<n:=fun p hp=>by simpa using List.all_eq_true.1 hps p hp
  obtain⟨hro,hcl⟩:=hk.resolve_left (by simp[Kf])
  subst hro
  simp only[I8,Bool.and_eq_true]at ho
  obtain⟨og,op,oa,ob⟩:=ho
  cases t with
  | l=>exact(show False from hr).elim
  | i a b=>exact(show False from hr).elim
  | j l a b=>exact(show False from hr).elim
  | s a b=>
   have hr:SO P (g'.ev e) h (fun x h K=>TM ps.toList x e fun e=>prun P PD aa a (prun P PD ab b (fun _ h=>K h) RV SG) RV SG e h) fun h=>kn e h:=hr
   obtain⟨f,caps,xs,I,q1,q2,q3,q4,q5⟩:=hr
   have hev:g'.ev (B7 (.tup ds) e)=g'.ev e:=Ak.Bl fun t ht=>Cj (K0 og t ht)
   refine DT.dS (f:=f) (caps:=caps) (xs:=xs) (ds:=ds) (I:=I) hn hg hps (by rw[hev];exact q1) (Dp _ _) q2 q3 (fun i x Hi hx hIi hle=>?_) (fun Hn hIn=>?_)
   ·obtain⟨p1,p2⟩:=Mh ps.toList x e (q4 i x Hi hx hIi hle)
    refine⟨by simpa using p1,fun l=>?_⟩
    rw[TA op hd]
    have hse:Db e ps.toList x Ao=.tup []:=by rw[MY _ _ _ _ (fun hm=>K0 op _ hm rfl)];exact hd
    refine DT.post ?_ (iha aa ha oa (fun ds=>ds=[]) (some l) (.inl ra) PD a _ RV SG _ Hi [] rfl hse p2)
    rintro z E' H' ⟨e',ds',rfl,rfl,hd',hz⟩
    cases z with
    | exit i=>exact(show False from hz).elim
    | ret=>exact(show False from hz).elim
    | pan v=>exact(show False from hz).elim
    | normal=>
     refine B8 ⟨rfl,?_⟩
     refine DT.post ?_ (ihb ab hb' ob (fun ds=>ds=[]) (some l) (.inl rb) PD b _ RV SG e' H' [] rfl hd' hz)
     rintro z2 E2 H2 ⟨e2,ds2,rfl,rfl,hd2,hz2⟩
     cases z2 with
     | exit i=>exact(show False from hz2).elim
     | ret=>exact(show False from hz2).elim
     | pan v=>exact(show False from hz2).elim
     | normal=>exact B8 ⟨rfl,hz2⟩
   ·refine⟨e,.nili::ds,hcl ds hM,?_,hd,q5 Hn hIn⟩
    funext t
    by_cases ht:t=Ao
    ·subst ht;rw[Env.FY,Dp]
    ·rw[Env.F8 _ _ ht,Cj ht,Cj ht]
 | _=>intro ac hc;simp[comp]at hc
end
def Zb (q:List Da) (e:Env) (h:AH):(List AV→Prop)→Prop:=
 (fun(_:Nat)=>List.rec (motive:=fun _=>(List AV→Prop)→Prop) (fun K=>K []) (fun r _ ih K=>Da.rec (motive:=fun _=>Prop) (fun i=>ih fun l=>K (e i::l)) (fun a g=>AP (.load g (.cst (e a))) h fun v=>ih fun l=>K (v::l)) r) q) MG
theorem IX {e:Env}{h:AH}:∀{q:List Da}{K:List AV→Prop},Zb q e h K→∃l,DY e h q=some l∧K l
 | [],K,hr=>⟨[],rfl,hr⟩
 | .tmp i::q,K,hr=>by
  obtain⟨l,h1,h2⟩:=IX (q:=q) (K:=fun l=>K (e i::l)) hr
  exact⟨_,by simp only[DY,h1];rfl,h2⟩
 | .cell a g::q,K,hr=>by
  have hr:AP (.load g (.cst (e a))) h (fun v=>Zb q e h fun l=>K (v::l)):=hr
  obtain⟨v,g1,g2⟩:=IJ hr
  obtain⟨l,h1,h2⟩:=IX (q:=q) g2
  have g1:Cm g (e a) h=some v:=g1
  exact⟨_,by simp only[DY,g1,h1];rfl,h2⟩
def Vy (q:List Da) (Post:Cc→AH→Prop):PK:=fun e h=>Zb q e h fun l=>Post (.ret (LB l)) h
def Qw (as:List AV):Env:=fun i=>Bool.rec (motive:=fun _=>AV) (Ti as i) (.tup []) (Nat.beq i Ao)
theorem Oq (as:List AV):Qw as=JV as:=by
 funext i
 unfold Qw JV
 rw[DD,Oc]
 by_cases h:i=Ao<;>simp[h]
def yp (Post:Cc→AH→Prop):AV→AH→Prop:=fun v H=>Post (.pan v) H
def eW (P:Program) (q:List Da) (ac:CJ) (t:HT) (as:List AV) (H:AH) (Post:Cc→AH→Prop):Prop:=
 prun P (yp Post) ac t (Vy q Post) (fun _=>SG) (Vy q Post) (Qw as) H
theorem fP {P:Program}{g:FuncId}{fn:Func}{n:Nat}{hs:Hints}{q:List Da}(hmix:P.follows .mixedOrders=true) (hf:P.funcs[g]?=some fn) (Iq:(fn.name=="runtime.NumGoroutine")=false)
  (hn:fn.ntmps=n) (hb:(fn.body.bind (comp P hs n)).isSome=true) (hr:Fs P fn.results.toList=some q) (hle:Nat.ble n Ao=true):Wl P g n (Np P fn hs n) q:=by
 obtain⟨ac,hac⟩:=Option.isSome_iff_exists.1 hb
 have e:Np P fn hs n=ac:=by unfold Np;rw[hac]
 rw[e]
 exact Wl.mk' hmix hf Iq hn hac hr hle
theorem TH {q:List Da}(hq:dT q=true){Post:Cc→AH→Prop}:∀x E H,ZJ (fun ds=>∀x∈ds,x=.nili) (yp Post) (Vy q Post) (fun _=>SG) (Vy q Post) x E H→eC (fun x e H=>(∃ds,e Ao=.tup ds∧∀x∈ds,x=.nili)∧Lb q Post x e H) x E H:=by
 rintro x E' H' ⟨e',ds,hM,rfl,hd,hx⟩
 refine B8 ⟨⟨ds,Dp _ _,hM⟩,?_⟩
 cases x with
 | normal=>
  obtain⟨l,g1,g2⟩:=IX hx
  simp only[Lb,I0 q hq,g1];exact g2
 | ret=>
  obtain⟨l,g1,g2⟩:=IX hx
  simp only[Lb,I0 q hq,g1];exact g2
 | exit i=>exact(show False from hx).elim
 | pan v=>exact hx
theorem Pc:∀ds:List AV,(∀x∈ds,x=.nili)→∀x∈(.nili::ds:List AV),x=.nili:=fun ds hds x hx=>by
 cases hx with
 | head=>rfl
 | tail _ hx=>exact hds x hx
theorem Rl (as:List AV):B7 (.tup []) (Qw as)=JV as:=by
 rw[Oq]
 funext t
 by_cases h:t=Ao
 ·subst h;rw[Dp];simp[JV]
 ·rw[Cj h]
end
section
variable [BY]
theorem PW {P:Program}{g n:Nat}{q:List Da}{ac:CJ}{t:HT}(hF:Wl P g n ac q) (ho:I8 ac=true) (hq:dT q=true){as:List AV}(hlen:Nat.ble as.length n=true){H:AH}{Post:Cc→AH→Prop}{G:Prop}(hG:G=eW P q ac t as H Post) (h:G):An P g as H Post:=by
 rw[hG]at h
 refine hF.ZC (Nat.le_of_ble_eq_true hlen) fun c hs hc=>?_
 rw[←Rl]
 exact DT.post (TH hq) (PN hF.mix hF.le c ac hc ho _ none (.inr ⟨rfl,Pc⟩) _ t _ _ _ _ H [] Mj (by rw[Oq];simp[JV]) h)
end
end Go.AL
 
end
namespace Go.AL
variable [BY]
mutual
inductive Q8:AV→Prop
 | bool (b:Bool):Q8 (.bool b)
 | int (k:IntKind) (n:Int):Q8 (.int k n)
 | str (l:List UInt8):Q8 (.str l)
 | nilp:Q8 .nilp
 | nils:Q8 .nils
 | nilm:Q8 .nilm
 | nili:Q8 .nili
 | agg {l:List AV} (h:O8 l):Q8 (.agg l)
 | tup {l:List AV} (h:O8 l):Q8 (.tup l)
inductive O8:List AV→Prop
 | nil:O8 []
 | cons {x:AV} {l:List AV} (h:Q8 x) (t:O8 l):O8 (x::l)
end
mutual
theorem Q8.vr {Z Z':Zt}{σ σ':Sg}:∀{x:AV}{v:Value},Q8 x→VR Z σ x v→VR Z' σ' x v
 | _,_,.bool _,h=>by cases h;exact .bool _
 | _,_,.int _ _,h=>by cases h;exact .int _ _
 | _,_,.str _,h=>by cases h;exact .str _
 | _,_,.nilp,h=>by cases h;exact .nilp
 | _,_,.nils,h=>by cases h;exact .nils
 | _,_,.nilm,h=>by cases h;exact .nilm
 | _,_,.nili,h=>by cases h;exact .nili
 | _,_,.agg hp,h=>by cases h with | agg h1 h=>exact .agg h1 (hp.vr h)
 | _,_,.tup hp,h=>by cases h with | tup h=>exact .tup (hp.vr h)
theorem O8.vr {Z Z':Zt}{σ σ':Sg}:∀{l:List AV}{vs:List Value},O8 l→CI Z σ l vs→CI Z' σ' l vs
 | _,_,.nil,h=>by cases h;exact .nil
 | _,_,.cons hx ht,h=>by cases h with | cons a b=>exact .cons (hx.vr a) (ht.vr b)
end
section
variable {P:Program}
end
end Go.AL
noncomputable section
namespace Go.AL
variable [BY]
mutual
inductive G_ (H:AH):AV→AV→Prop
 | pln {x:AV} (h:Q8 x):G_ H x x
 | unk (x:AV):G_ H x .unk
 | sl {r o n m:Nat} {lim:Nu} {l l':List AV} {ex:Bool} (hc:H.cells? r=some l) (hm:o+m≤l.length) (hl:EP H ((l.drop o).take m) l') (hn:n=0→m=0) (hx:ex=true→lim=.ex n) :
   G_ H (.sl r o n lim) (.sim l' n ex)
 | ptr {r o:Nat} {l l':List AV} (hc:H.cells? r=some l) (hl:EP H l l'):G_ H (.ptr r o) (.pim l' o)
 | ifc {t:TypeId} {x y:AV} (h:G_ H x y):G_ H (.ifc t x) (.ifc t y)
 | agg {l l':List AV} (h:EP H l l'):G_ H (.agg l) (.agg l')
 | tup {l l':List AV} (h:EP H l l'):G_ H (.tup l) (.tup l')
inductive EP (H:AH):List AV→List AV→Prop
 | nil:EP H [] []
 | cons {x y:AV} {l l':List AV} (h:G_ H x y) (t:EP H l l'):EP H (x::l) (y::l')
end
section
variable {Z Z2:Zt}{σ σ2:Sg}{H:AH}{w:World}
theorem EP.len {l l':List AV}(h:EP H l l'):l.length=l'.length:=by
 induction l generalizing l' with
 | nil=>cases h;rfl
 | cons x l ih=>cases h with | cons a b=>simp[ih b]
mutual
theorem G_.sound (hW:WR Z σ H w) (h2:∀r o p,H.get r=some o→σ r=some p→Z2 p.b=w.heap[p.b]?):∀{x y:AV},G_ H x y→∀{v:Value},VR Z σ x v→VR Z2 σ2 y v
 | _,_,.pln h,v,hv=>h.vr hv
 | _,_,.unk _,v,_=>.unk v
 | _,_,@G_.sl _ r o n m lim l l' ex hc hm hl hn hx,v,hv=>by
  have hlen:m=l'.length:=by have:=hl.len;simp at this;omega
  have main:∀(p:GS),σ r=some p→∀cap,n≤cap→(ex=true→cap=n)→VR Z2 σ2 (.sim l' n ex) (.slice (some ⟨p.b,p.base+o,none⟩) n cap):=by
   intro p hp cap MJ hxc
   obtain⟨_,c,el,fr,hb,_,_,h4,h5,h6⟩:=hW.row hc hp
   have hz:=h2 r _ p (cells?_some hc) hp
   rw[hb]at hz
   have e1:(c.toList.drop (p.base+o)).take l'.length=(((c.toList.drop p.base).take l.length).drop o).take m:=by
    rw[List.drop_take,List.drop_drop,List.take_take,Nat.min_eq_left (by omega),hlen]
   refine .sim MJ hxc rfl hz ?_ ?_
   ·simp only[e1];intro u hu;exact h6 u (List.mem_of_mem_drop (List.mem_of_mem_take hu))
   ·simp only[e1];exact EP.sound hW h2 hl ((h5.drop _).take _)
  cases hv with
  | slx hp hnm=>exact main _ hp _ hnm (fun h=>by have:=hx h;simp only[Nu.ex.injEq]at this;exact this)
  | slxz hp ad=>
   have h0:l'=[]:=List.eq_nil_of_length_eq_zero (by rw[←hlen];exact hn rfl)
   subst h0;exact .simz ad (fun _=>rfl)
  | slo hp hnm hs=>exact main _ hp _ hnm (fun h=>by have:=hx h;cases this)
  | sloz hp ad=>
   have h0:l'=[]:=List.eq_nil_of_length_eq_zero (by rw[←hlen];exact hn rfl)
   subst h0;exact .simz ad (fun h=>by have:=hx h;cases this)
 | _,_,@G_.ptr _ r o l l' hc hl,v,hv=>by
  obtain⟨p,hp,rfl⟩:=hv.FJ
  obtain⟨_,c,el,fr,hb,_,_,h4,h5,h6⟩:=hW.row hc hp
  have hz:=h2 r _ p (cells?_some hc) hp
  rw[hb]at hz
  have hlen:=hl.len
  refine .pim hz ?_ ?_
  ·rw[←hlen];exact h6
  ·rw[←hlen];exact EP.sound hW h2 hl h5
 | _,_,.ifc h,v,hv=>by cases hv with | ifc hv=>exact .ifc (G_.sound hW h2 h hv)
 | _,_,.agg h,v,hv=>by cases hv with | agg h1 hv=>exact .agg h1 (EP.sound hW h2 h hv)
 | _,_,.tup h,v,hv=>by cases hv with | tup hv=>exact .tup (EP.sound hW h2 h hv)
theorem EP.sound (hW:WR Z σ H w) (h2:∀r o p,H.get r=some o→σ r=some p→Z2 p.b=w.heap[p.b]?):∀{l l':List AV},EP H l l'→∀{vs:List Value},CI Z σ l vs→CI Z2 σ2 l' vs
 | _,_,.nil,vs,hv=>by cases hv;exact .nil
 | _,_,.cons h t,vs,hv=>by cases hv with | cons a b=>exact .cons (G_.sound hW h2 h a) (EP.sound hW h2 t b)
end
end
section
variable {P:Program}
theorem An.UI {g:FuncId}{al:List AV}{v R:AV}{H0 H1 H:AH}(h:An P g al H0 fun o H'=>o=.ret v∧H'=H1) (hs:DZ 0 al) (hR:G_ H1 v R) (h0:∀r,H0.get r=none) (hg:H.gl=H0.gl):An P g al H fun o H'=>o=.ret R∧H'=H:=by
 refine⟨h.1,fun Z σ w vs hW hv=>?_⟩
 have hF:=hW.Km (R:=fun _=>True) (H':=⟨fun _=>none,H.next,H.gl⟩) rfl (fun r o hr=>by cases hr)
 have hW0:WR (On Z σ H (fun _=>True) w) (fun _=>none) H0 w:=
  ⟨hF.z,fun r o p hr=>(by rw[h0]at hr;cases hr),fun r r' o o' p p' hr=>(by rw[h0]at hr;cases hr),fun _ _=>rfl,fun r _=>h0 r,by rw[←hg];exact hF.rest⟩
 have hv0:CI (On Z σ H (fun _=>True) w) (fun _=>none) al vs:=by
  have:=(hv.mono (Gt (R:=fun _=>True) hW) (KJ.refl _)).cut hs
  have e:Gv 0 σ=fun _=>none:=by funext r;simp[Gv]
  rwa [e]at this
 refine(h.2 _ _ w vs hW0 hv0).mono fun x w' hx=>?_
 obtain⟨Z1,σ1,H1',out,g1,g2,g3,g4,g5,rfl,rfl⟩:=hx
 classical
 obtain⟨Z2,hZ2⟩:∃Z2:Zt,Z2={ Z1 with blk:=fun c=>if (∃r o p,H.get r=some o∧σ r=some p∧p.b=c)then none else if (∃r o p,H1'.get r=some o∧σ1 r=some p∧p.b=c)then w'.heap[c]? else Z1.blk c }:=⟨_,rfl⟩
 have hold:∀r o p,H.get r=some o→σ r=some p→∃x,Z1 p.b=some x∧w.heap[p.b]?=some x:=fun r o p q1 q2=>by
  obtain⟨_,hO⟩:=hW.h r o p q1 q2
  have hlt:=hO.lt
  have e1:w.heap[p.b]?=some (w.heap[p.b]'hlt):=Array.getElem?_eq_getElem hlt
  have e2:On Z σ H (fun _=>True) w p.b=w.heap[p.b]?:=Pp (R:=fun _=>True) trivial q1 q2
  exact⟨_,g1.le _ _ (e2.trans e1),e1⟩
 have hown:∀r o p,H1'.get r=some o→σ1 r=some p→Z2 p.b=w'.heap[p.b]?:=fun r o p q1 q2=>by
  have hn:=(g4.h r o p q1 q2).1
  rw[hZ2]
  simp only
  rw[if_neg,if_pos ⟨r,o,p,q1,q2,rfl⟩]
  rintro⟨r',o',p',k1,k2,k3⟩
  obtain⟨x,k4,_⟩:=hold r' o' p' k1 k2
  rw[k3,hn]at k4;cases k4
 have hz:∀c o,Z2 c=some o→w'.heap[c]?=some o:=fun c o hc=>by
  rw[hZ2]at hc
  simp only at hc
  split at hc
  ·cases hc
  ·split at hc
   ·exact hc
   ·exact g4.z c o hc
 have hle:Ck Z Z2:=by
  have hl:=(Gt (R:=fun _=>True) hW).trans g1
  refine⟨fun c o hc=>?_,by rw[hZ2];exact hl.os,by rw[hZ2];exact hl.out,by rw[hZ2];exact hl.Gs,by rw[hZ2];exact hl.old⟩
  have:=hl.le c o hc
  rw[hZ2]
  simp only
  rw[if_neg,if_neg]
  ·exact this
  ·rintro⟨r,o',p,q1,q2,rfl⟩
   rw[(g4.h r o' p q1 q2).1]at this;cases this
  ·rintro⟨r,o',p,q1,q2,rfl⟩
   rw[(hW.h r o' p q1 q2).1]at hc;cases hc
 refine⟨Z2,σ,H,(.ret R),hle,Nw.refl _ _,Nat.le_refl _,⟨hz,fun r o p q1 q2=>⟨?_,?_⟩,hW.inj,hW.fresh,hW.top,?_⟩,?_,rfl,rfl⟩
 ·rw[hZ2]
  simp only
  rw[if_pos ⟨r,o,p,q1,q2,rfl⟩]
 ·obtain⟨_,hO⟩:=hW.h r o p q1 q2
  obtain⟨x,k1,k2⟩:=hold r o p q1 q2
  have e3:=g4.z _ _ k1
  exact hO.mono hle (KJ.refl _) (by rw[e3,k2])
 ·have hr:=g4.rest
  have hr0:=hW.rest
  exact⟨by rw[hr.1,hZ2],by rw[hr.2.1,hZ2],fun c o hc=>⟨hle.le _ _ (hr0.2.2 c o hc).1,(hr0.2.2 c o hc).2⟩⟩
 ·obtain⟨cv,q1,q2⟩:=g5
  exact⟨_,q1,hR.sound g4 hown q2⟩
end
mutual
def IZ:AV→Bool
 | .bool _=>true | .int _ _=>true | .str _=>true | .nilp=>true | .nils=>true | .nilm=>true | .nili=>true
 | .agg l=>OI l
 | .tup l=>OI l
 | _=>false
def OI:List AV→Bool
 | []=>true
 | x::l=>IZ x&&OI l
end
mutual
theorem LD:∀x,IZ x=true→Q8 x
 | .bool _,_=>.bool _ | .int _ _,_=>.int _ _ | .str _,_=>.str _ | .nilp,_=>.nilp | .nils,_=>.nils | .nilm,_=>.nilm | .nili,_=>.nili
 | .agg l,h=>.agg (Gc l (by simpa[IZ]using h))
 | .tup l,h=>.tup (Gc l (by simpa[IZ]using h))
 | .unk,h=>by simp[IZ]at h
 | .ptr _ _,h=>by simp[IZ]at h
 | .pim _ _,h=>by simp[IZ]at h
 | .sl _ _ _ _,h=>by simp[IZ]at h
 | .sim _ _ _,h=>by simp[IZ]at h
 | .mp _,h=>by simp[IZ]at h
 | .nilf,h=>by simp[IZ]at h
 | .fn _ _ _,h=>by simp[IZ]at h
 | .ifc _ _,h=>by simp[IZ]at h
theorem Gc:∀l,OI l=true→O8 l
 | [],_=>.nil
 | x::l,h=>by
  simp only[OI,Bool.and_eq_true]at h
  exact .cons (LD x h.1) (Gc l h.2)
end
mutual
def UH (h:KH):AV→AV→Bool
 | y,x=>(ES x y&&IZ y)||(match y with
  | .pim l' o=>(match x with
   | .ptr r o0=>Nat.beq o0 o&&(match Ce h r with | some l=>It h l' l | none=>false)
   | _=>false)
  | .sim l' n ex=>(match x with
   | .sl r o n0 lim=>Nat.beq n0 n&&(match Ce h r with | some l=>Nat.ble (o+l'.length) l.length&&It h l' ((l.drop o).take l'.length) | none=>false)&&(!(Nat.beq n 0)||l'.isEmpty)&&(!ex||Mm lim (.ex n))
   | _=>false)
  | .ifc t y=>(match x with
   | .ifc t' x=>Nat.beq t' t&&UH h y x
   | _=>false)
  | .agg l'=>(match x with
   | .agg l=>It h l' l
   | _=>false)
  | .tup l'=>(match x with
   | .tup l=>It h l' l
   | _=>false)
  | _=>false)
def It (h:KH):List AV→List AV→Bool
 | [],l=>(match l with
  | []=>true
  | _=>false)
 | y::l',l=>(match l with
  | x::l=>UH h y x&&It h l' l
  | []=>false)
end
mutual
theorem Hx {h:KH}:∀(y x:AV),UH h y x=true→G_ (BF h) x y:=by
 intro y x hh
 unfold UH at hh
 simp only[Bool.or_eq_true,Bool.and_eq_true]at hh
 rcases hh with⟨h1,h2⟩ | hh
 ·rw[EB _ _ h1];exact .pln (LD _ h2)
 ·cases y with
  | pim l' o=>
   cases x<;>try (cases hh;done)
   rename_i r o0
   simp only[Bool.and_eq_true,Nat.beq_eq]at hh
   obtain⟨rfl,h3⟩:=hh
   split at h3
   ·rename_i l hl
    rw[CG]at hl
    exact .ptr hl (EL l' l h3)
   ·cases h3
  | sim l' n ex=>
   cases x<;>try (cases hh;done)
   rename_i r o n0 lim
   simp only[Bool.and_eq_true,Nat.beq_eq,Bool.or_eq_true,Bool.not_eq_true']at hh
   obtain⟨⟨⟨rfl,h3⟩,h4⟩,h5⟩:=hh
   split at h3
   ·rename_i l hl
    rw[CG]at hl
    simp only[Bool.and_eq_true]at h3
    refine .sl hl (Nat.le_of_ble_eq_true h3.1) (EL l' _ h3.2) (fun hn=>?_) (fun hx=>?_)
    ·subst hn
     rcases h4 with h4 | h4
     ·cases h4
     ·simpa using h4
    ·subst hx
     rcases h5 with h5 | h5
     ·cases h5
     ·exact FK h5
   ·cases h3
  | ifc t y=>
   cases x<;>try (cases hh;done)
   simp only[Bool.and_eq_true,Nat.beq_eq]at hh
   obtain⟨rfl,h2⟩:=hh
   exact .ifc (Hx y _ h2)
  | agg l'=>
   cases x<;>try (cases hh;done)
   exact .agg (EL l' _ hh)
  | tup l'=>
   cases x<;>try (cases hh;done)
   exact .tup (EL l' _ hh)
  | _=>cases hh
theorem EL {h:KH}:∀(l' l:List AV),It h l' l=true→EP (BF h) l l'
 | [],l,hh=>by
  cases l with
  | nil=>exact .nil
  | cons _ _=>simp[It]at hh
 | y::l',l,hh=>by
  cases l with
  | nil=>simp[It]at hh
  | cons x l=>
   simp only[It,Bool.and_eq_true]at hh
   exact .cons (Hx y x hh.1) (EL l' l hh.2)
end
def BV (as:List AV) (R:AV) (r:KC):Bool:=K7 0 as&&KC.rec (motive:=fun _=>Bool) (fun v h'=>UH h' R v) (fun _ _=>false) false r
theorem Aq {P:Program}{g:FuncId}{as:List AV}{R:AV}{call:Bq}(hC:BD P call) (hk:BV as R (call g as KH.emp)=true) (H:AH) (hg:H.gl=BY.G):Ca P g as H R H:=by
 simp only[BV,Bool.and_eq_true]at hk
 obtain⟨hs,hk⟩:=hk
 cases hr:call g as KH.emp with
 | pan v h'=>rw[hr]at hk;cases hk
 | bad=>rw[hr]at hk;cases hk
 | ret v h'=>
  rw[hr]at hk
  have hA:=(hC g as KH.emp).1 v h' hr
  exact An.UI hA (Cn _ hs) (Hx _ _ hk) (fun r=>by rw[C2];rfl) (by rw[hg];rfl)
def Bo (g0:FuncId) (as0:List AV) (R:AV) (rest:Bq):Bq:=fun g as h=>Bool.rec (motive:=fun _=>KC) (rest g as h) (.ret R h) (Nat.beq g g0&&Eb as as0)
theorem BL {P:Program}{g0:FuncId}{as0:List AV}{R:AV}{rest:Bq}(hr:BD P rest) (hR:∀H:AH,H.gl=BY.G→Ca P g0 as0 H R H):BD P (Bo g0 as0 R rest):=by
 intro g as h
 unfold Bo
 cases hc:(Nat.beq g g0&&Eb as as0)with
 | false=>exact hr g as h
 | true=>
  simp only[Bool.and_eq_true,Nat.beq_eq]at hc
  obtain⟨rfl,h2⟩:=hc
  have e:=CB _ _ h2
  subst e
  refine⟨fun v h' q=>?_,fun v h' q=>by cases q⟩
  cases q
  exact hR _ rfl
theorem An.lC {P:Program}{g:FuncId}{ar ar':List AV}{H H':AH}{Post:Cc→AH→Prop}(R:Nat→Prop) (h:An P g ar' H' Post) (ha:Bu H R ar ar') (hn:H'.next=H.next) (hg:H'.gl=H.gl)
  (hH:∀r o,H'.get r=some o→¬R r∧H.get r=some o):An P g ar H Post:=by
 refine⟨h.1,fun Z σ w vs hW hv=>?_⟩
 refine(h.2 (On Z σ H R w) σ w vs (hW.Km hn (fun r o h=>⟨(hH r o h).1,.inl (hH r o h).2⟩) hg) (Bu.sound hW ha hv)).mono fun x w' hx=>?_
 obtain⟨Z',σ',H1,out,g1,g2,g3,g4,g5,g6⟩:=hx
 exact⟨Z',σ',H1,out,(Gt hW).trans g1,by rw[←hn];exact g2,by rw[←hn];exact g3,g4,g5,g6⟩
def OW (r:Nat) (l:List Nat):Bool:=List.rec (motive:=fun _=>Bool) false (fun x _ ih=>Nat.beq x r||ih) l
mutual
def WI (ids:List Nat) (h:KH):AV→AV→Bool
 | y,x=>ES x y||(match y with
  | .pim l' o=>(match x with
   | .ptr r o0=>OW r ids&&Nat.beq o0 o&&(match Ce h r with | some l=>Gr ids h l' l | none=>false)
   | _=>false)
  | .sim l' n ex=>(match x with
   | .sl r o n0 lim=>OW r ids&&Nat.beq n0 n&&(match Ce h r with | some l=>Nat.ble (o+l'.length) l.length&&Gr ids h l' ((l.drop o).take l'.length) | none=>false)&&(!(Nat.beq n 0)||l'.isEmpty)&&(!ex||Mm lim (.ex n))
   | _=>false)
  | .ifc t y=>(match x with
   | .ifc t' x=>Nat.beq t' t&&WI ids h y x
   | _=>false)
  | .agg l'=>(match x with
   | .agg l=>Gr ids h l' l
   | _=>false)
  | .tup l'=>(match x with
   | .tup l=>Gr ids h l' l
   | _=>false)
  | _=>false)
def Gr (ids:List Nat) (h:KH):List AV→List AV→Bool
 | [],l=>(match l with
  | []=>true
  | _=>false)
 | y::l',l=>(match l with
  | x::l=>WI ids h y x&&Gr ids h l' l
  | []=>false)
end
mutual
theorem La {ids:List Nat}{h:KH}:∀(y x:AV),WI ids h y x=true→EU (BF h) (fun r=>OW r ids=true) x y:=by
 intro y x hh
 unfold WI at hh
 simp only[Bool.or_eq_true]at hh
 rcases hh with h1 | hh
 ·rw[EB _ _ h1];exact .same _
 ·cases y with
  | pim l' o=>
   cases x<;>try (cases hh;done)
   rename_i r o0
   simp only[Bool.and_eq_true,Nat.beq_eq]at hh
   obtain⟨⟨h1,rfl⟩,h3⟩:=hh
   split at h3
   ·rename_i l hl
    rw[CG]at hl
    exact .ptr h1 hl (Dh l' l h3)
   ·cases h3
  | sim l' n ex=>
   cases x<;>try (cases hh;done)
   rename_i r o n0 lim
   simp only[Bool.and_eq_true,Nat.beq_eq,Bool.or_eq_true,Bool.not_eq_true']at hh
   obtain⟨⟨⟨⟨h1,rfl⟩,h3⟩,h4⟩,h5⟩:=hh
   split at h3
   ·rename_i l hl
    rw[CG]at hl
    simp only[Bool.and_eq_true]at h3
    refine .sl h1 hl (Nat.le_of_ble_eq_true h3.1) (Dh l' _ h3.2) (fun hn=>?_) (fun hx=>?_)
    ·subst hn
     rcases h4 with h4 | h4
     ·cases h4
     ·simpa using h4
    ·subst hx
     rcases h5 with h5 | h5
     ·cases h5
     ·exact FK h5
   ·cases h3
  | ifc t y=>
   cases x<;>try (cases hh;done)
   simp only[Bool.and_eq_true,Nat.beq_eq]at hh
   obtain⟨rfl,h2⟩:=hh
   exact .ifc (La y _ h2)
  | agg l'=>
   cases x<;>try (cases hh;done)
   exact .agg (Dh l' _ hh)
  | tup l'=>
   cases x<;>try (cases hh;done)
   exact .tup (Dh l' _ hh)
  | _=>cases hh
theorem Dh {ids:List Nat}{h:KH}:∀(l' l:List AV),Gr ids h l' l=true→Bu (BF h) (fun r=>OW r ids=true) l l'
 | [],l,hh=>by
  cases l with
  | nil=>exact .nil
  | cons _ _=>simp[Gr]at hh
 | y::l',l,hh=>by
  cases l with
  | nil=>simp[Gr]at hh
  | cons x l=>
   simp only[Gr,Bool.and_eq_true]at hh
   exact .cons (La y x hh.1) (Dh l' l hh.2)
end
def V_ (k:KH→KC) (ids:List Nat):KH→KC:=
 List.rec (motive:=fun _=>KH→KC) k (fun r _ ih h=>Bool.rec (motive:=fun _=>KC) .bad (h.K4 r none .bad ih) (Nat.ble (Nat.succ r) h.nx)) ids
theorem Oe {k:KH→KC}:∀(ids:List Nat) (h:KH) (r:KC),V_ k ids h=r→r≠.bad→∃h',h'.nx=h.nx∧(∀x,(BF h').get x=if OW x ids=true then none else(BF h).get x)∧k h'=r
 | [],h,r,hr,_=>⟨h,rfl,fun x=>by rw[if_neg (by simp[OW])],hr⟩
 | i::ids,h,r,hr,hb=>by
  obtain⟨g1,g2⟩:=Co (hr:Bool.rec (motive:=fun _=>KC) .bad (h.K4 i none .bad (V_ k ids)) (Nat.ble (Nat.succ i) h.nx)=r) hb
  obtain⟨h1,q1,q2,q3⟩:=KH.Le g2 hb (Nat.le_of_ble_eq_true g1)
  obtain⟨h2,p1,p2,p3⟩:=Oe ids h1 r q3 hb
  refine⟨h2,by rw[p1,q2],fun x=>?_,p3⟩
  rw[p2,q1,AH.get_erase]
  have hm:OW x (i::ids)=(Nat.beq i x||OW x ids):=rfl
  rw[hm]
  by_cases hx:x=i
  ·subst hx;simp
  ·have:Nat.beq i x=false:=by
    cases hq:Nat.beq i x with
    | false=>rfl
    | true=>exact absurd (Nat.eq_of_beq_eq_true hq).symm hx
   simp[this,hx]
def NR (g0:FuncId) (ids:List Nat) (as0:List AV) (R:AV) (rest:Bq):Bq:=fun g as h=>Bool.rec (motive:=fun _=>KC) (rest g as h) (V_ (fun h'=>.ret R h') ids h) (Nat.beq g g0&&Gr ids h as0 as)
theorem Mi {P:Program}{g0:FuncId}{ids:List Nat}{as0:List AV}{R:AV}{rest:Bq}(hr:BD P rest) (hR:∀H:AH,H.gl=BY.G→Ca P g0 as0 H R H):BD P (NR g0 ids as0 R rest):=by
 intro g as h
 unfold NR
 cases hc:(Nat.beq g g0&&Gr ids h as0 as)with
 | false=>exact hr g as h
 | true=>
  simp only[Bool.and_eq_true,Nat.beq_eq]at hc
  obtain⟨rfl,h2⟩:=hc
  have h3:=Dh _ _ h2
  have key:∀r:KC,V_ (fun h'=>.ret R h') ids h=r→r≠.bad→∃h',r=.ret R h'∧An P g as (BF h) (fun o H'=>o=.ret R∧H'=BF h'):=fun r hk hb=>by
   obtain⟨h',p1,p2,p3⟩:=Oe ids h r hk hb
   refine⟨h',p3.symm,An.lC _ (hR (BF h') rfl) h3 (by simpa using p1) rfl fun x o hx=>?_⟩
   rw[p2]at hx
   split at hx
   ·cases hx
   ·exact⟨‹_›,hx⟩
  refine⟨fun v h' q=>?_,fun v h' q=>?_⟩
  ·obtain⟨h'',e1,e2⟩:=key _ q (by simp)
   cases e1;exact e2
  ·obtain⟨h'',e1,e2⟩:=key _ q (by simp)
   cases e1
end Go.AL
 
end
