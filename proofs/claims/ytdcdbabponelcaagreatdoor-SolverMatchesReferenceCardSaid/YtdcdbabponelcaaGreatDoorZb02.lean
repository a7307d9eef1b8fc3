import Derived.Test.YtdcdbabponelcaaGreatDoorZb01
/-
  the machine: joins, guards, regions, control, tables.
-/
set_option linter.unusedSectionVars false
set_option linter.unusedVariables false
set_option linter.unusedSimpArgs false
noncomputable section
namespace Go.AL
variable [BY]
abbrev EK:=Env→KH→KC
def JT (l:List Nat):Type:=List.rec (motive:=fun _=>Type) (KH→KC) (fun _ _ t=>AV→t) l
def RG (w:Bool) (v:AV) (a b:KC):KC:=BP.rec (motive:=fun _=>KC) (match I7 v with
  | some o=>(match o with
   | some x=>bif (bif x then w else !w)then a else b
   | none=>b)
  | none=>.bad) (fun x=>Bool.rec (motive:=fun _=>KC) (Bool.rec (motive:=fun _=>KC) a b w) (Bool.rec (motive:=fun _=>KC) b a w) x) (PH v)
theorem VW (w:Bool) (v:AV) (a b:KC):RG w v a b=match I7 v with
  | some o=>(match o with
   | some x=>bif (bif x then w else !w)then a else b
   | none=>b)
  | none=>.bad:=by
 unfold RG
 cases hv:PH v with
 | no=>rfl
 | «at» x=>rw[ND hv];cases x<;>cases w<;>rfl
theorem Kw {w:Bool}{v:AV}{a b r:KC}(hr:RG w v a b=r) (hb:r≠.bad):∃o,I7 v=some o∧(o=some w→a=r)∧(o≠some w→b=r):=by
 rw[VW]at hr
 split at hr
 ·rename_i o ho
  refine⟨o,ho,fun hw=>?_,fun hw=>?_⟩
  ·subst hw
   have:(bif w then w else !w)=true:=by cases w<;>rfl
   simp only[this,cond_true]at hr
   exact hr
  ·cases o with
   | none=>exact hr
   | some x=>
    have:(bif x then w else !w)=false:=by cases x<;>cases w<;>simp at hw<;>rfl
    simp only[this,cond_false]at hr
    exact hr
 ·exact absurd hr.symm hb
def Ab {T:Type}(w:Bool) (v:AV) (J:T) (A B:T→KC):KC:=RG w v (A J) (B J)
def AQ (v:AV) (A B:KC):KC:=BP.rec (motive:=fun _=>KC) .bad (fun x=>Bool.rec (motive:=fun _=>KC) B A x) (PH v)
def CN {T:Type}(v:AV) (J:T) (A B:T→KC):KC:=AQ v (A J) (B J)
def MU {T:Type}(J:T) (A:T→KC):KC:=A J
def Y6:Nat:=1000000000
def VV {T:Type}(bad:T) (body:T→T) (n:Nat):T:=Nat.rec (motive:=fun _=>T) bad (fun _ ih=>body ih) n
def Ad {T:Type}(bad:T) (body:T→T):T:=VV bad body Y6
def BJ (b:Bool) (K:KC):KC:=Bool.rec (motive:=fun _=>KC) .bad K b
abbrev KG:=AV→(KH→Bool)→KH→KC
def Y4:KH→Bool:=fun _=>true
def dw (w:Bool) (v:AV) (h:KH) (J:KG) (A:KG→KC):KC:=RG w v (A J) (J AI Y4 h)
def VY (k:AK):Nat:=
 let _a:=HX k
 let _b:=@Ad Nat
 let _c:=@CN Nat
 let _d:=@Ab Nat
 let _e:=@MU Nat
 let _f:=BJ
 let _g:=dw
 let _h:=Cz
 let _i:=Kv
 let _j:=BI
 let _k:=Ar
 let _l:=DJ
 0
def Ci (l:List Nat):JT l→EK:=
 (fun(_:AK→Nat)=>(List.rec (motive:=fun l=>JT l→EK) (fun J _ h=>J h) (fun i _ ih J e h=>ih (J (e i)) e h) l:JT l→EK)) VY
def Hw (l:List Nat):Env→EK→JT l:=
 (fun(_:AK→Nat)=>(List.rec (motive:=fun l=>Env→EK→JT l) (fun e0 f h=>f e0 h) (fun i _ ih e0 f v=>ih (e0.set i v) f) l:Env→EK→JT l)) VY
def Fi (l:List Nat):Env→Env→Env:=
 List.rec (motive:=fun _=>Env→Env→Env) (fun _ e0=>e0) (fun i _ ih e e0=>ih e (e0.set i (e i))) l
theorem C_:∀(l:List Nat) (e0:Env) (f:EK) (e:Env) (h:KH),Ci l (Hw l e0 f) e h=f (Fi l e e0) h
 | [],_,_,_,_=>rfl
 | i::l,e0,f,e,h=>by
  show Ci l (Hw l (e0.set i (e i)) f) e h=_
  rw[C_ l];rfl
theorem Cs:∀(l:List Nat) (e e0:Env) (t:Nat),Fi l e e0 t=if t∈l then e t else e0 t
 | [],e,e0,t=>by simp[Fi]
 | i::l,e,e0,t=>by
  show Fi l e (e0.set i (e i)) t=_
  rw[Cs l,Env.B4]
  by_cases h1:t∈l
  ·simp[h1]
  ·by_cases h2:t=i
   ·subst h2;simp
   ·simp[h1,h2]
def Td (call:Bq) (ops:List Bz):Env→KH→EK→KC:=
 List.rec (motive:=fun _=>Env→KH→EK→KC) (fun e h K=>K e h) (fun o _ ih e h K=>Na call o.k e h fun v h'=>ih (e.put o.dst v) h' K) ops
def Gu (d:Option Nat) (l:List Nat):List Nat:=match d with
 | some d=>d::l
 | none=>l
def H_ (ops:List Bz):List Nat:=List.rec (motive:=fun _=>List Nat) [] (fun o _ ih=>Gu o.dst ih) ops
def SM:=Option (Nat × Bool) × List Bz
def DO (s:Nat) (w:Bool) (o:Bz):Bool:=(match o.gd with
 | some (s',w')=>Nat.beq s s'&&(bif w then w' else !w')
 | none=>false)&&(match o.dst with
 | some d=>!Nat.beq d s
 | none=>true)
theorem D_ {s:Nat}{w:Bool}{o:Bz}(h:DO s w o=true):o.gd=some (s,w)∧o.dst≠some s:=by
 obtain⟨dst,k,gd⟩:=o
 simp only[DO,Bool.and_eq_true]at h
 obtain⟨h1,h2⟩:=h
 refine⟨?_,?_⟩
 ·cases gd with
  | none=>cases h1
  | some p=>
   obtain⟨s',w'⟩:=p
   simp only[Bool.and_eq_true,Nat.beq_eq]at h1
   obtain⟨rfl,h1⟩:=h1
   cases w<;>cases w'<;>first | rfl | cases h1
 ·cases dst with
  | none=>simp
  | some d=>
   simp only[Bool.not_eq_true',]at h2
   simp only[ne_eq,Option.some.injEq]
   rintro rfl
   rw[Nat.beq_refl]at h2;cases h2
def Wb (o:Bz) (r:List SM):List SM:=match o.gd with
 | none=>(none,[o])::r
 | some (s,w)=>match r with
  | (some (s',w'),ls)::r'=>bif DO s' w' o then(some (s,w),o::ls)::r' else(some (s,w),[o])::(some (s',w'),ls)::r'
  | r=>(some (s,w),[o])::r
def dV (l:List Bz):List SM:=List.rec (motive:=fun _=>List SM) [] (fun o _ ih=>Wb o ih) l
def QP (l:List SM):List Bz:=l.flatMap (·.2)
theorem Rw (o:Bz) (r:List SM):QP (Wb o r)=o::QP r:=by
 unfold Wb
 split
 ·rfl
 ·split
  ·cases DO _ _ o<;>rfl
  ·rfl
theorem Gq:∀l:List Bz,QP (dV l)=l
 | []=>rfl
 | o::l=>by
  show QP (Wb o (dV l))=_
  rw[Rw,Gq l]
def fJ (call:Bq) (g:SM) (e:Env) (h:KH) (K:EK):KC:=Prod.rec (motive:=fun _=>KC) (fun g ops=>Option.rec (motive:=fun _=>KC)
  (Bool.rec (motive:=fun _=>KC) .bad (Td call ops e h K) (ops.all (fun o=>o.gd.isNone)))
  (fun p=>Prod.rec (motive:=fun _=>KC) (fun s w=>Bool.rec (motive:=fun _=>KC) .bad (Ab w (e s) (Hw (H_ ops) e K) (fun J=>Td call ops e h (Ci (H_ ops) J)) (fun J=>Ci (H_ ops) J (fun _=>AI) h)) (ops.all (DO s w))) p) g) g
def V2 (call:Bq) (gs:List SM):Env→KH→EK→KC:=
 List.rec (motive:=fun _=>Env→KH→EK→KC) (fun e h K=>K e h) (fun g _ ih e h K=>fJ call g e h fun e' h'=>ih e' h' K) gs
def My (o:Bz):Bool:=match o.dst with
 | some d=>Nat.ble (Nat.succ d) Ao
 | none=>true
theorem DW {o:Bz}(h:My o=true):o.dst≠some Ao:=by
 unfold My at h
 cases hd:o.dst with
 | none=>simp
 | some d=>
  rw[hd]at h
  have:=Nat.le_of_ble_eq_true h
  simp only[ne_eq,Option.some.injEq];omega
def Zl (call:Bq) (ops:List Bz) (e:Env) (h:KH) (K:EK):KC:=Bool.rec (motive:=fun _=>KC) .bad (V2 call (dV ops) e h K) (ops.all My)
theorem B0 {e:Env}{d:Option Nat}{v:AV}{t:Nat}(h:d≠some t):(e.put d v) t=e t:=by
 cases d with
 | none=>rfl
 | some d=>
  show(e.set d v) t=e t
  rw[Env.B4,if_neg (by rintro rfl;exact h rfl)]
theorem Eh {d:Option Nat}{l:List Nat}{t:Nat}:t∈Gu d l↔d=some t∨t∈l:=by
 cases d with
 | none=>simp[Gu]
 | some d=>simp[Gu,eq_comm]
theorem ID {b:Bool}{x r:KC}(h:Bool.rec (motive:=fun _=>KC) .bad x b=r) (hb:r≠.bad):b=true∧x=r:=by
 cases b with
 | true=>exact⟨rfl,h⟩
 | false=>exact absurd h.symm hb
section
variable {P:Program}{call:Bq}{r:KC}{K':Env→AH→Prop}{Kp':AV→Env→AH→Prop}
theorem Ht (hC:BD P call) (hb:r≠.bad){s:Nat}{w:Bool}{K:EK}(h2:∀v h,r=.pan v h→∀e,e Ao=.tup []→Kp' v e (BF h)):∀(ops:List Bz) (e:Env) (h:KH),ops.all My=true→e Ao=.tup [] →
  (I7 (e s)=some (some w)∧ops.all (DO s w)=true∨ops.all (fun o=>o.gd.isNone)=true)→Td call ops e h K=r →
  (∀e' h',(∀t,t ∉ H_ ops→e' t=e t)→e' Ao=.tup []→K e' h'=r→K' e' (BF h'))→Cp P ops e (BF h) K' Kp'
 | [],e,h,_,hd,_,hr,h1=>h1 e h (fun _ _=>rfl) hd hr
 | o::ops,e,h,ho,hd,hg,hr,h1=>by
  have hr:(Na call o.k e h fun v h'=>Td call ops (e.put o.dst v) h' K)=r:=hr
  simp only[List.all_cons,Bool.and_eq_true]at ho hg
  have hd':∀v,(e.put o.dst v) Ao=.tup []:=fun v=>by rw[B0 (DW ho.1)];exact hd
  have go:∀v h',(I7 ((e.put o.dst v) s)=some (some w)∧ops.all (DO s w)=true∨ops.all (fun o=>o.gd.isNone)=true)→Td call ops (e.put o.dst v) h' K=r→Cp P ops (e.put o.dst v) (BF h') K' Kp':=fun v h' hg' hx=>
   Ht hC hb h2 ops (e.put o.dst v) h' ho.2 (hd' v) hg' hx fun e' h'' q1 q2 q3=>h1 e' h'' (fun t ht=>by
    have ht:t ∉ Gu o.dst (H_ ops):=ht
    rw[Eh,not_or]at ht
    rw[q1 t ht.2,B0 ht.1]) q2 q3
  have st:=fun(hg':∀v,I7 ((e.put o.dst v) s)=some (some w)∧ops.all (DO s w)=true∨ops.all (fun o=>o.gd.isNone)=true)=>Hv (P:=P) (K':=fun v H'=>Cp P ops (e.put o.dst v) H' K' Kp') (Kp':=fun v H'=>Kp' v e H') hC (k:=o.k) (e:=e) (h:=h) hr hb (fun v h' hx=>go v h' (hg' v) hx) (fun v h' hx=>h2 v h' hx e hd)
  obtain⟨dst,k,gd⟩:=o
  rcases hg with⟨g1,g2,g3⟩ | ⟨g2,g3⟩
  ·obtain⟨rfl,g4⟩:=D_ g2
   have sg:=st fun v=>.inl ⟨by rw[B0 g4];exact g1,g3⟩
   exact QM g1 (fun _=>sg.1) (fun hn=>absurd rfl hn)
  ·simp only[Option.isNone_iff_eq_none]at g2
   subst g2
   have sg:=st fun v=>.inr g3
   exact JY sg.2 sg.1
theorem Ll [YC] {s:Nat}{w:Bool}{b:Option Bool}(hn:b≠some w):∀(ops:List Bz) (e:Env) (H:AH),ops.all (DO s w)=true→I7 (e s)=some b→K' (Fi (H_ ops) (fun _=>AI) e) H→Cp P ops e H K' Kp'
 | [],e,H,_,_,h=>h
 | o::ops,e,H,hg,hs,h=>by
  simp only[List.all_cons,Bool.and_eq_true]at hg
  obtain⟨dst,k,gd⟩:=o
  obtain⟨rfl,g4⟩:=D_ hg.1
  refine QM hs (fun hw=>absurd hw hn) fun _=>Ll hn ops _ H hg.2 (by rw[B0 g4];exact hs) ?_
  cases dst with
  | none=>exact h
  | some d=>exact h
theorem Ft [YC]:∀(a b:List Bz) (e:Env) (H:AH),Cp P a e H (fun e' H'=>Cp P b e' H' K' Kp') Kp'→Cp P (a++b) e H K' Kp'
 | [],b,e,H,h=>h
 | o::a,b,e,H,h=>by
  obtain⟨dst,k,gd⟩:=o
  have mono:∀{K1 K2:AV→AH→Prop} {Kp:AV→AH→Prop},(∀v H',K1 v H'→K2 v H')→Fy P k e H K1 Kp→Fy P k e H K2 Kp:=fun hk ha=>by
   unfold Fy at ha ⊢
   split at ha
   ·unfold EV at ha ⊢
    split at ha
    ·exact ha.mono fun o H' hq=>by cases o with
      | ret v=>exact hk _ _ hq
      | pan v=>exact hq
    ·exact YC.mono ha fun o H' hq=>by cases o with
      | ret v=>exact hk _ _ hq
      | pan v=>exact hq
    ·exact ha
   ·exact ha
   ·exact ha
   ·exact ha
   ·split at ha
    ·exact hk _ _ ha
    ·exact ha
  cases gd with
  | none=>
   simp only[List.cons_append,Cp]at h ⊢
   split at h
   ·split at h
    ·exact Ft a b _ _ h
    ·exact h
   ·exact mono (fun v H' hq=>Ft a b _ _ hq) h
  | some p=>
   obtain⟨s,w⟩:=p
   simp only[List.cons_append,Cp]at h ⊢
   split at h
   ·exact⟨fun hw=>mono (fun v H' hq=>Ft a b _ _ hq) (h.1 hw),fun hw=>Ft a b _ _ (h.2 hw)⟩
   ·exact h
theorem Ni:∀{ops:List Bz},ops.all My=true→Ao ∉ H_ ops
 | [],_,hm=>by cases hm
 | o::ops,h,hm=>by
  have hm:Ao∈Gu o.dst (H_ ops):=hm
  simp only[List.all_cons,Bool.and_eq_true]at h
  rw[Eh]at hm
  rcases hm with hm | hm
  ·exact DW h.1 hm
  ·exact Ni h.2 hm
theorem LQ (hC:BD P call) (hb:r≠.bad){K:EK}(h1:∀e h,e Ao=.tup []→K e h=r→K' e (BF h)) (h2:∀v h,r=.pan v h→∀e,e Ao=.tup []→Kp' v e (BF h)) :
  ∀(gs:List SM) (e:Env) (h:KH),(QP gs).all My=true→e Ao=.tup []→V2 call gs e h K=r→Cp P (QP gs) e (BF h) K' Kp'
 | [],e,h,_,hd,hr=>h1 e h hd hr
 | (g,ops)::gs,e,h,ho,hd,hr=>by
  have hr:(fJ call (g,ops) e h fun e' h'=>V2 call gs e' h' K)=r:=hr
  change (ops++QP gs).all My=true at ho
  rw[List.all_append,Bool.and_eq_true]at ho
  have rest:∀e' h',e' Ao=.tup []→V2 call gs e' h' K=r→Cp P (QP gs) e' (BF h') K' Kp':=fun e' h' hd' hx=>LQ hC hb h1 h2 gs e' h' ho.2 hd' hx
  refine Ft ops (QP gs) e (BF h) ?_
  cases g with
  | none=>
   obtain⟨g1,g2⟩:=ID hr hb
   exact Ht hC hb (s:=0) (w:=true) h2 ops e h ho.1 hd (.inr g1) g2 fun e' h' _ q2 q3=>rest e' h' q2 q3
  | some p=>
   obtain⟨s,w⟩:=p
   obtain⟨g1,g2⟩:=ID hr hb
   obtain⟨b,k1,k2,k3⟩:=Kw g2 hb
   by_cases hw:b=some w
   ·subst hw
    refine Ht hC hb h2 ops e h ho.1 hd (.inl ⟨k1,g1⟩) (k2 rfl) fun e' h' q1 q2 q3=>rest e' h' q2 ?_
    rw[C_]at q3
    have:Fi (H_ ops) e' e=e':=by
     funext t
     rw[Cs]
     split
     ·rfl
     ·rename_i hm;exact(q1 t hm).symm
    rw[this]at q3;exact q3
   ·have k3:=k3 hw
    simp only[C_]at k3
    refine Ll hw ops e (BF h) g1 k1 (rest _ h ?_ k3)
    rw[Cs,if_neg (Ni ho.1)]
    exact hd
theorem Ph (hC:BD P call) (hb:r≠.bad){K:EK}(h1:∀e h,e Ao=.tup []→K e h=r→K' e (BF h)) (h2:∀v h,r=.pan v h→∀e,e Ao=.tup []→Kp' v e (BF h))
  {ops:List Bz} {e:Env} {h:KH} (hd:e Ao=.tup []) (hr:Zl call ops e h K=r):Cp P ops e (BF h) K' Kp':=by
 obtain⟨g1,g2⟩:=ID hr hb
 have:=LQ hC hb h1 h2 (dV ops) e h (by rw[Gq];exact g1) hd g2
 rw[Gq]at this;exact this
end
end Go.AL
 
end
noncomputable section
namespace Go.AL
variable [BY]
def Tn (call:Bq) (eff:Bool) (k:AK) (e:Env) (h:KH) (K:AV→KH→KC):KC:=
 Bool.rec (motive:=fun _=>KC) (FE.rec (motive:=fun _=>KC) (fun f _=>f e fun v=>K v h) (fun f _=>f e h fun v=>K v h) (fun f _=>f e fun c g=>Aw c g h K) (fun _ _=>.bad) (HX k)) (Na call k e h K) eff
def Og (call:Bq) (its:List Cv):Env→KH→EK→KC:=
 List.rec (motive:=fun _=>Env→KH→EK→KC) (fun e h K=>K e h) (fun it _ ih e h K=>Tn call it.eff it.o.k e h fun v h'=>ih (e.put it.o.dst v) h' K) its
def Ev (its:List Cv):List Nat:=List.rec (motive:=fun _=>List Nat) [] (fun it _ ih=>Gu it.o.dst ih) its
def KX:=Option (Nat × Bool) × List Cv
def Q6 (it:Cv) (r:List KX):List KX:=match it.o.gd with
 | none=>(none,[it])::r
 | some (s,w)=>match r with
  | (some (s',w'),ls)::r'=>bif DO s' w' it.o then(some (s,w),it::ls)::r' else(some (s,w),[it])::(some (s',w'),ls)::r'
  | r=>(some (s,w),[it])::r
def Rg (l:List Cv):List KX:=List.rec (motive:=fun _=>List KX) [] (fun o _ ih=>Q6 o ih) l
def IP (l:List KX):List Cv:=l.flatMap (·.2)
theorem P0 (o:Cv) (r:List KX):IP (Q6 o r)=o::IP r:=by
 unfold Q6
 split
 ·rfl
 ·split
  ·cases DO _ _ o.o<;>rfl
  ·rfl
theorem Fm:∀l:List Cv,IP (Rg l)=l
 | []=>rfl
 | o::l=>by
  show IP (Q6 o (Rg l))=_
  rw[P0,Fm l]
def Y7 (call:Bq) (g:KX) (e:Env) (h:KH) (K:EK):KC:=Prod.rec (motive:=fun _=>KC) (fun g its=>Option.rec (motive:=fun _=>KC)
  (Bool.rec (motive:=fun _=>KC) .bad (Og call its e h K) (its.all (fun it=>it.o.gd.isNone)))
  (fun p=>Prod.rec (motive:=fun _=>KC) (fun s w=>Bool.rec (motive:=fun _=>KC) .bad (Ab w (e s) (Hw (Ev its) e K) (fun J=>Og call its e h (Ci (Ev its) J)) (fun J=>Ci (Ev its) J (fun _=>AI) h)) (its.all (fun it=>DO s w it.o))) p) g) g
def Qp (call:Bq) (gs:List KX):Env→KH→EK→KC:=
 List.rec (motive:=fun _=>Env→KH→EK→KC) (fun e h K=>K e h) (fun g _ ih e h K=>Y7 call g e h fun e' h'=>ih e' h' K) gs
def O_ (it:Cv):Bool:=My it.o&&it.fl.isEmpty
section
variable {P:Program}{call:Bq}{r:KC}{ep:Env}{K':Env→AH→Prop}{Kp':AV→Env→AH→Prop}
theorem Jw (hC:BD P call) (hb:r≠.bad) {i pre:Nat}{d:Option Nat}{k:AK}{eff:Bool}{l:List Cv}{e:Env}{h:KH}{pend:Dl}{K:AV→KH→KC}(hr:Tn call eff k e h K=r)
  (h1:∀v h' pend',K v h'=r→BO P ep K' Kp' l (e.put d v) (BF h') pend') (h2:∀v h',r=.pan v h'→Kp' v ep (BF h')):BO P ep K' Kp' (⟨i,⟨d,k,none⟩,pre,[],eff⟩::l) e (BF h) pend:=by
 cases eff with
 | true=>exact Qb (Hv hC hr hb (fun v h' hk=>⟨trivial,h1 v h' pend hk⟩) (fun v h' hk=>h2 v h' hk)).1
 | false=>
  have hr:FE.rec (motive:=fun _=>KC) (fun f _=>f e fun v=>K v h) (fun f _=>f e h fun v=>K v h) (fun f _=>f e fun c g=>Aw c g h K) (fun _ _=>.bad) (HX k)=r:=hr
  generalize HX k=a at hr
  cases a with
  | pu f ok=>
   obtain⟨v,g1,g2⟩:=ok _ _ _ hr hb
   exact Hr g1 (h1 v h pend g2)
  | rd f ok=>
   obtain⟨v,g0,g1,g2⟩:=ok _ _ _ _ hr hb
   exact NM g0 g1 (h1 v h _ g2)
  | nw f ok=>
   obtain⟨c,g,g0,g1,g2,g3,g4⟩:=ok _ _ _ hr hb
   obtain⟨h',k1,k2⟩:=KH.Cf g4 hb
   refine QZ g0 (g1 _) g2 ?_
   rw[JG,←k1]
   exact h1 _ h' _ k2
  | ef f ok=>exact absurd hr.symm hb
theorem Gm (hC:BD P call) (hb:r≠.bad){s:Nat}{w:Bool}{K:EK}{rest:List Cv}(h2:∀v h,r=.pan v h→Kp' v ep (BF h)):∀(its:List Cv) (e:Env) (h:KH) (pend:Dl),its.all O_=true→e Ao=.tup [] →
  (I7 (e s)=some (some w)∧its.all (fun it=>DO s w it.o)=true∨its.all (fun it=>it.o.gd.isNone)=true)→Og call its e h K=r →
  (∀e' h' pend',(∀t,t ∉ Ev its→e' t=e t)→e' Ao=.tup []→K e' h'=r→BO P ep K' Kp' rest e' (BF h') pend')→BO P ep K' Kp' (its++rest) e (BF h) pend
 | [],e,h,pend,_,hd,_,hr,h1=>h1 e h pend (fun _ _=>rfl) hd hr
 | it::its,e,h,pend,ho,hd,hg,hr,h1=>by
  have hr:(Tn call it.eff it.o.k e h fun v h'=>Og call its (e.put it.o.dst v) h' K)=r:=hr
  simp only[List.all_cons,Bool.and_eq_true]at ho hg
  obtain⟨ho1,ho2⟩:=ho
  simp only[O_,Bool.and_eq_true]at ho1
  have hd':∀v,(e.put it.o.dst v) Ao=.tup []:=fun v=>by rw[B0 (DW ho1.1)];exact hd
  have go:∀v h' pend',(I7 ((e.put it.o.dst v) s)=some (some w)∧its.all (fun it=>DO s w it.o)=true∨its.all (fun it=>it.o.gd.isNone)=true)→Og call its (e.put it.o.dst v) h' K=r→BO P ep K' Kp' (its++rest) (e.put it.o.dst v) (BF h') pend':=fun v h' pend' hg' hx=>
   Gm hC hb h2 its (e.put it.o.dst v) h' pend' ho2 (hd' v) hg' hx fun e' h'' pend'' q1 q2 q3=>h1 e' h'' pend'' (fun t ht=>by
    have ht:t ∉ Gu it.o.dst (Ev its):=ht
    rw[Eh,not_or]at ht
    rw[q1 t ht.2,B0 ht.1]) q2 q3
  obtain⟨i,⟨dst,k,gd⟩,pre,fl,eff⟩:=it
  have hfl:=ho1.2
  simp only[List.isEmpty_iff]at hfl
  subst hfl
  rcases hg with⟨g1,g2,g3⟩ | ⟨g2,g3⟩
  ·obtain⟨hh,g4⟩:=D_ g2
   simp only at hh g4
   subst hh
   refine OR g1 (fun _=>Jw hC hb hr (fun v h' pend' hx=>go v h' pend' (.inl ⟨by simp only;rw[B0 g4];exact g1,g3⟩) hx) h2) (fun hn=>absurd rfl hn)
  ·simp only[Option.isNone_iff_eq_none]at g2
   subst g2
   exact Jw hC hb hr (fun v h' pend' hx=>go v h' pend' (.inr g3) hx) h2
theorem Jc [YC] {s:Nat}{w:Bool}{b:Option Bool}(hn:b≠some w){rest:List Cv}:∀(its:List Cv) (e:Env) (H:AH) (pend:Dl),its.all (fun it=>DO s w it.o)=true→I7 (e s)=some b→BO P ep K' Kp' rest (Fi (Ev its) (fun _=>AI) e) H pend→BO P ep K' Kp' (its++rest) e H pend
 | [],e,H,pend,_,_,h=>h
 | it::its,e,H,pend,hg,hs,h=>by
  simp only[List.all_cons,Bool.and_eq_true]at hg
  obtain⟨i,⟨dst,k,gd⟩,pre,fl,eff⟩:=it
  obtain⟨hh,g4⟩:=D_ hg.1
  simp only at hh g4
  subst hh
  refine OR hs (fun hw=>absurd hw hn) fun _=>Jc hn its _ H pend hg.2 (by rw[B0 g4];exact hs) ?_
  cases dst with
  | none=>exact h
  | some d=>exact h
theorem Lg:∀{its:List Cv},its.all O_=true→Ao ∉ Ev its
 | [],_,hm=>by cases hm
 | it::its,h,hm=>by
  have hm:Ao∈Gu it.o.dst (Ev its):=hm
  simp only[List.all_cons,Bool.and_eq_true,O_]at h
  rw[Eh]at hm
  rcases hm with hm | hm
  ·exact DW h.1.1 hm
  ·exact Lg h.2 hm
theorem Ju (hC:BD P call) (hb:r≠.bad){K:EK}(h1:∀e h,e Ao=.tup []→K e h=r→K' e (BF h)) (h2:∀v h,r=.pan v h→Kp' v ep (BF h)) :
  ∀(gs:List KX) (e:Env) (h:KH) (pend:Dl),(IP gs).all O_=true→e Ao=.tup []→Qp call gs e h K=r→BO P ep K' Kp' (IP gs) e (BF h) pend
 | [],e,h,pend,_,hd,hr=>h1 e h hd hr
 | (g,its)::gs,e,h,pend,ho,hd,hr=>by
  have hr:(Y7 call (g,its) e h fun e' h'=>Qp call gs e' h' K)=r:=hr
  change (its++IP gs).all O_=true at ho
  rw[List.all_append,Bool.and_eq_true]at ho
  have rest:∀e' h' pend',e' Ao=.tup []→Qp call gs e' h' K=r→BO P ep K' Kp' (IP gs) e' (BF h') pend':=fun e' h' pend' hd' hx=>Ju hC hb h1 h2 gs e' h' pend' ho.2 hd' hx
  show BO P ep K' Kp' (its++IP gs) e (BF h) pend
  cases g with
  | none=>
   obtain⟨g1,g2⟩:=ID hr hb
   exact Gm hC hb (s:=0) (w:=true) h2 its e h pend ho.1 hd (.inr g1) g2 fun e' h' pend' _ q2 q3=>rest e' h' pend' q2 q3
  | some p=>
   obtain⟨s,w⟩:=p
   obtain⟨g1,g2⟩:=ID hr hb
   obtain⟨b,k1,k2,k3⟩:=Kw g2 hb
   by_cases hw:b=some w
   ·subst hw
    refine Gm hC hb h2 its e h pend ho.1 hd (.inl ⟨k1,g1⟩) (k2 rfl) fun e' h' pend' q1 q2 q3=>rest e' h' pend' q2 ?_
    rw[C_]at q3
    have:Fi (Ev its) e' e=e':=by
     funext t
     rw[Cs]
     split
     ·rfl
     ·rename_i hm;exact(q1 t hm).symm
    rw[this]at q3;exact q3
   ·have k3:=k3 hw
    simp only[C_]at k3
    refine Jc hw its e (BF h) pend g1 k1 (rest _ h _ ?_ k3)
    rw[Cs,if_neg (Lg ho.1)]
    exact hd
end
abbrev G5:=List (Nat × (KH→Bool))
def OV (i:Nat) (l:List Nat):Bool:=List.rec (motive:=fun _=>Bool) false (fun j _ ih=>bif Nat.beq i j then true else ih) l
theorem NT {i:Nat}:∀{l:List Nat},i∈l→OV i l=true
 | j::l,h=>by
  show(bif Nat.beq i j then true else OV i l)=true
  cases h with
  | head=>rw[Nat.beq_refl];rfl
  | tail _ h=>rw[NT h];cases Nat.beq i j<;>rfl
def Tp (fl:List Nat) (pd:G5) (h:KH):Bool:=List.rec (motive:=fun _=>Bool) true (fun p _ ih=>bif OV p.1 fl then(bif p.2 h then ih else false)else ih) pd
theorem Qr {fl:List Nat}{h:KH}:∀{pd:G5},Tp fl pd h=true→∀p∈pd,p.1∈fl→p.2 h=true
 | p::pd,hk,q,hq,hf=>by
  have hk:(bif OV p.1 fl then(bif p.2 h then Tp fl pd h else false)else Tp fl pd h)=true:=hk
  cases hq with
  | head=>
   rw[NT hf]at hk
   cases hp:p.2 h with
   | true=>rfl
   | false=>rw[hp]at hk;cases hk
  | tail _ hq=>
   refine Qr (pd:=pd) ?_ q hq hf
   cases hm:OV p.1 fl with
   | false=>rw[hm]at hk;exact hk
   | true=>
    rw[hm]at hk
    cases hp:p.2 h with
    | true=>rw[hp]at hk;exact hk
    | false=>rw[hp]at hk;cases hk
def Jf (pd:G5) (pend:Dl):Prop:=∀i p,pend.lookup i=some p→∃b,(i,b)∈pd∧∀x,b x=true→p (BF x)
theorem Jf.more {pd:G5}{pend:Dl}(h:Jf pd pend) (q:Nat × (KH→Bool)):Jf (q::pd) pend:=fun i p hi=>let ⟨b,h1,h2⟩:=h i p hi;⟨b,.tail _ h1,h2⟩
theorem Jf.cons {pd:G5}{pend:Dl}(h:Jf pd pend){i:Nat}{b:KH→Bool}{p:AH→Prop}(hp:∀x,b x=true→p (BF x)):Jf ((i,b)::pd) ((i,p)::pend):=fun j q hj=>by
 rw[List.lookup_cons]at hj
 by_cases hij:(j==i)=true
 ·rw[hij]at hj
  simp only[Option.some.injEq]at hj
  subst hj
  have:j=i:=by simpa using hij
  subst this
  exact⟨b,.head _,hp⟩
 ·simp only[Bool.not_eq_true]at hij
  rw[hij]at hj
  obtain⟨b',h1,h2⟩:=h j q hj
  exact⟨b',.tail _ h1,h2⟩
theorem Jf.PA {pd:G5}{pend:Dl}(hp:Jf pd pend){h:KH}:∀{fl fl':List Nat},(∀i∈fl',i∈fl)→Tp fl pd h=true→PA fl' pend (BF h)
 | _,[],_,_=>trivial
 | fl,i::is,hs,hk=>by
  refine⟨?_,Jf.PA hp (fun j hj=>hs j (.tail _ hj)) hk⟩
  cases hl:pend.lookup i with
  | none=>trivial
  | some p=>
   obtain⟨b,h1,h2⟩:=hp i p hl
   exact h2 h (Qr hk _ h1 (hs i (.head _)))
def Bw (x:Option AV) (v:AV):Bool:=match x with
 | some y=>ES y v
 | none=>false
def fI (x:Option (List AV)) (v:List AV):Bool:=match x with
 | some y=>Eb y v
 | none=>false
def iz (k:AK) (e:Env) (v:AV) (h:KH):Bool:=match k with
 | .load g x=>Bw (Bb g (x.ev e) h) v
 | k=>Bw (Ba k e (BF h)) v
theorem Rc {k:AK}{e:Env}{v:AV}{h:KH}(hk:iz k e v h=true):Ba k e (BF h)=some v:=by
 have key:∀{o:Option AV},Bw o v=true→o=some v:=fun{o} ho=>by
  unfold Bw at ho
  split at ho
  ·rw[EB _ _ ho]
  ·cases ho
 unfold iz at hk
 split at hk
 ·rename_i g x
  have:=key hk
  rw[LR]at this;exact this
 ·exact key hk
def JQ (r:Nat) (c:List AV):KH→Bool:=fun h=>fI (Ce h r) c
def Oa (call:Bq) (eff:Bool) (fl:List Nat) (pd:G5) (k:AK) (e:Env) (h:KH) (K:KG):KC:=
 Bool.rec (motive:=fun _=>KC) (FE.rec (motive:=fun _=>KC) (fun f _=>f e fun v=>K v Y4 h) (fun f _=>f e h fun v=>K v (iz k e v) h) (fun f _=>f e fun c g=>Aw c g h fun v h'=>K v (JQ h.nx c) h') (fun _ _=>.bad) (HX k))
  (Na call k e h fun v h'=>BJ (Tp fl pd h') (K v Y4 h')) eff
def Mq (call:Bq) (l:List Cv):Env→KH→G5→EK→KC:=
 List.rec (motive:=fun _=>Env→KH→G5→EK→KC) (fun e h _ K=>K e h) (fun it _ ih e h pd K=>
  Option.rec (motive:=fun _=>KC) (Oa call it.eff it.fl pd it.o.k e h fun v c h'=>ih (e.put it.o.dst v) h' ((it.i,c)::pd) K)
   (fun p=>dw p.2 (e p.1) h (fun v c h'=>ih (e.put it.o.dst v) h' ((it.i,c)::pd) K) fun J=>Oa call it.eff it.fl pd it.o.k e h J) it.o.gd) l
section
variable {P:Program}{call:Bq}{r:KC}{ep:Env}{K':Env→AH→Prop}{Kp':AV→Env→AH→Prop}
theorem Js (hC:BD P call) (hb:r≠.bad) {i pre:Nat}{d:Option Nat}{k:AK}{eff:Bool}{fl:List Nat}{pd:G5}{l:List Cv}{e:Env}{h:KH}{pend:Dl}(hp:Jf pd pend){K:KG}(hr:Oa call eff fl pd k e h K=r)
  (h1:∀v c h' pend',Jf ((i,c)::pd) pend'→K v c h'=r→BO P ep K' Kp' l (e.put d v) (BF h') pend') (h2:∀v h',r=.pan v h'→Kp' v ep (BF h')):BO P ep K' Kp' (⟨i,⟨d,k,none⟩,pre,fl,eff⟩::l) e (BF h) pend:=by
 cases eff with
 | true=>
  refine Qb (Hv hC hr hb (fun v h' hk=>?_) (fun v h' hk=>h2 v h' hk)).1
  obtain⟨g1,g2⟩:=ID hk hb
  exact⟨hp.PA (fun _ hi=>hi) g1,h1 v Y4 h' pend (hp.more _) g2⟩
 | false=>
  have hr:FE.rec (motive:=fun _=>KC) (fun f _=>f e fun v=>K v Y4 h) (fun f _=>f e h fun v=>K v (iz k e v) h) (fun f _=>f e fun c g=>Aw c g h fun v h'=>K v (JQ h.nx c) h') (fun _ _=>.bad) (HX k)=r:=hr
  generalize HX k=a at hr
  cases a with
  | pu f ok=>
   obtain⟨v,g1,g2⟩:=ok _ _ _ hr hb
   exact Hr g1 (h1 v Y4 h pend (hp.more _) g2)
  | rd f ok=>
   obtain⟨v,g0,g1,g2⟩:=ok _ _ _ _ hr hb
   exact NM g0 g1 (h1 v _ h _ (hp.cons fun x hx=>Rc hx) g2)
  | nw f ok=>
   obtain⟨c,g,g0,g1,g2,g3,g4⟩:=ok _ _ _ hr hb
   obtain⟨h',k1,k2⟩:=KH.Cf g4 hb
   refine QZ g0 (g1 _) g2 ?_
   rw[JG,←k1]
   refine h1 _ _ h' _ (hp.cons fun x hx=>?_) k2
   unfold JQ fI at hx
   split at hx
   ·rename_i y hy
    rw[CG]at hy
    have:=CB _ _ hx
    subst this
    unfold AH.cells? at hy
    split at hy
    ·rename_i l' hl';simp only[Option.some.injEq]at hy;subst hy;exact hl'
    ·cases hy
   ·cases hx
  | ef f ok=>exact absurd hr.symm hb
theorem Jr (hC:BD P call) (hb:r≠.bad){K:EK}(h1:∀e h,e Ao=.tup []→K e h=r→K' e (BF h)) (h2:∀v h,r=.pan v h→Kp' v ep (BF h)) :
  ∀(l:List Cv) (e:Env) (h:KH) (pd:G5) (pend:Dl),Jf pd pend→l.all (fun it=>My it.o)=true→e Ao=.tup []→Mq call l e h pd K=r→BO P ep K' Kp' l e (BF h) pend
 | [],e,h,pd,pend,_,_,hd,hr=>h1 e h hd hr
 | ⟨i,⟨dst,k,gd⟩,pre,fl,eff⟩::l,e,h,pd,pend,hp,ho,hd,hr=>by
  simp only[List.all_cons,Bool.and_eq_true]at ho
  have go:∀v c h' pend',Jf ((i,c)::pd) pend'→Mq call l (e.put dst v) h' ((i,c)::pd) K=r→BO P ep K' Kp' l (e.put dst v) (BF h') pend':=fun v c h' pend' hp' hx=>
   Jr hC hb h1 h2 l _ h' _ pend' hp' ho.2 (by rw[B0 (DW ho.1)];exact hd) hx
  cases gd with
  | none=>
   have hr:(Oa call eff fl pd k e h fun v c h'=>Mq call l (e.put dst v) h' ((i,c)::pd) K)=r:=hr
   exact Js hC hb hp hr (fun v c h' pend' q1 q2=>go v c h' pend' q1 q2) h2
  | some p=>
   obtain⟨s,w⟩:=p
   have hr:(RG w (e s) (Oa call eff fl pd k e h fun v c h'=>Mq call l (e.put dst v) h' ((i,c)::pd) K) (Mq call l (e.put dst AI) h ((i,Y4)::pd) K))=r:=hr
   obtain⟨b,k1,k2,k3⟩:=Kw hr hb
   exact OR k1 (fun hw=>Js hC hb hp (k2 hw) (fun v c h' pend' q1 q2=>go v c h' pend' q1 q2) h2) (fun hw=>go AI Y4 h pend (hp.more _) (k3 hw))
end
def Qo (call:Bq) (plan:List Cv) (e:Env) (h:KH) (K:EK):KC:=
 Bool.rec (motive:=fun _=>KC) (Bool.rec (motive:=fun _=>KC) .bad (Mq call plan e h [] K) (plan.all (fun it=>My it.o))) (Qp call (Rg plan) e h K) (plan.all O_)
theorem HO {plan:List Cv}{e:Env}(ho:plan.all (fun it=>My it.o)=true):Gw plan e Ao=e Ao:=by
 unfold Gw
 rw[if_neg]
 intro hh
 rw[List.any_eq_true]at hh
 obtain⟨it,h1,h2⟩:=hh
 rw[List.all_eq_true]at ho
 exact DW (ho it h1) (by simpa using h2)
theorem Oh {P:Program}{call:Bq}{r:KC}{K':Env→AH→Prop}{Kp':AV→Env→AH→Prop}(hC:BD P call) (hb:r≠.bad){K:EK}(h1:∀e h,e Ao=.tup []→K e h=r→K' e (BF h)) (h2:∀v h,r=.pan v h→∀e,e Ao=.tup []→Kp' v e (BF h))
  {plan:List Cv} {e:Env} {h:KH} (hd:e Ao=.tup []) (hr:Qo call plan e h K=r):BO P (Gw plan e) K' Kp' plan e (BF h) []:=by
 unfold Qo at hr
 cases hf:plan.all O_ with
 | true=>
  rw[hf]at hr
  have hd':plan.all (fun it=>My it.o)=true:=by
   rw[List.all_eq_true]at hf ⊢
   intro x hx
   have:=hf x hx
   simp only[O_,Bool.and_eq_true]at this
   exact this.1
  have:=Ju hC hb (ep:=Gw plan e) (Kp':=Kp') h1 (fun v h hv=>h2 v h hv _ (by rw[HO hd'];exact hd)) (Rg plan) e h [] (by rw[Fm];exact hf) hd hr
  rw[Fm]at this;exact this
 | false=>
  rw[hf]at hr
  obtain⟨g1,g2⟩:=ID hr hb
  exact Jr hC hb h1 (fun v h hv=>h2 v h hv _ (by rw[HO g1];exact hd)) plan e h [] [] (fun i p hi=>by cases hi) g1 hd g2
end Go.AL
 
end
noncomputable section
namespace Go.AL
variable [BY]
inductive HT where
 | l
 | s (a b:HT)
 | i (a b:HT)
 | j (l:List Nat) (a b:HT)
def BH (l:List Nat):JT l:=List.rec (motive:=fun l=>JT l) (fun _=>.bad) (fun _ _ ih _=>ih) l
theorem LY:∀(l:List Nat) (e:Env) (h:KH),Ci l (BH l) e h=.bad
 | [],_,_=>rfl
 | _::l,e,h=>LY l e h
def BS:Env:=fun i=>bif Nat.beq i Ao then .tup []else .unk
def Pl (id:Nat) (K:EK) (ke:Nat→EK):Nat→EK:=(fun(_:AK→Nat) i=>Bool.rec (motive:=fun _=>EK) (ke i) K (Nat.beq i id)) VY
theorem Qn (id:Nat) (K:EK) (ke:Nat→EK) (i:Nat):Pl id K ke i=if i=id then K else ke i:=by
 show Bool.rec (motive:=fun _=>EK) (ke i) K (Nat.beq i id)=_
 rw[DD]
 by_cases h:i=id<;>simp[h]
def OZ:EK:=fun _ _=>.bad
def run (call:Bq) (c:CJ):HT→EK→(Nat→EK)→EK→EK:=
 CJ.rec (motive:=fun _=>HT→EK→(Nat→EK)→EK→EK)
  (fun _ kn _ _=>kn)
  (fun ops _ kn _ _ e h=>Zl call ops e h kn)
  (fun plan _ kn _ _ e h=>Qo call plan e h kn)
  (fun _ _ ra rb t kn ke kr=>HT.rec (motive:=fun _=>EK) OZ (fun x y _ _=>ra x (rb y kn ke kr) ke kr) (fun _ _ _ _=>OZ) (fun _ _ _ _ _=>OZ) t)
  (fun c _ _ ra rb t kn ke kr e h=>HT.rec (motive:=fun _=>KC) .bad (fun _ _ _ _=>.bad) (fun x y _ _=>AQ (c.ev e) (ra x kn ke kr e h) (rb y kn ke kr e h))
   (fun l x y _ _=>CN (c.ev e) (Hw l BS kn) (fun J=>ra x (Ci l J) ke kr e h) (fun J=>rb y (Ci l J) ke kr e h)) t)
  (fun id _ ra t kn ke kr e h=>HT.rec (motive:=fun _=>KC) .bad (fun _ _ _ _=>.bad) (fun x _ _ _=>ra x kn (Pl id kn ke) kr e h)
   (fun l x _ _ _=>MU (Hw l BS kn) fun J=>ra x (Ci l J) (Pl id (Ci l J) ke) kr e h) t)
  (fun _ ra t _ ke kr e h=>HT.rec (motive:=fun _=>KC) .bad (fun _ _ _ _=>.bad) (fun _ _ _ _=>.bad)
   (fun l x _ _ _=>Ci l (Ad (BH l) fun self=>Hw l BS fun e h=>ra x (Ci l self) ke kr e h) e h) t)
  (fun id _ _ ke _=>ke id)
  (fun _ _ _ kr=>kr)
  (fun _ _ _ _ _ _ _ _ _ _=>OZ) c
def KQ (r:KC) (kn:EK) (ke:Nat→EK) (kr:EK):Ex→Env→AH→Prop:=fun x e H=>e Ao=.tup []∧∃h,BF h=H∧match x with
 | .normal=>kn e h=r
 | .exit i=>ke i e h=r
 | .ret=>kr e h=r
 | .pan v=>r=.pan v h
theorem Cw {l:List Nat}{e:Env}(hd:e Ao=.tup []):(∀t,Fi l e BS t=e t∨Fi l e BS t=.unk)∧Fi l e BS Ao=.tup []:=by
 refine⟨fun t=>?_,?_⟩
 ·rw[Cs]
  split
  ·exact .inl rfl
  ·unfold BS
   rw[DD,Ct]
   split
   ·rename_i h;subst h;exact .inl hd.symm
   ·exact .inr rfl
 ·rw[Cs]
  split
  ·exact hd
  ·unfold BS
   rw[Nat.beq_refl];rfl
theorem NX {l:List Nat}{e:Env}{H:AH}(hd:e Ao=.tup []):VS e H (Fi l e BS) H:=VS.Tm (Cw hd).1 ((Cw hd).2.trans hd.symm)
theorem KQ.join {r:KC}{l:List Nat}{kn:EK}{ke:Nat→EK}{kr:EK}:∀x e H,KQ r (Ci l (Hw l BS kn)) ke kr x e H→eC (KQ r kn ke kr) x e H:=by
 rintro x e H ⟨hd,h,rfl,hx⟩
 cases x with
 | normal=>
  simp only[C_]at hx
  exact⟨_,_,NX (l:=l) hd,(Cw hd).2,h,rfl,hx⟩
 | exit i=>exact B8 ⟨hd,h,rfl,hx⟩
 | ret=>exact B8 ⟨hd,h,rfl,hx⟩
 | pan v=>exact⟨hd,h,rfl,hx⟩
section
variable {P:Program}{call:Bq}{r:KC}{n:Nat}{hs:Hints}
theorem RT (hC:BD P call) (hmix:P.follows .mixedOrders=true) (hn:n≤Ao) (hb:r≠.bad):∀(c:Code) (ac:CJ),comp P hs n c=some ac →
  ∀(t:HT) (kn:EK) (ke:Nat→EK) (kr:EK) (e:Env) (h:KH),e Ao=.tup []→run call ac t kn ke kr e h=r→DS P n c (KQ r kn ke kr) e (BF h):=by
 have hbb:KC.bad≠r:=fun h=>hb h.symm
 intro c
 induction c with
 | skip=>
  intro ac hc t kn ke kr e h hd hr
  simp only[comp,Option.some.injEq]at hc;subst hc
  exact DT.skip ⟨hd,h,rfl,hr⟩
 | exit id=>
  intro ac hc t kn ke kr e h hd hr
  simp only[comp,Option.some.injEq]at hc;subst hc
  exact DT.exit ⟨hd,h,rfl,hr⟩
 | ret=>
  intro ac hc t kn ke kr e h hd hr
  simp only[comp,Option.some.injEq]at hc;subst hc
  exact DT.ret ⟨hd,h,rfl,hr⟩
 | region id ops draw=>
  intro ac hc t kn ke kr e h hd hr
  have h1:∀e' h',e' Ao=.tup []→kn e' h'=r→Sm (KQ r kn ke kr) .normal e' (BF h'):=fun e' h' q1 q2=>M_ ⟨q1,h',rfl,q2⟩
  have h2:∀v h',r=.pan v h'→∀e',e' Ao=.tup []→KQ r kn ke kr (.pan v) e' (BF h'):=fun v h' q1 e' q2=>⟨q2,h',rfl,q1⟩
  refine DT.ec hmix hn hc (.inl rfl) ?_
  cases draw with
  | true=>
   simp only[comp]at hc
   split at hc<;>(try (cases hc;done))
   split at hc<;>(try (cases hc;done))
   rename_i plan hpl
   split at hc<;>(try (cases hc;done))
   simp only[Option.some.injEq]at hc;subst hc
   exact Qz (Oh hC hb (K':=fun e' H'=>Sm (KQ r kn ke kr) .normal e' H') (Kp':=fun v e' H'=>KQ r kn ke kr (.pan v) e' H') h1 h2 hd hr)
  | false=>
   simp only[comp,Option.map_eq_some_iff]at hc
   obtain⟨al,hal,rfl⟩:=hc
   exact UN (Ph hC hb (K':=fun e' H'=>Sm (KQ r kn ke kr) .normal e' H') (Kp':=fun v e' H'=>KQ r kn ke kr (.pan v) e' H') h1 h2 hd hr)
 | seq x y ihx ihy=>
  intro ac hc t kn ke kr e h hd hr
  simp only[comp]at hc
  split at hc
  ·rename_i ax ay hx hy
   simp only[Option.some.injEq]at hc;subst hc
   cases t with
   | l=>exact absurd hr hbb
   | i a b=>exact absurd hr hbb
   | j l a b=>exact absurd hr hbb
   | s a b=>
    have hr:run call ax a (run call ay b kn ke kr) ke kr e h=r:=hr
    refine DT.seq (DT.post ?_ (ihx ax hx a _ ke kr e h hd hr))
    rintro z e' H' ⟨hd',h',rfl,hz⟩
    refine B8 ?_
    cases z with
    | normal=>exact ihy ay hy b kn ke kr e' h' hd' hz
    | exit i=>exact⟨hd',h',rfl,hz⟩
    | ret=>exact⟨hd',h',rfl,hz⟩
    | pan v=>exact⟨hd',h',rfl,hz⟩
  ·cases hc
 | cond c x y ihx ihy=>
  intro ac hc t kn ke kr e h hd hr
  simp only[comp]at hc
  split at hc
  ·rename_i c' ax ay h1 hx hy
   simp only[Option.some.injEq]at hc;subst hc
   have go:∀{A B:KC} {Q:Ex→Env→AH→Prop},AQ (c'.ev e) A B=r→(A=r→DS P n x Q e (BF h))→(B=r→DS P n y Q e (BF h))→DS P n (.cond c x y) Q e (BF h):=fun{A B Q} hi ha hbq=>by
    unfold AQ at hi
    cases hv:PH (c'.ev e)with
    | no=>rw[hv]at hi;exact absurd hi hbb
    | «at» b=>
     rw[hv]at hi
     refine DT.cond h1 (ND hv) (fun ht=>?_) (fun ht=>?_)
     ·subst ht;exact ha hi
     ·subst ht;exact hbq hi
   cases t with
   | l=>exact absurd hr hbb
   | s a b=>exact absurd hr hbb
   | i a b=>exact go hr (fun q=>ihx ax hx a kn ke kr e h hd q) (fun q=>ihy ay hy b kn ke kr e h hd q)
   | j l a b=>exact go hr (fun q=>(ihx ax hx a _ ke kr e h hd q).post KQ.join) (fun q=>(ihy ay hy b _ ke kr e h hd q).post KQ.join)
  ·cases hc
 | block id x ih=>
  intro ac hc t kn ke kr e h hd hr
  simp only[comp,Option.map_eq_some_iff]at hc
  obtain⟨ax,hx,rfl⟩:=hc
  cases t with
  | l=>exact absurd hr hbb
  | s a b=>exact absurd hr hbb
  | i a b=>
   refine DT.block ((ih ax hx a kn (Pl id kn ke) kr e h hd hr).post ?_)
   rintro z e' H' ⟨hd',h',rfl,hz⟩
   refine B8 ?_
   cases z with
   | normal=>exact⟨hd',h',rfl,hz⟩
   | exit i=>
    simp only[Qn]at hz
    simp only[]
    by_cases hi:i=id
    ·rw[if_pos hi];rw[if_pos hi]at hz;exact⟨hd',h',rfl,hz⟩
    ·rw[if_neg hi];rw[if_neg hi]at hz;exact⟨hd',h',rfl,hz⟩
   | ret=>exact⟨hd',h',rfl,hz⟩
   | pan v=>exact⟨hd',h',rfl,hz⟩
  | j l a b=>
   have hr:run call ax a (Ci l (Hw l BS kn)) (Pl id (Ci l (Hw l BS kn)) ke) kr e h=r:=hr
   refine DT.block ((ih ax hx a _ _ kr e h hd hr).post ?_)
   rintro z e' H' ⟨hd',h',rfl,hz⟩
   cases z with
   | normal=>exact KQ.join (l:=l) .normal e' _ ⟨hd',h',rfl,hz⟩
   | exit i=>
    simp only[Qn]at hz
    by_cases hi:i=id
    ·rw[if_pos hi]at hz
     simp only[C_]at hz
     refine⟨_,_,NX (l:=l) hd',?_⟩
     simp only[hi,if_true]
     exact⟨(Cw hd').2,h',rfl,hz⟩
    ·rw[if_neg hi]at hz
     refine B8 ?_
     simp only[]
     rw[if_neg hi];exact⟨hd',h',rfl,hz⟩
   | ret=>exact B8 ⟨hd',h',rfl,hz⟩
   | pan v=>exact⟨hd',h',rfl,hz⟩
 | loop x ih=>
  intro ac hc t kn ke kr e h hd hr
  simp only[comp,Option.map_eq_some_iff]at hc
  obtain⟨ax,hx,rfl⟩:=hc
  cases t with
  | l=>exact absurd hr hbb
  | s a b=>exact absurd hr hbb
  | i a b=>exact absurd hr hbb
  | j l a b=>
   have hr:Ci l (VV (BH l) (fun self=>Hw l BS fun e h=>run call ax a (Ci l self) ke kr e h) Y6) e h=r:=hr
   generalize hbody:(fun self:JT l=>Hw l BS fun e h=>run call ax a (Ci l self) ke kr e h)=body at hr
   refine DT.loop (L:=fun k e H=>e Ao=.tup []∧∃h,BF h=H∧Ci l (VV (BH l) body k) e h=r) ⟨hd,h,rfl,hr⟩ ?_
   rintro k e1 H1 ⟨hd1,h1,rfl,hr1⟩
   cases k with
   | zero=>
    have hr1:Ci l (BH l) e1 h1=r:=hr1
    rw[LY]at hr1
    exact absurd hr1 hbb
   | succ k=>
    have hr1:Ci l (body (VV (BH l) body k)) e1 h1=r:=hr1
    rw[←hbody,C_,hbody]at hr1
    refine DT.vs (NX (l:=l) hd1) ((ih ax hx a _ ke kr _ h1 (Cw hd1).2 hr1).post ?_)
    rintro z e' H' ⟨hd',h',rfl,hz⟩
    refine B8 ?_
    cases z with
    | normal=>exact⟨k,Nat.lt_succ_self k,hd',h',rfl,hz⟩
    | exit i=>exact⟨hd',h',rfl,hz⟩
    | ret=>exact⟨hd',h',rfl,hz⟩
    | pan v=>exact⟨hd',h',rfl,hz⟩
 | rangeFunc g ps as bd=>
  intro ac hc t kn ke kr e h hd hr
  simp only[comp]at hc
  split at hc<;>(try (cases hc;done))
  split at hc<;>(try (cases hc;done))
  simp only[Option.some.injEq]at hc;subst hc
  exact absurd hr hbb
 | _=>intro ac hc;simp[comp]at hc
end
def Zk (q:List Da) (e:Env) (h:KH):(List AV→KC)→KC:=
 List.rec (motive:=fun _=>(List AV→KC)→KC) (fun K=>K []) (fun r _ ih K=>Da.rec (motive:=fun _=>KC) (fun i=>ih fun l=>K (e i::l)) (fun a g=>AF g (e a) h fun v=>ih fun l=>K (v::l)) r) q
def Pk (q:List Da):EK:=fun e h=>Zk q e h fun l=>.ret (LB l) h
theorem LN {e:Env}{h:KH}{r:KC}(hb:r≠.bad):∀{q:List Da}{K:List AV→KC},Zk q e h K=r→∃l,DY e (BF h) q=some l∧K l=r
 | [],K,hr=>⟨[],rfl,hr⟩
 | .tmp i::q,K,hr=>by
  obtain⟨l,h1,h2⟩:=LN hb (q:=q) (K:=fun l=>K (e i::l)) hr
  exact⟨_,by simp only[DY,h1];rfl,h2⟩
 | .cell a g::q,K,hr=>by
  have hr:AF g (e a) h (fun v=>Zk q e h fun l=>K (v::l))=r:=hr
  rw[QK]at hr
  obtain⟨v,g1,g2⟩:=IN hr hb
  obtain⟨l,h1,h2⟩:=LN hb (q:=q) g2
  exact⟨_,by simp only[DY,g1,h1];rfl,h2⟩
theorem Od {e:Env}{h:KH}{r:KC}{q:List Da}(hb:r≠.bad) (hr:Pk q e h=r):∃l,DY e (BF h) q=some l∧r=.ret (LB l) h:=by
 obtain⟨l,h1,h2⟩:=LN hb hr
 exact⟨l,h1,h2.symm⟩
def AO (as:List AV) (K:AV→List AV→KC):KC:=List.rec (motive:=fun _=>KC) .bad (fun v t _=>K v t) as
def AY (as:List AV) (K:KC):KC:=List.rec (motive:=fun _=>KC) K (fun _ _ _=>.bad) as
def Qt (np:Nat):Nat→Env→List AV→KH→EK→KC:=
 Nat.rec (motive:=fun _=>Nat→Env→List AV→KH→EK→KC) (fun _ e as h K=>AY as (K e h)) (fun _ ih i e as h K=>AO as fun v t=>ih (Nat.succ i) (e.set i v) t h K) np
theorem Mu {r:KC}(hb:r≠.bad){h:KH}{K:EK}:∀(np i:Nat) (e:Env) (as:List AV),Qt np i e as h K=r→as.length=np∧∃e',K e' h=r∧∀t,e' t=if i≤t∧t<i+np then as.getD (t-i) .unk else e t
 | 0,i,e,[],hr=>⟨rfl,e,hr,fun t=>by rw[if_neg (by omega)]⟩
 | 0,i,e,_::_,hr=>absurd hr.symm hb
 | np+1,i,e,[],hr=>absurd hr.symm hb
 | np+1,i,e,v::as,hr=>by
  obtain⟨h1,e',h2,h3⟩:=Mu hb np (i+1) (e.set i v) as hr
  refine⟨by rw[List.length_cons,h1],e',h2,fun t=>?_⟩
  rw[h3,Env.B4]
  by_cases c1:t=i
  ·subst c1
   rw[if_neg (by omega),if_pos rfl,if_pos (by omega)];simp
  ·by_cases c2:i+1≤t∧t<i+1+np
   ·rw[if_pos c2,if_pos (by omega)]
    have:t-i=(t-(i+1))+1:=by omega
    rw[this];simp
   ·rw[if_neg c2,if_neg c1,if_neg (by omega)]
def V5 (np:Nat) (q:List Da) (ac:CJ) (t:HT):Bq→List AV→KH→KC:=fun call as h=>
 Qt np 0 BS as h fun e h=>run call ac t (Pk q) (fun _=>OZ) (Pk q) e h
abbrev GF:=Bq→List AV→KH→KC
def L7 (P:Program) (g:FuncId) (F:GF):Prop:=∀call,BD P call→∀as h,
 (∀v h',F call as h=.ret v h'→An P g as (BF h) (fun o H'=>o=.ret v∧H'=BF h')) ∧
 (∀v h',F call as h=.pan v h'→An P g as (BF h) (fun o H'=>o=.pan v∧H'=BF h'))
theorem Pj {P:Program}{g n np:Nat}{q:List Da}{ac:CJ}{t:HT}(hF:Wl P g n ac q) (hnp:Nat.ble np n=true){F:GF}(hf:F=V5 np q ac t):L7 P g F:=by
 subst hf
 intro call hC as h
 have hnp:=Nat.le_of_ble_eq_true hnp
 have main:∀(r:KC) (post:Cc→AH→Prop),V5 np q ac t call as h=r→r≠.bad→(∀v h',r=.ret v h'→post (.ret v) (BF h'))→(∀v h',r=.pan v h'→post (.pan v) (BF h'))→An P g as (BF h) post:=by
  intro r post hr hb p1 p2
  obtain⟨h1,e,h2,h3⟩:=Mu hb np 0 BS as hr
  have hle:=hF.le
  have he:e=JV as:=by
   funext t
   rw[h3,JV,BS,DD,Ct]
   by_cases c1:t=Ao
   ·subst c1
    rw[if_neg (by omega),if_pos rfl,if_pos rfl]
   ·rw[if_neg c1,if_neg c1]
    by_cases c2:t<np
    ·rw[if_pos (by omega)];rfl
    ·rw[if_neg (by omega),List.getD_eq_getElem?_getD,List.getElem?_eq_none (by omega)];rfl
  subst he
  refine hF.ZC (by omega) fun c hs hc=>DT.post ?_ (RT hC hF.mix hF.le hb c ac hc t _ _ _ _ h (by simp[JV]) h2)
  rintro x e' H' ⟨hd,h',rfl,hx⟩
  refine B8 ⟨⟨[],hd,Mj⟩,?_⟩
  cases x with
  | normal=>
   obtain⟨l,g1,g2⟩:=Od hb hx
   simp only[Lb,g1]
   exact p1 _ _ g2
  | ret=>
   obtain⟨l,g1,g2⟩:=Od hb hx
   simp only[Lb,g1]
   exact p1 _ _ g2
  | exit i=>exact absurd hx.symm hb
  | pan v=>exact p2 _ _ hx
 exact⟨fun v h' hr=>main _ _ hr (by intro hh;cases hh) (fun v' h'' hh=>by cases hh;exact⟨rfl,rfl⟩) (fun v' h'' hh=>by cases hh),
  fun v h' hr=>main _ _ hr (by intro hh;cases hh) (fun v' h'' hh=>by cases hh) (fun v' h'' hh=>by cases hh;exact⟨rfl,rfl⟩)⟩
abbrev Jh:=FuncId→Option GF
def Bg (EX:Jh) (orc:Bq) (n:Nat):Bq:=
 Nat.rec (motive:=fun _=>Bq) (fun _ _ _=>.bad) (fun _ ih g as h=>Option.rec (motive:=fun _=>KC) (orc g as h) (fun F=>F ih as h) (EX g)) n
def Hg (P:Program) (EX:Jh):Prop:=∀g F,EX g=some F→L7 P g F
def AN (k:Nat) (l r:Jh):Jh:=fun g=>bif Nat.ble k g then r g else l g
def AM (k:Nat) (F:GF):Jh:=fun g=>bif Nat.beq g k then some F else none
def rv:Jh:=fun _=>none
theorem AE {P:Program}{k:Nat}{l r:Jh}(hl:Hg P l) (hr:Hg P r):Hg P (AN k l r):=fun g F h=>by
 unfold AN at h
 cases hk:Nat.ble k g with
 | true=>rw[hk]at h;exact hr g F h
 | false=>rw[hk]at h;exact hl g F h
theorem AD {P:Program}{k:Nat}{F:GF}(h:L7 P k F):Hg P (AM k F):=fun g F' hh=>by
 unfold AM at hh
 rw[DD,Ct]at hh
 split at hh
 ·rename_i hg;subst hg;cases hh;exact h
 ·cases hh
theorem Ow {P:Program}:BD P (fun _ _ _=>.bad):=fun _ _ _=>⟨fun _ _ h=>(by cases h),fun _ _ h=>(by cases h)⟩
theorem BC {P:Program}{EX:Jh}{orc:Bq}(hT:Hg P EX) (hO:BD P orc):∀n,BD P (Bg EX orc n)
 | 0=>Ow
 | n+1=>fun g as h=>by
  have e0:Bg EX orc (n+1) g as h=Option.rec (motive:=fun _=>KC) (orc g as h) (fun F=>F (Bg EX orc n) as h) (EX g):=rfl
  rw[e0]
  cases ht:EX g with
  | none=>exact hO g as h
  | some F=>exact hT g F ht _ (BC hT hO n) as h
def Np (P:Program) (fn:Func) (hs:Hints) (n:Nat):CJ:=Option.rec (motive:=fun _=>CJ) .skip (fun c=>c) (fn.body.bind (comp P hs n))
theorem V4 {P:Program}{g:FuncId}{fn:Func}{n np:Nat}{hs:Hints}{q:List Da}{t:HT}{F:GF}(hmix:P.follows .mixedOrders=true) (hf:P.funcs[g]?=some fn) (Iq:(fn.name=="runtime.NumGoroutine")=false)
  (hn:fn.ntmps=n) (hb:(fn.body.bind (comp P hs n)).isSome=true) (hr:Fs P fn.results.toList=some q) (hle:Nat.ble n Ao=true) (hnp:Nat.ble np n=true) (hF:F=V5 np q (Np P fn hs n) t):L7 P g F:=by
 obtain⟨ac,hac⟩:=Option.isSome_iff_exists.1 hb
 have e:Np P fn hs n=ac:=by unfold Np;rw[hac]
 rw[e]at hF
 exact Pj (Wl.mk' hmix hf Iq hn hac hr hle) hnp hF
def I (n:Nat):AV:=.int .i64 (.ofNat n)
def N (k:IntKind) (n:Nat):AV:=.int k (.ofNat n)
def Av (n:Nat) (x:AV) (l:List AV):List AV:=Nat.rec (motive:=fun _=>List AV) l (fun _ ih=>x::ih) n
def eO (P:Program) (fn:Func):List Da:=(Fs P fn.results.toList).getD []
def WV (P:Program) (fn:Func) (hs:Hints):Bool:=!(fn.name=="runtime.NumGoroutine")&&((fn.body.bind (comp P hs fn.ntmps)).isSome&&((Fs P fn.results.toList).isSome&&(Nat.ble fn.ntmps Ao&&Nat.ble (fn.params.size+fn.nfree) fn.ntmps)))
 omit [BY] in
theorem Mz {P:Program}{fn:Func}{hs:Hints}(h:WV P fn hs=true):(fn.name=="runtime.NumGoroutine")=false∧(fn.body.bind (comp P hs fn.ntmps)).isSome=true∧Fs P fn.results.toList=some (eO P fn)∧Nat.ble fn.ntmps Ao=true∧Nat.ble (fn.params.size+fn.nfree) fn.ntmps=true:=by
  simp only[WV,Bool.and_eq_true,Bool.not_eq_true']at h
  obtain⟨h1,h2,h3,h4,h5⟩:=h
  obtain⟨q,hq⟩:=Option.isSome_iff_exists.1 h3
  exact⟨h1,h2,by unfold eO;rw[hq];rfl,h4,h5⟩
def hk (i p:Nat):Nat × Nat × List Nat × Bool:=(i,p,[],false)
def hl (s:Nat):List Nat→List (Nat × Nat × List Nat × Bool)
 | []=>[]
 | p::l=>(s,p,[],false)::hl (s+1) l
def HT.n (k:Nat) (x:HT):HT:=Nat.rec x (fun _ y=>.s .l y) k
def HT.t4:HT:=.n 1 .l
def HT.t5:HT:=.i .l .l
def HT.t6:HT:=.n 2 .l
def HT.t3:HT:=.i .t4 .l
def HT.t2:HT:=.n 1 .t3
def HT.t1:HT:=.s .t5 (.s .t3 .l)
def HT.t0:HT:=.n 1 .t1
end Go.AL
 
end
noncomputable section
namespace Go.AL
variable [BY]
mutual
def VM (k:Nat):AV→Bool
 | .unk=>true | .bool _=>true | .int _ _=>true | .str _=>true | .nilp=>true | .nils=>true | .nilm=>true | .nilf=>true | .nili=>true
 | .ptr r _=>Nat.ble (Nat.succ r) k
 | .sl r _ _ _=>Nat.ble (Nat.succ r) k
 | .mp r=>Nat.ble (Nat.succ r) k
 | .pim l _=>K7 k l
 | .sim l _ _=>K7 k l
 | .fn _ a b=>K7 k a&&K7 k b
 | .ifc _ x=>VM k x
 | .agg l=>K7 k l
 | .tup l=>K7 k l
def K7 (k:Nat):List AV→Bool
 | []=>true
 | x::l=>VM k x&&K7 k l
end
mutual
theorem JI {k:Nat}:∀x,VM k x=true→Sc k x
 | .unk,_=>.unk | .bool _,_=>.bool _ | .int _ _,_=>.int _ _ | .str _,_=>.str _ | .nilp,_=>.nilp | .nils,_=>.nils | .nilm,_=>.nilm | .nilf,_=>.nilf | .nili,_=>.nili
 | .ptr r _,h=>.ptr (Nat.le_of_ble_eq_true h)
 | .sl r _ _ _,h=>.sl (Nat.le_of_ble_eq_true h)
 | .mp r,h=>.mp (Nat.le_of_ble_eq_true h)
 | .pim l _,h=>.pim (Cn l (by simpa[VM]using h))
 | .sim l _ _,h=>.sim (Cn l (by simpa[VM]using h))
 | .fn _ a b,h=>by
  simp only[VM,Bool.and_eq_true]at h
  exact .fn (Cn a h.1) (Cn b h.2)
 | .ifc _ x,h=>.ifc (JI x (by simpa[VM]using h))
 | .agg l,h=>.agg (Cn l (by simpa[VM]using h))
 | .tup l,h=>.tup (Cn l (by simpa[VM]using h))
theorem Cn {k:Nat}:∀l,K7 k l=true→DZ k l
 | [],_=>.nil
 | x::l,h=>by
  simp only[K7,Bool.and_eq_true]at h
  exact .cons (JI x h.1) (Cn l h.2)
end
mutual
def Ri (h:KH) (k:Nat):AV→AV→Bool
 | y,x=>(ES x y&&VM k y)||(match y with
  | .unk=>true
  | .pim l' o=>(match x with
   | .ptr r o0=>Nat.ble k r&&Nat.beq o0 o&&(match Ce h r with | some l=>Iu h k l' l | none=>false)
   | _=>false)
  | .sim l' n ex=>(match x with
   | .sl r o n0 lim=>Nat.ble k r&&Nat.beq n0 n&&(match Ce h r with | some l=>Nat.ble (o+l'.length) l.length&&Iu h k l' ((l.drop o).take l'.length) | none=>false)&&(!(Nat.beq n 0)||l'.isEmpty)&&(!ex||Mm lim (.ex n))
   | _=>false)
  | .ifc t y=>(match x with
   | .ifc t' x=>Nat.beq t' t&&Ri h k y x
   | _=>false)
  | .agg l'=>(match x with
   | .agg l=>Iu h k l' l
   | _=>false)
  | .tup l'=>(match x with
   | .tup l=>Iu h k l' l
   | _=>false)
  | _=>false)
def Iu (h:KH) (k:Nat):List AV→List AV→Bool
 | [],l=>(match l with
  | []=>true
  | _=>false)
 | y::l',l=>(match l with
  | x::l=>Ri h k y x&&Iu h k l' l
  | []=>false)
end
mutual
theorem Hy {h:KH}{k:Nat}:∀(y x:AV),Ri h k y x=true→Fx (BF h) k x y:=by
 intro y x hh
 unfold Ri at hh
 simp only[Bool.or_eq_true,Bool.and_eq_true]at hh
 rcases hh with⟨h1,h2⟩ | hh
 ·rw[EB _ _ h1];exact .low (JI _ h2)
 ·cases y with
  | unk=>exact .unk x
  | pim l' o=>
   cases x<;>try (cases hh;done)
   rename_i r o0
   simp only[Bool.and_eq_true,Nat.beq_eq]at hh
   obtain⟨⟨h1,rfl⟩,h3⟩:=hh
   split at h3
   ·rename_i l hl
    rw[CG]at hl
    exact .ptr (Nat.le_of_ble_eq_true h1) hl (EM l' l h3)
   ·cases h3
  | sim l' n ex=>
   cases x<;>try (cases hh;done)
   rename_i r o n0 lim
   simp only[Bool.and_eq_true,Nat.beq_eq,Bool.or_eq_true,Bool.not_eq_true']at hh
   obtain⟨⟨⟨⟨h1,rfl⟩,h3⟩,h4⟩,h5⟩:=hh
   split at h3
   ·rename_i l hl
    rw[CG]at hl
    simp only[Bool.and_eq_true]at h3
    refine .sl (Nat.le_of_ble_eq_true h1) hl (Nat.le_of_ble_eq_true h3.1) (EM l' _ h3.2) (fun hn=>?_) (fun hx=>?_)
    ·subst hn
     rcases h4 with h4 | h4
     ·cases h4
     ·simpa using h4
    ·subst hx
     rcases h5 with h5 | h5
     ·cases h5
     ·exact FK h5
   ·cases h3
  | ifc t y=>
   cases x<;>try (cases hh;done)
   simp only[Bool.and_eq_true,Nat.beq_eq]at hh
   obtain⟨rfl,h2⟩:=hh
   exact .ifc (Hy y _ h2)
  | agg l'=>
   cases x<;>try (cases hh;done)
   exact .agg (EM l' _ hh)
  | tup l'=>
   cases x<;>try (cases hh;done)
   exact .tup (EM l' _ hh)
  | _=>cases hh
theorem EM {h:KH}{k:Nat}:∀(l' l:List AV),Iu h k l' l=true→Cd (BF h) k l l'
 | [],l,hh=>by
  cases l with
  | nil=>exact .nil
  | cons _ _=>simp[Iu]at hh
 | y::l',l,hh=>by
  cases l with
  | nil=>simp[Iu]at hh
  | cons x l=>
   simp only[Iu,Bool.and_eq_true]at hh
   exact .cons (Hy y x hh.1) (EM l' l hh.2)
end
def Ql (h:KH) (r:Nat):Bool:=Fk h r true (fun _=>false)
theorem Jt {h:KH}{r:Nat}(hk:Ql h r=true):(BF h).get r=none:=by
 unfold Ql at hk
 rcases Ik h r true (fun _=>false)with⟨_,h2⟩ | ⟨o,h1,h2,h3⟩
 ·exact h2
 ·rw[h3]at hk;cases hk
def Sz (h h':KH) (r:Nat):Bool:=match Ce h r,Ce h' r with
 | some l,some l'=>Eb l' l
 | none,none=>Ql h r&&Ql h' r
 | _,_=>false
def Of (h h':KH) (n:Nat):Bool:=Nat.rec (motive:=fun _=>Bool) true (fun m ih=>Sz h h' m&&ih) n
theorem Is {H:AH}{r:Nat}{l:List AV}(h:H.cells? r=some l):H.get r=some (.cells l):=by
 unfold AH.cells? at h
 split at h
 ·rename_i l' hl;simp only[Option.some.injEq]at h;subst h;exact hl
 ·cases h
theorem Gl {h h':KH}:∀{n:Nat},Of h h' n=true→∀r,r<n→(BF h').get r=(BF h).get r
 | n+1,hk,r,hr=>by
  have hk:(Sz h h' n&&Of h h' n)=true:=hk
  simp only[Bool.and_eq_true]at hk
  by_cases hrn:r=n
  ·subst hrn
   have h1:=hk.1
   unfold Sz at h1
   split at h1
   ·rename_i l l' q1 q2
    rw[CG]at q1 q2
    rw[Is q1,Is q2,CB _ _ h1]
   ·simp only[Bool.and_eq_true]at h1
    rw[Jt h1.1,Jt h1.2]
   ·cases h1
  ·exact Gl hk.2 r (by omega)
def Iz (h:KH) (R:AV) (r:KC):Bool:=KC.rec (motive:=fun _=>Bool) (fun v h'=>Ri h' h.nx R v&&Of h h' h.nx) (fun _ _=>false) false r
theorem FI {P:Program}{g:FuncId}{as:List AV}{h:KH}{R:AV}{call:Bq}(hC:BD P call) (hk:Iz h R (call g as h)=true):Ca P g as (BF h) R (BF h):=by
 cases hr:call g as h with
 | pan v h'=>rw[hr]at hk;cases hk
 | bad=>rw[hr]at hk;cases hk
 | ret v h'=>
  rw[hr]at hk
  have hk:(Ri h' h.nx R v&&Of h h' h.nx)=true:=hk
  simp only[Bool.and_eq_true]at hk
  have hA:=(hC g as h).1 v h' hr
  have Tm:=Gl hk.2
  refine An.scope (post0:=fun o H'=>o=.ret v∧H'=BF h') (fun _ _=>hA) hA.1 ?_
  rintro _ htop out H' ⟨rfl,rfl⟩
  exact⟨.ret R,Hy R v hk.1,fun r o hr ho=>.inl (by rw[←Tm r hr];exact ho),rfl,AH.UO htop Tm⟩
def WD (h1 h:KH):Bool:=Nat.beq h.nx h1.nx&&Of h1 h h1.nx
theorem Po {h1 h:KH}(hk:WD h1 h=true):BF h=BF h1:=by
 simp only[WD,Bool.and_eq_true,Nat.beq_eq]at hk
 refine AH.ext (fun r=>?_) hk.1 rfl
 by_cases hr:r<h1.nx
 ·have:=Gl hk.2 r hr
  exact this
 ·rw[C2,C2,if_neg (by rw[hk.1];exact hr),if_neg hr]
def OT (g0:FuncId) (as0:List AV) (h1:KH) (R:AV) (rest:Bq):Bq:=fun g as h=>Bool.rec (motive:=fun _=>KC) (rest g as h) (.ret R h) (Nat.beq g g0&&(Eb as as0&&WD h1 h))
theorem LG {P:Program}{g0:FuncId}{as0:List AV}{h1:KH}{R:AV}{rest:Bq}(hr:BD P rest) (hR:Ca P g0 as0 (BF h1) R (BF h1)):BD P (OT g0 as0 h1 R rest):=by
 intro g as h
 unfold OT
 cases hc:(Nat.beq g g0&&(Eb as as0&&WD h1 h))with
 | false=>exact hr g as h
 | true=>
  simp only[Bool.and_eq_true,Nat.beq_eq]at hc
  obtain⟨rfl,h2,h3⟩:=hc
  have e:=CB _ _ h2
  subst e
  have e2:=Po h3
  refine⟨fun v h' q=>?_,fun v h' q=>by cases q⟩
  cases q
  rw[e2];exact hR
def wC (l:List (List AV)):KH:=List.rec (motive:=fun _=>KH→KH) (fun h=>h) (fun c _ ih h=>h.Ek c h fun _ h'=>ih h') l KH.emp
end Go.AL
 
end
