import Derived.Test.YtlmkmpomgdbjhaaGreatDoorZa01
import Derived.Tactics
import Derived.TacticsIn
import Derived.OrdersIn
import Derived.RangeFuncSeq
import Derived.RangeFuncIn
import Derived.Orders
import Derived.RangeFuncRecord
import Derived.Scope
/-
  a part of the proof.
-/
set_option linter.unusedSectionVars false
set_option linter.unusedVariables false
set_option linter.unusedSimpArgs false
namespace Go.AL
section
abbrev RF (ro:Option Nat):Fence:={ fn:=fun _=>True,depth:=none,alive:=false,round:=ro }
theorem Iq {ro:Option Nat}{n:Nat}{P:Program}{f:FuncId}{args:Array Value}{w:World}{R:Ending->World->Prop}(h:Calls P f args w R):CallsIn (RF ro) n P f args w R:=
 (callsIn_wide (n:=n)).2 h
theorem PY {ro:Option Nat}{n m l:Nat}{P:Program}{f:FuncId}{tmps:Array Value}{zs bd:Code}{w:World}{R:Ending->World->Prop}(h:RoundIn Fence.wide n P l f tmps zs bd w R):RoundIn (RF ro) m P l f tmps zs bd w R:=
 ⟨trivial,fun c cs _=>h.2 c cs (room_wide _)⟩
theorem Hx {ro:Option Nat}{n:Nat}:(RF ro).depth.isSome=true->1<=n:=fun h=>by cases h
def dA (P:Program) (Z0:Zt) (σ0:Sg) (m:Nat) [YC]:Prop:=∀(l:Nat) (args:List AV) (H:AH) (post:Am->AH->Prop),YC.y l args H post->∀(Z:Zt) (σ:Sg) (w:World) (vs:List Value),CR Z0 Z->Nw σ0 m σ->m<=H.next->WR Z σ H w->CE Z σ args vs ->
 YieldAt Fence.wide 0 P l vs.toArray w fun x w'=>∃Z' σ' H' out,CR Z Z'/\Nw σ H.next σ'/\H.next<=H'.next/\WR Z' σ' H' w'/\Wm Z' σ' out x/\post out H'
theorem Ly {P:Program}{Z0:Zt}{σ0:Sg}{m:Nat}:dA P Z0 σ0 m:=fun _ _ _ _ h=>h.elim
theorem dA.up {P:Program}{Z0 Z1:Zt}{σ0 σ1:Sg}{m m1:Nat}[YC] (hY:dA P Z0 σ0 m) (hZ:CR Z0 Z1) (hS:Nw σ0 m σ1) (hm:m<=m1):dA P Z1 σ1 m1:=
 fun l args H post h Z σ w vs g1 g2 g3=>hY l args H post h Z σ w vs (hZ.trans g1) (hS.trans g2 hm) (Cs hm g3)
theorem CX {P:Program}{n:Nat}{ops:Array Oper}{o:Oper}{x:A_}(h:Dj P n ops o=some x) :
  Dr P o=some x.k/\x.dst=o.dst/\(∀d,o.dst=some d->d<n) /\
   ((o.guard=none/\x.gd=none)\/∃j want s,o.guard=some (j,want)/\x.gd=some (s,want)/\(ops[j]?).bind (·.dst)=some s/\s<n/\x.k.B2=false):=by
 unfold Dj at h
 split at h
 ·cases h
 ·rename_i k hk
  by_cases hd:cO n o.dst=true
  ·rw[if_pos hd]at h
   have hd':∀d,o.dst=some d->d<n:=by
    intro d he;rw[he]at hd;simpa[cO]using hd
   split at h
   ·rename_i hg
    simp only[AD]at h;subst h
    exact⟨hk,rfl,hd',.inl ⟨hg,rfl⟩⟩
   ·rename_i j want hg
    split at h
    ·rename_i s hs
     split at h
     ·rename_i hc
      simp only[AD]at h;subst h
      exact⟨hk,rfl,hd',.inr ⟨j,want,s,hg,rfl,hs,hc.1,hc.2⟩⟩
     ·cases h
    ·cases h
  ·rw[if_neg hd]at h;cases h
theorem Ky {ops:Array Oper}{tmps:Array Value}{j s:Nat}{x:AV}{b:Option Bool}{Z:Zt}{σ:Sg}(h:(ops[j]?).bind (·.dst)=some s) (hv:VR Z σ x (tmps.getD s undef)) (hx:Mc x=some b):yielded ops tmps j=b:=by
 unfold yielded
 rw[h]
 simp only[Lm]
 rw[Ed]at hv
 unfold Mc at hx
 split at hx<;>simp only[AD,reduceCtorEq]at hx<;>subst hx
 ·have:=hv.EZ
  cases hh:tmps[s]? with
  | none=>rw[hh]at this;simp[undef]at this
  | some v=>rw[hh]at this;simp at this;rw[this]
 ·have:=hv.XC
  obtain⟨vs,h1,h2⟩:=this
  cases hh:tmps[s]? with
  | none=>rfl
  | some v=>rw[hh]at h1;simp at h1;rw[h1]
theorem WX {Z:Zt}{σ:Sg}:VR Z σ Ad undef:=.tup .nil
section
variable {P:Program}
theorem EJ {g:FuncId}(h:Enters P g) (args:Array Value) (w:World):(callFunc g args).run P w=.ok (.enter g args) w:=by
 obtain⟨fn,h1,h2,h3⟩:=h
 obtain⟨c,hc⟩:=FA.1 h3
 simp[callFunc,h1,h2,hc]
theorem aF {ρ:Operand->Value}{o:Oper}{f:Operand}{args:Array Operand}{ats:Array TypeId}(ho:o.op=.call { callee:=.value f,args,argTypes:=ats })
  {g:FuncId} {first cap:Array Value} (hf:ρ f=.func (.func g) first cap) (hE:Enters P g) (w:World) :
  (execOp ρ o).run P w=.ok (.enter g (first++args.map ρ++cap)) w:=by
 simp[execOp,ho,resolve,hf,Deferred.ofValue,invoke,EJ hE]
variable {Z:Zt}{σ:Sg}{H:AH}{e:Env}{a:Act}{w:World}
theorem SD [YC] {o:Oper}{f:AF}{args:List AF}(hk:Dr P o=some (.call f args)) (hW:WR Z σ H w) (he:ER Z σ e a){post:Am->AH->Prop}
  (h:HJ P (f.ev e) (args.map (·.ev e)) H post):(∃g vs,(execOp a.eval o).run P w=.ok (.enter g vs) w /\
   Calls P g vs w fun x w'=>∃Z' σ' H' out,CR Z Z'/\Nw σ H.next σ'/\H.next<=H'.next/\WR Z' σ' H' w'/\Wm Z' σ' out x/\post out H') \/
   ∃l vs,(execOp a.eval o).run P w=(Instr.yield l vs.toArray).run P w/\CE Z σ (args.map (·.ev e)) vs/\YC.y l (args.map (·.ev e)) H post:=by
 obtain⟨f',args',ats,ho,h1,h2⟩:=C4 hk
 unfold HJ at h
 split at h
 ·rename_i g first cap hf
  have hfv:=AJ he h1
  rw[hf]at hfv
  obtain⟨vf,vc,e1,e2,e3⟩:=hfv.M0
  have ha:=Ey he h2
  refine .inl ⟨g,_,aF ho e1 h.1 w,?_⟩
  have:=h.2 Z σ w (vf.toList++args'.toList.map a.eval++vc.toList) hW ((e2.append ha).append e3)
  have hh:(vf++args'.map a.eval++vc)=(vf.toList++args'.toList.map a.eval++vc.toList).toArray:=by simp
  rw[hh];exact this
 ·rename_i l hf
  have hfv:=AJ he h1
  rw[hf]at hfv
  obtain⟨vf,vc,e1,e2,e3⟩:=hfv.M0
  have ha:=Ey he h2
  have e2:vf=#[]:=by
   generalize hl:vf.toList=l2 at e2
   cases e2;exact DI (by simpa using hl)
  have e3:vc=#[]:=by
   generalize hl:vc.toList=l2 at e3
   cases e3;exact DI (by simpa using hl)
  subst e2;subst e3
  refine .inr ⟨l,args'.toList.map a.eval,?_,ha,h⟩
  rw[show(args'.toList.map a.eval).toArray=args'.map a.eval from(DI (by rw[Gi]))]
  simp[execOp,ho,resolve,e1,Deferred.ofValue,invoke]
 ·exact h.elim
theorem QU {o:Oper}{x:AF}(hk:Dr P o=some (.panic x)) (he:ER Z σ e a){t:TypeId}{v:AV}(hx:x.ev e=.ifc t v) :
  ∃cv,(execOp a.eval o).run P w=.halt (.panic cv) w/\VR Z σ (.ifc t v) cv:=by
 obtain rfl | ⟨y,ho,h1⟩:=C4 hk
 ·cases hx
 have h:=AJ he h1
 rw[hx]at h
 refine⟨a.eval y,?_,h⟩
 cases hv:a.eval y<;>rw[hv]at h<;>(try cases h;done)
 simp[execOp,ho,hv,Instr.panic,goPanic]
theorem Wf {o:Oper}{f:AF}{args:List AF}(hk:Dr P o=some (.defer f args)) (he:ER Z σ e a){g:FuncId}{first cap:List AV}(hf:f.ev e=.fn (.func g) first cap) :
  ∃capt vs,(execOp a.eval o).run P w=.ok (.defer { target:=.fn (.func g) capt,args:=vs }) w/\CE Z σ (first++args.map (·.ev e)++cap) (vs++capt).toList:=by
 obtain⟨f',args',ats,ho,h1,h2⟩:=C4 hk
 have hfv:=AJ he h1
 rw[hf]at hfv
 obtain⟨vf,vc,e1,e2,e3⟩:=hfv.M0
 have ha:=Ey he h2
 refine⟨vc,vf++args'.map a.eval,by simp[execOp,ho,resolve,e1,Deferred.ofValue],?_⟩
 have:=(e2.append ha).append e3
 simpa using this
theorem Yw {o:Oper}{k:AK}(hk:Dr P o=some k) (hnd:k.B2=false) (hp:k≠.panic (.cst .unk)):∀c,o.op≠.defer c:=by
 intro c hc
 unfold Dr at hk
 cases h0:Gn P o with
 | none=>rw[h0]at hk;cases hk;exact hp rfl
 | some k'=>
  rw[h0]at hk
  simp only[JK,AD]at hk;subst hk
  obtain⟨dst,op,ty,pos,after,guard⟩:=o
  simp only at hc;subst hc
  obtain⟨callee,cargs,ats⟩:=c
  cases callee<;>simp only[Gn]at h0<;>(try (cases h0;done))
  split at h0<;>simp only[AD,reduceCtorEq]at h0
  subst h0;cases hnd
theorem Jd {o:Oper}{k:AK}(hk:Dr P o=some k) (hnd:k.B2=false) (hp:k≠.panic (.cst .unk)) (ro:Option Nat) (ρ:Operand->Value):o.semAt ro ρ=execOp ρ o:=Oper.semAt_eq ro ρ o (Yw hk hnd hp)
theorem cu [YC] {k:AK}(hp:k=.panic (.cst .unk)) {K Kp:AV->AH->Prop}(h:HN P k e H K Kp):False:=by subst hp;exact h
theorem R_ [YC] {ro:Option Nat}{n m:Nat}(hn:n<=AN){Z0:Zt}{σ0:Sg}{Q:Ex->Env->AH->Prop}{Qc:Exit->Act->World->Prop}{next:Act->World->Prop}{o:Oper}{k:AK}{dst:Option Nat}
  (hk:Dr P o=some k) (hd:dst=o.dst) (hdn:∀d,o.dst=some d->d<n) (hnd:k.B2=false)
  (hZ:CR Z0 Z) (hS:Nw σ0 m σ) (hm:m<=H.next) (hW:WR Z σ H w) (he:FR Z σ n e a) {K:AV->AH->Prop} (h:HN P k e H K (fun v H'=>Q (.Bi v) e H'))
  (hK:∀Z' σ' v H' a' w',CR Z0 Z'->Nw σ0 m σ'->m<=H'.next->WR Z' σ' H' w'->FR Z' σ' n (e.put dst v) a'->K v H'->next a' w')
  (hQ:∀x a' w',QR Z0 σ0 n m Q x a' w'->Qc x a' w') (hY:dA P Z0 σ0 m):o.wpIn (RF ro) 0 P a w next Qc:=by
 subst hd
 unfold Oper.wpIn
 refine⟨fun _ _=>trivial,?_⟩
 rw[Jd hk hnd (fun hp=>cu hp h)]
 have plain:(match A2 k e H with | some (v,H')=>K v H' | none=>False)->o.uponIn (RF ro) 0 P a next Qc ((execOp a.eval o).run P w):=by
  intro h
  split at h
  ·rename_i v H' hone
   obtain⟨cv,w',σ',r1,r2,r3,r4⟩:=QX hk hW he.er hone
   have hnx:=M_ hone
   have hF:FR Z σ' n (e.put o.dst v) (a.put o.dst cv):=(he.mono (CR.refl _) (hW.sle r2)).put hn hdn r4
   have:=hK Z σ' v H' (a.put o.dst cv) w' hZ (hS.trans r2 hm) (by omega) r3 hF h
   rcases r1 with r1 | ⟨r1,rfl⟩
   ·rw[r1];exact this
   ·rw[r1];exact this
  ·exact h.elim
 cases k with
 | call f args=>
  rcases SD hk hW he.er h with⟨g,vs,r1,r2⟩ | ⟨l,vs,r1,r2,r3⟩
  ·rw[r1,Oper.uponIn_enter]
   refine⟨Hx,Iq (r2.mono fun x w' hx=>?_)⟩
   obtain⟨Z',σ',H',out,g1,g2,g3,g4,g5,g6⟩:=hx
   cases out with
   | ret v=>
    obtain⟨cv,rfl,hv⟩:=g5
    exact hK Z' σ' v H' _ w' (hZ.trans g1) (hS.trans g2 hm) (by omega) g4 ((he.mono g1 (hW.sle g2)).put hn hdn hv) g6
   | Bi v=>
    obtain⟨cv,rfl,hv⟩:=g5
    exact hQ _ _ _ ⟨Z',σ',.Bi v,e,H',hZ.trans g1,hS.trans g2 hm,by omega,g4,he.mono g1 (hW.sle g2),⟨cv,rfl,hv⟩,g6⟩
  ·obtain⟨fn,tmps,zs,bd,y1,y2⟩:=hY _ _ _ _ r3 Z σ w vs hZ hS hm hW r2
   rw[r1,y1,Oper.uponIn_round]
   refine⟨Hx,PY (y2.mono fun x w' hx=>?_)⟩
   obtain⟨Z',σ',H',out,g1,g2,g3,g4,g5,g6⟩:=hx
   cases out with
   | ret v=>
    obtain⟨cv,rfl,hv⟩:=g5
    exact hK Z' σ' v H' _ w' (hZ.trans g1) (hS.trans g2 hm) (by omega) g4 ((he.mono g1 (hW.sle g2)).put hn hdn hv) g6
   | Bi v=>
    obtain⟨cv,rfl,hv⟩:=g5
    exact hQ _ _ _ ⟨Z',σ',.Bi v,e,H',hZ.trans g1,hS.trans g2 hm,by omega,g4,he.mono g1 (hW.sle g2),⟨cv,rfl,hv⟩,g6⟩
 | panic x=>
  simp only[HN]at h
  split at h
  ·rename_i t v hx
   obtain⟨cv,r1,r2⟩:=QU (w:=w) hk he.er hx
   rw[r1,Oper.uponIn_panic]
   exact hQ _ _ _ ⟨Z,σ,.Bi (.ifc t v),e,H,hZ,hS,hm,hW,he,⟨cv,rfl,r2⟩,h⟩
  ·exact h.elim
 | defer f args=>exact h.elim
 | recover=>exact h.elim
 | nextM x=>
  simp only[HN]at h
  split at h
  ·rename_i l hl
   obtain⟨y,ho,h1⟩:=C4 hk
   obtain⟨p,hp,cv,w',r1,r2,r3⟩:=Nr (P:=P) hW (AJ he.er h1) hl o.type
   have hr:(execOp a.eval o).run P w=.ok (.value cv) w':=by simp[execOp,ho,r1]
   rw[hr]
   have hnx:=QY hl p hp
   exact hK Z σ p.1 p.2 (a.put o.dst cv) w' hZ hS (by omega) r2 (he.put hn hdn r3) (h p hp)
  ·exact h.elim
 | _=>exact plain h
theorem WZ [YC] {ro:Option Nat}{n:Nat}(hn:n<=AN){ops:Array Oper}{Z0:Zt}{σ0:Sg}{m:Nat}{Q:Ex->Env->AH->Prop}(hY:dA P Z0 σ0 m):∀(l:List Oper) (al:List A_),CC P n ops l=some al->(ro=none\/al.all (fun o=>!o.k.B2)=true) ->
  ∀(Z:Zt) (σ:Sg) (H:AH) (e:Env) (a:Act) (w:World),CR Z0 Z->Nw σ0 m σ->m<=H.next->WR Z σ H w->FR Z σ n e a ->
   CJ P al e H (fun e' H'=>Q .normal e' H') (fun v e' H'=>Q (.Bi v) e' H')->wpListIn (RF ro) 0 P ops (QR Z0 σ0 n m Q) l a w:=by
 intro l
 induction l with
 | nil=>
  intro al hal hro Z σ H e a w hZ hS hm hW he h
  simp only[CC,AD]at hal;subst hal
  exact⟨Z,σ,.normal,e,H,hZ,hS,hm,hW,he,rfl,h⟩
 | cons o l ih=>
  intro al hal hro Z σ H e a w hZ hS hm hW he h
  simp only[CC]at hal
  split at hal
  ·rename_i x xs hx hxs
   simp only[AD]at hal;subst hal
   obtain⟨hk,hd,hdn,hg⟩:=CX hx
   have hro':ro=none\/xs.all (fun o=>!o.k.B2)=true:=hro.imp_right fun hh=>by
    rw[EB,AS]at hh;exact hh.2
   unfold wpListIn
   simp only[CJ]at h
   rcases hg with⟨hg,hgx⟩ | ⟨j,want,s,hg,hgx,hs,hsn,hnd⟩
   ·rw[if_pos (by simp[Region.wanted,hg])]
    rw[hgx]at h
    simp only[]at h
    split at h
    ·rename_i f args hkk
     have hro0:ro=none:=by
      rcases hro with hro | hro
      ·exact hro
      ·rw[EB,AS,hkk]at hro;cases hro.1
     subst hro0
     rw[hkk]at hk
     split at h
     ·rename_i g first cap ds hf hds
      obtain⟨capt,vs,r1,r2⟩:=Wf (w:=w) hk he.er hf
      unfold Oper.wpIn
      refine⟨fun _ _=>trivial,?_⟩
      rw[show(RF none).round=none from rfl,Oper.semAt_none,r1,Oper.uponIn_defer]
      refine ih xs hxs (.inl rfl) Z σ H _ _ w hZ hS hm hW ?_ h
      obtain⟨l',e1,e2⟩:=he.ds
      rw[hds]at e1
      simp only[AV.tup.injEq]at e1
      subst e1
      rw[hd]
      refine FR.put hn (a:={ a with defers:=_::a.defers }) ⟨?_,⟨_,Env.GC ..,.cons r2 e2⟩,he.sz⟩ hdn (.unk _)
      intro t ht
      rw[Env.G1 _ _ (by omega)]
      exact he.er t ht
     ·exact h.elim
    ·rename_i hnd
     have hnd':x.k.B2=false:=by
      unfold AK.B2
      split
      ·rename_i f args hh;exact absurd hh (hnd f args)
      ·rfl
     exact R_ hn hk hd hdn hnd' hZ hS hm hW he h (fun Z' σ' v H' a' w' g1 g2 g3 g4 g5 g6=>ih xs hxs hro' Z' σ' H' _ a' w' g1 g2 g3 g4 g5 g6) (fun _ _ _ h=>h) hY
   ·rw[hgx]at h
    simp only[]at h
    split at h
    ·rename_i b hb
     have hv:=he.er s (by omega)
     have hy:=Ky (ops:=ops) hs hv hb
     have hw:Region.wanted o (yielded ops a.tmps)=(b==some want):=by simp[Region.wanted,hg,hy]
     rw[hw]
     by_cases hbw:b=some want
     ·rw[if_pos (by simpa using hbw)]
      exact R_ hn hk hd hdn hnd hZ hS hm hW he (h.1 hbw) (fun Z' σ' v H' a' w' g1 g2 g3 g4 g5 g6=>ih xs hxs hro' Z' σ' H' _ a' w' g1 g2 g3 g4 g5 g6) (fun _ _ _ h=>h) hY
     ·rw[if_neg (by simpa using hbw)]
      refine⟨fun _ _=>trivial,ih xs hxs hro' Z σ H _ _ w hZ hS hm hW ?_ (h.2 hbw)⟩
      rw[hd]
      exact he.put hn hdn WX
    ·exact h.elim
  ·cases hal
theorem Kk {F:Fence}{n:Nat}{c:Code}{Q:Exit->Act->World->Prop}(R:Nat->Act->World->Prop)
  (round:∀k a w,R k a w->c.wpIn F n P (Exit.then (fun a' w'=>∃k',k'<k/\R k' a' w') Q) a w) (k:Nat) (a:Act) (w:World) (h:R k a w):(Code.loop c).wpIn F n P Q a w:=by
 intro b t cs hro hb hr
 have key:∀k a w,R k a w->∃e a' w',Q e a' w'/\ArrivesIn (Machine.fenced P F) P (lone (b.atR a (.code c::.inLoop c::t)) cs w) b t cs e a' w':=by
  intro k
  induction k using Nat.strongRecOn with
  | _ k ih=>
   intro a w hR
   obtain⟨e,a₁,w₁,hq,harr⟩:=round k a w hR b (.inLoop c::t) cs hro hb hr
   cases e with
   | normal=>
    obtain⟨k',hlt,hR'⟩:=hq
    obtain⟨e₂,a₂,w₂,hq₂,harr₂⟩:=ih k' hlt a₁ w₁ hR'
    exact⟨e₂,a₂,w₂,hq₂,.of_steps (StepsIn.trans harr (.one (fenced_calm hb hr rfl) stepR_inLoop)) harr₂⟩
   | exit id=>exact⟨_,a₁,w₁,hq,.pass (x:=.inLoop c) rfl (fun _ _=>.inl (by simp)) harr⟩
   | goto l=>exact⟨_,a₁,w₁,hq,.pass (x:=.inLoop c) rfl (fun _ _=>.inl (by simp)) harr⟩
   | ret=>exact⟨_,a₁,w₁,hq,.pass (x:=.inLoop c) rfl (fun _ _=>.inl (by simp)) harr⟩
   | panic ch=>exact⟨_,a₁,w₁,hq,.pass (x:=.inLoop c) rfl (fun _ _=>.inl (by simp)) harr⟩
   | outgrown=>exact⟨_,a₁,w₁,hq,.pass (x:=.inLoop c) rfl (fun _ _=>.inl (by simp)) harr⟩
 obtain⟨e,a',w',hq,harr⟩:=key k a w h
 exact⟨e,a',w',hq,.of_steps (.one (fenced_calm hb hr rfl) stepR_loop) harr⟩
end
end
section
section
variable {P:Program}{Z:Zt}{σ:Sg}{H:AH}{w:World}{e:Env}{a:Act}
theorem WR.ghost (h:WR Z σ H w) (o:Cy):WR Z σ (H.push o) w:=by
 have hf:σ H.next=none:=h.fresh _ (A5 _)
 have hne:∀r q,σ r=some q->r≠H.next:=fun r q hq e=>by subst e;rw[hf]at hq;cases hq
 refine⟨h.z,fun r x p hr hp=>?_,fun r r' o o' p p' h1 h2 h3 h4 he=>?_,fun r hr=>h.fresh r (by simp only[AH.Gr]at hr;omega),fun r hr=>?_,h.rest⟩
 ·rw[AH.Ae _ _ (hne r p hp)]at hr;exact h.h r x p hr hp
 ·rw[AH.Ae _ _ (hne r p h3)]at h1
  rw[AH.Ae _ _ (hne r' p' h4)]at h2
  exact h.inj r r' _ _ p p' h1 h2 h3 h4 he
 ·simp only[AH.Gr]at hr
  rw[AH.Ae _ _ (by omega)];exact h.top r (by omega)
theorem WR.fill (h:WR Z σ H w){r:Nat}{o:Obj}{ao:Cy}{p:JA}(hr0:H.get r=some ao) (hf:σ r=none) (hlt0:r<H.next) (hp:p.b=w.heap.size) (ho:Is Z (σ.add r p) (w.alloc o) p ao) (hfz:Rest w (w.alloc o)) :
  WR Z (σ.add r p) H (w.alloc o):=by
 have hlt:∀r o' p',H.get r=some o'->σ r=some p'->p'.b<w.heap.size:=fun r o' p' h1 h2=>(h.h r o' p' h1 h2).2.lt
 refine⟨fun b o' hz=>?_,fun q o' p' hr hp'=>?_,fun q q' o1 o2 p1 p2 h1 h2 h3 h4 he=>?_,fun q hq=>?_,h.top,h.rest.to hfz⟩
 ·have:=h.z b o' hz
  rw[EW w o (Al.1 this).1];exact this
 ·by_cases e:q=r
  ·subst e
   rw[hr0]at hr
   simp only[AD]at hr
   simp only[Sg.add_same,AD]at hp'
   subst hr;subst hp'
   refine⟨?_,ho⟩
   cases hz:Z p.b with
   | none=>rfl
   | some x=>have:=(Al.1 (h.z _ _ hz)).1;omega
  ·have hp'':σ q=some p':=by simpa[Sg.add,e]using hp'
   obtain⟨h1,h2⟩:=h.h q o' p' hr hp''
   exact⟨h1,h2.mono (CR.refl _) (Sg.GX hf) (EW w o h2.lt)⟩
 ·by_cases e1:q=r<;>by_cases e2:q'=r
  ·rw[e1,e2]
  ·have h4':σ q'=some p2:=by simpa[Sg.add,e2]using h4
   subst e1
   simp only[Sg.add_same,AD]at h3
   subst h3
   have:=hlt _ _ _ h2 h4'
   omega
  ·have h3':σ q=some p1:=by simpa[Sg.add,e1]using h3
   subst e2
   simp only[Sg.add_same,AD]at h4
   subst h4
   have:=hlt _ _ _ h1 h3'
   omega
  ·exact h.inj q q' o1 o2 p1 p2 h1 h2 (by simpa[Sg.add,e1]using h3) (by simpa[Sg.add,e2]using h4) he
 ·have:q≠r:=by omega
  simp only[Sg.add,this,if_false]
  exact h.fresh q hq
theorem Nw.tU (σ:Sg) {n r:Nat}(p:JA) (h:n<=r):Nw σ n (σ.add r p):=by
 intro x hx
 have:x≠r:=by omega
 simp[Sg.add,this]
def FQ (k:AK) (e:Env):Option (List AV × (Nat->AV)):=
 match k with
 | .alloc z=>some (z,fun r=>.ptr r 0)
 | .box x=>match (x.ev e).cellsOf with
  | some l=>some (l,fun r=>.ptr r 0)
  | none=>none
 | .buildSlice _ len z ps=>match B5 e z ps with
  | some out=>some (out,fun r=>.sl r 0 len (.ex len))
  | none=>none
 | .mkSlice _ bytes z l c=>match l.ev e,c.ev e with
  | .int _ l,.int _ c=>if 0<=l/\l<=c/\c<=9223372036854775807/\(bytes:Int)*c<=281474976710656 then some (D7 c.toNat z,fun r=>.sl r 0 l.toNat (.ex c.toNat))else none
  | _,_=>none
 | _=>none
structure Wn (P:Program) (Z:Zt) (σ:Sg) (s:Sem Next) (l:List AV) (f:Nat->AV):Prop where
 run:∀w:World,∃(c:Array Value) (el:TypeId) (cv:Value),s.run P w=.ok (.value cv) (w.alloc (.cells c el))/\l.length<=c.size/\CE Z σ l (c.toList.take l.length) /\
  (∀u∈c.toList.take l.length,u.oneCell'=true)/\∀(Z':Zt) (σ':Sg) (r:Nat),σ' r=some ⟨w.heap.size,0,c.size⟩->VR Z' σ' (f r) cv
theorem Wn.fill {s:Sem Next}{l:List AV}{f:Nat->AV}(hn:Wn P Z σ s l f) (hW:WR Z σ H w){r:Nat}(hr:H.get r=some (.cells l)) (hf:σ r=none) (hlt:r<H.next) :
  ∃cv w' p,s.run P w=.ok (.value cv) w'/\WR Z (σ.add r p) H w'/\VR Z (σ.add r p) (f r) cv:=by
 obtain⟨c,el,cv,r1,r2,r3,r4,r5⟩:=hn.run w
 refine⟨cv,_,⟨w.heap.size,0,c.size⟩,r1,?_,r5 _ _ _ (Sg.add_same _ _ _)⟩
 refine hW.fill hr hf hlt rfl (.cells (Dm w _) rfl (.inl rfl) (by simpa using r2) ?_ ?_) (Rest.alloc _ _ _)
 ·simp only[B_];exact r3.mono (CR.refl _) (Sg.GX hf)
 ·simpa using r4
theorem Wc {o:Oper}{k:AK}(hk:Dr P o=some k) (he:ER Z σ e a){l:List AV}{f:Nat->AV}(h:FQ k e=some (l,f)):Wn P Z σ (execOp a.eval o) l f:=by
 have hinv:=C4 hk
 unfold FQ at h
 split at h
 ·rename_i z
  obtain⟨t,ho,h1⟩:=hinv
  simp only[AD,A1]at h
  obtain⟨rfl,rfl⟩:=h
  obtain⟨i,zv,h1,h2,h3,h4⟩:=CZ (Z:=Z) (σ:=σ) h1
  have hl:z.length=zv.cells.size:=by simpa using h3.length
  have ht:zv.cells.toList.take z.length=zv.cells.toList:=Ac (by simp;omega)
  refine⟨fun w=>⟨zv.cells,t,.pointer (some ⟨w.heap.size,0,none⟩),?_,by omega,by rw[ht];exact h3,by rw[ht];exact h4,fun Z' σ' r hr=>.ptr (p:=⟨w.heap.size,0,zv.cells.size⟩) hr⟩⟩
  simp[execOp,ho,Instr.alloc,zeroValue,typeInfo,h1,h2,newVar,newRow]
 ·obtain⟨t,y,ho,h1⟩:=hinv
  split at h<;>simp only[AD,A1,reduceCtorEq]at h
  rename_i l' hl
  obtain⟨rfl,rfl⟩:=h
  obtain⟨h3,h4⟩:=AV.Fv hl (AJ he h1)
  have hl:l'.length=(a.eval y).cells.size:=by simpa using h3.length
  have ht:(a.eval y).cells.toList.take l'.length=(a.eval y).cells.toList:=Ac (by simp;omega)
  refine⟨fun w=>⟨(a.eval y).cells,t,.pointer (some ⟨w.heap.size,0,none⟩),?_,by omega,by rw[ht];exact h3,by rw[ht];exact h4,fun Z' σ' r hr=>.ptr (p:=⟨w.heap.size,0,(a.eval y).cells.size⟩) hr⟩⟩
  simp[execOp,ho,Instr.box,newVar,newRow]
 ·rename_i n len z ps
  obtain⟨t,qs,el,zz,ho,hu,hn,hz,hnz,h0,hlim,hq,rfl⟩:=hinv
  split at h<;>simp only[AD,A1,reduceCtorEq]at h
  rename_i out hf
  obtain⟨rfl,rfl⟩:=h
  obtain⟨i,zv,h1,h2,h3,h4⟩:=CZ (Z:=Z) (σ:=σ) hz
  have hl:zz.length=zv.cells.size:=by simpa using h3.length
  obtain⟨g1,g2⟩:=Hy h3 h4 (by omega) len
  obtain⟨vs',r1,r2,r3⟩:=HC he hq (vs:=(Array.range (len*zv.cells.size)).map (zv.cells[· % zv.cells.size]!)) g1 g2 hf
  have hlo:out.length=vs'.size:=by simpa using r2.length
  have ht:vs'.toList.take out.length=vs'.toList:=Ac (by simp;omega)
  refine⟨fun w=>⟨vs',el,.slice (some ⟨w.heap.size,0,none⟩) len len,?_,by omega,by rw[ht];exact r2,by rw[ht];exact r3,fun Z' σ' r hr=>.slx (p:=⟨w.heap.size,0,vs'.size⟩) hr (A5 _)⟩⟩
  have hns:n=zv.cells.size:=by omega
  by_cases h0:len*n=0
  ·have e0:((Array.range (len*n)).map (#[][· % (#[]:Array Value).size]!))=(Array.range (len*zv.cells.size)).map (zv.cells[· % zv.cells.size]!):=by
    rw[<- hns,h0];simp
   simp only[execOp,ho,Instr.buildSlice,Sem.run_bind,run_underlying hu,Result.andThen_ok,Bd hn,if_neg (show ¬(len*n>2 ^ 24)by omega),if_pos h0,Sem.run_pure,e0,Gi,r1,newRow,run_newObj]
   rfl
  ·have hzv:(zeroValue el).run P w=.ok zv w:=by simp[zeroValue,typeInfo,h1,h2]
   subst hns
   simp only[execOp,ho,Instr.buildSlice,Sem.run_bind,run_underlying hu,Result.andThen_ok,Bd hn,if_neg (show ¬(len*zv.cells.size>2 ^ 24)by omega),if_neg h0,Sem.run_pure,hzv,Gi,r1,newRow,run_newObj]
   simp[zeroValue,typeInfo,h1,h2,r1]
 ·rename_i sz bytes z lo co
  obtain⟨t,l',c',el,i,ho,hu,hi,hz,rfl,rfl,hnz,hn0,h1,h2⟩:=hinv
  split at h<;>(try cases h;done)
  rename_i kl l kc c hl hc
  split at h<;>simp only[AD,A1,reduceCtorEq]at h
  rename_i hb
  obtain⟨rfl,rfl⟩:=h
  obtain⟨h0,hlc,gX,hb⟩:=hb
  have e1:=AJ he h1
  have e2:=AJ he h2
  rw[hl]at e1;rw[hc]at e2
  have e1:=e1.Bk
  have e2:=e2.Bk
  obtain⟨i',zv,h1,h2,h3,h4⟩:=CZ (Z:=Z) (σ:=σ) hz
  rw[hi]at h1;cases h1
  have hl:z.length=zv.cells.size:=by simpa using h3.length
  obtain⟨g1,g2⟩:=Hy h3 h4 (by omega) c.toNat
  have hlo:(D7 c.toNat z).length=((Array.range (c.toNat*zv.cells.size)).map (zv.cells[· % zv.cells.size]!)).size:=by simp[HW,hl]
  have ht:((Array.range (c.toNat*zv.cells.size)).map (zv.cells[· % zv.cells.size]!)).toList.take (D7 c.toNat z).length=((Array.range (c.toNat*zv.cells.size)).map (zv.cells[· % zv.cells.size]!)).toList:=
   Ac (by rw[Fp];omega)
  refine⟨fun w=>⟨(Array.range (c.toNat*zv.cells.size)).map (zv.cells[· % zv.cells.size]!),el,.slice (some ⟨w.heap.size,0,none⟩) l.toNat c.toNat,?_,by omega,by rw[ht];exact g1,by rw[ht];exact g2,
   fun Z' σ' r hr=>.slx (p:=⟨w.heap.size,0,_⟩) hr (by omega)⟩⟩
  have e3:¬(c<0):=by omega
  have e4:¬(281474976710656<(i.bytes:Int)*c):=by omega
  have e5:¬(l<0):=by omega
  have e6:¬(c<l):=by omega
  have hns:i.size=zv.cells.size:=by omega
  by_cases hz0:c.toNat*zv.cells.size=0
  ·have hzz:c.toNat=0:=by
    rcases Nat.mul_eq_zero.1 hz0 with h | h
    ·exact h
    ·omega
   simp[execOp,ho,e1,e2,Instr.makeSlice,asInt,asIntOf,run_underlying hu,typeInfo,hi,EI h0 (by omega),EI (by omega:0<=c) gX,e3,e4,e5,e6,sizeOf,newRow,hzz]
   have:Array.range 0=#[]:=by simp
   rw[this]
   simp
  ·simp[execOp,ho,e1,e2,Instr.makeSlice,asInt,asIntOf,run_underlying hu,typeInfo,hi,EI h0 (by omega),EI (by omega:0<=c) gX,e3,e4,e5,e6,sizeOf,hns,zeroValue,h2,newRow,hz0]
 ·cases h
def AF.tmps:AF->List Nat
 | .tmp t=>[t]
 | _=>[]
def Ih:Option AF->List Nat
 | some x=>x.tmps
 | none=>[]
def AK.tmps:AK->List Nat
 | .move x | .nilCheck x | .un _ x | .convI _ x | .convS x | .mkIface _ x | .fieldAddr _ x | .field _ _ x | .extract _ x | .len x | .lenStr x | .load _ x | .strOfBytes x | .box x | .panic x | .cap x | .mark x | .bytesOf x | .JD _ _ x | .lenMap x | .tass _ _ x | .rangeM x | .nextM x | .entryM x=>x.tmps
 | .ext _ x y | .copy _ x y=>x.tmps++y.tmps
 | .pick c a b=>c.tmps++(a.tmps++b.tmps)
 | .build _ ps | .buildSlice _ _ _ ps=>ps.flatMap fun p=>p.2.2.tmps
 | .bin _ x y | .indexAddrA _ _ x y | .indexAddrS _ x y | .indexA _ _ _ x y | .indexStr x y | .minmax _ x y | .mkSlice _ _ _ x y | .store _ x y | .append _ _ x y | .eq _ _ x y | .appendZ _ _ _ x y | .lookup _ _ _ x y=>x.tmps++y.tmps
 | .minmax3 _ x y z | .mapUpd _ x y z=>x.tmps++(y.tmps++z.tmps)
 | .mkFunc _ f c=>f.flatMap (·.tmps)++c.flatMap (·.tmps)
 | .sliceStr x lo hi=>x.tmps++(Ih lo++Ih hi)
 | .sliceS _ x lo hi mx | .sliceA _ _ x lo hi mx=>x.tmps++(Ih lo++(Ih hi++Ih mx))
 | .lenA _ | .alloc _ | .recover | .makeMap | .gld _ _=>[]
 | .call f args | .defer f args=>f.tmps++args.flatMap (·.tmps)
theorem AF.BN {e e':Env}{x:AF}(h:∀t∈x.tmps,e t=e' t):x.ev e=x.ev e':=by
 cases x with
 | tmp t=>exact h t (by simp[AF.tmps])
 | _=>rfl
theorem M1 {e e':Env}{l:List AF}(h:∀t∈l.flatMap (·.tmps),e t=e' t):l.map (·.ev e)=l.map (·.ev e'):=
 List.map_congr_left fun x hx=>AF.BN fun t ht=>h t (List.mem_flatMap.2 ⟨x,hx,ht⟩)
theorem WD {e e':Env}{x:Option AF}(h:∀t∈Ih x,e t=e' t):AF.ints e x=AF.ints e' x:=by
 cases x with
 | none=>rfl
 | some x=>simp only[AF.ints,AF.BN (e:=e) (e':=e') (x:=x) h]
theorem Hh {e e':Env}:∀{ps:List (Nat × Nat × AF)}{z:List AV},(∀t∈ps.flatMap (fun p=>p.2.2.tmps),e t=e' t)->B5 e z ps=B5 e' z ps
 | [],z,_=>rfl
 | (off,n,x)::ps,z,h=>by
  simp only[B5,AF.BN (e:=e) (e':=e') (x:=x) fun t ht=>h t (by simp[ht])]
  split
  ·rfl
  ·split
   ·exact Hh fun t ht=>h t (by simp only[D2];exact CL _ ht)
   ·rfl
theorem KB {e e':Env}{k:AK}(h:∀t∈k.tmps,e t=e' t):AI k e=AI k e':=by
 have opd:∀x:AF,(∀t∈x.tmps,t∈k.tmps)->x.ev e=x.ev e':=fun x hx=>AF.BN fun t ht=>h t (hx t ht)
 have oint:∀x:Option AF,(∀t∈Ih x,t∈k.tmps)->AF.ints e x=AF.ints e' x:=fun x hx=>WD fun t ht=>h t (hx t ht)
 cases k<;>simp only[AI]<;>(try rfl)
 case build z ps=>rw[Hh h]
 case mkFunc f a b=>rw[M1 fun t ht=>h t (by simp only[AK.tmps];exact Cz _ ht),M1 fun t ht=>h t (by simp only[AK.tmps];exact CL _ ht)]
 case sliceStr x lo hi=>rw[opd x (by simp +contextual [AK.tmps]),oint lo (by simp +contextual [AK.tmps]),oint hi (by simp +contextual [AK.tmps])]
 case sliceS n x lo hi mx=>rw[opd x (by simp +contextual [AK.tmps]),oint lo (by simp +contextual [AK.tmps]),oint hi (by simp +contextual [AK.tmps]),oint mx (by simp +contextual [AK.tmps])]
 case sliceA m n x lo hi mx=>rw[opd x (by simp +contextual [AK.tmps]),oint lo (by simp +contextual [AK.tmps]),oint hi (by simp +contextual [AK.tmps]),oint mx (by simp +contextual [AK.tmps])]
 case minmax3 m c a b=>rw[opd c (by simp +contextual [AK.tmps]),opd a (by simp +contextual [AK.tmps]),opd b (by simp +contextual [AK.tmps])]
 case pick c a b=>rw[opd c (by simp +contextual [AK.tmps]),opd a (by simp +contextual [AK.tmps]),opd b (by simp +contextual [AK.tmps])]
 all_goals first
  | (rename_i x y;rw[opd x (by simp +contextual [AK.tmps]),opd y (by simp +contextual [AK.tmps])])
  | (rename_i x;rw[opd x (by simp +contextual [AK.tmps])])
theorem KA {e e':Env}{k:AK}(h:∀t∈k.tmps,e t=e' t):AZ k e H=AZ k e' H:=by
 unfold AZ
 split
 ·rw[AF.BN h]
 ·rw[AF.BN h]
 ·rw[AF.BN fun t ht=>h t (by simp[AK.tmps,ht]),AF.BN fun t ht=>h t (by simp[AK.tmps,ht])]
 ·rw[AF.BN h]
 ·rename_i c x y
  rw[AF.BN (x:=x) fun t ht=>h t (by simp[AK.tmps,ht]),AF.BN (x:=y) fun t ht=>h t (by simp[AK.tmps,ht])]
 ·rw[AF.BN h]
 ·rfl
 ·rfl
theorem QZ {e e':Env}{k:AK}(h:∀t∈k.tmps,e t=e' t):FQ k e=FQ k e':=by
 unfold FQ
 split
 ·rfl
 ·rw[AF.BN h]
 ·rw[Hh h]
 ·rw[AF.BN fun t ht=>h t (by simp[AK.tmps,ht]),AF.BN fun t ht=>h t (by simp[AK.tmps,ht])]
 ·rfl
theorem We {e e':Env}{k:AK}(h:∀t∈k.tmps,e t=e' t):BL k e H=BL k e' H:=by
 unfold BL
 split
 ·rfl
 ·rw[AF.BN h]
 ·rw[Hh h]
 all_goals first
  | rfl
  | rw[AF.BN h]
  | rw[AF.BN fun t ht=>h t (by simp[AK.tmps,ht]),AF.BN fun t ht=>h t (by simp[AK.tmps,ht]),AF.BN fun t ht=>h t (by simp[AK.tmps,ht])]
  | rw[AF.BN fun t ht=>h t (by simp[AK.tmps,ht]),AF.BN fun t ht=>h t (by simp[AK.tmps,ht])]
theorem Wa {e e':Env}{k:AK}(h:∀t∈k.tmps,e t=e' t):A2 k e H=A2 k e' H:=by
 unfold A2
 rw[KB h,KA h,We h]
theorem M9 [YC] {e e':Env}{k:AK}{K Kp:AV->AH->Prop}(h:∀t∈k.tmps,e t=e' t):HN P k e H K Kp↔HN P k e' H K Kp:=by
 cases k with
 | call f args=>
  simp only[HN]
  rw[AF.BN (e:=e) (e':=e') fun t ht=>h t (by simp only[AK.tmps];exact Cz _ ht),M1 fun t ht=>h t (by simp only[AK.tmps];exact CL _ ht)]
 | panic x=>simp only[HN];rw[AF.BN (e:=e) (e':=e') h]
 | defer f args=>exact Iff.rfl
 | recover=>exact Iff.rfl
 | nextM x=>simp only[HN];rw[AF.BN (e:=e) (e':=e') h]
 | _=>simp only[HN];rw[Wa h]
end
end
structure DV where
 i:Nat
 o:A_
 pre:Nat
 fl:List Nat
 eff:Bool
def A_.tmps (o:A_):List Nat:=o.k.tmps++(match o.gd with | some (s,_)=>[s] | none=>[])
abbrev E4:=List (Nat × (AH->Prop))
def U9:List Nat->E4->AH->Prop
 | [],_,_=>True
 | i::is,ps,H=>(match ps.lookup i with | some p=>p H | none=>True)/\U9 is ps H
def A0 [YC] (P:Program) (ep:Env) (K:Env->AH->Prop) (Kp:AV->Env->AH->Prop):List DV->Env->AH->E4->Prop
 | [],e,H,_=>K e H
 | it::l,e,H,pend=>
  let step:Prop:=
   if it.eff then HN P it.o.k e H (fun v H'=>U9 it.fl pend H'/\A0 P ep K Kp l (e.put it.o.dst v) H' pend) (fun v H'=>Kp v ep H')
   else match AI it.o.k e with
    | some v=>A0 P ep K Kp l (e.put it.o.dst v) H pend
    | none=>match AZ it.o.k e H with
     | some v=>A0 P ep K Kp l (e.put it.o.dst v) H ((it.i,fun H'=>AZ it.o.k e H'=some v)::pend)
     | none=>match FQ it.o.k e with
      | some (c,f)=>A0 P ep K Kp l (e.put it.o.dst (f H.next)) (H.push (.cells c)) ((it.i,fun H'=>H'.get H.next=some (.cells c))::pend)
      | none=>False
  match it.o.gd with
  | none=>step
  | some (s,want)=>match Mc (e s)with
   | some b=>(b=some want->step)/\(b≠some want->A0 P ep K Kp l (e.put it.o.dst Ad) H pend)
   | none=>False
def JD (plan:List DV) (e:Env):Env:=fun t=>if plan.any (fun it=>it.o.dst==some t)then .unk else e t
def LV (ops:Array Oper) (i:Nat):List Nat:=match ops[i]? with
 | some o=>(o.after.toList.filter (Region.binds .any)).map (·.on)
 | none=>[]
def RQ (plan:List DV) (i:Nat):Nat:=match plan.find? (fun it=>it.i==i)with
 | some it=>it.pre
 | none=>0
def KW (plan:List DV):List Nat->Nat
 | []=>0
 | p::ps=>(1 <<< p ||| RQ plan p) ||| KW plan ps
def AK.MS:AK->Bool
 | .load _ _ | .strOfBytes _ | .lookup .. | .lenMap _ | .ext .. | .entryM _ | .gld .. | .alloc _ | .box _ | .buildSlice .. | .mkSlice ..=>true
 | _=>false
def Ss (ops:Array Oper) (a b:DV):Bool:=
 a.i != b.i&&!((LV ops a.i).contains b.i) &&
 (match b.o.dst with
  | some t=>a.o.dst != some t&&(!(a.o.tmps.contains t)||b.pre.testBit a.i)
  | none=>true) &&
 (match a.o.dst with
  | some t=>!(b.o.tmps.contains t)||b.pre.testBit a.i
  | none=>true) &&
 (!a.eff||b.pre.testBit a.i) &&
 (!b.eff||a.eff||!a.o.k.MS||b.pre.testBit a.i||b.fl.contains a.i)
def aX (ops:Array Oper) (plan:List DV) (a:DV):Bool:=
 decide (a.i<ops.size)&&!((LV ops a.i).contains a.i)&&(match a.o.dst with | some t=>!(a.o.tmps.contains t) | none=>true) &&
 a.pre==KW plan (LV ops a.i)&&!a.o.k.B2&&(LV ops a.i).all (fun p=>decide (p<ops.size))
def OZ (ops:Array Oper):List DV->Bool
 | []=>true
 | a::l=>l.all (Ss ops a)&&OZ ops l
def Vs (ops:Array Oper) (plan:List DV):Bool:=
 plan.all (aX ops plan)&&OZ ops plan&&(List.range ops.size).all (fun i=>plan.any (fun it=>it.i==i))
def Mv (P:Program) (n:Nat) (ops:Array Oper):List (Nat × Nat × List Nat × Bool)->Option (List DV)
 | []=>some []
 | (i,pre,fl,eff)::l=>match (ops[i]?).bind (Dj P n ops),Mv P n ops l with
  | some o,some r=>some (⟨i,o,pre,fl,eff⟩::r)
  | _,_=>none
theorem ME {ops:Array Oper}:∀{l:List DV},OZ ops l=true->l.Pairwise (fun a b=>Ss ops a b=true)
 | [],_=>.nil
 | a::l,h=>by
  simp only[OZ,AS,CY]at h
  exact .cons h.1 (ME h.2)
theorem NT {P:Program}{n:Nat}{ops:Array Oper}:∀{hs:List (Nat × Nat × List Nat × Bool)}{plan:List DV},Mv P n ops hs=some plan ->
  ∀it∈plan,∃o,ops[it.i]?=some o/\Dj P n ops o=some it.o
 | [],plan,h=>by simp only[Mv,AD]at h;subst h;simp
 | (i,pre,fl,eff)::l,plan,h=>by
  simp only[Mv]at h
  split at h<;>simp only[AD,reduceCtorEq]at h
  rename_i o r h1 h2
  subst h
  intro it hit
  cases hit with
  | head=>simpa only[C7]using h1
  | tail _ hit=>exact NT h2 it hit
theorem MB {plan:List DV}{j:Nat}:∀{ps:List Nat},(KW plan ps).testBit j=true->∃p∈ps,j=p\/(RQ plan p).testBit j=true
 | [],h=>by simp[KW]at h
 | p::ps,h=>by
  simp only[KW,Nat.testBit_or,Ee]at h
  rcases h with(h | h) | h
  ·refine⟨p,by simp,.inl ?_⟩
   rw[Nat.one_shiftLeft,O2]at h
   simpa using(of_decide_eq_true h).symm
  ·exact⟨p,by simp,.inr h⟩
  ·obtain⟨q,hq,hh⟩:=MB h
   exact⟨q,Ct _ hq,hh⟩
structure Kx (ops:Array Oper) (a b:DV):Prop where
 ne:a.i≠b.i
 dir:b.i ∉ LV ops a.i
 dst:∀t,b.o.dst=some t->a.o.dst≠some t
 r1:∀t,b.o.dst=some t->t∈a.o.tmps->b.pre.testBit a.i=true
 r2:∀t,a.o.dst=some t->t∈b.o.tmps->b.pre.testBit a.i=true
 eff:a.eff=true->b.pre.testBit a.i=true
 fl:b.eff=true->a.eff=false->a.o.k.MS=true->b.pre.testBit a.i=true\/a.i∈b.fl
theorem UJ {ops:Array Oper}{a b:DV}(h:Ss ops a b=true):Kx ops a b:=by
 unfold Ss at h
 simp only[AS,bne_iff_ne,ne_eq,E7,Ee,SQ]at h
 obtain⟨⟨⟨⟨⟨h1,h2⟩,h3⟩,h4⟩,h5⟩,h6⟩:=h
 refine⟨h1,by simpa using h2,fun t ht=>?_,fun t ht hm=>?_,fun t ht hm=>?_,fun he=>?_,fun hb ha hm=>?_⟩
 ·rw[ht]at h3
  simp only[AS,bne_iff_ne,ne_eq]at h3
  exact h3.1
 ·rw[ht]at h3
  simp only[AS,bne_iff_ne,ne_eq,Ee,E7]at h3
  rcases h3.2 with h | h
  ·simp at h;exact absurd hm h
  ·exact h
 ·rw[ht]at h4
  simp only[Ee,E7]at h4
  rcases h4 with h | h
  ·simp at h;exact absurd hm h
  ·exact h
 ·rcases h5 with h | h
  ·rw[he]at h;cases h
  ·exact h
 ·rcases h6 with(((h | h) | h) | h) | h
  ·rw[hb]at h;cases h
  ·rw[ha]at h;cases h
  ·rw[hm]at h;cases h
  ·exact .inl h
  ·exact .inr (by simpa using h)
structure pB (ops:Array Oper) (plan:List DV) (a:DV):Prop where
 lt:a.i<ops.size
 dir:a.i ∉ LV ops a.i
 own:∀t,a.o.dst=some t->t ∉ a.o.tmps
 pre:a.pre=KW plan (LV ops a.i)
 nd:a.o.k.B2=false
 dlt:∀p∈LV ops a.i,p<ops.size
theorem Vw {ops:Array Oper}{plan:List DV}{a:DV}(h:aX ops plan a=true):pB ops plan a:=by
 unfold aX at h
 simp only[AS,decide_eq_true_eq,E7,beq_iff_eq,CY]at h
 obtain⟨⟨⟨⟨⟨h1,h2⟩,h3⟩,h4⟩,h5⟩,h6⟩:=h
 refine⟨h1,by simpa using h2,fun t ht=>?_,h4,h5,h6⟩
 rw[ht]at h3
 simpa using h3
structure GR (P:Program) (n:Nat) (ops:Array Oper) (plan:List DV):Prop where
 own:∀a∈plan,pB ops plan a
 pair:plan.Pairwise (Kx ops)
 all:∀i,i<ops.size->∃a∈plan,a.i=i
 op:∀a∈plan,∃o,ops[a.i]?=some o/\Dj P n ops o=some a.o
theorem UC {P:Program}{n:Nat}{ops:Array Oper}{hs:List (Nat × Nat × List Nat × Bool)}{plan:List DV}(h:Vs ops plan=true) (hm:Mv P n ops hs=some plan):GR P n ops plan:=by
 unfold Vs at h
 simp only[AS,CY,Gj,beq_iff_eq,Lg]at h
 exact⟨fun a ha=>Vw (h.1.1 a ha),(ME h.1.2).imp UJ,fun i hi=>h.2 i hi,NT hm⟩
theorem GR.uniq {P:Program}{n:Nat}{ops:Array Oper}{plan:List DV}(h:GR P n ops plan) {a b:DV}(ha:a∈plan) (hb:b∈plan) (hi:a.i=b.i):a=b:=by
 have:∀(l:List DV),l.Pairwise (Kx ops)->a∈l->b∈l->a=b:=by
  intro l hl
  induction hl with
  | nil=>intro h;simp at h
  | cons h1 _ ih=>
   intro ha hb
   cases ha with
   | head=>cases hb with
    | head=>rfl
    | tail _ hb=>exact absurd hi (h1 _ hb).ne
   | tail _ ha=>cases hb with
    | head=>exact absurd hi.symm (h1 _ ha).ne
    | tail _ hb=>exact ih ha hb
 exact this plan h.pair ha hb
theorem GR.aK {P:Program}{n:Nat}{ops:Array Oper}{plan:List DV}(h:GR P n ops plan){a:DV}(ha:a∈plan):RQ plan a.i=a.pre:=by
 unfold RQ
 cases hf:plan.find? (fun it=>it.i==a.i)with
 | none=>have:=List.find?_eq_none.1 hf a ha;simp at this
 | some b=>
  have hb:=List.mem_of_find?_eq_some hf
  have hi:=List.find?_some hf
  have:b=a:=h.uniq hb ha (by simpa using hi)
  simp[this]
section
inductive ou where
 | skip
 | pure
 | read
 | new (id:Nat) (l:List AV) (f:Nat->AV)
def ou.mem:ou->Bool
 | .read | .new ..=>true
 | _=>false
structure VN where
 it:DV
 ee:Env
 v:AV
 md:ou
def lS (o:A_) (e:Env):Prop:=o.gd=none\/∃s want,o.gd=some (s,want)/\Mc (e s)=some (some want)
def It (x:VN) (H:AH):Prop:=match x.md with
 | .read=>AZ x.it.o.k x.ee H=some x.v
 | .new id l _=>H.get id=some (.cells l)
 | _=>True
def OL (m:Nat) (x:VN) (H:AH) (σ:Sg):Prop:=match x.md with
 | .skip=>x.v=Ad/\∃s want b,x.it.o.gd=some (s,want)/\Mc (x.ee s)=some b/\b≠some want
 | .pure=>lS x.it.o x.ee/\AI x.it.o.k x.ee=some x.v
 | .read=>lS x.it.o x.ee/\AI x.it.o.k x.ee=none
 | .new id l f=>lS x.it.o x.ee/\FQ x.it.o.k x.ee=some (l,f)/\x.v=f id/\σ id=none/\m<=id/\id<H.next
def FK (U:List VN) (e0 e:Env):Env:=fun t=>if U.any (fun x=>x.it.o.dst==some t)then e0 t else e t
theorem GG {U:List VN}{e0 e:Env}{t:Nat}{x:VN}(hx:x∈U) (h:x.it.o.dst=some t):FK U e0 e t=e0 t:=by
 unfold FK;rw[if_pos];exact List.any_eq_true.2 ⟨x,hx,by simp[h]⟩
theorem Cf {U:List VN}{e0 e:Env}{t:Nat}(h:∀x∈U,x.it.o.dst≠some t):FK U e0 e t=e t:=by
 unfold FK;rw[if_neg];intro hh
 obtain⟨x,hx,he⟩:=Gj.1 hh
 exact h x hx (by simpa using he)
section
variable {P:Program}{n:Nat}{ops:Array Oper}{Z:Zt}{σ:Sg}{H:AH}{w:World}{a:Act}
theorem KS {o:Oper}{x:A_}(hx:Dj P n ops o=some x) {e eS:Env}(hn:n<=AN) (he:FR Z σ n eS a) (hag:∀t∈x.tmps,e t=eS t) (h:lS x e) :
  Region.wanted o (yielded ops a.tmps)=true:=by
 obtain⟨hk,hd,hdn,hg⟩:=CX hx
 rcases hg with⟨hg,hgx⟩ | ⟨j,want,s,hg,hgx,hs,hsn,hnd⟩
 ·simp[Region.wanted,hg]
 ·rcases h with h | ⟨s',want',h1,h2⟩
  ·rw[hgx]at h;cases h
  ·rw[hgx]at h1;cases h1
   have hm:s∈x.tmps:=by simp[A_.tmps,hgx]
   have hv:=he.er s (by omega)
   rw[hag s hm]at h2
   have hy:=Ky (ops:=ops) hs hv h2
   simp[Region.wanted,hg,hy]
theorem NJ {o:Oper}{x:A_}(hx:Dj P n ops o=some x) {e eS:Env}(hn:n<=AN) (he:FR Z σ n eS a) (hag:∀t∈x.tmps,e t=eS t){s:Nat}{want:Bool}{b:Option Bool}
  (h1:x.gd=some (s,want)) (h2:Mc (e s)=some b) (h3:b≠some want):Region.wanted o (yielded ops a.tmps)=false:=by
 obtain⟨hk,hd,hdn,hg⟩:=CX hx
 rcases hg with⟨hg,hgx⟩ | ⟨j,want',s',hg,hgx,hs,hsn,hnd⟩
 ·rw[hgx]at h1;cases h1
 ·rw[hgx]at h1;cases h1
  have hm:s∈x.tmps:=by simp[A_.tmps,hgx]
  have hv:=he.er s (by omega)
  rw[hag s hm]at h2
  have hy:=Ky (ops:=ops) hs hv h2
  simp[Region.wanted,hg,hy,h3]
theorem XY {k:AK}{e:Env}{v:AV}(h:AI k e=some v):k.B2=false/\k≠.panic (.cst .unk):=by
 refine⟨?_,fun hp=>by subst hp;cases h⟩
 unfold AK.B2;split
 ·cases h
 ·rfl
theorem XX {k:AK}{e:Env}{v:AV}(h:AZ k e H=some v):k.B2=false/\k≠.panic (.cst .unk):=by
 refine⟨?_,fun hp=>by subst hp;cases h⟩
 unfold AK.B2;split
 ·cases h
 ·rfl
theorem aj {k:AK}{e:Env}{v:List AV × (Nat->AV)}(h:FQ k e=some v):k.B2=false/\k≠.panic (.cst .unk):=by
 refine⟨?_,fun hp=>by subst hp;cases h⟩
 unfold AK.B2;split
 ·cases h
 ·rfl
theorem fc {ro:Option Nat}{m:Nat}{x:VN}{o:Oper}{eS:Env}(hops:ops[x.it.i]?=some o) (hc:Dj P n ops o=some x.it.o) (hn:n<=AN) (hW:WR Z σ H w) (he:FR Z σ n eS a)
  (hag:∀t∈x.it.o.tmps,x.ee t=eS t) (hh:It x H) (hs:OL m x H σ) {Qc:Exit->Act->World->Prop} {K:Act->World->Prop}
  (hK:∀cv w' σ',WR Z σ' H w'->(σ'=σ\/∃id l f p,x.md=.new id l f/\σ'=σ.add id p)->VR Z σ' x.v cv->K (a.put o.dst cv) w'):wpOpIn (RF ro) 0 P ops Qc x.it.i K a w:=by
 unfold wpOpIn
 simp only[hops]
 obtain⟨hk,hd,hdn,hg⟩:=CX hc
 have hagk:∀t∈x.it.o.k.tmps,x.ee t=eS t:=fun t ht=>hag t (Cz _ ht)
 unfold OL at hs
 split at hs
 ·obtain⟨hv,s,want,b,h1,h2,h3⟩:=hs
  rw[NJ hc hn he hag h1 h2 h3]
  simp only[E_,if_false]
  exact⟨fun _ _=>trivial,hK undef w σ hW (.inl rfl) (by rw[hv];exact WX)⟩
 ·obtain⟨hw,hv⟩:=hs
  rw[KS hc hn he hag hw]
  simp only[if_true]
  obtain⟨cv,r1,r2⟩:=Nq hk he.er (by rw[<- KB hagk];exact hv) w
  unfold Oper.wpIn
  refine⟨fun _ _=>trivial,?_⟩
  rw[Jd hk (XY hv).1 (XY hv).2,r1,Oper.uponIn_value]
  exact hK cv w σ hW (.inl rfl) r2
 ·rename_i hmd
  obtain⟨hw,hp⟩:=hs
  have hv:AZ x.it.o.k x.ee H=some x.v:=by simpa only[It,hmd]using hh
  rw[KS hc hn he hag hw]
  simp only[if_true]
  have hv':AZ x.it.o.k eS H=some x.v:=by rw[<- KA hagk];exact hv
  obtain⟨cv,r1,r2⟩:=Np (P:=P) hk hW he.er hv'
  unfold Oper.wpIn
  refine⟨fun _ _=>trivial,?_⟩
  rw[Jd hk (XX hv).1 (XX hv).2,r1,Oper.uponIn_value]
  exact hK cv w σ hW (.inl rfl) r2
 ·rename_i id l f hmd
  obtain⟨hw,hv,hxv,hid,_,hlt⟩:=hs
  have hget:H.get id=some (.cells l):=by simpa only[It,hmd]using hh
  rw[KS hc hn he hag hw]
  simp only[if_true]
  have hr:=Wc hk he.er (by rw[<- QZ hagk];exact hv)
  obtain⟨cv,w',p,r1,r2,r3⟩:=hr.fill hW hget hid hlt
  unfold Oper.wpIn
  refine⟨fun _ _=>trivial,?_⟩
  rw[Jd hk (aj hv).1 (aj hv).2,r1,Oper.uponIn_value]
  exact hK cv w' _ r2 (.inr ⟨id,l,f,p,hmd,rfl⟩) (by rw[hxv];exact r3)
structure Kw (P:Program) (n:Nat) (ops:Array Oper) (plan:List DV) (Z0:Zt) (σ0:Sg) (m:Nat) (e0:Env) (listed:Array Bool) (Z:Zt) (σ:Sg) (a:Act) (w:World)
  (U:List VN) (rest:List DV) (e:Env) (H:AH) (pend:E4):Prop where
 hZ:CR Z0 Z
 hS:Nw σ0 m σ
 hm:m<=H.next
 hW:WR Z σ H w
 fr:FR Z σ n (FK U e0 e) a
 lsz:listed.size=ops.size
 mem:∀i,i<ops.size->(listed.getD i true=false↔i∈(U.map (·.it)++rest).map (·.i))
 sub:(U.map (·.it)++rest).Sublist plan
 pre:∀j x,j<ops.size->listed.getD j true=true->(RQ plan j).testBit x=true->listed.getD x false=true
 eB:∀y∈rest,∀t,y.o.dst=some t->e t=e0 t
 eE:∀t,(∀y∈plan,y.o.dst≠some t)->e t=e0 t
 eA:∀x∈U,∀t∈x.it.o.tmps,(∃x'∈U,x'.it.o.dst=some t/\x'.it.pre.testBit x.it.i=true/\x.ee t=e0 t)\/(x.ee t=e t/\∀x'∈U,x'.it.o.dst=some t->x.it.pre.testBit x'.it.i=true)
 eD:∀x∈U,∀t,x.it.o.dst=some t->e t=x.v
 capH:∀x∈U,It x H
 capS:∀x∈U,OL m x H σ
 ids:U.Pairwise (fun x y=>∀i l f j l' f',x.md=.new i l f->y.md=.new j l' f'->i≠j)
 pnd:∀x∈U,x.it.o.k.MS=false->x.md.mem=false
 pnd':∀x∈U,x.md.mem=false\/∃p,pend.lookup x.it.i=some p/\∀H',p H'->It x H'
 neff:∀x∈U,x.it.eff=false
end
end
section
theorem Env.put_eq {e:Env}{d:Option Nat}{t:Nat}{v:AV}(h:d=some t):e.put d v t=v:=by subst h;simp[Env.put]
theorem Env.B4 {e:Env}{d:Option Nat}{t:Nat}{v:AV}(h:d≠some t):e.put d v t=e t:=by
 cases d with
 | none=>rfl
 | some d=>simp only[Env.put];exact Env.G1 _ _ (fun e=>h (by rw[e]))
theorem IS {l:Array Bool}{x:Nat}(h:l.getD x false=true) (h':l.getD x true=false):False:=by
 rw[Ed]at h h'
 cases hh:l[x]? with
 | none=>rw[hh]at h;simp at h
 | some b=>rw[hh]at h h';simp at h h';rw[h]at h';cases h'
theorem fO {l:Array Bool}{x:Nat}(h:l.getD x false=true):x<l.size:=by
 rw[Ed]at h
 cases hh:l[x]? with
 | none=>rw[hh]at h;simp at h
 | some b=>exact(Al.1 hh).1
theorem Rp {l:Array Bool}{x:Nat}(hx:x<l.size):l.getD x true=l.getD x false:=by
 simp[Ed,hx]
section
variable {P:Program}{n:Nat}{ops:Array Oper}{plan:List DV}{Z0:Zt}{σ0:Sg}{m:Nat}{e0:Env}{listed:Array Bool}{Z:Zt}{σ:Sg}{a:Act}{w:World}
 {U:List VN} {rest:List DV} {e:Env} {H:AH} {pend:E4}
theorem Kw.pw (hP:GR P n ops plan) (S:Kw P n ops plan Z0 σ0 m e0 listed Z σ a w U rest e H pend):(U.map (·.it)++rest).Pairwise (Kx ops):=hP.pair.sublist S.sub
theorem Kw.iS (S:Kw P n ops plan Z0 σ0 m e0 listed Z σ a w U rest e H pend){x:VN}(hx:x∈U):x.it∈plan:=S.sub.mem (Cz _ (E8 hx))
theorem Kw.ie (S:Kw P n ops plan Z0 σ0 m e0 listed Z σ a w U rest e H pend){y:DV}(hy:y∈rest):y∈plan:=S.sub.mem (CL _ hy)
theorem Kw.ur (hP:GR P n ops plan) (S:Kw P n ops plan Z0 σ0 m e0 listed Z σ a w U rest e H pend){x:VN}(hx:x∈U){y:DV}(hy:y∈rest):Kx ops x.it y:=
 (Gd.1 (S.pw hP)).2.2 _ (E8 hx) _ hy
theorem Kw.pass {it:DV}(hP:GR P n ops plan) (S:Kw P n ops plan Z0 σ0 m e0 listed Z σ a w U (it::rest) e H pend) (heff:it.eff=false){v:AV}{md:ou}{H':AH}{pend':E4}
  (hc:It ⟨it,e,v,md⟩ H') (hs:OL m ⟨it,e,v,md⟩ H' σ) (hW':WR Z σ H' w) (hnx:H.next<=H'.next) (hold:∀y∈U,It y H->It y H')
  (hid:∀i l f,md=.new i l f->i=H.next) (hmem:it.o.k.MS=false->md.mem=false)
  (hp':md.mem=false\/∃p,pend'.lookup it.i=some p/\∀H',p H'->It ⟨it,e,v,md⟩ H')
  (hpo:∀i,i≠it.i->pend'.lookup i=pend.lookup i):Kw P n ops plan Z0 σ0 m e0 listed Z σ a w (U++[⟨it,e,v,md⟩]) rest (e.put it.o.dst v) H' pend':=by
 have hu:∀x∈U,Kx ops x.it it:=fun x hx=>S.ur hP hx (Be ..)
 have hr:∀y∈rest,Kx ops it y:=fun y hy=>by
  have:=(Gd.1 (S.pw hP)).2.1
  exact(IZ.1 this).1 y hy
 have hown:=hP.own it (S.ie (Be ..))
 have hm0:∀t,it.o.dst=some t->e t=e0 t:=S.eB it (Be ..)
 have hassoc:(U++[(⟨it,e,v,md⟩:VN)]).map (·.it)++rest=U.map (·.it)++it::rest:=by simp
 have hmask:FK (U++[⟨it,e,v,md⟩]) e0 (e.put it.o.dst v)=FK U e0 e:=by
  funext t
  by_cases h1:∃x∈U,x.it.o.dst=some t
  ·obtain⟨x,hx,hd⟩:=h1
   rw[GG (Cz _ hx) hd,GG hx hd]
  ·have h1':∀x∈U,x.it.o.dst≠some t:=fun x hx hd=>h1 ⟨x,hx,hd⟩
   rw[Cf h1']
   by_cases h2:it.o.dst=some t
   ·rw[GG (x:=⟨it,e,v,md⟩) (by simp) h2,hm0 t h2]
   ·rw[Cf,Env.B4 h2]
    intro x hx
    rcases BW.1 hx with hx | hx
    ·exact h1' x hx
    ·simp only[CM]at hx;subst hx;exact h2
 refine⟨S.hZ,S.hS,Cs S.hm hnx,hW',by rw[hmask];exact S.fr,S.lsz,by rw[hassoc];exact S.mem,by rw[hassoc];exact S.sub,S.pre,fun y hy t ht=>?_,fun t ht=>?_,fun x hx t ht=>?_,fun x hx t ht=>?_,fun x hx=>?_,fun x hx=>?_,?_,fun x hx hxm=>?_,fun x hx=>?_,fun x hx=>?_⟩
 ·rw[Env.B4 ((hr y hy).dst t ht)];exact S.eB y (Ct _ hy) t ht
 ·rw[Env.B4 (ht it (S.ie (Be ..)))];exact S.eE t ht
 ·rcases BW.1 hx with hx | hx
  ·by_cases hd:it.o.dst=some t
   ·left
    refine⟨⟨it,e,v,md⟩,by simp,hd,(hu x hx).r1 t hd ht,?_⟩
    rcases S.eA x hx t ht with⟨x',hx',h1,_,_⟩ | ⟨h1,_⟩
    ·exact absurd h1 ((hu x' hx').dst t hd)
    ·rw[h1,hm0 t hd]
   ·rcases S.eA x hx t ht with⟨x',hx',h1,h2,h3⟩ | ⟨h1,h2⟩
    ·exact .inl ⟨x',Cz _ hx',h1,h2,h3⟩
    ·refine .inr ⟨by rw[Env.B4 hd];exact h1,fun x' hx' hd'=>?_⟩
     rcases BW.1 hx' with hx' | hx'
     ·exact h2 x' hx' hd'
     ·simp only[CM]at hx';subst hx';exact absurd hd' hd
  ·simp only[CM]at hx;subst hx
   have hd:it.o.dst≠some t:=fun hd=>hown.own t hd ht
   refine .inr ⟨by rw[Env.B4 hd],fun x' hx' hd'=>?_⟩
   rcases BW.1 hx' with hx' | hx'
   ·exact(hu x' hx').r2 t hd' ht
   ·simp only[CM]at hx';subst hx';exact absurd hd' hd
 ·rcases BW.1 hx with hx | hx
  ·have:it.o.dst≠some t:=fun h=>(hu x hx).dst t h ht
   rw[Env.B4 this];exact S.eD x hx t ht
  ·simp only[CM]at hx;subst hx
   exact Env.put_eq ht
 ·rcases BW.1 hx with hx | hx
  ·exact hold x hx (S.capH x hx)
  ·simp only[CM]at hx;subst hx;exact hc
 ·rcases BW.1 hx with hx | hx
  ·have:=S.capS x hx
   unfold OL at this ⊢
   split at this
   ·exact this
   ·exact this
   ·exact this
   ·obtain⟨h1,h2,h3,h4,h5,h6⟩:=this;exact⟨h1,h2,h3,h4,h5,by omega⟩
  ·simp only[CM]at hx;subst hx;exact hs
 ·refine Gd.2 ⟨S.ids,by simp,fun x hx y hy i l f j l' f' h1 h2=>?_⟩
  simp only[CM]at hy;subst hy
  have:=S.capS x hx
  unfold OL at this
  rw[h1]at this
  have hj:=hid _ _ _ h2
  have:=this.2.2.2.2.2
  omega
 ·rcases BW.1 hx with hx | hx
  ·exact S.pnd x hx hxm
  ·simp only[CM]at hx;subst hx;exact hmem hxm
 ·rcases BW.1 hx with hx | hx
  ·rcases S.pnd' x hx with h | ⟨p,h1,h2⟩
   ·exact .inl h
   ·exact .inr ⟨p,by rw[hpo _ (hu x hx).ne];exact h1,h2⟩
  ·simp only[CM]at hx;subst hx;exact hp'
 ·rcases BW.1 hx with hx | hx
  ·exact S.neff x hx
  ·simp only[CM]at hx;subst hx;exact heff
theorem Kw.ready (hP:GR P n ops plan) (S:Kw P n ops plan Z0 σ0 m e0 listed Z σ a w U rest e H pend){b:DV}(hb:b∈plan) (hr:b.i∈Region.ready .any ops listed) :
  listed.getD b.i true=false/\(∀p∈LV ops b.i,listed.getD p false=true)/\∀x,b.pre.testBit x=true->listed.getD x false=true:=by
 obtain⟨h0,o,ho,hall⟩:=mem_ready.1 hr
 have hd:∀p∈LV ops b.i,listed.getD p false=true:=by
  intro p hp
  simp only[LV,ho,Bt,Ti,Array.mem_toList_iff]at hp
  obtain⟨e,⟨he,hbd⟩,rfl⟩:=hp
  exact hall e he hbd
 refine⟨h0,hd,fun x hx=>?_⟩
 rw[(hP.own b hb).pre]at hx
 obtain⟨p,hp,h⟩:=MB hx
 rcases h with rfl | h
 ·exact hd _ hp
 ·have hl:=hd p hp
  have hlt:p<listed.size:=fO hl
  exact S.pre p x (by rw[<- S.lsz];exact hlt) (by rw[Rp hlt];exact hl) h
theorem Kw.ma (hP:GR P n ops plan) (S:Kw P n ops plan Z0 σ0 m e0 listed Z σ a w U rest e H pend){b:DV}(hb:b∈plan) (hr:b.i∈Region.ready .any ops listed) :
  ∀j x,j<ops.size->(listed.setIfInBounds b.i true).getD j true=true->(RQ plan j).testBit x=true->(listed.setIfInBounds b.i true).getD x false=true:=by
 intro j x hj hl hx
 by_cases hjb:b.i=j
 ·subst hjb
  rw[hP.aK hb]at hx
  exact getD_set_true ((S.ready hP hb hr).2.2 x hx)
 ·rw[getD_set_ne true hjb]at hl
  exact getD_set_true (S.pre j x hj hl hx)
theorem Kw.lK (hP:GR P n ops plan) (S:Kw P n ops plan Z0 σ0 m e0 listed Z σ a w U rest e H pend){b:DV}(hb:b∈U.map (·.it)++rest):listed.getD b.i true=false:=
 (S.mem b.i (hP.own b (S.sub.mem hb)).lt).2 (E8 hb)
theorem T2 {l:Array Bool}{i:Nat}(h:i<l.size):(l.setIfInBounds i true).getD i true=true:=by simp[h]
theorem Kw.effect {it:DV}(hP:GR P n ops plan) (hn:n<=AN) (S:Kw P n ops plan Z0 σ0 m e0 listed Z σ a w U (it::rest) e H pend) (heff:it.eff=true) (hr:it.i∈Region.ready .any ops listed)
  {v:AV} {cv:Value} {Z':Zt} {σ':Sg} {H':AH} {w':World} (hZ:CR Z0 Z') (hS:Nw σ0 m σ') (hσ:∀r,r<H.next->σ' r=σ r) (hnx:H.next<=H'.next) (hW:WR Z' σ' H' w')
  (hfr:FR Z' σ' n (FK U e0 e) a) (hv:VR Z' σ' v cv) (hchk:∀x∈U,x.it.o.k.MS=true->x.it.i∈it.fl->It x H') (hdn:∀t,it.o.dst=some t->t<n) :
  Kw P n ops plan Z0 σ0 m e0 (listed.setIfInBounds it.i true) Z' σ' (a.put it.o.dst cv) w' U rest (e.put it.o.dst v) H' pend:=by
 have hit:=S.ie (Be ..)
 obtain⟨r1,r2,r3⟩:=S.ready hP hit hr
 have hu:∀x∈U,Kx ops x.it it:=fun x hx=>S.ur hP hx (Be ..)
 have hnot:∀x∈U,it.pre.testBit x.it.i=true->False:=fun x hx h=>IS (r3 _ h) (S.lK hP (Cz _ (E8 hx)))
 have hrr:∀y∈rest,Kx ops it y:=fun y hy=>by
  have:=(Gd.1 (S.pw hP)).2.1
  exact(IZ.1 this).1 y hy
 have hmask:FK U e0 (e.put it.o.dst v)=(FK U e0 e).put it.o.dst v:=by
  funext t
  by_cases h2:it.o.dst=some t
  ·rw[Env.put_eq h2,Cf (fun x hx=>(hu x hx).dst t h2),Env.put_eq h2]
  ·rw[Env.B4 h2]
   by_cases h1:∃x∈U,x.it.o.dst=some t
   ·obtain⟨x,hx,hd⟩:=h1
    rw[GG hx hd,GG hx hd]
   ·have h1':∀x∈U,x.it.o.dst≠some t:=fun x hx hd=>h1 ⟨x,hx,hd⟩
    rw[Cf h1',Cf h1',Env.B4 h2]
 have hlt:it.i<listed.size:=by rw[S.lsz];exact(hP.own it hit).lt
 have hnd:∀b∈U.map (·.it)++rest,b.i≠it.i:=by
  intro b hb
  rcases BW.1 hb with hb | hb
  ·obtain⟨x,hx,rfl⟩:=Bt.1 hb;exact(hu x hx).ne
  ·exact((hrr b hb).ne).symm
 refine⟨hZ,hS,Cs S.hm hnx,hW,?_,by simp[S.lsz],fun i hi=>?_,((FD _).append (JV _ _)).trans S.sub,S.ma hP hit hr,fun y hy t ht=>?_,fun t ht=>?_,fun x hx t ht=>?_,fun x hx t ht=>?_,fun x hx=>?_,fun x hx=>?_,S.ids,S.pnd,S.pnd',S.neff⟩
 ·rw[hmask];exact hfr.put hn hdn hv
 ·by_cases hie:it.i=i
  ·subst hie
   rw[T2 hlt]
   simp only[Bool.true_eq_false,false_iff]
   intro hm
   obtain⟨b,hb,hbi⟩:=Bt.1 hm
   exact hnd b hb hbi
  ·rw[getD_set_ne true hie,S.mem i hi]
   simp only[Fc,B6,BW,DM]
   constructor
   ·rintro(h | h | h)
    ·exact .inl h
    ·exact absurd h.symm hie
    ·exact .inr h
   ·rintro(h | h)
    ·exact .inl h
    ·exact .inr (.inr h)
 ·rw[Env.B4 ((hrr y hy).dst t ht)];exact S.eB y (Ct _ hy) t ht
 ·rw[Env.B4 (ht it hit)];exact S.eE t ht
 ·have hd:it.o.dst≠some t:=fun hd=>hnot x hx ((hu x hx).r1 t hd ht)
  rw[Env.B4 hd];exact S.eA x hx t ht
 ·have:it.o.dst≠some t:=fun h=>(hu x hx).dst t h ht
  rw[Env.B4 this];exact S.eD x hx t ht
 ·have h0:=S.capH x hx
  by_cases hm:x.it.o.k.MS=true
  ·rcases(hu x hx).fl heff (S.neff x hx) hm with h | h
   ·exact(hnot x hx h).elim
   ·exact hchk x hx hm h
  ·have:=S.pnd x hx (by simpa using hm)
   unfold It
   cases hmd:x.md<;>rw[hmd]at this<;>first | trivial | cases this
 ·have:=S.capS x hx
  unfold OL at this ⊢
  split at this
  ·exact this
  ·exact this
  ·exact this
  ·obtain⟨h1,h2,h3,h4,h5,h6⟩:=this;exact⟨h1,h2,h3,by rw[hσ _ h6];exact h4,h5,by omega⟩
end
end
section
section
variable {P:Program}{n:Nat}{ops:Array Oper}{plan:List DV}{Z0:Zt}{σ0:Sg}{m:Nat}{e0:Env}{listed:Array Bool}{Z:Zt}{σ:Sg}{a:Act}{w:World}
 {U:List VN} {rest:List DV} {e:Env} {H:AH} {pend:E4}
theorem Kw.done {U1 U2:List VN}{x:VN}(hP:GR P n ops plan) (hn:n<=AN) (S:Kw P n ops plan Z0 σ0 m e0 listed Z σ a w (U1++x::U2) rest e H pend) (hr:x.it.i∈Region.ready .any ops listed)
  {cv:Value} {σ':Sg} {w':World} (hW:WR Z σ' H w') (hσ:σ'=σ\/∃id l f p,x.md=.new id l f/\σ'=σ.add id p) (hv:VR Z σ' x.v cv) (hdn:∀t,x.it.o.dst=some t->t<n) :
  Kw P n ops plan Z0 σ0 m e0 (listed.setIfInBounds x.it.i true) Z σ' (a.put x.it.o.dst cv) w' (U1++U2) rest e H pend:=by
 have hxU:x∈U1++x::U2:=by simp
 have hin:∀y∈U1++U2,y∈U1++x::U2:=fun y hy=>by
  rcases BW.1 hy with h | h
  ·exact Cz _ h
  ·exact CL _ (Ct _ h)
 have hit:=S.iS hxU
 obtain⟨r1,r2,r3⟩:=S.ready hP hit hr
 have hpw:=S.pw hP
 have hpu:((U1++x::U2).map (·.it)).Pairwise (Kx ops):=(Gd.1 hpw).1
 have hne:∀y∈U1++U2,y.it.i≠x.it.i/\∀t,y.it.o.dst=some t->x.it.o.dst≠some t:=by
  intro y hy
  rw[Fc,B6]at hpu
  obtain⟨_,h2,h3⟩:=Gd.1 hpu
  rcases BW.1 hy with h | h
  ·have:=h3 y.it (E8 h) x.it (Be ..)
   exact⟨this.ne,fun t ht hx=>this.dst t hx ht⟩
  ·have:=(IZ.1 h2).1 y.it (E8 h)
   exact⟨this.ne.symm,fun t ht hx=>this.dst t ht hx⟩
 have hner:∀y∈rest,y.i≠x.it.i:=fun y hy=>(S.ur hP hxU hy).ne.symm
 have hSle:Le σ σ':=by
  rcases hσ with rfl | ⟨id,l,f,p,hmd,rfl⟩
  ·exact Le.refl _
  ·have:=S.capS x hxU
   unfold OL at this
   rw[hmd]at this
   exact Sg.GX this.2.2.2.1
 have hNw:Nw σ0 m σ':=by
  rcases hσ with rfl | ⟨id,l,f,p,hmd,rfl⟩
  ·exact S.hS
  ·have:=S.capS x hxU
   unfold OL at this
   rw[hmd]at this
   exact S.hS.trans (Nw.tU σ p this.2.2.2.2.1) (A5 _)
 have hmask:FK (U1++U2) e0 e=(FK (U1++x::U2) e0 e).put x.it.o.dst x.v:=by
  funext t
  by_cases h2:x.it.o.dst=some t
  ·rw[Env.put_eq h2,Cf (fun y hy h=>(hne y hy).2 t h h2)]
   exact S.eD x hxU t h2
  ·rw[Env.B4 h2]
   by_cases h1:∃y∈U1++U2,y.it.o.dst=some t
   ·obtain⟨y,hy,hd⟩:=h1
    rw[GG hy hd,GG (hin y hy) hd]
   ·have h1':∀y∈U1++U2,y.it.o.dst≠some t:=fun y hy hd=>h1 ⟨y,hy,hd⟩
    rw[Cf h1',Cf]
    intro y hy hd
    rcases BW.1 hy with h | h
    ·exact h1' y (Cz _ h) hd
    ·cases h with
     | head=>exact h2 hd
     | tail _ h=>exact h1' y (CL _ h) hd
 have hlt:x.it.i<listed.size:=by rw[S.lsz];exact(hP.own _ hit).lt
 have hsub:((U1++U2).map (·.it)++rest).Sublist ((U1++x::U2).map (·.it)++rest):=by
  refine O_ ?_ (FD _)
  exact(O_ (FD U1) (JV x U2)).map _
 refine⟨S.hZ,hNw,S.hm,hW,?_,by simp[S.lsz],fun i hi=>?_,hsub.trans S.sub,S.ma hP hit hr,S.eB,S.eE,fun y hy t ht=>?_,fun y hy=>S.eD y (hin y hy),fun y hy=>S.capH y (hin y hy),fun y hy=>?_,?_,
  fun y hy=>S.pnd y (hin y hy),fun y hy=>S.pnd' y (hin y hy),fun y hy=>S.neff y (hin y hy)⟩
 ·rw[hmask];exact(S.fr.mono (CR.refl _) hSle).put hn hdn hv
 ·by_cases hie:x.it.i=i
  ·subst hie
   rw[T2 hlt]
   simp only[Bool.true_eq_false,false_iff]
   intro hm
   obtain⟨b,hb,hbi⟩:=Bt.1 hm
   rcases BW.1 hb with hb | hb
   ·obtain⟨y,hy,rfl⟩:=Bt.1 hb;exact(hne y hy).1 hbi
   ·exact hner b hb hbi
  ·rw[getD_set_ne true hie,S.mem i hi]
   simp only[Fc,B6,BW,DM]
   constructor
   ·rintro((h | h | h) | h)
    ·exact .inl (.inl h)
    ·exact absurd h.symm hie
    ·exact .inl (.inr h)
    ·exact .inr h
   ·rintro((h | h) | h)
    ·exact .inl (.inl h)
    ·exact .inl (.inr (.inr h))
    ·exact .inr h
 ·rcases S.eA y (hin y hy) t ht with⟨x',hx',h1,h2,h3⟩ | ⟨h1,h2⟩
  ·left
   refine⟨x',?_,h1,h2,h3⟩
   rcases BW.1 hx' with h | h
   ·exact Cz _ h
   ·cases h with
    | head=>exact(IS (r3 _ h2) (S.lK hP (Cz _ (E8 (hin y hy))))).elim
    | tail _ h=>exact CL _ h
  ·exact .inr ⟨h1,fun x' hx'=>h2 x' (hin x' hx')⟩
 ·have:=S.capS y (hin y hy)
  unfold OL at this ⊢
  split at this
  ·exact this
  ·exact this
  ·exact this
  ·rename_i id l f hmd
   obtain⟨h1,h2,h3,h4,h5,h6⟩:=this
   refine⟨h1,h2,h3,?_,h5,h6⟩
   rcases hσ with rfl | ⟨id',l',f',p,hmd',rfl⟩
   ·exact h4
   ·have hid:id≠id':=by
     obtain⟨_,k2,k3⟩:=Gd.1 S.ids
     rcases BW.1 hy with h | h
     ·exact k3 y h x (Be ..) _ _ _ _ _ _ hmd hmd'
     ·exact((IZ.1 k2).1 y h _ _ _ _ _ _ hmd' hmd).symm
    simp only[Sg.add,hid,if_false];exact h4
 ·exact S.ids.sublist (O_ (FD U1) (JV x U2))
theorem ZC {k:AK}{v:AV}(h:AZ k e H=some v):k.MS=true:=by
 unfold AZ at h;split at h
 ·rfl
 ·rfl
 ·rfl
 ·rfl
 ·rfl
 ·rfl
 ·rfl
 ·cases h
theorem cx {k:AK}{c:List AV × (Nat->AV)}(h:FQ k e=some c):k.MS=true:=by
 unfold FQ at h;split at h<;>first | rfl | cases h
theorem SA {x:AV}{es:List (AV × AV × Nat)}{o:Cy}(htop:H.get H.next=none) (h:Qe x H=some es):Qe x (H.push o)=some es:=by
 unfold Qe at h ⊢
 split at h
 ·exact h
 ·rename_i r
  split at h<;>(try cases h;done)
  rename_i es' cl hl
  have hne:r≠H.next:=fun hh=>by subst hh;rw[htop]at hl;cases hl
  rw[AH.Ae _ _ hne,hl];exact h
 ·cases h
theorem Q4 {z m:Nat}{xs:List AV}{x:AV}{o:Cy}(htop:H.get H.next=none) (hx:Aj z x H=some (m,xs)):Aj z x (H.push o)=some (m,xs):=by
 unfold Aj at hx ⊢
 split at hx
 ·exact hx
 ·exact hx
 ·rename_i r off n lim
  split at hx<;>(try cases hx;done)
  rename_i l hl
  have hne:r≠H.next:=fun hh=>by subst hh;unfold AH.cells? at hl;rw[htop]at hl;cases hl
  have:(H.push o).cells? r=some l:=by unfold AH.cells? at hl ⊢;rw[AH.Ae _ _ hne];exact hl
  rw[this];exact hx
 ·cases hx
theorem SE {x:AV}{l:List UInt8}{o:Cy}(htop:H.get H.next=none) (h:Wj x H=some l):Wj x (H.push o)=some l:=by
 unfold Wj at h ⊢
 split at h<;>(try cases h;done)
 rename_i m xs hx
 rw[Q4 htop hx];exact h
theorem VI {x v:AV}{o:Cy}(htop:H.get H.next=none) (h:La x H=some v):La x (H.push o)=some v:=by
 have hne:∀{r:Nat} {o:Cy},H.get r=some o->r≠H.next:=fun hr hh=>by subst hh;rw[htop]at hr;cases hr
 unfold La at h ⊢
 split at h<;>(try cases h;done)
 rename_i q
 split at h<;>(try cases h;done)
 rename_i r clock seen c hq
 simp only[AH.Ae _ _ (hne hq),hq]
 split at h<;>(try cases h;done)
 rename_i es clock' hr
 simp only[AH.Ae _ _ (hne hr),hr]
 exact h
theorem WY {k:AK}{v:AV}{o:Cy}(htop:H.get H.next=none) (h:AZ k e H=some v):AZ k e (H.push o)=some v:=by
 unfold AZ at h ⊢
 split at h
 ·unfold BC at h ⊢
  split at h
  ·rename_i r off hx
   split at h
   ·rename_i l hl
    have hne:r≠H.next:=fun hh=>by subst hh;unfold AH.cells? at hl;rw[htop]at hl;cases hl
    have:(H.push o).cells? r=some l:=by unfold AH.cells? at hl ⊢;rw[AH.Ae _ _ hne];exact hl
    rw[this];exact h
   ·cases h
  ·exact h
  ·cases h
 ·rename_i x0
  split at h<;>(try cases h;done)
  rename_i m xs hx
  have:Aj 1 (AF.ev e x0) (H.push o)=some (m,xs):=by
   unfold Aj at hx ⊢
   split at hx
   ·exact hx
   ·exact hx
   ·rename_i r off n lim hev
    split at hx<;>(try cases hx;done)
    rename_i l hl
    have hne:r≠H.next:=fun hh=>by subst hh;unfold AH.cells? at hl;rw[htop]at hl;cases hl
    have:(H.push o).cells? r=some l:=by unfold AH.cells? at hl ⊢;rw[AH.Ae _ _ hne];exact hl
    rw[this];exact hx
   ·cases hx
  rw[this];exact h
 ·rename_i ty z ok m0 k0
  have hames:∀es,Qe (AF.ev e m0) H=some es->Qe (AF.ev e m0) (H.push o)=some es:=fun es=>SA htop
  split at h<;>(try cases h;done)
  rename_i L es hL hes
  rw[hames es hes];simp only[hL];exact h
 ·rename_i m0
  split at h<;>(try cases h;done)
  rename_i es hes
  rw[SA htop hes];exact h
 ·rename_i c x y
  split at h<;>(try cases h;done)
  rename_i l hl
  rw[SE htop hl]
  cases c with
  | false=>exact h
  | true=>
   simp only[X2,AO]at h ⊢
   obtain⟨m,hm,he⟩:=h
   exact⟨m,SE htop hm,he⟩
 ·exact VI htop h
 ·exact h
 ·cases h
theorem Rb {α:Type}{i:Nat}{p:α}{l:List (Nat × α)}:((i,p)::l).lookup i=some p:=by simp[List.lookup]
theorem Ra {α:Type}{i j:Nat}{p:α}{l:List (Nat × α)}(h:j≠i):((i,p)::l).lookup j=l.lookup j:=by
 have:(j==i)=false:=by simpa using h
 simp[List.lookup,this]
theorem Kw.advance [YC] (hP:GR P n ops plan){ep:Env}{K:Env->AH->Prop}{Kp:AV->Env->AH->Prop}:∀(rest:List DV) (U:List VN) (e:Env) (H:AH) (pend:E4),
  Kw P n ops plan Z0 σ0 m e0 listed Z σ a w U rest e H pend->A0 P ep K Kp rest e H pend ->
  ∃U' rest' e' H' pend',U'.length+rest'.length=U.length+rest.length/\Kw P n ops plan Z0 σ0 m e0 listed Z σ a w U' rest' e' H' pend'/\A0 P ep K Kp rest' e' H' pend' /\
   (rest'=[]\/∃it l,rest'=it::l/\it.eff=true):=by
 intro rest
 induction rest with
 | nil=>intro U e H pend S h;exact⟨U,[],e,H,pend,rfl,S,h,.inl rfl⟩
 | cons it l ih=>
  intro U e H pend S h
  by_cases heff:it.eff=true
  ·exact⟨U,it::l,e,H,pend,rfl,S,h,.inr ⟨it,l,rfl,heff⟩⟩
  ·have heff':it.eff=false:=by simpa using heff
   have same:∀{v:AV} {md:ou},md.mem=false->OL m ⟨it,e,v,md⟩ H σ->A0 P ep K Kp l (e.put it.o.dst v) H pend ->
     ∃U' rest' e' H' pend',U'.length+rest'.length=U.length+(it::l).length/\Kw P n ops plan Z0 σ0 m e0 listed Z σ a w U' rest' e' H' pend'/\A0 P ep K Kp rest' e' H' pend' /\
      (rest'=[]\/∃it l,rest'=it::l/\it.eff=true):=by
    intro v md hmd hs h
    have hc:It ⟨it,e,v,md⟩ H:=by
     unfold It;cases md<;>first | trivial | cases hmd
    obtain⟨U',rest',e',H',pend',g1,g2⟩:=ih _ _ _ _ (S.pass hP heff' (md:=md) hc hs S.hW (A5 _) (fun _ _ h=>h) (fun i l f hh=>by subst hh;cases hmd) (fun _=>hmd) (.inl hmd) (fun _ _=>rfl)) h
    exact⟨U',rest',e',H',pend',by rw[g1];simp;omega,g2⟩
   have step:lS it.o e->(match AI it.o.k e with
    | some v=>A0 P ep K Kp l (e.put it.o.dst v) H pend
    | none=>match AZ it.o.k e H with
     | some v=>A0 P ep K Kp l (e.put it.o.dst v) H ((it.i,fun H'=>AZ it.o.k e H'=some v)::pend)
     | none=>match FQ it.o.k e with
      | some (c,f)=>A0 P ep K Kp l (e.put it.o.dst (f H.next)) (H.push (.cells c)) ((it.i,fun H'=>H'.get H.next=some (.cells c))::pend)
      | none=>False) ->
     ∃U' rest' e' H' pend',U'.length+rest'.length=U.length+(it::l).length/\Kw P n ops plan Z0 σ0 m e0 listed Z σ a w U' rest' e' H' pend'/\A0 P ep K Kp rest' e' H' pend' /\
      (rest'=[]\/∃it l,rest'=it::l/\it.eff=true):=by
    intro hw h
    split at h
    ·rename_i v hv
     exact same (md:=.pure) rfl ⟨hw,hv⟩ h
    ·rename_i hv0
     split at h
     ·rename_i v hv
      obtain⟨U',rest',e',H',pend',g1,g2⟩:=ih _ _ _ _ (S.pass hP heff' (v:=v) (md:=.read) (H':=H) (pend':=(it.i,fun H'=>AZ it.o.k e H'=some v)::pend)
       (by simpa only[It]using hv) ⟨hw,hv0⟩ S.hW (A5 _) (fun _ _ h=>h) (fun i l f hh=>by cases hh) (fun hm=>by rw[ZC hv]at hm;cases hm)
       (.inr ⟨_,Rb,fun H' h=>by simpa only[It]using h⟩) (fun i hi=>Ra hi)) h
      exact⟨U',rest',e',H',pend',by rw[g1];simp;omega,g2⟩
     ·split at h
      ·rename_i c f hv
       have htop:=S.hW.top H.next (A5 _)
       obtain⟨U',rest',e',H',pend',g1,g2⟩:=ih _ _ _ _ (S.pass hP heff' (v:=f H.next) (md:=.new H.next c f) (H':=H.push (.cells c)) (pend':=(it.i,fun H'=>H'.get H.next=some (.cells c))::pend)
        (by simp[It]) ⟨hw,hv,rfl,S.hW.fresh _ (A5 _),S.hm,by simp⟩ (S.hW.ghost _) (by simp)
        (fun y hy hc=>by
         have hs:=S.capS y hy
         unfold It at hc ⊢
         unfold OL at hs
         cases hmd:y.md<;>rw[hmd]at hc hs<;>first | trivial | skip
         ·exact WY htop hc
         ·simp only[]at hc hs ⊢
          rw[AH.Ae _ _ (by have:=hs.2.2.2.2.2;omega)];exact hc)
        (fun i l' f' hh=>by cases hh;rfl) (fun hm=>by rw[cx hv]at hm;cases hm)
        (.inr ⟨_,Rb,fun H' h=>by simpa only[It]using h⟩) (fun i hi=>Ra hi)) h
       exact⟨U',rest',e',H',pend',by rw[g1];simp;omega,g2⟩
      ·exact h.elim
   simp only[A0]at h
   split at h
   ·rename_i hg
    rw[heff']at h
    exact step (.inl hg) h
   ·rename_i s want hg
    split at h
    ·rename_i b hb
     rw[heff']at h
     by_cases hbw:b=some want
     ·subst hbw
      exact step (.inr ⟨s,want,hg,hb⟩) (h.1 rfl)
     ·exact same (md:=.skip) rfl ⟨rfl,s,want,b,hg,hb,hbw⟩ (h.2 hbw)
    ·exact h.elim
theorem cV {fl:List Nat}{ps:E4}(h:U9 fl ps H){i:Nat}(hi:i∈fl){p:AH->Prop}(hp:ps.lookup i=some p):p H:=by
 induction fl with
 | nil=>simp at hi
 | cons j js ih=>
  simp only[U9]at h
  cases hi with
  | head=>have:=h.1;rw[hp]at this;exact this
  | tail _ hi=>exact ih h.2 hi
theorem fj [YC] {o:Oper}{k:AK}(hk:Dr P o=some k) (hnd:k.B2=false){Z:Zt}{σ:Sg}{H:AH}{eS:Env}{a:Act}{w:World}(hW:WR Z σ H w) (he:ER Z σ eS a)
  {K Kp:AV->AH->Prop} (h:HN P k eS H K Kp) {next:Act->World->Prop} {Qc:Exit->Act->World->Prop}
  (hK:∀cv Z' σ' v H' w',CR Z Z'->Nw σ H.next σ'->H.next<=H'.next->WR Z' σ' H' w'->VR Z' σ' v cv->K v H'->next (a.put o.dst cv) w')
  (hQ:∀cv Z' σ' v H' w',CR Z Z'->Nw σ H.next σ'->H.next<=H'.next->WR Z' σ' H' w'->VR Z' σ' v cv->Kp v H'->Qc (.panic [{ v:=cv,recovered:=false }]) a w')
  {ro:Option Nat} {Z0:Zt} {σ0:Sg} {m:Nat} (hY:dA P Z0 σ0 m) (hZ:CR Z0 Z) (hS:Nw σ0 m σ) (hm:m<=H.next):o.wpIn (RF ro) 0 P a w next Qc:=by
 unfold Oper.wpIn
 refine⟨fun _ _=>trivial,?_⟩
 rw[Jd hk hnd (fun hp=>cu hp h)]
 have plain:(match A2 k eS H with | some (v,H')=>K v H' | none=>False)->o.uponIn (RF ro) 0 P a next Qc ((execOp a.eval o).run P w):=by
  intro h
  split at h
  ·rename_i v H' hone
   obtain⟨cv,w',σ',r1,r2,r3,r4⟩:=QX hk hW he hone
   have:=hK cv Z σ' v H' w' (CR.refl _) r2 (M_ hone) r3 r4 h
   rcases r1 with r1 | ⟨r1,rfl⟩
   ·rw[r1];exact this
   ·rw[r1];exact this
  ·exact h.elim
 cases k with
 | call f args=>
  rcases SD hk hW he h with⟨g,vs,r1,r2⟩ | ⟨l,vs,r1,r2,r3⟩
  ·rw[r1,Oper.uponIn_enter]
   refine⟨Hx,Iq (r2.mono fun x w' hx=>?_)⟩
   obtain⟨Z',σ',H',out,g1,g2,g3,g4,g5,g6⟩:=hx
   cases out with
   | ret v=>obtain⟨cv,rfl,hv⟩:=g5;exact hK cv Z' σ' v H' w' g1 g2 g3 g4 hv g6
   | Bi v=>obtain⟨cv,rfl,hv⟩:=g5;exact hQ cv Z' σ' v H' w' g1 g2 g3 g4 hv g6
  ·obtain⟨fn,tmps,zs,bd,y1,y2⟩:=hY _ _ _ _ r3 Z σ w vs hZ hS hm hW r2
   rw[r1,y1,Oper.uponIn_round]
   refine⟨Hx,PY (y2.mono fun x w' hx=>?_)⟩
   obtain⟨Z',σ',H',out,g1,g2,g3,g4,g5,g6⟩:=hx
   cases out with
   | ret v=>obtain⟨cv,rfl,hv⟩:=g5;exact hK cv Z' σ' v H' w' g1 g2 g3 g4 hv g6
   | Bi v=>obtain⟨cv,rfl,hv⟩:=g5;exact hQ cv Z' σ' v H' w' g1 g2 g3 g4 hv g6
 | panic x=>
  simp only[HN]at h
  split at h
  ·rename_i t v hx
   obtain⟨cv,r1,r2⟩:=QU (w:=w) hk he hx
   rw[r1,Oper.uponIn_panic]
   exact hQ cv Z σ _ H w (CR.refl _) (Nw.refl _ _) (A5 _) hW r2 h
  ·exact h.elim
 | defer f args=>cases hnd
 | recover=>exact h.elim
 | nextM x=>
  simp only[HN]at h
  split at h
  ·rename_i l hl
   obtain⟨y,ho,h1⟩:=C4 hk
   obtain⟨p,hp,cv,w',r1,r2,r3⟩:=Nr (P:=P) hW (AJ he h1) hl o.type
   have hr:(execOp a.eval o).run P w=.ok (.value cv) w':=by simp[execOp,ho,r1]
   rw[hr]
   exact hK cv Z σ p.1 p.2 w' (CR.refl _) (Nw.refl _ _) (Nat.le_of_eq (QY hl p hp).symm) r2 r3 (h p hp)
  ·exact h.elim
 | _=>exact plain h
theorem Xy {t:Nat}(h:∀y∈plan,y.o.dst≠some t):JD plan e0 t=e0 t:=by
 unfold JD;rw[if_neg];intro hh
 obtain⟨x,hx,he⟩:=Gj.1 hh
 exact h x hx (by simpa using he)
theorem Kw.clear (hP:GR P n ops plan) (hn:n<=AN) (S:Kw P n ops plan Z0 σ0 m e0 listed Z σ a w U rest e H pend):FR Z σ n (JD plan e0) a:=by
 have key:∀t,JD plan e0 t=.unk\/JD plan e0 t=FK U e0 e t:=by
  intro t
  by_cases h:∃y∈plan,y.o.dst=some t
  ·obtain⟨y,hy,hd⟩:=h
   left;unfold JD;rw[if_pos];exact List.any_eq_true.2 ⟨y,hy,by simp[hd]⟩
  ·have h':∀y∈plan,y.o.dst≠some t:=fun y hy hd=>h ⟨y,hy,hd⟩
   right
   rw[Xy h',Cf (fun x hx=>h' _ (S.iS hx)),S.eE t h']
 have hds:JD plan e0 AN=FK U e0 e AN:=by
  have h':∀y∈plan,y.o.dst≠some AN:=fun y hy hd=>by
   obtain⟨o,ho,hc⟩:=hP.op y hy
   obtain⟨_,h2,h3,_⟩:=CX hc
   exact absurd (h3 AN (by rw[<- h2];exact hd)) (Nat.not_lt.2 hn)
  rw[Xy h',Cf (fun x hx=>h' _ (S.iS hx)),S.eE _ h']
 refine⟨fun t ht=>?_,by rw[hds];exact S.fr.ds,S.fr.sz⟩
 rcases key t with h | h
 ·rw[h];exact .unk _
 ·rw[h];exact S.fr.er t ht
theorem aN [YC] {ro:Option Nat}(hY:dA P Z0 σ0 m){Q:Ex->Env->AH->Prop}(hP:GR P n ops plan) (hn:n<=AN):∀(fuel:Nat) (listed:Array Bool) (Z:Zt) (σ:Sg) (a:Act) (w:World) (U:List VN) (rest:List DV) (e:Env) (H:AH) (pend:E4),
  fuel=U.length+rest.length->Kw P n ops plan Z0 σ0 m e0 listed Z σ a w U rest e H pend ->
  A0 P (JD plan e0) (fun e' H'=>Q .normal e' H') (fun v e' H'=>Q (.Bi v) e' H') rest e H pend->wpAnyIn (RF ro) 0 P .any ops (QR Z0 σ0 n m Q) fuel listed a w:=by
 intro fuel
 induction fuel with
 | zero=>
  intro listed Z σ a w U rest e H pend hf S h
  have hU:U=[]:=B0 (by omega)
  have hR:rest=[]:=B0 (by omega)
  subst hU hR
  refine⟨?_,?_⟩
  ·cases hr:Region.ready .any ops listed with
   | nil=>rfl
   | cons j js=>
    have hj:j∈Region.ready .any ops listed:=by rw[hr];exact Be ..
    obtain⟨h0,o,ho,_⟩:=mem_ready.1 hj
    have:=(S.mem j (Al.1 ho).1).1 h0
    simp at this
  ·have:FK [] e0 e=e:=by funext t;exact Cf (by simp)
   have hfr:=S.fr
   rw[this]at hfr
   exact⟨Z,σ,.normal,e,H,S.hZ,S.hS,S.hm,S.hW,hfr,rfl,h⟩
 | succ fuel ih=>
  intro listed Z σ a w U0 rest0 e0' H0 pend0 hf0 S0 h0
  obtain⟨U,rest,e,H,pend,hlen,S,h,hfront⟩:=Kw.advance hP rest0 U0 e0' H0 pend0 S0 h0
  have hf:fuel+1=U.length+rest.length:=by omega
  refine⟨fun hnil=>?_,fun i hi=>?_⟩
  ·
   exfalso
   have hpw:=S.pw hP
   cases hl:U.map (·.it)++rest with
   | nil=>
    have:=congrArg List.length hl
    simp only[Aa,BR,Gv]at this
    omega
   | cons b bs=>
    rw[hl]at hpw
    have hb:b∈U.map (·.it)++rest:=by rw[hl];exact Be ..
    have hbp:=S.sub.mem hb
    have hown:=hP.own b hbp
    obtain⟨o,ho,_⟩:=hP.op b hbp
    have:b.i∈Region.ready .any ops listed:=by
     refine mem_ready.2 ⟨S.lK hP hb,o,ho,fun ed hed hbd=>?_⟩
     have hd:ed.on∈LV ops b.i:=by
      simp only[LV,ho,Bt,Ti,Array.mem_toList_iff]
      exact⟨ed,⟨hed,hbd⟩,rfl⟩
     cases hg:listed.getD ed.on false with
     | true=>rfl
     | false=>
      exfalso
      by_cases hlt:ed.on<ops.size
      ·have h1:listed.getD ed.on true=false:=by rw[Rp (by rw[S.lsz];exact hlt)];exact hg
       have h2:=(S.mem _ hlt).1 h1
       rw[hl]at h2
       obtain⟨c,hc,hci⟩:=Bt.1 h2
       cases hc with
       | head=>exact hown.dir (hci▸hd:b.i∈LV ops b.i)
       | tail _ hc=>exact((IZ.1 hpw).1 c hc).dir (by rw[hci];exact hd)
      ·exact hlt (hown.dlt _ hd)
    rw[hnil]at this
    cases this
  ·obtain⟨hi0,o',ho',_⟩:=mem_ready.1 hi
   have hmem:=(S.mem i (Al.1 ho').1).1 hi0
   obtain⟨b,hb,rfl⟩:=Bt.1 hmem
   have hbp:=S.sub.mem hb
   obtain⟨o,ho,hc⟩:=hP.op b hbp
   obtain⟨hk,hd,hdn,hg⟩:=CX hc
   have hdn':∀t,b.o.dst=some t->t<n:=fun t ht=>hdn t (by rw[<- hd];exact ht)
   rcases BW.1 hb with hbU | hbR
   ·obtain⟨x,hx,rfl⟩:=Bt.1 hbU
    obtain⟨U1,U2,rfl⟩:=List.append_of_mem hx
    have hag:∀t∈x.it.o.tmps,x.ee t=FK (U1++x::U2) e0 e t:=by
     intro t ht
     rcases S.eA x hx t ht with⟨x',hx',h1,h2,h3⟩ | ⟨h1,h2⟩
     ·rw[GG hx' h1,h3]
     ·rw[Cf,h1]
      intro x' hx' hd'
      have hpre:=h2 x' hx' hd'
      exact IS ((S.ready hP hbp hi).2.2 _ hpre) (S.lK hP (Cz _ (E8 hx')))
    refine fc ho hc hn S.hW S.fr hag (S.capH x hx) (S.capS x hx) fun cv w' σ' g1 g2 g3=>?_
    rw[<- hd]
    exact ih _ _ _ _ _ (U1++U2) rest e H pend (by simp at hf ⊢;omega) (S.done hP hn hi g1 g2 g3 hdn') h
   ·rcases hfront with rfl | ⟨it,l,rfl,heff⟩
    ·cases hbR
    ·have hbe:b=it:=by
      cases hbR with
      | head=>rfl
      | tail _ hbl=>
       have hpr:=(Gd.1 (S.pw hP)).2.1
       have:=((IZ.1 hpr).1 b hbl).eff heff
       exact(IS ((S.ready hP hbp hi).2.2 _ this) (S.lK hP (CL _ (Be ..)))).elim
     subst hbe
     have hnotU:∀x∈U,b.pre.testBit x.it.i=true->False:=fun x hx h=>IS ((S.ready hP hbp hi).2.2 _ h) (S.lK hP (Cz _ (E8 hx)))
     have hag:∀t∈b.o.tmps,e t=FK U e0 e t:=by
      intro t ht
      rw[Cf]
      intro x hx hd'
      exact hnotU x hx ((S.ur hP hx (Be ..)).r2 t hd' ht)
     have hagk:∀t∈b.o.k.tmps,e t=FK U e0 e t:=fun t ht=>hag t (Cz _ ht)
     have run:lS b.o e->HN P b.o.k e H (fun v H'=>U9 b.fl pend H'/\A0 P (JD plan e0) (fun e' H'=>Q .normal e' H') (fun v e' H'=>Q (.Bi v) e' H') l (e.put b.o.dst v) H' pend) (fun v H'=>Q (.Bi v) (JD plan e0) H') ->
       wpOpIn (RF ro) 0 P ops (QR Z0 σ0 n m Q) b.i (wpAnyIn (RF ro) 0 P .any ops (QR Z0 σ0 n m Q) fuel (listed.setIfInBounds b.i true)) a w:=by
      intro hw h
      unfold wpOpIn
      simp only[ho]
      rw[KS hc hn S.fr hag hw]
      simp only[if_true]
      refine fj hk (hP.own b hbp).nd S.hW S.fr.er ((M9 hagk).1 h) ?_ ?_ hY S.hZ S.hS S.hm
      ·intro cv Z' σ' v H' w' g1 g2 g3 g4 g5 ⟨g6,g7⟩
       rw[<- hd]
       refine ih _ Z' σ' _ w' U l (e.put b.o.dst v) H' pend (by simp at hf ⊢;omega) (S.effect hP hn heff hi (S.hZ.trans g1) (S.hS.trans g2 S.hm) g2 g3 g4 (S.fr.mono g1 (S.hW.sle g2)) g5 ?_ hdn') g7
       intro x hx hm hfl
       rcases S.pnd' x hx with hmm | ⟨p,h1,h2⟩
       ·unfold It;cases hmd:x.md<;>rw[hmd]at hmm<;>first | trivial | cases hmm
       ·exact h2 _ (cV g6 hfl h1)
      ·intro cv Z' σ' v H' w' g1 g2 g3 g4 g5 g6
       exact⟨Z',σ',.Bi v,JD plan e0,H',S.hZ.trans g1,S.hS.trans g2 S.hm,Cs S.hm g3,g4,(S.clear hP hn).mono g1 (S.hW.sle g2),⟨cv,rfl,g5⟩,g6⟩
     simp only[A0,heff,if_true]at h
     split at h
     ·rename_i hgd;exact run (.inl hgd) h
     ·rename_i s want hgd
      split at h
      ·rename_i bb hbb
       by_cases hbw:bb=some want
       ·subst hbw
        exact run (.inr ⟨s,want,hgd,hbb⟩) (h.1 rfl)
       ·unfold wpOpIn
        simp only[ho]
        rw[NJ hc hn S.fr hag hgd hbb hbw]
        simp only[E_,if_false]
        rw[<- hd]
        have h:=h.2 hbw
        refine⟨fun _ _=>trivial,?_⟩
        refine ih _ Z σ _ w U l (e.put b.o.dst Ad) H pend (by simp at hf ⊢;omega) (S.effect hP hn heff hi S.hZ S.hS (fun _ _=>rfl) (A5 _) S.hW S.fr WX ?_ hdn') h
        intro x hx _ _;exact S.capH x hx
      ·exact h.elim
theorem UB [YC] {ro:Option Nat}(hY:dA P Z0 σ0 m){Q:Ex->Env->AH->Prop}(hm:P.follows .mixedOrders=true) (hP:GR P n ops plan) (hlen:plan.length=ops.size) (hn:n<=AN){id:Nat}(hZ:CR Z0 Z) (hS:Nw σ0 m σ) (hmm:m<=H.next) (hW:WR Z σ H w) (he:FR Z σ n e a)
  (h:A0 P (JD plan e) (fun e' H'=>Q .normal e' H') (fun v e' H'=>Q (.Bi v) e' H') plan e H []):(Code.region id ops true).wpIn (RF ro) 0 P (QR Z0 σ0 n m Q) a w:=by
 refine wpIn_region_any hm (aN hY (e0:=e) hP hn ops.size _ Z σ a _ [] plan e H [] (by simp[hlen]) ?_ h)
 refine⟨hZ,hS,hmm,hW.congr rfl rfl rfl,?_,by simp,fun i hi=>?_,by simp,fun j x hj hl=>?_,fun _ _ _ _=>rfl,fun _ _=>rfl,by simp,by simp,by simp,by simp,.nil,by simp,by simp,by simp⟩
 ·have:FK [] e e=e:=by funext t;exact Cf (by simp)
  rw[this];exact he
 ·obtain⟨b,hb,hbi⟩:=hP.all i hi
  simp only[Lq,B7]
  constructor
  ·intro _;exact Bt.2 ⟨b,hb,hbi⟩
  ·intro _;simp[Ed,hi]
 ·simp[Ed,hj]at hl
end
end
section
def Zt.at (Z:Zt) (l:Nat) (o:Obj):Zt:={ Z with blk:=fun b=>if b=l then some o else Z b }
theorem Zt.FO (Z:Zt) (l:Nat) (o:Obj):Z.at l o l=some o:=by simp[Zt.at]
theorem Zt.GP (Z:Zt) {l b:Nat}(o:Obj) (h:b≠l):Z.at l o b=Z b:=by simp[Zt.at,h]
theorem Zt.ct {Z:Zt}{l:Nat}(o':Obj) (hl:∀x,Z l=some x->¬gW x):Zc Z (Z.at l o'):=fun b c e fr hb=>by
 rw[Zt.GP _ _ (fun h=>hl _ (by rw[<- h];exact hb) ⟨_,_,_,rfl⟩)];exact hb
theorem Zt.Rz {Z0 Z:Zt}{l:Nat}(o':Obj) (h:CR Z0 Z) (hl:Z0 l=none\/Z0 l=some o'):CR Z0 (Z.at l o'):=by
 refine⟨fun b o hb=>?_,h.os,h.out,h.QI,h.old⟩
 by_cases hbl:b=l
 ·subst hbl
  rw[Zt.FO]
  rcases hl with hl | hl<;>rw[hl]at hb
  ·cases hb
  ·exact hb
 ·rw[Zt.GP _ _ hbl];exact h.le b o hb
theorem Hj.at {Z:Zt}{l:Nat}{o:Obj}(h:Hj Z):Hj (Z.at l o):=fun b hb=>by
 obtain⟨x,hx⟩:=h b hb
 by_cases hbl:b=l
 ·subst hbl;exact⟨o,Zt.FO ..⟩
 ·exact⟨x,by rw[Zt.GP _ _ hbl];exact hx⟩
section
variable {Z:Zt}{σ:Sg}{H:AH}{W:World}{l:Nat}{o:Obj}
theorem Gq {r:Loop}:¬gW (.loop r):=fun⟨_,_,_,h⟩=>by cases h
theorem Pl {d:Option (List Deferred)}:¬gW (.deferred d):=fun⟨_,_,_,h⟩=>by cases h
theorem Is.Kf {Z':Zt}{w':World}(hc:Zc Z Z'){p:JA}{x:Cy}(hh:w'.heap[p.b]?=W.heap[p.b]?) (h:Is Z σ W p x):Is Z' σ w' p x:=by
 cases h with
 | cells hb hs hf hl hv h1=>exact .cells (by rw[hh];exact hb) hs hf hl (hv.FJ hc (fun _ _ h=>h)) h1
 | map hb hn he=>
  refine .map (by rw[hh];exact hb) hn fun i k x n hi=>?_
  obtain⟨m,h1,h2,h3,h4⟩:=he i k x n hi
  exact⟨m,h1,h2.FJ hc (fun _ _ h=>h),h3.FJ hc (fun _ _ h=>h),h4⟩
 | iter hb h0 hm hs hc=>exact .iter (by rw[hh];exact hb) h0 hm hs hc
theorem WR.Kf (hW:WR Z σ H W) (hl:Z l=some o) (ho:¬gW o) (o':Obj):WR (Z.at l o') σ H (W.putObj l o'):=by
 have hn:∀x,Z l=some x->¬gW x:=fun x hx=>by rw[hl]at hx;cases hx;exact ho
 have hlt:l<W.heap.size:=(Al.1 (hW.z _ _ hl)).1
 have hne:∀{r o1 p},H.get r=some o1->σ r=some p->p.b≠l:=fun h1 h2 h3=>by
  have:=(hW.h _ _ _ h1 h2).1
  rw[h3,hl]at this;cases this
 refine⟨fun b x hb=>?_,fun r x p h1 h2=>⟨?_,?_⟩,hW.inj,hW.fresh,hW.top,hW.rest.1,hW.rest.2.1,fun b x hb=>?_⟩
 ·by_cases hbl:b=l
  ·subst hbl
   rw[Zt.FO]at hb;cases hb
   exact World.putObj_heap_same hlt
  ·rw[Zt.GP _ _ hbl]at hb
   rw[World.putObj_heap_other hbl];exact hW.z b x hb
 ·rw[Zt.GP _ _ (hne h1 h2)];exact(hW.h r x p h1 h2).1
 ·exact((hW.h r x p h1 h2).2).Kf (Zt.ct o' hn) (World.putObj_heap_other (hne h1 h2))
 ·obtain⟨q1,q2⟩:=hW.rest.2.2 b x hb
  refine⟨?_,q2⟩
  rw[Zt.GP _ _ (fun h=>hn _ (by rw[<- h];exact q1) q2)];exact q1
theorem WR.lay (hW:WR Z σ H W) (o':Obj):WR (Z.at W.heap.size o') σ H (W.alloc o')/\CR Z (Z.at W.heap.size o'):=by
 have hz:Z W.heap.size=none:=by
  cases h:Z W.heap.size with
  | none=>rfl
  | some x=>have:=(Al.1 (hW.z _ _ h)).1;omega
 have hle:CR Z (Z.at W.heap.size o'):=Zt.Rz o' (CR.refl _) (.inl hz)
 have hh:∀k,k<W.heap.size->(W.alloc o').heap[k]?=W.heap[k]?:=fun k hk=>EW W o' hk
 refine⟨⟨fun b x hb=>?_,fun r x p h1 h2=>⟨?_,?_⟩,hW.inj,hW.fresh,hW.top,(hW.rest.le hle).to ⟨rfl,rfl⟩⟩,hle⟩
 ·by_cases hbl:b=W.heap.size
  ·subst hbl
   rw[Zt.FO]at hb;cases hb
   exact World.alloc_heap_new W _
  ·rw[Zt.GP _ _ hbl]at hb
   have:=hW.z b x hb
   rw[hh b (Al.1 this).1];exact this
 ·rw[Zt.GP _ _ (fun h=>by have:=(hW.h r x p h1 h2).2.lt;omega)];exact(hW.h r x p h1 h2).1
 ·exact((hW.h r x p h1 h2).2).mono hle (fun _ _ h=>h) (hh _ (hW.h r x p h1 h2).2.lt)
end
theorem DR.Kf {Z:Zt}{σ:Sg}{l:Nat}{r:Loop}(hl:Z l=some (.loop r)) (o':Obj){ds:List AV}{dd:List Deferred}(h:DR Z σ ds dd):DR (Z.at l o') σ ds dd:=by
 have hc:Zc Z (Z.at l o'):=Zt.ct o' fun x hx=>by rw[hl]at hx;cases hx;exact Gq
 induction h with
 | nil=>exact .nil
 | cons h _ ih=>exact .cons (h.FJ hc (fun _ _ h=>h)) ih
 | mark h h2 h3 _ ih=>exact .mark (by rw[Zt.GP _ _ (fun hb=>by rw[hb,hl]at h;cases h)];exact h) h2 h3 ih
theorem FR.Kf {Z:Zt}{σ:Sg}{n l:Nat}{r:Loop}(hl:Z l=some (.loop r)) (o':Obj){e:Env}{a:Act}(h:FR Z σ n e a):FR (Z.at l o') σ n e a:=
 ⟨fun t ht=>(h.er t ht).FJ (Zt.ct o' fun x hx=>by rw[hl]at hx;cases hx;exact Gq) (fun _ _ h=>h),let ⟨d,h1,h2⟩:=h.ds;⟨d,h1,h2.Kf hl o'⟩,h.sz⟩
def D6 (e:Env):List Nat->List AV->Env
 | p::ps,v::vs=>D6 (e.set p v) ps vs
 | _,_=>e
def So (e:Env) (ps:List Nat) (x:List AV):Env:=(D6 e ps x).set AN (.tup [])
theorem FR.D6 {Z:Zt}{σ:Sg}{n:Nat}(hn:n<=AN):∀(ps:List Nat) (x:List AV) (vs:List Value) (e:Env) (a:Act),x.length=ps.length->(∀p∈ps,p<n)->CE Z σ x vs->FR Z σ n e a ->
  FR Z σ n (D6 e ps x) { a with tmps:=(ps.zip vs).foldl (fun t (p,v)=>t.setIfInBounds p v) a.tmps }
 | [],[],_,e,a,_,_,hv,h=>by cases hv;exact h
 | p::ps,v::x,vs,e,a,hl,hp,hv,h=>by
  cases hv with
  | cons h1 h2=>
   exact FR.D6 hn ps x _ (e.set p v) (a.put (some p) _) (by simpa using hl) (fun q hq=>hp q (Ct _ hq)) h2 (h.put hn (d:=some p) (fun q hq=>by cases hq;exact hp p (Be ..)) h1)
theorem FR.zQ {Z:Zt}{σ:Sg}{n:Nat}(hn:n<=AN){ps:Array Tmp}{x:List AV}{vs:List Value}{e:Env}{a:Act}(hl:x.length=ps.size) (hp:∀p∈ps.toList,p<n) (hv:CE Z σ x vs) (h:FR Z σ n e a) :
  FR Z σ n (So e ps.toList x) { tmps:=(ps.zip vs.toArray).foldl (fun t (p,v)=>t.setIfInBounds p v) a.tmps,defers:=[] }:=by
 have h1:=FR.D6 hn ps.toList x vs e a (by simpa using hl) hp hv h
 have e1:(ps.zip vs.toArray).foldl (fun t (p,v)=>t.setIfInBounds p v) a.tmps=(ps.toList.zip vs).foldl (fun t (p,v)=>t.setIfInBounds p v) a.tmps:=by
  rw[<- Array.foldl_toList,Array.toList_zip]
 rw[e1]
 refine⟨fun t ht=>?_,⟨[],Env.GC ..,.nil⟩,h1.sz⟩
 unfold So
 rw[Env.G1 _ _ (by omega)]
 exact h1.er t ht
def zN (P:Program) (g:FuncId) (caps:List AV) (H:AH) (xs:List (List AV)):Prop:=
 Enters P g/\∀(Z:Zt) (σ:Sg) (w:World) (vc:List Value) (l:Nat) (I:Nat->AH->Prop),WR Z σ H w->CE Z σ caps vc->I 0 H ->
  (∀(i:Nat) (x:List AV) (Hi:AH),xs[i]?=some x->I i Hi->∀(Z':Zt) (σ':Sg) (W:World) (vs:List Value),CR Z Z'->Nw σ H.next σ'->H.next<=Hi.next->WR Z' σ' Hi W->CE Z' σ' x vs ->
   YieldAt Fence.wide 0 P l vs.toArray W fun y W'=>∃Z'' σ'' H'',CR Z' Z''/\Nw σ' Hi.next σ''/\Hi.next<=H''.next/\WR Z'' σ'' H'' W'/\y=.returned (.bool true)/\I (i+1) H'') ->
  Calls P g (#[.func (.yield l) #[] #[]]++vc.toArray) w fun y W=>∃v Z' σ' H',y=.returned v/\CR Z Z'/\Nw σ H.next σ'/\H.next<=H'.next/\WR Z' σ' H' W/\I xs.length H'
section
variable {P:Program}
theorem NL {n:Nat}(hn:n<=AN){ps:Array Tmp}(hps:∀p∈ps.toList,p<n) {zs bd:Code}{l:Nat}{fn:FuncId}{D:Nat}{a:Act}{e:Env}
  {Z:Zt} {σ:Sg} {Hi:AH} {W:World} {x:List AV} {vs:List Value} (hx:x.length=ps.size) (hW:WR Z σ Hi W) (hv:CE Z σ x vs) (he:FR Z σ n e a)
  (hl:Z l=some (.loop { state:=.ready,pending:=none,fn,tmps:=a.tmps,params:=ps,assign:=zs,body:=bd,defers:=D })) {Qa:Env->AH->Prop} {J:AH->Prop}
  (ha:∀a1,FR Z σ n (So e ps.toList x) a1->zs.wpIn (RF (some l)) 0 P (QR Z σ n Hi.next fun y e' H'=>y=.normal/\Qa e' H') a1 W)
  (hb:∀e' H' Z' σ' a1 w1,Qa e' H'->CR (Z.at l (.loop { state:=.busy,pending:=none,fn,tmps:=a.tmps,params:=ps,assign:=zs,body:=bd,defers:=D })) Z'->Nw σ Hi.next σ'->Hi.next<=H'.next->WR Z' σ' H' w1->FR Z' σ' n e' a1 ->
   bd.wpIn (RF (some l)) 0 P (QR Z' σ' n H'.next fun y _ H''=>y=.normal/\J H'') a1 w1) :
  YieldAt Fence.wide 0 P l vs.toArray W fun y W'=>∃Z'' σ'' H'',CR Z Z''/\Nw σ Hi.next σ''/\Hi.next<=H''.next/\WR Z'' σ'' H'' W'/\y=.returned (.bool true)/\J H'':=by
 have hlw:=hW.z _ _ hl
 have hvl:=hv.length
 refine⟨fn,_,zs,bd,run_yield hlw (by simp[<- hvl,hx]),roundIn_of_wpIn trivial ?_⟩
 refine wpIn_mono (ha _ (he.zQ hn hx hps hv)) ?_
 rintro y a1 w1 ⟨Z1,σ1,z,e1,H1,g1,g2,g3,g4,g5,g6,rfl,g7⟩
 cases g6
 have hl1:=g1.le _ _ hl
 have hlw1:=g4.z _ _ hl1
 refine⟨_,run_beginRound hlw1 rfl,?_⟩
 have hlt:=(Al.1 hlw1).1
 have hb1:=hb e1 H1 (Z1.at l (.loop { state:=.busy,pending:=none,fn,tmps:=a.tmps,params:=ps,assign:=zs,body:=bd,defers:=D })) σ1 a1 _ g7
  (by
   refine⟨fun b o hbo=>?_,g1.os,g1.out,g1.QI,g1.old⟩
   by_cases hbl:b=l
   ·subst hbl;rw[Zt.FO]at hbo ⊢;exact hbo
   ·rw[Zt.GP _ _ hbl]at hbo ⊢;exact g1.le b o hbo) g2 g3 (g4.Kf hl1 Gq _) (g5.Kf hl1 _)
 refine wpIn_mono hb1 ?_
 rintro y a2 w2 ⟨Z2,σ2,z,e2,H2,k1,k2,k3,k4,k5,k6,rfl,k8⟩
 cases k6
 have hl2:=k1.le _ _ (Zt.FO _ _ _)
 have hlw2:=k4.z _ _ hl2
 refine⟨_,_,run_endRound none hlw2,Z2.at l (.loop { state:=.ready,pending:=none,fn,tmps:=a.tmps,params:=ps,assign:=zs,body:=bd,defers:=D }),σ2,H2,?_,g2.trans k2 g3,Cs g3 k3,k4.Kf hl2 Gq _,rfl,k8⟩
 refine⟨fun b o hbo=>?_,k1.os.trans g1.os,k1.out.trans g1.out,k1.QI.trans g1.QI,k1.old.trans g1.old⟩
 by_cases hbl:b=l
 ·subst hbl;rw[hl]at hbo;rw[Zt.FO];exact hbo
 ·rw[Zt.GP _ _ hbl]
  refine k1.le b o ?_
  rw[Zt.GP _ _ hbl];exact g1.le b o hbo
theorem YP {n:Nat}(hn:n<=AN){g:Operand}{g':AF}(hg:A9 g=some g'){ps:Array Tmp}(hps:∀p∈ps.toList,p<n) {zs bd:Code}{Z:Zt}{σ:Sg}{H:AH}{e:Env}{a:Act}{w:World}{Z0:Zt}{σ0:Sg}{m:Nat}{Q:Ex->Env->AH->Prop}
  (hO:Hj Z0) (hZ:CR Z0 Z) (hS:Nw σ0 m σ) (hm:m<=H.next) (hW:WR Z σ H w) (he:FR Z σ n e a) {f:FuncId} {caps:List AV} {xs:List (List AV)} {ds:List AV} {I:Nat->AH->Prop}
  (h1:g'.ev e=.fn (.func f) [] caps) (h2:e AN=.tup ds) (h3:zN P f caps H xs) (h4:I 0 H)
  (h5:∀i x Hi,xs[i]?=some x->I i Hi->H.next<=Hi.next->x.length=ps.size/\∃Qa:Nat->Env->AH->Prop,
   (∀l Z' σ' a1 W,CR Z0 Z'->Nw σ0 m σ'->m<=Hi.next->WR Z' σ' Hi W->FR Z' σ' n (So e ps.toList x) a1->zs.wpIn (RF (some l)) 0 P (QR Z' σ' n Hi.next fun y e' H'=>y=.normal/\Qa l e' H') a1 W) /\
   (∀l e' H' Z' σ' a1 W,Qa l e' H'->CR Z0 Z'->Nw σ0 m σ'->m<=H'.next->WR Z' σ' H' W->FR Z' σ' n e' a1->bd.wpIn (RF (some l)) 0 P (QR Z' σ' n H'.next fun y _ H''=>y=.normal/\I (i+1) H'') a1 W))
  (h6:∀Hn,I xs.length Hn->Q .normal (e.set AN (.tup (.nili::ds))) Hn):(Code.rangeFunc g ps zs bd).wpIn (RF none) 0 P (QR Z0 σ0 n m Q) a w:=by
 have hfv:=AJ he.er hg
 rw[h1]at hfv
 obtain⟨vf,vc,e1,e2,e3⟩:=hfv.M0
 have e2:vf=#[]:=by
  generalize hl:vf.toList=l2 at e2
  cases e2;exact DI (by simpa using hl)
 subst e2
 refine wpIn_rangeFunc ?_
 intro fn _
 obtain⟨L1,z1⟩:=hW.lay (.deferred (some []))
 obtain⟨L2,z2⟩:=L1.lay (.loop { state:=.ready,pending:=none,fn,tmps:=a.tmps,params:=ps,assign:=zs,body:=bd,defers:=w.heap.size })
 have hsz:(w.alloc (.deferred (some []))).heap.size=w.heap.size+1:=World.size_alloc ..
 rw[hsz]at L2 z2
 generalize hrec:(.loop { state:=.ready,pending:=none,fn,tmps:=a.tmps,params:=ps,assign:=zs,body:=bd,defers:=w.heap.size }:Obj)=rec at L2 z2
 generalize hW1:(w.alloc (.deferred (some []))).alloc rec=W1 at L2
 refine⟨w.heap.size+1,[{ target:=.collected w.heap.size,args:=#[] }],W1,{ target:=.fn (.func f) vc,args:=#[.func (.yield (w.heap.size+1)) #[] #[]] },W1,f,#[.func (.yield (w.heap.size+1)) #[] #[]]++vc,W1,?_,?_,fun _ _=>trivial,?_,Hx,?_⟩
 ·rw[<- hW1,<- hrec];exact run_enterLoop_outer _ _ _ _ _
 ·simp only[resolve,e1]
  simp[go_sem]
 ·simp[invoke,go_sem,EJ h3.1]
 have zz:=z1.trans z2
 have hl0:((Z.at w.heap.size (.deferred (some []))).at (w.heap.size+1) rec) (w.heap.size+1)=some rec:=Zt.FO _ _ _
 have hd0:((Z.at w.heap.size (.deferred (some []))).at (w.heap.size+1) rec) w.heap.size=some (.deferred (some [])):=by
  rw[Zt.GP _ _ (by omega),Zt.FO]
 generalize hZ1:(Z.at w.heap.size (.deferred (some []))).at (w.heap.size+1) rec=Z1 at L2 zz hl0 hd0
 have hZ0l:Z0 (w.heap.size+1)=none:=by
  cases hq:Z0 (w.heap.size+1)with
  | none=>rfl
  | some x=>have:=(Al.1 (hW.z _ _ (hZ.le _ _ hq))).1;omega
 have hfr:=he.mono zz (fun _ _ h=>h)
 have key:=h3.2 Z1 σ W1 vc.toList (w.heap.size+1) I L2 (e3.mono zz (fun _ _ h=>h)) h4 ?_
 ·have ev:vc.toList.toArray=vc:=by simp
  rw[ev]at key
  refine Iq (key.mono ?_)
  rintro y W2 ⟨v,Z2,σ2,H2,rfl,k1,k2,k3,k4,k5⟩
  have hl2:=k1.le _ _ hl0
  have hlw:=k4.z _ _ hl2
  rw[<- hrec]at hlw hl2
  refine⟨none,_,run_endLoop hlw (by simp),?_⟩
  have t2:=k4.Kf hl2 Gq (.loop { state:=.exhausted,pending:=none,fn,tmps:=a.tmps,params:=ps,assign:=zs,body:=bd,defers:=w.heap.size })
  refine⟨_,σ2,.normal,e.set AN (.tup (.nili::ds)),H2,Zt.Rz _ (hZ.trans (zz.trans k1)) (.inl hZ0l),hS.trans k2 hm,Cs hm k3,t2,?_,rfl,h6 H2 k5⟩
  have f2:=(hfr.mono k1 (L2.sle k2)).Kf hl2 (.loop { state:=.exhausted,pending:=none,fn,tmps:=a.tmps,params:=ps,assign:=zs,body:=bd,defers:=w.heap.size })
  obtain⟨dl,d1,d2⟩:=f2.ds
  rw[h2]at d1
  simp only[AV.tup.injEq]at d1;subst d1
  refine⟨fun t ht=>?_,⟨_,Env.GC ..,?_⟩,f2.sz⟩
  ·rw[Env.G1 _ _ (by omega)];exact f2.er t ht
  ·refine .mark ?_ (fun ho=>?_) (fun d hd ht=>?_) d2
   ·rw[Zt.GP _ _ (by omega)]
    exact k1.le _ _ hd0
   ·have ho:Z2.old w.heap.size:=ho
    rw[k1.old,zz.old]at ho
    obtain⟨x,hx⟩:=(hO.le hZ) _ ho
    have:=(Al.1 (hW.z _ _ hx)).1
    omega
   ·obtain⟨dl0,q1,q2⟩:=he.ds
    have hx:=q2.marks d hd ht
    have:=(Al.1 (hW.z _ _ hx)).1
    omega
 ·intro i x Hi hx hI Z' σ' W vs q1 q2 q3 q4 q5
  obtain⟨r1,Qa,r2,r3⟩:=h5 i x Hi hx hI q3
  have hl':=q1.le _ _ hl0
  rw[<- hrec]at hl'
  have hZ0':CR Z0 Z':=hZ.trans (zz.trans q1)
  have hS0':Nw σ0 m σ':=hS.trans q2 hm
  have hm0:m<=Hi.next:=Cs hm q3
  exact NL hn hps r1 q4 q5 (hfr.mono q1 (L2.sle q2)) hl' (fun a1 f1=>r2 _ Z' σ' a1 W hZ0' hS0' hm0 q4 f1)
   (fun e' H' Z3 σ3 a1 w1 hh p1 p2 p3 p4 p5=>r3 _ e' H' Z3 σ3 a1 w1 hh ((Zt.Rz _ hZ0' (.inl hZ0l)).trans p1) (hS0'.trans p2 hm0) (Cs hm0 p3) p4 p5)
end
end
section
inductive Ax where
 | skip
 | reg (ops:List A_)
 | dreg (plan:List DV)
 | seq (a b:Ax)
 | cond (c:AF) (a b:Ax)
 | block (id:Nat) (a:Ax)
 | loop (a:Ax)
 | exit (id:Nat)
 | ret
 | rng (g:AF) (ps:List Nat) (zs bd:Ax)
def VS (e:Env) (H:AH) (e':Env) (H':AH):Prop:=∀(n:Nat) (Z:Zt) (σ:Sg) (w:World) (a:Act),WR Z σ H w->FR Z σ n e a ->
 ∃Z' σ',CR Z Z'/\Nw σ H.next σ'/\H.next<=H'.next/\WR Z' σ' H' w/\FR Z' σ' n e' a
theorem VS.refl (e:Env) (H:AH):VS e H e H:=fun _ Z σ _ _ h1 h2=>⟨Z,σ,CR.refl _,Nw.refl _ _,A5 _,h1,h2⟩
def VV (Q:Ex->Env->AH->Prop):Ex->Env->AH->Prop:=fun x e H=>match x with
 | .normal=>∃e'' H'',VS e H e'' H''/\Q .normal e'' H''
 | x=>Q x e H
theorem QR.vs {Z0:Zt}{σ0:Sg}{n m:Nat}{Q:Ex->Env->AH->Prop}{x:Exit}{a:Act}{w:World}(h:QR Z0 σ0 n m (VV Q) x a w):QR Z0 σ0 n m Q x a w:=by
 obtain⟨Z,σ,y,e,H,h1,h2,h3,h4,h5,h6,h7⟩:=h
 cases y with
 | normal=>
  obtain⟨e'',H'',g1,g2⟩:=h7
  obtain⟨Z',σ',k1,k2,k3,k4,k5⟩:=g1 n Z σ w a h4 h5
  exact⟨Z',σ',.normal,e'',H'',h1.trans k1,h2.trans k2 h3,Cs h3 k3,k4,k5,h6,g2⟩
 | exit i=>exact⟨Z,σ,.exit i,e,H,h1,h2,h3,h4,h5,h6,h7⟩
 | ret=>exact⟨Z,σ,.ret,e,H,h1,h2,h3,h4,h5,h6,h7⟩
 | Bi v=>exact⟨Z,σ,.Bi v,e,H,h1,h2,h3,h4,h5,h6,h7⟩
def Hz:Ax->Bool
 | .reg ops=>ops.all (fun o=>!o.k.B2)
 | .seq a b | .cond _ a b=>Hz a&&Hz b
 | .block _ a | .loop a=>Hz a
 | .rng _ _ _ _=>false
 | _=>true
def D [YC] (P:Program):Ax->(Ex->Env->AH->Prop)->Env->AH->Prop
 | .skip,Q,e,H=>Q .normal e H
 | .reg ops,Q,e,H=>CJ P ops e H (fun e' H'=>VV Q .normal e' H') (fun v e' H'=>Q (.Bi v) e' H')
 | .dreg plan,Q,e,H=>A0 P (JD plan e) (fun e' H'=>VV Q .normal e' H') (fun v e' H'=>Q (.Bi v) e' H') plan e H []
 | .seq a b,Q,e,H=>D P a (fun x e' H'=>match x with
  | .normal=>D P b Q e' H'
  | x=>Q x e' H') e H
 | .cond c a b,Q,e,H=>match c.ev e with
  | .bool t=>(t=true->D P a Q e H)/\(t=false->D P b Q e H)
  | _=>False
 | .block id a,Q,e,H=>D P a (fun x e' H'=>match x with
  | .exit i=>if i=id then Q .normal e' H' else Q (.exit i) e' H'
  | x=>Q x e' H') e H
 | .loop a,Q,e,H=>∃(I:Env->AH->Prop) (μ:Env->AH->Nat),I e H/\∀e H,I e H->D P a (fun x e' H'=>match x with
  | .normal=>I e' H'/\μ e' H'<μ e H
  | x=>Q x e' H') e H
 | .exit id,Q,e,H=>Q (.exit id) e H
 | .ret,Q,e,H=>Q .ret e H
 | .rng g ps zs bd,Q,e,H=>∃(f:FuncId) (caps:List AV) (xs:List (List AV)) (ds:List AV) (I:Nat->AH->Prop),g.ev e=.fn (.func f) [] caps/\e AN=.tup ds/\zN P f caps H xs/\I 0 H /\
   (∀i x Hi,xs[i]?=some x->I i Hi->H.next<=Hi.next->x.length=ps.length/\D P zs (fun y e' H'=>match y with
    | .normal=>D P bd (fun z _ H''=>z=.normal/\I (i+1) H'') e' H'
    | _=>False) (So e ps x) Hi) /\
   ∀Hn,I xs.length Hn->Q .normal (e.set AN (.tup (.nili::ds))) Hn
abbrev Hints:=List (Nat × List (Nat × Nat × List Nat × Bool))
def comp (P:Program) (hs:Hints) (n:Nat):Code->Option Ax
 | .skip=>some .skip
 | .region _ ops false=>(CC P n ops ops.toList).map .reg
 | .region id ops true=>match hs.lookup id with
  | some h=>match Mv P n ops h with
   | some plan=>if Vs ops plan=true/\plan.length=ops.size then some (.dreg plan)else none
   | none=>none
  | none=>none
 | .seq a b=>match comp P hs n a,comp P hs n b with
  | some x,some y=>some (.seq x y)
  | _,_=>none
 | .cond c a b=>match A9 c,comp P hs n a,comp P hs n b with
  | some c,some x,some y=>some (.cond c x y)
  | _,_,_=>none
 | .block id a=>(comp P hs n a).map (.block id)
 | .loop a=>(comp P hs n a).map .loop
 | .exit id=>some (.exit id)
 | .ret=>some .ret
 | .rangeFunc g ps zs bd=>match A9 g,comp P hs n zs,comp P hs n bd with
  | some g,some x,some y=>if ps.toList.all (fun p=>decide (p<n))=true/\Hz x=true/\Hz y=true then some (.rng g ps.toList x y)else none
  | _,_,_=>none
 | .label _=>some .skip
 | .scope a=>(comp P hs n a).map fun x=>.cond (.cst (.bool true)) x .skip
 | _=>none
section
variable {P:Program}
theorem En {b:Frame}{a:Act}{k:List Item}{cs:List Frame}{w:World}{c:Code}:step P (lone (b.atR a (.code (.scope c)::k)) cs w)=.next (lone (b.atR a (.code c::.inScope c::k)) cs w):=
 step_lone_go (by simp[stepG,stepG.exec,Frame.atR])
theorem Qu {b:Frame}{a:Act}{k:List Item}{cs:List Frame}{w:World}{c:Code}:step P (lone (b.atR a (.inScope c::k)) cs w)=.next (lone (b.atR a k) cs w):=
 step_lone_go (by simp[stepG,stepG.exec,Frame.atR])
theorem PF {F:Fence}{n:Nat}{Q:Exit->Act->World->Prop}{a:Act}{w:World}{c:Code}(h:c.wpIn F n P (Exit.noGoto Q) a w):(Code.scope c).wpIn F n P Q a w:=by
 intro b k cs hro hb hr
 have h0:(lone (b.atR a (.code (.scope c)::k)) cs w).fenced P F:=fenced_calm hb hr rfl
 obtain⟨e,a₁,w₁,hq,harr⟩:=h b (.inScope c::k) cs hro hb hr
 cases e with
 | normal=>exact⟨.normal,a₁,w₁,hq,.head h0 En (StepsIn.trans harr (.one (fenced_calm hb hr rfl) Qu))⟩
 | exit id=>
  have hx:exitTo id (.inScope c::k)=exitTo id k:=by simp[exitTo]
  exact⟨.exit id,a₁,w₁,hq,fun k' hk=>.head h0 En (harr.1 k' (by rw[hx];exact hk)),
   fun hr' hk=>let ⟨k₁,h1,h2⟩:=harr.2 hr' (by rw[hx];exact hk);⟨k₁,h1,.head h0 En h2⟩⟩
 | goto l=>exact hq.elim
 | ret=>exact⟨_,a₁,w₁,hq,.of_steps (.one h0 En) harr⟩
 | panic ch=>exact⟨_,a₁,w₁,hq,.of_steps (.one h0 En) harr⟩
 | outgrown=>exact⟨_,a₁,w₁,hq,.of_steps (.one h0 En) harr⟩
theorem QR.noGoto {Z:Zt}{σ:Sg}{n m:Nat}{Q:Ex->Env->AH->Prop}{x:Exit}{a:Act}{w:World}(h:QR Z σ n m Q x a w):Exit.noGoto (QR Z σ n m Q) x a w:=by
 cases x with
 | goto l=>obtain⟨_,_,y,_,_,_,_,_,_,_,h6,_⟩:=h;cases y<;>first | (cases h6;done) | exact h6.elim | (obtain⟨_,h7,_⟩:=h6;cases h7)
 | _=>exact h
theorem Qq [YC] {hs:Hints}{n:Nat}(hmix:P.follows .mixedOrders=true) (hn:n<=AN):∀(c:Code) (ac:Ax),comp P hs n c=some ac->∀(ro:Option Nat),(ro=none\/Hz ac=true) ->
  ∀(Z:Zt) (σ:Sg) (H:AH) (e:Env) (a:Act) (w:World) (Z0:Zt) (σ0:Sg) (m:Nat) (Q:Ex->Env->AH->Prop),CR Z0 Z->Nw σ0 m σ->m<=H.next->WR Z σ H w->FR Z σ n e a ->
   Hj Z0->dA P Z0 σ0 m->D P ac Q e H->c.wpIn (RF ro) 0 P (QR Z0 σ0 n m Q) a w:=by
 intro c
 induction c with
 | skip=>
  intro ac hc ro hro Z σ H e a w Z0 σ0 m Q hZ hS hm hW he hO hY h
  simp only[comp,AD]at hc;subst hc
  exact wpIn_skip ⟨Z,σ,.normal,e,H,hZ,hS,hm,hW,he,rfl,h⟩
 | region id ops draw=>
  intro ac hc ro hro Z σ H e a w Z0 σ0 m Q hZ hS hm hW he hO hY h
  cases draw with
  | true=>
   simp only[comp]at hc
   split at hc<;>(try (cases hc;done))
   split at hc<;>(try (cases hc;done))
   rename_i plan hpl
   split at hc<;>(try (cases hc;done))
   rename_i hok
   simp only[AD]at hc;subst hc
   exact Code.wpIn_mono (fun _ _ _ h=>h.vs) (UB hY (Q:=VV Q) hmix (UC hok.1 hpl) hok.2 hn hZ hS hm hW he h)
  | false=>
   simp only[comp,AO]at hc
   obtain⟨al,hal,rfl⟩:=hc
   exact Code.wpIn_mono (fun _ _ _ h=>h.vs) (wpIn_region_list (WZ (Q:=VV Q) hn hY ops.toList al hal hro Z σ H e a w hZ hS hm hW he h))
 | seq x y ihx ihy=>
  intro ac hc ro hro Z σ H e a w Z0 σ0 m Q hZ hS hm hW he hO hY h
  simp only[comp]at hc
  split at hc
  ·rename_i ax ay hx hy
   simp only[AD]at hc;subst hc
   have h1:ro=none\/Hz ax=true:=hro.imp_right fun h=>by simp only[Hz,AS]at h;exact h.1
   have h2:ro=none\/Hz ay=true:=hro.imp_right fun h=>by simp only[Hz,AS]at h;exact h.2
   refine wpIn_seq (Code.wpIn_mono ?_ (ihx ax hx ro h1 Z σ H e a w Z0 σ0 m _ hZ hS hm hW he hO hY h))
   intro ex a' w' hq
   obtain⟨Z',σ',z,e',H',g1,g2,g3,g4,g5,g6,g7⟩:=hq
   cases z with
   | normal=>cases g6;exact ihy ay hy ro h2 Z' σ' H' e' a' w' Z0 σ0 m Q g1 g2 g3 g4 g5 hO hY g7
   | exit i=>cases g6;exact⟨Z',σ',.exit i,e',H',g1,g2,g3,g4,g5,rfl,g7⟩
   | ret=>cases g6;exact⟨Z',σ',.ret,e',H',g1,g2,g3,g4,g5,rfl,g7⟩
   | Bi v=>obtain⟨cv,rfl,g6⟩:=g6;exact⟨Z',σ',.Bi v,e',H',g1,g2,g3,g4,g5,⟨cv,rfl,g6⟩,g7⟩
  ·cases hc
 | cond c x y ihx ihy=>
  intro ac hc ro hro Z σ H e a w Z0 σ0 m Q hZ hS hm hW he hO hY h
  simp only[comp]at hc
  split at hc
  ·rename_i c' ax ay h1 hx hy
   simp only[AD]at hc;subst hc
   simp only[D]at h
   split at h
   ·rename_i t ht
    have hv:=AJ he.er h1
    rw[ht]at hv
    have k1:ro=none\/Hz ax=true:=hro.imp_right fun h=>by simp only[Hz,AS]at h;exact h.1
    have k2:ro=none\/Hz ay=true:=hro.imp_right fun h=>by simp only[Hz,AS]at h;exact h.2
    exact wpIn_cond_split hv.EZ (fun ht=>ihx ax hx ro k1 Z σ H e a w Z0 σ0 m Q hZ hS hm hW he hO hY (h.1 ht)) (fun ht=>ihy ay hy ro k2 Z σ H e a w Z0 σ0 m Q hZ hS hm hW he hO hY (h.2 ht))
   ·exact h.elim
  ·cases hc
 | block id x ih=>
  intro ac hc ro hro Z σ H e a w Z0 σ0 m Q hZ hS hm hW he hO hY h
  simp only[comp,AO]at hc
  obtain⟨ax,hx,rfl⟩:=hc
  refine wpIn_block (Code.wpIn_mono ?_ (ih ax hx ro hro Z σ H e a w Z0 σ0 m _ hZ hS hm hW he hO hY h))
  intro ex a' w' hq
  obtain⟨Z',σ',z,e',H',g1,g2,g3,g4,g5,g6,g7⟩:=hq
  cases z with
  | normal=>cases g6;exact⟨Z',σ',.normal,e',H',g1,g2,g3,g4,g5,rfl,g7⟩
  | exit i=>
   cases g6
   simp only[]at g7
   by_cases hi:i=id
   ·subst hi
    rw[if_pos rfl]at g7
    simp only[Exit.inBlock,if_true]
    exact⟨Z',σ',.normal,e',H',g1,g2,g3,g4,g5,rfl,g7⟩
   ·rw[if_neg hi]at g7
    have hi':¬id=i:=fun h=>hi h.symm
    simp only[Exit.inBlock,hi,hi',if_false]
    exact⟨Z',σ',.exit i,e',H',g1,g2,g3,g4,g5,rfl,g7⟩
  | ret=>cases g6;exact⟨Z',σ',.ret,e',H',g1,g2,g3,g4,g5,rfl,g7⟩
  | Bi v=>obtain⟨cv,rfl,g6⟩:=g6;exact⟨Z',σ',.Bi v,e',H',g1,g2,g3,g4,g5,⟨cv,rfl,g6⟩,g7⟩
 | loop x ih=>
  intro ac hc ro hro Z σ H e a w Z0 σ0 m Q hZ hS hm hW he hO hY h
  simp only[comp,AO]at hc
  obtain⟨ax,hx,rfl⟩:=hc
  obtain⟨I,μ,hI,hstep⟩:=h
  refine Kk (fun k a w=>∃Z σ H e,CR Z0 Z/\Nw σ0 m σ/\m<=H.next/\WR Z σ H w/\FR Z σ n e a/\I e H/\μ e H=k) ?_ (μ e H) a w ⟨Z,σ,H,e,hZ,hS,hm,hW,he,hI,rfl⟩
  rintro k a w ⟨Z,σ,H,e,hZ,hS,hm,hW,he,hI,rfl⟩
  refine Code.wpIn_mono ?_ (ih ax hx ro hro Z σ H e a w Z0 σ0 m _ hZ hS hm hW he hO hY (hstep e H hI))
  intro ex a' w' hq
  obtain⟨Z',σ',z,e',H',g1,g2,g3,g4,g5,g6,g7⟩:=hq
  cases z with
  | normal=>cases g6;exact⟨μ e' H',g7.2,Z',σ',H',e',g1,g2,g3,g4,g5,g7.1,rfl⟩
  | exit i=>cases g6;exact⟨Z',σ',.exit i,e',H',g1,g2,g3,g4,g5,rfl,g7⟩
  | ret=>cases g6;exact⟨Z',σ',.ret,e',H',g1,g2,g3,g4,g5,rfl,g7⟩
  | Bi v=>obtain⟨cv,rfl,g6⟩:=g6;exact⟨Z',σ',.Bi v,e',H',g1,g2,g3,g4,g5,⟨cv,rfl,g6⟩,g7⟩
 | exit id=>
  intro ac hc ro hro Z σ H e a w Z0 σ0 m Q hZ hS hm hW he hO hY h
  simp only[comp,AD]at hc;subst hc
  exact wpIn_exit ⟨Z,σ,.exit id,e,H,hZ,hS,hm,hW,he,rfl,h⟩
 | ret=>
  intro ac hc ro hro Z σ H e a w Z0 σ0 m Q hZ hS hm hW he hO hY h
  simp only[comp,AD]at hc;subst hc
  exact wpIn_ret ⟨Z,σ,.ret,e,H,hZ,hS,hm,hW,he,rfl,h⟩
 | rangeFunc g ps zs bd iha ihb=>
  intro ac hc ro hro Z σ H e a w Z0 σ0 m Q hZ hS hm hW he hO hY h
  simp only[comp]at hc
  split at hc<;>(try (cases hc;done))
  rename_i g' aa ab hg ha hb
  split at hc<;>(try (cases hc;done))
  rename_i hok
  simp only[AD]at hc;subst hc
  obtain⟨hps,ra,rb⟩:=hok
  have hps:∀p∈ps.toList,p<n:=fun p hp=>by simpa using CY.1 hps p hp
  have hro:ro=none:=hro.resolve_right (by simp[Hz])
  subst hro
  obtain⟨f,caps,xs,ds,I,h1,h2,h3,h4,h5,h6⟩:=h
  refine YP hn hg hps hO hZ hS hm hW he h1 h2 h3 h4 (fun i x Hi hx hI hle=>?_) h6
  obtain⟨r1,r2⟩:=h5 i x Hi hx hI hle
  refine⟨by simpa using r1,fun _ e' H'=>D P ab (fun z _ H''=>z=.normal/\I (i+1) H'') e' H',fun l Z' σ' a1 W q1 q2 q3 q4 q5=>?_,fun l e' H' Z' σ' a1 W hh q1 q2 q3 q4 q5=>?_⟩
  ·refine wpIn_mono (iha aa ha _ (.inr ra) Z' σ' Hi _ a1 W Z' σ' Hi.next _ (CR.refl _) (Nw.refl _ _) (A5 _) q4 q5 (hO.le q1) (hY.up q1 q2 q3) r2) ?_
   rintro y a2 w2 ⟨Z2,σ2,z,e2,H2,k1,k2,k3,k4,k5,k6,k7⟩
   refine⟨Z2,σ2,z,e2,H2,k1,k2,k3,k4,k5,k6,?_⟩
   cases z<;>first | exact⟨rfl,k7⟩ | exact k7.elim
  ·exact ihb ab hb _ (.inr rb) Z' σ' H' e' a1 W Z' σ' H'.next _ (CR.refl _) (Nw.refl _ _) (A5 _) q4 q5 (hO.le q1) (hY.up q1 q2 q3) hh
 | label l=>
  intro ac hc ro hro Z σ H e a w Z0 σ0 m Q hZ hS hm hW he hO hY h
  simp only[comp,AD]at hc;subst hc
  exact wpIn_label ⟨Z,σ,.normal,e,H,hZ,hS,hm,hW,he,rfl,h⟩
 | scope c ih=>
  intro ac hc ro hro Z σ H e a w Z0 σ0 m Q hZ hS hm hW he hO hY h
  simp only[comp,AO]at hc
  obtain⟨x,hx,rfl⟩:=hc
  have h':D P x Q e H:=by
   simp only[D,AF.ev]at h
   exact h.1 trivial
  exact PF (wpIn_mono (ih x hx ro (hro.imp_right fun hr=>by simp only[Hz,AS]at hr;exact hr.1) Z σ H e a w Z0 σ0 m Q hZ hS hm hW he hO hY h') fun _ _ _ hq=>hq.noGoto)
 | _=>intro ac hc;simp[comp]at hc
theorem Ta {hs:Hints}{n:Nat}(hmix:P.follows .mixedOrders=true) (hn:n<=AN) (c:Code) (ac:Ax) (hc:comp P hs n c=some ac) (Z:Zt) (σ:Sg) (H:AH) (e:Env) (a:Act) (w:World) (Z0:Zt) (σ0:Sg) (m:Nat) (Q:Ex->Env->AH->Prop)
  (hO:Hj Z0) (hZ:CR Z0 Z) (hS:Nw σ0 m σ) (hm:m<=H.next) (hW:WR Z σ H w) (he:FR Z σ n e a) (h:D P ac Q e H):c.wp P (QR Z0 σ0 n m Q) a w:=
 wpIn_wide.1 (Qq hmix hn c ac hc none (.inl rfl) Z σ H e a w Z0 σ0 m Q hZ hS hm hW he hO Ly h)
end
end
section
inductive Cc where
 | tmp (t:Nat)
 | cell (a:Nat) (agg:Option Nat)
def jf (P:Program):ResultVar->Option Cc
 | .tmp t=>if t<AN then some (.tmp t)else none
 | .cell a t=>if a<AN then(Ix P t).map (.cell a ·)else none
def Gb (P:Program):List ResultVar->Option (List Cc)
 | []=>some []
 | x::l=>match jf P x,Gb P l with
  | some y,some r=>some (y::r)
  | _,_=>none
def DQ (e:Env) (H:AH):List Cc->Option (List AV)
 | []=>some []
 | .tmp t::l=>(DQ e H l).map (e t::·)
 | .cell a g::l=>match BC g (e a) H with
  | some v=>(DQ e H l).map (v::·)
  | none=>none
def I9:List AV->AV
 | [v]=>v
 | l=>.tup l
section
variable {P:Program}{Z:Zt}{σ:Sg}{H:AH}{w:World}{e:Env}{a:Act}
def RN (tmps:Array Value):ResultVar->Sem Value
 | .tmp t=>pure (tmps.getD t undef)
 | .cell a t=>do loadVar t (<- asAddr (tmps.getD a undef))
theorem Hk (hW:WR Z σ H w) (he:ER Z σ e a):∀{rs:List ResultVar}{ars:List Cc}{vs:List AV},Gb P rs=some ars->DQ e H ars=some vs ->
  ∃us:List Value,(rs.mapM (RN a.tmps)).run P w=.ok us w/\CE Z σ vs us
 | [],ars,vs,h1,h2=>by
  simp only[Gb,AD]at h1;subst h1
  simp only[DQ,AD]at h2;subst h2
  exact⟨[],by simp,.nil⟩
 | x::rs,ars,vs,h1,h2=>by
  simp only[Gb]at h1
  split at h1<;>simp only[AD,reduceCtorEq]at h1
  rename_i y r hx hr
  subst h1
  cases x with
  | tmp t=>
   simp only[jf]at hx
   split at hx<;>simp only[AD,reduceCtorEq]at hx
   rename_i hlt
   subst hx
   simp only[DQ,AO]at h2
   obtain⟨vs',h2,rfl⟩:=h2
   obtain⟨us,g1,g2⟩:=Hk hW he hr h2
   exact⟨a.tmps.getD t undef::us,by simp[JH,RN,g1],.cons (he t hlt) g2⟩
  | cell ad t=>
   simp only[jf]at hx
   split at hx<;>(try (cases hx;done))
   rename_i hlt
   simp only[AO]at hx
   obtain⟨g,hg,rfl⟩:=hx
   simp only[DQ]at h2
   split at h2<;>(try (cases h2;done))
   rename_i v hv
   simp only[AO]at h2
   obtain⟨vs',h2,rfl⟩:=h2
   obtain⟨us,g1,g2⟩:=Hk hW he hr h2
   obtain⟨cv,r1,r2⟩:=Ns (P:=P) hW hg (he ad hlt) hv
   refine⟨cv::us,?_,.cons r2 g2⟩
   have:(RN a.tmps (.cell ad t)).run P w=.ok cv w:=by
    simp only[RN]
    cases hp:a.tmps.getD ad undef with
    | pointer o=>
     cases o with
     | none=>rw[hp]at r1;simp[Instr.loadAt,Instr.sureAddr]at r1
     | some x=>rw[hp]at r1;simpa[Instr.loadAt,Instr.sureAddr,asAddr]using r1
    | _=>rw[hp]at r1;simp[Instr.loadAt,Instr.sureAddr]at r1
   simp[JH,this,g1]
theorem NM (hW:WR Z σ H w) (he:ER Z σ e a){fn:Func}{ars:List Cc}{vs:List AV}(h1:Gb P fn.results.toList=some ars) (h2:DQ e H ars=some vs) :
  ∃cv,(results fn a.tmps).run P w=.ok cv w/\VR Z σ (I9 vs) cv:=by
 obtain⟨us,g1,g2⟩:=Hk hW he h1 h2
 have hm:(fn.results.mapM (RN a.tmps)).run P w=.ok us.toArray w:=by
  rw[O8];simp[g1]
 have hres:(results fn a.tmps).run P w=.ok (if h:us.toArray.size=1 then us.toArray[0]else .tuple us.toArray) w:=by
  have e1:results fn a.tmps=(do let vs <- fn.results.mapM (RN a.tmps);pure (if h:vs.size=1 then vs[0]else .tuple vs)):=rfl
  rw[e1];simp[hm]
 refine⟨_,hres,?_⟩
 cases g2 with
 | nil=>simp[I9];exact .tup (by simpa using CE.nil)
 | cons h t=>
  cases t with
  | nil=>simpa[I9]using h
  | cons h' t'=>simp[I9];exact .tup (by simpa using CE.cons h (.cons h' t'))
def GN (ars:List Cc) (post:Am->AH->Prop):Ex->Env->AH->Prop
 | .normal,e,H | .ret,e,H=>match DQ e H ars with
  | some vs=>post (.ret (I9 vs)) H
  | none=>False
 | .Bi v,_,H=>post (.Bi v) H
 | .exit _,_,_=>False
def CI (args:List AV):Env:=fun t=>if t=AN then .tup []else args.getD t .unk
theorem CE.getD {l:List AV}{vs:List Value}(h:CE Z σ l vs) (t:Nat):VR Z σ (l.getD t .unk) (vs.getD t undef):=by
 rw[A6,A6]
 cases hl:l[t]? with
 | none=>simp;exact .unk _
 | some x=>
  obtain⟨v,h1,h2⟩:=h.get hl
  rw[h1];exact h2
theorem MY {vs:List Value}{args:List AV}(hv:CE Z σ args vs){n:Nat}(hlen:args.length<=n) (hn:n<=AN) :
  FR Z σ n (CI args) { tmps:=vs.toArray++Array.replicate (n-vs.toArray.size) undef,defers:=[] }:=by
 have hl:=hv.length
 refine⟨fun t ht=>?_,⟨[],by simp[CI],.nil⟩,by simp;omega⟩
 have hne:t≠AN:=by omega
 simp only[CI,hne,if_false]
 have hg:(vs.toArray++Array.replicate (n-vs.toArray.size) undef).getD t undef=vs.getD t undef:=by
  rw[Ed,A6,Array.getElem?_append]
  split
  ·simp
  ·rename_i hlt
   have hlt':vs.length<=t:=by simpa using hlt
   rw[BM hlt']
   rw[Array.getElem?_replicate]
   split<;>rfl
 rw[hg];exact hv.getD t
theorem AP.Vz {f:FuncId}{args:List AV}{H:AH}{post:Am->AH->Prop}(hE:Enters P f)
  (h:∀(Z:Zt) (σ:Sg) (w:World) (vs:List Value),Hj Z->(∀b,¬Z.old b->Z b=none)->WR Z σ H w->CE Z σ args vs ->
   Calls P f vs.toArray w fun e w'=>∃Z' σ' H' out,CR Z Z'/\Nw σ H.next σ'/\H.next<=H'.next/\WR Z' σ' H' w'/\Wm Z' σ' out e/\post out H'):AP P f args H post:=by
 refine⟨hE,fun Z σ w vs hW hv=>?_⟩
 have c1:∀(Z:Zt) (o:Nat->Prop),Zc Z { Z with old:=o }:=fun Z o _ _ _ _ h=>h
 have wr:∀(Z:Zt) (o:Nat->Prop) {σ:Sg} {H:AH} {w:World},WR Z σ H w->WR { Z with old:=o } σ H w:=fun Z o σ H w hW=>
  ⟨hW.z,fun r x p h1 h2=>⟨(hW.h r x p h1 h2).1,((hW.h r x p h1 h2).2).Kf (c1 Z o) rfl⟩,hW.inj,hW.fresh,hW.top,hW.rest⟩
 refine(h { Z with old:=fun b=>∃o,Z b=some o } σ w vs (fun b hb=>hb) (fun b hb=>?_) (wr Z _ hW) (hv.FJ (c1 Z _) (fun _ _ h=>h))).mono ?_
 ·cases hq:Z b with
  | none=>rfl
  | some x=>exact absurd ⟨x,hq⟩ hb
 ·rintro e w' ⟨Z',σ',H',out,g1,g2,g3,g4,g5,g6⟩
  refine⟨{ Z' with old:=Z.old },σ',H',out,⟨g1.le,g1.os,g1.out,g1.QI,rfl⟩,g2,g3,wr Z' _ g4,?_,g6⟩
  cases out with
  | ret v=>obtain⟨cv,q1,q2⟩:=g5;exact⟨cv,q1,q2.FJ (c1 Z' _) (fun _ _ h=>h)⟩
  | Bi v=>obtain⟨cv,q1,q2⟩:=g5;exact⟨cv,q1,q2.FJ (c1 Z' _) (fun _ _ h=>h)⟩
theorem DR.shut {Z:Zt}{σ:Sg}{b:Nat}{o:Obj}(hb:Z b=some (.deferred (some []))){ds:List AV}{dd:List Deferred}(h:DR Z σ ds dd):(∀d∈dd,d.target≠.collected b)->DR (Z.at b o) σ ds dd:=by
 have hc:Zc Z (Z.at b o):=Zt.ct o fun x hx=>by rw[hb]at hx;cases hx;exact Pl
 induction h with
 | nil=>exact fun _=>.nil
 | cons h _ ih=>exact fun hn=>.cons (h.FJ hc (fun _ _ h=>h)) (ih fun d hd=>hn d (Ct _ hd))
 | mark h h2 h3 _ ih=>exact fun hn=>.mark (by rw[Zt.GP _ _ (fun hq=>hn _ (Be ..) (by rw[hq]))];exact h) h2 h3 (ih fun d hd=>hn d (Ct _ hd))
theorem Ij {fn:Func}{tmps:Array Value}{R:Ending->World->Prop}{u:FrameMode}(hu:u≠.run){Z0:Zt}:∀(ds:List AV) (dd:List Deferred) (Z:Zt) (w:World),(∀x∈ds,x=.nili)->DR Z σ ds dd->WR Z σ H w->CR Z0 Z ->
  (∀b,¬Z.old b->Z0 b=none)->(∀Z' w',CR Z0 Z'->Zc Z Z'->WR Z' σ H w'->LeavesIn Fence.wide 0 P fn tmps R [] u w')->LeavesInM Fence.wide 0 P fn tmps R dd u w
 | [],dd,Z,w,_,hD,hW,hZ,_,hK=>by
  cases hD
  exact hK Z w hZ (fun _ _ _ _ h=>h) hW
 | x::ds,dd,Z,w,hx,hD,hW,hZ,ho,hK=>by
  have:=hx x (Be ..)
  subst this
  cases hD with
  | @mark b _ dd' h h2 h3 t=>
   have hc:Zc Z (Z.at b (.deferred none)):=Zt.ct _ fun x hx=>by rw[h]at hx;cases hx;exact Pl
   refine⟨hu,.inl ⟨b,_,rfl,run_takeDeferred (hW.z _ _ h),?_⟩⟩
   exact Ij hu ds dd' _ _ (fun y hy=>hx y (Ct _ hy)) (t.shut h h3) (hW.Kf h Pl _) (Zt.Rz _ hZ (.inl (ho b h2))) ho
    (fun Z' w' k1 k2 k3=>hK Z' w' k1 (fun b c e fr hb=>k2 b c e fr (hc b c e fr hb)) k3)
theorem KF {f:FuncId}{fn:Func}{c:Code}{ars:List Cc}{args:List AV}{post:Am->AH->Prop}(hf:P.funcs[f]?=some fn)
  (hb:fn.body=some c) (hn:fn.ntmps<=AN) (hlen:args.length<=fn.ntmps) (hr:Gb P fn.results.toList=some ars) {vs:List Value} (hO:Hj Z) (hN:∀b,¬Z.old b->Z b=none) (hW:WR Z σ H w) (hv:CE Z σ args vs)
  (h:∀a,FR Z σ fn.ntmps (CI args) a->c.wpIn (RF none) 0 P (QR Z σ fn.ntmps H.next fun x e H=>(∃ds,e AN=.tup ds/\∀x∈ds,x=.nili)/\GN ars post x e H) a w) :
  Calls P f vs.toArray w fun e w'=>∃Z' σ' H' out,CR Z Z'/\Nw σ H.next σ'/\H.next<=H'.next/\WR Z' σ' H' w'/\Wm Z' σ' out e/\post out H':=by
 refine(callsIn_wide (n:=0)).1 (callsIn_of_wp_marks hf hb trivial (Code.wpIn_mono ?_ (h _ (MY hv hlen hn))))
 rintro ex a' w' ⟨Z',σ',z,e',H',g1,g2,g3,g4,g5,g6,⟨ds,g7,g8⟩,g9⟩
 have hds:DR Z' σ' ds a'.defers:=by
  obtain⟨l,k1,k2⟩:=g5.ds
  rw[g7]at k1;simp only[AV.tup.injEq]at k1;subst k1;exact k2
 have hN':∀b,¬Z'.old b->Z b=none:=fun b hb=>hN b (by rw[<- g1.old];exact hb)
 have fin:(match DQ e' H' ars with | some vs=>post (.ret (I9 vs)) H' | none=>False)->LeavesInM Fence.wide 0 P fn a'.tmps (fun e w'=>∃Z' σ' H' out,CR Z Z'/\Nw σ H.next σ'/\H.next<=H'.next/\WR Z' σ' H' w'/\Wm Z' σ' out e/\post out H') a'.defers .returning w':=fun hp=>by
  refine Ij (by simp) ds _ Z' w' g8 hds g4 g1 hN' fun Z2 w2 k1 k2 k3=>?_
  split at hp
  ·rename_i us hus
   obtain⟨cv,r1,r2⟩:=NM (P:=P) k3 (fun t ht=>(g5.er t ht).FJ k2 (fun _ _ h=>h)) hr hus
   exact⟨cv,r1,Z2,σ',H',.ret (I9 us),k1,g2,g3,k3,⟨cv,rfl,r2⟩,hp⟩
  ·exact hp.elim
 cases z with
 | normal=>cases g6;exact fin g9
 | ret=>cases g6;exact fin g9
 | exit i=>exact g9.elim
 | Bi v=>
  obtain⟨cv,rfl,hv⟩:=g6
  refine Ij (by simp) ds _ Z' w' g8 hds g4 g1 hN' fun Z2 w2 k1 k2 k3=>?_
  exact⟨Z2,σ',H',.Bi v,k1,g2,g3,k3,⟨cv,rfl,hv.FJ k2 (fun _ _ h=>h)⟩,g9⟩
theorem IE:∀x∈([]:List AV),x=.nili:=fun x hx=>by cases hx
theorem Wi {f:FuncId}{fn:Func}{c:Code}{hs:Hints}{ac:Ax}{ars:List Cc}{args:List AV}{post:Am->AH->Prop}(hmix:P.follows .mixedOrders=true) (hf:P.funcs[f]?=some fn)
  (Di:fn.name≠"runtime.NumGoroutine") (hb:fn.body=some c) (hn:fn.ntmps<=AN) (hlen:args.length<=fn.ntmps) (hc:comp P hs fn.ntmps c=some ac) (hr:Gb P fn.results.toList=some ars)
  (h:D P ac (fun x e H=>e AN=.tup []/\GN ars post x e H) (CI args) H):AP P f args H post:=
 AP.Vz ⟨fn,hf,Di,by rw[hb];rfl⟩ fun Z σ w vs hO hN hW hv=>
  KF hf hb hn hlen hr hO hN hW hv fun a g4=>Code.wpIn_mono (fun _ _ _ ⟨Z',σ',y,e,H',q1,q2,q3,q4,q5,q6,q7,q8⟩=>⟨Z',σ',y,e,H',q1,q2,q3,q4,q5,q6,⟨[],q7,IE⟩,q8⟩)
   (Qq hmix hn c ac hc none (.inl rfl) Z σ H _ a w Z σ H.next _ (CR.refl _) (Nw.refl _ _) (A5 _) hW g4 hO Ly h)
end
end
end Go.AL
