import Derived.Test.YtlmkmpomgdbjhaaGreatDoorZa01
import Derived.Tactics
import Derived.TacticsIn
import Derived.OrdersIn
import Derived.RangeFuncSeq
import Derived.RangeFuncIn
import Derived.Orders
import Derived.RangeFuncRecord
import Derived.Scope
/-
  a part of the proof.
-/
set_option linter.unusedSectionVars false
set_option linter.unusedVariables false
set_option linter.unusedSimpArgs false
namespace Go.AL
section
abbrev RF (ro:Option Nat):Fence:={ fn:=fun _=>True,depth:=none,alive:=false,round:=ro }
theorem IW {ro:Option Nat}{n:Nat}{P:Program}{f:FuncId}{args:Array Value}{w:World}{R:Ending->World->Prop}(h:Calls P f args w R):CallsIn (RF ro) n P f args w R:=
 (callsIn_wide (n:=n)).2 h
theorem PJ {ro:Option Nat}{n m l:Nat}{P:Program}{f:FuncId}{tmps:Array Value}{zs bd:Code}{w:World}{R:Ending->World->Prop}(h:RoundIn Fence.wide n P l f tmps zs bd w R):RoundIn (RF ro) m P l f tmps zs bd w R:=
 ⟨trivial,fun c cs _=>h.2 c cs (room_wide _)⟩
theorem He {ro:Option Nat}{n:Nat}:(RF ro).depth.isSome=true->1<=n:=fun h=>by cases h
def cI (P:Program) (Z0:Zt) (σ0:Sg) (m:Nat) [YC]:Prop:=∀(l:Nat) (args:List AV) (H:AH) (post:Al->AH->Prop),YC.y l args H post->∀(Z:Zt) (σ:Sg) (w:World) (vs:List Value),CO Z0 Z->Nw σ0 m σ->m<=H.next->WR Z σ H w->CC Z σ args vs ->
 YieldAt Fence.wide 0 P l vs.toArray w fun x w'=>∃Z' σ' H' out,CO Z Z'/\Nw σ H.next σ'/\H.next<=H'.next/\WR Z' σ' H' w'/\WS Z' σ' out x/\post out H'
theorem LY {P:Program}{Z0:Zt}{σ0:Sg}{m:Nat}:cI P Z0 σ0 m:=fun _ _ _ _ h=>h.elim
theorem cI.up {P:Program}{Z0 Z1:Zt}{σ0 σ1:Sg}{m m1:Nat}[YC] (hY:cI P Z0 σ0 m) (hZ:CO Z0 Z1) (hS:Nw σ0 m σ1) (hm:m<=m1):cI P Z1 σ1 m1:=
 fun l args H post h Z σ w vs g1 g2 g3=>hY l args H post h Z σ w vs (hZ.trans g1) (hS.trans g2 hm) (Cq hm g3)
theorem CV {P:Program}{n:Nat}{ops:Array Oper}{o:Oper}{x:A_}(h:Di P n ops o=some x) :
  Dp P o=some x.k/\x.dst=o.dst/\(∀d,o.dst=some d->d<n) /\
   ((o.guard=none/\x.gd=none)\/∃j want s,o.guard=some (j,want)/\x.gd=some (s,want)/\(ops[j]?).bind (·.dst)=some s/\s<n/\x.k.B0=false):=by
 unfold Di at h
 split at h
 ·cases h
 ·rename_i k hk
  by_cases hd:bc n o.dst=true
  ·rw[if_pos hd]at h
   have hd':∀d,o.dst=some d->d<n:=by
    intro d he;rw[he]at hd;simpa[bc]using hd
   split at h
   ·rename_i hg
    simp only[AD]at h;subst h
    exact⟨hk,rfl,hd',.inl ⟨hg,rfl⟩⟩
   ·rename_i j want hg
    split at h
    ·rename_i s hs
     split at h
     ·rename_i hc
      simp only[AD]at h;subst h
      exact⟨hk,rfl,hd',.inr ⟨j,want,s,hg,rfl,hs,hc.1,hc.2⟩⟩
     ·cases h
    ·cases h
  ·rw[if_neg hd]at h;cases h
theorem Ki {ops:Array Oper}{tmps:Array Value}{j s:Nat}{x:AV}{b:Option Bool}{Z:Zt}{σ:Sg}(h:(ops[j]?).bind (·.dst)=some s) (hv:VR Z σ x (tmps.getD s undef)) (hx:MN x=some b):yielded ops tmps j=b:=by
 unfold yielded
 rw[h]
 simp only[LU]
 rw[Eb]at hv
 unfold MN at hx
 split at hx<;>simp only[AD,reduceCtorEq]at hx<;>subst hx
 ·have:=hv.EX
  cases hh:tmps[s]? with
  | none=>rw[hh]at this;simp[undef]at this
  | some v=>rw[hh]at this;simp at this;rw[this]
 ·have:=hv.Wl
  obtain⟨vs,h1,h2⟩:=this
  cases hh:tmps[s]? with
  | none=>rfl
  | some v=>rw[hh]at h1;simp at h1;rw[h1]
theorem V_ {Z:Zt}{σ:Sg}:VR Z σ Bp undef:=.tup .nil
section
variable {P:Program}
theorem EH {g:FuncId}(h:Enters P g) (args:Array Value) (w:World):(callFunc g args).run P w=.ok (.enter g args) w:=by
 obtain⟨fn,h1,h2,h3⟩:=h
 obtain⟨c,hc⟩:=E9.1 h3
 simp[callFunc,h1,h2,hc]
theorem Zh {ρ:Operand->Value}{o:Oper}{f:Operand}{args:Array Operand}{ats:Array TypeId}(ho:o.op=.call { callee:=.value f,args,argTypes:=ats })
  {g:FuncId} {first cap:Array Value} (hf:ρ f=.func (.func g) first cap) (hE:Enters P g) (w:World) :
  (execOp ρ o).run P w=.ok (.enter g (first++args.map ρ++cap)) w:=by
 simp[execOp,ho,resolve,hf,Deferred.ofValue,invoke,EH hE]
variable {Z:Zt}{σ:Sg}{H:AH}{e:Env}{a:Act}{w:World}
theorem Rr [YC] {o:Oper}{f:AE}{args:List AE}(hk:Dp P o=some (.call f args)) (hW:WR Z σ H w) (he:ER Z σ e a){post:Al->AH->Prop}
  (h:Gw P (f.ev e) (args.map (·.ev e)) H post):(∃g vs,(execOp a.eval o).run P w=.ok (.enter g vs) w /\
   Calls P g vs w fun x w'=>∃Z' σ' H' out,CO Z Z'/\Nw σ H.next σ'/\H.next<=H'.next/\WR Z' σ' H' w'/\WS Z' σ' out x/\post out H') \/
   ∃l vs,(execOp a.eval o).run P w=(Instr.yield l vs.toArray).run P w/\CC Z σ (args.map (·.ev e)) vs/\YC.y l (args.map (·.ev e)) H post:=by
 obtain⟨f',args',ats,ho,h1,h2⟩:=C2 hk
 unfold Gw at h
 split at h
 ·rename_i g first cap hf
  have hfv:=AI he h1
  rw[hf]at hfv
  obtain⟨vf,vc,e1,e2,e3⟩:=hfv.Mn
  have ha:=Ev he h2
  refine .inl ⟨g,_,Zh ho e1 h.1 w,?_⟩
  have:=h.2 Z σ w (vf.toList++args'.toList.map a.eval++vc.toList) hW ((e2.append ha).append e3)
  have hh:(vf++args'.map a.eval++vc)=(vf.toList++args'.toList.map a.eval++vc.toList).toArray:=by simp
  rw[hh];exact this
 ·rename_i l hf
  have hfv:=AI he h1
  rw[hf]at hfv
  obtain⟨vf,vc,e1,e2,e3⟩:=hfv.Mn
  have ha:=Ev he h2
  have e2:vf=#[]:=by
   generalize hl:vf.toList=l2 at e2
   cases e2;exact DE (by simpa using hl)
  have e3:vc=#[]:=by
   generalize hl:vc.toList=l2 at e3
   cases e3;exact DE (by simpa using hl)
  subst e2;subst e3
  refine .inr ⟨l,args'.toList.map a.eval,?_,ha,h⟩
  rw[show(args'.toList.map a.eval).toArray=args'.map a.eval from(DE (by rw[GV]))]
  simp[execOp,ho,resolve,e1,Deferred.ofValue,invoke]
 ·exact h.elim
theorem QH {o:Oper}{x:AE}(hk:Dp P o=some (.panic x)) (he:ER Z σ e a){t:TypeId}{v:AV}(hx:x.ev e=.ifc t v) :
  ∃cv,(execOp a.eval o).run P w=.halt (.panic cv) w/\VR Z σ (.ifc t v) cv:=by
 obtain rfl | ⟨y,ho,h1⟩:=C2 hk
 ·cases hx
 have h:=AI he h1
 rw[hx]at h
 refine⟨a.eval y,?_,h⟩
 cases hv:a.eval y<;>rw[hv]at h<;>(try cases h;done)
 simp[execOp,ho,hv,Instr.panic,goPanic]
theorem WI {o:Oper}{f:AE}{args:List AE}(hk:Dp P o=some (.defer f args)) (he:ER Z σ e a){g:FuncId}{first cap:List AV}(hf:f.ev e=.fn (.func g) first cap) :
  ∃capt vs,(execOp a.eval o).run P w=.ok (.defer { target:=.fn (.func g) capt,args:=vs }) w/\CC Z σ (first++args.map (·.ev e)++cap) (vs++capt).toList:=by
 obtain⟨f',args',ats,ho,h1,h2⟩:=C2 hk
 have hfv:=AI he h1
 rw[hf]at hfv
 obtain⟨vf,vc,e1,e2,e3⟩:=hfv.Mn
 have ha:=Ev he h2
 refine⟨vc,vf++args'.map a.eval,by simp[execOp,ho,resolve,e1,Deferred.ofValue],?_⟩
 have:=(e2.append ha).append e3
 simpa using this
theorem YN {o:Oper}{k:AK}(hk:Dp P o=some k) (hnd:k.B0=false) (hp:k≠.panic (.cst .unk)):∀c,o.op≠.defer c:=by
 intro c hc
 unfold Dp at hk
 cases h0:GM P o with
 | none=>rw[h0]at hk;cases hk;exact hp rfl
 | some k'=>
  rw[h0]at hk
  simp only[I6,AD]at hk;subst hk
  obtain⟨dst,op,ty,pos,after,guard⟩:=o
  simp only at hc;subst hc
  obtain⟨callee,cargs,ats⟩:=c
  cases callee<;>simp only[GM]at h0<;>(try (cases h0;done))
  split at h0<;>simp only[AD,reduceCtorEq]at h0
  subst h0;cases hnd
theorem JL {o:Oper}{k:AK}(hk:Dp P o=some k) (hnd:k.B0=false) (hp:k≠.panic (.cst .unk)) (ro:Option Nat) (ρ:Operand->Value):o.semAt ro ρ=execOp ρ o:=Oper.semAt_eq ro ρ o (YN hk hnd hp)
theorem cD [YC] {k:AK}(hp:k=.panic (.cst .unk)) {K Kp:AV->AH->Prop}(h:G1 P k e H K Kp):False:=by subst hp;exact h
theorem Rm [YC] {ro:Option Nat}{n m:Nat}(hn:n<=AM){Z0:Zt}{σ0:Sg}{Q:Ex->Env->AH->Prop}{Qc:Exit->Act->World->Prop}{next:Act->World->Prop}{o:Oper}{k:AK}{dst:Option Nat}
  (hk:Dp P o=some k) (hd:dst=o.dst) (hdn:∀d,o.dst=some d->d<n) (hnd:k.B0=false)
  (hZ:CO Z0 Z) (hS:Nw σ0 m σ) (hm:m<=H.next) (hW:WR Z σ H w) (he:FR Z σ n e a) {K:AV->AH->Prop} (h:G1 P k e H K (fun v H'=>Q (.Bd v) e H'))
  (hK:∀Z' σ' v H' a' w',CO Z0 Z'->Nw σ0 m σ'->m<=H'.next->WR Z' σ' H' w'->FR Z' σ' n (e.put dst v) a'->K v H'->next a' w')
  (hQ:∀x a' w',QR Z0 σ0 n m Q x a' w'->Qc x a' w') (hY:cI P Z0 σ0 m):o.wpIn (RF ro) 0 P a w next Qc:=by
 subst hd
 unfold Oper.wpIn
 refine⟨fun _ _=>trivial,?_⟩
 rw[JL hk hnd (fun hp=>cD hp h)]
 have plain:(match A6 k e H with | some (v,H')=>K v H' | none=>False)->o.uponIn (RF ro) 0 P a next Qc ((execOp a.eval o).run P w):=by
  intro h
  split at h
  ·rename_i v H' hone
   obtain⟨cv,w',σ',r1,r2,r3,r4⟩:=QJ hk hW he.er hone
   have hnx:=Mx hone
   have hF:FR Z σ' n (e.put o.dst v) (a.put o.dst cv):=(he.mono (CO.refl _) (hW.sle r2)).put hn hdn r4
   have:=hK Z σ' v H' (a.put o.dst cv) w' hZ (hS.trans r2 hm) (by omega) r3 hF h
   rcases r1 with r1 | ⟨r1,rfl⟩
   ·rw[r1];exact this
   ·rw[r1];exact this
  ·exact h.elim
 cases k with
 | call f args=>
  rcases Rr hk hW he.er h with⟨g,vs,r1,r2⟩ | ⟨l,vs,r1,r2,r3⟩
  ·rw[r1,Oper.uponIn_enter]
   refine⟨He,IW (r2.mono fun x w' hx=>?_)⟩
   obtain⟨Z',σ',H',out,g1,g2,g3,g4,g5,g6⟩:=hx
   cases out with
   | ret v=>
    obtain⟨cv,rfl,hv⟩:=g5
    exact hK Z' σ' v H' _ w' (hZ.trans g1) (hS.trans g2 hm) (by omega) g4 ((he.mono g1 (hW.sle g2)).put hn hdn hv) g6
   | Bd v=>
    obtain⟨cv,rfl,hv⟩:=g5
    exact hQ _ _ _ ⟨Z',σ',.Bd v,e,H',hZ.trans g1,hS.trans g2 hm,by omega,g4,he.mono g1 (hW.sle g2),⟨cv,rfl,hv⟩,g6⟩
  ·obtain⟨fn,tmps,zs,bd,y1,y2⟩:=hY _ _ _ _ r3 Z σ w vs hZ hS hm hW r2
   rw[r1,y1,Oper.uponIn_round]
   refine⟨He,PJ (y2.mono fun x w' hx=>?_)⟩
   obtain⟨Z',σ',H',out,g1,g2,g3,g4,g5,g6⟩:=hx
   cases out with
   | ret v=>
    obtain⟨cv,rfl,hv⟩:=g5
    exact hK Z' σ' v H' _ w' (hZ.trans g1) (hS.trans g2 hm) (by omega) g4 ((he.mono g1 (hW.sle g2)).put hn hdn hv) g6
   | Bd v=>
    obtain⟨cv,rfl,hv⟩:=g5
    exact hQ _ _ _ ⟨Z',σ',.Bd v,e,H',hZ.trans g1,hS.trans g2 hm,by omega,g4,he.mono g1 (hW.sle g2),⟨cv,rfl,hv⟩,g6⟩
 | panic x=>
  simp only[G1]at h
  split at h
  ·rename_i t v hx
   obtain⟨cv,r1,r2⟩:=QH (w:=w) hk he.er hx
   rw[r1,Oper.uponIn_panic]
   exact hQ _ _ _ ⟨Z,σ,.Bd (.ifc t v),e,H,hZ,hS,hm,hW,he,⟨cv,rfl,r2⟩,h⟩
  ·exact h.elim
 | defer f args=>exact h.elim
 | recover=>exact h.elim
 | nextM x=>
  simp only[G1]at h
  split at h
  ·rename_i l hl
   obtain⟨y,ho,h1⟩:=C2 hk
   obtain⟨p,hp,cv,w',r1,r2,r3⟩:=Nb (P:=P) hW (AI he.er h1) hl o.type
   have hr:(execOp a.eval o).run P w=.ok (.value cv) w':=by simp[execOp,ho,r1]
   rw[hr]
   have hnx:=QK hl p hp
   exact hK Z σ p.1 p.2 (a.put o.dst cv) w' hZ hS (by omega) r2 (he.put hn hdn r3) (h p hp)
  ·exact h.elim
 | _=>exact plain h
theorem WB [YC] {ro:Option Nat}{n:Nat}(hn:n<=AM){ops:Array Oper}{Z0:Zt}{σ0:Sg}{m:Nat}{Q:Ex->Env->AH->Prop}(hY:cI P Z0 σ0 m):∀(l:List Oper) (al:List A_),CB P n ops l=some al->(ro=none\/al.all (fun o=>!o.k.B0)=true) ->
  ∀(Z:Zt) (σ:Sg) (H:AH) (e:Env) (a:Act) (w:World),CO Z0 Z->Nw σ0 m σ->m<=H.next->WR Z σ H w->FR Z σ n e a ->
   CI P al e H (fun e' H'=>Q .normal e' H') (fun v e' H'=>Q (.Bd v) e' H')->wpListIn (RF ro) 0 P ops (QR Z0 σ0 n m Q) l a w:=by
 intro l
 induction l with
 | nil=>
  intro al hal hro Z σ H e a w hZ hS hm hW he h
  simp only[CB,AD]at hal;subst hal
  exact⟨Z,σ,.normal,e,H,hZ,hS,hm,hW,he,rfl,h⟩
 | cons o l ih=>
  intro al hal hro Z σ H e a w hZ hS hm hW he h
  simp only[CB]at hal
  split at hal
  ·rename_i x xs hx hxs
   simp only[AD]at hal;subst hal
   obtain⟨hk,hd,hdn,hg⟩:=CV hx
   have hro':ro=none\/xs.all (fun o=>!o.k.B0)=true:=hro.imp_right fun hh=>by
    rw[Dz,AS]at hh;exact hh.2
   unfold wpListIn
   simp only[CI]at h
   rcases hg with⟨hg,hgx⟩ | ⟨j,want,s,hg,hgx,hs,hsn,hnd⟩
   ·rw[if_pos (by simp[Region.wanted,hg])]
    rw[hgx]at h
    simp only[]at h
    split at h
    ·rename_i f args hkk
     have hro0:ro=none:=by
      rcases hro with hro | hro
      ·exact hro
      ·rw[Dz,AS,hkk]at hro;cases hro.1
     subst hro0
     rw[hkk]at hk
     split at h
     ·rename_i g first cap ds hf hds
      obtain⟨capt,vs,r1,r2⟩:=WI (w:=w) hk he.er hf
      unfold Oper.wpIn
      refine⟨fun _ _=>trivial,?_⟩
      rw[show(RF none).round=none from rfl,Oper.semAt_none,r1,Oper.uponIn_defer]
      refine ih xs hxs (.inl rfl) Z σ H _ _ w hZ hS hm hW ?_ h
      obtain⟨l',e1,e2⟩:=he.ds
      rw[hds]at e1
      simp only[AV.tup.injEq]at e1
      subst e1
      rw[hd]
      refine FR.put hn (a:={ a with defers:=_::a.defers }) ⟨?_,⟨_,Env.Fu ..,.cons r2 e2⟩,he.sz⟩ hdn (.unk _)
      intro t ht
      rw[Env.Gf _ _ (by omega)]
      exact he.er t ht
     ·exact h.elim
    ·rename_i hnd
     have hnd':x.k.B0=false:=by
      unfold AK.B0
      split
      ·rename_i f args hh;exact absurd hh (hnd f args)
      ·rfl
     exact Rm hn hk hd hdn hnd' hZ hS hm hW he h (fun Z' σ' v H' a' w' g1 g2 g3 g4 g5 g6=>ih xs hxs hro' Z' σ' H' _ a' w' g1 g2 g3 g4 g5 g6) (fun _ _ _ h=>h) hY
   ·rw[hgx]at h
    simp only[]at h
    split at h
    ·rename_i b hb
     have hv:=he.er s (by omega)
     have hy:=Ki (ops:=ops) hs hv hb
     have hw:Region.wanted o (yielded ops a.tmps)=(b==some want):=by simp[Region.wanted,hg,hy]
     rw[hw]
     by_cases hbw:b=some want
     ·rw[if_pos (by simpa using hbw)]
      exact Rm hn hk hd hdn hnd hZ hS hm hW he (h.1 hbw) (fun Z' σ' v H' a' w' g1 g2 g3 g4 g5 g6=>ih xs hxs hro' Z' σ' H' _ a' w' g1 g2 g3 g4 g5 g6) (fun _ _ _ h=>h) hY
     ·rw[if_neg (by simpa using hbw)]
      refine⟨fun _ _=>trivial,ih xs hxs hro' Z σ H _ _ w hZ hS hm hW ?_ (h.2 hbw)⟩
      rw[hd]
      exact he.put hn hdn V_
    ·exact h.elim
  ·cases hal
theorem KW {F:Fence}{n:Nat}{c:Code}{Q:Exit->Act->World->Prop}(R:Nat->Act->World->Prop)
  (round:∀k a w,R k a w->c.wpIn F n P (Exit.then (fun a' w'=>∃k',k'<k/\R k' a' w') Q) a w) (k:Nat) (a:Act) (w:World) (h:R k a w):(Code.loop c).wpIn F n P Q a w:=by
 intro b t cs hro hb hr
 have key:∀k a w,R k a w->∃e a' w',Q e a' w'/\ArrivesIn (Machine.fenced P F) P (lone (b.atR a (.code c::.inLoop c::t)) cs w) b t cs e a' w':=by
  intro k
  induction k using Nat.strongRecOn with
  | _ k ih=>
   intro a w hR
   obtain⟨e,a₁,w₁,hq,harr⟩:=round k a w hR b (.inLoop c::t) cs hro hb hr
   cases e with
   | normal=>
    obtain⟨k',hlt,hR'⟩:=hq
    obtain⟨e₂,a₂,w₂,hq₂,harr₂⟩:=ih k' hlt a₁ w₁ hR'
    exact⟨e₂,a₂,w₂,hq₂,.of_steps (StepsIn.trans harr (.one (fenced_calm hb hr rfl) stepR_inLoop)) harr₂⟩
   | exit id=>exact⟨_,a₁,w₁,hq,.pass (x:=.inLoop c) rfl (fun _ _=>.inl (by simp)) harr⟩
   | goto l=>exact⟨_,a₁,w₁,hq,.pass (x:=.inLoop c) rfl (fun _ _=>.inl (by simp)) harr⟩
   | ret=>exact⟨_,a₁,w₁,hq,.pass (x:=.inLoop c) rfl (fun _ _=>.inl (by simp)) harr⟩
   | panic ch=>exact⟨_,a₁,w₁,hq,.pass (x:=.inLoop c) rfl (fun _ _=>.inl (by simp)) harr⟩
   | outgrown=>exact⟨_,a₁,w₁,hq,.pass (x:=.inLoop c) rfl (fun _ _=>.inl (by simp)) harr⟩
 obtain⟨e,a',w',hq,harr⟩:=key k a w h
 exact⟨e,a',w',hq,.of_steps (.one (fenced_calm hb hr rfl) stepR_loop) harr⟩
end
end
section
section
variable {P:Program}{Z:Zt}{σ:Sg}{H:AH}{w:World}{e:Env}{a:Act}
theorem WR.ghost (h:WR Z σ H w) (o:Cw):WR Z σ (H.push o) w:=by
 have hf:σ H.next=none:=h.fresh _ (A4 _)
 have hne:∀r q,σ r=some q->r≠H.next:=fun r q hq e=>by subst e;rw[hf]at hq;cases hq
 refine⟨h.z,fun r x p hr hp=>?_,fun r r' o o' p p' h1 h2 h3 h4 he=>?_,fun r hr=>h.fresh r (by simp only[AH.GP]at hr;omega),fun r hr=>?_,h.rest⟩
 ·rw[AH.Af _ _ (hne r p hp)]at hr;exact h.h r x p hr hp
 ·rw[AH.Af _ _ (hne r p h3)]at h1
  rw[AH.Af _ _ (hne r' p' h4)]at h2
  exact h.inj r r' _ _ p p' h1 h2 h3 h4 he
 ·simp only[AH.GP]at hr
  rw[AH.Af _ _ (by omega)];exact h.top r (by omega)
theorem WR.fill (h:WR Z σ H w){r:Nat}{o:Obj}{ao:Cw}{p:Ip}(hr0:H.get r=some ao) (hf:σ r=none) (hlt0:r<H.next) (hp:p.b=w.heap.size) (ho:IZ Z (σ.add r p) (w.alloc o) p ao) (hfz:Rest w (w.alloc o)) :
  WR Z (σ.add r p) H (w.alloc o):=by
 have hlt:∀r o' p',H.get r=some o'->σ r=some p'->p'.b<w.heap.size:=fun r o' p' h1 h2=>(h.h r o' p' h1 h2).2.lt
 refine⟨fun b o' hz=>?_,fun q o' p' hr hp'=>?_,fun q q' o1 o2 p1 p2 h1 h2 h3 h4 he=>?_,fun q hq=>?_,h.top,h.rest.to hfz⟩
 ·have:=h.z b o' hz
  rw[EV w o (Aj.1 this).1];exact this
 ·by_cases e:q=r
  ·subst e
   rw[hr0]at hr
   simp only[AD]at hr
   simp only[Sg.add_same,AD]at hp'
   subst hr;subst hp'
   refine⟨?_,ho⟩
   cases hz:Z p.b with
   | none=>rfl
   | some x=>have:=(Aj.1 (h.z _ _ hz)).1;omega
  ·have hp'':σ q=some p':=by simpa[Sg.add,e]using hp'
   obtain⟨h1,h2⟩:=h.h q o' p' hr hp''
   exact⟨h1,h2.mono (CO.refl _) (Sg.F9 hf) (EV w o h2.lt)⟩
 ·by_cases e1:q=r<;>by_cases e2:q'=r
  ·rw[e1,e2]
  ·have h4':σ q'=some p2:=by simpa[Sg.add,e2]using h4
   subst e1
   simp only[Sg.add_same,AD]at h3
   subst h3
   have:=hlt _ _ _ h2 h4'
   omega
  ·have h3':σ q=some p1:=by simpa[Sg.add,e1]using h3
   subst e2
   simp only[Sg.add_same,AD]at h4
   subst h4
   have:=hlt _ _ _ h1 h3'
   omega
  ·exact h.inj q q' o1 o2 p1 p2 h1 h2 (by simpa[Sg.add,e1]using h3) (by simpa[Sg.add,e2]using h4) he
 ·have:q≠r:=by omega
  simp only[Sg.add,this,if_false]
  exact h.fresh q hq
theorem Nw.sP (σ:Sg) {n r:Nat}(p:Ip) (h:n<=r):Nw σ n (σ.add r p):=by
 intro x hx
 have:x≠r:=by omega
 simp[Sg.add,this]
def FK (k:AK) (e:Env):Option (List AV × (Nat->AV)):=
 match k with
 | .alloc z=>some (z,fun r=>.ptr r 0)
 | .box x=>match (x.ev e).cellsOf with
  | some l=>some (l,fun r=>.ptr r 0)
  | none=>none
 | .buildSlice _ len z ps=>match Bv e z ps with
  | some out=>some (out,fun r=>.sl r 0 len (.ex len))
  | none=>none
 | .mkSlice _ bytes z l c=>match l.ev e,c.ev e with
  | .int _ l,.int _ c=>if 0<=l/\l<=c/\c<=9223372036854775807/\(bytes:Int)*c<=281474976710656 then some (D6 c.toNat z,fun r=>.sl r 0 l.toNat (.ex c.toNat))else none
  | _,_=>none
 | _=>none
structure WT (P:Program) (Z:Zt) (σ:Sg) (s:Sem Next) (l:List AV) (f:Nat->AV):Prop where
 run:∀w:World,∃(c:Array Value) (el:TypeId) (cv:Value),s.run P w=.ok (.value cv) (w.alloc (.cells c el))/\l.length<=c.size/\CC Z σ l (c.toList.take l.length) /\
  (∀u∈c.toList.take l.length,u.oneCell'=true)/\∀(Z':Zt) (σ':Sg) (r:Nat),σ' r=some ⟨w.heap.size,0,c.size⟩->VR Z' σ' (f r) cv
theorem WT.fill {s:Sem Next}{l:List AV}{f:Nat->AV}(hn:WT P Z σ s l f) (hW:WR Z σ H w){r:Nat}(hr:H.get r=some (.cells l)) (hf:σ r=none) (hlt:r<H.next) :
  ∃cv w' p,s.run P w=.ok (.value cv) w'/\WR Z (σ.add r p) H w'/\VR Z (σ.add r p) (f r) cv:=by
 obtain⟨c,el,cv,r1,r2,r3,r4,r5⟩:=hn.run w
 refine⟨cv,_,⟨w.heap.size,0,c.size⟩,r1,?_,r5 _ _ _ (Sg.add_same _ _ _)⟩
 refine hW.fill hr hf hlt rfl (.cells (Dk w _) rfl (.inl rfl) (by simpa using r2) ?_ ?_) (Rest.alloc _ _ _)
 ·simp only[B5];exact r3.mono (CO.refl _) (Sg.F9 hf)
 ·simpa using r4
theorem WE {o:Oper}{k:AK}(hk:Dp P o=some k) (he:ER Z σ e a){l:List AV}{f:Nat->AV}(h:FK k e=some (l,f)):WT P Z σ (execOp a.eval o) l f:=by
 have hinv:=C2 hk
 unfold FK at h
 split at h
 ·rename_i z
  obtain⟨t,ho,h1⟩:=hinv
  simp only[AD,Ao]at h
  obtain⟨rfl,rfl⟩:=h
  obtain⟨i,zv,h1,h2,h3,h4⟩:=CX (Z:=Z) (σ:=σ) h1
  have hl:z.length=zv.cells.size:=by simpa using h3.length
  have ht:zv.cells.toList.take z.length=zv.cells.toList:=AX (by simp;omega)
  refine⟨fun w=>⟨zv.cells,t,.pointer (some ⟨w.heap.size,0,none⟩),?_,by omega,by rw[ht];exact h3,by rw[ht];exact h4,fun Z' σ' r hr=>.ptr (p:=⟨w.heap.size,0,zv.cells.size⟩) hr⟩⟩
  simp[execOp,ho,Instr.alloc,zeroValue,typeInfo,h1,h2,newVar,newRow]
 ·obtain⟨t,y,ho,h1⟩:=hinv
  split at h<;>simp only[AD,Ao,reduceCtorEq]at h
  rename_i l' hl
  obtain⟨rfl,rfl⟩:=h
  obtain⟨h3,h4⟩:=AV.Fk hl (AI he h1)
  have hl:l'.length=(a.eval y).cells.size:=by simpa using h3.length
  have ht:(a.eval y).cells.toList.take l'.length=(a.eval y).cells.toList:=AX (by simp;omega)
  refine⟨fun w=>⟨(a.eval y).cells,t,.pointer (some ⟨w.heap.size,0,none⟩),?_,by omega,by rw[ht];exact h3,by rw[ht];exact h4,fun Z' σ' r hr=>.ptr (p:=⟨w.heap.size,0,(a.eval y).cells.size⟩) hr⟩⟩
  simp[execOp,ho,Instr.box,newVar,newRow]
 ·rename_i n len z ps
  obtain⟨t,qs,el,zz,ho,hu,hn,hz,hnz,h0,hlim,hq,rfl⟩:=hinv
  split at h<;>simp only[AD,Ao,reduceCtorEq]at h
  rename_i out hf
  obtain⟨rfl,rfl⟩:=h
  obtain⟨i,zv,h1,h2,h3,h4⟩:=CX (Z:=Z) (σ:=σ) hz
  have hl:zz.length=zv.cells.size:=by simpa using h3.length
  obtain⟨g1,g2⟩:=Hf h3 h4 (by omega) len
  obtain⟨vs',r1,r2,r3⟩:=Gq he hq (vs:=(Array.range (len*zv.cells.size)).map (zv.cells[· % zv.cells.size]!)) g1 g2 hf
  have hlo:out.length=vs'.size:=by simpa using r2.length
  have ht:vs'.toList.take out.length=vs'.toList:=AX (by simp;omega)
  refine⟨fun w=>⟨vs',el,.slice (some ⟨w.heap.size,0,none⟩) len len,?_,by omega,by rw[ht];exact r2,by rw[ht];exact r3,fun Z' σ' r hr=>.slx (p:=⟨w.heap.size,0,vs'.size⟩) hr (A4 _)⟩⟩
  have hns:n=zv.cells.size:=by omega
  by_cases h0:len*n=0
  ·have e0:((Array.range (len*n)).map (#[][· % (#[]:Array Value).size]!))=(Array.range (len*zv.cells.size)).map (zv.cells[· % zv.cells.size]!):=by
    rw[<- hns,h0];simp
   simp only[execOp,ho,Instr.buildSlice,Sem.run_bind,run_underlying hu,Result.andThen_ok,BX hn,if_neg (show ¬(len*n>2 ^ 24)by omega),if_pos h0,Sem.run_pure,e0,GV,r1,newRow,run_newObj]
   rfl
  ·have hzv:(zeroValue el).run P w=.ok zv w:=by simp[zeroValue,typeInfo,h1,h2]
   subst hns
   simp only[execOp,ho,Instr.buildSlice,Sem.run_bind,run_underlying hu,Result.andThen_ok,BX hn,if_neg (show ¬(len*zv.cells.size>2 ^ 24)by omega),if_neg h0,Sem.run_pure,hzv,GV,r1,newRow,run_newObj]
   simp[zeroValue,typeInfo,h1,h2,r1]
 ·rename_i sz bytes z lo co
  obtain⟨t,l',c',el,i,ho,hu,hi,hz,rfl,rfl,hnz,hn0,h1,h2⟩:=hinv
  split at h<;>(try cases h;done)
  rename_i kl l kc c hl hc
  split at h<;>simp only[AD,Ao,reduceCtorEq]at h
  rename_i hb
  obtain⟨rfl,rfl⟩:=h
  obtain⟨h0,hlc,fq,hb⟩:=hb
  have e1:=AI he h1
  have e2:=AI he h2
  rw[hl]at e1;rw[hc]at e2
  have e1:=e1.Bh
  have e2:=e2.Bh
  obtain⟨i',zv,h1,h2,h3,h4⟩:=CX (Z:=Z) (σ:=σ) hz
  rw[hi]at h1;cases h1
  have hl:z.length=zv.cells.size:=by simpa using h3.length
  obtain⟨g1,g2⟩:=Hf h3 h4 (by omega) c.toNat
  have hlo:(D6 c.toNat z).length=((Array.range (c.toNat*zv.cells.size)).map (zv.cells[· % zv.cells.size]!)).size:=by simp[HE,hl]
  have ht:((Array.range (c.toNat*zv.cells.size)).map (zv.cells[· % zv.cells.size]!)).toList.take (D6 c.toNat z).length=((Array.range (c.toNat*zv.cells.size)).map (zv.cells[· % zv.cells.size]!)).toList:=
   AX (by rw[Fe];omega)
  refine⟨fun w=>⟨(Array.range (c.toNat*zv.cells.size)).map (zv.cells[· % zv.cells.size]!),el,.slice (some ⟨w.heap.size,0,none⟩) l.toNat c.toNat,?_,by omega,by rw[ht];exact g1,by rw[ht];exact g2,
   fun Z' σ' r hr=>.slx (p:=⟨w.heap.size,0,_⟩) hr (by omega)⟩⟩
  have e3:¬(c<0):=by omega
  have e4:¬(281474976710656<(i.bytes:Int)*c):=by omega
  have e5:¬(l<0):=by omega
  have e6:¬(c<l):=by omega
  have hns:i.size=zv.cells.size:=by omega
  by_cases hz0:c.toNat*zv.cells.size=0
  ·have hzz:c.toNat=0:=by
    rcases Nat.mul_eq_zero.1 hz0 with h | h
    ·exact h
    ·omega
   simp[execOp,ho,e1,e2,Instr.makeSlice,asInt,asIntOf,run_underlying hu,typeInfo,hi,EG h0 (by omega),EG (by omega:0<=c) fq,e3,e4,e5,e6,sizeOf,newRow,hzz]
   have:Array.range 0=#[]:=by simp
   rw[this]
   simp
  ·simp[execOp,ho,e1,e2,Instr.makeSlice,asInt,asIntOf,run_underlying hu,typeInfo,hi,EG h0 (by omega),EG (by omega:0<=c) fq,e3,e4,e5,e6,sizeOf,hns,zeroValue,h2,newRow,hz0]
 ·cases h
def AE.tmps:AE->List Nat
 | .tmp t=>[t]
 | _=>[]
def IP:Option AE->List Nat
 | some x=>x.tmps
 | none=>[]
def AK.tmps:AK->List Nat
 | .move x | .nilCheck x | .un _ x | .convI _ x | .convS x | .mkIface _ x | .fieldAddr _ x | .field _ _ x | .extract _ x | .len x | .lenStr x | .load _ x | .strOfBytes x | .box x | .panic x | .cap x | .mark x | .bytesOf x | .Is _ _ x | .lenMap x | .tass _ _ x | .rangeM x | .nextM x | .entryM x=>x.tmps
 | .ext _ x y | .copy _ x y=>x.tmps++y.tmps
 | .pick c a b=>c.tmps++(a.tmps++b.tmps)
 | .build _ ps | .buildSlice _ _ _ ps=>ps.flatMap fun p=>p.2.2.tmps
 | .bin _ x y | .indexAddrA _ _ x y | .indexAddrS _ x y | .indexA _ _ _ x y | .indexStr x y | .minmax _ x y | .mkSlice _ _ _ x y | .store _ x y | .append _ _ x y | .eq _ _ x y | .appendZ _ _ _ x y | .lookup _ _ _ x y=>x.tmps++y.tmps
 | .minmax3 _ x y z | .mapUpd _ x y z=>x.tmps++(y.tmps++z.tmps)
 | .mkFunc _ f c=>f.flatMap (·.tmps)++c.flatMap (·.tmps)
 | .sliceStr x lo hi=>x.tmps++(IP lo++IP hi)
 | .sliceS _ x lo hi mx | .sliceA _ _ x lo hi mx=>x.tmps++(IP lo++(IP hi++IP mx))
 | .lenA _ | .alloc _ | .recover | .makeMap | .gld _ _=>[]
 | .call f args | .defer f args=>f.tmps++args.flatMap (·.tmps)
theorem AE.BN {e e':Env}{x:AE}(h:∀t∈x.tmps,e t=e' t):x.ev e=x.ev e':=by
 cases x with
 | tmp t=>exact h t (by simp[AE.tmps])
 | _=>rfl
theorem Mp {e e':Env}{l:List AE}(h:∀t∈l.flatMap (·.tmps),e t=e' t):l.map (·.ev e)=l.map (·.ev e'):=
 List.map_congr_left fun x hx=>AE.BN fun t ht=>h t (List.mem_flatMap.2 ⟨x,hx,ht⟩)
theorem Vu {e e':Env}{x:Option AE}(h:∀t∈IP x,e t=e' t):AE.ints e x=AE.ints e' x:=by
 cases x with
 | none=>rfl
 | some x=>simp only[AE.ints,AE.BN (e:=e) (e':=e') (x:=x) h]
theorem HL {e e':Env}:∀{ps:List (Nat × Nat × AE)}{z:List AV},(∀t∈ps.flatMap (fun p=>p.2.2.tmps),e t=e' t)->Bv e z ps=Bv e' z ps
 | [],z,_=>rfl
 | (off,n,x)::ps,z,h=>by
  simp only[Bv,AE.BN (e:=e) (e':=e') (x:=x) fun t ht=>h t (by simp[ht])]
  split
  ·rfl
  ·split
   ·exact HL fun t ht=>h t (by simp only[Gb];exact BS _ ht)
   ·rfl
theorem Jp {e e':Env}{k:AK}(h:∀t∈k.tmps,e t=e' t):AJ k e=AJ k e':=by
 have opd:∀x:AE,(∀t∈x.tmps,t∈k.tmps)->x.ev e=x.ev e':=fun x hx=>AE.BN fun t ht=>h t (hx t ht)
 have oint:∀x:Option AE,(∀t∈IP x,t∈k.tmps)->AE.ints e x=AE.ints e' x:=fun x hx=>Vu fun t ht=>h t (hx t ht)
 cases k<;>simp only[AJ]<;>(try rfl)
 case build z ps=>rw[HL h]
 case mkFunc f a b=>rw[Mp fun t ht=>h t (by simp only[AK.tmps];exact Cj _ ht),Mp fun t ht=>h t (by simp only[AK.tmps];exact BS _ ht)]
 case sliceStr x lo hi=>rw[opd x (by simp +contextual [AK.tmps]),oint lo (by simp +contextual [AK.tmps]),oint hi (by simp +contextual [AK.tmps])]
 case sliceS n x lo hi mx=>rw[opd x (by simp +contextual [AK.tmps]),oint lo (by simp +contextual [AK.tmps]),oint hi (by simp +contextual [AK.tmps]),oint mx (by simp +contextual [AK.tmps])]
 case sliceA m n x lo hi mx=>rw[opd x (by simp +contextual [AK.tmps]),oint lo (by simp +contextual [AK.tmps]),oint hi (by simp +contextual [AK.tmps]),oint mx (by simp +contextual [AK.tmps])]
 case minmax3 m c a b=>rw[opd c (by simp +contextual [AK.tmps]),opd a (by simp +contextual [AK.tmps]),opd b (by simp +contextual [AK.tmps])]
 case pick c a b=>rw[opd c (by simp +contextual [AK.tmps]),opd a (by simp +contextual [AK.tmps]),opd b (by simp +contextual [AK.tmps])]
 all_goals first
  | (rename_i x y;rw[opd x (by simp +contextual [AK.tmps]),opd y (by simp +contextual [AK.tmps])])
  | (rename_i x;rw[opd x (by simp +contextual [AK.tmps])])
theorem Jo {e e':Env}{k:AK}(h:∀t∈k.tmps,e t=e' t):AY k e H=AY k e' H:=by
 unfold AY
 split
 ·rw[AE.BN h]
 ·rw[AE.BN h]
 ·rw[AE.BN fun t ht=>h t (by simp[AK.tmps,ht]),AE.BN fun t ht=>h t (by simp[AK.tmps,ht])]
 ·rw[AE.BN h]
 ·rename_i c x y
  rw[AE.BN (x:=x) fun t ht=>h t (by simp[AK.tmps,ht]),AE.BN (x:=y) fun t ht=>h t (by simp[AK.tmps,ht])]
 ·rw[AE.BN h]
 ·rfl
 ·rfl
theorem QL {e e':Env}{k:AK}(h:∀t∈k.tmps,e t=e' t):FK k e=FK k e':=by
 unfold FK
 split
 ·rfl
 ·rw[AE.BN h]
 ·rw[HL h]
 ·rw[AE.BN fun t ht=>h t (by simp[AK.tmps,ht]),AE.BN fun t ht=>h t (by simp[AK.tmps,ht])]
 ·rfl
theorem WH {e e':Env}{k:AK}(h:∀t∈k.tmps,e t=e' t):BC k e H=BC k e' H:=by
 unfold BC
 split
 ·rfl
 ·rw[AE.BN h]
 ·rw[HL h]
 all_goals first
  | rfl
  | rw[AE.BN h]
  | rw[AE.BN fun t ht=>h t (by simp[AK.tmps,ht]),AE.BN fun t ht=>h t (by simp[AK.tmps,ht]),AE.BN fun t ht=>h t (by simp[AK.tmps,ht])]
  | rw[AE.BN fun t ht=>h t (by simp[AK.tmps,ht]),AE.BN fun t ht=>h t (by simp[AK.tmps,ht])]
theorem WC {e e':Env}{k:AK}(h:∀t∈k.tmps,e t=e' t):A6 k e H=A6 k e' H:=by
 unfold A6
 rw[Jp h,Jo h,WH h]
theorem Mw [YC] {e e':Env}{k:AK}{K Kp:AV->AH->Prop}(h:∀t∈k.tmps,e t=e' t):G1 P k e H K Kp↔G1 P k e' H K Kp:=by
 cases k with
 | call f args=>
  simp only[G1]
  rw[AE.BN (e:=e) (e':=e') fun t ht=>h t (by simp only[AK.tmps];exact Cj _ ht),Mp fun t ht=>h t (by simp only[AK.tmps];exact BS _ ht)]
 | panic x=>simp only[G1];rw[AE.BN (e:=e) (e':=e') h]
 | defer f args=>exact Iff.rfl
 | recover=>exact Iff.rfl
 | nextM x=>simp only[G1];rw[AE.BN (e:=e) (e':=e') h]
 | _=>simp only[G1];rw[WC h]
end
end
structure DX where
 i:Nat
 o:A_
 pre:Nat
 fl:List Nat
 eff:Bool
def A_.tmps (o:A_):List Nat:=o.k.tmps++(match o.gd with | some (s,_)=>[s] | none=>[])
abbrev Ez:=List (Nat × (AH->Prop))
def Ul:List Nat->Ez->AH->Prop
 | [],_,_=>True
 | i::is,ps,H=>(match ps.lookup i with | some p=>p H | none=>True)/\Ul is ps H
def A1 [YC] (P:Program) (ep:Env) (K:Env->AH->Prop) (Kp:AV->Env->AH->Prop):List DX->Env->AH->Ez->Prop
 | [],e,H,_=>K e H
 | it::l,e,H,pend=>
  let step:Prop:=
   if it.eff then G1 P it.o.k e H (fun v H'=>Ul it.fl pend H'/\A1 P ep K Kp l (e.put it.o.dst v) H' pend) (fun v H'=>Kp v ep H')
   else match AJ it.o.k e with
    | some v=>A1 P ep K Kp l (e.put it.o.dst v) H pend
    | none=>match AY it.o.k e H with
     | some v=>A1 P ep K Kp l (e.put it.o.dst v) H ((it.i,fun H'=>AY it.o.k e H'=some v)::pend)
     | none=>match FK it.o.k e with
      | some (c,f)=>A1 P ep K Kp l (e.put it.o.dst (f H.next)) (H.push (.cells c)) ((it.i,fun H'=>H'.get H.next=some (.cells c))::pend)
      | none=>False
  match it.o.gd with
  | none=>step
  | some (s,want)=>match MN (e s)with
   | some b=>(b=some want->step)/\(b≠some want->A1 P ep K Kp l (e.put it.o.dst Bp) H pend)
   | none=>False
def Is (plan:List DX) (e:Env):Env:=fun t=>if plan.any (fun it=>it.o.dst==some t)then .unk else e t
def K6 (ops:Array Oper) (i:Nat):List Nat:=match ops[i]? with
 | some o=>(o.after.toList.filter (Region.binds .any)).map (·.on)
 | none=>[]
def RA (plan:List DX) (i:Nat):Nat:=match plan.find? (fun it=>it.i==i)with
 | some it=>it.pre
 | none=>0
def KA (plan:List DX):List Nat->Nat
 | []=>0
 | p::ps=>(1 <<< p ||| RA plan p) ||| KA plan ps
def AK.L9:AK->Bool
 | .load _ _ | .strOfBytes _ | .lookup .. | .lenMap _ | .ext .. | .entryM _ | .gld .. | .alloc _ | .box _ | .buildSlice .. | .mkSlice ..=>true
 | _=>false
def SY (ops:Array Oper) (a b:DX):Bool:=
 a.i != b.i&&!((K6 ops a.i).contains b.i) &&
 (match b.o.dst with
  | some t=>a.o.dst != some t&&(!(a.o.tmps.contains t)||b.pre.testBit a.i)
  | none=>true) &&
 (match a.o.dst with
  | some t=>!(b.o.tmps.contains t)||b.pre.testBit a.i
  | none=>true) &&
 (!a.eff||b.pre.testBit a.i) &&
 (!b.eff||a.eff||!a.o.k.L9||b.pre.testBit a.i||b.fl.contains a.i)
def Z6 (ops:Array Oper) (plan:List DX) (a:DX):Bool:=
 decide (a.i<ops.size)&&!((K6 ops a.i).contains a.i)&&(match a.o.dst with | some t=>!(a.o.tmps.contains t) | none=>true) &&
 a.pre==KA plan (K6 ops a.i)&&!a.o.k.B0&&(K6 ops a.i).all (fun p=>decide (p<ops.size))
def OL (ops:Array Oper):List DX->Bool
 | []=>true
 | a::l=>l.all (SY ops a)&&OL ops l
def VY (ops:Array Oper) (plan:List DX):Bool:=
 plan.all (Z6 ops plan)&&OL ops plan&&(List.range ops.size).all (fun i=>plan.any (fun it=>it.i==i))
def Mi (P:Program) (n:Nat) (ops:Array Oper):List (Nat × Nat × List Nat × Bool)->Option (List DX)
 | []=>some []
 | (i,pre,fl,eff)::l=>match (ops[i]?).bind (Di P n ops),Mi P n ops l with
  | some o,some r=>some (⟨i,o,pre,fl,eff⟩::r)
  | _,_=>none
theorem Lq {ops:Array Oper}:∀{l:List DX},OL ops l=true->l.Pairwise (fun a b=>SY ops a b=true)
 | [],_=>.nil
 | a::l,h=>by
  simp only[OL,AS,CW]at h
  exact .cons h.1 (Lq h.2)
theorem NI {P:Program}{n:Nat}{ops:Array Oper}:∀{hs:List (Nat × Nat × List Nat × Bool)}{plan:List DX},Mi P n ops hs=some plan ->
  ∀it∈plan,∃o,ops[it.i]?=some o/\Di P n ops o=some it.o
 | [],plan,h=>by simp only[Mi,AD]at h;subst h;simp
 | (i,pre,fl,eff)::l,plan,h=>by
  simp only[Mi]at h
  split at h<;>simp only[AD,reduceCtorEq]at h
  rename_i o r h1 h2
  subst h
  intro it hit
  cases hit with
  | head=>simpa only[C5]using h1
  | tail _ hit=>exact NI h2 it hit
theorem Ln {plan:List DX}{j:Nat}:∀{ps:List Nat},(KA plan ps).testBit j=true->∃p∈ps,j=p\/(RA plan p).testBit j=true
 | [],h=>by simp[KA]at h
 | p::ps,h=>by
  simp only[KA,Nat.testBit_or,Ec]at h
  rcases h with(h | h) | h
  ·refine⟨p,by simp,.inl ?_⟩
   rw[Nat.one_shiftLeft,Oj]at h
   simpa using(of_decide_eq_true h).symm
  ·exact⟨p,by simp,.inr h⟩
  ·obtain⟨q,hq,hh⟩:=Ln h
   exact⟨q,Cx _ hq,hh⟩
structure Kh (ops:Array Oper) (a b:DX):Prop where
 ne:a.i≠b.i
 dir:b.i ∉ K6 ops a.i
 dst:∀t,b.o.dst=some t->a.o.dst≠some t
 r1:∀t,b.o.dst=some t->t∈a.o.tmps->b.pre.testBit a.i=true
 r2:∀t,a.o.dst=some t->t∈b.o.tmps->b.pre.testBit a.i=true
 eff:a.eff=true->b.pre.testBit a.i=true
 fl:b.eff=true->a.eff=false->a.o.k.L9=true->b.pre.testBit a.i=true\/a.i∈b.fl
theorem T0 {ops:Array Oper}{a b:DX}(h:SY ops a b=true):Kh ops a b:=by
 unfold SY at h
 simp only[AS,bne_iff_ne,ne_eq,E5,Ec,Rz]at h
 obtain⟨⟨⟨⟨⟨h1,h2⟩,h3⟩,h4⟩,h5⟩,h6⟩:=h
 refine⟨h1,by simpa using h2,fun t ht=>?_,fun t ht hm=>?_,fun t ht hm=>?_,fun he=>?_,fun hb ha hm=>?_⟩
 ·rw[ht]at h3
  simp only[AS,bne_iff_ne,ne_eq]at h3
  exact h3.1
 ·rw[ht]at h3
  simp only[AS,bne_iff_ne,ne_eq,Ec,E5]at h3
  rcases h3.2 with h | h
  ·simp at h;exact absurd hm h
  ·exact h
 ·rw[ht]at h4
  simp only[Ec,E5]at h4
  rcases h4 with h | h
  ·simp at h;exact absurd hm h
  ·exact h
 ·rcases h5 with h | h
  ·rw[he]at h;cases h
  ·exact h
 ·rcases h6 with(((h | h) | h) | h) | h
  ·rw[hb]at h;cases h
  ·rw[ha]at h;cases h
  ·rw[hm]at h;cases h
  ·exact .inl h
  ·exact .inr (by simpa using h)
structure oR (ops:Array Oper) (plan:List DX) (a:DX):Prop where
 lt:a.i<ops.size
 dir:a.i ∉ K6 ops a.i
 own:∀t,a.o.dst=some t->t ∉ a.o.tmps
 pre:a.pre=KA plan (K6 ops a.i)
 nd:a.o.k.B0=false
 dlt:∀p∈K6 ops a.i,p<ops.size
theorem Vc {ops:Array Oper}{plan:List DX}{a:DX}(h:Z6 ops plan a=true):oR ops plan a:=by
 unfold Z6 at h
 simp only[AS,decide_eq_true_eq,E5,beq_iff_eq,CW]at h
 obtain⟨⟨⟨⟨⟨h1,h2⟩,h3⟩,h4⟩,h5⟩,h6⟩:=h
 refine⟨h1,by simpa using h2,fun t ht=>?_,h4,h5,h6⟩
 rw[ht]at h3
 simpa using h3
structure F5 (P:Program) (n:Nat) (ops:Array Oper) (plan:List DX):Prop where
 own:∀a∈plan,oR ops plan a
 pair:plan.Pairwise (Kh ops)
 all:∀i,i<ops.size->∃a∈plan,a.i=i
 op:∀a∈plan,∃o,ops[a.i]?=some o/\Di P n ops o=some a.o
theorem Ts {P:Program}{n:Nat}{ops:Array Oper}{hs:List (Nat × Nat × List Nat × Bool)}{plan:List DX}(h:VY ops plan=true) (hm:Mi P n ops hs=some plan):F5 P n ops plan:=by
 unfold VY at h
 simp only[AS,CW,GW,beq_iff_eq,LJ]at h
 exact⟨fun a ha=>Vc (h.1.1 a ha),(Lq h.1.2).imp T0,fun i hi=>h.2 i hi,NI hm⟩
theorem F5.uniq {P:Program}{n:Nat}{ops:Array Oper}{plan:List DX}(h:F5 P n ops plan) {a b:DX}(ha:a∈plan) (hb:b∈plan) (hi:a.i=b.i):a=b:=by
 have:∀(l:List DX),l.Pairwise (Kh ops)->a∈l->b∈l->a=b:=by
  intro l hl
  induction hl with
  | nil=>intro h;simp at h
  | cons h1 _ ih=>
   intro ha hb
   cases ha with
   | head=>cases hb with
    | head=>rfl
    | tail _ hb=>exact absurd hi (h1 _ hb).ne
   | tail _ ha=>cases hb with
    | head=>exact absurd hi.symm (h1 _ ha).ne
    | tail _ hb=>exact ih ha hb
 exact this plan h.pair ha hb
theorem F5.Zo {P:Program}{n:Nat}{ops:Array Oper}{plan:List DX}(h:F5 P n ops plan){a:DX}(ha:a∈plan):RA plan a.i=a.pre:=by
 unfold RA
 cases hf:plan.find? (fun it=>it.i==a.i)with
 | none=>have:=List.find?_eq_none.1 hf a ha;simp at this
 | some b=>
  have hb:=List.mem_of_find?_eq_some hf
  have hi:=List.find?_some hf
  have:b=a:=h.uniq hb ha (by simpa using hi)
  simp[this]
section
inductive oI where
 | skip
 | pure
 | read
 | new (id:Nat) (l:List AV) (f:Nat->AV)
def oI.mem:oI->Bool
 | .read | .new ..=>true
 | _=>false
structure U5 where
 it:DX
 ee:Env
 v:AV
 md:oI
def kp (o:A_) (e:Env):Prop:=o.gd=none\/∃s want,o.gd=some (s,want)/\MN (e s)=some (some want)
def Ia (x:U5) (H:AH):Prop:=match x.md with
 | .read=>AY x.it.o.k x.ee H=some x.v
 | .new id l _=>H.get id=some (.cells l)
 | _=>True
def Nu (m:Nat) (x:U5) (H:AH) (σ:Sg):Prop:=match x.md with
 | .skip=>x.v=Bp/\∃s want b,x.it.o.gd=some (s,want)/\MN (x.ee s)=some b/\b≠some want
 | .pure=>kp x.it.o x.ee/\AJ x.it.o.k x.ee=some x.v
 | .read=>kp x.it.o x.ee/\AJ x.it.o.k x.ee=none
 | .new id l f=>kp x.it.o x.ee/\FK x.it.o.k x.ee=some (l,f)/\x.v=f id/\σ id=none/\m<=id/\id<H.next
def FG (U:List U5) (e0 e:Env):Env:=fun t=>if U.any (fun x=>x.it.o.dst==some t)then e0 t else e t
theorem Fx {U:List U5}{e0 e:Env}{t:Nat}{x:U5}(hx:x∈U) (h:x.it.o.dst=some t):FG U e0 e t=e0 t:=by
 unfold FG;rw[if_pos];exact List.any_eq_true.2 ⟨x,hx,by simp[h]⟩
theorem Cd {U:List U5}{e0 e:Env}{t:Nat}(h:∀x∈U,x.it.o.dst≠some t):FG U e0 e t=e t:=by
 unfold FG;rw[if_neg];intro hh
 obtain⟨x,hx,he⟩:=GW.1 hh
 exact h x hx (by simpa using he)
section
variable {P:Program}{n:Nat}{ops:Array Oper}{Z:Zt}{σ:Sg}{H:AH}{w:World}{a:Act}
theorem J0 {o:Oper}{x:A_}(hx:Di P n ops o=some x) {e eS:Env}(hn:n<=AM) (he:FR Z σ n eS a) (hag:∀t∈x.tmps,e t=eS t) (h:kp x e) :
  Region.wanted o (yielded ops a.tmps)=true:=by
 obtain⟨hk,hd,hdn,hg⟩:=CV hx
 rcases hg with⟨hg,hgx⟩ | ⟨j,want,s,hg,hgx,hs,hsn,hnd⟩
 ·simp[Region.wanted,hg]
 ·rcases h with h | ⟨s',want',h1,h2⟩
  ·rw[hgx]at h;cases h
  ·rw[hgx]at h1;cases h1
   have hm:s∈x.tmps:=by simp[A_.tmps,hgx]
   have hv:=he.er s (by omega)
   rw[hag s hm]at h2
   have hy:=Ki (ops:=ops) hs hv h2
   simp[Region.wanted,hg,hy]
theorem M8 {o:Oper}{x:A_}(hx:Di P n ops o=some x) {e eS:Env}(hn:n<=AM) (he:FR Z σ n eS a) (hag:∀t∈x.tmps,e t=eS t){s:Nat}{want:Bool}{b:Option Bool}
  (h1:x.gd=some (s,want)) (h2:MN (e s)=some b) (h3:b≠some want):Region.wanted o (yielded ops a.tmps)=false:=by
 obtain⟨hk,hd,hdn,hg⟩:=CV hx
 rcases hg with⟨hg,hgx⟩ | ⟨j,want',s',hg,hgx,hs,hsn,hnd⟩
 ·rw[hgx]at h1;cases h1
 ·rw[hgx]at h1;cases h1
  have hm:s∈x.tmps:=by simp[A_.tmps,hgx]
  have hv:=he.er s (by omega)
  rw[hag s hm]at h2
  have hy:=Ki (ops:=ops) hs hv h2
  simp[Region.wanted,hg,hy,h3]
theorem W9 {k:AK}{e:Env}{v:AV}(h:AJ k e=some v):k.B0=false/\k≠.panic (.cst .unk):=by
 refine⟨?_,fun hp=>by subst hp;cases h⟩
 unfold AK.B0;split
 ·cases h
 ·rfl
theorem W8 {k:AK}{e:Env}{v:AV}(h:AY k e H=some v):k.B0=false/\k≠.panic (.cst .unk):=by
 refine⟨?_,fun hp=>by subst hp;cases h⟩
 unfold AK.B0;split
 ·cases h
 ·rfl
theorem aD {k:AK}{e:Env}{v:List AV × (Nat->AV)}(h:FK k e=some v):k.B0=false/\k≠.panic (.cst .unk):=by
 refine⟨?_,fun hp=>by subst hp;cases h⟩
 unfold AK.B0;split
 ·cases h
 ·rfl
theorem fB {ro:Option Nat}{m:Nat}{x:U5}{o:Oper}{eS:Env}(hops:ops[x.it.i]?=some o) (hc:Di P n ops o=some x.it.o) (hn:n<=AM) (hW:WR Z σ H w) (he:FR Z σ n eS a)
  (hag:∀t∈x.it.o.tmps,x.ee t=eS t) (hh:Ia x H) (hs:Nu m x H σ) {Qc:Exit->Act->World->Prop} {K:Act->World->Prop}
  (hK:∀cv w' σ',WR Z σ' H w'->(σ'=σ\/∃id l f p,x.md=.new id l f/\σ'=σ.add id p)->VR Z σ' x.v cv->K (a.put o.dst cv) w'):wpOpIn (RF ro) 0 P ops Qc x.it.i K a w:=by
 unfold wpOpIn
 simp only[hops]
 obtain⟨hk,hd,hdn,hg⟩:=CV hc
 have hagk:∀t∈x.it.o.k.tmps,x.ee t=eS t:=fun t ht=>hag t (Cj _ ht)
 unfold Nu at hs
 split at hs
 ·obtain⟨hv,s,want,b,h1,h2,h3⟩:=hs
  rw[M8 hc hn he hag h1 h2 h3]
  simp only[E8,if_false]
  exact⟨fun _ _=>trivial,hK undef w σ hW (.inl rfl) (by rw[hv];exact V_)⟩
 ·obtain⟨hw,hv⟩:=hs
  rw[J0 hc hn he hag hw]
  simp only[if_true]
  obtain⟨cv,r1,r2⟩:=Na hk he.er (by rw[<- Jp hagk];exact hv) w
  unfold Oper.wpIn
  refine⟨fun _ _=>trivial,?_⟩
  rw[JL hk (W9 hv).1 (W9 hv).2,r1,Oper.uponIn_value]
  exact hK cv w σ hW (.inl rfl) r2
 ·rename_i hmd
  obtain⟨hw,hp⟩:=hs
  have hv:AY x.it.o.k x.ee H=some x.v:=by simpa only[Ia,hmd]using hh
  rw[J0 hc hn he hag hw]
  simp only[if_true]
  have hv':AY x.it.o.k eS H=some x.v:=by rw[<- Jo hagk];exact hv
  obtain⟨cv,r1,r2⟩:=NZ (P:=P) hk hW he.er hv'
  unfold Oper.wpIn
  refine⟨fun _ _=>trivial,?_⟩
  rw[JL hk (W8 hv).1 (W8 hv).2,r1,Oper.uponIn_value]
  exact hK cv w σ hW (.inl rfl) r2
 ·rename_i id l f hmd
  obtain⟨hw,hv,hxv,hid,_,hlt⟩:=hs
  have hget:H.get id=some (.cells l):=by simpa only[Ia,hmd]using hh
  rw[J0 hc hn he hag hw]
  simp only[if_true]
  have hr:=WE hk he.er (by rw[<- QL hagk];exact hv)
  obtain⟨cv,w',p,r1,r2,r3⟩:=hr.fill hW hget hid hlt
  unfold Oper.wpIn
  refine⟨fun _ _=>trivial,?_⟩
  rw[JL hk (aD hv).1 (aD hv).2,r1,Oper.uponIn_value]
  exact hK cv w' _ r2 (.inr ⟨id,l,f,p,hmd,rfl⟩) (by rw[hxv];exact r3)
structure Kg (P:Program) (n:Nat) (ops:Array Oper) (plan:List DX) (Z0:Zt) (σ0:Sg) (m:Nat) (e0:Env) (listed:Array Bool) (Z:Zt) (σ:Sg) (a:Act) (w:World)
  (U:List U5) (rest:List DX) (e:Env) (H:AH) (pend:Ez):Prop where
 hZ:CO Z0 Z
 hS:Nw σ0 m σ
 hm:m<=H.next
 hW:WR Z σ H w
 fr:FR Z σ n (FG U e0 e) a
 lsz:listed.size=ops.size
 mem:∀i,i<ops.size->(listed.getD i true=false↔i∈(U.map (·.it)++rest).map (·.i))
 sub:(U.map (·.it)++rest).Sublist plan
 pre:∀j x,j<ops.size->listed.getD j true=true->(RA plan j).testBit x=true->listed.getD x false=true
 eB:∀y∈rest,∀t,y.o.dst=some t->e t=e0 t
 eE:∀t,(∀y∈plan,y.o.dst≠some t)->e t=e0 t
 eA:∀x∈U,∀t∈x.it.o.tmps,(∃x'∈U,x'.it.o.dst=some t/\x'.it.pre.testBit x.it.i=true/\x.ee t=e0 t)\/(x.ee t=e t/\∀x'∈U,x'.it.o.dst=some t->x.it.pre.testBit x'.it.i=true)
 eD:∀x∈U,∀t,x.it.o.dst=some t->e t=x.v
 capH:∀x∈U,Ia x H
 capS:∀x∈U,Nu m x H σ
 ids:U.Pairwise (fun x y=>∀i l f j l' f',x.md=.new i l f->y.md=.new j l' f'->i≠j)
 pnd:∀x∈U,x.it.o.k.L9=false->x.md.mem=false
 pnd':∀x∈U,x.md.mem=false\/∃p,pend.lookup x.it.i=some p/\∀H',p H'->Ia x H'
 neff:∀x∈U,x.it.eff=false
end
end
section
theorem Env.put_eq {e:Env}{d:Option Nat}{t:Nat}{v:AV}(h:d=some t):e.put d v t=v:=by subst h;simp[Env.put]
theorem Env.B2 {e:Env}{d:Option Nat}{t:Nat}{v:AV}(h:d≠some t):e.put d v t=e t:=by
 cases d with
 | none=>rfl
 | some d=>simp only[Env.put];exact Env.Gf _ _ (fun e=>h (by rw[e]))
theorem Hx {l:Array Bool}{x:Nat}(h:l.getD x false=true) (h':l.getD x true=false):False:=by
 rw[Eb]at h h'
 cases hh:l[x]? with
 | none=>rw[hh]at h;simp at h
 | some b=>rw[hh]at h h';simp at h h';rw[h]at h';cases h'
theorem eb {l:Array Bool}{x:Nat}(h:l.getD x false=true):x<l.size:=by
 rw[Eb]at h
 cases hh:l[x]? with
 | none=>rw[hh]at h;simp at h
 | some b=>exact(Aj.1 hh).1
theorem Ra {l:Array Bool}{x:Nat}(hx:x<l.size):l.getD x true=l.getD x false:=by
 simp[Eb,hx]
section
variable {P:Program}{n:Nat}{ops:Array Oper}{plan:List DX}{Z0:Zt}{σ0:Sg}{m:Nat}{e0:Env}{listed:Array Bool}{Z:Zt}{σ:Sg}{a:Act}{w:World}
 {U:List U5} {rest:List DX} {e:Env} {H:AH} {pend:Ez}
theorem Kg.pw (hP:F5 P n ops plan) (S:Kg P n ops plan Z0 σ0 m e0 listed Z σ a w U rest e H pend):(U.map (·.it)++rest).Pairwise (Kh ops):=hP.pair.sublist S.sub
theorem Kg.gn (S:Kg P n ops plan Z0 σ0 m e0 listed Z σ a w U rest e H pend){x:U5}(hx:x∈U):x.it∈plan:=S.sub.mem (Cj _ (E7 hx))
theorem Kg.iC (S:Kg P n ops plan Z0 σ0 m e0 listed Z σ a w U rest e H pend){y:DX}(hy:y∈rest):y∈plan:=S.sub.mem (BS _ hy)
theorem Kg.ur (hP:F5 P n ops plan) (S:Kg P n ops plan Z0 σ0 m e0 listed Z σ a w U rest e H pend){x:U5}(hx:x∈U){y:DX}(hy:y∈rest):Kh ops x.it y:=
 (GD.1 (S.pw hP)).2.2 _ (E7 hx) _ hy
theorem Kg.pass {it:DX}(hP:F5 P n ops plan) (S:Kg P n ops plan Z0 σ0 m e0 listed Z σ a w U (it::rest) e H pend) (heff:it.eff=false){v:AV}{md:oI}{H':AH}{pend':Ez}
  (hc:Ia ⟨it,e,v,md⟩ H') (hs:Nu m ⟨it,e,v,md⟩ H' σ) (hW':WR Z σ H' w) (hnx:H.next<=H'.next) (hold:∀y∈U,Ia y H->Ia y H')
  (hid:∀i l f,md=.new i l f->i=H.next) (hmem:it.o.k.L9=false->md.mem=false)
  (hp':md.mem=false\/∃p,pend'.lookup it.i=some p/\∀H',p H'->Ia ⟨it,e,v,md⟩ H')
  (hpo:∀i,i≠it.i->pend'.lookup i=pend.lookup i):Kg P n ops plan Z0 σ0 m e0 listed Z σ a w (U++[⟨it,e,v,md⟩]) rest (e.put it.o.dst v) H' pend':=by
 have hu:∀x∈U,Kh ops x.it it:=fun x hx=>S.ur hP hx (BY ..)
 have hr:∀y∈rest,Kh ops it y:=fun y hy=>by
  have:=(GD.1 (S.pw hP)).2.1
  exact(IF.1 this).1 y hy
 have hown:=hP.own it (S.iC (BY ..))
 have hm0:∀t,it.o.dst=some t->e t=e0 t:=S.eB it (BY ..)
 have hassoc:(U++[(⟨it,e,v,md⟩:U5)]).map (·.it)++rest=U.map (·.it)++it::rest:=by simp
 have hmask:FG (U++[⟨it,e,v,md⟩]) e0 (e.put it.o.dst v)=FG U e0 e:=by
  funext t
  by_cases h1:∃x∈U,x.it.o.dst=some t
  ·obtain⟨x,hx,hd⟩:=h1
   rw[Fx (Cj _ hx) hd,Fx hx hd]
  ·have h1':∀x∈U,x.it.o.dst≠some t:=fun x hx hd=>h1 ⟨x,hx,hd⟩
   rw[Cd h1']
   by_cases h2:it.o.dst=some t
   ·rw[Fx (x:=⟨it,e,v,md⟩) (by simp) h2,hm0 t h2]
   ·rw[Cd,Env.B2 h2]
    intro x hx
    rcases BV.1 hx with hx | hx
    ·exact h1' x hx
    ·simp only[B9]at hx;subst hx;exact h2
 refine⟨S.hZ,S.hS,Cq S.hm hnx,hW',by rw[hmask];exact S.fr,S.lsz,by rw[hassoc];exact S.mem,by rw[hassoc];exact S.sub,S.pre,fun y hy t ht=>?_,fun t ht=>?_,fun x hx t ht=>?_,fun x hx t ht=>?_,fun x hx=>?_,fun x hx=>?_,?_,fun x hx hxm=>?_,fun x hx=>?_,fun x hx=>?_⟩
 ·rw[Env.B2 ((hr y hy).dst t ht)];exact S.eB y (Cx _ hy) t ht
 ·rw[Env.B2 (ht it (S.iC (BY ..)))];exact S.eE t ht
 ·rcases BV.1 hx with hx | hx
  ·by_cases hd:it.o.dst=some t
   ·left
    refine⟨⟨it,e,v,md⟩,by simp,hd,(hu x hx).r1 t hd ht,?_⟩
    rcases S.eA x hx t ht with⟨x',hx',h1,_,_⟩ | ⟨h1,_⟩
    ·exact absurd h1 ((hu x' hx').dst t hd)
    ·rw[h1,hm0 t hd]
   ·rcases S.eA x hx t ht with⟨x',hx',h1,h2,h3⟩ | ⟨h1,h2⟩
    ·exact .inl ⟨x',Cj _ hx',h1,h2,h3⟩
    ·refine .inr ⟨by rw[Env.B2 hd];exact h1,fun x' hx' hd'=>?_⟩
     rcases BV.1 hx' with hx' | hx'
     ·exact h2 x' hx' hd'
     ·simp only[B9]at hx';subst hx';exact absurd hd' hd
  ·simp only[B9]at hx;subst hx
   have hd:it.o.dst≠some t:=fun hd=>hown.own t hd ht
   refine .inr ⟨by rw[Env.B2 hd],fun x' hx' hd'=>?_⟩
   rcases BV.1 hx' with hx' | hx'
   ·exact(hu x' hx').r2 t hd' ht
   ·simp only[B9]at hx';subst hx';exact absurd hd' hd
 ·rcases BV.1 hx with hx | hx
  ·have:it.o.dst≠some t:=fun h=>(hu x hx).dst t h ht
   rw[Env.B2 this];exact S.eD x hx t ht
  ·simp only[B9]at hx;subst hx
   exact Env.put_eq ht
 ·rcases BV.1 hx with hx | hx
  ·exact hold x hx (S.capH x hx)
  ·simp only[B9]at hx;subst hx;exact hc
 ·rcases BV.1 hx with hx | hx
  ·have:=S.capS x hx
   unfold Nu at this ⊢
   split at this
   ·exact this
   ·exact this
   ·exact this
   ·obtain⟨h1,h2,h3,h4,h5,h6⟩:=this;exact⟨h1,h2,h3,h4,h5,by omega⟩
  ·simp only[B9]at hx;subst hx;exact hs
 ·refine GD.2 ⟨S.ids,by simp,fun x hx y hy i l f j l' f' h1 h2=>?_⟩
  simp only[B9]at hy;subst hy
  have:=S.capS x hx
  unfold Nu at this
  rw[h1]at this
  have hj:=hid _ _ _ h2
  have:=this.2.2.2.2.2
  omega
 ·rcases BV.1 hx with hx | hx
  ·exact S.pnd x hx hxm
  ·simp only[B9]at hx;subst hx;exact hmem hxm
 ·rcases BV.1 hx with hx | hx
  ·rcases S.pnd' x hx with h | ⟨p,h1,h2⟩
   ·exact .inl h
   ·exact .inr ⟨p,by rw[hpo _ (hu x hx).ne];exact h1,h2⟩
  ·simp only[B9]at hx;subst hx;exact hp'
 ·rcases BV.1 hx with hx | hx
  ·exact S.neff x hx
  ·simp only[B9]at hx;subst hx;exact heff
theorem Kg.ready (hP:F5 P n ops plan) (S:Kg P n ops plan Z0 σ0 m e0 listed Z σ a w U rest e H pend){b:DX}(hb:b∈plan) (hr:b.i∈Region.ready .any ops listed) :
  listed.getD b.i true=false/\(∀p∈K6 ops b.i,listed.getD p false=true)/\∀x,b.pre.testBit x=true->listed.getD x false=true:=by
 obtain⟨h0,o,ho,hall⟩:=mem_ready.1 hr
 have hd:∀p∈K6 ops b.i,listed.getD p false=true:=by
  intro p hp
  simp only[K6,ho,Bk,TP,Array.mem_toList_iff]at hp
  obtain⟨e,⟨he,hbd⟩,rfl⟩:=hp
  exact hall e he hbd
 refine⟨h0,hd,fun x hx=>?_⟩
 rw[(hP.own b hb).pre]at hx
 obtain⟨p,hp,h⟩:=Ln hx
 rcases h with rfl | h
 ·exact hd _ hp
 ·have hl:=hd p hp
  have hlt:p<listed.size:=eb hl
  exact S.pre p x (by rw[<- S.lsz];exact hlt) (by rw[Ra hlt];exact hl) h
theorem Kg.mD (hP:F5 P n ops plan) (S:Kg P n ops plan Z0 σ0 m e0 listed Z σ a w U rest e H pend){b:DX}(hb:b∈plan) (hr:b.i∈Region.ready .any ops listed) :
  ∀j x,j<ops.size->(listed.setIfInBounds b.i true).getD j true=true->(RA plan j).testBit x=true->(listed.setIfInBounds b.i true).getD x false=true:=by
 intro j x hj hl hx
 by_cases hjb:b.i=j
 ·subst hjb
  rw[hP.Zo hb]at hx
  exact getD_set_true ((S.ready hP hb hr).2.2 x hx)
 ·rw[getD_set_ne true hjb]at hl
  exact getD_set_true (S.pre j x hj hl hx)
theorem Kg.kZ (hP:F5 P n ops plan) (S:Kg P n ops plan Z0 σ0 m e0 listed Z σ a w U rest e H pend){b:DX}(hb:b∈U.map (·.it)++rest):listed.getD b.i true=false:=
 (S.mem b.i (hP.own b (S.sub.mem hb)).lt).2 (E7 hb)
theorem Ti {l:Array Bool}{i:Nat}(h:i<l.size):(l.setIfInBounds i true).getD i true=true:=by simp[h]
theorem Kg.effect {it:DX}(hP:F5 P n ops plan) (hn:n<=AM) (S:Kg P n ops plan Z0 σ0 m e0 listed Z σ a w U (it::rest) e H pend) (heff:it.eff=true) (hr:it.i∈Region.ready .any ops listed)
  {v:AV} {cv:Value} {Z':Zt} {σ':Sg} {H':AH} {w':World} (hZ:CO Z0 Z') (hS:Nw σ0 m σ') (hσ:∀r,r<H.next->σ' r=σ r) (hnx:H.next<=H'.next) (hW:WR Z' σ' H' w')
  (hfr:FR Z' σ' n (FG U e0 e) a) (hv:VR Z' σ' v cv) (hchk:∀x∈U,x.it.o.k.L9=true->x.it.i∈it.fl->Ia x H') (hdn:∀t,it.o.dst=some t->t<n) :
  Kg P n ops plan Z0 σ0 m e0 (listed.setIfInBounds it.i true) Z' σ' (a.put it.o.dst cv) w' U rest (e.put it.o.dst v) H' pend:=by
 have hit:=S.iC (BY ..)
 obtain⟨r1,r2,r3⟩:=S.ready hP hit hr
 have hu:∀x∈U,Kh ops x.it it:=fun x hx=>S.ur hP hx (BY ..)
 have hnot:∀x∈U,it.pre.testBit x.it.i=true->False:=fun x hx h=>Hx (r3 _ h) (S.kZ hP (Cj _ (E7 hx)))
 have hrr:∀y∈rest,Kh ops it y:=fun y hy=>by
  have:=(GD.1 (S.pw hP)).2.1
  exact(IF.1 this).1 y hy
 have hmask:FG U e0 (e.put it.o.dst v)=(FG U e0 e).put it.o.dst v:=by
  funext t
  by_cases h2:it.o.dst=some t
  ·rw[Env.put_eq h2,Cd (fun x hx=>(hu x hx).dst t h2),Env.put_eq h2]
  ·rw[Env.B2 h2]
   by_cases h1:∃x∈U,x.it.o.dst=some t
   ·obtain⟨x,hx,hd⟩:=h1
    rw[Fx hx hd,Fx hx hd]
   ·have h1':∀x∈U,x.it.o.dst≠some t:=fun x hx hd=>h1 ⟨x,hx,hd⟩
    rw[Cd h1',Cd h1',Env.B2 h2]
 have hlt:it.i<listed.size:=by rw[S.lsz];exact(hP.own it hit).lt
 have hnd:∀b∈U.map (·.it)++rest,b.i≠it.i:=by
  intro b hb
  rcases BV.1 hb with hb | hb
  ·obtain⟨x,hx,rfl⟩:=Bk.1 hb;exact(hu x hx).ne
  ·exact((hrr b hb).ne).symm
 refine⟨hZ,hS,Cq S.hm hnx,hW,?_,by simp[S.lsz],fun i hi=>?_,((DN _).append (E0 _ _)).trans S.sub,S.mD hP hit hr,fun y hy t ht=>?_,fun t ht=>?_,fun x hx t ht=>?_,fun x hx t ht=>?_,fun x hx=>?_,fun x hx=>?_,S.ids,S.pnd,S.pnd',S.neff⟩
 ·rw[hmask];exact hfr.put hn hdn hv
 ·by_cases hie:it.i=i
  ·subst hie
   rw[Ti hlt]
   simp only[Bool.true_eq_false,false_iff]
   intro hm
   obtain⟨b,hb,hbi⟩:=Bk.1 hm
   exact hnd b hb hbi
  ·rw[getD_set_ne true hie,S.mem i hi]
   simp only[ET,B1,BV,DF]
   constructor
   ·rintro(h | h | h)
    ·exact .inl h
    ·exact absurd h.symm hie
    ·exact .inr h
   ·rintro(h | h)
    ·exact .inl h
    ·exact .inr (.inr h)
 ·rw[Env.B2 ((hrr y hy).dst t ht)];exact S.eB y (Cx _ hy) t ht
 ·rw[Env.B2 (ht it hit)];exact S.eE t ht
 ·have hd:it.o.dst≠some t:=fun hd=>hnot x hx ((hu x hx).r1 t hd ht)
  rw[Env.B2 hd];exact S.eA x hx t ht
 ·have:it.o.dst≠some t:=fun h=>(hu x hx).dst t h ht
  rw[Env.B2 this];exact S.eD x hx t ht
 ·have h0:=S.capH x hx
  by_cases hm:x.it.o.k.L9=true
  ·rcases(hu x hx).fl heff (S.neff x hx) hm with h | h
   ·exact(hnot x hx h).elim
   ·exact hchk x hx hm h
  ·have:=S.pnd x hx (by simpa using hm)
   unfold Ia
   cases hmd:x.md<;>rw[hmd]at this<;>first | trivial | cases this
 ·have:=S.capS x hx
  unfold Nu at this ⊢
  split at this
  ·exact this
  ·exact this
  ·exact this
  ·obtain⟨h1,h2,h3,h4,h5,h6⟩:=this;exact⟨h1,h2,h3,by rw[hσ _ h6];exact h4,h5,by omega⟩
end
end
section
section
variable {P:Program}{n:Nat}{ops:Array Oper}{plan:List DX}{Z0:Zt}{σ0:Sg}{m:Nat}{e0:Env}{listed:Array Bool}{Z:Zt}{σ:Sg}{a:Act}{w:World}
 {U:List U5} {rest:List DX} {e:Env} {H:AH} {pend:Ez}
theorem Kg.done {U1 U2:List U5}{x:U5}(hP:F5 P n ops plan) (hn:n<=AM) (S:Kg P n ops plan Z0 σ0 m e0 listed Z σ a w (U1++x::U2) rest e H pend) (hr:x.it.i∈Region.ready .any ops listed)
  {cv:Value} {σ':Sg} {w':World} (hW:WR Z σ' H w') (hσ:σ'=σ\/∃id l f p,x.md=.new id l f/\σ'=σ.add id p) (hv:VR Z σ' x.v cv) (hdn:∀t,x.it.o.dst=some t->t<n) :
  Kg P n ops plan Z0 σ0 m e0 (listed.setIfInBounds x.it.i true) Z σ' (a.put x.it.o.dst cv) w' (U1++U2) rest e H pend:=by
 have hxU:x∈U1++x::U2:=by simp
 have hin:∀y∈U1++U2,y∈U1++x::U2:=fun y hy=>by
  rcases BV.1 hy with h | h
  ·exact Cj _ h
  ·exact BS _ (Cx _ h)
 have hit:=S.gn hxU
 obtain⟨r1,r2,r3⟩:=S.ready hP hit hr
 have hpw:=S.pw hP
 have hpu:((U1++x::U2).map (·.it)).Pairwise (Kh ops):=(GD.1 hpw).1
 have hne:∀y∈U1++U2,y.it.i≠x.it.i/\∀t,y.it.o.dst=some t->x.it.o.dst≠some t:=by
  intro y hy
  rw[ET,B1]at hpu
  obtain⟨_,h2,h3⟩:=GD.1 hpu
  rcases BV.1 hy with h | h
  ·have:=h3 y.it (E7 h) x.it (BY ..)
   exact⟨this.ne,fun t ht hx=>this.dst t hx ht⟩
  ·have:=(IF.1 h2).1 y.it (E7 h)
   exact⟨this.ne.symm,fun t ht hx=>this.dst t ht hx⟩
 have hner:∀y∈rest,y.i≠x.it.i:=fun y hy=>(S.ur hP hxU hy).ne.symm
 have hSle:LH σ σ':=by
  rcases hσ with rfl | ⟨id,l,f,p,hmd,rfl⟩
  ·exact LH.refl _
  ·have:=S.capS x hxU
   unfold Nu at this
   rw[hmd]at this
   exact Sg.F9 this.2.2.2.1
 have hNw:Nw σ0 m σ':=by
  rcases hσ with rfl | ⟨id,l,f,p,hmd,rfl⟩
  ·exact S.hS
  ·have:=S.capS x hxU
   unfold Nu at this
   rw[hmd]at this
   exact S.hS.trans (Nw.sP σ p this.2.2.2.2.1) (A4 _)
 have hmask:FG (U1++U2) e0 e=(FG (U1++x::U2) e0 e).put x.it.o.dst x.v:=by
  funext t
  by_cases h2:x.it.o.dst=some t
  ·rw[Env.put_eq h2,Cd (fun y hy h=>(hne y hy).2 t h h2)]
   exact S.eD x hxU t h2
  ·rw[Env.B2 h2]
   by_cases h1:∃y∈U1++U2,y.it.o.dst=some t
   ·obtain⟨y,hy,hd⟩:=h1
    rw[Fx hy hd,Fx (hin y hy) hd]
   ·have h1':∀y∈U1++U2,y.it.o.dst≠some t:=fun y hy hd=>h1 ⟨y,hy,hd⟩
    rw[Cd h1',Cd]
    intro y hy hd
    rcases BV.1 hy with h | h
    ·exact h1' y (Cj _ h) hd
    ·cases h with
     | head=>exact h2 hd
     | tail _ h=>exact h1' y (BS _ h) hd
 have hlt:x.it.i<listed.size:=by rw[S.lsz];exact(hP.own _ hit).lt
 have hsub:((U1++U2).map (·.it)++rest).Sublist ((U1++x::U2).map (·.it)++rest):=by
  refine Ou ?_ (DN _)
  exact(Ou (DN U1) (E0 x U2)).map _
 refine⟨S.hZ,hNw,S.hm,hW,?_,by simp[S.lsz],fun i hi=>?_,hsub.trans S.sub,S.mD hP hit hr,S.eB,S.eE,fun y hy t ht=>?_,fun y hy=>S.eD y (hin y hy),fun y hy=>S.capH y (hin y hy),fun y hy=>?_,?_,
  fun y hy=>S.pnd y (hin y hy),fun y hy=>S.pnd' y (hin y hy),fun y hy=>S.neff y (hin y hy)⟩
 ·rw[hmask];exact(S.fr.mono (CO.refl _) hSle).put hn hdn hv
 ·by_cases hie:x.it.i=i
  ·subst hie
   rw[Ti hlt]
   simp only[Bool.true_eq_false,false_iff]
   intro hm
   obtain⟨b,hb,hbi⟩:=Bk.1 hm
   rcases BV.1 hb with hb | hb
   ·obtain⟨y,hy,rfl⟩:=Bk.1 hb;exact(hne y hy).1 hbi
   ·exact hner b hb hbi
  ·rw[getD_set_ne true hie,S.mem i hi]
   simp only[ET,B1,BV,DF]
   constructor
   ·rintro((h | h | h) | h)
    ·exact .inl (.inl h)
    ·exact absurd h.symm hie
    ·exact .inl (.inr h)
    ·exact .inr h
   ·rintro((h | h) | h)
    ·exact .inl (.inl h)
    ·exact .inl (.inr (.inr h))
    ·exact .inr h
 ·rcases S.eA y (hin y hy) t ht with⟨x',hx',h1,h2,h3⟩ | ⟨h1,h2⟩
  ·left
   refine⟨x',?_,h1,h2,h3⟩
   rcases BV.1 hx' with h | h
   ·exact Cj _ h
   ·cases h with
    | head=>exact(Hx (r3 _ h2) (S.kZ hP (Cj _ (E7 (hin y hy))))).elim
    | tail _ h=>exact BS _ h
  ·exact .inr ⟨h1,fun x' hx'=>h2 x' (hin x' hx')⟩
 ·have:=S.capS y (hin y hy)
  unfold Nu at this ⊢
  split at this
  ·exact this
  ·exact this
  ·exact this
  ·rename_i id l f hmd
   obtain⟨h1,h2,h3,h4,h5,h6⟩:=this
   refine⟨h1,h2,h3,?_,h5,h6⟩
   rcases hσ with rfl | ⟨id',l',f',p,hmd',rfl⟩
   ·exact h4
   ·have hid:id≠id':=by
     obtain⟨_,k2,k3⟩:=GD.1 S.ids
     rcases BV.1 hy with h | h
     ·exact k3 y h x (BY ..) _ _ _ _ _ _ hmd hmd'
     ·exact((IF.1 k2).1 y h _ _ _ _ _ _ hmd' hmd).symm
    simp only[Sg.add,hid,if_false];exact h4
 ·exact S.ids.sublist (Ou (DN U1) (E0 x U2))
theorem YS {k:AK}{v:AV}(h:AY k e H=some v):k.L9=true:=by
 unfold AY at h;split at h
 ·rfl
 ·rfl
 ·rfl
 ·rfl
 ·rfl
 ·rfl
 ·rfl
 ·cases h
theorem cE {k:AK}{c:List AV × (Nat->AV)}(h:FK k e=some c):k.L9=true:=by
 unfold FK at h;split at h<;>first | rfl | cases h
theorem Rn {x:AV}{es:List (AV × AV × Nat)}{o:Cw}(htop:H.get H.next=none) (h:QO x H=some es):QO x (H.push o)=some es:=by
 unfold QO at h ⊢
 split at h
 ·exact h
 ·rename_i r
  split at h<;>(try cases h;done)
  rename_i es' cl hl
  have hne:r≠H.next:=fun hh=>by subst hh;rw[htop]at hl;cases hl
  rw[AH.Af _ _ hne,hl];exact h
 ·cases h
theorem Qu {z m:Nat}{xs:List AV}{x:AV}{o:Cw}(htop:H.get H.next=none) (hx:Ae z x H=some (m,xs)):Ae z x (H.push o)=some (m,xs):=by
 unfold Ae at hx ⊢
 split at hx
 ·exact hx
 ·exact hx
 ·rename_i r off n lim
  split at hx<;>(try cases hx;done)
  rename_i l hl
  have hne:r≠H.next:=fun hh=>by subst hh;unfold AH.cells? at hl;rw[htop]at hl;cases hl
  have:(H.push o).cells? r=some l:=by unfold AH.cells? at hl ⊢;rw[AH.Af _ _ hne];exact hl
  rw[this];exact hx
 ·cases hx
theorem Rt {x:AV}{l:List UInt8}{o:Cw}(htop:H.get H.next=none) (h:WM x H=some l):WM x (H.push o)=some l:=by
 unfold WM at h ⊢
 split at h<;>(try cases h;done)
 rename_i m xs hx
 rw[Qu htop hx];exact h
theorem Ux {x v:AV}{o:Cw}(htop:H.get H.next=none) (h:K_ x H=some v):K_ x (H.push o)=some v:=by
 have hne:∀{r:Nat} {o:Cw},H.get r=some o->r≠H.next:=fun hr hh=>by subst hh;rw[htop]at hr;cases hr
 unfold K_ at h ⊢
 split at h<;>(try cases h;done)
 rename_i q
 split at h<;>(try cases h;done)
 rename_i r clock seen c hq
 simp only[AH.Af _ _ (hne hq),hq]
 split at h<;>(try cases h;done)
 rename_i es clock' hr
 simp only[AH.Af _ _ (hne hr),hr]
 exact h
theorem WA {k:AK}{v:AV}{o:Cw}(htop:H.get H.next=none) (h:AY k e H=some v):AY k e (H.push o)=some v:=by
 unfold AY at h ⊢
 split at h
 ·unfold BJ at h ⊢
  split at h
  ·rename_i r off hx
   split at h
   ·rename_i l hl
    have hne:r≠H.next:=fun hh=>by subst hh;unfold AH.cells? at hl;rw[htop]at hl;cases hl
    have:(H.push o).cells? r=some l:=by unfold AH.cells? at hl ⊢;rw[AH.Af _ _ hne];exact hl
    rw[this];exact h
   ·cases h
  ·exact h
  ·cases h
 ·rename_i x0
  split at h<;>(try cases h;done)
  rename_i m xs hx
  have:Ae 1 (AE.ev e x0) (H.push o)=some (m,xs):=by
   unfold Ae at hx ⊢
   split at hx
   ·exact hx
   ·exact hx
   ·rename_i r off n lim hev
    split at hx<;>(try cases hx;done)
    rename_i l hl
    have hne:r≠H.next:=fun hh=>by subst hh;unfold AH.cells? at hl;rw[htop]at hl;cases hl
    have:(H.push o).cells? r=some l:=by unfold AH.cells? at hl ⊢;rw[AH.Af _ _ hne];exact hl
    rw[this];exact hx
   ·cases hx
  rw[this];exact h
 ·rename_i ty z ok m0 k0
  have hames:∀es,QO (AE.ev e m0) H=some es->QO (AE.ev e m0) (H.push o)=some es:=fun es=>Rn htop
  split at h<;>(try cases h;done)
  rename_i L es hL hes
  rw[hames es hes];simp only[hL];exact h
 ·rename_i m0
  split at h<;>(try cases h;done)
  rename_i es hes
  rw[Rn htop hes];exact h
 ·rename_i c x y
  split at h<;>(try cases h;done)
  rename_i l hl
  rw[Rt htop hl]
  cases c with
  | false=>exact h
  | true=>
   simp only[XZ,AP]at h ⊢
   obtain⟨m,hm,he⟩:=h
   exact⟨m,Rt htop hm,he⟩
 ·exact Ux htop h
 ·exact h
 ·cases h
theorem RL {α:Type}{i:Nat}{p:α}{l:List (Nat × α)}:((i,p)::l).lookup i=some p:=by simp[List.lookup]
theorem RK {α:Type}{i j:Nat}{p:α}{l:List (Nat × α)}(h:j≠i):((i,p)::l).lookup j=l.lookup j:=by
 have:(j==i)=false:=by simpa using h
 simp[List.lookup,this]
theorem Kg.advance [YC] (hP:F5 P n ops plan){ep:Env}{K:Env->AH->Prop}{Kp:AV->Env->AH->Prop}:∀(rest:List DX) (U:List U5) (e:Env) (H:AH) (pend:Ez),
  Kg P n ops plan Z0 σ0 m e0 listed Z σ a w U rest e H pend->A1 P ep K Kp rest e H pend ->
  ∃U' rest' e' H' pend',U'.length+rest'.length=U.length+rest.length/\Kg P n ops plan Z0 σ0 m e0 listed Z σ a w U' rest' e' H' pend'/\A1 P ep K Kp rest' e' H' pend' /\
   (rest'=[]\/∃it l,rest'=it::l/\it.eff=true):=by
 intro rest
 induction rest with
 | nil=>intro U e H pend S h;exact⟨U,[],e,H,pend,rfl,S,h,.inl rfl⟩
 | cons it l ih=>
  intro U e H pend S h
  by_cases heff:it.eff=true
  ·exact⟨U,it::l,e,H,pend,rfl,S,h,.inr ⟨it,l,rfl,heff⟩⟩
  ·have heff':it.eff=false:=by simpa using heff
   have same:∀{v:AV} {md:oI},md.mem=false->Nu m ⟨it,e,v,md⟩ H σ->A1 P ep K Kp l (e.put it.o.dst v) H pend ->
     ∃U' rest' e' H' pend',U'.length+rest'.length=U.length+(it::l).length/\Kg P n ops plan Z0 σ0 m e0 listed Z σ a w U' rest' e' H' pend'/\A1 P ep K Kp rest' e' H' pend' /\
      (rest'=[]\/∃it l,rest'=it::l/\it.eff=true):=by
    intro v md hmd hs h
    have hc:Ia ⟨it,e,v,md⟩ H:=by
     unfold Ia;cases md<;>first | trivial | cases hmd
    obtain⟨U',rest',e',H',pend',g1,g2⟩:=ih _ _ _ _ (S.pass hP heff' (md:=md) hc hs S.hW (A4 _) (fun _ _ h=>h) (fun i l f hh=>by subst hh;cases hmd) (fun _=>hmd) (.inl hmd) (fun _ _=>rfl)) h
    exact⟨U',rest',e',H',pend',by rw[g1];simp;omega,g2⟩
   have step:kp it.o e->(match AJ it.o.k e with
    | some v=>A1 P ep K Kp l (e.put it.o.dst v) H pend
    | none=>match AY it.o.k e H with
     | some v=>A1 P ep K Kp l (e.put it.o.dst v) H ((it.i,fun H'=>AY it.o.k e H'=some v)::pend)
     | none=>match FK it.o.k e with
      | some (c,f)=>A1 P ep K Kp l (e.put it.o.dst (f H.next)) (H.push (.cells c)) ((it.i,fun H'=>H'.get H.next=some (.cells c))::pend)
      | none=>False) ->
     ∃U' rest' e' H' pend',U'.length+rest'.length=U.length+(it::l).length/\Kg P n ops plan Z0 σ0 m e0 listed Z σ a w U' rest' e' H' pend'/\A1 P ep K Kp rest' e' H' pend' /\
      (rest'=[]\/∃it l,rest'=it::l/\it.eff=true):=by
    intro hw h
    split at h
    ·rename_i v hv
     exact same (md:=.pure) rfl ⟨hw,hv⟩ h
    ·rename_i hv0
     split at h
     ·rename_i v hv
      obtain⟨U',rest',e',H',pend',g1,g2⟩:=ih _ _ _ _ (S.pass hP heff' (v:=v) (md:=.read) (H':=H) (pend':=(it.i,fun H'=>AY it.o.k e H'=some v)::pend)
       (by simpa only[Ia]using hv) ⟨hw,hv0⟩ S.hW (A4 _) (fun _ _ h=>h) (fun i l f hh=>by cases hh) (fun hm=>by rw[YS hv]at hm;cases hm)
       (.inr ⟨_,RL,fun H' h=>by simpa only[Ia]using h⟩) (fun i hi=>RK hi)) h
      exact⟨U',rest',e',H',pend',by rw[g1];simp;omega,g2⟩
     ·split at h
      ·rename_i c f hv
       have htop:=S.hW.top H.next (A4 _)
       obtain⟨U',rest',e',H',pend',g1,g2⟩:=ih _ _ _ _ (S.pass hP heff' (v:=f H.next) (md:=.new H.next c f) (H':=H.push (.cells c)) (pend':=(it.i,fun H'=>H'.get H.next=some (.cells c))::pend)
        (by simp[Ia]) ⟨hw,hv,rfl,S.hW.fresh _ (A4 _),S.hm,by simp⟩ (S.hW.ghost _) (by simp)
        (fun y hy hc=>by
         have hs:=S.capS y hy
         unfold Ia at hc ⊢
         unfold Nu at hs
         cases hmd:y.md<;>rw[hmd]at hc hs<;>first | trivial | skip
         ·exact WA htop hc
         ·simp only[]at hc hs ⊢
          rw[AH.Af _ _ (by have:=hs.2.2.2.2.2;omega)];exact hc)
        (fun i l' f' hh=>by cases hh;rfl) (fun hm=>by rw[cE hv]at hm;cases hm)
        (.inr ⟨_,RL,fun H' h=>by simpa only[Ia]using h⟩) (fun i hi=>RK hi)) h
       exact⟨U',rest',e',H',pend',by rw[g1];simp;omega,g2⟩
      ·exact h.elim
   simp only[A1]at h
   split at h
   ·rename_i hg
    rw[heff']at h
    exact step (.inl hg) h
   ·rename_i s want hg
    split at h
    ·rename_i b hb
     rw[heff']at h
     by_cases hbw:b=some want
     ·subst hbw
      exact step (.inr ⟨s,want,hg,hb⟩) (h.1 rfl)
     ·exact same (md:=.skip) rfl ⟨rfl,s,want,b,hg,hb,hbw⟩ (h.2 hbw)
    ·exact h.elim
theorem bo {fl:List Nat}{ps:Ez}(h:Ul fl ps H){i:Nat}(hi:i∈fl){p:AH->Prop}(hp:ps.lookup i=some p):p H:=by
 induction fl with
 | nil=>simp at hi
 | cons j js ih=>
  simp only[Ul]at h
  cases hi with
  | head=>have:=h.1;rw[hp]at this;exact this
  | tail _ hi=>exact ih h.2 hi
theorem fG [YC] {o:Oper}{k:AK}(hk:Dp P o=some k) (hnd:k.B0=false){Z:Zt}{σ:Sg}{H:AH}{eS:Env}{a:Act}{w:World}(hW:WR Z σ H w) (he:ER Z σ eS a)
  {K Kp:AV->AH->Prop} (h:G1 P k eS H K Kp) {next:Act->World->Prop} {Qc:Exit->Act->World->Prop}
  (hK:∀cv Z' σ' v H' w',CO Z Z'->Nw σ H.next σ'->H.next<=H'.next->WR Z' σ' H' w'->VR Z' σ' v cv->K v H'->next (a.put o.dst cv) w')
  (hQ:∀cv Z' σ' v H' w',CO Z Z'->Nw σ H.next σ'->H.next<=H'.next->WR Z' σ' H' w'->VR Z' σ' v cv->Kp v H'->Qc (.panic [{ v:=cv,recovered:=false }]) a w')
  {ro:Option Nat} {Z0:Zt} {σ0:Sg} {m:Nat} (hY:cI P Z0 σ0 m) (hZ:CO Z0 Z) (hS:Nw σ0 m σ) (hm:m<=H.next):o.wpIn (RF ro) 0 P a w next Qc:=by
 unfold Oper.wpIn
 refine⟨fun _ _=>trivial,?_⟩
 rw[JL hk hnd (fun hp=>cD hp h)]
 have plain:(match A6 k eS H with | some (v,H')=>K v H' | none=>False)->o.uponIn (RF ro) 0 P a next Qc ((execOp a.eval o).run P w):=by
  intro h
  split at h
  ·rename_i v H' hone
   obtain⟨cv,w',σ',r1,r2,r3,r4⟩:=QJ hk hW he hone
   have:=hK cv Z σ' v H' w' (CO.refl _) r2 (Mx hone) r3 r4 h
   rcases r1 with r1 | ⟨r1,rfl⟩
   ·rw[r1];exact this
   ·rw[r1];exact this
  ·exact h.elim
 cases k with
 | call f args=>
  rcases Rr hk hW he h with⟨g,vs,r1,r2⟩ | ⟨l,vs,r1,r2,r3⟩
  ·rw[r1,Oper.uponIn_enter]
   refine⟨He,IW (r2.mono fun x w' hx=>?_)⟩
   obtain⟨Z',σ',H',out,g1,g2,g3,g4,g5,g6⟩:=hx
   cases out with
   | ret v=>obtain⟨cv,rfl,hv⟩:=g5;exact hK cv Z' σ' v H' w' g1 g2 g3 g4 hv g6
   | Bd v=>obtain⟨cv,rfl,hv⟩:=g5;exact hQ cv Z' σ' v H' w' g1 g2 g3 g4 hv g6
  ·obtain⟨fn,tmps,zs,bd,y1,y2⟩:=hY _ _ _ _ r3 Z σ w vs hZ hS hm hW r2
   rw[r1,y1,Oper.uponIn_round]
   refine⟨He,PJ (y2.mono fun x w' hx=>?_)⟩
   obtain⟨Z',σ',H',out,g1,g2,g3,g4,g5,g6⟩:=hx
   cases out with
   | ret v=>obtain⟨cv,rfl,hv⟩:=g5;exact hK cv Z' σ' v H' w' g1 g2 g3 g4 hv g6
   | Bd v=>obtain⟨cv,rfl,hv⟩:=g5;exact hQ cv Z' σ' v H' w' g1 g2 g3 g4 hv g6
 | panic x=>
  simp only[G1]at h
  split at h
  ·rename_i t v hx
   obtain⟨cv,r1,r2⟩:=QH (w:=w) hk he hx
   rw[r1,Oper.uponIn_panic]
   exact hQ cv Z σ _ H w (CO.refl _) (Nw.refl _ _) (A4 _) hW r2 h
  ·exact h.elim
 | defer f args=>cases hnd
 | recover=>exact h.elim
 | nextM x=>
  simp only[G1]at h
  split at h
  ·rename_i l hl
   obtain⟨y,ho,h1⟩:=C2 hk
   obtain⟨p,hp,cv,w',r1,r2,r3⟩:=Nb (P:=P) hW (AI he h1) hl o.type
   have hr:(execOp a.eval o).run P w=.ok (.value cv) w':=by simp[execOp,ho,r1]
   rw[hr]
   exact hK cv Z σ p.1 p.2 w' (CO.refl _) (Nw.refl _ _) (Nat.le_of_eq (QK hl p hp).symm) r2 r3 (h p hp)
  ·exact h.elim
 | _=>exact plain h
theorem XW {t:Nat}(h:∀y∈plan,y.o.dst≠some t):Is plan e0 t=e0 t:=by
 unfold Is;rw[if_neg];intro hh
 obtain⟨x,hx,he⟩:=GW.1 hh
 exact h x hx (by simpa using he)
theorem Kg.clear (hP:F5 P n ops plan) (hn:n<=AM) (S:Kg P n ops plan Z0 σ0 m e0 listed Z σ a w U rest e H pend):FR Z σ n (Is plan e0) a:=by
 have key:∀t,Is plan e0 t=.unk\/Is plan e0 t=FG U e0 e t:=by
  intro t
  by_cases h:∃y∈plan,y.o.dst=some t
  ·obtain⟨y,hy,hd⟩:=h
   left;unfold Is;rw[if_pos];exact List.any_eq_true.2 ⟨y,hy,by simp[hd]⟩
  ·have h':∀y∈plan,y.o.dst≠some t:=fun y hy hd=>h ⟨y,hy,hd⟩
   right
   rw[XW h',Cd (fun x hx=>h' _ (S.gn hx)),S.eE t h']
 have hds:Is plan e0 AM=FG U e0 e AM:=by
  have h':∀y∈plan,y.o.dst≠some AM:=fun y hy hd=>by
   obtain⟨o,ho,hc⟩:=hP.op y hy
   obtain⟨_,h2,h3,_⟩:=CV hc
   exact absurd (h3 AM (by rw[<- h2];exact hd)) (Nat.not_lt.2 hn)
  rw[XW h',Cd (fun x hx=>h' _ (S.gn hx)),S.eE _ h']
 refine⟨fun t ht=>?_,by rw[hds];exact S.fr.ds,S.fr.sz⟩
 rcases key t with h | h
 ·rw[h];exact .unk _
 ·rw[h];exact S.fr.er t ht
theorem Zr [YC] {ro:Option Nat}(hY:cI P Z0 σ0 m){Q:Ex->Env->AH->Prop}(hP:F5 P n ops plan) (hn:n<=AM):∀(fuel:Nat) (listed:Array Bool) (Z:Zt) (σ:Sg) (a:Act) (w:World) (U:List U5) (rest:List DX) (e:Env) (H:AH) (pend:Ez),
  fuel=U.length+rest.length->Kg P n ops plan Z0 σ0 m e0 listed Z σ a w U rest e H pend ->
  A1 P (Is plan e0) (fun e' H'=>Q .normal e' H') (fun v e' H'=>Q (.Bd v) e' H') rest e H pend->wpAnyIn (RF ro) 0 P .any ops (QR Z0 σ0 n m Q) fuel listed a w:=by
 intro fuel
 induction fuel with
 | zero=>
  intro listed Z σ a w U rest e H pend hf S h
  have hU:U=[]:=By (by omega)
  have hR:rest=[]:=By (by omega)
  subst hU hR
  refine⟨?_,?_⟩
  ·cases hr:Region.ready .any ops listed with
   | nil=>rfl
   | cons j js=>
    have hj:j∈Region.ready .any ops listed:=by rw[hr];exact BY ..
    obtain⟨h0,o,ho,_⟩:=mem_ready.1 hj
    have:=(S.mem j (Aj.1 ho).1).1 h0
    simp at this
  ·have:FG [] e0 e=e:=by funext t;exact Cd (by simp)
   have hfr:=S.fr
   rw[this]at hfr
   exact⟨Z,σ,.normal,e,H,S.hZ,S.hS,S.hm,S.hW,hfr,rfl,h⟩
 | succ fuel ih=>
  intro listed Z σ a w U0 rest0 e0' H0 pend0 hf0 S0 h0
  obtain⟨U,rest,e,H,pend,hlen,S,h,hfront⟩:=Kg.advance hP rest0 U0 e0' H0 pend0 S0 h0
  have hf:fuel+1=U.length+rest.length:=by omega
  refine⟨fun hnil=>?_,fun i hi=>?_⟩
  ·
   exfalso
   have hpw:=S.pw hP
   cases hl:U.map (·.it)++rest with
   | nil=>
    have:=congrArg List.length hl
    simp only[AW,Au,G9]at this
    omega
   | cons b bs=>
    rw[hl]at hpw
    have hb:b∈U.map (·.it)++rest:=by rw[hl];exact BY ..
    have hbp:=S.sub.mem hb
    have hown:=hP.own b hbp
    obtain⟨o,ho,_⟩:=hP.op b hbp
    have:b.i∈Region.ready .any ops listed:=by
     refine mem_ready.2 ⟨S.kZ hP hb,o,ho,fun ed hed hbd=>?_⟩
     have hd:ed.on∈K6 ops b.i:=by
      simp only[K6,ho,Bk,TP,Array.mem_toList_iff]
      exact⟨ed,⟨hed,hbd⟩,rfl⟩
     cases hg:listed.getD ed.on false with
     | true=>rfl
     | false=>
      exfalso
      by_cases hlt:ed.on<ops.size
      ·have h1:listed.getD ed.on true=false:=by rw[Ra (by rw[S.lsz];exact hlt)];exact hg
       have h2:=(S.mem _ hlt).1 h1
       rw[hl]at h2
       obtain⟨c,hc,hci⟩:=Bk.1 h2
       cases hc with
       | head=>exact hown.dir (hci▸hd:b.i∈K6 ops b.i)
       | tail _ hc=>exact((IF.1 hpw).1 c hc).dir (by rw[hci];exact hd)
      ·exact hlt (hown.dlt _ hd)
    rw[hnil]at this
    cases this
  ·obtain⟨hi0,o',ho',_⟩:=mem_ready.1 hi
   have hmem:=(S.mem i (Aj.1 ho').1).1 hi0
   obtain⟨b,hb,rfl⟩:=Bk.1 hmem
   have hbp:=S.sub.mem hb
   obtain⟨o,ho,hc⟩:=hP.op b hbp
   obtain⟨hk,hd,hdn,hg⟩:=CV hc
   have hdn':∀t,b.o.dst=some t->t<n:=fun t ht=>hdn t (by rw[<- hd];exact ht)
   rcases BV.1 hb with hbU | hbR
   ·obtain⟨x,hx,rfl⟩:=Bk.1 hbU
    obtain⟨U1,U2,rfl⟩:=List.append_of_mem hx
    have hag:∀t∈x.it.o.tmps,x.ee t=FG (U1++x::U2) e0 e t:=by
     intro t ht
     rcases S.eA x hx t ht with⟨x',hx',h1,h2,h3⟩ | ⟨h1,h2⟩
     ·rw[Fx hx' h1,h3]
     ·rw[Cd,h1]
      intro x' hx' hd'
      have hpre:=h2 x' hx' hd'
      exact Hx ((S.ready hP hbp hi).2.2 _ hpre) (S.kZ hP (Cj _ (E7 hx')))
    refine fB ho hc hn S.hW S.fr hag (S.capH x hx) (S.capS x hx) fun cv w' σ' g1 g2 g3=>?_
    rw[<- hd]
    exact ih _ _ _ _ _ (U1++U2) rest e H pend (by simp at hf ⊢;omega) (S.done hP hn hi g1 g2 g3 hdn') h
   ·rcases hfront with rfl | ⟨it,l,rfl,heff⟩
    ·cases hbR
    ·have hbe:b=it:=by
      cases hbR with
      | head=>rfl
      | tail _ hbl=>
       have hpr:=(GD.1 (S.pw hP)).2.1
       have:=((IF.1 hpr).1 b hbl).eff heff
       exact(Hx ((S.ready hP hbp hi).2.2 _ this) (S.kZ hP (BS _ (BY ..)))).elim
     subst hbe
     have hnotU:∀x∈U,b.pre.testBit x.it.i=true->False:=fun x hx h=>Hx ((S.ready hP hbp hi).2.2 _ h) (S.kZ hP (Cj _ (E7 hx)))
     have hag:∀t∈b.o.tmps,e t=FG U e0 e t:=by
      intro t ht
      rw[Cd]
      intro x hx hd'
      exact hnotU x hx ((S.ur hP hx (BY ..)).r2 t hd' ht)
     have hagk:∀t∈b.o.k.tmps,e t=FG U e0 e t:=fun t ht=>hag t (Cj _ ht)
     have run:kp b.o e->G1 P b.o.k e H (fun v H'=>Ul b.fl pend H'/\A1 P (Is plan e0) (fun e' H'=>Q .normal e' H') (fun v e' H'=>Q (.Bd v) e' H') l (e.put b.o.dst v) H' pend) (fun v H'=>Q (.Bd v) (Is plan e0) H') ->
       wpOpIn (RF ro) 0 P ops (QR Z0 σ0 n m Q) b.i (wpAnyIn (RF ro) 0 P .any ops (QR Z0 σ0 n m Q) fuel (listed.setIfInBounds b.i true)) a w:=by
      intro hw h
      unfold wpOpIn
      simp only[ho]
      rw[J0 hc hn S.fr hag hw]
      simp only[if_true]
      refine fG hk (hP.own b hbp).nd S.hW S.fr.er ((Mw hagk).1 h) ?_ ?_ hY S.hZ S.hS S.hm
      ·intro cv Z' σ' v H' w' g1 g2 g3 g4 g5 ⟨g6,g7⟩
       rw[<- hd]
       refine ih _ Z' σ' _ w' U l (e.put b.o.dst v) H' pend (by simp at hf ⊢;omega) (S.effect hP hn heff hi (S.hZ.trans g1) (S.hS.trans g2 S.hm) g2 g3 g4 (S.fr.mono g1 (S.hW.sle g2)) g5 ?_ hdn') g7
       intro x hx hm hfl
       rcases S.pnd' x hx with hmm | ⟨p,h1,h2⟩
       ·unfold Ia;cases hmd:x.md<;>rw[hmd]at hmm<;>first | trivial | cases hmm
       ·exact h2 _ (bo g6 hfl h1)
      ·intro cv Z' σ' v H' w' g1 g2 g3 g4 g5 g6
       exact⟨Z',σ',.Bd v,Is plan e0,H',S.hZ.trans g1,S.hS.trans g2 S.hm,Cq S.hm g3,g4,(S.clear hP hn).mono g1 (S.hW.sle g2),⟨cv,rfl,g5⟩,g6⟩
     simp only[A1,heff,if_true]at h
     split at h
     ·rename_i hgd;exact run (.inl hgd) h
     ·rename_i s want hgd
      split at h
      ·rename_i bb hbb
       by_cases hbw:bb=some want
       ·subst hbw
        exact run (.inr ⟨s,want,hgd,hbb⟩) (h.1 rfl)
       ·unfold wpOpIn
        simp only[ho]
        rw[M8 hc hn S.fr hag hgd hbb hbw]
        simp only[E8,if_false]
        rw[<- hd]
        have h:=h.2 hbw
        refine⟨fun _ _=>trivial,?_⟩
        refine ih _ Z σ _ w U l (e.put b.o.dst Bp) H pend (by simp at hf ⊢;omega) (S.effect hP hn heff hi S.hZ S.hS (fun _ _=>rfl) (A4 _) S.hW S.fr V_ ?_ hdn') h
        intro x hx _ _;exact S.capH x hx
      ·exact h.elim
theorem Tr [YC] {ro:Option Nat}(hY:cI P Z0 σ0 m){Q:Ex->Env->AH->Prop}(hm:P.follows .mixedOrders=true) (hP:F5 P n ops plan) (hlen:plan.length=ops.size) (hn:n<=AM){id:Nat}(hZ:CO Z0 Z) (hS:Nw σ0 m σ) (hmm:m<=H.next) (hW:WR Z σ H w) (he:FR Z σ n e a)
  (h:A1 P (Is plan e) (fun e' H'=>Q .normal e' H') (fun v e' H'=>Q (.Bd v) e' H') plan e H []):(Code.region id ops true).wpIn (RF ro) 0 P (QR Z0 σ0 n m Q) a w:=by
 refine wpIn_region_any hm (Zr hY (e0:=e) hP hn ops.size _ Z σ a _ [] plan e H [] (by simp[hlen]) ?_ h)
 refine⟨hZ,hS,hmm,hW.congr rfl rfl rfl,?_,by simp,fun i hi=>?_,by simp,fun j x hj hl=>?_,fun _ _ _ _=>rfl,fun _ _=>rfl,by simp,by simp,by simp,by simp,.nil,by simp,by simp,by simp⟩
 ·have:FG [] e e=e:=by funext t;exact Cd (by simp)
  rw[this];exact he
 ·obtain⟨b,hb,hbi⟩:=hP.all i hi
  simp only[Nv,Bf]
  constructor
  ·intro _;exact Bk.2 ⟨b,hb,hbi⟩
  ·intro _;simp[Eb,hi]
 ·simp[Eb,hj]at hl
end
end
section
def Zt.at (Z:Zt) (l:Nat) (o:Obj):Zt:={ Z with blk:=fun b=>if b=l then some o else Z b }
theorem Zt.FJ (Z:Zt) (l:Nat) (o:Obj):Z.at l o l=some o:=by simp[Zt.at]
theorem Zt.F3 (Z:Zt) {l b:Nat}(o:Obj) (h:b≠l):Z.at l o b=Z b:=by simp[Zt.at,h]
theorem Zt.cC {Z:Zt}{l:Nat}(o':Obj) (hl:∀x,Z l=some x->¬fp x):Zc Z (Z.at l o'):=fun b c e fr hb=>by
 rw[Zt.F3 _ _ (fun h=>hl _ (by rw[<- h];exact hb) ⟨_,_,_,rfl⟩)];exact hb
theorem Zt.Rk {Z0 Z:Zt}{l:Nat}(o':Obj) (h:CO Z0 Z) (hl:Z0 l=none\/Z0 l=some o'):CO Z0 (Z.at l o'):=by
 refine⟨fun b o hb=>?_,h.os,h.out,h.P3,h.old⟩
 by_cases hbl:b=l
 ·subst hbl
  rw[Zt.FJ]
  rcases hl with hl | hl<;>rw[hl]at hb
  ·cases hb
  ·exact hb
 ·rw[Zt.F3 _ _ hbl];exact h.le b o hb
theorem HM.at {Z:Zt}{l:Nat}{o:Obj}(h:HM Z):HM (Z.at l o):=fun b hb=>by
 obtain⟨x,hx⟩:=h b hb
 by_cases hbl:b=l
 ·subst hbl;exact⟨o,Zt.FJ ..⟩
 ·exact⟨x,by rw[Zt.F3 _ _ hbl];exact hx⟩
section
variable {Z:Zt}{σ:Sg}{H:AH}{W:World}{l:Nat}{o:Obj}
theorem GO {r:Loop}:¬fp (.loop r):=fun⟨_,_,_,h⟩=>by cases h
theorem PX {d:Option (List Deferred)}:¬fp (.deferred d):=fun⟨_,_,_,h⟩=>by cases h
theorem IZ.KR {Z':Zt}{w':World}(hc:Zc Z Z'){p:Ip}{x:Cw}(hh:w'.heap[p.b]?=W.heap[p.b]?) (h:IZ Z σ W p x):IZ Z' σ w' p x:=by
 cases h with
 | cells hb hs hf hl hv h1=>exact .cells (by rw[hh];exact hb) hs hf hl (hv.FF hc (fun _ _ h=>h)) h1
 | map hb hn he=>
  refine .map (by rw[hh];exact hb) hn fun i k x n hi=>?_
  obtain⟨m,h1,h2,h3,h4⟩:=he i k x n hi
  exact⟨m,h1,h2.FF hc (fun _ _ h=>h),h3.FF hc (fun _ _ h=>h),h4⟩
 | iter hb h0 hm hs hc=>exact .iter (by rw[hh];exact hb) h0 hm hs hc
theorem WR.KR (hW:WR Z σ H W) (hl:Z l=some o) (ho:¬fp o) (o':Obj):WR (Z.at l o') σ H (W.putObj l o'):=by
 have hn:∀x,Z l=some x->¬fp x:=fun x hx=>by rw[hl]at hx;cases hx;exact ho
 have hlt:l<W.heap.size:=(Aj.1 (hW.z _ _ hl)).1
 have hne:∀{r o1 p},H.get r=some o1->σ r=some p->p.b≠l:=fun h1 h2 h3=>by
  have:=(hW.h _ _ _ h1 h2).1
  rw[h3,hl]at this;cases this
 refine⟨fun b x hb=>?_,fun r x p h1 h2=>⟨?_,?_⟩,hW.inj,hW.fresh,hW.top,hW.rest.1,hW.rest.2.1,fun b x hb=>?_⟩
 ·by_cases hbl:b=l
  ·subst hbl
   rw[Zt.FJ]at hb;cases hb
   exact World.putObj_heap_same hlt
  ·rw[Zt.F3 _ _ hbl]at hb
   rw[World.putObj_heap_other hbl];exact hW.z b x hb
 ·rw[Zt.F3 _ _ (hne h1 h2)];exact(hW.h r x p h1 h2).1
 ·exact((hW.h r x p h1 h2).2).KR (Zt.cC o' hn) (World.putObj_heap_other (hne h1 h2))
 ·obtain⟨q1,q2⟩:=hW.rest.2.2 b x hb
  refine⟨?_,q2⟩
  rw[Zt.F3 _ _ (fun h=>hn _ (by rw[<- h];exact q1) q2)];exact q1
theorem WR.lay (hW:WR Z σ H W) (o':Obj):WR (Z.at W.heap.size o') σ H (W.alloc o')/\CO Z (Z.at W.heap.size o'):=by
 have hz:Z W.heap.size=none:=by
  cases h:Z W.heap.size with
  | none=>rfl
  | some x=>have:=(Aj.1 (hW.z _ _ h)).1;omega
 have hle:CO Z (Z.at W.heap.size o'):=Zt.Rk o' (CO.refl _) (.inl hz)
 have hh:∀k,k<W.heap.size->(W.alloc o').heap[k]?=W.heap[k]?:=fun k hk=>EV W o' hk
 refine⟨⟨fun b x hb=>?_,fun r x p h1 h2=>⟨?_,?_⟩,hW.inj,hW.fresh,hW.top,(hW.rest.le hle).to ⟨rfl,rfl⟩⟩,hle⟩
 ·by_cases hbl:b=W.heap.size
  ·subst hbl
   rw[Zt.FJ]at hb;cases hb
   exact World.alloc_heap_new W _
  ·rw[Zt.F3 _ _ hbl]at hb
   have:=hW.z b x hb
   rw[hh b (Aj.1 this).1];exact this
 ·rw[Zt.F3 _ _ (fun h=>by have:=(hW.h r x p h1 h2).2.lt;omega)];exact(hW.h r x p h1 h2).1
 ·exact((hW.h r x p h1 h2).2).mono hle (fun _ _ h=>h) (hh _ (hW.h r x p h1 h2).2.lt)
end
theorem DR.KR {Z:Zt}{σ:Sg}{l:Nat}{r:Loop}(hl:Z l=some (.loop r)) (o':Obj){ds:List AV}{dd:List Deferred}(h:DR Z σ ds dd):DR (Z.at l o') σ ds dd:=by
 have hc:Zc Z (Z.at l o'):=Zt.cC o' fun x hx=>by rw[hl]at hx;cases hx;exact GO
 induction h with
 | nil=>exact .nil
 | cons h _ ih=>exact .cons (h.FF hc (fun _ _ h=>h)) ih
 | mark h h2 h3 _ ih=>exact .mark (by rw[Zt.F3 _ _ (fun hb=>by rw[hb,hl]at h;cases h)];exact h) h2 h3 ih
theorem FR.KR {Z:Zt}{σ:Sg}{n l:Nat}{r:Loop}(hl:Z l=some (.loop r)) (o':Obj){e:Env}{a:Act}(h:FR Z σ n e a):FR (Z.at l o') σ n e a:=
 ⟨fun t ht=>(h.er t ht).FF (Zt.cC o' fun x hx=>by rw[hl]at hx;cases hx;exact GO) (fun _ _ h=>h),let ⟨d,h1,h2⟩:=h.ds;⟨d,h1,h2.KR hl o'⟩,h.sz⟩
def D5 (e:Env):List Nat->List AV->Env
 | p::ps,v::vs=>D5 (e.set p v) ps vs
 | _,_=>e
def SV (e:Env) (ps:List Nat) (x:List AV):Env:=(D5 e ps x).set AM (.tup [])
theorem FR.D5 {Z:Zt}{σ:Sg}{n:Nat}(hn:n<=AM):∀(ps:List Nat) (x:List AV) (vs:List Value) (e:Env) (a:Act),x.length=ps.length->(∀p∈ps,p<n)->CC Z σ x vs->FR Z σ n e a ->
  FR Z σ n (D5 e ps x) { a with tmps:=(ps.zip vs).foldl (fun t (p,v)=>t.setIfInBounds p v) a.tmps }
 | [],[],_,e,a,_,_,hv,h=>by cases hv;exact h
 | p::ps,v::x,vs,e,a,hl,hp,hv,h=>by
  cases hv with
  | cons h1 h2=>
   exact FR.D5 hn ps x _ (e.set p v) (a.put (some p) _) (by simpa using hl) (fun q hq=>hp q (Cx _ hq)) h2 (h.put hn (d:=some p) (fun q hq=>by cases hq;exact hp p (BY ..)) h1)
theorem FR.yC {Z:Zt}{σ:Sg}{n:Nat}(hn:n<=AM){ps:Array Tmp}{x:List AV}{vs:List Value}{e:Env}{a:Act}(hl:x.length=ps.size) (hp:∀p∈ps.toList,p<n) (hv:CC Z σ x vs) (h:FR Z σ n e a) :
  FR Z σ n (SV e ps.toList x) { tmps:=(ps.zip vs.toArray).foldl (fun t (p,v)=>t.setIfInBounds p v) a.tmps,defers:=[] }:=by
 have h1:=FR.D5 hn ps.toList x vs e a (by simpa using hl) hp hv h
 have e1:(ps.zip vs.toArray).foldl (fun t (p,v)=>t.setIfInBounds p v) a.tmps=(ps.toList.zip vs).foldl (fun t (p,v)=>t.setIfInBounds p v) a.tmps:=by
  rw[<- Array.foldl_toList,Array.toList_zip]
 rw[e1]
 refine⟨fun t ht=>?_,⟨[],Env.Fu ..,.nil⟩,h1.sz⟩
 unfold SV
 rw[Env.Gf _ _ (by omega)]
 exact h1.er t ht
def x_ (P:Program) (g:FuncId) (caps:List AV) (H:AH) (xs:List (List AV)):Prop:=
 Enters P g/\∀(Z:Zt) (σ:Sg) (w:World) (vc:List Value) (l:Nat) (I:Nat->AH->Prop),WR Z σ H w->CC Z σ caps vc->I 0 H ->
  (∀(i:Nat) (x:List AV) (Hi:AH),xs[i]?=some x->I i Hi->∀(Z':Zt) (σ':Sg) (W:World) (vs:List Value),CO Z Z'->Nw σ H.next σ'->H.next<=Hi.next->WR Z' σ' Hi W->CC Z' σ' x vs ->
   YieldAt Fence.wide 0 P l vs.toArray W fun y W'=>∃Z'' σ'' H'',CO Z' Z''/\Nw σ' Hi.next σ''/\Hi.next<=H''.next/\WR Z'' σ'' H'' W'/\y=.returned (.bool true)/\I (i+1) H'') ->
  Calls P g (#[.func (.yield l) #[] #[]]++vc.toArray) w fun y W=>∃v Z' σ' H',y=.returned v/\CO Z Z'/\Nw σ H.next σ'/\H.next<=H'.next/\WR Z' σ' H' W/\I xs.length H'
section
variable {P:Program}
theorem NA {n:Nat}(hn:n<=AM){ps:Array Tmp}(hps:∀p∈ps.toList,p<n) {zs bd:Code}{l:Nat}{fn:FuncId}{D:Nat}{a:Act}{e:Env}
  {Z:Zt} {σ:Sg} {Hi:AH} {W:World} {x:List AV} {vs:List Value} (hx:x.length=ps.size) (hW:WR Z σ Hi W) (hv:CC Z σ x vs) (he:FR Z σ n e a)
  (hl:Z l=some (.loop { state:=.ready,pending:=none,fn,tmps:=a.tmps,params:=ps,assign:=zs,body:=bd,defers:=D })) {Qa:Env->AH->Prop} {J:AH->Prop}
  (ha:∀a1,FR Z σ n (SV e ps.toList x) a1->zs.wpIn (RF (some l)) 0 P (QR Z σ n Hi.next fun y e' H'=>y=.normal/\Qa e' H') a1 W)
  (hb:∀e' H' Z' σ' a1 w1,Qa e' H'->CO (Z.at l (.loop { state:=.busy,pending:=none,fn,tmps:=a.tmps,params:=ps,assign:=zs,body:=bd,defers:=D })) Z'->Nw σ Hi.next σ'->Hi.next<=H'.next->WR Z' σ' H' w1->FR Z' σ' n e' a1 ->
   bd.wpIn (RF (some l)) 0 P (QR Z' σ' n H'.next fun y _ H''=>y=.normal/\J H'') a1 w1) :
  YieldAt Fence.wide 0 P l vs.toArray W fun y W'=>∃Z'' σ'' H'',CO Z Z''/\Nw σ Hi.next σ''/\Hi.next<=H''.next/\WR Z'' σ'' H'' W'/\y=.returned (.bool true)/\J H'':=by
 have hlw:=hW.z _ _ hl
 have hvl:=hv.length
 refine⟨fn,_,zs,bd,run_yield hlw (by simp[<- hvl,hx]),roundIn_of_wpIn trivial ?_⟩
 refine wpIn_mono (ha _ (he.yC hn hx hps hv)) ?_
 rintro y a1 w1 ⟨Z1,σ1,z,e1,H1,g1,g2,g3,g4,g5,g6,rfl,g7⟩
 cases g6
 have hl1:=g1.le _ _ hl
 have hlw1:=g4.z _ _ hl1
 refine⟨_,run_beginRound hlw1 rfl,?_⟩
 have hlt:=(Aj.1 hlw1).1
 have hb1:=hb e1 H1 (Z1.at l (.loop { state:=.busy,pending:=none,fn,tmps:=a.tmps,params:=ps,assign:=zs,body:=bd,defers:=D })) σ1 a1 _ g7
  (by
   refine⟨fun b o hbo=>?_,g1.os,g1.out,g1.P3,g1.old⟩
   by_cases hbl:b=l
   ·subst hbl;rw[Zt.FJ]at hbo ⊢;exact hbo
   ·rw[Zt.F3 _ _ hbl]at hbo ⊢;exact g1.le b o hbo) g2 g3 (g4.KR hl1 GO _) (g5.KR hl1 _)
 refine wpIn_mono hb1 ?_
 rintro y a2 w2 ⟨Z2,σ2,z,e2,H2,k1,k2,k3,k4,k5,k6,rfl,k8⟩
 cases k6
 have hl2:=k1.le _ _ (Zt.FJ _ _ _)
 have hlw2:=k4.z _ _ hl2
 refine⟨_,_,run_endRound none hlw2,Z2.at l (.loop { state:=.ready,pending:=none,fn,tmps:=a.tmps,params:=ps,assign:=zs,body:=bd,defers:=D }),σ2,H2,?_,g2.trans k2 g3,Cq g3 k3,k4.KR hl2 GO _,rfl,k8⟩
 refine⟨fun b o hbo=>?_,k1.os.trans g1.os,k1.out.trans g1.out,k1.P3.trans g1.P3,k1.old.trans g1.old⟩
 by_cases hbl:b=l
 ·subst hbl;rw[hl]at hbo;rw[Zt.FJ];exact hbo
 ·rw[Zt.F3 _ _ hbl]
  refine k1.le b o ?_
  rw[Zt.F3 _ _ hbl];exact g1.le b o hbo
theorem Xs {n:Nat}(hn:n<=AM){g:Operand}{g':AE}(hg:A9 g=some g'){ps:Array Tmp}(hps:∀p∈ps.toList,p<n) {zs bd:Code}{Z:Zt}{σ:Sg}{H:AH}{e:Env}{a:Act}{w:World}{Z0:Zt}{σ0:Sg}{m:Nat}{Q:Ex->Env->AH->Prop}
  (hO:HM Z0) (hZ:CO Z0 Z) (hS:Nw σ0 m σ) (hm:m<=H.next) (hW:WR Z σ H w) (he:FR Z σ n e a) {f:FuncId} {caps:List AV} {xs:List (List AV)} {ds:List AV} {I:Nat->AH->Prop}
  (h1:g'.ev e=.fn (.func f) [] caps) (h2:e AM=.tup ds) (h3:x_ P f caps H xs) (h4:I 0 H)
  (h5:∀i x Hi,xs[i]?=some x->I i Hi->H.next<=Hi.next->x.length=ps.size/\∃Qa:Nat->Env->AH->Prop,
   (∀l Z' σ' a1 W,CO Z0 Z'->Nw σ0 m σ'->m<=Hi.next->WR Z' σ' Hi W->FR Z' σ' n (SV e ps.toList x) a1->zs.wpIn (RF (some l)) 0 P (QR Z' σ' n Hi.next fun y e' H'=>y=.normal/\Qa l e' H') a1 W) /\
   (∀l e' H' Z' σ' a1 W,Qa l e' H'->CO Z0 Z'->Nw σ0 m σ'->m<=H'.next->WR Z' σ' H' W->FR Z' σ' n e' a1->bd.wpIn (RF (some l)) 0 P (QR Z' σ' n H'.next fun y _ H''=>y=.normal/\I (i+1) H'') a1 W))
  (h6:∀Hn,I xs.length Hn->Q .normal (e.set AM (.tup (.nili::ds))) Hn):(Code.rangeFunc g ps zs bd).wpIn (RF none) 0 P (QR Z0 σ0 n m Q) a w:=by
 have hfv:=AI he.er hg
 rw[h1]at hfv
 obtain⟨vf,vc,e1,e2,e3⟩:=hfv.Mn
 have e2:vf=#[]:=by
  generalize hl:vf.toList=l2 at e2
  cases e2;exact DE (by simpa using hl)
 subst e2
 refine wpIn_rangeFunc ?_
 intro fn _
 obtain⟨L1,z1⟩:=hW.lay (.deferred (some []))
 obtain⟨L2,z2⟩:=L1.lay (.loop { state:=.ready,pending:=none,fn,tmps:=a.tmps,params:=ps,assign:=zs,body:=bd,defers:=w.heap.size })
 have hsz:(w.alloc (.deferred (some []))).heap.size=w.heap.size+1:=World.size_alloc ..
 rw[hsz]at L2 z2
 generalize hrec:(.loop { state:=.ready,pending:=none,fn,tmps:=a.tmps,params:=ps,assign:=zs,body:=bd,defers:=w.heap.size }:Obj)=rec at L2 z2
 generalize hW1:(w.alloc (.deferred (some []))).alloc rec=W1 at L2
 refine⟨w.heap.size+1,[{ target:=.collected w.heap.size,args:=#[] }],W1,{ target:=.fn (.func f) vc,args:=#[.func (.yield (w.heap.size+1)) #[] #[]] },W1,f,#[.func (.yield (w.heap.size+1)) #[] #[]]++vc,W1,?_,?_,fun _ _=>trivial,?_,He,?_⟩
 ·rw[<- hW1,<- hrec];exact run_enterLoop_outer _ _ _ _ _
 ·simp only[resolve,e1]
  simp[go_sem]
 ·simp[invoke,go_sem,EH h3.1]
 have zz:=z1.trans z2
 have hl0:((Z.at w.heap.size (.deferred (some []))).at (w.heap.size+1) rec) (w.heap.size+1)=some rec:=Zt.FJ _ _ _
 have hd0:((Z.at w.heap.size (.deferred (some []))).at (w.heap.size+1) rec) w.heap.size=some (.deferred (some [])):=by
  rw[Zt.F3 _ _ (by omega),Zt.FJ]
 generalize hZ1:(Z.at w.heap.size (.deferred (some []))).at (w.heap.size+1) rec=Z1 at L2 zz hl0 hd0
 have hZ0l:Z0 (w.heap.size+1)=none:=by
  cases hq:Z0 (w.heap.size+1)with
  | none=>rfl
  | some x=>have:=(Aj.1 (hW.z _ _ (hZ.le _ _ hq))).1;omega
 have hfr:=he.mono zz (fun _ _ h=>h)
 have key:=h3.2 Z1 σ W1 vc.toList (w.heap.size+1) I L2 (e3.mono zz (fun _ _ h=>h)) h4 ?_
 ·have ev:vc.toList.toArray=vc:=by simp
  rw[ev]at key
  refine IW (key.mono ?_)
  rintro y W2 ⟨v,Z2,σ2,H2,rfl,k1,k2,k3,k4,k5⟩
  have hl2:=k1.le _ _ hl0
  have hlw:=k4.z _ _ hl2
  rw[<- hrec]at hlw hl2
  refine⟨none,_,run_endLoop hlw (by simp),?_⟩
  have t2:=k4.KR hl2 GO (.loop { state:=.exhausted,pending:=none,fn,tmps:=a.tmps,params:=ps,assign:=zs,body:=bd,defers:=w.heap.size })
  refine⟨_,σ2,.normal,e.set AM (.tup (.nili::ds)),H2,Zt.Rk _ (hZ.trans (zz.trans k1)) (.inl hZ0l),hS.trans k2 hm,Cq hm k3,t2,?_,rfl,h6 H2 k5⟩
  have f2:=(hfr.mono k1 (L2.sle k2)).KR hl2 (.loop { state:=.exhausted,pending:=none,fn,tmps:=a.tmps,params:=ps,assign:=zs,body:=bd,defers:=w.heap.size })
  obtain⟨dl,d1,d2⟩:=f2.ds
  rw[h2]at d1
  simp only[AV.tup.injEq]at d1;subst d1
  refine⟨fun t ht=>?_,⟨_,Env.Fu ..,?_⟩,f2.sz⟩
  ·rw[Env.Gf _ _ (by omega)];exact f2.er t ht
  ·refine .mark ?_ (fun ho=>?_) (fun d hd ht=>?_) d2
   ·rw[Zt.F3 _ _ (by omega)]
    exact k1.le _ _ hd0
   ·have ho:Z2.old w.heap.size:=ho
    rw[k1.old,zz.old]at ho
    obtain⟨x,hx⟩:=(hO.le hZ) _ ho
    have:=(Aj.1 (hW.z _ _ hx)).1
    omega
   ·obtain⟨dl0,q1,q2⟩:=he.ds
    have hx:=q2.marks d hd ht
    have:=(Aj.1 (hW.z _ _ hx)).1
    omega
 ·intro i x Hi hx hI Z' σ' W vs q1 q2 q3 q4 q5
  obtain⟨r1,Qa,r2,r3⟩:=h5 i x Hi hx hI q3
  have hl':=q1.le _ _ hl0
  rw[<- hrec]at hl'
  have hZ0':CO Z0 Z':=hZ.trans (zz.trans q1)
  have hS0':Nw σ0 m σ':=hS.trans q2 hm
  have hm0:m<=Hi.next:=Cq hm q3
  exact NA hn hps r1 q4 q5 (hfr.mono q1 (L2.sle q2)) hl' (fun a1 f1=>r2 _ Z' σ' a1 W hZ0' hS0' hm0 q4 f1)
   (fun e' H' Z3 σ3 a1 w1 hh p1 p2 p3 p4 p5=>r3 _ e' H' Z3 σ3 a1 w1 hh ((Zt.Rk _ hZ0' (.inl hZ0l)).trans p1) (hS0'.trans p2 hm0) (Cq hm0 p3) p4 p5)
end
end
section
inductive Ay where
 | skip
 | reg (ops:List A_)
 | dreg (plan:List DX)
 | seq (a b:Ay)
 | cond (c:AE) (a b:Ay)
 | block (id:Nat) (a:Ay)
 | loop (a:Ay)
 | exit (id:Nat)
 | ret
 | rng (g:AE) (ps:List Nat) (zs bd:Ay)
def VS (e:Env) (H:AH) (e':Env) (H':AH):Prop:=∀(n:Nat) (Z:Zt) (σ:Sg) (w:World) (a:Act),WR Z σ H w->FR Z σ n e a ->
 ∃Z' σ',CO Z Z'/\Nw σ H.next σ'/\H.next<=H'.next/\WR Z' σ' H' w/\FR Z' σ' n e' a
theorem VS.refl (e:Env) (H:AH):VS e H e H:=fun _ Z σ _ _ h1 h2=>⟨Z,σ,CO.refl _,Nw.refl _ _,A4 _,h1,h2⟩
def VA (Q:Ex->Env->AH->Prop):Ex->Env->AH->Prop:=fun x e H=>match x with
 | .normal=>∃e'' H'',VS e H e'' H''/\Q .normal e'' H''
 | x=>Q x e H
theorem QR.vs {Z0:Zt}{σ0:Sg}{n m:Nat}{Q:Ex->Env->AH->Prop}{x:Exit}{a:Act}{w:World}(h:QR Z0 σ0 n m (VA Q) x a w):QR Z0 σ0 n m Q x a w:=by
 obtain⟨Z,σ,y,e,H,h1,h2,h3,h4,h5,h6,h7⟩:=h
 cases y with
 | normal=>
  obtain⟨e'',H'',g1,g2⟩:=h7
  obtain⟨Z',σ',k1,k2,k3,k4,k5⟩:=g1 n Z σ w a h4 h5
  exact⟨Z',σ',.normal,e'',H'',h1.trans k1,h2.trans k2 h3,Cq h3 k3,k4,k5,h6,g2⟩
 | exit i=>exact⟨Z,σ,.exit i,e,H,h1,h2,h3,h4,h5,h6,h7⟩
 | ret=>exact⟨Z,σ,.ret,e,H,h1,h2,h3,h4,h5,h6,h7⟩
 | Bd v=>exact⟨Z,σ,.Bd v,e,H,h1,h2,h3,h4,h5,h6,h7⟩
def Hg:Ay->Bool
 | .reg ops=>ops.all (fun o=>!o.k.B0)
 | .seq a b | .cond _ a b=>Hg a&&Hg b
 | .block _ a | .loop a=>Hg a
 | .rng _ _ _ _=>false
 | _=>true
def D [YC] (P:Program):Ay->(Ex->Env->AH->Prop)->Env->AH->Prop
 | .skip,Q,e,H=>Q .normal e H
 | .reg ops,Q,e,H=>CI P ops e H (fun e' H'=>VA Q .normal e' H') (fun v e' H'=>Q (.Bd v) e' H')
 | .dreg plan,Q,e,H=>A1 P (Is plan e) (fun e' H'=>VA Q .normal e' H') (fun v e' H'=>Q (.Bd v) e' H') plan e H []
 | .seq a b,Q,e,H=>D P a (fun x e' H'=>match x with
  | .normal=>D P b Q e' H'
  | x=>Q x e' H') e H
 | .cond c a b,Q,e,H=>match c.ev e with
  | .bool t=>(t=true->D P a Q e H)/\(t=false->D P b Q e H)
  | _=>False
 | .block id a,Q,e,H=>D P a (fun x e' H'=>match x with
  | .exit i=>if i=id then Q .normal e' H' else Q (.exit i) e' H'
  | x=>Q x e' H') e H
 | .loop a,Q,e,H=>∃(I:Env->AH->Prop) (μ:Env->AH->Nat),I e H/\∀e H,I e H->D P a (fun x e' H'=>match x with
  | .normal=>I e' H'/\μ e' H'<μ e H
  | x=>Q x e' H') e H
 | .exit id,Q,e,H=>Q (.exit id) e H
 | .ret,Q,e,H=>Q .ret e H
 | .rng g ps zs bd,Q,e,H=>∃(f:FuncId) (caps:List AV) (xs:List (List AV)) (ds:List AV) (I:Nat->AH->Prop),g.ev e=.fn (.func f) [] caps/\e AM=.tup ds/\x_ P f caps H xs/\I 0 H /\
   (∀i x Hi,xs[i]?=some x->I i Hi->H.next<=Hi.next->x.length=ps.length/\D P zs (fun y e' H'=>match y with
    | .normal=>D P bd (fun z _ H''=>z=.normal/\I (i+1) H'') e' H'
    | _=>False) (SV e ps x) Hi) /\
   ∀Hn,I xs.length Hn->Q .normal (e.set AM (.tup (.nili::ds))) Hn
abbrev Hints:=List (Nat × List (Nat × Nat × List Nat × Bool))
def comp (P:Program) (hs:Hints) (n:Nat):Code->Option Ay
 | .skip=>some .skip
 | .region _ ops false=>(CB P n ops ops.toList).map .reg
 | .region id ops true=>match hs.lookup id with
  | some h=>match Mi P n ops h with
   | some plan=>if VY ops plan=true/\plan.length=ops.size then some (.dreg plan)else none
   | none=>none
  | none=>none
 | .seq a b=>match comp P hs n a,comp P hs n b with
  | some x,some y=>some (.seq x y)
  | _,_=>none
 | .cond c a b=>match A9 c,comp P hs n a,comp P hs n b with
  | some c,some x,some y=>some (.cond c x y)
  | _,_,_=>none
 | .block id a=>(comp P hs n a).map (.block id)
 | .loop a=>(comp P hs n a).map .loop
 | .exit id=>some (.exit id)
 | .ret=>some .ret
 | .rangeFunc g ps zs bd=>match A9 g,comp P hs n zs,comp P hs n bd with
  | some g,some x,some y=>if ps.toList.all (fun p=>decide (p<n))=true/\Hg x=true/\Hg y=true then some (.rng g ps.toList x y)else none
  | _,_,_=>none
 | .label _=>some .skip
 | .scope a=>(comp P hs n a).map fun x=>.cond (.cst (.bool true)) x .skip
 | _=>none
section
variable {P:Program}
theorem En {b:Frame}{a:Act}{k:List Item}{cs:List Frame}{w:World}{c:Code}:step P (lone (b.atR a (.code (.scope c)::k)) cs w)=.next (lone (b.atR a (.code c::.inScope c::k)) cs w):=
 step_lone_go (by simp[stepG,stepG.exec,Frame.atR])
theorem Qk {b:Frame}{a:Act}{k:List Item}{cs:List Frame}{w:World}{c:Code}:step P (lone (b.atR a (.inScope c::k)) cs w)=.next (lone (b.atR a k) cs w):=
 step_lone_go (by simp[stepG,stepG.exec,Frame.atR])
theorem O1 {F:Fence}{n:Nat}{Q:Exit->Act->World->Prop}{a:Act}{w:World}{c:Code}(h:c.wpIn F n P (Exit.noGoto Q) a w):(Code.scope c).wpIn F n P Q a w:=by
 intro b k cs hro hb hr
 have h0:(lone (b.atR a (.code (.scope c)::k)) cs w).fenced P F:=fenced_calm hb hr rfl
 obtain⟨e,a₁,w₁,hq,harr⟩:=h b (.inScope c::k) cs hro hb hr
 cases e with
 | normal=>exact⟨.normal,a₁,w₁,hq,.head h0 En (StepsIn.trans harr (.one (fenced_calm hb hr rfl) Qk))⟩
 | exit id=>
  have hx:exitTo id (.inScope c::k)=exitTo id k:=by simp[exitTo]
  exact⟨.exit id,a₁,w₁,hq,fun k' hk=>.head h0 En (harr.1 k' (by rw[hx];exact hk)),
   fun hr' hk=>let ⟨k₁,h1,h2⟩:=harr.2 hr' (by rw[hx];exact hk);⟨k₁,h1,.head h0 En h2⟩⟩
 | goto l=>exact hq.elim
 | ret=>exact⟨_,a₁,w₁,hq,.of_steps (.one h0 En) harr⟩
 | panic ch=>exact⟨_,a₁,w₁,hq,.of_steps (.one h0 En) harr⟩
 | outgrown=>exact⟨_,a₁,w₁,hq,.of_steps (.one h0 En) harr⟩
theorem QR.noGoto {Z:Zt}{σ:Sg}{n m:Nat}{Q:Ex->Env->AH->Prop}{x:Exit}{a:Act}{w:World}(h:QR Z σ n m Q x a w):Exit.noGoto (QR Z σ n m Q) x a w:=by
 cases x with
 | goto l=>obtain⟨_,_,y,_,_,_,_,_,_,_,h6,_⟩:=h;cases y<;>first | (cases h6;done) | exact h6.elim | (obtain⟨_,h7,_⟩:=h6;cases h7)
 | _=>exact h
theorem Qg [YC] {hs:Hints}{n:Nat}(hmix:P.follows .mixedOrders=true) (hn:n<=AM):∀(c:Code) (ac:Ay),comp P hs n c=some ac->∀(ro:Option Nat),(ro=none\/Hg ac=true) ->
  ∀(Z:Zt) (σ:Sg) (H:AH) (e:Env) (a:Act) (w:World) (Z0:Zt) (σ0:Sg) (m:Nat) (Q:Ex->Env->AH->Prop),CO Z0 Z->Nw σ0 m σ->m<=H.next->WR Z σ H w->FR Z σ n e a ->
   HM Z0->cI P Z0 σ0 m->D P ac Q e H->c.wpIn (RF ro) 0 P (QR Z0 σ0 n m Q) a w:=by
 intro c
 induction c with
 | skip=>
  intro ac hc ro hro Z σ H e a w Z0 σ0 m Q hZ hS hm hW he hO hY h
  simp only[comp,AD]at hc;subst hc
  exact wpIn_skip ⟨Z,σ,.normal,e,H,hZ,hS,hm,hW,he,rfl,h⟩
 | region id ops draw=>
  intro ac hc ro hro Z σ H e a w Z0 σ0 m Q hZ hS hm hW he hO hY h
  cases draw with
  | true=>
   simp only[comp]at hc
   split at hc<;>(try (cases hc;done))
   split at hc<;>(try (cases hc;done))
   rename_i plan hpl
   split at hc<;>(try (cases hc;done))
   rename_i hok
   simp only[AD]at hc;subst hc
   exact Code.wpIn_mono (fun _ _ _ h=>h.vs) (Tr hY (Q:=VA Q) hmix (Ts hok.1 hpl) hok.2 hn hZ hS hm hW he h)
  | false=>
   simp only[comp,AP]at hc
   obtain⟨al,hal,rfl⟩:=hc
   exact Code.wpIn_mono (fun _ _ _ h=>h.vs) (wpIn_region_list (WB (Q:=VA Q) hn hY ops.toList al hal hro Z σ H e a w hZ hS hm hW he h))
 | seq x y ihx ihy=>
  intro ac hc ro hro Z σ H e a w Z0 σ0 m Q hZ hS hm hW he hO hY h
  simp only[comp]at hc
  split at hc
  ·rename_i ax ay hx hy
   simp only[AD]at hc;subst hc
   have h1:ro=none\/Hg ax=true:=hro.imp_right fun h=>by simp only[Hg,AS]at h;exact h.1
   have h2:ro=none\/Hg ay=true:=hro.imp_right fun h=>by simp only[Hg,AS]at h;exact h.2
   refine wpIn_seq (Code.wpIn_mono ?_ (ihx ax hx ro h1 Z σ H e a w Z0 σ0 m _ hZ hS hm hW he hO hY h))
   intro ex a' w' hq
   obtain⟨Z',σ',z,e',H',g1,g2,g3,g4,g5,g6,g7⟩:=hq
   cases z with
   | normal=>cases g6;exact ihy ay hy ro h2 Z' σ' H' e' a' w' Z0 σ0 m Q g1 g2 g3 g4 g5 hO hY g7
   | exit i=>cases g6;exact⟨Z',σ',.exit i,e',H',g1,g2,g3,g4,g5,rfl,g7⟩
   | ret=>cases g6;exact⟨Z',σ',.ret,e',H',g1,g2,g3,g4,g5,rfl,g7⟩
   | Bd v=>obtain⟨cv,rfl,g6⟩:=g6;exact⟨Z',σ',.Bd v,e',H',g1,g2,g3,g4,g5,⟨cv,rfl,g6⟩,g7⟩
  ·cases hc
 | cond c x y ihx ihy=>
  intro ac hc ro hro Z σ H e a w Z0 σ0 m Q hZ hS hm hW he hO hY h
  simp only[comp]at hc
  split at hc
  ·rename_i c' ax ay h1 hx hy
   simp only[AD]at hc;subst hc
   simp only[D]at h
   split at h
   ·rename_i t ht
    have hv:=AI he.er h1
    rw[ht]at hv
    have k1:ro=none\/Hg ax=true:=hro.imp_right fun h=>by simp only[Hg,AS]at h;exact h.1
    have k2:ro=none\/Hg ay=true:=hro.imp_right fun h=>by simp only[Hg,AS]at h;exact h.2
    exact wpIn_cond_split hv.EX (fun ht=>ihx ax hx ro k1 Z σ H e a w Z0 σ0 m Q hZ hS hm hW he hO hY (h.1 ht)) (fun ht=>ihy ay hy ro k2 Z σ H e a w Z0 σ0 m Q hZ hS hm hW he hO hY (h.2 ht))
   ·exact h.elim
  ·cases hc
 | block id x ih=>
  intro ac hc ro hro Z σ H e a w Z0 σ0 m Q hZ hS hm hW he hO hY h
  simp only[comp,AP]at hc
  obtain⟨ax,hx,rfl⟩:=hc
  refine wpIn_block (Code.wpIn_mono ?_ (ih ax hx ro hro Z σ H e a w Z0 σ0 m _ hZ hS hm hW he hO hY h))
  intro ex a' w' hq
  obtain⟨Z',σ',z,e',H',g1,g2,g3,g4,g5,g6,g7⟩:=hq
  cases z with
  | normal=>cases g6;exact⟨Z',σ',.normal,e',H',g1,g2,g3,g4,g5,rfl,g7⟩
  | exit i=>
   cases g6
   simp only[]at g7
   by_cases hi:i=id
   ·subst hi
    rw[if_pos rfl]at g7
    simp only[Exit.inBlock,if_true]
    exact⟨Z',σ',.normal,e',H',g1,g2,g3,g4,g5,rfl,g7⟩
   ·rw[if_neg hi]at g7
    have hi':¬id=i:=fun h=>hi h.symm
    simp only[Exit.inBlock,hi,hi',if_false]
    exact⟨Z',σ',.exit i,e',H',g1,g2,g3,g4,g5,rfl,g7⟩
  | ret=>cases g6;exact⟨Z',σ',.ret,e',H',g1,g2,g3,g4,g5,rfl,g7⟩
  | Bd v=>obtain⟨cv,rfl,g6⟩:=g6;exact⟨Z',σ',.Bd v,e',H',g1,g2,g3,g4,g5,⟨cv,rfl,g6⟩,g7⟩
 | loop x ih=>
  intro ac hc ro hro Z σ H e a w Z0 σ0 m Q hZ hS hm hW he hO hY h
  simp only[comp,AP]at hc
  obtain⟨ax,hx,rfl⟩:=hc
  obtain⟨I,μ,hI,hstep⟩:=h
  refine KW (fun k a w=>∃Z σ H e,CO Z0 Z/\Nw σ0 m σ/\m<=H.next/\WR Z σ H w/\FR Z σ n e a/\I e H/\μ e H=k) ?_ (μ e H) a w ⟨Z,σ,H,e,hZ,hS,hm,hW,he,hI,rfl⟩
  rintro k a w ⟨Z,σ,H,e,hZ,hS,hm,hW,he,hI,rfl⟩
  refine Code.wpIn_mono ?_ (ih ax hx ro hro Z σ H e a w Z0 σ0 m _ hZ hS hm hW he hO hY (hstep e H hI))
  intro ex a' w' hq
  obtain⟨Z',σ',z,e',H',g1,g2,g3,g4,g5,g6,g7⟩:=hq
  cases z with
  | normal=>cases g6;exact⟨μ e' H',g7.2,Z',σ',H',e',g1,g2,g3,g4,g5,g7.1,rfl⟩
  | exit i=>cases g6;exact⟨Z',σ',.exit i,e',H',g1,g2,g3,g4,g5,rfl,g7⟩
  | ret=>cases g6;exact⟨Z',σ',.ret,e',H',g1,g2,g3,g4,g5,rfl,g7⟩
  | Bd v=>obtain⟨cv,rfl,g6⟩:=g6;exact⟨Z',σ',.Bd v,e',H',g1,g2,g3,g4,g5,⟨cv,rfl,g6⟩,g7⟩
 | exit id=>
  intro ac hc ro hro Z σ H e a w Z0 σ0 m Q hZ hS hm hW he hO hY h
  simp only[comp,AD]at hc;subst hc
  exact wpIn_exit ⟨Z,σ,.exit id,e,H,hZ,hS,hm,hW,he,rfl,h⟩
 | ret=>
  intro ac hc ro hro Z σ H e a w Z0 σ0 m Q hZ hS hm hW he hO hY h
  simp only[comp,AD]at hc;subst hc
  exact wpIn_ret ⟨Z,σ,.ret,e,H,hZ,hS,hm,hW,he,rfl,h⟩
 | rangeFunc g ps zs bd iha ihb=>
  intro ac hc ro hro Z σ H e a w Z0 σ0 m Q hZ hS hm hW he hO hY h
  simp only[comp]at hc
  split at hc<;>(try (cases hc;done))
  rename_i g' aa ab hg ha hb
  split at hc<;>(try (cases hc;done))
  rename_i hok
  simp only[AD]at hc;subst hc
  obtain⟨hps,ra,rb⟩:=hok
  have hps:∀p∈ps.toList,p<n:=fun p hp=>by simpa using CW.1 hps p hp
  have hro:ro=none:=hro.resolve_right (by simp[Hg])
  subst hro
  obtain⟨f,caps,xs,ds,I,h1,h2,h3,h4,h5,h6⟩:=h
  refine Xs hn hg hps hO hZ hS hm hW he h1 h2 h3 h4 (fun i x Hi hx hI hle=>?_) h6
  obtain⟨r1,r2⟩:=h5 i x Hi hx hI hle
  refine⟨by simpa using r1,fun _ e' H'=>D P ab (fun z _ H''=>z=.normal/\I (i+1) H'') e' H',fun l Z' σ' a1 W q1 q2 q3 q4 q5=>?_,fun l e' H' Z' σ' a1 W hh q1 q2 q3 q4 q5=>?_⟩
  ·refine wpIn_mono (iha aa ha _ (.inr ra) Z' σ' Hi _ a1 W Z' σ' Hi.next _ (CO.refl _) (Nw.refl _ _) (A4 _) q4 q5 (hO.le q1) (hY.up q1 q2 q3) r2) ?_
   rintro y a2 w2 ⟨Z2,σ2,z,e2,H2,k1,k2,k3,k4,k5,k6,k7⟩
   refine⟨Z2,σ2,z,e2,H2,k1,k2,k3,k4,k5,k6,?_⟩
   cases z<;>first | exact⟨rfl,k7⟩ | exact k7.elim
  ·exact ihb ab hb _ (.inr rb) Z' σ' H' e' a1 W Z' σ' H'.next _ (CO.refl _) (Nw.refl _ _) (A4 _) q4 q5 (hO.le q1) (hY.up q1 q2 q3) hh
 | label l=>
  intro ac hc ro hro Z σ H e a w Z0 σ0 m Q hZ hS hm hW he hO hY h
  simp only[comp,AD]at hc;subst hc
  exact wpIn_label ⟨Z,σ,.normal,e,H,hZ,hS,hm,hW,he,rfl,h⟩
 | scope c ih=>
  intro ac hc ro hro Z σ H e a w Z0 σ0 m Q hZ hS hm hW he hO hY h
  simp only[comp,AP]at hc
  obtain⟨x,hx,rfl⟩:=hc
  have h':D P x Q e H:=by
   simp only[D,AE.ev]at h
   exact h.1 trivial
  exact O1 (wpIn_mono (ih x hx ro (hro.imp_right fun hr=>by simp only[Hg,AS]at hr;exact hr.1) Z σ H e a w Z0 σ0 m Q hZ hS hm hW he hO hY h') fun _ _ _ hq=>hq.noGoto)
 | _=>intro ac hc;simp[comp]at hc
theorem TG {hs:Hints}{n:Nat}(hmix:P.follows .mixedOrders=true) (hn:n<=AM) (c:Code) (ac:Ay) (hc:comp P hs n c=some ac) (Z:Zt) (σ:Sg) (H:AH) (e:Env) (a:Act) (w:World) (Z0:Zt) (σ0:Sg) (m:Nat) (Q:Ex->Env->AH->Prop)
  (hO:HM Z0) (hZ:CO Z0 Z) (hS:Nw σ0 m σ) (hm:m<=H.next) (hW:WR Z σ H w) (he:FR Z σ n e a) (h:D P ac Q e H):c.wp P (QR Z0 σ0 n m Q) a w:=
 wpIn_wide.1 (Qg hmix hn c ac hc none (.inl rfl) Z σ H e a w Z0 σ0 m Q hZ hS hm hW he hO LY h)
end
end
section
inductive CZ where
 | tmp (t:Nat)
 | cell (a:Nat) (agg:Option Nat)
def jH (P:Program):ResultVar->Option CZ
 | .tmp t=>if t<AM then some (.tmp t)else none
 | .cell a t=>if a<AM then(Ic P t).map (.cell a ·)else none
def F_ (P:Program):List ResultVar->Option (List CZ)
 | []=>some []
 | x::l=>match jH P x,F_ P l with
  | some y,some r=>some (y::r)
  | _,_=>none
def DU (e:Env) (H:AH):List CZ->Option (List AV)
 | []=>some []
 | .tmp t::l=>(DU e H l).map (e t::·)
 | .cell a g::l=>match BJ g (e a) H with
  | some v=>(DU e H l).map (v::·)
  | none=>none
def Im:List AV->AV
 | [v]=>v
 | l=>.tup l
section
variable {P:Program}{Z:Zt}{σ:Sg}{H:AH}{w:World}{e:Env}{a:Act}
def Q8 (tmps:Array Value):ResultVar->Sem Value
 | .tmp t=>pure (tmps.getD t undef)
 | .cell a t=>do loadVar t (<- asAddr (tmps.getD a undef))
theorem HN (hW:WR Z σ H w) (he:ER Z σ e a):∀{rs:List ResultVar}{ars:List CZ}{vs:List AV},F_ P rs=some ars->DU e H ars=some vs ->
  ∃us:List Value,(rs.mapM (Q8 a.tmps)).run P w=.ok us w/\CC Z σ vs us
 | [],ars,vs,h1,h2=>by
  simp only[F_,AD]at h1;subst h1
  simp only[DU,AD]at h2;subst h2
  exact⟨[],by simp,.nil⟩
 | x::rs,ars,vs,h1,h2=>by
  simp only[F_]at h1
  split at h1<;>simp only[AD,reduceCtorEq]at h1
  rename_i y r hx hr
  subst h1
  cases x with
  | tmp t=>
   simp only[jH]at hx
   split at hx<;>simp only[AD,reduceCtorEq]at hx
   rename_i hlt
   subst hx
   simp only[DU,AP]at h2
   obtain⟨vs',h2,rfl⟩:=h2
   obtain⟨us,g1,g2⟩:=HN hW he hr h2
   exact⟨a.tmps.getD t undef::us,by simp[I0,Q8,g1],.cons (he t hlt) g2⟩
  | cell ad t=>
   simp only[jH]at hx
   split at hx<;>(try (cases hx;done))
   rename_i hlt
   simp only[AP]at hx
   obtain⟨g,hg,rfl⟩:=hx
   simp only[DU]at h2
   split at h2<;>(try (cases h2;done))
   rename_i v hv
   simp only[AP]at h2
   obtain⟨vs',h2,rfl⟩:=h2
   obtain⟨us,g1,g2⟩:=HN hW he hr h2
   obtain⟨cv,r1,r2⟩:=Nc (P:=P) hW hg (he ad hlt) hv
   refine⟨cv::us,?_,.cons r2 g2⟩
   have:(Q8 a.tmps (.cell ad t)).run P w=.ok cv w:=by
    simp only[Q8]
    cases hp:a.tmps.getD ad undef with
    | pointer o=>
     cases o with
     | none=>rw[hp]at r1;simp[Instr.loadAt,Instr.sureAddr]at r1
     | some x=>rw[hp]at r1;simpa[Instr.loadAt,Instr.sureAddr,asAddr]using r1
    | _=>rw[hp]at r1;simp[Instr.loadAt,Instr.sureAddr]at r1
   simp[I0,this,g1]
theorem NB (hW:WR Z σ H w) (he:ER Z σ e a){fn:Func}{ars:List CZ}{vs:List AV}(h1:F_ P fn.results.toList=some ars) (h2:DU e H ars=some vs) :
  ∃cv,(results fn a.tmps).run P w=.ok cv w/\VR Z σ (Im vs) cv:=by
 obtain⟨us,g1,g2⟩:=HN hW he h1 h2
 have hm:(fn.results.mapM (Q8 a.tmps)).run P w=.ok us.toArray w:=by
  rw[Oq];simp[g1]
 have hres:(results fn a.tmps).run P w=.ok (if h:us.toArray.size=1 then us.toArray[0]else .tuple us.toArray) w:=by
  have e1:results fn a.tmps=(do let vs <- fn.results.mapM (Q8 a.tmps);pure (if h:vs.size=1 then vs[0]else .tuple vs)):=rfl
  rw[e1];simp[hm]
 refine⟨_,hres,?_⟩
 cases g2 with
 | nil=>simp[Im];exact .tup (by simpa using CC.nil)
 | cons h t=>
  cases t with
  | nil=>simpa[Im]using h
  | cons h' t'=>simp[Im];exact .tup (by simpa using CC.cons h (.cons h' t'))
def F1 (ars:List CZ) (post:Al->AH->Prop):Ex->Env->AH->Prop
 | .normal,e,H | .ret,e,H=>match DU e H ars with
  | some vs=>post (.ret (Im vs)) H
  | none=>False
 | .Bd v,_,H=>post (.Bd v) H
 | .exit _,_,_=>False
def CH (args:List AV):Env:=fun t=>if t=AM then .tup []else args.getD t .unk
theorem CC.getD {l:List AV}{vs:List Value}(h:CC Z σ l vs) (t:Nat):VR Z σ (l.getD t .unk) (vs.getD t undef):=by
 rw[Ac,Ac]
 cases hl:l[t]? with
 | none=>simp;exact .unk _
 | some x=>
  obtain⟨v,h1,h2⟩:=h.get hl
  rw[h1];exact h2
theorem MF {vs:List Value}{args:List AV}(hv:CC Z σ args vs){n:Nat}(hlen:args.length<=n) (hn:n<=AM) :
  FR Z σ n (CH args) { tmps:=vs.toArray++Array.replicate (n-vs.toArray.size) undef,defers:=[] }:=by
 have hl:=hv.length
 refine⟨fun t ht=>?_,⟨[],by simp[CH],.nil⟩,by simp;omega⟩
 have hne:t≠AM:=by omega
 simp only[CH,hne,if_false]
 have hg:(vs.toArray++Array.replicate (n-vs.toArray.size) undef).getD t undef=vs.getD t undef:=by
  rw[Eb,Ac,Array.getElem?_append]
  split
  ·simp
  ·rename_i hlt
   have hlt':vs.length<=t:=by simpa using hlt
   rw[BT hlt']
   rw[Array.getElem?_replicate]
   split<;>rfl
 rw[hg];exact hv.getD t
theorem AQ.Vf {f:FuncId}{args:List AV}{H:AH}{post:Al->AH->Prop}(hE:Enters P f)
  (h:∀(Z:Zt) (σ:Sg) (w:World) (vs:List Value),HM Z->(∀b,¬Z.old b->Z b=none)->WR Z σ H w->CC Z σ args vs ->
   Calls P f vs.toArray w fun e w'=>∃Z' σ' H' out,CO Z Z'/\Nw σ H.next σ'/\H.next<=H'.next/\WR Z' σ' H' w'/\WS Z' σ' out e/\post out H'):AQ P f args H post:=by
 refine⟨hE,fun Z σ w vs hW hv=>?_⟩
 have c1:∀(Z:Zt) (o:Nat->Prop),Zc Z { Z with old:=o }:=fun Z o _ _ _ _ h=>h
 have wr:∀(Z:Zt) (o:Nat->Prop) {σ:Sg} {H:AH} {w:World},WR Z σ H w->WR { Z with old:=o } σ H w:=fun Z o σ H w hW=>
  ⟨hW.z,fun r x p h1 h2=>⟨(hW.h r x p h1 h2).1,((hW.h r x p h1 h2).2).KR (c1 Z o) rfl⟩,hW.inj,hW.fresh,hW.top,hW.rest⟩
 refine(h { Z with old:=fun b=>∃o,Z b=some o } σ w vs (fun b hb=>hb) (fun b hb=>?_) (wr Z _ hW) (hv.FF (c1 Z _) (fun _ _ h=>h))).mono ?_
 ·cases hq:Z b with
  | none=>rfl
  | some x=>exact absurd ⟨x,hq⟩ hb
 ·rintro e w' ⟨Z',σ',H',out,g1,g2,g3,g4,g5,g6⟩
  refine⟨{ Z' with old:=Z.old },σ',H',out,⟨g1.le,g1.os,g1.out,g1.P3,rfl⟩,g2,g3,wr Z' _ g4,?_,g6⟩
  cases out with
  | ret v=>obtain⟨cv,q1,q2⟩:=g5;exact⟨cv,q1,q2.FF (c1 Z' _) (fun _ _ h=>h)⟩
  | Bd v=>obtain⟨cv,q1,q2⟩:=g5;exact⟨cv,q1,q2.FF (c1 Z' _) (fun _ _ h=>h)⟩
theorem DR.shut {Z:Zt}{σ:Sg}{b:Nat}{o:Obj}(hb:Z b=some (.deferred (some []))){ds:List AV}{dd:List Deferred}(h:DR Z σ ds dd):(∀d∈dd,d.target≠.collected b)->DR (Z.at b o) σ ds dd:=by
 have hc:Zc Z (Z.at b o):=Zt.cC o fun x hx=>by rw[hb]at hx;cases hx;exact PX
 induction h with
 | nil=>exact fun _=>.nil
 | cons h _ ih=>exact fun hn=>.cons (h.FF hc (fun _ _ h=>h)) (ih fun d hd=>hn d (Cx _ hd))
 | mark h h2 h3 _ ih=>exact fun hn=>.mark (by rw[Zt.F3 _ _ (fun hq=>hn _ (BY ..) (by rw[hq]))];exact h) h2 h3 (ih fun d hd=>hn d (Cx _ hd))
theorem IQ {fn:Func}{tmps:Array Value}{R:Ending->World->Prop}{u:FrameMode}(hu:u≠.run){Z0:Zt}:∀(ds:List AV) (dd:List Deferred) (Z:Zt) (w:World),(∀x∈ds,x=.nili)->DR Z σ ds dd->WR Z σ H w->CO Z0 Z ->
  (∀b,¬Z.old b->Z0 b=none)->(∀Z' w',CO Z0 Z'->Zc Z Z'->WR Z' σ H w'->LeavesIn Fence.wide 0 P fn tmps R [] u w')->LeavesInM Fence.wide 0 P fn tmps R dd u w
 | [],dd,Z,w,_,hD,hW,hZ,_,hK=>by
  cases hD
  exact hK Z w hZ (fun _ _ _ _ h=>h) hW
 | x::ds,dd,Z,w,hx,hD,hW,hZ,ho,hK=>by
  have:=hx x (BY ..)
  subst this
  cases hD with
  | @mark b _ dd' h h2 h3 t=>
   have hc:Zc Z (Z.at b (.deferred none)):=Zt.cC _ fun x hx=>by rw[h]at hx;cases hx;exact PX
   refine⟨hu,.inl ⟨b,_,rfl,run_takeDeferred (hW.z _ _ h),?_⟩⟩
   exact IQ hu ds dd' _ _ (fun y hy=>hx y (Cx _ hy)) (t.shut h h3) (hW.KR h PX _) (Zt.Rk _ hZ (.inl (ho b h2))) ho
    (fun Z' w' k1 k2 k3=>hK Z' w' k1 (fun b c e fr hb=>k2 b c e fr (hc b c e fr hb)) k3)
theorem Js {f:FuncId}{fn:Func}{c:Code}{ars:List CZ}{args:List AV}{post:Al->AH->Prop}(hf:P.funcs[f]?=some fn)
  (hb:fn.body=some c) (hn:fn.ntmps<=AM) (hlen:args.length<=fn.ntmps) (hr:F_ P fn.results.toList=some ars) {vs:List Value} (hO:HM Z) (hN:∀b,¬Z.old b->Z b=none) (hW:WR Z σ H w) (hv:CC Z σ args vs)
  (h:∀a,FR Z σ fn.ntmps (CH args) a->c.wpIn (RF none) 0 P (QR Z σ fn.ntmps H.next fun x e H=>(∃ds,e AM=.tup ds/\∀x∈ds,x=.nili)/\F1 ars post x e H) a w) :
  Calls P f vs.toArray w fun e w'=>∃Z' σ' H' out,CO Z Z'/\Nw σ H.next σ'/\H.next<=H'.next/\WR Z' σ' H' w'/\WS Z' σ' out e/\post out H':=by
 refine(callsIn_wide (n:=0)).1 (callsIn_of_wp_marks hf hb trivial (Code.wpIn_mono ?_ (h _ (MF hv hlen hn))))
 rintro ex a' w' ⟨Z',σ',z,e',H',g1,g2,g3,g4,g5,g6,⟨ds,g7,g8⟩,g9⟩
 have hds:DR Z' σ' ds a'.defers:=by
  obtain⟨l,k1,k2⟩:=g5.ds
  rw[g7]at k1;simp only[AV.tup.injEq]at k1;subst k1;exact k2
 have hN':∀b,¬Z'.old b->Z b=none:=fun b hb=>hN b (by rw[<- g1.old];exact hb)
 have fin:(match DU e' H' ars with | some vs=>post (.ret (Im vs)) H' | none=>False)->LeavesInM Fence.wide 0 P fn a'.tmps (fun e w'=>∃Z' σ' H' out,CO Z Z'/\Nw σ H.next σ'/\H.next<=H'.next/\WR Z' σ' H' w'/\WS Z' σ' out e/\post out H') a'.defers .returning w':=fun hp=>by
  refine IQ (by simp) ds _ Z' w' g8 hds g4 g1 hN' fun Z2 w2 k1 k2 k3=>?_
  split at hp
  ·rename_i us hus
   obtain⟨cv,r1,r2⟩:=NB (P:=P) k3 (fun t ht=>(g5.er t ht).FF k2 (fun _ _ h=>h)) hr hus
   exact⟨cv,r1,Z2,σ',H',.ret (Im us),k1,g2,g3,k3,⟨cv,rfl,r2⟩,hp⟩
  ·exact hp.elim
 cases z with
 | normal=>cases g6;exact fin g9
 | ret=>cases g6;exact fin g9
 | exit i=>exact g9.elim
 | Bd v=>
  obtain⟨cv,rfl,hv⟩:=g6
  refine IQ (by simp) ds _ Z' w' g8 hds g4 g1 hN' fun Z2 w2 k1 k2 k3=>?_
  exact⟨Z2,σ',H',.Bd v,k1,g2,g3,k3,⟨cv,rfl,hv.FF k2 (fun _ _ h=>h)⟩,g9⟩
theorem Hl:∀x∈([]:List AV),x=.nili:=fun x hx=>by cases hx
theorem WL {f:FuncId}{fn:Func}{c:Code}{hs:Hints}{ac:Ay}{ars:List CZ}{args:List AV}{post:Al->AH->Prop}(hmix:P.follows .mixedOrders=true) (hf:P.funcs[f]?=some fn)
  (Dh:fn.name≠"runtime.NumGoroutine") (hb:fn.body=some c) (hn:fn.ntmps<=AM) (hlen:args.length<=fn.ntmps) (hc:comp P hs fn.ntmps c=some ac) (hr:F_ P fn.results.toList=some ars)
  (h:D P ac (fun x e H=>e AM=.tup []/\F1 ars post x e H) (CH args) H):AQ P f args H post:=
 AQ.Vf ⟨fn,hf,Dh,by rw[hb];rfl⟩ fun Z σ w vs hO hN hW hv=>
  Js hf hb hn hlen hr hO hN hW hv fun a g4=>Code.wpIn_mono (fun _ _ _ ⟨Z',σ',y,e,H',q1,q2,q3,q4,q5,q6,q7,q8⟩=>⟨Z',σ',y,e,H',q1,q2,q3,q4,q5,q6,⟨[],q7,Hl⟩,q8⟩)
   (Qg hmix hn c ac hc none (.inl rfl) Z σ H _ a w Z σ H.next _ (CO.refl _) (Nw.refl _ _) (A4 _) hW g4 hO LY h)
end
end
end Go.AL
