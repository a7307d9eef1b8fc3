import Derived.Test.YtlmkmpomgdbjhaaGreatDoorZa03
/-
  a part of the proof.
-/
set_option linter.unusedSectionVars false
set_option linter.unusedVariables false
set_option linter.unusedSimpArgs false
namespace Go.AL
noncomputable section
variable [BQ]
def RM:Qe->Qe->Bool
 | .ex a,.ex b=>Nat.beq a b
 | .op a,.op b=>Nat.beq a b
 | _,_=>false
theorem HH {a b:Qe}(h:RM a b=true):a=b:=by
 cases a<;>cases b<;>simp[RM]at h<;>simp[h]
mutual
def EP:AV->AV->Bool
 | .unk,y=>match y with | .unk=>true | _=>false
 | .bool a,y=>match y with | .bool b=>a==b | _=>false
 | .int k n,y=>match y with | .int k' n'=>kq k k'&&decide (n=n') | _=>false
 | .str a,y=>match y with | .str b=>decide (a=b) | _=>false
 | .nilp,y=>match y with | .nilp=>true | _=>false
 | .ptr r o,y=>match y with | .ptr r' o'=>Nat.beq r r'&&Nat.beq o o' | _=>false
 | .nils,y=>match y with | .nils=>true | _=>false
 | .sl r o n l,y=>match y with | .sl r' o' n' l'=>Nat.beq r r'&&Nat.beq o o'&&Nat.beq n n'&&RM l l' | _=>false
 | .nilm,y=>match y with | .nilm=>true | _=>false
 | .nilf,y=>match y with | .nilf=>true | _=>false
 | .nili,y=>match y with | .nili=>true | _=>false
 | .mp r,y=>match y with | .mp r'=>Nat.beq r r' | _=>false
 | .ifc t v,y=>match y with | .ifc t' v'=>decide (t=t')&&EP v v' | _=>false
 | .agg a,y=>match y with | .agg b=>Gv a b | _=>false
 | .tup a,y=>match y with | .tup b=>Gv a b | _=>false
 | .pim a o,y=>match y with | .pim b o'=>Nat.beq o o'&&Gv a b | _=>false
 | .sim a n x,y=>match y with | .sim b n' x'=>Nat.beq n n'&&(x==x')&&Gv a b | _=>false
 | .fn f a b,y=>match y with | .fn f' a' b'=>decide (f=f')&&Gv a a'&&Gv b b' | _=>false
def Gv:List AV->List AV->Bool
 | [],y=>match y with | []=>true | _=>false
 | x::l,y=>match y with | z::r=>EP x z&&Gv l r | _=>false
end
mutual
theorem CA:∀(x y:AV),EP x y=true->x=y
 | .unk,y,h=>by cases y<;>simp[EP]at h<;>rfl
 | .bool a,y,h=>by cases y<;>simp[EP]at h;subst h;rfl
 | .int k n,y,h=>by cases y<;>simp[EP,aQ]at h;obtain⟨rfl,rfl⟩:=h;rfl
 | .str a,y,h=>by cases y<;>simp[EP]at h;subst h;rfl
 | .nilp,y,h=>by cases y<;>simp[EP]at h<;>rfl
 | .ptr r o,y,h=>by cases y<;>simp[EP]at h;obtain⟨rfl,rfl⟩:=h;rfl
 | .nils,y,h=>by cases y<;>simp[EP]at h<;>rfl
 | .sl r o n l,y,h=>by cases y<;>simp[EP]at h;obtain⟨⟨⟨rfl,rfl⟩,rfl⟩,h4⟩:=h;rw[HH h4]
 | .nilm,y,h=>by cases y<;>simp[EP]at h<;>rfl
 | .nilf,y,h=>by cases y<;>simp[EP]at h<;>rfl
 | .nili,y,h=>by cases y<;>simp[EP]at h<;>rfl
 | .mp r,y,h=>by cases y<;>simp[EP]at h;subst h;rfl
 | .ifc t v,y,h=>by
  cases y<;>simp[EP]at h
  obtain⟨rfl,h2⟩:=h
  rw[CA v _ h2]
 | .agg a,y,h=>by
  cases y<;>simp[EP]at h
  rw[CY a _ h]
 | .tup a,y,h=>by
  cases y<;>simp[EP]at h
  rw[CY a _ h]
 | .pim a o,y,h=>by
  cases y<;>simp[EP]at h
  obtain⟨rfl,h2⟩:=h
  rw[CY a _ h2]
 | .sim a n x,y,h=>by
  cases y<;>simp[EP]at h
  obtain⟨⟨rfl,rfl⟩,h2⟩:=h
  rw[CY a _ h2]
 | .fn f a b,y,h=>by
  cases y<;>simp[EP]at h
  obtain⟨⟨rfl,h1⟩,h2⟩:=h
  rw[CY a _ h1,CY b _ h2]
theorem CY:∀(x y:List AV),Gv x y=true->x=y
 | [],y,h=>by cases y<;>simp[Gv]at h;rfl
 | x::l,y,h=>by
  cases y<;>simp[Gv]at h
  rw[CA x _ h.1,CY l _ h.2]
end
inductive FP where
 | no
 | at(g:FuncId) (a b:List AV)
def qj (f:Fn) (a b:List AV):FP:=match f with
 | .func g=>.at g a b
 | _=>.no
def VO (v:AV):FP:=AV.rec (motive_1:=fun _=>FP) (motive_2:=fun _=>FP) .no (fun _=>.no) (fun _ _=>.no) (fun _=>.no) .no (fun _ _=>.no) (fun _ _ _=>.no) .no (fun _ _ _ _=>.no) (fun _ _ _ _=>.no) .no (fun _=>.no) .no (fun f a b _ _=>qj f a b) .no (fun _ _ _=>.no) (fun _ _=>.no) (fun _ _=>.no) .no (fun _ _ _ _=>.no) v
theorem SO {x:AV}{g:FuncId}{a b:List AV}(h:VO x=.at g a b):x=.fn (.func g) a b:=by
 cases x<;>try (cases h;done)
 rename_i f a' b'
 cases f<;>cases h
 rfl
def Sl (a b:List AV):List AV:=List.rec (motive:=fun _=>List AV) b (fun x _ ih=>x::ih) a
theorem KL:∀(a b:List AV),Sl a b=a++b
 | [],_=>rfl
 | x::a,b=>by
  show x::Sl a b=_
  rw[KL a b];rfl
def Fy (e:Env) (l:List AE):List AV:=List.rec (motive:=fun _=>List AV) [] (fun x _ ih=>x.ev e::ih) l
theorem GI (e:Env):∀l,Fy e l=l.map (·.ev e)
 | []=>rfl
 | x::l=>by
  show x.ev e::Fy e l=_
  rw[GI e l];rfl
inductive PV where
 | mk (off n:Nat) (v:AV)
def Pk (e:Env) (ps:oN):List PV:=List.rec (motive:=fun _=>List PV) [] (fun p _ ih=>.mk p.1 p.2.1 (p.2.2.ev e)::ih) ps
def Pu (ps:List PV):List AV->Option (List AV):=
 List.rec (motive:=fun _=>List AV->Option (List AV)) (fun c=>some c) (fun p _ ih c=>PV.rec (motive:=fun _=>Option (List AV)) (fun off n x=>
   Option.rec (motive:=fun _=>Option (List AV)) none (fun l=>bif Nat.beq (FX l) n then(bif Nat.ble (Nat.add off n) (FX c)then Gl c off fun a=>FT l (Gn c (Nat.add off n)) fun b=>FT a b ih else none)else none) (GK x)) p) ps
theorem Mk (e:Env):∀(ps:oN) (c:List AV),Pu (Pk e ps) c=Bv e c ps
 | [],c=>rfl
 | (off,n,x)::ps,c=>by
  rw[<- Pt]
  show Option.rec (motive:=fun _=>Option (List AV)) none (fun l=>bif Nat.beq (FX l) n then(bif Nat.ble (Nat.add off n) (FX c)then Gl c off fun a=>FT l (Gn c (Nat.add off n)) fun b=>FT a b (Pu (Pk e ps))else none)else none) (GK (x.ev e)) =
   Option.rec (motive:=fun _=>Option (List AV)) none (fun l=>bif Nat.beq (FX l) n then(bif Nat.ble (Nat.add off n) (FX c)then Gl c off fun a=>FT l (Gn c (Nat.add off n)) fun b=>FT a b (XF e ps)else none)else none) (GK (x.ev e))
  have:Pu (Pk e ps)=XF e ps:=funext fun c=>by rw[Mk e ps,Pt]
  rw[this]
def D3 (z:List AV) (ps:List PV) (K:AV->KC):KC:=Option.rec (motive:=fun _=>KC) .bad (fun l=>K (.agg l)) (Pu ps z)
def CM (c:List AV) (g:Nat->AV) (h:KH) (K:AV->KH->KC):KC:=h.Ie c .bad fun nx h'=>K (g nx) h'
def VI (z:List AV) (len:Nat) (ps:List PV) (K:List AV->(Nat->AV)->KC):KC:=Option.rec (motive:=fun _=>KC) .bad (fun l=>K l fun r=>.sl r 0 len (.ex len)) (Pu ps z)
def p0:Nat->AV:=fun r=>.ptr r 0
def Dm (x:AV) (h:KH) (K:AV->KH->KC):KC:=Y_ x fun c g=>CM c g h K
def C8 (z:List AV) (len:Nat) (ps:List PV) (h:KH) (K:AV->KH->KC):KC:=VI z len ps fun c g=>CM c g h K
def RS (n:Nat) (z:List AV):List AV:=Nat.rec (motive:=fun _=>List AV) [] (fun _ ih=>Sl z ih) n
theorem aP (n:Nat) (z:List AV):RS n z=D6 n z:=by
 induction n with
 | zero=>show[]=D6 0 z;simp[D6]
 | succ n ih=>
  have h1:RS (n+1) z=z++RS n z:=KL z (RS n z)
  rw[h1,ih]
  unfold D6
  apply I_
  intro i
  rw[Iy]
  simp only[BU]
  have e1:(n+1)*z.length=n*z.length+z.length:=Nat.succ_mul ..
  by_cases hi:i<z.length
  ·rw[if_pos hi,EE (by omega)]
   simp[B4 hi,Ab hi]
  ·rw[if_neg hi]
   by_cases h2:i<(n+1)*z.length
   ·rw[EE h2,EE (by omega)]
    have:i % z.length=(i-z.length) % z.length:=by rw[Nat.mod_eq_sub_mod (by omega)]
    simp[this]
   ·rw[BT (by simp;omega),BT (by simp;omega)]
def Yn (bytes:Nat) (z:List AV) (l c:AV) (K:List AV->(Nat->AV)->KC):KC:=
 NP.rec (motive:=fun _=>KC) .bad (fun l=>NP.rec (motive:=fun _=>KC) .bad (fun c=>Bool.rec (motive:=fun _=>KC) .bad (K (RS c z) fun r=>.sl r 0 l (.ex c))
  (Nat.ble l c&&(Nat.ble c 9223372036854775807&&Nat.ble (Nat.mul bytes c) 281474976710656))) .bad (MX c)) .bad (MX l)
def Ib (bytes:Nat) (z:List AV) (l c:AV) (h:KH) (K:AV->KH->KC):KC:=Yn bytes z l c fun c g=>CM c g h K
def BK (n:Nat) (x v:AV) (h:KH) (K:KH->KC):KC:=Si n x v h .bad fun _ h'=>K h'
def Du (esz bytes:Nat) (s x:AV) (h:KH) (K:AV->KH->KC):KC:=OP esz bytes s x h .bad K
theorem Ld {o:Option AV}{r:KC}{K:AV->KC}(hr:Fp o K=r) (hb:r≠.bad):∃v,o=some v/\K v=r:=by
 cases o with
 | none=>exact absurd hr.symm hb
 | some v=>exact⟨v,rfl,hr⟩
def emp:Env:=fun _=>.unk
def Et (e:Env) (x:AE):AE:=.cst (x.ev e)
def Sq (e:Env) (x:Option AE):Option AE:=match x with
 | some x=>some (.cst (x.ev e))
 | none=>none
theorem OR (e:Env) (x:Option AE):AE.ints emp (Sq e x)=AE.ints e x:=by cases x<;>rfl
def Ps (e:Env) (k:AK):AK:=match k with
 | .un op x=>.un op (Et e x)
 | .convS x=>.convS (Et e x)
 | .indexA n esz agg x i=>.indexA n esz agg (Et e x) (Et e i)
 | .indexStr x i=>.indexStr (Et e x) (Et e i)
 | .sliceStr x lo hi=>.sliceStr (Et e x) (Sq e lo) (Sq e hi)
 | .sliceS esz x lo hi mx=>.sliceS esz (Et e x) (Sq e lo) (Sq e hi) (Sq e mx)
 | .sliceA n esz x lo hi mx=>.sliceA n esz (Et e x) (Sq e lo) (Sq e hi) (Sq e mx)
 | .lenStr x=>.lenStr (Et e x)
 | .minmax b x y=>.minmax b (Et e x) (Et e y)
 | .strOfBytes x=>.strOfBytes (Et e x)
 | .mkSlice esz bytes z l c=>.mkSlice esz bytes z (Et e l) (Et e c)
 | .eq neg t x y=>.eq neg t (Et e x) (Et e y)
 | .minmax3 b x y z=>.minmax3 b (Et e x) (Et e y) (Et e z)
 | .cap x=>.cap (Et e x)
 | .mark x=>.mark (Et e x)
 | .bytesOf x=>.bytesOf (Et e x)
 | .Is esz z x=>.Is esz z (Et e x)
 | .appendZ esz bytes z s n=>.appendZ esz bytes z (Et e s) (Et e n)
 | .lookup ty z ok m k=>.lookup ty z ok (Et e m) (Et e k)
 | .mapUpd ty m k v=>.mapUpd ty (Et e m) (Et e k) (Et e v)
 | .lenMap m=>.lenMap (Et e m)
 | .ext c x y=>.ext c (Et e x) (Et e y)
 | .rangeM x=>.rangeM (Et e x)
 | .entryM x=>.entryM (Et e x)
 | .copy n x y=>.copy n (Et e x) (Et e y)
 | .tass t z x=>.tass t z (Et e x)
 | k=>k
def Nj (k:AK) (K:AV->KC):KC:=Fp (AJ k emp) K
def SH (k:AK) (h:KH) (K:AV->KC):KC:=Fp (AY k emp (Ah h)) K
def cT (k:AK) (h:KH) (K:AV->KH->KC):KC:=iZ k emp h .bad K
def Ni (op:UnOp) (x:AV) (K:AV->KC):KC:=Fp (km op x) K
inductive G2 (k:AK):Type where
 | pu (f:Env->(AV->KC)->KC) (ok:∀e K r,f e K=r->r≠.bad->∃v,AJ k e=some v/\K v=r)
 | rd (f:Env->KH->(AV->KC)->KC) (ok:∀e h K r,f e h K=r->r≠.bad->∃v,AJ k e=none/\AY k e (Ah h)=some v/\K v=r)
 | nw (f:Env->(List AV->(Nat->AV)->KC)->KC) (ok:∀e K r,f e K=r->r≠.bad->∃c g,AJ k e=none/\(∀H,AY k e H=none)/\FK k e=some (c,g)/\(∀H,BC k e H=some (g H.next,H.push (.cells c)))/\K c g=r)
 | ef (f:Env->KH->(AV->KH->KC)->KC) (ok:∀e h K r,f e h K=r->r≠.bad->∃v h',A6 k e (Ah h)=some (v,Ah h')/\K v h'=r)
section
variable {k:AK}
def Io {f:Env->(AV->KC)->KC} (ok:∀e K,f e K=Fp (AJ k e) K):G2 k:=.pu f fun e K r h hb=>Ld (by rw[<- ok];exact h) hb
def IB (k:AK) (hk:∀e,AJ (Ps e k) emp=AJ k e):G2 k:=.pu (fun e K=>Nj (Ps e k) K) fun e _ _ h hb=>Ld (by rw[<- hk];exact h) hb
def Ru (k:AK) (np:∀e,AJ k e=none) (hk:∀e H,AY (Ps e k) emp H=AY k e H):G2 k:=.rd (fun e h K=>SH (Ps e k) h K) fun e h K r hr hb=>by
 obtain⟨v,h1,h2⟩:=Ld hr hb
 exact⟨v,np e,by rw[<- hk];exact h1,h2⟩
def Nf (k:AK) (np:∀e,AJ k e=none) (nr:∀e H,AY k e H=none) (hk:∀e H,BC (Ps e k) emp H=BC k e H):G2 k:=.ef (fun e h K=>cT (Ps e k) h K) fun e h K r hr hb=>by
 obtain⟨v,h',h1,h2⟩:=aX hr hb
 exact⟨v,h',by simp only[A6,np,nr];rw[<- hk];exact h1,h2⟩
def sR (k:AK):G2 k:=.ef (fun _ _ _=>.bad) fun _ _ _ _ hr hb=>absurd hr.symm hb
end
def sS (g:Option Nat) (x:AE):G2 (.load g x):=.rd (fun e h K=>AR g (x.ev e) h K) fun e h K r hr hb=>by
 rw[Wd]at hr
 obtain⟨v,h1,h2⟩:=Ld hr hb
 exact⟨v,rfl,h1,h2⟩
def sU (z:List AV):G2 (.alloc z):=.nw (fun _ K=>K z p0) fun e K r hr hb=>⟨z,p0,rfl,fun _=>rfl,rfl,fun _=>rfl,hr⟩
def oA (x:AE):G2 (.box x):=.nw (fun e K=>Y_ (x.ev e) K) fun e K r hr hb=>by
 unfold Y_ at hr
 rw[Kx]at hr
 cases hc:(x.ev e).cellsOf with
 | none=>rw[hc]at hr;exact absurd hr.symm hb
 | some l=>rw[hc]at hr;exact⟨l,fun r=>.ptr r 0,rfl,fun _=>rfl,by simp only[FK,hc],fun H=>by simp only[BC,hc],hr⟩
def sT (esz len:Nat) (z:List AV) (ps:oN):G2 (.buildSlice esz len z ps):=.nw (fun e K=>VI z len (Pk e ps) K) fun e K r hr hb=>by
 unfold VI at hr
 rw[Mk]at hr
 cases hc:Bv e z ps with
 | none=>rw[hc]at hr;exact absurd hr.symm hb
 | some l=>rw[hc]at hr;exact⟨l,fun r=>.sl r 0 len (.ex len),rfl,fun _=>rfl,by simp only[FK,hc],fun H=>by simp only[BC,hc],hr⟩
def n_ (esz bytes:Nat) (z:List AV) (l c:AE):G2 (.mkSlice esz bytes z l c):=.nw (fun e K=>Yn bytes z (l.ev e) (c.ev e) K) fun e K r hr hb=>by
 have hbb:KC.bad≠r:=fun h=>hb h.symm
 unfold Yn at hr
 cases hl:MX (l.ev e)with
 | no=>rw[hl]at hr;exact absurd hr hbb
 | ng=>rw[hl]at hr;exact absurd hr hbb
 | «at» l'=>
  cases hc:MX (c.ev e)with
  | no=>rw[hl,hc]at hr;exact absurd hr hbb
  | ng=>rw[hl,hc]at hr;exact absurd hr hbb
  | «at» c'=>
   rw[hl,hc]at hr
   obtain⟨k1,g1⟩:=OF hl
   obtain⟨k2,g2⟩:=OF hc
   have hr:Bool.rec (motive:=fun _=>KC) .bad (K (RS c' z) fun r=>.sl r 0 l' (.ex c')) (Nat.ble l' c'&&(Nat.ble c' 9223372036854775807&&Nat.ble (Nat.mul bytes c') 281474976710656))=r:=hr
   cases hq:(Nat.ble l' c'&&(Nat.ble c' 9223372036854775807&&Nat.ble (Nat.mul bytes c') 281474976710656))with
   | false=>rw[hq]at hr;exact absurd hr hbb
   | true=>
    rw[hq,aP]at hr
    simp only[AS,Bo,decide_eq_true_eq]at hq
    obtain⟨q1,q2,q3⟩:=hq
    have q3:bytes*c'<=281474976710656:=q3
    have cond:(0:Int)<=Int.ofNat l'/\Int.ofNat l'<=Int.ofNat c'/\Int.ofNat c'<=9223372036854775807/\(bytes:Int)*Int.ofNat c'<=281474976710656:=by
     refine⟨Jv _,Int.ofNat_le.2 q1,?_,?_⟩
     ·show(c':Int)<=_;omega
     ·show(bytes:Int)*(c':Int)<=_
      have:((bytes*c':Nat):Int)<=281474976710656:=by omega
      rw[ID]at this;exact this
    exact⟨D6 c' z,fun r=>.sl r 0 l' (.ex c'),rfl,fun _=>rfl,by simp only[FK,g1,g2,cond,and_self,if_true];rfl,fun H=>by simp only[BC,g1,g2,cond,and_self,if_true];rfl,hr⟩
def sQ (n:Nat) (x v:AE):G2 (.store n x v):=.ef (fun e h K=>BK n (x.ev e) (v.ev e) h fun h'=>K .unk h') fun e h K r hr hb=>by
 unfold BK at hr
 obtain⟨r',o,l,vs,h',g1,g2,g3,g4,g5,g6,g7⟩:=Pf hr hb
 exact⟨.unk,h',by simp only[A6,AJ,AY,BC,g1,g2,g3,g4,g5,and_self,if_true,g6],g7⟩
def oB (esz bytes:Nat) (s x:AE):G2 (.append esz bytes s x):=.ef (fun e h K=>Du esz bytes (s.ev e) (x.ev e) h K) fun e h K r hr hb=>by
 obtain⟨v,h',h1,h2⟩:=NS hr hb
 exact⟨v,h',by simp only[A6,AJ,AY,BC,h1],h2⟩
def jK (x y:AE) (op:BinOp):G2 (.bin op x y):=match op with
 | .add=>Io (f:=fun e K=>BW (x.ev e) (y.ev e) K) fun _ _=>ZC ..
 | .mul=>Io (f:=fun e K=>M4 (x.ev e) (y.ev e) K) fun _ _=>Ym ..
 | .eql=>Io (f:=fun e K=>JG (x.ev e) (y.ev e) K) fun _ _=>Yz ..
 | .neq=>Io (f:=fun e K=>KV (x.ev e) (y.ev e) K) fun _ _=>Yl ..
 | .lss=>Io (f:=fun e K=>BZ (x.ev e) (y.ev e) K) fun _ _=>Yo ..
 | .leq=>Io (f:=fun e K=>TZ (x.ev e) (y.ev e) K) fun _ _=>Yp ..
 | op=>Io (f:=fun e K=>BE op (x.ev e) (y.ev e) K) fun _ _=>ZB ..
def KY (k:AK):G2 k:=match k with
 | .move x=>.pu (fun e K=>K (x.ev e)) fun e K r h _=>⟨_,rfl,h⟩
 | .bin op x y=>jK x y op
 | .pick c a b=>Io (f:=fun e K=>C_ (c.ev e) (a.ev e) (b.ev e) K) fun _ _=>by rw[Xg];rfl
 | .build z ps=>Io (f:=fun e K=>D3 z (Pk e ps) K) fun e K=>by
  unfold D3;rw[Mk]
  show _=Fp ((Bv e z ps).map .agg) K
  cases Bv e z ps<;>rfl
 | .nilCheck x=>Io (f:=fun e K=>Dl (x.ev e) K) fun _ _=>ca ..
 | .convI k x=>Io (f:=fun e K=>Cf k (x.ev e) K) fun _ _=>by rw[Xj,aY];rfl
 | .fieldAddr off x=>Io (f:=fun e K=>BI off (x.ev e) K) fun _ _=>ck ..
 | .field g off x=>Io (f:=fun e K=>Yx g off (x.ev e) K) fun _ _=>by rw[Yw,eF];rfl
 | .indexAddrS z x i=>Io (f:=fun e K=>Aw z (x.ev e) (i.ev e) K) fun _ _=>Yt ..
 | .indexAddrA n z x i=>Io (f:=fun e K=>Ds n z (x.ev e) (i.ev e) K) fun _ _=>Yu ..
 | .extract i x=>Io (f:=fun e K=>Fq i (x.ev e) K) fun _ _=>by rw[Yy,eI];rfl
 | .len x=>Io (f:=fun e K=>A8 (x.ev e) K) fun _ _=>Yq ..
 | .mkIface t x=>.pu (fun e K=>K (.ifc t (x.ev e))) fun e K r h _=>⟨_,rfl,h⟩
 | .mkFunc fn first cap=>.pu (fun e K=>K (.fn fn (Fy e first) (Fy e cap))) fun e K r h _=>⟨_,by simp only[AJ,GI],h⟩
 | .un op x=>Io (f:=fun e K=>Ni op (x.ev e) K) fun _ _=>rfl
 | .load g x=>sS g x
 | .alloc z=>sU z
 | .box x=>oA x
 | .buildSlice esz len z ps=>sT esz len z ps
 | .store n x v=>sQ n x v
 | .mkSlice esz bytes z l c=>n_ esz bytes z l c
 | .append esz bytes s x=>oB esz bytes s x
 | .convS x=>IB _ fun _=>rfl
 | .indexA n esz agg x i=>IB _ fun _=>rfl
 | .indexStr x i=>IB _ fun _=>rfl
 | .sliceStr x lo hi=>IB _ fun e=>by simp only[AJ,Ps,OR];rfl
 | .sliceS esz x lo hi mx=>IB _ fun e=>by simp only[AJ,Ps,OR];rfl
 | .sliceA n esz x lo hi mx=>IB _ fun e=>by simp only[AJ,Ps,OR];rfl
 | .lenStr x=>IB _ fun _=>rfl
 | .lenA n=>IB _ fun _=>rfl
 | .minmax b x y=>IB _ fun _=>rfl
 | .minmax3 b x y z=>IB _ fun _=>rfl
 | .eq neg t x y=>IB _ fun _=>rfl
 | .cap x=>IB _ fun _=>rfl
 | .tass t z x=>IB _ fun _=>rfl
 | .strOfBytes x=>Ru _ (fun _=>rfl) fun _ _=>rfl
 | .lookup ty z ok m k=>Ru _ (fun _=>rfl) fun _ _=>rfl
 | .lenMap m=>Ru _ (fun _=>rfl) fun _ _=>rfl
 | .ext c x y=>Ru _ (fun _=>rfl) fun _ _=>rfl
 | .entryM x=>Ru _ (fun _=>rfl) fun _ _=>rfl
 | .gld g v=>Ru _ (fun _=>rfl) fun _ _=>rfl
 | .rangeM x=>Nf _ (fun _=>rfl) (fun _ _=>rfl) fun _ _=>rfl
 | .mark x=>Nf _ (fun _=>rfl) (fun _ _=>rfl) fun _ _=>rfl
 | .appendZ esz bytes z s n=>Nf _ (fun _=>rfl) (fun _ _=>rfl) fun _ _=>rfl
 | .bytesOf x=>Nf _ (fun _=>rfl) (fun _ _=>rfl) fun _ _=>rfl
 | .Is esz z x=>Nf _ (fun _=>rfl) (fun _ _=>rfl) fun _ _=>rfl
 | .copy n x y=>Nf _ (fun _=>rfl) (fun _ _=>rfl) fun _ _=>rfl
 | .makeMap=>Nf _ (fun _=>rfl) (fun _ _=>rfl) fun _ _=>rfl
 | .mapUpd ty m k v=>Nf _ (fun _=>rfl) (fun _ _=>rfl) fun _ _=>rfl
 | k=>sR k
abbrev Ag:=FuncId->List AV->KH->KC
def BR (call:Ag) (g:FuncId) (zs:List AV) (h:KH) (K:AV->KH->KC):KC:=KC.rec (motive:=fun _=>KC) K .Bd .bad (call g zs h)
def SI (call:Ag) (fv:AV) (zs:List AV) (h:KH) (K:AV->KH->KC):KC:=
 FP.rec (motive:=fun _=>KC) .bad (fun g first cap=>BR call g (Sl first (Sl zs cap)) h K) (VO fv)
def Q6 (v:AV) (h:KH):KC:=match v with
 | .ifc t v=>.Bd (.ifc t v) h
 | _=>.bad
def AT (P:Program) (call:Ag):Prop:=∀g zs h,
 (∀v h',call g zs h=.ret v h'->AQ P g zs (Ah h) (fun o H'=>o=.ret v/\H'=Ah h')) /\
 (∀v h',call g zs h=.Bd v h'->AQ P g zs (Ah h) (fun o H'=>o=.Bd v/\H'=Ah h'))
def aE:List Nat->List Nat->Bool
 | [],y=>match y with | []=>true | _=>false
 | a::x,y=>match y with | b::z=>Nat.beq a b&&aE x z | _=>false
theorem Pc:∀{x y:List Nat},aE x y=true->x=y
 | [],y,h=>by cases y<;>simp[aE]at h;rfl
 | a::x,y,h=>by
  cases y<;>simp[aE]at h
  rw[h.1,Pc h.2]
def dr:Option Nat->Option Nat->Bool
 | none,y=>match y with | none=>true | _=>false
 | some a,y=>match y with | some b=>Nat.beq a b | _=>false
theorem PU {x y:Option Nat}(h:dr x y=true):x=y:=by
 cases x<;>cases y<;>simp[dr]at h<;>simp[h]
def YJ:List (AV × AV × Nat)->List (AV × AV × Nat)->Bool
 | [],y=>match y with | []=>true | _=>false
 | a::x,y=>match y with | b::z=>EP a.1 b.1&&(EP a.2.1 b.2.1&&(Nat.beq a.2.2 b.2.2&&YJ x z)) | _=>false
theorem P8:∀{x y:List (AV × AV × Nat)},YJ x y=true->x=y
 | [],y,h=>by cases y<;>simp[YJ]at h;rfl
 | (a1,a2,a3)::x,y,h=>by
  cases y with
  | nil=>simp[YJ]at h
  | cons b z=>
   obtain⟨b1,b2,b3⟩:=b
   simp[YJ]at h
   rw[CA _ _ h.1,CA _ _ h.2.1,h.2.2.1,P8 h.2.2.2]
def jL:Cw->Cw->Bool
 | .cells a,y=>match y with | .cells b=>Gv a b | _=>false
 | .map a c,y=>match y with | .map b d=>Nat.beq c d&&YJ a b | _=>false
 | .iter m c s u,y=>match y with | .iter m' c' s' u'=>dr m m'&&(Nat.beq c c'&&(aE s s'&&dr u u')) | _=>false
theorem WD {x y:Cw}(h:jL x y=true):x=y:=by
 cases x<;>cases y<;>simp[jL]at h
 ·rw[CY _ _ h]
 ·rw[h.1,P8 h.2]
 ·rw[PU h.1,h.2.1,Pc h.2.2.1,PU h.2.2.2]
def Qq {α:Type}(f:α->α->Bool):N8 α->N8 α->Bool
 | .mk a0 a1 a2 a3 a4 a5 a6 a7,.mk b0 b1 b2 b3 b4 b5 b6 b7=>f a0 b0&&(f a1 b1&&(f a2 b2&&(f a3 b3&&(f a4 b4&&(f a5 b5&&(f a6 b6&&f a7 b7))))))
theorem D9 {α:Type}{f:α->α->Bool}(hf:∀x y,f x y=true->x=y) (x y:N8 α) (h:Qq f x y=true):x=y:=by
 cases x;cases y
 simp only[Qq,AS]at h
 obtain⟨h0,h1,h2,h3,h4,h5,h6,h7⟩:=h
 rw[hf _ _ h0,hf _ _ h1,hf _ _ h2,hf _ _ h3,hf _ _ h4,hf _ _ h5,hf _ _ h6,hf _ _ h7]
def aR:DM->DM->Bool
 | .o a,y=>match y with | .o b=>jL a b | _=>false
 | .a n t,y=>match y with | .a m u=>Nat.beq n m&&Qq (Qq (Qq EP)) t u | _=>false
theorem UK (x y:DM) (h:aR x y=true):x=y:=by
 cases x<;>cases y<;>simp[aR]at h
 ·rw[WD h]
 ·rw[h.1,D9 (D9 (D9 CA)) _ _ h.2]
def iJ:Option DM->Option DM->Bool
 | none,y=>match y with | none=>true | _=>false
 | some a,y=>match y with | some b=>aR a b | _=>false
theorem Ve (x y:Option DM) (h:iJ x y=true):x=y:=by
 cases x<;>cases y<;>simp[iJ]at h
 ·rfl
 ·rw[UK _ _ h]
def eC (a b:KH):Bool:=Nat.beq a.nx b.nx&&Qq (Qq (Qq (Qq (Qq iJ)))) a.t b.t
theorem Po {a b:KH}(h:eC a b=true):a=b:=by
 obtain⟨t,n⟩:=a
 obtain⟨u,m⟩:=b
 simp only[eC,AS,E_]at h
 obtain⟨h1,h2⟩:=h
 have h3:t=u:=D9 (D9 (D9 (D9 (D9 Ve)))) t u h2
 rw[h1,h3]
def eK:KC->KC->Bool
 | .ret v h,y=>match y with | .ret v' h'=>EP v v'&&eC h h' | _=>false
 | .Bd v h,y=>match y with | .Bd v' h'=>EP v v'&&eC h h' | _=>false
 | .bad,_=>false
theorem Vr {x y:KC}(h:eK x y=true):x=y:=by
 cases x<;>cases y<;>simp[eK]at h
 ·rw[CA _ _ h.1,Po h.2]
 ·rw[CA _ _ h.1,Po h.2]
def rr (f:AV × Cw->KC) (l:List (AV × Cw)):KC:=match l with
 | []=>.bad
 | [p]=>f p
 | p::q::l=>bif (q::l).all (fun q=>eK (f p) (f q))then f p else .bad
theorem dy {f:AV × Cw->KC}{l:List (AV × Cw)}{r:KC}(hr:rr f l=r) (hb:r≠.bad):∀p∈l,f p=r:=by
 unfold rr at hr
 split at hr
 ·exact absurd hr.symm hb
 ·intro p hp;simp only[B9]at hp;subst hp;exact hr
 ·rename_i p q l
  cases hq:(q::l).all (fun q=>eK (f p) (f q))with
  | false=>rw[hq]at hr;exact absurd hr.symm hb
  | true=>
   rw[hq]at hr
   simp only[cond_true]at hr
   intro x hx
   rcases DF.1 hx with rfl | hx
   ·exact hr
   ·rw[<- Vr (CW.1 hq x hx)];exact hr
def TY (x:AV) (h:KH) (K:AV->KH->KC):KC:=match jM x (Ah h)with
 | none=>.bad
 | some none=>K (.tup [.bool false]) h
 | some (some (q,l))=>bif Nat.ble (Nat.succ q) h.nx then rr (fun p=>h.Ql q (some (.o p.2)) .bad fun h'=>K p.1 h') l else .bad
theorem Xh {x:AV}{h:KH}{K:AV->KH->KC}{r:KC}(hr:TY x h K=r) (hb:r≠.bad):∃l,Jr x (Ah h)=some l/\∀p∈l,∃h',p.2=Ah h'/\K p.1 h'=r:=by
 unfold TY at hr
 unfold Jr
 cases hx:jM x (Ah h)with
 | none=>rw[hx]at hr;exact absurd hr.symm hb
 | some y=>
  rw[hx]at hr
  cases y with
  | none=>exact⟨_,rfl,fun p hp=>by simp only[B9]at hp;subst hp;exact⟨h,rfl,hr⟩⟩
  | some z=>
   obtain⟨q,l⟩:=z
   simp only at hr
   cases hq:Nat.ble (Nat.succ q) h.nx with
   | false=>rw[hq]at hr;exact absurd hr.symm hb
   | true=>
    rw[hq]at hr
    simp only[cond_true]at hr
    have hlt:q<h.nx:=Aa hq
    refine⟨_,rfl,fun p hp=>?_⟩
    obtain⟨p',hp',rfl⟩:=Bk.1 hp
    have:=dy hr hb p' hp'
    obtain⟨h',h1,h2⟩:=KH.Gg this hb hlt
    exact⟨h',h1.symm,h2⟩
inductive x9 where
 | call (f:AE) (args:List AE)
 | Bd (x:AE)
 | no
 | act
 | nx (x:AE)
def cls (k:AK):x9:=match k with
 | .call f args=>.call f args
 | .panic x=>.Bd x
 | .defer _ _=>.no
 | .recover=>.no
 | .nextM x=>.nx x
 | _=>.act
def Qr (call:Ag) (k:AK) (e:Env) (h:KH) (K:AV->KH->KC):KC:=
 x9.rec (motive:=fun _=>KC) (fun f args=>SI call (f.ev e) (Fy e args) h K) (fun x=>Q6 (x.ev e) h) .bad
  (G2.rec (motive:=fun _=>KC) (fun f _=>f e fun v=>K v h) (fun f _=>f e h fun v=>K v h) (fun f _=>f e fun c g=>CM c g h K) (fun f _=>f e h K) (KY k)) (fun x=>TY (x.ev e) h K) (cls k)
theorem bC {call:Ag}{k:AK}{e:Env}{h:KH}{K:AV->KH->KC}(hc:cls k=.act):Qr call k e h K =
  G2.rec (motive:=fun _=>KC) (fun f _=>f e fun v=>K v h) (fun f _=>f e h fun v=>K v h) (fun f _=>f e fun c g=>CM c g h K) (fun f _=>f e h K) (KY k):=by
 unfold Qr;rw[hc]
theorem YA {k:AK}{a:G2 k}{e:Env}{h:KH}{K:AV->KH->KC}{r:KC}
  (hr:G2.rec (motive:=fun _=>KC) (fun f _=>f e fun v=>K v h) (fun f _=>f e h fun v=>K v h) (fun f _=>f e fun c g=>CM c g h K) (fun f _=>f e h K) a=r) (hb:r≠.bad):∃v h',A6 k e (Ah h)=some (v,Ah h')/\K v h'=r:=by
 cases a with
 | pu f ok=>
  obtain⟨v,g1,g2⟩:=ok _ _ _ hr hb
  exact⟨v,h,by simp only[A6,g1],g2⟩
 | rd f ok=>
  obtain⟨v,g0,g1,g2⟩:=ok _ _ _ _ hr hb
  exact⟨v,h,by simp only[A6,g0,g1],g2⟩
 | nw f ok=>
  obtain⟨c,g,g0,g1,g2,g3,g4⟩:=ok _ _ _ hr hb
  obtain⟨h',k1,k2⟩:=KH.DA g4 hb
  exact⟨_,h',by simp only[A6,g0,g1,g3,k1];rfl,k2⟩
 | ef f ok=>exact ok _ _ _ _ hr hb
theorem UW {P:Program}{k:AK}{e:Env}{h:KH}{K:AV->KH->KC}{r:KC}(hr:∃v h',A6 k e (Ah h)=some (v,Ah h')/\K v h'=r) {K' Kp':AV->AH->Prop}
  (h1:∀v h',K v h'=r->K' v (Ah h')):G1 P k e (Ah h) K' Kp'/\k.B0=false:=by
 obtain⟨v,h',g1,g2⟩:=hr
 cases k<;>first
  | (refine⟨GR rfl g1 (h1 v h' g2),rfl⟩;done)
  | (exfalso;simp[A6,AJ,AY,BC]at g1;done)
theorem Ky {P:Program}{call:Ag}(hC:AT P call){k:AK}{e:Env}{h:KH}{K:AV->KH->KC}{r:KC}(hr:Qr call k e h K=r) (hb:r≠.bad) {K' Kp':AV->AH->Prop}
  (h1:∀v h',K v h'=r->K' v (Ah h')) (h2:∀v h',r=.Bd v h'->Kp' v (Ah h')):G1 P k e (Ah h) K' Kp'/\k.B0=false:=by
 have hbb:KC.bad≠r:=fun h=>hb h.symm
 cases k
 case call f args=>
  refine⟨?_,rfl⟩
  simp only[Qr,cls,SI,KL,GI,<- Ar]at hr
  cases hfp:VO (f.ev e)with
  | no=>rw[hfp]at hr;exact absurd hr hbb
  | «at» g first cap=>
  rw[hfp]at hr
  unfold BR at hr
  have hf:=SO hfp
  simp only at hr
  cases hc:call g (first++args.map (·.ev e)++cap) h with
  | bad=>rw[hc]at hr;exact absurd hr hbb
  | ret v h'=>
   rw[hc]at hr
   refine ML hf rfl ((hC g _ h).1 v h' hc) (fun v' H' hp=>?_) (fun v' H' hp=>?_)
   ·obtain⟨q1,rfl⟩:=hp
    cases q1
    exact h1 _ h' hr
   ·cases hp.1
  | Bd v h'=>
   rw[hc]at hr
   refine ML hf rfl ((hC g _ h).2 v h' hc) (fun v' H' hp=>?_) (fun v' H' hp=>?_)
   ·cases hp.1
   ·obtain⟨q1,rfl⟩:=hp
    cases q1
    exact h2 _ h' hr.symm
 case panic x=>
  refine⟨?_,rfl⟩
  simp only[Qr,cls,Q6]at hr
  split at hr<;>(try exact absurd hr hbb)
  rename_i t v hx
  simp only[G1,hx]
  exact h2 _ _ hr.symm
 case defer f args=>exact absurd hr hbb
 case recover=>exact absurd hr hbb
 case nextM x=>
  refine⟨?_,rfl⟩
  have hr:TY (x.ev e) h K=r:=hr
  obtain⟨l,g1,g2⟩:=Xh hr hb
  simp only[G1,g1]
  intro p hp
  obtain⟨h',g3,g4⟩:=g2 p hp
  rw[g3];exact h1 _ _ g4
 all_goals (rw[bC rfl]at hr;generalize KY _=a at hr;exact UW (YA (a:=a) hr hb) h1)
end
noncomputable section
variable [BQ]
abbrev EK:=Env->KH->KC
def JT (l:List Nat):Type:=List.rec (motive:=fun _=>Type) (KH->KC) (fun _ _ t=>AV->t) l
def Xi (w:Bool) (v:AV) (a b:KC):KC:=BP.rec (motive:=fun _=>KC) (match MN v with
  | some o=>(match o with
   | some x=>bif (bif x then w else !w)then a else b
   | none=>b)
  | none=>.bad) (fun x=>Bool.rec (motive:=fun _=>KC) (Bool.rec (motive:=fun _=>KC) a b w) (Bool.rec (motive:=fun _=>KC) b a w) x) (Te v)
theorem cg (w:Bool) (v:AV) (a b:KC):Xi w v a b=match MN v with
  | some o=>(match o with
   | some x=>bif (bif x then w else !w)then a else b
   | none=>b)
  | none=>.bad:=by
 unfold Xi
 cases hv:Te v with
 | no=>rfl
 | «at» x=>rw[OG hv];cases x<;>cases w<;>rfl
theorem O0 {w:Bool}{v:AV}{a b r:KC}(hr:Xi w v a b=r) (hb:r≠.bad):∃o,MN v=some o/\(o=some w->a=r)/\(o≠some w->b=r):=by
 rw[cg]at hr
 split at hr
 ·rename_i o ho
  refine⟨o,ho,fun hw=>?_,fun hw=>?_⟩
  ·subst hw
   have:(bif w then w else !w)=true:=by cases w<;>rfl
   simp only[this,cond_true]at hr
   exact hr
  ·cases o with
   | none=>exact hr
   | some x=>
    have:(bif x then w else !w)=false:=by cases x<;>cases w<;>simp at hw<;>rfl
    simp only[this,cond_false]at hr
    exact hr
 ·exact absurd hr.symm hb
def Dt {T:Type} (w:Bool) (v:AV) (J:T) (A B:T->KC):KC:=Xi w v (A J) (B J)
def A7 (v:AV) (A B:KC):KC:=BP.rec (motive:=fun _=>KC) .bad (fun x=>Bool.rec (motive:=fun _=>KC) B A x) (Te v)
def JF {T:Type} (v:AV) (J:T) (A B:T->KC):KC:=A7 v (A J) (B J)
def ZA {T:Type} (J:T) (A:T->KC):KC:=A J
def aS:Nat:=1000000000
def VH {T:Type} (bad:T) (body:T->T) (n:Nat):T:=Nat.rec (motive:=fun _=>T) bad (fun _ ih=>body ih) n
def BH {T:Type} (bad:T) (body:T->T):T:=VH bad body aS
def Fs (b:Bool) (K:KC):KC:=Bool.rec (motive:=fun _=>KC) .bad K b
abbrev KG:=AV->(KH->Bool)->KH->KC
def fh:KH->Bool:=fun _=>true
def lG (w:Bool) (v:AV) (h:KH) (J:KG) (A:KG->KC):KC:=Xi w v (A J) (J Bp fh h)
def ZD (k:AK):Nat:=
 let _a:=KY k
 let _b:=@BH Nat
 let _c:=@JF Nat
 let _d:=@Dt Nat
 let _e:=@ZA Nat
 let _f:=Fs
 let _g:=lG
 let _h:=SI
 let _i:=Q6
 let _m:=TY
 let _j:=Dm
 let _k:=C8
 let _l:=Ib
 0
theorem Wp (e:Env) (d:Nat) (v:AV):(fun t=>Bool.rec (motive:=fun _=>AV) (e t) v (Nat.beq t d))=e.set d v:=by
 funext t
 unfold Env.set
 cases Nat.beq t d<;>rfl
def CN (l:List Nat):JT l->EK:=
 (fun(_:AK->Nat)=>(List.rec (motive:=fun l=>JT l->EK) (fun J _ h=>J h) (fun i _ ih J e h=>ih (J (e i)) e h) l:JT l->EK)) ZD
def Hv (l:List Nat):Env->EK->JT l:=
 (fun(_:AK->Nat)=>(List.rec (motive:=fun l=>Env->EK->JT l) (fun e0 f h=>f e0 h) (fun i _ ih e0 f v=>ih (fun t=>Bool.rec (motive:=fun _=>AV) (e0 t) v (Nat.beq t i)) f) l:Env->EK->JT l)) ZD
def Hp (l:List Nat):Env->Env->Env:=
 List.rec (motive:=fun _=>Env->Env->Env) (fun _ e0=>e0) (fun i _ ih e e0=>ih e (e0.set i (e i))) l
theorem C1:∀(l:List Nat) (e0:Env) (f:EK) (e:Env) (h:KH),CN l (Hv l e0 f) e h=f (Hp l e e0) h
 | [],_,_,_,_=>rfl
 | i::l,e0,f,e,h=>by
  show CN l (Hv l (fun t=>Bool.rec (motive:=fun _=>AV) (e0 t) (e i) (Nat.beq t i)) f) e h=_
  rw[Wp,C1 l];rfl
theorem Dg:∀(l:List Nat) (e e0:Env) (t:Nat),Hp l e e0 t=if t∈l then e t else e0 t
 | [],e,e0,t=>by simp[Hp]
 | i::l,e,e0,t=>by
  show Hp l e (e0.set i (e i)) t=_
  rw[Dg l,Env.AN]
  by_cases h1:t∈l
  ·simp[h1]
  ·by_cases h2:t=i
   ·subst h2;simp
   ·simp[h1,h2]
def bY {α:Type} (e:Env) (d:Option Nat) (v:AV) (k:Env->α):α:=(fun(_:AK->Nat)=>(Option.rec (motive:=fun _=>α) (k e) (fun d=>k fun t=>Bool.rec (motive:=fun _=>AV) (e t) v (Nat.beq t d)) d:α)) ZD
theorem XR {α:Type}(e:Env) (d:Option Nat) (v:AV) (k:Env->α):bY e d v k=k (e.put d v):=by
 cases d with
 | none=>rfl
 | some d=>exact congrArg k (Wp e d v)
def Vn (call:Ag) (ops:List A_):Env->KH->EK->KC:=
 List.rec (motive:=fun _=>Env->KH->EK->KC) (fun e h K=>K e h) (fun o _ ih e h K=>Qr call o.k e h fun v h'=>bY e o.dst v fun e'=>ih e' h' K) ops
theorem X7 (call:Ag) (o:A_) (ops:List A_) (e:Env) (h:KH) (K:EK):Vn call (o::ops) e h K=Qr call o.k e h fun v h'=>Vn call ops (e.put o.dst v) h' K:=by
 show(Qr call o.k e h fun v h'=>bY e o.dst v fun e'=>Vn call ops e' h' K)=_
 simp only[XR]
def Jh (d:Option Nat) (l:List Nat):List Nat:=match d with
 | some d=>d::l
 | none=>l
def K5 (ops:List A_):List Nat:=List.rec (motive:=fun _=>List Nat) [] (fun o _ ih=>Jh o.dst ih) ops
def Yh:=Option (Nat × Bool) × List A_
def EN (s:Nat) (w:Bool) (o:A_):Bool:=(match o.gd with
 | some (s',w')=>Nat.beq s s'&&(bif w then w' else !w')
 | none=>false)&&(match o.dst with
 | some d=>!Nat.beq d s
 | none=>true)
theorem FY {s:Nat}{w:Bool}{o:A_}(h:EN s w o=true):o.gd=some (s,w)/\o.dst≠some s:=by
 obtain⟨dst,k,gd⟩:=o
 simp only[EN,AS]at h
 obtain⟨h1,h2⟩:=h
 refine⟨?_,?_⟩
 ·cases gd with
  | none=>cases h1
  | some p=>
   obtain⟨s',w'⟩:=p
   simp only[AS,E_]at h1
   obtain⟨rfl,h1⟩:=h1
   cases w<;>cases w'<;>first | rfl | cases h1
 ·cases dst with
  | none=>simp
  | some d=>
   simp only[E5,]at h2
   simp only[ne_eq,AD]
   rintro rfl
   rw[Of]at h2;cases h2
def fJ (o:A_) (r:List Yh):List Yh:=match o.gd with
 | none=>(none,[o])::r
 | some (s,w)=>match r with
  | (some (s',w'),ls)::r'=>bif EN s' w' o then(some (s,w),o::ls)::r' else(some (s,w),[o])::(some (s',w'),ls)::r'
  | r=>(some (s,w),[o])::r
def kj (l:List A_):List Yh:=List.rec (motive:=fun _=>List Yh) [] (fun o _ ih=>fJ o ih) l
def Wj (l:List Yh):List A_:=l.flatMap (·.2)
theorem YX (o:A_) (r:List Yh):Wj (fJ o r)=o::Wj r:=by
 unfold fJ
 split
 ·rfl
 ·split
  ·cases EN _ _ o<;>rfl
  ·rfl
theorem Jc:∀l:List A_,Wj (kj l)=l
 | []=>rfl
 | o::l=>by
  show Wj (fJ o (kj l))=_
  rw[YX,Jc l]
def mZ (call:Ag) (g:Yh) (e:Env) (h:KH) (K:EK):KC:=Prod.rec (motive:=fun _=>KC) (fun g ops=>Option.rec (motive:=fun _=>KC)
  (Bool.rec (motive:=fun _=>KC) .bad (Vn call ops e h K) (ops.all (fun o=>o.gd.isNone)))
  (fun p=>Prod.rec (motive:=fun _=>KC) (fun s w=>Bool.rec (motive:=fun _=>KC) .bad (Dt w (e s) (Hv (K5 ops) e K) (fun J=>Vn call ops e h (CN (K5 ops) J)) (fun J=>CN (K5 ops) J (fun _=>Bp) h)) (ops.all (EN s w))) p) g) g
def dx (call:Ag) (gs:List Yh):Env->KH->EK->KC:=
 List.rec (motive:=fun _=>Env->KH->EK->KC) (fun e h K=>K e h) (fun g _ ih e h K=>mZ call g e h fun e' h'=>ih e' h' K) gs
def Rg (o:A_):Bool:=match o.dst with
 | some d=>Nat.ble (Nat.succ d) AM
 | none=>true
theorem EW {o:A_}(h:Rg o=true):o.dst≠some AM:=by
 unfold Rg at h
 cases hd:o.dst with
 | none=>simp
 | some d=>
  rw[hd]at h
  have:=Aa h
  simp only[ne_eq,AD];omega
def iU (call:Ag) (ops:List A_) (e:Env) (h:KH) (K:EK):KC:=Bool.rec (motive:=fun _=>KC) .bad (dx call (kj ops) e h K) (ops.all Rg)
theorem B2 {e:Env}{d:Option Nat}{v:AV}{t:Nat}(h:d≠some t):(e.put d v) t=e t:=by
 cases d with
 | none=>rfl
 | some d=>
  show(e.set d v) t=e t
  rw[Env.AN,if_neg (by rintro rfl;exact h rfl)]
theorem GQ {d:Option Nat}{l:List Nat}{t:Nat}:t∈Jh d l↔d=some t\/t∈l:=by
 cases d with
 | none=>simp[Jh]
 | some d=>simp[Jh,eq_comm]
theorem K8 {b:Bool}{x r:KC}(h:Bool.rec (motive:=fun _=>KC) .bad x b=r) (hb:r≠.bad):b=true/\x=r:=by
 cases b with
 | true=>exact⟨rfl,h⟩
 | false=>exact absurd h.symm hb
section
variable {P:Program}{call:Ag}{r:KC}{K':Env->AH->Prop}{Kp':AV->Env->AH->Prop}
theorem Kw (hC:AT P call) (hb:r≠.bad){s:Nat}{w:Bool}{K:EK}(h2:∀v h,r=.Bd v h->∀e,e AM=.tup []->Kp' v e (Ah h)):∀(ops:List A_) (e:Env) (h:KH),ops.all Rg=true->e AM=.tup [] ->
  (MN (e s)=some (some w)/\ops.all (EN s w)=true\/ops.all (fun o=>o.gd.isNone)=true)->Vn call ops e h K=r ->
  (∀e' h',(∀t,t ∉ K5 ops->e' t=e t)->e' AM=.tup []->K e' h'=r->K' e' (Ah h'))->CI P ops e (Ah h) K' Kp'
 | [],e,h,_,hd,_,hr,h1=>h1 e h (fun _ _=>rfl) hd hr
 | o::ops,e,h,ho,hd,hg,hr,h1=>by
  rw[X7]at hr
  simp only[Dz,AS]at ho hg
  have hd':∀v,(e.put o.dst v) AM=.tup []:=fun v=>by rw[B2 (EW ho.1)];exact hd
  have go:∀v h',(MN ((e.put o.dst v) s)=some (some w)/\ops.all (EN s w)=true\/ops.all (fun o=>o.gd.isNone)=true)->Vn call ops (e.put o.dst v) h' K=r->CI P ops (e.put o.dst v) (Ah h') K' Kp':=fun v h' hg' hx=>
   Kw hC hb h2 ops (e.put o.dst v) h' ho.2 (hd' v) hg' hx fun e' h'' q1 q2 q3=>h1 e' h'' (fun t ht=>by
    have ht:t ∉ Jh o.dst (K5 ops):=ht
    rw[GQ,not_or]at ht
    rw[q1 t ht.2,B2 ht.1]) q2 q3
  have st:=fun(hg':∀v,MN ((e.put o.dst v) s)=some (some w)/\ops.all (EN s w)=true\/ops.all (fun o=>o.gd.isNone)=true)=>Ky (P:=P) (K':=fun v H'=>CI P ops (e.put o.dst v) H' K' Kp') (Kp':=fun v H'=>Kp' v e H') hC (k:=o.k) (e:=e) (h:=h) hr hb (fun v h' hx=>go v h' (hg' v) hx) (fun v h' hx=>h2 v h' hx e hd)
  obtain⟨dst,k,gd⟩:=o
  rcases hg with⟨g1,g2,g3⟩ | ⟨g2,g3⟩
  ·obtain⟨rfl,g4⟩:=FY g2
   have sg:=st fun v=>.inl ⟨by rw[B2 g4];exact g1,g3⟩
   exact Wf g1 (fun _=>sg.1) (fun hn=>absurd rfl hn)
  ·simp only[HZ]at g2
   subst g2
   have sg:=st fun v=>.inr g3
   exact Fb sg.2 sg.1
theorem QI [YC] {s:Nat}{w:Bool}{b:Option Bool}(hn:b≠some w):∀(ops:List A_) (e:Env) (H:AH),ops.all (EN s w)=true->MN (e s)=some b->K' (Hp (K5 ops) (fun _=>Bp) e) H->CI P ops e H K' Kp'
 | [],e,H,_,_,h=>h
 | o::ops,e,H,hg,hs,h=>by
  simp only[Dz,AS]at hg
  obtain⟨dst,k,gd⟩:=o
  obtain⟨rfl,g4⟩:=FY hg.1
  refine Wf hs (fun hw=>absurd hw hn) fun _=>QI hn ops _ H hg.2 (by rw[B2 g4];exact hs) ?_
  cases dst with
  | none=>exact h
  | some d=>exact h
theorem Hz [YC]:∀(a b:List A_) (e:Env) (H:AH),CI P a e H (fun e' H'=>CI P b e' H' K' Kp') Kp'->CI P (a++b) e H K' Kp'
 | [],b,e,H,h=>h
 | o::a,b,e,H,h=>by
  obtain⟨dst,k,gd⟩:=o
  have mono:∀{K1 K2:AV->AH->Prop} {Kp:AV->AH->Prop},(∀v H',K1 v H'->K2 v H')->G1 P k e H K1 Kp->G1 P k e H K2 Kp:=fun hk ha=>by
   unfold G1 at ha ⊢
   split at ha
   ·unfold Gw at ha ⊢
    split at ha
    ·exact ha.mono fun o H' hq=>by cases o with
      | ret v=>exact hk _ _ hq
      | Bd v=>exact hq
    ·exact YC.mono ha fun o H' hq=>by cases o with
      | ret v=>exact hk _ _ hq
      | Bd v=>exact hq
    ·exact ha
   ·exact ha
   ·exact ha
   ·exact ha
   ·split at ha
    ·exact fun p hp=>hk _ _ (ha p hp)
    ·exact ha
   ·split at ha
    ·exact hk _ _ ha
    ·exact ha
  cases gd with
  | none=>
   simp only[Fi,CI]at h ⊢
   split at h
   ·split at h
    ·exact Hz a b _ _ h
    ·exact h
   ·exact mono (fun v H' hq=>Hz a b _ _ hq) h
  | some p=>
   obtain⟨s,w⟩:=p
   simp only[Fi,CI]at h ⊢
   split at h
   ·exact⟨fun hw=>mono (fun v H' hq=>Hz a b _ _ hq) (h.1 hw),fun hw=>Hz a b _ _ (h.2 hw)⟩
   ·exact h
theorem Sv:∀{ops:List A_},ops.all Rg=true->AM ∉ K5 ops
 | [],_,hm=>by cases hm
 | o::ops,h,hm=>by
  have hm:AM∈Jh o.dst (K5 ops):=hm
  simp only[Dz,AS]at h
  rw[GQ]at hm
  rcases hm with hm | hm
  ·exact EW h.1 hm
  ·exact Sv h.2 hm
theorem Pl (hC:AT P call) (hb:r≠.bad){K:EK}(h1:∀e h,e AM=.tup []->K e h=r->K' e (Ah h)) (h2:∀v h,r=.Bd v h->∀e,e AM=.tup []->Kp' v e (Ah h)) :
  ∀(gs:List Yh) (e:Env) (h:KH),(Wj gs).all Rg=true->e AM=.tup []->dx call gs e h K=r->CI P (Wj gs) e (Ah h) K' Kp'
 | [],e,h,_,hd,hr=>h1 e h hd hr
 | (g,ops)::gs,e,h,ho,hd,hr=>by
  have hr:(mZ call (g,ops) e h fun e' h'=>dx call gs e' h' K)=r:=hr
  change (ops++Wj gs).all Rg=true at ho
  rw[Om,AS]at ho
  have rest:∀e' h',e' AM=.tup []->dx call gs e' h' K=r->CI P (Wj gs) e' (Ah h') K' Kp':=fun e' h' hd' hx=>Pl hC hb h1 h2 gs e' h' ho.2 hd' hx
  refine Hz ops (Wj gs) e (Ah h) ?_
  cases g with
  | none=>
   obtain⟨g1,g2⟩:=K8 hr hb
   exact Kw hC hb (s:=0) (w:=true) h2 ops e h ho.1 hd (.inr g1) g2 fun e' h' _ q2 q3=>rest e' h' q2 q3
  | some p=>
   obtain⟨s,w⟩:=p
   obtain⟨g1,g2⟩:=K8 hr hb
   obtain⟨b,k1,k2,k3⟩:=O0 g2 hb
   by_cases hw:b=some w
   ·subst hw
    refine Kw hC hb h2 ops e h ho.1 hd (.inl ⟨k1,g1⟩) (k2 rfl) fun e' h' q1 q2 q3=>rest e' h' q2 ?_
    rw[C1]at q3
    have:Hp (K5 ops) e' e=e':=by
     funext t
     rw[Dg]
     split
     ·rfl
     ·rename_i hm;exact(q1 t hm).symm
    rw[this]at q3;exact q3
   ·have k3:=k3 hw
    simp only[C1]at k3
    refine QI hw ops e (Ah h) g1 k1 (rest _ h ?_ k3)
    rw[Dg,if_neg (Sv ho.1)]
    exact hd
theorem Ph (hC:AT P call) (hb:r≠.bad){K:EK}(h1:∀e h,e AM=.tup []->K e h=r->K' e (Ah h)) (h2:∀v h,r=.Bd v h->∀e,e AM=.tup []->Kp' v e (Ah h))
  {ops:List A_} {e:Env} {h:KH} (hd:e AM=.tup []) (hr:iU call ops e h K=r):CI P ops e (Ah h) K' Kp':=by
 obtain⟨g1,g2⟩:=K8 hr hb
 have:=Pl hC hb h1 h2 (kj ops) e h (by rw[Jc];exact g1) hd g2
 rw[Jc]at this;exact this
end
end
noncomputable section
variable [BQ]
def XI (call:Ag) (eff:Bool) (k:AK) (e:Env) (h:KH) (K:AV->KH->KC):KC:=
 Bool.rec (motive:=fun _=>KC) (G2.rec (motive:=fun _=>KC) (fun f _=>f e fun v=>K v h) (fun f _=>f e h fun v=>K v h) (fun f _=>f e fun c g=>CM c g h K) (fun _ _=>.bad) (KY k)) (Qr call k e h K) eff
def Pv (call:Ag) (its:List DX):Env->KH->EK->KC:=
 List.rec (motive:=fun _=>Env->KH->EK->KC) (fun e h K=>K e h) (fun it _ ih e h K=>XI call it.eff it.o.k e h fun v h'=>bY e it.o.dst v fun e'=>ih e' h' K) its
theorem Vq (call:Ag) (it:DX) (its:List DX) (e:Env) (h:KH) (K:EK):Pv call (it::its) e h K=XI call it.eff it.o.k e h fun v h'=>Pv call its (e.put it.o.dst v) h' K:=by
 show(XI call it.eff it.o.k e h fun v h'=>bY e it.o.dst v fun e'=>Pv call its e' h' K)=_
 simp only[XR]
def Gr (its:List DX):List Nat:=List.rec (motive:=fun _=>List Nat) [] (fun it _ ih=>Jh it.o.dst ih) its
def Ns:=Option (Nat × Bool) × List DX
def Xb (it:DX) (r:List Ns):List Ns:=match it.o.gd with
 | none=>(none,[it])::r
 | some (s,w)=>match r with
  | (some (s',w'),ls)::r'=>bif EN s' w' it.o then(some (s,w),it::ls)::r' else(some (s,w),[it])::(some (s',w'),ls)::r'
  | r=>(some (s,w),[it])::r
def YG (l:List DX):List Ns:=List.rec (motive:=fun _=>List Ns) [] (fun o _ ih=>Xb o ih) l
def Lh (l:List Ns):List DX:=l.flatMap (·.2)
theorem WJ (o:DX) (r:List Ns):Lh (Xb o r)=o::Lh r:=by
 unfold Xb
 split
 ·rfl
 ·split
  ·cases EN _ _ o.o<;>rfl
  ·rfl
theorem Hw:∀l:List DX,Lh (YG l)=l
 | []=>rfl
 | o::l=>by
  show Lh (Xb o (YG l))=_
  rw[WJ,Hw l]
def fm (call:Ag) (g:Ns) (e:Env) (h:KH) (K:EK):KC:=Prod.rec (motive:=fun _=>KC) (fun g its=>Option.rec (motive:=fun _=>KC)
  (Bool.rec (motive:=fun _=>KC) .bad (Pv call its e h K) (its.all (fun it=>it.o.gd.isNone)))
  (fun p=>Prod.rec (motive:=fun _=>KC) (fun s w=>Bool.rec (motive:=fun _=>KC) .bad (Dt w (e s) (Hv (Gr its) e K) (fun J=>Pv call its e h (CN (Gr its) J)) (fun J=>CN (Gr its) J (fun _=>Bp) h)) (its.all (fun it=>EN s w it.o))) p) g) g
def XH (call:Ag) (gs:List Ns):Env->KH->EK->KC:=
 List.rec (motive:=fun _=>Env->KH->EK->KC) (fun e h K=>K e h) (fun g _ ih e h K=>fm call g e h fun e' h'=>ih e' h' K) gs
def VC (it:DX):Bool:=Rg it.o&&it.fl.isEmpty
section
variable {P:Program}{call:Ag}{r:KC}{ep:Env}{K':Env->AH->Prop}{Kp':AV->Env->AH->Prop}
theorem NR (hC:AT P call) (hb:r≠.bad) {i pre:Nat}{d:Option Nat}{k:AK}{eff:Bool}{l:List DX}{e:Env}{h:KH}{pend:Ez}{K:AV->KH->KC}(hr:XI call eff k e h K=r)
  (h1:∀v h' pend',K v h'=r->A1 P ep K' Kp' l (e.put d v) (Ah h') pend') (h2:∀v h',r=.Bd v h'->Kp' v ep (Ah h')):A1 P ep K' Kp' (⟨i,⟨d,k,none⟩,pre,[],eff⟩::l) e (Ah h) pend:=by
 cases eff with
 | true=>exact T3 (Ky hC hr hb (fun v h' hk=>⟨trivial,h1 v h' pend hk⟩) (fun v h' hk=>h2 v h' hk)).1
 | false=>
  have hr:G2.rec (motive:=fun _=>KC) (fun f _=>f e fun v=>K v h) (fun f _=>f e h fun v=>K v h) (fun f _=>f e fun c g=>CM c g h K) (fun _ _=>.bad) (KY k)=r:=hr
  generalize KY k=a at hr
  cases a with
  | pu f ok=>
   obtain⟨v,g1,g2⟩:=ok _ _ _ hr hb
   exact JR g1 (h1 v h pend g2)
  | rd f ok=>
   obtain⟨v,g0,g1,g2⟩:=ok _ _ _ _ hr hb
   exact PT g0 g1 (h1 v h _ g2)
  | nw f ok=>
   obtain⟨c,g,g0,g1,g2,g3,g4⟩:=ok _ _ _ hr hb
   obtain⟨h',k1,k2⟩:=KH.DA g4 hb
   refine Wz g0 (g1 _) g2 ?_
   rw[MY,<- k1]
   exact h1 _ h' _ k2
  | ef f ok=>exact absurd hr.symm hb
theorem JY (hC:AT P call) (hb:r≠.bad){s:Nat}{w:Bool}{K:EK}{rest:List DX}(h2:∀v h,r=.Bd v h->Kp' v ep (Ah h)):∀(its:List DX) (e:Env) (h:KH) (pend:Ez),its.all VC=true->e AM=.tup [] ->
  (MN (e s)=some (some w)/\its.all (fun it=>EN s w it.o)=true\/its.all (fun it=>it.o.gd.isNone)=true)->Pv call its e h K=r ->
  (∀e' h' pend',(∀t,t ∉ Gr its->e' t=e t)->e' AM=.tup []->K e' h'=r->A1 P ep K' Kp' rest e' (Ah h') pend')->A1 P ep K' Kp' (its++rest) e (Ah h) pend
 | [],e,h,pend,_,hd,_,hr,h1=>h1 e h pend (fun _ _=>rfl) hd hr
 | it::its,e,h,pend,ho,hd,hg,hr,h1=>by
  rw[Vq]at hr
  simp only[Dz,AS]at ho hg
  obtain⟨ho1,ho2⟩:=ho
  simp only[VC,AS]at ho1
  have hd':∀v,(e.put it.o.dst v) AM=.tup []:=fun v=>by rw[B2 (EW ho1.1)];exact hd
  have go:∀v h' pend',(MN ((e.put it.o.dst v) s)=some (some w)/\its.all (fun it=>EN s w it.o)=true\/its.all (fun it=>it.o.gd.isNone)=true)->Pv call its (e.put it.o.dst v) h' K=r->A1 P ep K' Kp' (its++rest) (e.put it.o.dst v) (Ah h') pend':=fun v h' pend' hg' hx=>
   JY hC hb h2 its (e.put it.o.dst v) h' pend' ho2 (hd' v) hg' hx fun e' h'' pend'' q1 q2 q3=>h1 e' h'' pend'' (fun t ht=>by
    have ht:t ∉ Jh it.o.dst (Gr its):=ht
    rw[GQ,not_or]at ht
    rw[q1 t ht.2,B2 ht.1]) q2 q3
  obtain⟨i,⟨dst,k,gd⟩,pre,fl,eff⟩:=it
  have hfl:=ho1.2
  simp only[List.isEmpty_iff]at hfl
  subst hfl
  rcases hg with⟨g1,g2,g3⟩ | ⟨g2,g3⟩
  ·obtain⟨hh,g4⟩:=FY g2
   simp only at hh g4
   subst hh
   refine T1 g1 (fun _=>NR hC hb hr (fun v h' pend' hx=>go v h' pend' (.inl ⟨by simp only;rw[B2 g4];exact g1,g3⟩) hx) h2) (fun hn=>absurd rfl hn)
  ·simp only[HZ]at g2
   subst g2
   exact NR hC hb hr (fun v h' pend' hx=>go v h' pend' (.inr g3) hx) h2
theorem My [YC] {s:Nat}{w:Bool}{b:Option Bool}(hn:b≠some w){rest:List DX}:∀(its:List DX) (e:Env) (H:AH) (pend:Ez),its.all (fun it=>EN s w it.o)=true->MN (e s)=some b->A1 P ep K' Kp' rest (Hp (Gr its) (fun _=>Bp) e) H pend->A1 P ep K' Kp' (its++rest) e H pend
 | [],e,H,pend,_,_,h=>h
 | it::its,e,H,pend,hg,hs,h=>by
  simp only[Dz,AS]at hg
  obtain⟨i,⟨dst,k,gd⟩,pre,fl,eff⟩:=it
  obtain⟨hh,g4⟩:=FY hg.1
  simp only at hh g4
  subst hh
  refine T1 hs (fun hw=>absurd hw hn) fun _=>My hn its _ H pend hg.2 (by rw[B2 g4];exact hs) ?_
  cases dst with
  | none=>exact h
  | some d=>exact h
theorem QC:∀{its:List DX},its.all VC=true->AM ∉ Gr its
 | [],_,hm=>by cases hm
 | it::its,h,hm=>by
  have hm:AM∈Jh it.o.dst (Gr its):=hm
  simp only[Dz,AS,VC]at h
  rw[GQ]at hm
  rcases hm with hm | hm
  ·exact EW h.1.1 hm
  ·exact QC h.2 hm
theorem NQ (hC:AT P call) (hb:r≠.bad){K:EK}(h1:∀e h,e AM=.tup []->K e h=r->K' e (Ah h)) (h2:∀v h,r=.Bd v h->Kp' v ep (Ah h)) :
  ∀(gs:List Ns) (e:Env) (h:KH) (pend:Ez),(Lh gs).all VC=true->e AM=.tup []->XH call gs e h K=r->A1 P ep K' Kp' (Lh gs) e (Ah h) pend
 | [],e,h,pend,_,hd,hr=>h1 e h hd hr
 | (g,its)::gs,e,h,pend,ho,hd,hr=>by
  have hr:(fm call (g,its) e h fun e' h'=>XH call gs e' h' K)=r:=hr
  change (its++Lh gs).all VC=true at ho
  rw[Om,AS]at ho
  have rest:∀e' h' pend',e' AM=.tup []->XH call gs e' h' K=r->A1 P ep K' Kp' (Lh gs) e' (Ah h') pend':=fun e' h' pend' hd' hx=>NQ hC hb h1 h2 gs e' h' pend' ho.2 hd' hx
  show A1 P ep K' Kp' (its++Lh gs) e (Ah h) pend
  cases g with
  | none=>
   obtain⟨g1,g2⟩:=K8 hr hb
   exact JY hC hb (s:=0) (w:=true) h2 its e h pend ho.1 hd (.inr g1) g2 fun e' h' pend' _ q2 q3=>rest e' h' pend' q2 q3
  | some p=>
   obtain⟨s,w⟩:=p
   obtain⟨g1,g2⟩:=K8 hr hb
   obtain⟨b,k1,k2,k3⟩:=O0 g2 hb
   by_cases hw:b=some w
   ·subst hw
    refine JY hC hb h2 its e h pend ho.1 hd (.inl ⟨k1,g1⟩) (k2 rfl) fun e' h' pend' q1 q2 q3=>rest e' h' pend' q2 ?_
    rw[C1]at q3
    have:Hp (Gr its) e' e=e':=by
     funext t
     rw[Dg]
     split
     ·rfl
     ·rename_i hm;exact(q1 t hm).symm
    rw[this]at q3;exact q3
   ·have k3:=k3 hw
    simp only[C1]at k3
    refine My hw its e (Ah h) pend g1 k1 (rest _ h _ ?_ k3)
    rw[Dg,if_neg (QC ho.1)]
    exact hd
end
abbrev Ju:=List (Nat × (KH->Bool))
def UD (i:Nat) (l:List Nat):Bool:=List.rec (motive:=fun _=>Bool) false (fun j _ ih=>bif Nat.beq i j then true else ih) l
theorem Sf {i:Nat}:∀{l:List Nat},i∈l->UD i l=true
 | j::l,h=>by
  show(bif Nat.beq i j then true else UD i l)=true
  cases h with
  | head=>rw[Of];rfl
  | tail _ h=>rw[Sf h];cases Nat.beq i j<;>rfl
def aZ (fl:List Nat) (pd:Ju) (h:KH):Bool:=List.rec (motive:=fun _=>Bool) true (fun p _ ih=>bif UD p.1 fl then(bif p.2 h then ih else false)else ih) pd
theorem XK {fl:List Nat}{h:KH}:∀{pd:Ju},aZ fl pd h=true->∀p∈pd,p.1∈fl->p.2 h=true
 | p::pd,hk,q,hq,hf=>by
  have hk:(bif UD p.1 fl then(bif p.2 h then aZ fl pd h else false)else aZ fl pd h)=true:=hk
  cases hq with
  | head=>
   rw[Sf hf]at hk
   cases hp:p.2 h with
   | true=>rfl
   | false=>rw[hp]at hk;cases hk
  | tail _ hq=>
   refine XK (pd:=pd) ?_ q hq hf
   cases hm:UD p.1 fl with
   | false=>rw[hm]at hk;exact hk
   | true=>
    rw[hm]at hk
    cases hp:p.2 h with
    | true=>rw[hp]at hk;exact hk
    | false=>rw[hp]at hk;cases hk
def M1 (pd:Ju) (pend:Ez):Prop:=∀i p,pend.lookup i=some p->∃b,(i,b)∈pd/\∀x,b x=true->p (Ah x)
theorem M1.more {pd:Ju}{pend:Ez}(h:M1 pd pend) (q:Nat × (KH->Bool)):M1 (q::pd) pend:=fun i p hi=>let ⟨b,h1,h2⟩:=h i p hi;⟨b,.tail _ h1,h2⟩
theorem M1.cons {pd:Ju}{pend:Ez}(h:M1 pd pend){i:Nat}{b:KH->Bool}{p:AH->Prop}(hp:∀x,b x=true->p (Ah x)):M1 ((i,b)::pd) ((i,p)::pend):=fun j q hj=>by
 rw[List.lookup_cons]at hj
 by_cases hij:(j==i)=true
 ·rw[hij]at hj
  simp only[AD]at hj
  subst hj
  have:j=i:=by simpa using hij
  subst this
  exact⟨b,.head _,hp⟩
 ·simp only[Rz]at hij
  rw[hij]at hj
  obtain⟨b',h1,h2⟩:=h j q hj
  exact⟨b',.tail _ h1,h2⟩
theorem M1.Ul {pd:Ju}{pend:Ez}(hp:M1 pd pend){h:KH}:∀{fl fl':List Nat},(∀i∈fl',i∈fl)->aZ fl pd h=true->Ul fl' pend (Ah h)
 | _,[],_,_=>trivial
 | fl,i::is,hs,hk=>by
  refine⟨?_,M1.Ul hp (fun j hj=>hs j (.tail _ hj)) hk⟩
  cases hl:pend.lookup i with
  | none=>trivial
  | some p=>
   obtain⟨b,h1,h2⟩:=hp i p hl
   exact h2 h (XK hk _ h1 (hs i (.head _)))
def Hr (x:Option AV) (v:AV):Bool:=match x with
 | some y=>EP y v
 | none=>false
def mY (x:Option (List AV)) (v:List AV):Bool:=match x with
 | some y=>Gv y v
 | none=>false
def qT (k:AK) (e:Env) (v:AV) (h:KH):Bool:=match k with
 | .load g x=>Hr (Es g (x.ev e) h) v
 | k=>Hr (AY k e (Ah h)) v
theorem X8 {k:AK}{e:Env}{v:AV}{h:KH}(hk:qT k e v h=true):AY k e (Ah h)=some v:=by
 have key:∀{o:Option AV},Hr o v=true->o=some v:=fun{o} ho=>by
  unfold Hr at ho
  split at ho
  ·rw[CA _ _ ho]
  ·cases ho
 unfold qT at hk
 split at hk
 ·rename_i g x
  have:=key hk
  rw[Pn]at this;exact this
 ·exact key hk
def X9 (r:Nat) (c:List AV):KH->Bool:=fun h=>mY (Bx h r) c
def UM (call:Ag) (eff:Bool) (fl:List Nat) (pd:Ju) (k:AK) (e:Env) (h:KH) (K:KG):KC:=
 Bool.rec (motive:=fun _=>KC) (G2.rec (motive:=fun _=>KC) (fun f _=>f e fun v=>K v fh h) (fun f _=>f e h fun v=>K v (qT k e v) h) (fun f _=>f e fun c g=>CM c g h fun v h'=>K v (X9 h.nx c) h') (fun _ _=>.bad) (KY k))
  (Qr call k e h fun v h'=>Fs (aZ fl pd h') (K v fh h')) eff
def RR (call:Ag) (l:List DX):Env->KH->Ju->EK->KC:=
 List.rec (motive:=fun _=>Env->KH->Ju->EK->KC) (fun e h _ K=>K e h) (fun it _ ih e h pd K=>
  Option.rec (motive:=fun _=>KC) (UM call it.eff it.fl pd it.o.k e h fun v c h'=>ih (e.put it.o.dst v) h' ((it.i,c)::pd) K)
   (fun p=>lG p.2 (e p.1) h (fun v c h'=>ih (e.put it.o.dst v) h' ((it.i,c)::pd) K) fun J=>UM call it.eff it.fl pd it.o.k e h J) it.o.gd) l
section
variable {P:Program}{call:Ag}{r:KC}{ep:Env}{K':Env->AH->Prop}{Kp':AV->Env->AH->Prop}
theorem NM (hC:AT P call) (hb:r≠.bad) {i pre:Nat}{d:Option Nat}{k:AK}{eff:Bool}{fl:List Nat}{pd:Ju}{l:List DX}{e:Env}{h:KH}{pend:Ez}(hp:M1 pd pend){K:KG}(hr:UM call eff fl pd k e h K=r)
  (h1:∀v c h' pend',M1 ((i,c)::pd) pend'->K v c h'=r->A1 P ep K' Kp' l (e.put d v) (Ah h') pend') (h2:∀v h',r=.Bd v h'->Kp' v ep (Ah h')):A1 P ep K' Kp' (⟨i,⟨d,k,none⟩,pre,fl,eff⟩::l) e (Ah h) pend:=by
 cases eff with
 | true=>
  refine T3 (Ky hC hr hb (fun v h' hk=>?_) (fun v h' hk=>h2 v h' hk)).1
  obtain⟨g1,g2⟩:=K8 hk hb
  exact⟨hp.Ul (fun _ hi=>hi) g1,h1 v fh h' pend (hp.more _) g2⟩
 | false=>
  have hr:G2.rec (motive:=fun _=>KC) (fun f _=>f e fun v=>K v fh h) (fun f _=>f e h fun v=>K v (qT k e v) h) (fun f _=>f e fun c g=>CM c g h fun v h'=>K v (X9 h.nx c) h') (fun _ _=>.bad) (KY k)=r:=hr
  generalize KY k=a at hr
  cases a with
  | pu f ok=>
   obtain⟨v,g1,g2⟩:=ok _ _ _ hr hb
   exact JR g1 (h1 v fh h pend (hp.more _) g2)
  | rd f ok=>
   obtain⟨v,g0,g1,g2⟩:=ok _ _ _ _ hr hb
   exact PT g0 g1 (h1 v _ h _ (hp.cons fun x hx=>X8 hx) g2)
  | nw f ok=>
   obtain⟨c,g,g0,g1,g2,g3,g4⟩:=ok _ _ _ hr hb
   obtain⟨h',k1,k2⟩:=KH.DA g4 hb
   refine Wz g0 (g1 _) g2 ?_
   rw[MY,<- k1]
   refine h1 _ _ h' _ (hp.cons fun x hx=>?_) k2
   unfold X9 mY at hx
   split at hx
   ·rename_i y hy
    rw[Bn]at hy
    have:=CY _ _ hx
    subst this
    unfold AH.cells? at hy
    split at hy
    ·rename_i l' hl';simp only[AD]at hy;subst hy;exact hl'
    ·cases hy
   ·cases hx
  | ef f ok=>exact absurd hr.symm hb
theorem NJ (hC:AT P call) (hb:r≠.bad){K:EK}(h1:∀e h,e AM=.tup []->K e h=r->K' e (Ah h)) (h2:∀v h,r=.Bd v h->Kp' v ep (Ah h)) :
  ∀(l:List DX) (e:Env) (h:KH) (pd:Ju) (pend:Ez),M1 pd pend->l.all (fun it=>Rg it.o)=true->e AM=.tup []->RR call l e h pd K=r->A1 P ep K' Kp' l e (Ah h) pend
 | [],e,h,pd,pend,_,_,hd,hr=>h1 e h hd hr
 | ⟨i,⟨dst,k,gd⟩,pre,fl,eff⟩::l,e,h,pd,pend,hp,ho,hd,hr=>by
  simp only[Dz,AS]at ho
  have go:∀v c h' pend',M1 ((i,c)::pd) pend'->RR call l (e.put dst v) h' ((i,c)::pd) K=r->A1 P ep K' Kp' l (e.put dst v) (Ah h') pend':=fun v c h' pend' hp' hx=>
   NJ hC hb h1 h2 l _ h' _ pend' hp' ho.2 (by rw[B2 (EW ho.1)];exact hd) hx
  cases gd with
  | none=>
   have hr:(UM call eff fl pd k e h fun v c h'=>RR call l (e.put dst v) h' ((i,c)::pd) K)=r:=hr
   exact NM hC hb hp hr (fun v c h' pend' q1 q2=>go v c h' pend' q1 q2) h2
  | some p=>
   obtain⟨s,w⟩:=p
   have hr:(Xi w (e s) (UM call eff fl pd k e h fun v c h'=>RR call l (e.put dst v) h' ((i,c)::pd) K) (RR call l (e.put dst Bp) h ((i,fh)::pd) K))=r:=hr
   obtain⟨b,k1,k2,k3⟩:=O0 hr hb
   exact T1 k1 (fun hw=>NM hC hb hp (k2 hw) (fun v c h' pend' q1 q2=>go v c h' pend' q1 q2) h2) (fun hw=>go Bp fh h pend (hp.more _) (k3 hw))
end
def XG (call:Ag) (plan:List DX) (e:Env) (h:KH) (K:EK):KC:=
 Bool.rec (motive:=fun _=>KC) (Bool.rec (motive:=fun _=>KC) .bad (RR call plan e h [] K) (plan.all (fun it=>Rg it.o))) (XH call (YG plan) e h K) (plan.all VC)
theorem KM {plan:List DX}{e:Env}(ho:plan.all (fun it=>Rg it.o)=true):Is plan e AM=e AM:=by
 unfold Is
 rw[if_neg]
 intro hh
 rw[GW]at hh
 obtain⟨it,h1,h2⟩:=hh
 rw[CW]at ho
 exact EW (ho it h1) (by simpa using h2)
theorem NO {P:Program}{call:Ag}{r:KC}{K':Env->AH->Prop}{Kp':AV->Env->AH->Prop}(hC:AT P call) (hb:r≠.bad){K:EK}(h1:∀e h,e AM=.tup []->K e h=r->K' e (Ah h)) (h2:∀v h,r=.Bd v h->∀e,e AM=.tup []->Kp' v e (Ah h))
  {plan:List DX} {e:Env} {h:KH} (hd:e AM=.tup []) (hr:XG call plan e h K=r):A1 P (Is plan e) K' Kp' plan e (Ah h) []:=by
 unfold XG at hr
 cases hf:plan.all VC with
 | true=>
  rw[hf]at hr
  have hd':plan.all (fun it=>Rg it.o)=true:=by
   rw[CW]at hf ⊢
   intro x hx
   have:=hf x hx
   simp only[VC,AS]at this
   exact this.1
  have:=NQ hC hb (ep:=Is plan e) (Kp':=Kp') h1 (fun v h hv=>h2 v h hv _ (by rw[KM hd'];exact hd)) (YG plan) e h [] (by rw[Hw];exact hf) hd hr
  rw[Hw]at this;exact this
 | false=>
  rw[hf]at hr
  obtain⟨g1,g2⟩:=K8 hr hb
  exact NJ hC hb h1 (fun v h hv=>h2 v h hv _ (by rw[KM g1];exact hd)) plan e h [] [] (fun i p hi=>by cases hi) g1 hd g2
end
noncomputable section
variable [BQ]
inductive HT where
 | l
 | s (a b:HT)
 | i (a b:HT)
 | j (l:List Nat) (a b:HT)
def CR (l:List Nat):JT l:=List.rec (motive:=fun l=>JT l) (fun _=>.bad) (fun _ _ ih _=>ih) l
theorem Kz:∀(l:List Nat) (e:Env) (h:KH),CN l (CR l) e h=.bad
 | [],_,_=>rfl
 | _::l,e,h=>Kz l e h
def A5:Env:=fun i=>bif Nat.beq i AM then .tup []else .unk
def Sk (id:Nat) (K:EK) (ke:Nat->EK):Nat->EK:=(fun(_:AK->Nat) i=>Bool.rec (motive:=fun _=>EK) (ke i) K (Nat.beq i id)) ZD
theorem OO (id:Nat) (K:EK) (ke:Nat->EK) (i:Nat):Sk id K ke i=if i=id then K else ke i:=by
 show Bool.rec (motive:=fun _=>EK) (ke i) K (Nat.beq i id)=_
 rw[Ci]
 by_cases h:i=id<;>simp[h]
def KK:EK:=fun _ _=>.bad
def run (call:Ag) (c:Ay):HT->EK->(Nat->EK)->EK->EK:=
 Ay.rec (motive:=fun _=>HT->EK->(Nat->EK)->EK->EK)
  (fun _ kn _ _=>kn)
  (fun ops _ kn _ _ e h=>iU call ops e h kn)
  (fun plan _ kn _ _ e h=>XG call plan e h kn)
  (fun _ _ ra rb t kn ke kr=>HT.rec (motive:=fun _=>EK) KK (fun x y _ _=>ra x (rb y kn ke kr) ke kr) (fun _ _ _ _=>KK) (fun _ _ _ _ _=>KK) t)
  (fun c _ _ ra rb t kn ke kr e h=>HT.rec (motive:=fun _=>KC) .bad (fun _ _ _ _=>.bad) (fun x y _ _=>A7 (c.ev e) (ra x kn ke kr e h) (rb y kn ke kr e h))
   (fun l x y _ _=>JF (c.ev e) (Hv l A5 kn) (fun J=>ra x (CN l J) ke kr e h) (fun J=>rb y (CN l J) ke kr e h)) t)
  (fun id _ ra t kn ke kr e h=>HT.rec (motive:=fun _=>KC) .bad (fun _ _ _ _=>.bad) (fun x _ _ _=>ra x kn (Sk id kn ke) kr e h)
   (fun l x _ _ _=>ZA (Hv l A5 kn) fun J=>ra x (CN l J) (Sk id (CN l J) ke) kr e h) t)
  (fun _ ra t _ ke kr e h=>HT.rec (motive:=fun _=>KC) .bad (fun _ _ _ _=>.bad) (fun _ _ _ _=>.bad)
   (fun l x _ _ _=>CN l (BH (CR l) fun self=>Hv l A5 fun e h=>ra x (CN l self) ke kr e h) e h) t)
  (fun id _ _ ke _=>ke id)
  (fun _ _ _ kr=>kr)
  (fun _ _ _ _ _ _ _ _ _ _=>KK) c
def KQ (r:KC) (kn:EK) (ke:Nat->EK) (kr:EK):Ex->Env->AH->Prop:=fun x e H=>e AM=.tup []/\∃h,Ah h=H/\match x with
 | .normal=>kn e h=r
 | .exit i=>ke i e h=r
 | .ret=>kr e h=r
 | .Bd v=>r=.Bd v h
theorem Cv {l:List Nat}{e:Env}(hd:e AM=.tup []):(∀t,Hp l e A5 t=e t\/Hp l e A5 t=.unk)/\Hp l e A5 AM=.tup []:=by
 refine⟨fun t=>?_,?_⟩
 ·rw[Dg]
  split
  ·exact .inl rfl
  ·unfold A5
   rw[Ci,Cm]
   split
   ·rename_i h;subst h;exact .inl hd.symm
   ·exact .inr rfl
 ·rw[Dg]
  split
  ·exact hd
  ·unfold A5
   rw[Of];rfl
theorem Sj {l:List Nat}{e:Env}{H:AH}(hd:e AM=.tup []):VS e H (Hp l e A5) H:=VS.GJ (Cv hd).1 ((Cv hd).2.trans hd.symm)
theorem KQ.join {r:KC}{l:List Nat}{kn:EK}{ke:Nat->EK}{kr:EK}:∀x e H,KQ r (CN l (Hv l A5 kn)) ke kr x e H->kY (KQ r kn ke kr) x e H:=by
 rintro x e H ⟨hd,h,rfl,hx⟩
 cases x with
 | normal=>
  simp only[C1]at hx
  exact⟨_,_,Sj (l:=l) hd,(Cv hd).2,h,rfl,hx⟩
 | exit i=>exact BB ⟨hd,h,rfl,hx⟩
 | ret=>exact BB ⟨hd,h,rfl,hx⟩
 | Bd v=>exact⟨hd,h,rfl,hx⟩
section
variable {P:Program}{call:Ag}{r:KC}{n:Nat}{hs:Hints}
theorem J2 (hC:AT P call) (hmix:P.follows .mixedOrders=true) (hn:n<=AM) (hb:r≠.bad):∀(c:Code) (ac:Ay),comp P hs n c=some ac ->
  ∀(t:HT) (kn:EK) (ke:Nat->EK) (kr:EK) (e:Env) (h:KH),e AM=.tup []->run call ac t kn ke kr e h=r->DS P n c (KQ r kn ke kr) e (Ah h):=by
 have hbb:KC.bad≠r:=fun h=>hb h.symm
 intro c
 induction c with
 | skip=>
  intro ac hc t kn ke kr e h hd hr
  simp only[comp,AD]at hc;subst hc
  exact CQ.skip ⟨hd,h,rfl,hr⟩
 | exit id=>
  intro ac hc t kn ke kr e h hd hr
  simp only[comp,AD]at hc;subst hc
  exact CQ.exit ⟨hd,h,rfl,hr⟩
 | ret=>
  intro ac hc t kn ke kr e h hd hr
  simp only[comp,AD]at hc;subst hc
  exact CQ.ret ⟨hd,h,rfl,hr⟩
 | region id ops draw=>
  intro ac hc t kn ke kr e h hd hr
  have h1:∀e' h',e' AM=.tup []->kn e' h'=r->VA (KQ r kn ke kr) .normal e' (Ah h'):=fun e' h' q1 q2=>Fj ⟨q1,h',rfl,q2⟩
  have h2:∀v h',r=.Bd v h'->∀e',e' AM=.tup []->KQ r kn ke kr (.Bd v) e' (Ah h'):=fun v h' q1 e' q2=>⟨q2,h',rfl,q1⟩
  refine CQ.Z9 hmix hn hc (.inl rfl) ?_
  cases draw with
  | true=>
   simp only[comp]at hc
   split at hc<;>(try (cases hc;done))
   split at hc<;>(try (cases hc;done))
   rename_i plan hpl
   split at hc<;>(try (cases hc;done))
   simp only[AD]at hc;subst hc
   exact OT (NO hC hb (K':=fun e' H'=>VA (KQ r kn ke kr) .normal e' H') (Kp':=fun v e' H'=>KQ r kn ke kr (.Bd v) e' H') h1 h2 hd hr)
  | false=>
   simp only[comp,AP]at hc
   obtain⟨al,hal,rfl⟩:=hc
   exact Gs (Ph hC hb (K':=fun e' H'=>VA (KQ r kn ke kr) .normal e' H') (Kp':=fun v e' H'=>KQ r kn ke kr (.Bd v) e' H') h1 h2 hd hr)
 | seq x y ihx ihy=>
  intro ac hc t kn ke kr e h hd hr
  simp only[comp]at hc
  split at hc
  ·rename_i ax ay hx hy
   simp only[AD]at hc;subst hc
   cases t with
   | l=>exact absurd hr hbb
   | i a b=>exact absurd hr hbb
   | j l a b=>exact absurd hr hbb
   | s a b=>
    have hr:run call ax a (run call ay b kn ke kr) ke kr e h=r:=hr
    refine CQ.seq (CQ.post ?_ (ihx ax hx a _ ke kr e h hd hr))
    rintro z e' H' ⟨hd',h',rfl,hz⟩
    refine BB ?_
    cases z with
    | normal=>exact ihy ay hy b kn ke kr e' h' hd' hz
    | exit i=>exact⟨hd',h',rfl,hz⟩
    | ret=>exact⟨hd',h',rfl,hz⟩
    | Bd v=>exact⟨hd',h',rfl,hz⟩
  ·cases hc
 | cond c x y ihx ihy=>
  intro ac hc t kn ke kr e h hd hr
  simp only[comp]at hc
  split at hc
  ·rename_i c' ax ay h1 hx hy
   simp only[AD]at hc;subst hc
   have go:∀{A B:KC} {Q:Ex->Env->AH->Prop},A7 (c'.ev e) A B=r->(A=r->DS P n x Q e (Ah h))->(B=r->DS P n y Q e (Ah h))->DS P n (.cond c x y) Q e (Ah h):=fun{A B Q} hi ha hbq=>by
    unfold A7 at hi
    cases hv:Te (c'.ev e)with
    | no=>rw[hv]at hi;exact absurd hi hbb
    | «at» b=>
     rw[hv]at hi
     refine CQ.cond h1 (OG hv) (fun ht=>?_) (fun ht=>?_)
     ·subst ht;exact ha hi
     ·subst ht;exact hbq hi
   cases t with
   | l=>exact absurd hr hbb
   | s a b=>exact absurd hr hbb
   | i a b=>exact go hr (fun q=>ihx ax hx a kn ke kr e h hd q) (fun q=>ihy ay hy b kn ke kr e h hd q)
   | j l a b=>exact go hr (fun q=>(ihx ax hx a _ ke kr e h hd q).post KQ.join) (fun q=>(ihy ay hy b _ ke kr e h hd q).post KQ.join)
  ·cases hc
 | block id x ih=>
  intro ac hc t kn ke kr e h hd hr
  simp only[comp,AP]at hc
  obtain⟨ax,hx,rfl⟩:=hc
  cases t with
  | l=>exact absurd hr hbb
  | s a b=>exact absurd hr hbb
  | i a b=>
   refine CQ.block ((ih ax hx a kn (Sk id kn ke) kr e h hd hr).post ?_)
   rintro z e' H' ⟨hd',h',rfl,hz⟩
   refine BB ?_
   cases z with
   | normal=>exact⟨hd',h',rfl,hz⟩
   | exit i=>
    simp only[OO]at hz
    simp only[]
    by_cases hi:i=id
    ·rw[if_pos hi];rw[if_pos hi]at hz;exact⟨hd',h',rfl,hz⟩
    ·rw[if_neg hi];rw[if_neg hi]at hz;exact⟨hd',h',rfl,hz⟩
   | ret=>exact⟨hd',h',rfl,hz⟩
   | Bd v=>exact⟨hd',h',rfl,hz⟩
  | j l a b=>
   have hr:run call ax a (CN l (Hv l A5 kn)) (Sk id (CN l (Hv l A5 kn)) ke) kr e h=r:=hr
   refine CQ.block ((ih ax hx a _ _ kr e h hd hr).post ?_)
   rintro z e' H' ⟨hd',h',rfl,hz⟩
   cases z with
   | normal=>exact KQ.join (l:=l) .normal e' _ ⟨hd',h',rfl,hz⟩
   | exit i=>
    simp only[OO]at hz
    by_cases hi:i=id
    ·rw[if_pos hi]at hz
     simp only[C1]at hz
     refine⟨_,_,Sj (l:=l) hd',?_⟩
     simp only[hi,if_true]
     exact⟨(Cv hd').2,h',rfl,hz⟩
    ·rw[if_neg hi]at hz
     refine BB ?_
     simp only[]
     rw[if_neg hi];exact⟨hd',h',rfl,hz⟩
   | ret=>exact BB ⟨hd',h',rfl,hz⟩
   | Bd v=>exact⟨hd',h',rfl,hz⟩
 | loop x ih=>
  intro ac hc t kn ke kr e h hd hr
  simp only[comp,AP]at hc
  obtain⟨ax,hx,rfl⟩:=hc
  cases t with
  | l=>exact absurd hr hbb
  | s a b=>exact absurd hr hbb
  | i a b=>exact absurd hr hbb
  | j l a b=>
   have hr:CN l (VH (CR l) (fun self=>Hv l A5 fun e h=>run call ax a (CN l self) ke kr e h) aS) e h=r:=hr
   generalize hbody:(fun self:JT l=>Hv l A5 fun e h=>run call ax a (CN l self) ke kr e h)=body at hr
   refine CQ.loop (L:=fun k e H=>e AM=.tup []/\∃h,Ah h=H/\CN l (VH (CR l) body k) e h=r) ⟨hd,h,rfl,hr⟩ ?_
   rintro k e1 H1 ⟨hd1,h1,rfl,hr1⟩
   cases k with
   | zero=>
    have hr1:CN l (CR l) e1 h1=r:=hr1
    rw[Kz]at hr1
    exact absurd hr1 hbb
   | succ k=>
    have hr1:CN l (body (VH (CR l) body k)) e1 h1=r:=hr1
    rw[<- hbody,C1,hbody]at hr1
    refine CQ.vs (Sj (l:=l) hd1) ((ih ax hx a _ ke kr _ h1 (Cv hd1).2 hr1).post ?_)
    rintro z e' H' ⟨hd',h',rfl,hz⟩
    refine BB ?_
    cases z with
    | normal=>exact⟨k,Nat.lt_succ_self k,hd',h',rfl,hz⟩
    | exit i=>exact⟨hd',h',rfl,hz⟩
    | ret=>exact⟨hd',h',rfl,hz⟩
    | Bd v=>exact⟨hd',h',rfl,hz⟩
 | rangeFunc g ps zs bd=>
  intro ac hc t kn ke kr e h hd hr
  simp only[comp]at hc
  split at hc<;>(try (cases hc;done))
  split at hc<;>(try (cases hc;done))
  simp only[AD]at hc;subst hc
  exact absurd hr hbb
 | label l=>
  intro ac hc t kn ke kr e h hd hr
  simp only[comp,AD]at hc;subst hc
  exact CQ.label ⟨hd,h,rfl,hr⟩
 | scope x ih=>
  intro ac hc t kn ke kr e h hd hr
  simp only[comp,AP]at hc
  obtain⟨ax,hx,rfl⟩:=hc
  cases t with
  | l=>exact absurd hr hbb
  | s a b=>exact absurd hr hbb
  | i a b=>exact CQ.scope (ih ax hx a kn ke kr e h hd hr)
  | j l a b=>exact CQ.scope ((ih ax hx a _ ke kr e h hd hr).post KQ.join)
 | _=>intro ac hc;simp[comp]at hc
end
def iT (q:List CZ) (e:Env) (h:KH):(List AV->KC)->KC:=
 List.rec (motive:=fun _=>(List AV->KC)->KC) (fun K=>K []) (fun r _ ih K=>CZ.rec (motive:=fun _=>KC) (fun i=>ih fun l=>K (e i::l)) (fun a g=>AR g (e a) h fun v=>ih fun l=>K (v::l)) r) q
def IS (q:List CZ):EK:=fun e h=>iT q e h fun l=>.ret (Im l) h
theorem Pg {e:Env}{h:KH}{r:KC}(hb:r≠.bad):∀{q:List CZ}{K:List AV->KC},iT q e h K=r->∃l,DU e (Ah h) q=some l/\K l=r
 | [],K,hr=>⟨[],rfl,hr⟩
 | .tmp i::q,K,hr=>by
  obtain⟨l,h1,h2⟩:=Pg hb (q:=q) (K:=fun l=>K (e i::l)) hr
  exact⟨_,by simp only[DU,h1];rfl,h2⟩
 | .cell a g::q,K,hr=>by
  have hr:AR g (e a) h (fun v=>iT q e h fun l=>K (v::l))=r:=hr
  rw[Wd]at hr
  obtain⟨v,g1,g2⟩:=Ld hr hb
  obtain⟨l,h1,h2⟩:=Pg hb (q:=q) g2
  exact⟨_,by simp only[DU,g1,h1];rfl,h2⟩
theorem Hs {e:Env}{h:KH}{r:KC}{q:List CZ}(hb:r≠.bad) (hr:IS q e h=r):∃l,DU e (Ah h) q=some l/\r=.ret (Im l) h:=by
 obtain⟨l,h1,h2⟩:=Pg hb hr
 exact⟨l,h1,h2.symm⟩
def An (zs:List AV) (K:AV->List AV->KC):KC:=List.rec (motive:=fun _=>KC) .bad (fun v t _=>K v t) zs
def Bi (zs:List AV) (K:KC):KC:=List.rec (motive:=fun _=>KC) K (fun _ _ _=>.bad) zs
def L8 (np:Nat):Nat->Env->List AV->KH->EK->KC:=
 Nat.rec (motive:=fun _=>Nat->Env->List AV->KH->EK->KC) (fun _ e zs h K=>Bi zs (K e h)) (fun _ ih i e zs h K=>An zs fun v t=>ih (Nat.succ i) (e.set i v) t h K) np
theorem Ht {r:KC}(hb:r≠.bad){h:KH}{K:EK}:∀(np i:Nat) (e:Env) (zs:List AV),L8 np i e zs h K=r->zs.length=np/\∃e',K e' h=r/\∀t,e' t=if i<=t/\t<i+np then zs.getD (t-i) .unk else e t
 | 0,i,e,[],hr=>⟨rfl,e,hr,fun t=>by rw[if_neg (by omega)]⟩
 | 0,i,e,_::_,hr=>absurd hr.symm hb
 | np+1,i,e,[],hr=>absurd hr.symm hb
 | np+1,i,e,v::zs,hr=>by
  obtain⟨h1,e',h2,h3⟩:=Ht hb np (i+1) (e.set i v) zs hr
  refine⟨by rw[Be,h1],e',h2,fun t=>?_⟩
  rw[h3,Env.AN]
  by_cases c1:t=i
  ·subst c1
   rw[if_neg (by omega),if_pos rfl,if_pos (by omega)];simp
  ·by_cases c2:i+1<=t/\t<i+1+np
   ·rw[if_pos c2,if_pos (by omega)]
    have:t-i=(t-(i+1))+1:=by omega
    rw[this];simp
   ·rw[if_neg c2,if_neg c1,if_neg (by omega)]
def iW (np:Nat) (q:List CZ) (ac:Ay) (t:HT):Ag->List AV->KH->KC:=fun call zs h=>
 L8 np 0 A5 zs h fun e h=>run call ac t (IS q) (fun _=>KK) (IS q) e h
abbrev GF:=Ag->List AV->KH->KC
def Ax (P:Program) (g:FuncId) (F:GF):Prop:=∀call,AT P call->∀zs h,
 (∀v h',F call zs h=.ret v h'->AQ P g zs (Ah h) (fun o H'=>o=.ret v/\H'=Ah h')) /\
 (∀v h',F call zs h=.Bd v h'->AQ P g zs (Ah h) (fun o H'=>o=.Bd v/\H'=Ah h'))
theorem Vp {P:Program}{g n np:Nat}{q:List CZ}{ac:Ay}{t:HT}(hF:MT P g n ac q) (hnp:Nat.ble np n=true){F:GF}(hf:F=iW np q ac t):Ax P g F:=by
 subst hf
 intro call hC zs h
 have hnp:=Aa hnp
 have main:∀(r:KC) (post:Al->AH->Prop),iW np q ac t call zs h=r->r≠.bad->(∀v h',r=.ret v h'->post (.ret v) (Ah h'))->(∀v h',r=.Bd v h'->post (.Bd v) (Ah h'))->AQ P g zs (Ah h) post:=by
  intro r post hr hb p1 p2
  obtain⟨h1,e,h2,h3⟩:=Ht hb np 0 A5 zs hr
  have hle:=hF.le
  have he:e=CH zs:=by
   funext t
   rw[h3,CH,A5,Ci,Cm]
   by_cases c1:t=AM
   ·subst c1
    rw[if_neg (by omega),if_pos rfl,if_pos rfl]
   ·rw[if_neg c1,if_neg c1]
    by_cases c2:t<np
    ·rw[if_pos (by omega)];rfl
    ·rw[if_neg (by omega),Ac,BT (by omega)];rfl
  subst he
  refine hF.bp (by omega) fun c hs hc=>CQ.post ?_ (J2 hC hF.mix hF.le hb c ac hc t _ _ _ _ h (by simp[CH]) h2)
  rintro x e' H' ⟨hd,h',rfl,hx⟩
  refine BB ⟨⟨[],hd,Hl⟩,?_⟩
  cases x with
  | normal=>
   obtain⟨l,g1,g2⟩:=Hs hb hx
   simp only[F1,g1]
   exact p1 _ _ g2
  | ret=>
   obtain⟨l,g1,g2⟩:=Hs hb hx
   simp only[F1,g1]
   exact p1 _ _ g2
  | exit i=>exact absurd hx.symm hb
  | Bd v=>exact p2 _ _ hx
 exact⟨fun v h' hr=>main _ _ hr (by intro hh;cases hh) (fun v' h'' hh=>by cases hh;exact⟨rfl,rfl⟩) (fun v' h'' hh=>by cases hh),
  fun v h' hr=>main _ _ hr (by intro hh;cases hh) (fun v' h'' hh=>by cases hh) (fun v' h'' hh=>by cases hh;exact⟨rfl,rfl⟩)⟩
abbrev Nt:=FuncId->Option GF
def Uh (TH:Nt) (orc:Ag) (n:Nat):Ag:=
 Nat.rec (motive:=fun _=>Ag) (fun _ _ _=>.bad) (fun _ ih g zs h=>Option.rec (motive:=fun _=>KC) (orc g zs h) (fun F=>F ih zs h) (TH g)) n
def Kf (P:Program) (TH:Nt):Prop:=∀g F,TH g=some F->Ax P g F
def Ck (k:Nat) (l r:Nt):Nt:=fun g=>bif Nat.ble k g then r g else l g
def Cg (k:Nat) (F:GF):Nt:=fun g=>bif Nat.beq g k then some F else none
theorem Az {P:Program}{k:Nat}{l r:Nt}(hl:Kf P l) (hr:Kf P r):Kf P (Ck k l r):=fun g F h=>by
 unfold Ck at h
 cases hk:Nat.ble k g with
 | true=>rw[hk]at h;exact hr g F h
 | false=>rw[hk]at h;exact hl g F h
theorem Av {P:Program}{k:Nat}{F:GF}(h:Ax P k F):Kf P (Cg k F):=fun g F' hh=>by
 unfold Cg at hh
 rw[Ci,Cm]at hh
 split at hh
 ·rename_i hg;subst hg;cases hh;exact h
 ·cases hh
theorem Un {P:Program}:AT P (fun _ _ _=>.bad):=fun _ _ _=>⟨fun _ _ h=>(by cases h),fun _ _ h=>(by cases h)⟩
theorem MB {P:Program}{TH:Nt}{orc:Ag}(hT:Kf P TH) (hO:AT P orc):∀n,AT P (Uh TH orc n)
 | 0=>Un
 | n+1=>fun g zs h=>by
  have e0:Uh TH orc (n+1) g zs h=Option.rec (motive:=fun _=>KC) (orc g zs h) (fun F=>F (Uh TH orc n) zs h) (TH g):=rfl
  rw[e0]
  cases ht:TH g with
  | none=>exact hO g zs h
  | some F=>exact hT g F ht _ (MB hT hO n) zs h
def EY (P:Program) (fn:Func) (hs:Hints) (n:Nat):Ay:=Option.rec (motive:=fun _=>Ay) .skip (fun c=>c) (fn.body.bind (comp P hs n))
def I (n:Nat):AV:=.int .i64 (.ofNat n)
def N (k:IntKind) (n:Nat):AV:=.int k (.ofNat n)
def BD (n:Nat) (x:AV) (l:List AV):List AV:=Nat.rec (motive:=fun _=>List AV) l (fun _ ih=>x::ih) n
end
noncomputable section
variable [BQ] [YC]
def eX (e:Env) (ps:List (Nat × Nat × AE)):List (Nat × Nat × AE):=List.rec (motive:=fun _=>List (Nat × Nat × AE)) [] (fun p _ ih=>(p.1,p.2.1,.cst (p.2.2.ev e))::ih) ps
theorem OQ (e:Env):∀(ps:List (Nat × Nat × AE)) (c:List AV),Bv emp c (eX e ps)=Bv e c ps
 | [],c=>rfl
 | (o,n,x)::ps,c=>by
  show Bv emp c ((o,n,.cst (x.ev e))::eX e ps)=_
  simp only[Bv,AE.ev,OQ e ps]
def C0 (e:Env) (k:AK):AK:=match k with
 | .move x=>.move (Et e x)
 | .pick c a b=>.pick (Et e c) (Et e a) (Et e b)
 | .build z ps=>.build z (eX e ps)
 | .nilCheck x=>.nilCheck (Et e x)
 | .bin op x y=>.bin op (Et e x) (Et e y)
 | .convI k x=>.convI k (Et e x)
 | .mkIface t x=>.mkIface t (Et e x)
 | .fieldAddr off x=>.fieldAddr off (Et e x)
 | .field g off x=>.field g off (Et e x)
 | .indexAddrA n z x i=>.indexAddrA n z (Et e x) (Et e i)
 | .indexAddrS z x i=>.indexAddrS z (Et e x) (Et e i)
 | .extract i x=>.extract i (Et e x)
 | .len x=>.len (Et e x)
 | .load g x=>.load g (Et e x)
 | .box x=>.box (Et e x)
 | .buildSlice z n c ps=>.buildSlice z n c (eX e ps)
 | .store n x v=>.store n (Et e x) (Et e v)
 | .append z b s x=>.append z b (Et e s) (Et e x)
 | k=>Ps e k
inductive VD where
 | mv (x:AE)
 | ifc (t:TypeId) (x:AE)
 | fnc (f:Fn) (a b:List AE)
 | call (f:AE) (args:List AE)
 | Bd (x:AE)
 | no
 | pu
 | rd
 | ef
 | nx (x:AE)
def JQ (k:AK):VD:=match k with
 | .move x=>.mv x
 | .mkIface t x=>.ifc t x
 | .mkFunc f a b=>.fnc f a b
 | .call f args=>.call f args
 | .panic x=>.Bd x
 | .defer _ _=>.no
 | .recover=>.no
 | .nextM x=>.nx x
 | .load .. | .strOfBytes _ | .lookup .. | .lenMap _ | .ext .. | .entryM _ | .gld ..=>.rd
 | .alloc _ | .box _ | .buildSlice .. | .mkSlice .. | .store .. | .append .. | .mark _ | .appendZ .. | .makeMap | .rangeM _ | .mapUpd .. | .bytesOf _ | .Is .. | .copy ..=>.ef
 | _=>.pu
def AB (k:AK) (K:AV->Prop):Prop:=Option.rec (motive:=fun _=>Prop) False K (AJ k emp)
def AG (k:AK) (H:AH) (K:AV->Prop):Prop:=Option.rec (motive:=fun _=>Prop) False K (AY k emp H)
def AO (k:AK) (H:AH) (K:AV->AH->Prop):Prop:=Option.rec (motive:=fun _=>Prop) False (fun p=>Prod.rec (motive:=fun _=>Prop) K p) (BC k emp H)
def AF (P:Program) (g:FuncId) (zs:List AV) (H:AH) (Kp K:AV->AH->Prop):Prop:=AQ P g zs H fun o H'=>match o with
 | .ret v=>K v H'
 | .Bd v=>Kp v H'
def gW (fv:AV) (zs:List AV) (H:AH) (Kp K:AV->AH->Prop):Prop:=match fv with
 | .fn (.yield l) [] []=>YC.y l zs H fun o H'=>match o with
  | .ret v=>K v H'
  | .Bd v=>Kp v H'
 | _=>False
def DV (P:Program) (fv:AV) (zs:List AV) (H:AH) (Kp K:AV->AH->Prop):Prop:=
 FP.rec (motive:=fun _=>Prop) (gW fv zs H Kp K) (fun g first cap=>AF P g (Sl first (Sl zs cap)) H Kp K) (VO fv)
def CD (v:AV) (H:AH) (Kp:AV->AH->Prop):Prop:=match v with
 | .ifc t v=>Kp (.ifc t v) H
 | _=>False
def TU (w:Bool) (v:AV) (A B:Prop):Prop:=match MN v with
 | some b=>(b=some w->A)/\(b≠some w->B)
 | none=>False
def DG {T:Type}(w:Bool) (v:AV) (J:T) (A B:T->Prop):Prop:=TU w v (A J) (B J)
def AZ (v:AV) (A B:Prop):Prop:=match v with
 | .bool t=>(t=true->A)/\(t=false->B)
 | _=>False
def MU {T:Type}(v:AV) (J:T) (A B:T->Prop):Prop:=AZ v (A J) (B J)
def Wa {T:Type}(J:T) (A:T->Prop):Prop:=A J
def VG (x:AV) (H:AH) (K:AV->AH->Prop):Prop:=Option.rec (motive:=fun _=>Prop) False (fun l=>∀p∈l,K p.1 p.2) (Jr x H)
abbrev PK:=Env->AH->Prop
def JP (l:List Nat):Type:=List.rec (motive:=fun _=>Type) (AH->Prop) (fun _ _ t=>AV->t) l
def JN (l:List Nat):Type:=List.rec (motive:=fun _=>Type) (AH->Nat) (fun _ _ t=>AV->t) l
def JV (l:List Nat):JN l->Env->AH->Nat:=
 List.rec (motive:=fun l=>JN l->Env->AH->Nat) (fun J _ h=>J h) (fun i _ ih J e h=>ih (J (e i)) e h) l
def Ef (l:List Nat):JP l->PK:=
 List.rec (motive:=fun l=>JP l->PK) (fun J _ h=>J h) (fun i _ ih J e h=>ih (J (e i)) e h) l
def Tt (l:List Nat):Env->PK->JP l:=
 List.rec (motive:=fun l=>Env->PK->JP l) (fun e0 f h=>f e0 h) (fun i _ ih e0 f v=>ih (e0.set i v) f) l
def Ak (l:List Nat) (body:JP l->JP l) (e:Env) (H:AH):Prop:=∃(I:JP l) (μ:JN l),Ef l I e H/\∀e H,Ef l I e H->Ef l (body (Tt l emp fun e' H'=>Ef l I e' H'/\JV l μ e' H'<JV l μ e H)) e H
def Qh:Nat:=
 let _a:=@Ak
 let _b:=@MU Nat
 let _c:=@DG Nat
 let _d:=@Wa Nat
 let _e:=DV
 let _f:=CD
 let _g:=AB
 let _h:=AG
 let _i:=AO
 let _j:=VG
 0
def Fv (l:List Nat):JP l->PK:=
 (fun(_:Nat)=>(List.rec (motive:=fun l=>JP l->PK) (fun J _ h=>J h) (fun i _ ih J e h=>ih (J (e i)) e h) l:JP l->PK)) Qh
def Nn (l:List Nat):Env->PK->JP l:=
 (fun(_:Nat)=>(List.rec (motive:=fun l=>Env->PK->JP l) (fun e0 f h=>f e0 h) (fun i _ ih e0 f v=>ih (e0.set i v) f) l:Env->PK->JP l)) Qh
theorem D7:∀(l:List Nat) (e0:Env) (f:PK) (e:Env) (h:AH),Fv l (Nn l e0 f) e h=f (Hp l e e0) h
 | [],_,_,_,_=>rfl
 | i::l,e0,f,e,h=>by
  show Fv l (Nn l (e0.set i (e i)) f) e h=_
  rw[D7 l];rfl
def Va (P:Program) (k:AK) (e:Env) (H:AH) (Kp K:AV->AH->Prop):Prop:=
 (fun(_:Nat)=>VD.rec (motive:=fun _=>Prop) (fun x=>K (x.ev e) H) (fun t x=>K (.ifc t (x.ev e)) H) (fun f a b=>K (.fn f (Fy e a) (Fy e b)) H) (fun f args=>DV P (f.ev e) (Fy e args) H Kp K) (fun x=>CD (x.ev e) H Kp) False
  (AB (C0 e k) fun v=>K v H) (AG (C0 e k) H fun v=>K v H) (AO (C0 e k) H K) (fun x=>VG (x.ev e) H K) (JQ k)) Qh
theorem Oy {k:AK}{K:AV->Prop}(h:AB k K):∃v,AJ k emp=some v/\K v:=by
 unfold AB at h
 cases hk:AJ k emp with
 | none=>rw[hk]at h;exact h.elim
 | some v=>rw[hk]at h;exact⟨v,rfl,h⟩
theorem La {k:AK}{H:AH}{K:AV->Prop}(h:AG k H K):∃v,AY k emp H=some v/\K v:=by
 unfold AG at h
 cases hk:AY k emp H with
 | none=>rw[hk]at h;exact h.elim
 | some v=>rw[hk]at h;exact⟨v,rfl,h⟩
theorem Yk {k:AK}{H:AH}{K:AV->AH->Prop}(h:AO k H K):∃v H',BC k emp H=some (v,H')/\K v H':=by
 unfold AO at h
 cases hk:BC k emp H with
 | none=>rw[hk]at h;exact h.elim
 | some p=>rw[hk]at h;exact⟨p.1,p.2,rfl,h⟩
theorem Pp (e:Env) (k:AK) (hk:JQ k=.pu):AJ (C0 e k) emp=AJ k e:=by
 cases k<;>first
  | (cases hk;done)
  | rfl
  | (simp only[AJ,C0,OQ];done)
  | (simp only[AJ,C0,Ps,OR];rfl)
theorem L4 (e:Env) (H:AH) (k:AK) (hk:JQ k=.rd):AY (C0 e k) emp H=AY k e H/\AJ k e=none:=by
 cases k<;>first
  | (cases hk;done)
  | exact⟨rfl,rfl⟩
theorem Pq (e:Env) (H:AH) (k:AK) (hk:JQ k=.ef):BC (C0 e k) emp H=BC k e H/\AJ k e=none/\AY k e H=none:=by
 cases k<;>first
  | (cases hk;done)
  | exact⟨rfl,rfl,rfl⟩
  | (refine⟨?_,rfl,rfl⟩;simp only[BC,C0,OQ];done)
theorem Jq {P:Program}{k:AK}{e:Env}{H:AH}{K1 K2 Kp1 Kp2:AV->AH->Prop}(hk:∀v H',K1 v H'->K2 v H') (hp:∀v H',Kp1 v H'->Kp2 v H') (ha:G1 P k e H K1 Kp1):G1 P k e H K2 Kp2:=by
 unfold G1 at ha ⊢
 split at ha
 ·unfold Gw at ha ⊢
  split at ha
  ·exact ha.mono fun o H' hq=>by cases o with
    | ret v=>exact hk _ _ hq
    | Bd v=>exact hp _ _ hq
  ·exact YC.mono ha fun o H' hq=>by cases o with
    | ret v=>exact hk _ _ hq
    | Bd v=>exact hp _ _ hq
  ·exact ha
 ·split at ha
  ·exact hp _ _ ha
  ·exact ha
 ·exact ha
 ·exact ha
 ·split at ha
  ·exact fun p hp=>hk _ _ (ha p hp)
  ·exact ha
 ·split at ha
  ·exact hk _ _ ha
  ·exact ha
theorem Zy {P:Program}{k:AK}{e:Env}{H:AH}{Kp K:AV->AH->Prop}(hp:k.plain=true) (h:Va P k e H Kp K):∃v H',A6 k e H=some (v,H')/\K v H':=by
 have h:VD.rec (motive:=fun _=>Prop) (fun x=>K (x.ev e) H) (fun t x=>K (.ifc t (x.ev e)) H) (fun f a b=>K (.fn f (Fy e a) (Fy e b)) H) (fun f args=>DV P (f.ev e) (Fy e args) H Kp K) (fun x=>CD (x.ev e) H Kp) False
  (AB (C0 e k) fun v=>K v H) (AG (C0 e k) H fun v=>K v H) (AO (C0 e k) H K) (fun x=>VG (x.ev e) H K) (JQ k):=h
 cases hc:JQ k with
 | mv x=>
  rw[hc]at h
  cases k<;>(try (cases hc;done))<;>(try (simp[JQ]at hc;done))
  simp only[JQ,VD.mv.injEq]at hc;subst hc
  exact⟨_,_,rfl,h⟩
 | ifc t x=>
  rw[hc]at h
  cases k<;>(try (cases hc;done))<;>(try (simp[JQ]at hc;done))
  simp only[JQ,VD.ifc.injEq]at hc;obtain⟨rfl,rfl⟩:=hc
  exact⟨_,_,rfl,h⟩
 | fnc f a b=>
  rw[hc]at h
  cases k<;>(try (cases hc;done))<;>(try (simp[JQ]at hc;done))
  simp only[JQ,VD.fnc.injEq]at hc;obtain⟨rfl,rfl,rfl⟩:=hc
  exact⟨_,_,by simp only[A6,AJ,<- GI],h⟩
 | call f args=>cases k<;>first | (cases hp;done) | (cases hc;done) | (simp[JQ]at hc;done)
 | Bd x=>cases k<;>first | (cases hp;done) | (cases hc;done) | (simp[JQ]at hc;done)
 | nx x=>cases k<;>first | (cases hp;done) | (cases hc;done) | (simp[JQ]at hc;done)
 | no=>rw[hc]at h;exact h.elim
 | pu=>
  rw[hc]at h
  obtain⟨v,h1,h2⟩:=Oy h
  rw[Pp e k hc]at h1
  exact⟨v,H,by simp only[A6,h1],h2⟩
 | rd=>
  rw[hc]at h
  obtain⟨v,h1,h2⟩:=La h
  obtain⟨g1,g2⟩:=L4 e H k hc
  rw[g1]at h1
  exact⟨v,H,by simp only[A6,g2,h1],h2⟩
 | ef=>
  rw[hc]at h
  obtain⟨v,H',h1,h2⟩:=Yk h
  obtain⟨g1,g2,g3⟩:=Pq e H k hc
  rw[g1]at h1
  exact⟨v,H',by simp only[A6,g2,g3,h1],h2⟩
theorem IL {P:Program}{k:AK}{e:Env}{H:AH}{Kp K:AV->AH->Prop}(h:Va P k e H Kp K):G1 P k e H K Kp/\k.B0=false:=by
 by_cases hp:k.plain=true
 ·obtain⟨v,H',h1,h2⟩:=Zy hp h
  exact⟨GR hp h1 h2,Tu hp⟩
 ·cases k<;>(try exact absurd rfl hp)
  case call f args=>
   refine⟨?_,rfl⟩
   have h:DV P (f.ev e) (Fy e args) H Kp K:=h
   simp only[DV,KL,GI,<- Ar]at h
   cases hfp:VO (f.ev e)with
   | no=>
    rw[hfp]at h
    have h:gW (f.ev e) (args.map (·.ev e)) H Kp K:=h
    unfold gW at h
    split at h
    ·rename_i l hl
     simp only[G1,Gw,hl];exact h
    ·exact h.elim
   | «at» g first cap=>
    rw[hfp]at h
    exact ML (SO hfp) rfl h (fun v H' hv=>hv) (fun v H' hv=>hv)
  case panic x=>
   refine⟨?_,rfl⟩
   have h:CD (x.ev e) H Kp:=h
   unfold CD at h
   split at h
   ·rename_i t v hx
    simp only[G1,hx];exact h
   ·exact h.elim
  case nextM x=>
   refine⟨?_,rfl⟩
   have h:VG (x.ev e) H K:=h
   unfold VG at h
   simp only[G1]
   cases hn:Jr (x.ev e) H with
   | none=>rw[hn]at h;exact h.elim
   | some l=>rw[hn]at h;exact h
  case defer f args=>exact(show False from h).elim
  case recover=>exact(show False from h).elim
theorem Oz {w:Bool}{v:AV}{A B:Prop}(h:TU w v A B):∃o,MN v=some o/\(o=some w->A)/\(o≠some w->B):=by
 unfold TU at h
 split at h
 ·rename_i b hb;exact⟨b,hb,h.1,h.2⟩
 ·exact h.elim
def Zm (P:Program) (Kp:AV->AH->Prop) (ops:List A_):Env->AH->PK->Prop:=
 List.rec (motive:=fun _=>Env->AH->PK->Prop) (fun e h K=>K e h) (fun o _ ih e h K=>Va P o.k e h Kp fun v h'=>ih (e.put o.dst v) h' K) ops
def mE (P:Program) (Kp:AV->AH->Prop) (g:Yh) (e:Env) (h:AH) (K:PK):Prop:=Prod.rec (motive:=fun _=>Prop) (fun g ops=>Option.rec (motive:=fun _=>Prop)
  (Bool.rec (motive:=fun _=>Prop) False (Zm P Kp ops e h K) (ops.all (fun o=>o.gd.isNone)))
  (fun p=>Prod.rec (motive:=fun _=>Prop) (fun s w=>Bool.rec (motive:=fun _=>Prop) False (DG w (e s) (Nn (K5 ops) e K) (fun J=>Zm P Kp ops e h (Fv (K5 ops) J)) (fun J=>Fv (K5 ops) J (fun _=>Bp) h)) (ops.all (EN s w))) p) g) g
def df (P:Program) (Kp:AV->AH->Prop) (gs:List Yh):Env->AH->PK->Prop:=
 List.rec (motive:=fun _=>Env->AH->PK->Prop) (fun e h K=>K e h) (fun g _ ih e h K=>mE P Kp g e h fun e' h'=>ih e' h' K) gs
def mC (P:Program) (Kp:AV->AH->Prop) (ops:List A_) (e:Env) (h:AH) (K:PK):Prop:=Bool.rec (motive:=fun _=>Prop) False (df P Kp (kj ops) e h K) (ops.all Rg)
theorem J_ {b:Bool}{x:Prop}(h:Bool.rec (motive:=fun _=>Prop) False x b):b=true/\x:=by
 cases b with
 | true=>exact⟨rfl,h⟩
 | false=>exact h.elim
section
variable {P:Program}{Kp:AV->AH->Prop}{K':Env->AH->Prop}{Kp':AV->Env->AH->Prop}
theorem Kn {s:Nat}{w:Bool}{K:PK}(h2:∀v h,Kp v h->∀e,e AM=.tup []->Kp' v e h):∀(ops:List A_) (e:Env) (h:AH),ops.all Rg=true->e AM=.tup [] ->
  (MN (e s)=some (some w)/\ops.all (EN s w)=true\/ops.all (fun o=>o.gd.isNone)=true)->Zm P Kp ops e h K ->
  (∀e' h',(∀t,t ∉ K5 ops->e' t=e t)->e' AM=.tup []->K e' h'->K' e' h')->CI P ops e h K' Kp'
 | [],e,h,_,hd,_,hr,h1=>h1 e h (fun _ _=>rfl) hd hr
 | o::ops,e,h,ho,hd,hg,hr,h1=>by
  have hr:Va P o.k e h Kp fun v h'=>Zm P Kp ops (e.put o.dst v) h' K:=hr
  simp only[Dz,AS]at ho hg
  have hd':∀v,(e.put o.dst v) AM=.tup []:=fun v=>by rw[B2 (EW ho.1)];exact hd
  have go:∀v h',(MN ((e.put o.dst v) s)=some (some w)/\ops.all (EN s w)=true\/ops.all (fun o=>o.gd.isNone)=true)->Zm P Kp ops (e.put o.dst v) h' K->CI P ops (e.put o.dst v) h' K' Kp':=fun v h' hg' hx=>
   Kn h2 ops (e.put o.dst v) h' ho.2 (hd' v) hg' hx fun e' h'' q1 q2 q3=>h1 e' h'' (fun t ht=>by
    have ht:t ∉ Jh o.dst (K5 ops):=ht
    rw[GQ,not_or]at ht
    rw[q1 t ht.2,B2 ht.1]) q2 q3
  have mono:(∀v,MN ((e.put o.dst v) s)=some (some w)/\ops.all (EN s w)=true\/ops.all (fun o=>o.gd.isNone)=true)->G1 P o.k e h (fun v H'=>CI P ops (e.put o.dst v) H' K' Kp') (fun v H'=>Kp' v e H'):=fun hg'=>
   Jq (fun v H' hx=>go v H' (hg' v) hx) (fun v H' hx=>h2 v H' hx e hd) (IL hr).1
  have nd:=(IL hr).2
  obtain⟨dst,k,gd⟩:=o
  rcases hg with⟨g1,g2,g3⟩ | ⟨g2,g3⟩
  ·obtain⟨rfl,g4⟩:=FY g2
   exact Wf g1 (fun _=>mono fun v=>.inl ⟨by rw[B2 g4];exact g1,g3⟩) (fun hn=>absurd rfl hn)
  ·simp only[HZ]at g2
   subst g2
   exact Fb nd (mono fun v=>.inr g3)
theorem PO {K:PK}(h1:∀e h,e AM=.tup []->K e h->K' e h) (h2:∀v h,Kp v h->∀e,e AM=.tup []->Kp' v e h) :
  ∀(gs:List Yh) (e:Env) (h:AH),(Wj gs).all Rg=true->e AM=.tup []->df P Kp gs e h K->CI P (Wj gs) e h K' Kp'
 | [],e,h,_,hd,hr=>h1 e h hd hr
 | (g,ops)::gs,e,h,ho,hd,hr=>by
  have hr:mE P Kp (g,ops) e h fun e' h'=>df P Kp gs e' h' K:=hr
  change (ops++Wj gs).all Rg=true at ho
  rw[Om,AS]at ho
  have rest:∀e' h',e' AM=.tup []->df P Kp gs e' h' K->CI P (Wj gs) e' h' K' Kp':=fun e' h' hd' hx=>PO h1 h2 gs e' h' ho.2 hd' hx
  refine Hz ops (Wj gs) e h ?_
  cases g with
  | none=>
   obtain⟨g1,g2⟩:=J_ hr
   exact Kn (s:=0) (w:=true) h2 ops e h ho.1 hd (.inr g1) g2 fun e' h' _ q2 q3=>rest e' h' q2 q3
  | some p=>
   obtain⟨s,w⟩:=p
   obtain⟨g1,g2⟩:=J_ hr
   obtain⟨b,k1,k2,k3⟩:=Oz g2
   by_cases hw:b=some w
   ·subst hw
    refine Kn h2 ops e h ho.1 hd (.inl ⟨k1,g1⟩) (k2 rfl) fun e' h' q1 q2 q3=>rest e' h' q2 ?_
    rw[D7]at q3
    have:Hp (K5 ops) e' e=e':=by
     funext t
     rw[Dg]
     split
     ·rfl
     ·rename_i hm;exact(q1 t hm).symm
    rw[this]at q3;exact q3
   ·have k3:=k3 hw
    simp only[D7]at k3
    refine QI hw ops e h g1 k1 (rest _ h ?_ k3)
    rw[Dg,if_neg (Sv ho.1)]
    exact hd
theorem VX {K:PK}(h1:∀e h,e AM=.tup []->K e h->K' e h) (h2:∀v h,Kp v h->∀e,e AM=.tup []->Kp' v e h)
  {ops:List A_} {e:Env} {h:AH} (hd:e AM=.tup []) (hr:mC P Kp ops e h K):CI P ops e h K' Kp':=by
 obtain⟨g1,g2⟩:=J_ hr
 have:=PO h1 h2 (kj ops) e h (by rw[Jc];exact g1) hd g2
 rw[Jc]at this;exact this
end
end
noncomputable section
variable [BQ] [YC]
def Lb (k:AK) (H:AH) (K:AV->AH->Prop):Prop:=Option.rec (motive:=fun _=>Prop) False (fun p=>Prod.rec (motive:=fun _=>Prop) (fun c f=>K (f H.next) (H.push (.cells c))) p) (FK k emp)
theorem TS {k:AK}{H:AH}{K:AV->AH->Prop}(h:Lb k H K):∃c f,FK k emp=some (c,f)/\K (f H.next) (H.push (.cells c)):=by
 unfold Lb at h
 cases hk:FK k emp with
 | none=>rw[hk]at h;exact h.elim
 | some p=>rw[hk]at h;exact⟨p.1,p.2,rfl,h⟩
theorem UN (e:Env) (k:AK) (hk:JQ k=.ef):FK (C0 e k) emp=FK k e:=by
 cases k<;>first
  | (cases hk;done)
  | rfl
  | (simp only[FK,C0,OQ];done)
def fZ (k:AK) (e:Env) (H:AH) (K:AV->AH->Prop):Prop:=
 (fun(_:Nat)=>VD.rec (motive:=fun _=>Prop) (fun x=>K (x.ev e) H) (fun t x=>K (.ifc t (x.ev e)) H) (fun f a b=>K (.fn f (Fy e a) (Fy e b)) H) (fun _ _=>False) (fun _=>False) False
  (AB (C0 e k) fun v=>K v H) (AG (C0 e k) H fun v=>K v H) (Lb (C0 e k) H K) (fun _=>False) (JQ k)) Qh
def Zw (P:Program) (Kp:AV->AH->Prop) (eff:Bool) (k:AK) (e:Env) (H:AH) (K:AV->AH->Prop):Prop:=
 (fun(_:Nat)=>Bool.rec (motive:=fun _=>Prop) (fZ k e H K) (Va P k e H Kp K) eff) Qh
theorem Xx {k:AK}{e:Env}{H:AH}{K:AV->AH->Prop}(h:fZ k e H K):(∃v,AJ k e=some v/\K v H)\/(∃v,AJ k e=none/\AY k e H=some v/\AY (C0 e k) emp H=some v/\K v H/\JQ k=.rd) \/
  (∃c f,AJ k e=none/\AY k e H=none/\FK k e=some (c,f)/\K (f H.next) (H.push (.cells c))):=by
 have h:VD.rec (motive:=fun _=>Prop) (fun x=>K (x.ev e) H) (fun t x=>K (.ifc t (x.ev e)) H) (fun f a b=>K (.fn f (Fy e a) (Fy e b)) H) (fun _ _=>False) (fun _=>False) False
  (AB (C0 e k) fun v=>K v H) (AG (C0 e k) H fun v=>K v H) (Lb (C0 e k) H K) (fun _=>False) (JQ k):=h
 cases hc:JQ k with
 | mv x=>
  rw[hc]at h
  cases k<;>(try (cases hc;done))<;>(try (simp[JQ]at hc;done))
  simp only[JQ,VD.mv.injEq]at hc;subst hc
  exact .inl ⟨_,rfl,h⟩
 | ifc t x=>
  rw[hc]at h
  cases k<;>(try (cases hc;done))<;>(try (simp[JQ]at hc;done))
  simp only[JQ,VD.ifc.injEq]at hc;obtain⟨rfl,rfl⟩:=hc
  exact .inl ⟨_,rfl,h⟩
 | fnc f a b=>
  rw[hc]at h
  cases k<;>(try (cases hc;done))<;>(try (simp[JQ]at hc;done))
  simp only[JQ,VD.fnc.injEq]at hc;obtain⟨rfl,rfl,rfl⟩:=hc
  exact .inl ⟨_,by simp only[AJ,<- GI],h⟩
 | call f args=>rw[hc]at h;exact h.elim
 | Bd x=>rw[hc]at h;exact h.elim
 | no=>rw[hc]at h;exact h.elim
 | nx x=>rw[hc]at h;exact h.elim
 | pu=>
  rw[hc]at h
  obtain⟨v,h1,h2⟩:=Oy h
  rw[Pp e k hc]at h1
  exact .inl ⟨v,h1,h2⟩
 | rd=>
  rw[hc]at h
  obtain⟨v,h1,h2⟩:=La h
  obtain⟨g1,g2⟩:=L4 e H k hc
  exact .inr (.inl ⟨v,g2,by rw[<- g1];exact h1,h1,h2,rfl⟩)
 | ef=>
  rw[hc]at h
  obtain⟨c,f,h1,h2⟩:=TS h
  obtain⟨_,g2,g3⟩:=Pq e H k hc
  rw[UN e k hc]at h1
  exact .inr (.inr ⟨c,f,g2,g3,h1,h2⟩)
def Tx (P:Program) (Kp:AV->AH->Prop) (its:List DX):Env->AH->PK->Prop:=
 List.rec (motive:=fun _=>Env->AH->PK->Prop) (fun e h K=>K e h) (fun it _ ih e h K=>Zw P Kp it.eff it.o.k e h fun v h'=>ih (e.put it.o.dst v) h' K) its
def fa (P:Program) (Kp:AV->AH->Prop) (g:Ns) (e:Env) (h:AH) (K:PK):Prop:=Prod.rec (motive:=fun _=>Prop) (fun g its=>Option.rec (motive:=fun _=>Prop)
  (Bool.rec (motive:=fun _=>Prop) False (Tx P Kp its e h K) (its.all (fun it=>it.o.gd.isNone)))
  (fun p=>Prod.rec (motive:=fun _=>Prop) (fun s w=>Bool.rec (motive:=fun _=>Prop) False (DG w (e s) (Nn (Gr its) e K) (fun J=>Tx P Kp its e h (Fv (Gr its) J)) (fun J=>Fv (Gr its) J (fun _=>Bp) h)) (its.all (fun it=>EN s w it.o))) p) g) g
def Wx (P:Program) (Kp:AV->AH->Prop) (gs:List Ns):Env->AH->PK->Prop:=
 List.rec (motive:=fun _=>Env->AH->PK->Prop) (fun e h K=>K e h) (fun g _ ih e h K=>fa P Kp g e h fun e' h'=>ih e' h' K) gs
section
variable {P:Program}{Kp:AV->AH->Prop}{ep:Env}{K':Env->AH->Prop}{Kp':AV->Env->AH->Prop}
theorem NG {i pre:Nat}{d:Option Nat}{k:AK}{eff:Bool}{l:List DX}{e:Env}{h:AH}{pend:Ez}{K:AV->AH->Prop}(hr:Zw P Kp eff k e h K)
  (h1:∀v h' pend',K v h'->A1 P ep K' Kp' l (e.put d v) h' pend') (h2:∀v h',Kp v h'->Kp' v ep h'):A1 P ep K' Kp' (⟨i,⟨d,k,none⟩,pre,[],eff⟩::l) e h pend:=by
 cases eff with
 | true=>exact T3 (Jq (fun v H' hk=>⟨trivial,h1 v H' pend hk⟩) (fun v H' hk=>h2 v H' hk) (IL hr).1)
 | false=>
  rcases Xx hr with⟨v,g1,g2⟩ | ⟨v,g0,g1,_,g2,_⟩ | ⟨c,f,g0,g1,g2,g3⟩
  ·exact JR g1 (h1 v h pend g2)
  ·exact PT g0 g1 (h1 v h _ g2)
  ·exact Wz g0 g1 g2 (h1 _ _ _ g3)
theorem JO {s:Nat}{w:Bool}{K:PK}{rest:List DX}(h2:∀v h,Kp v h->Kp' v ep h):∀(its:List DX) (e:Env) (h:AH) (pend:Ez),its.all VC=true->e AM=.tup [] ->
  (MN (e s)=some (some w)/\its.all (fun it=>EN s w it.o)=true\/its.all (fun it=>it.o.gd.isNone)=true)->Tx P Kp its e h K ->
  (∀e' h' pend',(∀t,t ∉ Gr its->e' t=e t)->e' AM=.tup []->K e' h'->A1 P ep K' Kp' rest e' h' pend')->A1 P ep K' Kp' (its++rest) e h pend
 | [],e,h,pend,_,hd,_,hr,h1=>h1 e h pend (fun _ _=>rfl) hd hr
 | it::its,e,h,pend,ho,hd,hg,hr,h1=>by
  have hr:Zw P Kp it.eff it.o.k e h fun v h'=>Tx P Kp its (e.put it.o.dst v) h' K:=hr
  simp only[Dz,AS]at ho hg
  obtain⟨ho1,ho2⟩:=ho
  simp only[VC,AS]at ho1
  have hd':∀v,(e.put it.o.dst v) AM=.tup []:=fun v=>by rw[B2 (EW ho1.1)];exact hd
  have go:∀v h' pend',(MN ((e.put it.o.dst v) s)=some (some w)/\its.all (fun it=>EN s w it.o)=true\/its.all (fun it=>it.o.gd.isNone)=true)->Tx P Kp its (e.put it.o.dst v) h' K->A1 P ep K' Kp' (its++rest) (e.put it.o.dst v) h' pend':=fun v h' pend' hg' hx=>
   JO h2 its (e.put it.o.dst v) h' pend' ho2 (hd' v) hg' hx fun e' h'' pend'' q1 q2 q3=>h1 e' h'' pend'' (fun t ht=>by
    have ht:t ∉ Jh it.o.dst (Gr its):=ht
    rw[GQ,not_or]at ht
    rw[q1 t ht.2,B2 ht.1]) q2 q3
  obtain⟨i,⟨dst,k,gd⟩,pre,fl,eff⟩:=it
  have hfl:=ho1.2
  simp only[List.isEmpty_iff]at hfl
  subst hfl
  rcases hg with⟨g1,g2,g3⟩ | ⟨g2,g3⟩
  ·obtain⟨hh,g4⟩:=FY g2
   simp only at hh g4
   subst hh
   exact T1 g1 (fun _=>NG hr (fun v h' pend' hx=>go v h' pend' (.inl ⟨by simp only;rw[B2 g4];exact g1,g3⟩) hx) h2) (fun hn=>absurd rfl hn)
  ·simp only[HZ]at g2
   subst g2
   exact NG hr (fun v h' pend' hx=>go v h' pend' (.inr g3) hx) h2
theorem NF {K:PK}(h1:∀e h,e AM=.tup []->K e h->K' e h) (h2:∀v h,Kp v h->Kp' v ep h) :
  ∀(gs:List Ns) (e:Env) (h:AH) (pend:Ez),(Lh gs).all VC=true->e AM=.tup []->Wx P Kp gs e h K->A1 P ep K' Kp' (Lh gs) e h pend
 | [],e,h,pend,_,hd,hr=>h1 e h hd hr
 | (g,its)::gs,e,h,pend,ho,hd,hr=>by
  have hr:fa P Kp (g,its) e h fun e' h'=>Wx P Kp gs e' h' K:=hr
  change (its++Lh gs).all VC=true at ho
  rw[Om,AS]at ho
  have rest:∀e' h' pend',e' AM=.tup []->Wx P Kp gs e' h' K->A1 P ep K' Kp' (Lh gs) e' h' pend':=fun e' h' pend' hd' hx=>NF h1 h2 gs e' h' pend' ho.2 hd' hx
  show A1 P ep K' Kp' (its++Lh gs) e h pend
  cases g with
  | none=>
   obtain⟨g1,g2⟩:=J_ hr
   exact JO (s:=0) (w:=true) h2 its e h pend ho.1 hd (.inr g1) g2 fun e' h' pend' _ q2 q3=>rest e' h' pend' q2 q3
  | some p=>
   obtain⟨s,w⟩:=p
   obtain⟨g1,g2⟩:=J_ hr
   obtain⟨b,k1,k2,k3⟩:=Oz g2
   by_cases hw:b=some w
   ·subst hw
    refine JO h2 its e h pend ho.1 hd (.inl ⟨k1,g1⟩) (k2 rfl) fun e' h' pend' q1 q2 q3=>rest e' h' pend' q2 ?_
    rw[D7]at q3
    have:Hp (Gr its) e' e=e':=by
     funext t
     rw[Dg]
     split
     ·rfl
     ·rename_i hm;exact(q1 t hm).symm
    rw[this]at q3;exact q3
   ·have k3:=k3 hw
    simp only[D7]at k3
    refine My hw its e h pend g1 k1 (rest _ h _ ?_ k3)
    rw[Dg,if_neg (QC ho.1)]
    exact hd
end
abbrev cN:=List (Nat × (AH->Prop))
def Xy (fl:List Nat) (pd:cN) (h:AH):Prop:=List.rec (motive:=fun _=>Prop) True (fun p _ ih=>Bool.rec (motive:=fun _=>Prop) ih (p.2 h/\ih) (UD p.1 fl)) pd
theorem Wy {fl:List Nat}{h:AH}:∀{pd:cN},Xy fl pd h->∀p∈pd,p.1∈fl->p.2 h
 | p::pd,hk,q,hq,hf=>by
  have hk:Bool.rec (motive:=fun _=>Prop) (Xy fl pd h) (p.2 h/\Xy fl pd h) (UD p.1 fl):=hk
  cases hq with
  | head=>rw[Sf hf]at hk;exact hk.1
  | tail _ hq=>
   refine Wy (pd:=pd) ?_ q hq hf
   cases hm:UD p.1 fl with
   | false=>rw[hm]at hk;exact hk
   | true=>rw[hm]at hk;exact hk.2
def IC (pd:cN) (pend:Ez):Prop:=∀i p,pend.lookup i=some p->∃b,(i,b)∈pd/\∀x,b x->p x
theorem IC.more {pd:cN}{pend:Ez}(h:IC pd pend) (q:Nat × (AH->Prop)):IC (q::pd) pend:=fun i p hi=>let ⟨b,h1,h2⟩:=h i p hi;⟨b,.tail _ h1,h2⟩
theorem IC.cons {pd:cN}{pend:Ez}(h:IC pd pend){i:Nat}{b:AH->Prop}{p:AH->Prop}(hp:∀x,b x->p x):IC ((i,b)::pd) ((i,p)::pend):=fun j q hj=>by
 rw[List.lookup_cons]at hj
 by_cases hij:(j==i)=true
 ·rw[hij]at hj
  simp only[AD]at hj
  subst hj
  have:j=i:=by simpa using hij
  subst this
  exact⟨b,.head _,hp⟩
 ·simp only[Rz]at hij
  rw[hij]at hj
  obtain⟨b',h1,h2⟩:=h j q hj
  exact⟨b',.tail _ h1,h2⟩
theorem IC.Ul {pd:cN}{pend:Ez}(hp:IC pd pend){h:AH}:∀{fl fl':List Nat},(∀i∈fl',i∈fl)->Xy fl pd h->Ul fl' pend h
 | _,[],_,_=>trivial
 | fl,i::is,hs,hk=>by
  refine⟨?_,IC.Ul hp (fun j hj=>hs j (.tail _ hj)) hk⟩
  cases hl:pend.lookup i with
  | none=>trivial
  | some p=>
   obtain⟨b,h1,h2⟩:=hp i p hl
   exact h2 h (Wy hk _ h1 (hs i (.head _)))
abbrev PG:=AV->(AH->Prop)->AH->Prop
def LZ:AH->Prop:=fun _=>True
def Am (k:AK) (v:AV):AH->Prop:=fun H=>AY k emp H=some v
def Yi (k:AK) (r:Nat):AH->Prop:=fun H=>∃c f,FK k emp=some (c,f)/\H.get r=some (.cells c)
def qi (w:Bool) (v:AV) (h:AH) (J:PG) (A:PG->Prop):Prop:=TU w v (A J) (J Bp LZ h)
def Tv (P:Program) (Kp:AV->AH->Prop) (eff:Bool) (fl:List Nat) (pd:cN) (k:AK) (e:Env) (H:AH) (K:PG):Prop:=
 (fun(_:Nat)=>Bool.rec (motive:=fun _=>Prop)
  (VD.rec (motive:=fun _=>Prop) (fun x=>K (x.ev e) LZ H) (fun t x=>K (.ifc t (x.ev e)) LZ H) (fun f a b=>K (.fn f (Fy e a) (Fy e b)) LZ H) (fun _ _=>False) (fun _=>False) False
   (AB (C0 e k) fun v=>K v LZ H) (AG (C0 e k) H fun v=>K v (Am (C0 e k) v) H) (Lb (C0 e k) H fun v H'=>K v (Yi (C0 e k) H.next) H') (fun _=>False) (JQ k))
  (Va P k e H Kp fun v H'=>Xy fl pd H'/\K v LZ H') eff) Qh
def Q_ (P:Program) (Kp:AV->AH->Prop) (l:List DX):Env->AH->cN->PK->Prop:=
 (fun(_:Nat)=>List.rec (motive:=fun _=>Env->AH->cN->PK->Prop) (fun e h _ K=>K e h) (fun it _ ih e h pd K=>
  Option.rec (motive:=fun _=>Prop) (Tv P Kp it.eff it.fl pd it.o.k e h fun v c h'=>ih (e.put it.o.dst v) h' ((it.i,c)::pd) K)
   (fun p=>qi p.2 (e p.1) h (fun v c h'=>ih (e.put it.o.dst v) h' ((it.i,c)::pd) K) fun J=>Tv P Kp it.eff it.fl pd it.o.k e h J) it.o.gd) l) Qh
section
variable {P:Program}{Kp:AV->AH->Prop}{ep:Env}{K':Env->AH->Prop}{Kp':AV->Env->AH->Prop}
theorem ND {i pre:Nat}{d:Option Nat}{k:AK}{eff:Bool}{fl:List Nat}{pd:cN}{l:List DX}{e:Env}{h:AH}{pend:Ez}(hp:IC pd pend){K:PG}(hr:Tv P Kp eff fl pd k e h K)
  (h1:∀v c h' pend',IC ((i,c)::pd) pend'->K v c h'->A1 P ep K' Kp' l (e.put d v) h' pend') (h2:∀v h',Kp v h'->Kp' v ep h'):A1 P ep K' Kp' (⟨i,⟨d,k,none⟩,pre,fl,eff⟩::l) e h pend:=by
 cases eff with
 | true=>
  have hr:Va P k e h Kp fun v H'=>Xy fl pd H'/\K v LZ H':=hr
  exact T3 (Jq (fun v H' hk=>⟨hp.Ul (fun _ hi=>hi) hk.1,h1 v LZ H' pend (hp.more _) hk.2⟩) (fun v H' hk=>h2 v H' hk) (IL hr).1)
 | false=>
  have hr:VD.rec (motive:=fun _=>Prop) (fun x=>K (x.ev e) LZ h) (fun t x=>K (.ifc t (x.ev e)) LZ h) (fun f a b=>K (.fn f (Fy e a) (Fy e b)) LZ h) (fun _ _=>False) (fun _=>False) False
   (AB (C0 e k) fun v=>K v LZ h) (AG (C0 e k) h fun v=>K v (Am (C0 e k) v) h) (Lb (C0 e k) h fun v H'=>K v (Yi (C0 e k) h.next) H') (fun _=>False) (JQ k):=hr
  cases hc:JQ k with
  | mv x=>
   rw[hc]at hr
   cases k<;>(try (cases hc;done))<;>(try (simp[JQ]at hc;done))
   simp only[JQ,VD.mv.injEq]at hc;subst hc
   exact JR rfl (h1 _ _ _ _ (hp.more _) hr)
  | ifc t x=>
   rw[hc]at hr
   cases k<;>(try (cases hc;done))<;>(try (simp[JQ]at hc;done))
   simp only[JQ,VD.ifc.injEq]at hc;obtain⟨rfl,rfl⟩:=hc
   exact JR rfl (h1 _ _ _ _ (hp.more _) hr)
  | fnc f a b=>
   rw[hc]at hr
   cases k<;>(try (cases hc;done))<;>(try (simp[JQ]at hc;done))
   simp only[JQ,VD.fnc.injEq]at hc;obtain⟨rfl,rfl,rfl⟩:=hc
   exact JR (by simp only[AJ,<- GI]) (h1 _ _ _ _ (hp.more _) hr)
  | call f args=>rw[hc]at hr;exact hr.elim
  | Bd x=>rw[hc]at hr;exact hr.elim
  | no=>rw[hc]at hr;exact hr.elim
  | nx x=>rw[hc]at hr;exact hr.elim
  | pu=>
   rw[hc]at hr
   obtain⟨v,g1,g2⟩:=Oy hr
   rw[Pp e k hc]at g1
   exact JR g1 (h1 v _ _ _ (hp.more _) g2)
  | rd=>
   rw[hc]at hr
   obtain⟨v,g1,g2⟩:=La hr
   obtain⟨q1,q2⟩:=L4 e h k hc
   rw[q1]at g1
   exact PT q2 g1 (h1 v _ h _ (hp.cons fun x hx=>by rw[<- (L4 e x k hc).1];exact hx) g2)
  | ef=>
   rw[hc]at hr
   obtain⟨c,f,g1,g2⟩:=TS hr
   obtain⟨_,q2,q3⟩:=Pq e h k hc
   have g1':=g1
   rw[UN e k hc]at g1'
   refine Wz q2 q3 g1' (h1 _ _ _ _ (hp.cons fun x hx=>?_) g2)
   obtain⟨c',f',k1,k2⟩:=hx
   rw[g1]at k1;cases k1;exact k2
theorem NC {K:PK}(h1:∀e h,e AM=.tup []->K e h->K' e h) (h2:∀v h,Kp v h->Kp' v ep h) :
  ∀(l:List DX) (e:Env) (h:AH) (pd:cN) (pend:Ez),IC pd pend->l.all (fun it=>Rg it.o)=true->e AM=.tup []->Q_ P Kp l e h pd K->A1 P ep K' Kp' l e h pend
 | [],e,h,pd,pend,_,_,hd,hr=>h1 e h hd hr
 | ⟨i,⟨dst,k,gd⟩,pre,fl,eff⟩::l,e,h,pd,pend,hp,ho,hd,hr=>by
  simp only[Dz,AS]at ho
  have go:∀v c h' pend',IC ((i,c)::pd) pend'->Q_ P Kp l (e.put dst v) h' ((i,c)::pd) K->A1 P ep K' Kp' l (e.put dst v) h' pend':=fun v c h' pend' hp' hx=>
   NC h1 h2 l _ h' _ pend' hp' ho.2 (by rw[B2 (EW ho.1)];exact hd) hx
  cases gd with
  | none=>
   have hr:Tv P Kp eff fl pd k e h fun v c h'=>Q_ P Kp l (e.put dst v) h' ((i,c)::pd) K:=hr
   exact ND hp hr (fun v c h' pend' q1 q2=>go v c h' pend' q1 q2) h2
  | some p=>
   obtain⟨s,w⟩:=p
   have hr:TU w (e s) (Tv P Kp eff fl pd k e h fun v c h'=>Q_ P Kp l (e.put dst v) h' ((i,c)::pd) K) (Q_ P Kp l (e.put dst Bp) h ((i,LZ)::pd) K):=hr
   obtain⟨b,k1,k2,k3⟩:=Oz hr
   exact T1 k1 (fun hw=>ND hp (k2 hw) (fun v c h' pend' q1 q2=>go v c h' pend' q1 q2) h2) (fun hw=>go Bp LZ h pend (hp.more _) (k3 hw))
end
def Zv (P:Program) (Kp:AV->AH->Prop) (plan:List DX) (e:Env) (h:AH) (K:PK):Prop:=
 Bool.rec (motive:=fun _=>Prop) (Bool.rec (motive:=fun _=>Prop) False (Q_ P Kp plan e h [] K) (plan.all (fun it=>Rg it.o))) (Wx P Kp (YG plan) e h K) (plan.all VC)
theorem Tz {P:Program}{Kp:AV->AH->Prop}{K':Env->AH->Prop}{Kp':AV->Env->AH->Prop}{K:PK}(h1:∀e h,e AM=.tup []->K e h->K' e h) (h2:∀v h,Kp v h->∀e,e AM=.tup []->Kp' v e h)
  {plan:List DX} {e:Env} {h:AH} (hd:e AM=.tup []) (hr:Zv P Kp plan e h K):A1 P (Is plan e) K' Kp' plan e h []:=by
 unfold Zv at hr
 cases hf:plan.all VC with
 | true=>
  rw[hf]at hr
  have hd':plan.all (fun it=>Rg it.o)=true:=by
   rw[CW]at hf ⊢
   intro x hx
   have:=hf x hx
   simp only[VC,AS]at this
   exact this.1
  have:=NF (ep:=Is plan e) (Kp':=Kp') h1 (fun v h hv=>h2 v h hv _ (by rw[KM hd'];exact hd)) (YG plan) e h [] (by rw[Hw];exact hf) hd hr
  rw[Hw]at this;exact this
 | false=>
  rw[hf]at hr
  obtain⟨g1,g2⟩:=J_ hr
  exact NC h1 (fun v h hv=>h2 v h hv _ (by rw[KM g1];exact hd)) plan e h [] [] (fun i p hi=>by cases hi) g1 hd g2
end
noncomputable section
variable [BQ]
mutual
def cU (k:Nat):AV->Bool
 | .unk=>true | .bool _=>true | .int _ _=>true | .str _=>true | .nilp=>true | .nils=>true | .nilm=>true | .nilf=>true | .nili=>true
 | .ptr r _=>Nat.ble (Nat.succ r) k
 | .sl r _ _ _=>Nat.ble (Nat.succ r) k
 | .mp r=>Nat.ble (Nat.succ r) k
 | .pim l _=>Nk k l
 | .sim l _ _=>Nk k l
 | .fn _ a b=>Nk k a&&Nk k b
 | .ifc _ x=>cU k x
 | .agg l=>Nk k l
 | .tup l=>Nk k l
def Nk (k:Nat):List AV->Bool
 | []=>true
 | x::l=>cU k x&&Nk k l
end
mutual
theorem Mb {k:Nat}:∀x,cU k x=true->Sc k x
 | .unk,_=>.unk | .bool _,_=>.bool _ | .int _ _,_=>.int _ _ | .str _,_=>.str _ | .nilp,_=>.nilp | .nils,_=>.nils | .nilm,_=>.nilm | .nilf,_=>.nilf | .nili,_=>.nili
 | .ptr r _,h=>.ptr (Aa h)
 | .sl r _ _ _,h=>.sl (Aa h)
 | .mp r,h=>.mp (Aa h)
 | .pim l _,h=>.pim (DK l (by simpa[cU]using h))
 | .sim l _ _,h=>.sim (DK l (by simpa[cU]using h))
 | .fn _ a b,h=>by
  simp only[cU,AS]at h
  exact .fn (DK a h.1) (DK b h.2)
 | .ifc _ x,h=>.ifc (Mb x (by simpa[cU]using h))
 | .agg l,h=>.agg (DK l (by simpa[cU]using h))
 | .tup l,h=>.tup (DK l (by simpa[cU]using h))
theorem DK {k:Nat}:∀l,Nk k l=true->Gy k l
 | [],_=>.nil
 | x::l,h=>by
  simp only[Nk,AS]at h
  exact .cons (Mb x h.1) (DK l h.2)
end
mutual
def eh (h:KH) (k:Nat):AV->AV->Bool
 | y,x=>(EP x y&&cU k y)||(match y with
  | .unk=>true
  | .pim l' o=>(match x with
   | .ptr r o0=>Nat.ble k r&&Nat.beq o0 o&&(match Bx h r with | some l=>Jd h k l' l | none=>false)
   | _=>false)
  | .sim l' n ex=>(match x with
   | .sl r o n0 lim=>Nat.ble k r&&Nat.beq n0 n&&(match Bx h r with | some l=>Nat.ble (o+l'.length) l.length&&Jd h k l' ((l.drop o).take l'.length) | none=>false)&&(!(Nat.beq n 0)||l'.isEmpty)&&(!ex||RM lim (.ex n))
   | _=>false)
  | .ifc t y=>(match x with
   | .ifc t' x=>Nat.beq t' t&&eh h k y x
   | _=>false)
  | .agg l'=>(match x with
   | .agg l=>Jd h k l' l
   | _=>false)
  | .tup l'=>(match x with
   | .tup l=>Jd h k l' l
   | _=>false)
  | _=>false)
def Jd (h:KH) (k:Nat):List AV->List AV->Bool
 | [],l=>(match l with
  | []=>true
  | _=>false)
 | y::l',l=>(match l with
  | x::l=>eh h k y x&&Jd h k l' l
  | []=>false)
end
mutual
theorem P2 {h:KH}{k:Nat}:∀(y x:AV),eh h k y x=true->F6 (Ah h) k x y:=by
 intro y x hh
 unfold eh at hh
 simp only[Ec,AS]at hh
 rcases hh with⟨h1,h2⟩ | hh
 ·rw[CA _ _ h1];exact .low (Mb _ h2)
 ·cases y with
  | unk=>exact .unk x
  | pim l' o=>
   cases x<;>try (cases hh;done)
   rename_i r o0
   simp only[AS,E_]at hh
   obtain⟨⟨h1,rfl⟩,h3⟩:=hh
   split at h3
   ·rename_i l hl
    rw[Bn]at hl
    exact .ptr (Aa h1) hl (Eu l' l h3)
   ·cases h3
  | sim l' n ex=>
   cases x<;>try (cases hh;done)
   rename_i r o n0 lim
   simp only[AS,E_,Ec,E5]at hh
   obtain⟨⟨⟨⟨h1,rfl⟩,h3⟩,h4⟩,h5⟩:=hh
   split at h3
   ·rename_i l hl
    rw[Bn]at hl
    simp only[AS]at h3
    refine .sl (Aa h1) hl (Aa h3.1) (Eu l' _ h3.2) (fun hn=>?_) (fun hx=>?_)
    ·subst hn
     rcases h4 with h4 | h4
     ·cases h4
     ·simpa using h4
    ·subst hx
     rcases h5 with h5 | h5
     ·cases h5
     ·exact HH h5
   ·cases h3
  | ifc t y=>
   cases x<;>try (cases hh;done)
   simp only[AS,E_]at hh
   obtain⟨rfl,h2⟩:=hh
   exact .ifc (P2 y _ h2)
  | agg l'=>
   cases x<;>try (cases hh;done)
   exact .agg (Eu l' _ hh)
  | tup l'=>
   cases x<;>try (cases hh;done)
   exact .tup (Eu l' _ hh)
  | _=>cases hh
theorem Eu {h:KH}{k:Nat}:∀(l' l:List AV),Jd h k l' l=true->CF (Ah h) k l l'
 | [],l,hh=>by
  cases l with
  | nil=>exact .nil
  | cons _ _=>simp[Jd]at hh
 | y::l',l,hh=>by
  cases l with
  | nil=>simp[Jd]at hh
  | cons x l=>
   simp only[Jd,AS]at hh
   exact .cons (P2 y x hh.1) (Eu l' l hh.2)
end
end
section
def M3 (P:Program) (g:FuncId) (caps:List AV) (H:AH) (N:Nat) (X:Nat->AH->List AV->Prop) (Cl:(Nat->AH->Prop)->Prop) (G:AH->AH->Prop):Prop:=
 Enters P g/\∀(Z:Zt) (σ:Sg) (w:World) (vc:List Value) (l:Nat) (I:Nat->AH->Prop),WR Z σ H w->CC Z σ caps vc->Cl I->I 0 H ->
  (∀(i:Nat) (x:List AV) (Hi:AH),i<N->X i Hi x->I i Hi->∀(Z':Zt) (σ':Sg) (W:World) (vs:List Value),CO Z Z'->Nw σ H.next σ'->H.next<=Hi.next->WR Z' σ' Hi W->CC Z' σ' x vs ->
   YieldAt Fence.wide 0 P l vs.toArray W fun y W'=>∃Z'' σ'' H'',CO Z' Z''/\Nw σ' Hi.next σ''/\Hi.next<=H''.next/\WR Z'' σ'' H'' W'/\y=.returned (.bool true)/\I (i+1) H''/\G Hi H'') ->
  Calls P g (#[.func (.yield l) #[] #[]]++vc.toArray) w fun y W=>∃v Z' σ' H',y=.returned v/\CO Z Z'/\Nw σ H.next σ'/\H.next<=H'.next/\WR Z' σ' H' W/\I N H'
section
variable {P:Program}
theorem VU {n:Nat}(hn:n<=AM){g:Operand}{g':AE}(hg:A9 g=some g'){ps:Array Tmp}(hps:∀p∈ps.toList,p<n) {zs bd:Code}{Z:Zt}{σ:Sg}{H:AH}{e:Env}{a:Act}{w:World}{Z0:Zt}{σ0:Sg}{m:Nat}{Q:Ex->Env->AH->Prop}
  (hO:HM Z0) (hZ:CO Z0 Z) (hS:Nw σ0 m σ) (hm:m<=H.next) (hW:WR Z σ H w) (he:FR Z σ n e a) {f:FuncId} {caps:List AV} {N:Nat} {X:Nat->AH->List AV->Prop} {Cl:(Nat->AH->Prop)->Prop} {G:AH->AH->Prop} {ds:List AV} {I:Nat->AH->Prop}
  (h1:g'.ev e=.fn (.func f) [] caps) (h2:e AM=.tup ds) (h3:M3 P f caps H N X Cl G) (hCl:Cl I) (h4:I 0 H)
  (h5:∀i x Hi,i<N->X i Hi x->I i Hi->H.next<=Hi.next->x.length=ps.size/\∃Qa:Nat->Env->AH->Prop,
   (∀l Z' σ' a1 W,CO Z0 Z'->Nw σ0 m σ'->m<=Hi.next->WR Z' σ' Hi W->FR Z' σ' n (SV e ps.toList x) a1->zs.wpIn (RF (some l)) 0 P (QR Z' σ' n Hi.next fun y e' H'=>y=.normal/\Qa l e' H') a1 W) /\
   (∀l e' H' Z' σ' a1 W,Qa l e' H'->CO Z0 Z'->Nw σ0 m σ'->m<=H'.next->WR Z' σ' H' W->FR Z' σ' n e' a1->bd.wpIn (RF (some l)) 0 P (QR Z' σ' n H'.next fun y _ H''=>y=.normal/\I (i+1) H''/\G Hi H'') a1 W))
  (h6:∀Hn,I N Hn->Q .normal (e.set AM (.tup (.nili::ds))) Hn):(Code.rangeFunc g ps zs bd).wpIn (RF none) 0 P (QR Z0 σ0 n m Q) a w:=by
 have hfv:=AI he.er hg
 rw[h1]at hfv
 obtain⟨vf,vc,e1,e2,e3⟩:=hfv.Mn
 have e2:vf=#[]:=by
  generalize hl:vf.toList=l2 at e2
  cases e2;exact DE (by simpa using hl)
 subst e2
 refine wpIn_rangeFunc ?_
 intro fn _
 obtain⟨L1,z1⟩:=hW.lay (.deferred (some []))
 obtain⟨L2,z2⟩:=L1.lay (.loop { state:=.ready,pending:=none,fn,tmps:=a.tmps,params:=ps,assign:=zs,body:=bd,defers:=w.heap.size })
 have hsz:(w.alloc (.deferred (some []))).heap.size=w.heap.size+1:=World.size_alloc ..
 rw[hsz]at L2 z2
 generalize hrec:(.loop { state:=.ready,pending:=none,fn,tmps:=a.tmps,params:=ps,assign:=zs,body:=bd,defers:=w.heap.size }:Obj)=rec at L2 z2
 generalize hW1:(w.alloc (.deferred (some []))).alloc rec=W1 at L2
 refine⟨w.heap.size+1,[{ target:=.collected w.heap.size,args:=#[] }],W1,{ target:=.fn (.func f) vc,args:=#[.func (.yield (w.heap.size+1)) #[] #[]] },W1,f,#[.func (.yield (w.heap.size+1)) #[] #[]]++vc,W1,?_,?_,fun _ _=>trivial,?_,He,?_⟩
 ·rw[<- hW1,<- hrec];exact run_enterLoop_outer _ _ _ _ _
 ·simp only[resolve,e1]
  simp[go_sem]
 ·simp[invoke,go_sem,EH h3.1]
 have zz:=z1.trans z2
 have hl0:((Z.at w.heap.size (.deferred (some []))).at (w.heap.size+1) rec) (w.heap.size+1)=some rec:=Zt.FJ _ _ _
 have hd0:((Z.at w.heap.size (.deferred (some []))).at (w.heap.size+1) rec) w.heap.size=some (.deferred (some [])):=by
  rw[Zt.F3 _ _ (by omega),Zt.FJ]
 generalize hZ1:(Z.at w.heap.size (.deferred (some []))).at (w.heap.size+1) rec=Z1 at L2 zz hl0 hd0
 have hZ0l:Z0 (w.heap.size+1)=none:=by
  cases hq:Z0 (w.heap.size+1)with
  | none=>rfl
  | some x=>have:=(Aj.1 (hW.z _ _ (hZ.le _ _ hq))).1;omega
 have hfr:=he.mono zz (fun _ _ h=>h)
 have key:=h3.2 Z1 σ W1 vc.toList (w.heap.size+1) I L2 (e3.mono zz (fun _ _ h=>h)) hCl h4 ?_
 ·have ev:vc.toList.toArray=vc:=by simp
  rw[ev]at key
  refine IW (key.mono ?_)
  rintro y W2 ⟨v,Z2,σ2,H2,rfl,k1,k2,k3,k4,k5⟩
  have hl2:=k1.le _ _ hl0
  have hlw:=k4.z _ _ hl2
  rw[<- hrec]at hlw hl2
  refine⟨none,_,run_endLoop hlw (by simp),?_⟩
  have t2:=k4.KR hl2 GO (.loop { state:=.exhausted,pending:=none,fn,tmps:=a.tmps,params:=ps,assign:=zs,body:=bd,defers:=w.heap.size })
  refine⟨_,σ2,.normal,e.set AM (.tup (.nili::ds)),H2,Zt.Rk _ (hZ.trans (zz.trans k1)) (.inl hZ0l),hS.trans k2 hm,Cq hm k3,t2,?_,rfl,h6 H2 k5⟩
  have f2:=(hfr.mono k1 (L2.sle k2)).KR hl2 (.loop { state:=.exhausted,pending:=none,fn,tmps:=a.tmps,params:=ps,assign:=zs,body:=bd,defers:=w.heap.size })
  obtain⟨dl,d1,d2⟩:=f2.ds
  rw[h2]at d1
  simp only[AV.tup.injEq]at d1;subst d1
  refine⟨fun t ht=>?_,⟨_,Env.Fu ..,?_⟩,f2.sz⟩
  ·rw[Env.Gf _ _ (by omega)];exact f2.er t ht
  ·refine .mark ?_ (fun ho=>?_) (fun d hd ht=>?_) d2
   ·rw[Zt.F3 _ _ (by omega)]
    exact k1.le _ _ hd0
   ·have ho:Z2.old w.heap.size:=ho
    rw[k1.old,zz.old]at ho
    obtain⟨x,hx⟩:=(hO.le hZ) _ ho
    have:=(Aj.1 (hW.z _ _ hx)).1
    omega
   ·obtain⟨dl0,q1,q2⟩:=he.ds
    have hx:=q2.marks d hd ht
    have:=(Aj.1 (hW.z _ _ hx)).1
    omega
 ·intro i x Hi hi hx hI Z' σ' W vs q1 q2 q3 q4 q5
  obtain⟨r1,Qa,r2,r3⟩:=h5 i x Hi hi hx hI q3
  have hl':=q1.le _ _ hl0
  rw[<- hrec]at hl'
  have hZ0':CO Z0 Z':=hZ.trans (zz.trans q1)
  have hS0':Nw σ0 m σ':=hS.trans q2 hm
  have hm0:m<=Hi.next:=Cq hm q3
  exact NA (J:=fun H''=>I (i+1) H''/\G Hi H'') hn hps r1 q4 q5 (hfr.mono q1 (L2.sle q2)) hl' (fun a1 f1=>r2 _ Z' σ' a1 W hZ0' hS0' hm0 q4 f1)
   (fun e' H' Z3 σ3 a1 w1 hh p1 p2 p3 p4 p5=>r3 _ e' H' Z3 σ3 a1 w1 hh ((Zt.Rk _ hZ0' (.inl hZ0l)).trans p1) (hS0'.trans p2 hm0) (Cq hm0 p3) p4 p5)
end
section
variable [YC] {ro:Option Nat}{P:Program}{n:Nat}{Q Q':Ex->Env->AH->Prop}{e e':Env}{H H':AH}{c x y:Code}{id:Nat}
theorem CQ.lf {g:Operand}{g':AE}{ps:Array Tmp}{zs bd:Code}{f:FuncId}{caps:List AV}{N:Nat}{X:Nat->AH->List AV->Prop}{Cl:(Nat->AH->Prop)->Prop}{G:AH->AH->Prop}{ds:List AV}{I:Nat->AH->Prop}(hn:n<=AM) (hg:A9 g=some g') (hps:∀p∈ps.toList,p<n)
  (h1:g'.ev e=.fn (.func f) [] caps) (h2:e AM=.tup ds) (h3:M3 P f caps H N X Cl G) (hCl:Cl I) (h4:I 0 H)
  (h5:∀i x Hi,i<N->X i Hi x->I i Hi->H.next<=Hi.next->x.length=ps.size/\∀l,CQ (some l) P n zs (fun y e' H'=>y=.normal/\CQ (some l) P n bd (fun z _ H''=>z=.normal/\I (i+1) H''/\G Hi H'') e' H') (SV e ps.toList x) Hi)
  (h6:∀Hn,I N Hn->Q .normal (e.set AM (.tup (.nili::ds))) Hn):CQ none P n (.rangeFunc g ps zs bd) Q e H:=by
 intro Z σ a w Z0 σ0 m hO hY hZ hS hm hW he
 refine VU hn hg hps hO hZ hS hm hW he h1 h2 h3 hCl h4 (fun i x Hi hi hx hI hle=>?_) h6
 obtain⟨r1,r2⟩:=h5 i x Hi hi hx hI hle
 exact⟨r1,fun l e' H'=>CQ (some l) P n bd (fun z _ H''=>z=.normal/\I (i+1) H''/\G Hi H'') e' H',fun l Z' σ' a1 W q1 q2 q3 q4 q5=>r2 l Z' σ' a1 W Z' σ' Hi.next (hO.le q1) (hY.up q1 q2 q3) (CO.refl _) (Nw.refl _ _) (A4 _) q4 q5,
  fun l e' H' Z' σ' a1 W hh q1 q2 q3 q4 q5=>hh Z' σ' a1 W Z' σ' H'.next (hO.le q1) (hY.up q1 q2 q3) (CO.refl _) (Nw.refl _ _) (A4 _) q4 q5⟩
end
section
variable {P:Program}{n:Nat}{H:AH}
 @[reducible] def VF (l N:Nat) (X:Nat->AH->List AV->Prop) (G:AH->AH->Prop) (I:Nat->AH->Prop):YC where
 y:=fun l' args H post=>l'=l/\∃i,i<N/\X i H args/\I i H/\∀H',H.next<=H'.next->I (i+1) H'->G H H'->post (.ret (.bool true)) H'
 mono:=fun⟨h1,i,h2,h2',h3,h4⟩ hp=>⟨h1,i,h2,h2',h3,fun H' a b c=>hp _ _ (h4 H' a b c)⟩
theorem MT.sL {g:FuncId}{ac:Ay}{ars:List CZ}(hF:MT P g n ac ars){caps:List AV}{N:Nat}{X:Nat->AH->List AV->Prop}{Cl:(Nat->AH->Prop)->Prop}{G:AH->AH->Prop}(hlen:caps.length+1<=n)
  (h:∀l I,Cl I->I 0 H->∀c hs,comp P hs n c=some ac->@DS (VF l N X G I) P n c (fun x e H'=>(∃ds,e AM=.tup ds/\∀x∈ds,x=.nili)/\F1 ars (fun out H'=>(∃v,out=.ret v)/\I N H') x e H') (CH (.fn (.yield l) [] []::caps)) H):M3 P g caps H N X Cl G:=by
 obtain⟨fn,c,hs,hf,Dh,hb,hn,hc,hr⟩:=hF.ex
 subst hn
 refine⟨⟨fn,hf,Dh,by rw[hb];rfl⟩,fun Z σ w vc l I hW hv hCl hI hY=>?_⟩
 have c1:∀(Z:Zt) (o:Nat->Prop),Zc Z { Z with old:=o }:=fun Z o _ _ _ _ h=>h
 have wr:∀(Z:Zt) (o:Nat->Prop) {σ:Sg} {H:AH} {w:World},WR Z σ H w->WR { Z with old:=o } σ H w:=fun Z o σ H w hW=>
  ⟨hW.z,fun r x p h1 h2=>⟨(hW.h r x p h1 h2).1,((hW.h r x p h1 h2).2).KR (c1 Z o) rfl⟩,hW.inj,hW.fresh,hW.top,hW.rest⟩
 have hv2:CC { Z with old:=fun b=>∃o,Z b=some o } σ (.fn (.yield l) [] []::caps) (.func (.yield l) #[] #[]::vc):=.cons (.fn .nil .nil) (hv.FF (c1 Z _) (fun _ _ h=>h))
 have key:=Js (H:=H) (w:=w) (post:=fun out H'=>(∃v,out=.ret v)/\I N H') hf hb hF.le (by simpa using hlen) hr (fun b hb=>hb) (fun b hb=>by
   cases hq:Z b with
   | none=>rfl
   | some x=>exact absurd ⟨x,hq⟩ hb) (wr Z _ hW) hv2 fun a g4=>h l I hCl hI c hs hc _ σ a w _ σ H.next (fun b hb=>hb) ?_ (CO.refl _) (Nw.refl _ _) (A4 _) (wr Z _ hW) g4
 ·have ev:(#[.func (.yield l) #[] #[]]++vc.toArray:Array Value)=(.func (.yield l) #[] #[]::vc).toArray:=by simp
  rw[ev]
  refine key.mono ?_
  rintro e w' ⟨Z',σ',H',out,g1,g2,g3,g4,g5,⟨v,rfl⟩,g6⟩
  obtain⟨cv,rfl,_⟩:=g5
  exact⟨cv,{ Z' with old:=Z.old },σ',H',rfl,⟨g1.le,g1.os,g1.out,g1.P3,rfl⟩,g2,g3,wr Z' _ g4,g6⟩
 ·rintro l' args Hi post ⟨rfl,i,q1,q1',q2,q3⟩ Z' σ' W vs k1 k2 k3 k4 k5
  obtain⟨fn',tmps,zs,bd,y1,y2⟩:=hY i args Hi q1 q1' q2 { Z' with old:=Z.old } σ' W vs ⟨k1.le,k1.os,k1.out,k1.P3,rfl⟩ k2 k3 (wr Z' _ k4) (k5.FF (c1 Z' _) (fun _ _ h=>h))
  refine⟨fn',tmps,zs,bd,y1,y2.mono ?_⟩
  rintro y W' ⟨Z2,σ2,H2,p1,p2,p3,p4,rfl,p6,p7⟩
  exact⟨{ Z2 with old:=Z'.old },σ2,H2,.ret (.bool true),⟨p1.le,p1.os,p1.out,p1.P3,rfl⟩,p2,p3,wr Z2 _ p4,⟨_,rfl,.bool _⟩,q3 H2 p3 p6 p7⟩
end
end
end Go.AL
