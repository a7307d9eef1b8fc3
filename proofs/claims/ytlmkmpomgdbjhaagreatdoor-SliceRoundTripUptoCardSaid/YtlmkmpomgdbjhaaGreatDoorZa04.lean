import Derived.Test.YtlmkmpomgdbjhaaGreatDoorZa03
/-
  a part of the proof.
-/
set_option linter.unusedSectionVars false
set_option linter.unusedVariables false
set_option linter.unusedSimpArgs false
namespace Go.AL
noncomputable section
variable [BX]
def Rc:SI->SI->Bool
 | .ex a,.ex b=>Nat.beq a b
 | .op a,.op b=>Nat.beq a b
 | _,_=>false
theorem HZ {a b:SI}(h:Rc a b=true):a=b:=by
 cases a<;>cases b<;>simp[Rc]at h<;>simp[h]
mutual
def ES:AV->AV->Bool
 | .unk,y=>match y with | .unk=>true | _=>false
 | .bool a,y=>match y with | .bool b=>a==b | _=>false
 | .int k n,y=>match y with | .int k' n'=>kq k k'&&decide (n=n') | _=>false
 | .str a,y=>match y with | .str b=>decide (a=b) | _=>false
 | .nilp,y=>match y with | .nilp=>true | _=>false
 | .ptr r o,y=>match y with | .ptr r' o'=>Nat.beq r r'&&Nat.beq o o' | _=>false
 | .nils,y=>match y with | .nils=>true | _=>false
 | .sl r o n l,y=>match y with | .sl r' o' n' l'=>Nat.beq r r'&&Nat.beq o o'&&Nat.beq n n'&&Rc l l' | _=>false
 | .nilm,y=>match y with | .nilm=>true | _=>false
 | .nilf,y=>match y with | .nilf=>true | _=>false
 | .nili,y=>match y with | .nili=>true | _=>false
 | .mp r,y=>match y with | .mp r'=>Nat.beq r r' | _=>false
 | .ifc t v,y=>match y with | .ifc t' v'=>decide (t=t')&&ES v v' | _=>false
 | .agg a,y=>match y with | .agg b=>HI a b | _=>false
 | .tup a,y=>match y with | .tup b=>HI a b | _=>false
 | .pim a o,y=>match y with | .pim b o'=>Nat.beq o o'&&HI a b | _=>false
 | .sim a n x,y=>match y with | .sim b n' x'=>Nat.beq n n'&&(x==x')&&HI a b | _=>false
 | .fn f a b,y=>match y with | .fn f' a' b'=>decide (f=f')&&HI a a'&&HI b b' | _=>false
def HI:List AV->List AV->Bool
 | [],y=>match y with | []=>true | _=>false
 | x::l,y=>match y with | z::r=>ES x z&&HI l r | _=>false
end
mutual
theorem CB:∀(x y:AV),ES x y=true->x=y
 | .unk,y,h=>by cases y<;>simp[ES]at h<;>rfl
 | .bool a,y,h=>by cases y<;>simp[ES]at h;subst h;rfl
 | .int k n,y,h=>by cases y<;>simp[ES,bF]at h;obtain⟨rfl,rfl⟩:=h;rfl
 | .str a,y,h=>by cases y<;>simp[ES]at h;subst h;rfl
 | .nilp,y,h=>by cases y<;>simp[ES]at h<;>rfl
 | .ptr r o,y,h=>by cases y<;>simp[ES]at h;obtain⟨rfl,rfl⟩:=h;rfl
 | .nils,y,h=>by cases y<;>simp[ES]at h<;>rfl
 | .sl r o n l,y,h=>by cases y<;>simp[ES]at h;obtain⟨⟨⟨rfl,rfl⟩,rfl⟩,h4⟩:=h;rw[HZ h4]
 | .nilm,y,h=>by cases y<;>simp[ES]at h<;>rfl
 | .nilf,y,h=>by cases y<;>simp[ES]at h<;>rfl
 | .nili,y,h=>by cases y<;>simp[ES]at h<;>rfl
 | .mp r,y,h=>by cases y<;>simp[ES]at h;subst h;rfl
 | .ifc t v,y,h=>by
  cases y<;>simp[ES]at h
  obtain⟨rfl,h2⟩:=h
  rw[CB v _ h2]
 | .agg a,y,h=>by
  cases y<;>simp[ES]at h
  rw[Ca a _ h]
 | .tup a,y,h=>by
  cases y<;>simp[ES]at h
  rw[Ca a _ h]
 | .pim a o,y,h=>by
  cases y<;>simp[ES]at h
  obtain⟨rfl,h2⟩:=h
  rw[Ca a _ h2]
 | .sim a n x,y,h=>by
  cases y<;>simp[ES]at h
  obtain⟨⟨rfl,rfl⟩,h2⟩:=h
  rw[Ca a _ h2]
 | .fn f a b,y,h=>by
  cases y<;>simp[ES]at h
  obtain⟨⟨rfl,h1⟩,h2⟩:=h
  rw[Ca a _ h1,Ca b _ h2]
theorem Ca:∀(x y:List AV),HI x y=true->x=y
 | [],y,h=>by cases y<;>simp[HI]at h;rfl
 | x::l,y,h=>by
  cases y<;>simp[HI]at h
  rw[CB x _ h.1,Ca l _ h.2]
end
inductive FP where
 | no
 | at(g:FuncId) (a b:List AV)
def rp (f:Fn) (a b:List AV):FP:=match f with
 | .func g=>.at g a b
 | _=>.no
def Vj (v:AV):FP:=AV.rec (motive_1:=fun _=>FP) (motive_2:=fun _=>FP) .no (fun _=>.no) (fun _ _=>.no) (fun _=>.no) .no (fun _ _=>.no) (fun _ _ _=>.no) .no (fun _ _ _ _=>.no) (fun _ _ _ _=>.no) .no (fun _=>.no) .no (fun f a b _ _=>rp f a b) .no (fun _ _ _=>.no) (fun _ _=>.no) (fun _ _=>.no) .no (fun _ _ _ _=>.no) v
theorem Si {x:AV}{g:FuncId}{a b:List AV}(h:Vj x=.at g a b):x=.fn (.func g) a b:=by
 cases x<;>try (cases h;done)
 rename_i f a' b'
 cases f<;>cases h
 rfl
def TC (a b:List AV):List AV:=List.rec (motive:=fun _=>List AV) b (fun x _ ih=>x::ih) a
theorem Ka:∀(a b:List AV),TC a b=a++b
 | [],_=>rfl
 | x::a,b=>by
  show x::TC a b=_
  rw[Ka a b];rfl
def GH (e:Env) (l:List AF):List AV:=List.rec (motive:=fun _=>List AV) [] (fun x _ ih=>x.ev e::ih) l
theorem Gl (e:Env):∀l,GH e l=l.map (·.ev e)
 | []=>rfl
 | x::l=>by
  show x.ev e::GH e l=_
  rw[Gl e l];rfl
inductive PV where
 | mk (off n:Nat) (v:AV)
def Pz (e:Env) (ps:o7):List PV:=List.rec (motive:=fun _=>List PV) [] (fun p _ ih=>.mk p.1 p.2.1 (p.2.2.ev e)::ih) ps
def P_ (ps:List PV):List AV->Option (List AV):=
 List.rec (motive:=fun _=>List AV->Option (List AV)) (fun c=>some c) (fun p _ ih c=>PV.rec (motive:=fun _=>Option (List AV)) (fun off n x=>
   Option.rec (motive:=fun _=>Option (List AV)) none (fun l=>bif Nat.beq (Fi l) n then(bif Nat.ble (Nat.add off n) (Fi c)then G8 c off fun a=>FY l (G_ c (Nat.add off n)) fun b=>FY a b ih else none)else none) (Gm x)) p) ps
theorem Mx (e:Env):∀(ps:o7) (c:List AV),P_ (Pz e ps) c=B5 e c ps
 | [],c=>rfl
 | (off,n,x)::ps,c=>by
  rw[<- P9]
  show Option.rec (motive:=fun _=>Option (List AV)) none (fun l=>bif Nat.beq (Fi l) n then(bif Nat.ble (Nat.add off n) (Fi c)then G8 c off fun a=>FY l (G_ c (Nat.add off n)) fun b=>FY a b (P_ (Pz e ps))else none)else none) (Gm (x.ev e)) =
   Option.rec (motive:=fun _=>Option (List AV)) none (fun l=>bif Nat.beq (Fi l) n then(bif Nat.ble (Nat.add off n) (Fi c)then G8 c off fun a=>FY l (G_ c (Nat.add off n)) fun b=>FY a b (Xf e ps)else none)else none) (Gm (x.ev e))
  have:P_ (Pz e ps)=Xf e ps:=funext fun c=>by rw[Mx e ps,P9]
  rw[this]
def D4 (z:List AV) (ps:List PV) (K:AV->KC):KC:=Option.rec (motive:=fun _=>KC) .bad (fun l=>K (.agg l)) (P_ ps z)
def CO (c:List AV) (g:Nat->AV) (h:KH) (K:AV->KH->KC):KC:=h.Iy c .bad fun nx h'=>K (g nx) h'
def Ve (z:List AV) (len:Nat) (ps:List PV) (K:List AV->(Nat->AV)->KC):KC:=Option.rec (motive:=fun _=>KC) .bad (fun l=>K l fun r=>.sl r 0 len (.ex len)) (P_ ps z)
def p0:Nat->AV:=fun r=>.ptr r 0
def Dp (x:AV) (h:KH) (K:AV->KH->KC):KC:=Zh x fun c g=>CO c g h K
def C_ (z:List AV) (len:Nat) (ps:List PV) (h:KH) (K:AV->KH->KC):KC:=Ve z len ps fun c g=>CO c g h K
def Rj (n:Nat) (z:List AV):List AV:=Nat.rec (motive:=fun _=>List AV) [] (fun _ ih=>TC z ih) n
theorem bE (n:Nat) (z:List AV):Rj n z=D7 n z:=by
 induction n with
 | zero=>show[]=D7 0 z;simp[D7]
 | succ n ih=>
  have h1:Rj (n+1) z=z++Rj n z:=Ka z (Rj n z)
  rw[h1,ih]
  unfold D7
  apply Hr
  intro i
  rw[JG]
  simp only[Bf]
  have e1:(n+1)*z.length=n*z.length+z.length:=Nat.succ_mul ..
  by_cases hi:i<z.length
  ·rw[if_pos hi,EV (by omega)]
   simp[C6 hi,Ak hi]
  ·rw[if_neg hi]
   by_cases h2:i<(n+1)*z.length
   ·rw[EV h2,EV (by omega)]
    have:i % z.length=(i-z.length) % z.length:=by rw[Nat.mod_eq_sub_mod (by omega)]
    simp[this]
   ·rw[BM (by simp;omega),BM (by simp;omega)]
def ZT (bytes:Nat) (z:List AV) (l c:AV) (K:List AV->(Nat->AV)->KC):KC:=
 NP.rec (motive:=fun _=>KC) .bad (fun l=>NP.rec (motive:=fun _=>KC) .bad (fun c=>Bool.rec (motive:=fun _=>KC) .bad (K (Rj c z) fun r=>.sl r 0 l (.ex c))
  (Nat.ble l c&&(Nat.ble c 9223372036854775807&&Nat.ble (Nat.mul bytes c) 281474976710656))) .bad (Mj c)) .bad (Mj l)
def Iu (bytes:Nat) (z:List AV) (l c:AV) (h:KH) (K:AV->KH->KC):KC:=ZT bytes z l c fun c g=>CO c g h K
def BJ (n:Nat) (x v:AV) (h:KH) (K:KH->KC):KC:=S9 n x v h .bad fun _ h'=>K h'
def Du (esz bytes:Nat) (s x:AV) (h:KH) (K:AV->KH->KC):KC:=Oc esz bytes s x h .bad K
theorem L4 {o:Option AV}{r:KC}{K:AV->KC}(hr:Fz o K=r) (hb:r≠.bad):∃v,o=some v/\K v=r:=by
 cases o with
 | none=>exact absurd hr.symm hb
 | some v=>exact⟨v,rfl,hr⟩
def emp:Env:=fun _=>.unk
def Eu (e:Env) (x:AF):AF:=.cst (x.ev e)
def TG (e:Env) (x:Option AF):Option AF:=match x with
 | some x=>some (.cst (x.ev e))
 | none=>none
theorem Oe (e:Env) (x:Option AF):AF.ints emp (TG e x)=AF.ints e x:=by cases x<;>rfl
def P8 (e:Env) (k:AK):AK:=match k with
 | .un op x=>.un op (Eu e x)
 | .convS x=>.convS (Eu e x)
 | .indexA n esz agg x i=>.indexA n esz agg (Eu e x) (Eu e i)
 | .indexStr x i=>.indexStr (Eu e x) (Eu e i)
 | .sliceStr x lo hi=>.sliceStr (Eu e x) (TG e lo) (TG e hi)
 | .sliceS esz x lo hi mx=>.sliceS esz (Eu e x) (TG e lo) (TG e hi) (TG e mx)
 | .sliceA n esz x lo hi mx=>.sliceA n esz (Eu e x) (TG e lo) (TG e hi) (TG e mx)
 | .lenStr x=>.lenStr (Eu e x)
 | .minmax b x y=>.minmax b (Eu e x) (Eu e y)
 | .strOfBytes x=>.strOfBytes (Eu e x)
 | .mkSlice esz bytes z l c=>.mkSlice esz bytes z (Eu e l) (Eu e c)
 | .eq neg t x y=>.eq neg t (Eu e x) (Eu e y)
 | .minmax3 b x y z=>.minmax3 b (Eu e x) (Eu e y) (Eu e z)
 | .cap x=>.cap (Eu e x)
 | .mark x=>.mark (Eu e x)
 | .bytesOf x=>.bytesOf (Eu e x)
 | .JD esz z x=>.JD esz z (Eu e x)
 | .appendZ esz bytes z s n=>.appendZ esz bytes z (Eu e s) (Eu e n)
 | .lookup ty z ok m k=>.lookup ty z ok (Eu e m) (Eu e k)
 | .mapUpd ty m k v=>.mapUpd ty (Eu e m) (Eu e k) (Eu e v)
 | .lenMap m=>.lenMap (Eu e m)
 | .ext c x y=>.ext c (Eu e x) (Eu e y)
 | .rangeM x=>.rangeM (Eu e x)
 | .entryM x=>.entryM (Eu e x)
 | .copy n x y=>.copy n (Eu e x) (Eu e y)
 | .tass t z x=>.tass t z (Eu e x)
 | k=>k
def N_ (k:AK) (K:AV->KC):KC:=Fz (AI k emp) K
def SZ (k:AK) (h:KH) (K:AV->KC):KC:=Fz (AZ k emp (Ai h)) K
def dJ (k:AK) (h:KH) (K:AV->KH->KC):KC:=jG k emp h .bad K
def Nz (op:UnOp) (x:AV) (K:AV->KC):KC:=Fz (lQ op x) K
inductive HP (k:AK):Type where
 | pu (f:Env->(AV->KC)->KC) (ok:∀e K r,f e K=r->r≠.bad->∃v,AI k e=some v/\K v=r)
 | rd (f:Env->KH->(AV->KC)->KC) (ok:∀e h K r,f e h K=r->r≠.bad->∃v,AI k e=none/\AZ k e (Ai h)=some v/\K v=r)
 | nw (f:Env->(List AV->(Nat->AV)->KC)->KC) (ok:∀e K r,f e K=r->r≠.bad->∃c g,AI k e=none/\(∀H,AZ k e H=none)/\FQ k e=some (c,g)/\(∀H,BL k e H=some (g H.next,H.push (.cells c)))/\K c g=r)
 | ef (f:Env->KH->(AV->KH->KC)->KC) (ok:∀e h K r,f e h K=r->r≠.bad->∃v h',A2 k e (Ai h)=some (v,Ai h')/\K v h'=r)
section
variable {k:AK}
def I_ {f:Env->(AV->KC)->KC} (ok:∀e K,f e K=Fz (AI k e) K):HP k:=.pu f fun e K r h hb=>L4 (by rw[<- ok];exact h) hb
def IW (k:AK) (hk:∀e,AI (P8 e k) emp=AI k e):HP k:=.pu (fun e K=>N_ (P8 e k) K) fun e _ _ h hb=>L4 (by rw[<- hk];exact h) hb
def SF (k:AK) (np:∀e,AI k e=none) (hk:∀e H,AZ (P8 e k) emp H=AZ k e H):HP k:=.rd (fun e h K=>SZ (P8 e k) h K) fun e h K r hr hb=>by
 obtain⟨v,h1,h2⟩:=L4 hr hb
 exact⟨v,np e,by rw[<- hk];exact h1,h2⟩
def Nu (k:AK) (np:∀e,AI k e=none) (nr:∀e H,AZ k e H=none) (hk:∀e H,BL (P8 e k) emp H=BL k e H):HP k:=.ef (fun e h K=>dJ (P8 e k) h K) fun e h K r hr hb=>by
 obtain⟨v,h',h1,h2⟩:=bM hr hb
 exact⟨v,h',by simp only[A2,np,nr];rw[<- hk];exact h1,h2⟩
def tW (k:AK):HP k:=.ef (fun _ _ _=>.bad) fun _ _ _ _ hr hb=>absurd hr.symm hb
end
def tX (g:Option Nat) (x:AF):HP (.load g x):=.rd (fun e h K=>AT g (x.ev e) h K) fun e h K r hr hb=>by
 rw[Wy]at hr
 obtain⟨v,h1,h2⟩:=L4 hr hb
 exact⟨v,rfl,h1,h2⟩
def tZ (z:List AV):HP (.alloc z):=.nw (fun _ K=>K z p0) fun e K r hr hb=>⟨z,p0,rfl,fun _=>rfl,rfl,fun _=>rfl,hr⟩
def od (x:AF):HP (.box x):=.nw (fun e K=>Zh (x.ev e) K) fun e K r hr hb=>by
 unfold Zh at hr
 rw[LK]at hr
 cases hc:(x.ev e).cellsOf with
 | none=>rw[hc]at hr;exact absurd hr.symm hb
 | some l=>rw[hc]at hr;exact⟨l,fun r=>.ptr r 0,rfl,fun _=>rfl,by simp only[FQ,hc],fun H=>by simp only[BL,hc],hr⟩
def tY (esz len:Nat) (z:List AV) (ps:o7):HP (.buildSlice esz len z ps):=.nw (fun e K=>Ve z len (Pz e ps) K) fun e K r hr hb=>by
 unfold Ve at hr
 rw[Mx]at hr
 cases hc:B5 e z ps with
 | none=>rw[hc]at hr;exact absurd hr.symm hb
 | some l=>rw[hc]at hr;exact⟨l,fun r=>.sl r 0 len (.ex len),rfl,fun _=>rfl,by simp only[FQ,hc],fun H=>by simp only[BL,hc],hr⟩
def oc (esz bytes:Nat) (z:List AV) (l c:AF):HP (.mkSlice esz bytes z l c):=.nw (fun e K=>ZT bytes z (l.ev e) (c.ev e) K) fun e K r hr hb=>by
 have hbb:KC.bad≠r:=fun h=>hb h.symm
 unfold ZT at hr
 cases hl:Mj (l.ev e)with
 | no=>rw[hl]at hr;exact absurd hr hbb
 | ng=>rw[hl]at hr;exact absurd hr hbb
 | «at» l'=>
  cases hc:Mj (c.ev e)with
  | no=>rw[hl,hc]at hr;exact absurd hr hbb
  | ng=>rw[hl,hc]at hr;exact absurd hr hbb
  | «at» c'=>
   rw[hl,hc]at hr
   obtain⟨k1,g1⟩:=OU hl
   obtain⟨k2,g2⟩:=OU hc
   have hr:Bool.rec (motive:=fun _=>KC) .bad (K (Rj c' z) fun r=>.sl r 0 l' (.ex c')) (Nat.ble l' c'&&(Nat.ble c' 9223372036854775807&&Nat.ble (Nat.mul bytes c') 281474976710656))=r:=hr
   cases hq:(Nat.ble l' c'&&(Nat.ble c' 9223372036854775807&&Nat.ble (Nat.mul bytes c') 281474976710656))with
   | false=>rw[hq]at hr;exact absurd hr hbb
   | true=>
    rw[hq,bE]at hr
    simp only[AS,Bv,decide_eq_true_eq]at hq
    obtain⟨q1,q2,q3⟩:=hq
    have q3:bytes*c'<=281474976710656:=q3
    have cond:(0:Int)<=Int.ofNat l'/\Int.ofNat l'<=Int.ofNat c'/\Int.ofNat c'<=9223372036854775807/\(bytes:Int)*Int.ofNat c'<=281474976710656:=by
     refine⟨KO _,Int.ofNat_le.2 q1,?_,?_⟩
     ·show(c':Int)<=_;omega
     ·show(bytes:Int)*(c':Int)<=_
      have:((bytes*c':Nat):Int)<=281474976710656:=by omega
      rw[Hw]at this;exact this
    exact⟨D7 c' z,fun r=>.sl r 0 l' (.ex c'),rfl,fun _=>rfl,by simp only[FQ,g1,g2,cond,and_self,if_true];rfl,fun H=>by simp only[BL,g1,g2,cond,and_self,if_true];rfl,hr⟩
def tV (n:Nat) (x v:AF):HP (.store n x v):=.ef (fun e h K=>BJ n (x.ev e) (v.ev e) h fun h'=>K .unk h') fun e h K r hr hb=>by
 unfold BJ at hr
 obtain⟨r',o,l,vs,h',g1,g2,g3,g4,g5,g6,g7⟩:=Pv hr hb
 exact⟨.unk,h',by simp only[A2,AI,AZ,BL,g1,g2,g3,g4,g5,and_self,if_true,g6],g7⟩
def oe (esz bytes:Nat) (s x:AF):HP (.append esz bytes s x):=.ef (fun e h K=>Du esz bytes (s.ev e) (x.ev e) h K) fun e h K r hr hb=>by
 obtain⟨v,h',h1,h2⟩:=Nd hr hb
 exact⟨v,h',by simp only[A2,AI,AZ,BL,h1],h2⟩
def ji (x y:AF) (op:BinOp):HP (.bin op x y):=match op with
 | .add=>I_ (f:=fun e K=>BZ (x.ev e) (y.ev e) K) fun _ _=>Zk ..
 | .mul=>I_ (f:=fun e K=>NG (x.ev e) (y.ev e) K) fun _ _=>ZS ..
 | .eql=>I_ (f:=fun e K=>JX (x.ev e) (y.ev e) K) fun _ _=>Zg ..
 | .neq=>I_ (f:=fun e K=>Kj (x.ev e) (y.ev e) K) fun _ _=>ZR ..
 | .lss=>I_ (f:=fun e K=>Bh (x.ev e) (y.ev e) K) fun _ _=>ZU ..
 | .leq=>I_ (f:=fun e K=>Tr (x.ev e) (y.ev e) K) fun _ _=>ZV ..
 | op=>I_ (f:=fun e K=>BD op (x.ev e) (y.ev e) K) fun _ _=>Zj ..
def Kl (k:AK):HP k:=match k with
 | .move x=>.pu (fun e K=>K (x.ev e)) fun e K r h _=>⟨_,rfl,h⟩
 | .bin op x y=>ji x y op
 | .pick c a b=>I_ (f:=fun e K=>DA (c.ev e) (a.ev e) (b.ev e) K) fun _ _=>by rw[YA];rfl
 | .build z ps=>I_ (f:=fun e K=>D4 z (Pz e ps) K) fun e K=>by
  unfold D4;rw[Mx]
  show _=Fz ((B5 e z ps).map .agg) K
  cases B5 e z ps<;>rfl
 | .nilCheck x=>I_ (f:=fun e K=>Dn (x.ev e) K) fun _ _=>dO ..
 | .convI k x=>I_ (f:=fun e K=>Ci k (x.ev e) K) fun _ _=>by rw[YE,bO];rfl
 | .fieldAddr off x=>I_ (f:=fun e K=>BH off (x.ev e) K) fun _ _=>dR ..
 | .field g off x=>I_ (f:=fun e K=>Ze g off (x.ev e) K) fun _ _=>by rw[Zd,eo];rfl
 | .indexAddrS z x i=>I_ (f:=fun e K=>Av z (x.ev e) (i.ev e) K) fun _ _=>ZZ ..
 | .indexAddrA n z x i=>I_ (f:=fun e K=>Ds n z (x.ev e) (i.ev e) K) fun _ _=>Za ..
 | .extract i x=>I_ (f:=fun e K=>F_ i (x.ev e) K) fun _ _=>by rw[Zf,ew];rfl
 | .len x=>I_ (f:=fun e K=>A8 (x.ev e) K) fun _ _=>ZW ..
 | .mkIface t x=>.pu (fun e K=>K (.ifc t (x.ev e))) fun e K r h _=>⟨_,rfl,h⟩
 | .mkFunc fn first cap=>.pu (fun e K=>K (.fn fn (GH e first) (GH e cap))) fun e K r h _=>⟨_,by simp only[AI,Gl],h⟩
 | .un op x=>I_ (f:=fun e K=>Nz op (x.ev e) K) fun _ _=>rfl
 | .load g x=>tX g x
 | .alloc z=>tZ z
 | .box x=>od x
 | .buildSlice esz len z ps=>tY esz len z ps
 | .store n x v=>tV n x v
 | .mkSlice esz bytes z l c=>oc esz bytes z l c
 | .append esz bytes s x=>oe esz bytes s x
 | .convS x=>IW _ fun _=>rfl
 | .indexA n esz agg x i=>IW _ fun _=>rfl
 | .indexStr x i=>IW _ fun _=>rfl
 | .sliceStr x lo hi=>IW _ fun e=>by simp only[AI,P8,Oe];rfl
 | .sliceS esz x lo hi mx=>IW _ fun e=>by simp only[AI,P8,Oe];rfl
 | .sliceA n esz x lo hi mx=>IW _ fun e=>by simp only[AI,P8,Oe];rfl
 | .lenStr x=>IW _ fun _=>rfl
 | .lenA n=>IW _ fun _=>rfl
 | .minmax b x y=>IW _ fun _=>rfl
 | .minmax3 b x y z=>IW _ fun _=>rfl
 | .eq neg t x y=>IW _ fun _=>rfl
 | .cap x=>IW _ fun _=>rfl
 | .tass t z x=>IW _ fun _=>rfl
 | .strOfBytes x=>SF _ (fun _=>rfl) fun _ _=>rfl
 | .lookup ty z ok m k=>SF _ (fun _=>rfl) fun _ _=>rfl
 | .lenMap m=>SF _ (fun _=>rfl) fun _ _=>rfl
 | .ext c x y=>SF _ (fun _=>rfl) fun _ _=>rfl
 | .entryM x=>SF _ (fun _=>rfl) fun _ _=>rfl
 | .gld g v=>SF _ (fun _=>rfl) fun _ _=>rfl
 | .rangeM x=>Nu _ (fun _=>rfl) (fun _ _=>rfl) fun _ _=>rfl
 | .mark x=>Nu _ (fun _=>rfl) (fun _ _=>rfl) fun _ _=>rfl
 | .appendZ esz bytes z s n=>Nu _ (fun _=>rfl) (fun _ _=>rfl) fun _ _=>rfl
 | .bytesOf x=>Nu _ (fun _=>rfl) (fun _ _=>rfl) fun _ _=>rfl
 | .JD esz z x=>Nu _ (fun _=>rfl) (fun _ _=>rfl) fun _ _=>rfl
 | .copy n x y=>Nu _ (fun _=>rfl) (fun _ _=>rfl) fun _ _=>rfl
 | .makeMap=>Nu _ (fun _=>rfl) (fun _ _=>rfl) fun _ _=>rfl
 | .mapUpd ty m k v=>Nu _ (fun _=>rfl) (fun _ _=>rfl) fun _ _=>rfl
 | k=>tW k
abbrev Ag:=FuncId->List AV->KH->KC
def BQ (call:Ag) (g:FuncId) (zs:List AV) (h:KH) (K:AV->KH->KC):KC:=KC.rec (motive:=fun _=>KC) K .Bi .bad (call g zs h)
def Sa (call:Ag) (fv:AV) (zs:List AV) (h:KH) (K:AV->KH->KC):KC:=
 FP.rec (motive:=fun _=>KC) .bad (fun g first cap=>BQ call g (TC first (TC zs cap)) h K) (Vj fv)
def RG (v:AV) (h:KH):KC:=match v with
 | .ifc t v=>.Bi (.ifc t v) h
 | _=>.bad
def AW (P:Program) (call:Ag):Prop:=∀g zs h,
 (∀v h',call g zs h=.ret v h'->AP P g zs (Ai h) (fun o H'=>o=.ret v/\H'=Ai h')) /\
 (∀v h',call g zs h=.Bi v h'->AP P g zs (Ai h) (fun o H'=>o=.Bi v/\H'=Ai h'))
def aq:List Nat->List Nat->Bool
 | [],y=>match y with | []=>true | _=>false
 | a::x,y=>match y with | b::z=>Nat.beq a b&&aq x z | _=>false
theorem Ps:∀{x y:List Nat},aq x y=true->x=y
 | [],y,h=>by cases y<;>simp[aq]at h;rfl
 | a::x,y,h=>by
  cases y<;>simp[aq]at h
  rw[h.1,Ps h.2]
def eW:Option Nat->Option Nat->Bool
 | none,y=>match y with | none=>true | _=>false
 | some a,y=>match y with | some b=>Nat.beq a b | _=>false
theorem Pj {x y:Option Nat}(h:eW x y=true):x=y:=by
 cases x<;>cases y<;>simp[eW]at h<;>simp[h]
def Yr:List (AV × AV × Nat)->List (AV × AV × Nat)->Bool
 | [],y=>match y with | []=>true | _=>false
 | a::x,y=>match y with | b::z=>ES a.1 b.1&&(ES a.2.1 b.2.1&&(Nat.beq a.2.2 b.2.2&&Yr x z)) | _=>false
theorem QJ:∀{x y:List (AV × AV × Nat)},Yr x y=true->x=y
 | [],y,h=>by cases y<;>simp[Yr]at h;rfl
 | (a1,a2,a3)::x,y,h=>by
  cases y with
  | nil=>simp[Yr]at h
  | cons b z=>
   obtain⟨b1,b2,b3⟩:=b
   simp[Yr]at h
   rw[CB _ _ h.1,CB _ _ h.2.1,h.2.2.1,QJ h.2.2.2]
def jj:Cy->Cy->Bool
 | .cells a,y=>match y with | .cells b=>HI a b | _=>false
 | .map a c,y=>match y with | .map b d=>Nat.beq c d&&Yr a b | _=>false
 | .iter m c s u,y=>match y with | .iter m' c' s' u'=>eW m m'&&(Nat.beq c c'&&(aq s s'&&eW u u')) | _=>false
theorem Wb {x y:Cy}(h:jj x y=true):x=y:=by
 cases x<;>cases y<;>simp[jj]at h
 ·rw[Ca _ _ h]
 ·rw[h.1,QJ h.2]
 ·rw[Pj h.1,h.2.1,Ps h.2.2.1,Pj h.2.2.2]
def Q0 {α:Type}(f:α->α->Bool):N8 α->N8 α->Bool
 | .mk a0 a1 a2 a3 a4 a5 a6 a7,.mk b0 b1 b2 b3 b4 b5 b6 b7=>f a0 b0&&(f a1 b1&&(f a2 b2&&(f a3 b3&&(f a4 b4&&(f a5 b5&&(f a6 b6&&f a7 b7))))))
theorem D_ {α:Type}{f:α->α->Bool}(hf:∀x y,f x y=true->x=y) (x y:N8 α) (h:Q0 f x y=true):x=y:=by
 cases x;cases y
 simp only[Q0,AS]at h
 obtain⟨h0,h1,h2,h3,h4,h5,h6,h7⟩:=h
 rw[hf _ _ h0,hf _ _ h1,hf _ _ h2,hf _ _ h3,hf _ _ h4,hf _ _ h5,hf _ _ h6,hf _ _ h7]
def bG:DL->DL->Bool
 | .o a,y=>match y with | .o b=>jj a b | _=>false
 | .a n t,y=>match y with | .a m u=>Nat.beq n m&&Q0 (Q0 (Q0 ES)) t u | _=>false
theorem Ub (x y:DL) (h:bG x y=true):x=y:=by
 cases x<;>cases y<;>simp[bG]at h
 ·rw[Wb h]
 ·rw[h.1,D_ (D_ (D_ CB)) _ _ h.2]
def im:Option DL->Option DL->Bool
 | none,y=>match y with | none=>true | _=>false
 | some a,y=>match y with | some b=>bG a b | _=>false
theorem Vy (x y:Option DL) (h:im x y=true):x=y:=by
 cases x<;>cases y<;>simp[im]at h
 ·rfl
 ·rw[Ub _ _ h]
def ek (a b:KH):Bool:=Nat.beq a.nx b.nx&&Q0 (Q0 (Q0 (Q0 (Q0 im)))) a.t b.t
theorem P3 {a b:KH}(h:ek a b=true):a=b:=by
 obtain⟨t,n⟩:=a
 obtain⟨u,m⟩:=b
 simp only[ek,AS,FC]at h
 obtain⟨h1,h2⟩:=h
 have h3:t=u:=D_ (D_ (D_ (D_ (D_ Vy)))) t u h2
 rw[h1,h3]
def fA:KC->KC->Bool
 | .ret v h,y=>match y with | .ret v' h'=>ES v v'&&ek h h' | _=>false
 | .Bi v h,y=>match y with | .Bi v' h'=>ES v v'&&ek h h' | _=>false
 | .bad,_=>false
theorem WA {x y:KC}(h:fA x y=true):x=y:=by
 cases x<;>cases y<;>simp[fA]at h
 ·rw[CB _ _ h.1,P3 h.2]
 ·rw[CB _ _ h.1,P3 h.2]
def s_ (f:AV × Cy->KC) (l:List (AV × Cy)):KC:=match l with
 | []=>.bad
 | [p]=>f p
 | p::q::l=>bif (q::l).all (fun q=>fA (f p) (f q))then f p else .bad
theorem eh {f:AV × Cy->KC}{l:List (AV × Cy)}{r:KC}(hr:s_ f l=r) (hb:r≠.bad):∀p∈l,f p=r:=by
 unfold s_ at hr
 split at hr
 ·exact absurd hr.symm hb
 ·intro p hp;simp only[CM]at hp;subst hp;exact hr
 ·rename_i p q l
  cases hq:(q::l).all (fun q=>fA (f p) (f q))with
  | false=>rw[hq]at hr;exact absurd hr.symm hb
  | true=>
   rw[hq]at hr
   simp only[cond_true]at hr
   intro x hx
   rcases DM.1 hx with rfl | hx
   ·exact hr
   ·rw[<- WA (CY.1 hq x hx)];exact hr
def Tq (x:AV) (h:KH) (K:AV->KH->KC):KC:=match jk x (Ai h)with
 | none=>.bad
 | some none=>K (.tup [.bool false]) h
 | some (some (q,l))=>bif Nat.ble (Nat.succ q) h.nx then s_ (fun p=>h.Qv q (some (.o p.2)) .bad fun h'=>K p.1 h') l else .bad
theorem YB {x:AV}{h:KH}{K:AV->KH->KC}{r:KC}(hr:Tq x h K=r) (hb:r≠.bad):∃l,KE x (Ai h)=some l/\∀p∈l,∃h',p.2=Ai h'/\K p.1 h'=r:=by
 unfold Tq at hr
 unfold KE
 cases hx:jk x (Ai h)with
 | none=>rw[hx]at hr;exact absurd hr.symm hb
 | some y=>
  rw[hx]at hr
  cases y with
  | none=>exact⟨_,rfl,fun p hp=>by simp only[CM]at hp;subst hp;exact⟨h,rfl,hr⟩⟩
  | some z=>
   obtain⟨q,l⟩:=z
   simp only at hr
   cases hq:Nat.ble (Nat.succ q) h.nx with
   | false=>rw[hq]at hr;exact absurd hr.symm hb
   | true=>
    rw[hq]at hr
    simp only[cond_true]at hr
    have hlt:q<h.nx:=Ab hq
    refine⟨_,rfl,fun p hp=>?_⟩
    obtain⟨p',hp',rfl⟩:=Bt.1 hp
    have:=eh hr hb p' hp'
    obtain⟨h',h1,h2⟩:=KH.G2 this hb hlt
    exact⟨h',h1.symm,h2⟩
inductive zM where
 | call (f:AF) (args:List AF)
 | Bi (x:AF)
 | no
 | act
 | nx (x:AF)
def cls (k:AK):zM:=match k with
 | .call f args=>.call f args
 | .panic x=>.Bi x
 | .defer _ _=>.no
 | .recover=>.no
 | .nextM x=>.nx x
 | _=>.act
def Q2 (call:Ag) (k:AK) (e:Env) (h:KH) (K:AV->KH->KC):KC:=
 zM.rec (motive:=fun _=>KC) (fun f args=>Sa call (f.ev e) (GH e args) h K) (fun x=>RG (x.ev e) h) .bad
  (HP.rec (motive:=fun _=>KC) (fun f _=>f e fun v=>K v h) (fun f _=>f e h fun v=>K v h) (fun f _=>f e fun c g=>CO c g h K) (fun f _=>f e h K) (Kl k)) (fun x=>Tq (x.ev e) h K) (cls k)
theorem bk {call:Ag}{k:AK}{e:Env}{h:KH}{K:AV->KH->KC}(hc:cls k=.act):Q2 call k e h K =
  HP.rec (motive:=fun _=>KC) (fun f _=>f e fun v=>K v h) (fun f _=>f e h fun v=>K v h) (fun f _=>f e fun c g=>CO c g h K) (fun f _=>f e h K) (Kl k):=by
 unfold Q2;rw[hc]
theorem Yi {k:AK}{a:HP k}{e:Env}{h:KH}{K:AV->KH->KC}{r:KC}
  (hr:HP.rec (motive:=fun _=>KC) (fun f _=>f e fun v=>K v h) (fun f _=>f e h fun v=>K v h) (fun f _=>f e fun c g=>CO c g h K) (fun f _=>f e h K) a=r) (hb:r≠.bad):∃v h',A2 k e (Ai h)=some (v,Ai h')/\K v h'=r:=by
 cases a with
 | pu f ok=>
  obtain⟨v,g1,g2⟩:=ok _ _ _ hr hb
  exact⟨v,h,by simp only[A2,g1],g2⟩
 | rd f ok=>
  obtain⟨v,g0,g1,g2⟩:=ok _ _ _ _ hr hb
  exact⟨v,h,by simp only[A2,g0,g1],g2⟩
 | nw f ok=>
  obtain⟨c,g,g0,g1,g2,g3,g4⟩:=ok _ _ _ hr hb
  obtain⟨h',k1,k2⟩:=KH.DC g4 hb
  exact⟨_,h',by simp only[A2,g0,g1,g3,k1];rfl,k2⟩
 | ef f ok=>exact ok _ _ _ _ hr hb
theorem Um {P:Program}{k:AK}{e:Env}{h:KH}{K:AV->KH->KC}{r:KC}(hr:∃v h',A2 k e (Ai h)=some (v,Ai h')/\K v h'=r) {K' Kp':AV->AH->Prop}
  (h1:∀v h',K v h'=r->K' v (Ai h')):HN P k e (Ai h) K' Kp'/\k.B2=false:=by
 obtain⟨v,h',g1,g2⟩:=hr
 cases k<;>first
  | (refine⟨Gt rfl g1 (h1 v h' g2),rfl⟩;done)
  | (exfalso;simp[A2,AI,AZ,BL]at g1;done)
theorem LM {P:Program}{call:Ag}(hC:AW P call){k:AK}{e:Env}{h:KH}{K:AV->KH->KC}{r:KC}(hr:Q2 call k e h K=r) (hb:r≠.bad) {K' Kp':AV->AH->Prop}
  (h1:∀v h',K v h'=r->K' v (Ai h')) (h2:∀v h',r=.Bi v h'->Kp' v (Ai h')):HN P k e (Ai h) K' Kp'/\k.B2=false:=by
 have hbb:KC.bad≠r:=fun h=>hb h.symm
 cases k
 case call f args=>
  refine⟨?_,rfl⟩
  simp only[Q2,cls,Sa,Ka,Gl,<- Ao]at hr
  cases hfp:Vj (f.ev e)with
  | no=>rw[hfp]at hr;exact absurd hr hbb
  | «at» g first cap=>
  rw[hfp]at hr
  unfold BQ at hr
  have hf:=Si hfp
  simp only at hr
  cases hc:call g (first++args.map (·.ev e)++cap) h with
  | bad=>rw[hc]at hr;exact absurd hr hbb
  | ret v h'=>
   rw[hc]at hr
   refine Mb hf rfl ((hC g _ h).1 v h' hc) (fun v' H' hp=>?_) (fun v' H' hp=>?_)
   ·obtain⟨q1,rfl⟩:=hp
    cases q1
    exact h1 _ h' hr
   ·cases hp.1
  | Bi v h'=>
   rw[hc]at hr
   refine Mb hf rfl ((hC g _ h).2 v h' hc) (fun v' H' hp=>?_) (fun v' H' hp=>?_)
   ·cases hp.1
   ·obtain⟨q1,rfl⟩:=hp
    cases q1
    exact h2 _ h' hr.symm
 case panic x=>
  refine⟨?_,rfl⟩
  simp only[Q2,cls,RG]at hr
  split at hr<;>(try exact absurd hr hbb)
  rename_i t v hx
  simp only[HN,hx]
  exact h2 _ _ hr.symm
 case defer f args=>exact absurd hr hbb
 case recover=>exact absurd hr hbb
 case nextM x=>
  refine⟨?_,rfl⟩
  have hr:Tq (x.ev e) h K=r:=hr
  obtain⟨l,g1,g2⟩:=YB hr hb
  simp only[HN,g1]
  intro p hp
  obtain⟨h',g3,g4⟩:=g2 p hp
  rw[g3];exact h1 _ _ g4
 all_goals (rw[bk rfl]at hr;generalize Kl _=a at hr;exact Um (Yi (a:=a) hr hb) h1)
end
noncomputable section
variable [BX]
abbrev EK:=Env->KH->KC
def JT (l:List Nat):Type:=List.rec (motive:=fun _=>Type) (KH->KC) (fun _ _ t=>AV->t) l
def YD (w:Bool) (v:AV) (a b:KC):KC:=BP.rec (motive:=fun _=>KC) (match Mc v with
  | some o=>(match o with
   | some x=>bif (bif x then w else !w)then a else b
   | none=>b)
  | none=>.bad) (fun x=>Bool.rec (motive:=fun _=>KC) (Bool.rec (motive:=fun _=>KC) a b w) (Bool.rec (motive:=fun _=>KC) b a w) x) (Tw v)
theorem dQ (w:Bool) (v:AV) (a b:KC):YD w v a b=match Mc v with
  | some o=>(match o with
   | some x=>bif (bif x then w else !w)then a else b
   | none=>b)
  | none=>.bad:=by
 unfold YD
 cases hv:Tw v with
 | no=>rfl
 | «at» x=>rw[OV hv];cases x<;>cases w<;>rfl
theorem PE {w:Bool}{v:AV}{a b r:KC}(hr:YD w v a b=r) (hb:r≠.bad):∃o,Mc v=some o/\(o=some w->a=r)/\(o≠some w->b=r):=by
 rw[dQ]at hr
 split at hr
 ·rename_i o ho
  refine⟨o,ho,fun hw=>?_,fun hw=>?_⟩
  ·subst hw
   have:(bif w then w else !w)=true:=by cases w<;>rfl
   simp only[this,cond_true]at hr
   exact hr
  ·cases o with
   | none=>exact hr
   | some x=>
    have:(bif x then w else !w)=false:=by cases x<;>cases w<;>simp at hw<;>rfl
    simp only[this,cond_false]at hr
    exact hr
 ·exact absurd hr.symm hb
def Dt {T:Type} (w:Bool) (v:AV) (J:T) (A B:T->KC):KC:=YD w v (A J) (B J)
def A7 (v:AV) (A B:KC):KC:=BP.rec (motive:=fun _=>KC) .bad (fun x=>Bool.rec (motive:=fun _=>KC) B A x) (Tw v)
def JW {T:Type} (v:AV) (J:T) (A B:T->KC):KC:=A7 v (A J) (B J)
def Zi {T:Type} (J:T) (A:T->KC):KC:=A J
def bH:Nat:=1000000000
def Vd {T:Type} (bad:T) (body:T->T) (n:Nat):T:=Nat.rec (motive:=fun _=>T) bad (fun _ ih=>body ih) n
def BG {T:Type} (bad:T) (body:T->T):T:=Vd bad body bH
def GA (b:Bool) (K:KC):KC:=Bool.rec (motive:=fun _=>KC) .bad K b
abbrev KG:=AV->(KH->Bool)->KH->KC
def gP:KH->Bool:=fun _=>true
def lZ (w:Bool) (v:AV) (h:KH) (J:KG) (A:KG->KC):KC:=YD w v (A J) (J Ad gP h)
def Zl (k:AK):Nat:=
 let _a:=Kl k
 let _b:=@BG Nat
 let _c:=@JW Nat
 let _d:=@Dt Nat
 let _e:=@Zi Nat
 let _f:=GA
 let _g:=lZ
 let _h:=Sa
 let _i:=RG
 let _m:=Tq
 let _j:=Dp
 let _k:=C_
 let _l:=Iu
 0
theorem XG (e:Env) (d:Nat) (v:AV):(fun t=>Bool.rec (motive:=fun _=>AV) (e t) v (Nat.beq t d))=e.set d v:=by
 funext t
 unfold Env.set
 cases Nat.beq t d<;>rfl
def CQ (l:List Nat):JT l->EK:=
 (fun(_:AK->Nat)=>(List.rec (motive:=fun l=>JT l->EK) (fun J _ h=>J h) (fun i _ ih J e h=>ih (J (e i)) e h) l:JT l->EK)) Zl
def IP (l:List Nat):Env->EK->JT l:=
 (fun(_:AK->Nat)=>(List.rec (motive:=fun l=>Env->EK->JT l) (fun e0 f h=>f e0 h) (fun i _ ih e0 f v=>ih (fun t=>Bool.rec (motive:=fun _=>AV) (e0 t) v (Nat.beq t i)) f) l:Env->EK->JT l)) Zl
def II (l:List Nat):Env->Env->Env:=
 List.rec (motive:=fun _=>Env->Env->Env) (fun _ e0=>e0) (fun i _ ih e e0=>ih e (e0.set i (e i))) l
theorem C3:∀(l:List Nat) (e0:Env) (f:EK) (e:Env) (h:KH),CQ l (IP l e0 f) e h=f (II l e e0) h
 | [],_,_,_,_=>rfl
 | i::l,e0,f,e,h=>by
  show CQ l (IP l (fun t=>Bool.rec (motive:=fun _=>AV) (e0 t) (e i) (Nat.beq t i)) f) e h=_
  rw[XG,C3 l];rfl
theorem Dh:∀(l:List Nat) (e e0:Env) (t:Nat),II l e e0 t=if t∈l then e t else e0 t
 | [],e,e0,t=>by simp[II]
 | i::l,e,e0,t=>by
  show II l e (e0.set i (e i)) t=_
  rw[Dh l,Env.AM]
  by_cases h1:t∈l
  ·simp[h1]
  ·by_cases h2:t=i
   ·subst h2;simp
   ·simp[h1,h2]
def cM {α:Type} (e:Env) (d:Option Nat) (v:AV) (k:Env->α):α:=(fun(_:AK->Nat)=>(Option.rec (motive:=fun _=>α) (k e) (fun d=>k fun t=>Bool.rec (motive:=fun _=>AV) (e t) v (Nat.beq t d)) d:α)) Zl
theorem Xs {α:Type}(e:Env) (d:Option Nat) (v:AV) (k:Env->α):cM e d v k=k (e.put d v):=by
 cases d with
 | none=>rfl
 | some d=>exact congrArg k (XG e d v)
def V7 (call:Ag) (ops:List A_):Env->KH->EK->KC:=
 List.rec (motive:=fun _=>Env->KH->EK->KC) (fun e h K=>K e h) (fun o _ ih e h K=>Q2 call o.k e h fun v h'=>cM e o.dst v fun e'=>ih e' h' K) ops
theorem Ye (call:Ag) (o:A_) (ops:List A_) (e:Env) (h:KH) (K:EK):V7 call (o::ops) e h K=Q2 call o.k e h fun v h'=>V7 call ops (e.put o.dst v) h' K:=by
 show(Q2 call o.k e h fun v h'=>cM e o.dst v fun e'=>V7 call ops e' h' K)=_
 simp only[Xs]
def Jy (d:Option Nat) (l:List Nat):List Nat:=match d with
 | some d=>d::l
 | none=>l
def LU (ops:List A_):List Nat:=List.rec (motive:=fun _=>List Nat) [] (fun o _ ih=>Jy o.dst ih) ops
def ZO:=Option (Nat × Bool) × List A_
def EO (s:Nat) (w:Bool) (o:A_):Bool:=(match o.gd with
 | some (s',w')=>Nat.beq s s'&&(bif w then w' else !w')
 | none=>false)&&(match o.dst with
 | some d=>!Nat.beq d s
 | none=>true)
theorem Fj {s:Nat}{w:Bool}{o:A_}(h:EO s w o=true):o.gd=some (s,w)/\o.dst≠some s:=by
 obtain⟨dst,k,gd⟩:=o
 simp only[EO,AS]at h
 obtain⟨h1,h2⟩:=h
 refine⟨?_,?_⟩
 ·cases gd with
  | none=>cases h1
  | some p=>
   obtain⟨s',w'⟩:=p
   simp only[AS,FC]at h1
   obtain⟨rfl,h1⟩:=h1
   cases w<;>cases w'<;>first | rfl | cases h1
 ·cases dst with
  | none=>simp
  | some d=>
   simp only[E7,]at h2
   simp only[ne_eq,AD]
   rintro rfl
   rw[Ov]at h2;cases h2
def fo (o:A_) (r:List ZO):List ZO:=match o.gd with
 | none=>(none,[o])::r
 | some (s,w)=>match r with
  | (some (s',w'),ls)::r'=>bif EO s' w' o then(some (s,w),o::ls)::r' else(some (s,w),[o])::(some (s',w'),ls)::r'
  | r=>(some (s,w),[o])::r
def lP (l:List A_):List ZO:=List.rec (motive:=fun _=>List ZO) [] (fun o _ ih=>fo o ih) l
def XA (l:List ZO):List A_:=l.flatMap (·.2)
theorem ZG (o:A_) (r:List ZO):XA (fo o r)=o::XA r:=by
 unfold fo
 split
 ·rfl
 ·split
  ·cases EO _ _ o<;>rfl
  ·rfl
theorem Js:∀l:List A_,XA (lP l)=l
 | []=>rfl
 | o::l=>by
  show XA (fo o (lP l))=_
  rw[ZG,Js l]
def nL (call:Ag) (g:ZO) (e:Env) (h:KH) (K:EK):KC:=Prod.rec (motive:=fun _=>KC) (fun g ops=>Option.rec (motive:=fun _=>KC)
  (Bool.rec (motive:=fun _=>KC) .bad (V7 call ops e h K) (ops.all (fun o=>o.gd.isNone)))
  (fun p=>Prod.rec (motive:=fun _=>KC) (fun s w=>Bool.rec (motive:=fun _=>KC) .bad (Dt w (e s) (IP (LU ops) e K) (fun J=>V7 call ops e h (CQ (LU ops) J)) (fun J=>CQ (LU ops) J (fun _=>Ad) h)) (ops.all (EO s w))) p) g) g
def eg (call:Ag) (gs:List ZO):Env->KH->EK->KC:=
 List.rec (motive:=fun _=>Env->KH->EK->KC) (fun e h K=>K e h) (fun g _ ih e h K=>nL call g e h fun e' h'=>ih e' h' K) gs
def Rw (o:A_):Bool:=match o.dst with
 | some d=>Nat.ble (Nat.succ d) AN
 | none=>true
theorem EX {o:A_}(h:Rw o=true):o.dst≠some AN:=by
 unfold Rw at h
 cases hd:o.dst with
 | none=>simp
 | some d=>
  rw[hd]at h
  have:=Ab h
  simp only[ne_eq,AD];omega
def jC (call:Ag) (ops:List A_) (e:Env) (h:KH) (K:EK):KC:=Bool.rec (motive:=fun _=>KC) .bad (eg call (lP ops) e h K) (ops.all Rw)
theorem B4 {e:Env}{d:Option Nat}{v:AV}{t:Nat}(h:d≠some t):(e.put d v) t=e t:=by
 cases d with
 | none=>rfl
 | some d=>
  show(e.set d v) t=e t
  rw[Env.AM,if_neg (by rintro rfl;exact h rfl)]
theorem Gs {d:Option Nat}{l:List Nat}{t:Nat}:t∈Jy d l↔d=some t\/t∈l:=by
 cases d with
 | none=>simp[Jy]
 | some d=>simp[Jy,eq_comm]
theorem LY {b:Bool}{x r:KC}(h:Bool.rec (motive:=fun _=>KC) .bad x b=r) (hb:r≠.bad):b=true/\x=r:=by
 cases b with
 | true=>exact⟨rfl,h⟩
 | false=>exact absurd h.symm hb
section
variable {P:Program}{call:Ag}{r:KC}{K':Env->AH->Prop}{Kp':AV->Env->AH->Prop}
theorem LJ (hC:AW P call) (hb:r≠.bad){s:Nat}{w:Bool}{K:EK}(h2:∀v h,r=.Bi v h->∀e,e AN=.tup []->Kp' v e (Ai h)):∀(ops:List A_) (e:Env) (h:KH),ops.all Rw=true->e AN=.tup [] ->
  (Mc (e s)=some (some w)/\ops.all (EO s w)=true\/ops.all (fun o=>o.gd.isNone)=true)->V7 call ops e h K=r ->
  (∀e' h',(∀t,t ∉ LU ops->e' t=e t)->e' AN=.tup []->K e' h'=r->K' e' (Ai h'))->CJ P ops e (Ai h) K' Kp'
 | [],e,h,_,hd,_,hr,h1=>h1 e h (fun _ _=>rfl) hd hr
 | o::ops,e,h,ho,hd,hg,hr,h1=>by
  rw[Ye]at hr
  simp only[EB,AS]at ho hg
  have hd':∀v,(e.put o.dst v) AN=.tup []:=fun v=>by rw[B4 (EX ho.1)];exact hd
  have go:∀v h',(Mc ((e.put o.dst v) s)=some (some w)/\ops.all (EO s w)=true\/ops.all (fun o=>o.gd.isNone)=true)->V7 call ops (e.put o.dst v) h' K=r->CJ P ops (e.put o.dst v) (Ai h') K' Kp':=fun v h' hg' hx=>
   LJ hC hb h2 ops (e.put o.dst v) h' ho.2 (hd' v) hg' hx fun e' h'' q1 q2 q3=>h1 e' h'' (fun t ht=>by
    have ht:t ∉ Jy o.dst (LU ops):=ht
    rw[Gs,not_or]at ht
    rw[q1 t ht.2,B4 ht.1]) q2 q3
  have st:=fun(hg':∀v,Mc ((e.put o.dst v) s)=some (some w)/\ops.all (EO s w)=true\/ops.all (fun o=>o.gd.isNone)=true)=>LM (P:=P) (K':=fun v H'=>CJ P ops (e.put o.dst v) H' K' Kp') (Kp':=fun v H'=>Kp' v e H') hC (k:=o.k) (e:=e) (h:=h) hr hb (fun v h' hx=>go v h' (hg' v) hx) (fun v h' hx=>h2 v h' hx e hd)
  obtain⟨dst,k,gd⟩:=o
  rcases hg with⟨g1,g2,g3⟩ | ⟨g2,g3⟩
  ·obtain⟨rfl,g4⟩:=Fj g2
   have sg:=st fun v=>.inl ⟨by rw[B4 g4];exact g1,g3⟩
   exact W7 g1 (fun _=>sg.1) (fun hn=>absurd rfl hn)
  ·simp only[Hu]at g2
   subst g2
   have sg:=st fun v=>.inr g3
   exact Fm sg.2 sg.1
theorem QW [YC] {s:Nat}{w:Bool}{b:Option Bool}(hn:b≠some w):∀(ops:List A_) (e:Env) (H:AH),ops.all (EO s w)=true->Mc (e s)=some b->K' (II (LU ops) (fun _=>Ad) e) H->CJ P ops e H K' Kp'
 | [],e,H,_,_,h=>h
 | o::ops,e,H,hg,hs,h=>by
  simp only[EB,AS]at hg
  obtain⟨dst,k,gd⟩:=o
  obtain⟨rfl,g4⟩:=Fj hg.1
  refine W7 hs (fun hw=>absurd hw hn) fun _=>QW hn ops _ H hg.2 (by rw[B4 g4];exact hs) ?_
  cases dst with
  | none=>exact h
  | some d=>exact h
theorem IU [YC]:∀(a b:List A_) (e:Env) (H:AH),CJ P a e H (fun e' H'=>CJ P b e' H' K' Kp') Kp'->CJ P (a++b) e H K' Kp'
 | [],b,e,H,h=>h
 | o::a,b,e,H,h=>by
  obtain⟨dst,k,gd⟩:=o
  have mono:∀{K1 K2:AV->AH->Prop} {Kp:AV->AH->Prop},(∀v H',K1 v H'->K2 v H')->HN P k e H K1 Kp->HN P k e H K2 Kp:=fun hk ha=>by
   unfold HN at ha ⊢
   split at ha
   ·unfold HJ at ha ⊢
    split at ha
    ·exact ha.mono fun o H' hq=>by cases o with
      | ret v=>exact hk _ _ hq
      | Bi v=>exact hq
    ·exact YC.mono ha fun o H' hq=>by cases o with
      | ret v=>exact hk _ _ hq
      | Bi v=>exact hq
    ·exact ha
   ·exact ha
   ·exact ha
   ·exact ha
   ·split at ha
    ·exact fun p hp=>hk _ _ (ha p hp)
    ·exact ha
   ·split at ha
    ·exact hk _ _ ha
    ·exact ha
  cases gd with
  | none=>
   simp only[Ec,CJ]at h ⊢
   split at h
   ·split at h
    ·exact IU a b _ _ h
    ·exact h
   ·exact mono (fun v H' hq=>IU a b _ _ hq) h
  | some p=>
   obtain⟨s,w⟩:=p
   simp only[Ec,CJ]at h ⊢
   split at h
   ·exact⟨fun hw=>mono (fun v H' hq=>IU a b _ _ hq) (h.1 hw),fun hw=>IU a b _ _ (h.2 hw)⟩
   ·exact h
theorem TK:∀{ops:List A_},ops.all Rw=true->AN ∉ LU ops
 | [],_,hm=>by cases hm
 | o::ops,h,hm=>by
  have hm:AN∈Jy o.dst (LU ops):=hm
  simp only[EB,AS]at h
  rw[Gs]at hm
  rcases hm with hm | hm
  ·exact EX h.1 hm
  ·exact TK h.2 hm
theorem P0 (hC:AW P call) (hb:r≠.bad){K:EK}(h1:∀e h,e AN=.tup []->K e h=r->K' e (Ai h)) (h2:∀v h,r=.Bi v h->∀e,e AN=.tup []->Kp' v e (Ai h)) :
  ∀(gs:List ZO) (e:Env) (h:KH),(XA gs).all Rw=true->e AN=.tup []->eg call gs e h K=r->CJ P (XA gs) e (Ai h) K' Kp'
 | [],e,h,_,hd,hr=>h1 e h hd hr
 | (g,ops)::gs,e,h,ho,hd,hr=>by
  have hr:(nL call (g,ops) e h fun e' h'=>eg call gs e' h' K)=r:=hr
  change (ops++XA gs).all Rw=true at ho
  rw[O5,AS]at ho
  have rest:∀e' h',e' AN=.tup []->eg call gs e' h' K=r->CJ P (XA gs) e' (Ai h') K' Kp':=fun e' h' hd' hx=>P0 hC hb h1 h2 gs e' h' ho.2 hd' hx
  refine IU ops (XA gs) e (Ai h) ?_
  cases g with
  | none=>
   obtain⟨g1,g2⟩:=LY hr hb
   exact LJ hC hb (s:=0) (w:=true) h2 ops e h ho.1 hd (.inr g1) g2 fun e' h' _ q2 q3=>rest e' h' q2 q3
  | some p=>
   obtain⟨s,w⟩:=p
   obtain⟨g1,g2⟩:=LY hr hb
   obtain⟨b,k1,k2,k3⟩:=PE g2 hb
   by_cases hw:b=some w
   ·subst hw
    refine LJ hC hb h2 ops e h ho.1 hd (.inl ⟨k1,g1⟩) (k2 rfl) fun e' h' q1 q2 q3=>rest e' h' q2 ?_
    rw[C3]at q3
    have:II (LU ops) e' e=e':=by
     funext t
     rw[Dh]
     split
     ·rfl
     ·rename_i hm;exact(q1 t hm).symm
    rw[this]at q3;exact q3
   ·have k3:=k3 hw
    simp only[C3]at k3
    refine QW hw ops e (Ai h) g1 k1 (rest _ h ?_ k3)
    rw[Dh,if_neg (TK ho.1)]
    exact hd
theorem Px (hC:AW P call) (hb:r≠.bad){K:EK}(h1:∀e h,e AN=.tup []->K e h=r->K' e (Ai h)) (h2:∀v h,r=.Bi v h->∀e,e AN=.tup []->Kp' v e (Ai h))
  {ops:List A_} {e:Env} {h:KH} (hd:e AN=.tup []) (hr:jC call ops e h K=r):CJ P ops e (Ai h) K' Kp':=by
 obtain⟨g1,g2⟩:=LY hr hb
 have:=P0 hC hb h1 h2 (lP ops) e h (by rw[Js];exact g1) hd g2
 rw[Js]at this;exact this
end
end
noncomputable section
variable [BX]
def Xi (call:Ag) (eff:Bool) (k:AK) (e:Env) (h:KH) (K:AV->KH->KC):KC:=
 Bool.rec (motive:=fun _=>KC) (HP.rec (motive:=fun _=>KC) (fun f _=>f e fun v=>K v h) (fun f _=>f e h fun v=>K v h) (fun f _=>f e fun c g=>CO c g h K) (fun _ _=>.bad) (Kl k)) (Q2 call k e h K) eff
def QA (call:Ag) (its:List DV):Env->KH->EK->KC:=
 List.rec (motive:=fun _=>Env->KH->EK->KC) (fun e h K=>K e h) (fun it _ ih e h K=>Xi call it.eff it.o.k e h fun v h'=>cM e it.o.dst v fun e'=>ih e' h' K) its
theorem V_ (call:Ag) (it:DV) (its:List DV) (e:Env) (h:KH) (K:EK):QA call (it::its) e h K=Xi call it.eff it.o.k e h fun v h'=>QA call its (e.put it.o.dst v) h' K:=by
 show(Xi call it.eff it.o.k e h fun v h'=>cM e it.o.dst v fun e'=>QA call its e' h' K)=_
 simp only[Xs]
def HE (its:List DV):List Nat:=List.rec (motive:=fun _=>List Nat) [] (fun it _ ih=>Jy it.o.dst ih) its
def OJ:=Option (Nat × Bool) × List DV
def X4 (it:DV) (r:List OJ):List OJ:=match it.o.gd with
 | none=>(none,[it])::r
 | some (s,w)=>match r with
  | (some (s',w'),ls)::r'=>bif EO s' w' it.o then(some (s,w),it::ls)::r' else(some (s,w),[it])::(some (s',w'),ls)::r'
  | r=>(some (s,w),[it])::r
def Yn (l:List DV):List OJ:=List.rec (motive:=fun _=>List OJ) [] (fun o _ ih=>X4 o ih) l
def L6 (l:List OJ):List DV:=l.flatMap (·.2)
theorem Wg (o:DV) (r:List OJ):L6 (X4 o r)=o::L6 r:=by
 unfold X4
 split
 ·rfl
 ·split
  ·cases EO _ _ o.o<;>rfl
  ·rfl
theorem IQ:∀l:List DV,L6 (Yn l)=l
 | []=>rfl
 | o::l=>by
  show L6 (X4 o (Yn l))=_
  rw[Wg,IQ l]
def gT (call:Ag) (g:OJ) (e:Env) (h:KH) (K:EK):KC:=Prod.rec (motive:=fun _=>KC) (fun g its=>Option.rec (motive:=fun _=>KC)
  (Bool.rec (motive:=fun _=>KC) .bad (QA call its e h K) (its.all (fun it=>it.o.gd.isNone)))
  (fun p=>Prod.rec (motive:=fun _=>KC) (fun s w=>Bool.rec (motive:=fun _=>KC) .bad (Dt w (e s) (IP (HE its) e K) (fun J=>QA call its e h (CQ (HE its) J)) (fun J=>CQ (HE its) J (fun _=>Ad) h)) (its.all (fun it=>EO s w it.o))) p) g) g
def Xh (call:Ag) (gs:List OJ):Env->KH->EK->KC:=
 List.rec (motive:=fun _=>Env->KH->EK->KC) (fun e h K=>K e h) (fun g _ ih e h K=>gT call g e h fun e' h'=>ih e' h' K) gs
def VX (it:DV):Bool:=Rw it.o&&it.fl.isEmpty
section
variable {P:Program}{call:Ag}{r:KC}{ep:Env}{K':Env->AH->Prop}{Kp':AV->Env->AH->Prop}
theorem Nc (hC:AW P call) (hb:r≠.bad) {i pre:Nat}{d:Option Nat}{k:AK}{eff:Bool}{l:List DV}{e:Env}{h:KH}{pend:E4}{K:AV->KH->KC}(hr:Xi call eff k e h K=r)
  (h1:∀v h' pend',K v h'=r->A0 P ep K' Kp' l (e.put d v) (Ai h') pend') (h2:∀v h',r=.Bi v h'->Kp' v ep (Ai h')):A0 P ep K' Kp' (⟨i,⟨d,k,none⟩,pre,[],eff⟩::l) e (Ai h) pend:=by
 cases eff with
 | true=>exact UM (LM hC hr hb (fun v h' hk=>⟨trivial,h1 v h' pend hk⟩) (fun v h' hk=>h2 v h' hk)).1
 | false=>
  have hr:HP.rec (motive:=fun _=>KC) (fun f _=>f e fun v=>K v h) (fun f _=>f e h fun v=>K v h) (fun f _=>f e fun c g=>CO c g h K) (fun _ _=>.bad) (Kl k)=r:=hr
  generalize Kl k=a at hr
  cases a with
  | pu f ok=>
   obtain⟨v,g1,g2⟩:=ok _ _ _ hr hb
   exact Ji g1 (h1 v h pend g2)
  | rd f ok=>
   obtain⟨v,g0,g1,g2⟩:=ok _ _ _ _ hr hb
   exact Ph g0 g1 (h1 v h _ g2)
  | nw f ok=>
   obtain⟨c,g,g0,g1,g2,g3,g4⟩:=ok _ _ _ hr hb
   obtain⟨h',k1,k2⟩:=KH.DC g4 hb
   refine XT g0 (g1 _) g2 ?_
   rw[Mk,<- k1]
   exact h1 _ h' _ k2
  | ef f ok=>exact absurd hr.symm hb
theorem Jo (hC:AW P call) (hb:r≠.bad){s:Nat}{w:Bool}{K:EK}{rest:List DV}(h2:∀v h,r=.Bi v h->Kp' v ep (Ai h)):∀(its:List DV) (e:Env) (h:KH) (pend:E4),its.all VX=true->e AN=.tup [] ->
  (Mc (e s)=some (some w)/\its.all (fun it=>EO s w it.o)=true\/its.all (fun it=>it.o.gd.isNone)=true)->QA call its e h K=r ->
  (∀e' h' pend',(∀t,t ∉ HE its->e' t=e t)->e' AN=.tup []->K e' h'=r->A0 P ep K' Kp' rest e' (Ai h') pend')->A0 P ep K' Kp' (its++rest) e (Ai h) pend
 | [],e,h,pend,_,hd,_,hr,h1=>h1 e h pend (fun _ _=>rfl) hd hr
 | it::its,e,h,pend,ho,hd,hg,hr,h1=>by
  rw[V_]at hr
  simp only[EB,AS]at ho hg
  obtain⟨ho1,ho2⟩:=ho
  simp only[VX,AS]at ho1
  have hd':∀v,(e.put it.o.dst v) AN=.tup []:=fun v=>by rw[B4 (EX ho1.1)];exact hd
  have go:∀v h' pend',(Mc ((e.put it.o.dst v) s)=some (some w)/\its.all (fun it=>EO s w it.o)=true\/its.all (fun it=>it.o.gd.isNone)=true)->QA call its (e.put it.o.dst v) h' K=r->A0 P ep K' Kp' (its++rest) (e.put it.o.dst v) (Ai h') pend':=fun v h' pend' hg' hx=>
   Jo hC hb h2 its (e.put it.o.dst v) h' pend' ho2 (hd' v) hg' hx fun e' h'' pend'' q1 q2 q3=>h1 e' h'' pend'' (fun t ht=>by
    have ht:t ∉ Jy it.o.dst (HE its):=ht
    rw[Gs,not_or]at ht
    rw[q1 t ht.2,B4 ht.1]) q2 q3
  obtain⟨i,⟨dst,k,gd⟩,pre,fl,eff⟩:=it
  have hfl:=ho1.2
  simp only[List.isEmpty_iff]at hfl
  subst hfl
  rcases hg with⟨g1,g2,g3⟩ | ⟨g2,g3⟩
  ·obtain⟨hh,g4⟩:=Fj g2
   simp only at hh g4
   subst hh
   refine UK g1 (fun _=>Nc hC hb hr (fun v h' pend' hx=>go v h' pend' (.inl ⟨by simp only;rw[B4 g4];exact g1,g3⟩) hx) h2) (fun hn=>absurd rfl hn)
  ·simp only[Hu]at g2
   subst g2
   exact Nc hC hb hr (fun v h' pend' hx=>go v h' pend' (.inr g3) hx) h2
theorem NA [YC] {s:Nat}{w:Bool}{b:Option Bool}(hn:b≠some w){rest:List DV}:∀(its:List DV) (e:Env) (H:AH) (pend:E4),its.all (fun it=>EO s w it.o)=true->Mc (e s)=some b->A0 P ep K' Kp' rest (II (HE its) (fun _=>Ad) e) H pend->A0 P ep K' Kp' (its++rest) e H pend
 | [],e,H,pend,_,_,h=>h
 | it::its,e,H,pend,hg,hs,h=>by
  simp only[EB,AS]at hg
  obtain⟨i,⟨dst,k,gd⟩,pre,fl,eff⟩:=it
  obtain⟨hh,g4⟩:=Fj hg.1
  simp only at hh g4
  subst hh
  refine UK hs (fun hw=>absurd hw hn) fun _=>NA hn its _ H pend hg.2 (by rw[B4 g4];exact hs) ?_
  cases dst with
  | none=>exact h
  | some d=>exact h
theorem QO:∀{its:List DV},its.all VX=true->AN ∉ HE its
 | [],_,hm=>by cases hm
 | it::its,h,hm=>by
  have hm:AN∈Jy it.o.dst (HE its):=hm
  simp only[EB,AS,VX]at h
  rw[Gs]at hm
  rcases hm with hm | hm
  ·exact EX h.1.1 hm
  ·exact QO h.2 hm
theorem Nb (hC:AW P call) (hb:r≠.bad){K:EK}(h1:∀e h,e AN=.tup []->K e h=r->K' e (Ai h)) (h2:∀v h,r=.Bi v h->Kp' v ep (Ai h)) :
  ∀(gs:List OJ) (e:Env) (h:KH) (pend:E4),(L6 gs).all VX=true->e AN=.tup []->Xh call gs e h K=r->A0 P ep K' Kp' (L6 gs) e (Ai h) pend
 | [],e,h,pend,_,hd,hr=>h1 e h hd hr
 | (g,its)::gs,e,h,pend,ho,hd,hr=>by
  have hr:(gT call (g,its) e h fun e' h'=>Xh call gs e' h' K)=r:=hr
  change (its++L6 gs).all VX=true at ho
  rw[O5,AS]at ho
  have rest:∀e' h' pend',e' AN=.tup []->Xh call gs e' h' K=r->A0 P ep K' Kp' (L6 gs) e' (Ai h') pend':=fun e' h' pend' hd' hx=>Nb hC hb h1 h2 gs e' h' pend' ho.2 hd' hx
  show A0 P ep K' Kp' (its++L6 gs) e (Ai h) pend
  cases g with
  | none=>
   obtain⟨g1,g2⟩:=LY hr hb
   exact Jo hC hb (s:=0) (w:=true) h2 its e h pend ho.1 hd (.inr g1) g2 fun e' h' pend' _ q2 q3=>rest e' h' pend' q2 q3
  | some p=>
   obtain⟨s,w⟩:=p
   obtain⟨g1,g2⟩:=LY hr hb
   obtain⟨b,k1,k2,k3⟩:=PE g2 hb
   by_cases hw:b=some w
   ·subst hw
    refine Jo hC hb h2 its e h pend ho.1 hd (.inl ⟨k1,g1⟩) (k2 rfl) fun e' h' pend' q1 q2 q3=>rest e' h' pend' q2 ?_
    rw[C3]at q3
    have:II (HE its) e' e=e':=by
     funext t
     rw[Dh]
     split
     ·rfl
     ·rename_i hm;exact(q1 t hm).symm
    rw[this]at q3;exact q3
   ·have k3:=k3 hw
    simp only[C3]at k3
    refine NA hw its e (Ai h) pend g1 k1 (rest _ h _ ?_ k3)
    rw[Dh,if_neg (QO ho.1)]
    exact hd
end
abbrev KK:=List (Nat × (KH->Bool))
def UT (i:Nat) (l:List Nat):Bool:=List.rec (motive:=fun _=>Bool) false (fun j _ ih=>bif Nat.beq i j then true else ih) l
theorem Sy {i:Nat}:∀{l:List Nat},i∈l->UT i l=true
 | j::l,h=>by
  show(bif Nat.beq i j then true else UT i l)=true
  cases h with
  | head=>rw[Ov];rfl
  | tail _ h=>rw[Sy h];cases Nat.beq i j<;>rfl
def bP (fl:List Nat) (pd:KK) (h:KH):Bool:=List.rec (motive:=fun _=>Bool) true (fun p _ ih=>bif UT p.1 fl then(bif p.2 h then ih else false)else ih) pd
theorem Xk {fl:List Nat}{h:KH}:∀{pd:KK},bP fl pd h=true->∀p∈pd,p.1∈fl->p.2 h=true
 | p::pd,hk,q,hq,hf=>by
  have hk:(bif UT p.1 fl then(bif p.2 h then bP fl pd h else false)else bP fl pd h)=true:=hk
  cases hq with
  | head=>
   rw[Sy hf]at hk
   cases hp:p.2 h with
   | true=>rfl
   | false=>rw[hp]at hk;cases hk
  | tail _ hq=>
   refine Xk (pd:=pd) ?_ q hq hf
   cases hm:UT p.1 fl with
   | false=>rw[hm]at hk;exact hk
   | true=>
    rw[hm]at hk
    cases hp:p.2 h with
    | true=>rw[hp]at hk;exact hk
    | false=>rw[hp]at hk;cases hk
def ND (pd:KK) (pend:E4):Prop:=∀i p,pend.lookup i=some p->∃b,(i,b)∈pd/\∀x,b x=true->p (Ai x)
theorem ND.more {pd:KK}{pend:E4}(h:ND pd pend) (q:Nat × (KH->Bool)):ND (q::pd) pend:=fun i p hi=>let ⟨b,h1,h2⟩:=h i p hi;⟨b,.tail _ h1,h2⟩
theorem ND.cons {pd:KK}{pend:E4}(h:ND pd pend){i:Nat}{b:KH->Bool}{p:AH->Prop}(hp:∀x,b x=true->p (Ai x)):ND ((i,b)::pd) ((i,p)::pend):=fun j q hj=>by
 rw[List.lookup_cons]at hj
 by_cases hij:(j==i)=true
 ·rw[hij]at hj
  simp only[AD]at hj
  subst hj
  have:j=i:=by simpa using hij
  subst this
  exact⟨b,.head _,hp⟩
 ·simp only[SQ]at hij
  rw[hij]at hj
  obtain⟨b',h1,h2⟩:=h j q hj
  exact⟨b',.tail _ h1,h2⟩
theorem ND.U9 {pd:KK}{pend:E4}(hp:ND pd pend){h:KH}:∀{fl fl':List Nat},(∀i∈fl',i∈fl)->bP fl pd h=true->U9 fl' pend (Ai h)
 | _,[],_,_=>trivial
 | fl,i::is,hs,hk=>by
  refine⟨?_,ND.U9 hp (fun j hj=>hs j (.tail _ hj)) hk⟩
  cases hl:pend.lookup i with
  | none=>trivial
  | some p=>
   obtain⟨b,h1,h2⟩:=hp i p hl
   exact h2 h (Xk hk _ h1 (hs i (.head _)))
def IK (x:Option AV) (v:AV):Bool:=match x with
 | some y=>ES y v
 | none=>false
def nK (x:Option (List AV)) (v:List AV):Bool:=match x with
 | some y=>HI y v
 | none=>false
def rU (k:AK) (e:Env) (v:AV) (h:KH):Bool:=match k with
 | .load g x=>IK (Et g (x.ev e) h) v
 | k=>IK (AZ k e (Ai h)) v
theorem Yf {k:AK}{e:Env}{v:AV}{h:KH}(hk:rU k e v h=true):AZ k e (Ai h)=some v:=by
 have key:∀{o:Option AV},IK o v=true->o=some v:=fun{o} ho=>by
  unfold IK at ho
  split at ho
  ·rw[CB _ _ ho]
  ·cases ho
 unfold rU at hk
 split at hk
 ·rename_i g x
  have:=key hk
  rw[P2]at this;exact this
 ·exact key hk
def Yg (r:Nat) (c:List AV):KH->Bool:=fun h=>nK (Bz h r) c
def Ud (call:Ag) (eff:Bool) (fl:List Nat) (pd:KK) (k:AK) (e:Env) (h:KH) (K:KG):KC:=
 Bool.rec (motive:=fun _=>KC) (HP.rec (motive:=fun _=>KC) (fun f _=>f e fun v=>K v gP h) (fun f _=>f e h fun v=>K v (rU k e v) h) (fun f _=>f e fun c g=>CO c g h fun v h'=>K v (Yg h.nx c) h') (fun _ _=>.bad) (Kl k))
  (Q2 call k e h fun v h'=>GA (bP fl pd h') (K v gP h')) eff
def Ri (call:Ag) (l:List DV):Env->KH->KK->EK->KC:=
 List.rec (motive:=fun _=>Env->KH->KK->EK->KC) (fun e h _ K=>K e h) (fun it _ ih e h pd K=>
  Option.rec (motive:=fun _=>KC) (Ud call it.eff it.fl pd it.o.k e h fun v c h'=>ih (e.put it.o.dst v) h' ((it.i,c)::pd) K)
   (fun p=>lZ p.2 (e p.1) h (fun v c h'=>ih (e.put it.o.dst v) h' ((it.i,c)::pd) K) fun J=>Ud call it.eff it.fl pd it.o.k e h J) it.o.gd) l
section
variable {P:Program}{call:Ag}{r:KC}{ep:Env}{K':Env->AH->Prop}{Kp':AV->Env->AH->Prop}
theorem NY (hC:AW P call) (hb:r≠.bad) {i pre:Nat}{d:Option Nat}{k:AK}{eff:Bool}{fl:List Nat}{pd:KK}{l:List DV}{e:Env}{h:KH}{pend:E4}(hp:ND pd pend){K:KG}(hr:Ud call eff fl pd k e h K=r)
  (h1:∀v c h' pend',ND ((i,c)::pd) pend'->K v c h'=r->A0 P ep K' Kp' l (e.put d v) (Ai h') pend') (h2:∀v h',r=.Bi v h'->Kp' v ep (Ai h')):A0 P ep K' Kp' (⟨i,⟨d,k,none⟩,pre,fl,eff⟩::l) e (Ai h) pend:=by
 cases eff with
 | true=>
  refine UM (LM hC hr hb (fun v h' hk=>?_) (fun v h' hk=>h2 v h' hk)).1
  obtain⟨g1,g2⟩:=LY hk hb
  exact⟨hp.U9 (fun _ hi=>hi) g1,h1 v gP h' pend (hp.more _) g2⟩
 | false=>
  have hr:HP.rec (motive:=fun _=>KC) (fun f _=>f e fun v=>K v gP h) (fun f _=>f e h fun v=>K v (rU k e v) h) (fun f _=>f e fun c g=>CO c g h fun v h'=>K v (Yg h.nx c) h') (fun _ _=>.bad) (Kl k)=r:=hr
  generalize Kl k=a at hr
  cases a with
  | pu f ok=>
   obtain⟨v,g1,g2⟩:=ok _ _ _ hr hb
   exact Ji g1 (h1 v gP h pend (hp.more _) g2)
  | rd f ok=>
   obtain⟨v,g0,g1,g2⟩:=ok _ _ _ _ hr hb
   exact Ph g0 g1 (h1 v _ h _ (hp.cons fun x hx=>Yf hx) g2)
  | nw f ok=>
   obtain⟨c,g,g0,g1,g2,g3,g4⟩:=ok _ _ _ hr hb
   obtain⟨h',k1,k2⟩:=KH.DC g4 hb
   refine XT g0 (g1 _) g2 ?_
   rw[Mk,<- k1]
   refine h1 _ _ h' _ (hp.cons fun x hx=>?_) k2
   unfold Yg nK at hx
   split at hx
   ·rename_i y hy
    rw[Bq]at hy
    have:=Ca _ _ hx
    subst this
    unfold AH.cells? at hy
    split at hy
    ·rename_i l' hl';simp only[AD]at hy;subst hy;exact hl'
    ·cases hy
   ·cases hx
  | ef f ok=>exact absurd hr.symm hb
theorem NV (hC:AW P call) (hb:r≠.bad){K:EK}(h1:∀e h,e AN=.tup []->K e h=r->K' e (Ai h)) (h2:∀v h,r=.Bi v h->Kp' v ep (Ai h)) :
  ∀(l:List DV) (e:Env) (h:KH) (pd:KK) (pend:E4),ND pd pend->l.all (fun it=>Rw it.o)=true->e AN=.tup []->Ri call l e h pd K=r->A0 P ep K' Kp' l e (Ai h) pend
 | [],e,h,pd,pend,_,_,hd,hr=>h1 e h hd hr
 | ⟨i,⟨dst,k,gd⟩,pre,fl,eff⟩::l,e,h,pd,pend,hp,ho,hd,hr=>by
  simp only[EB,AS]at ho
  have go:∀v c h' pend',ND ((i,c)::pd) pend'->Ri call l (e.put dst v) h' ((i,c)::pd) K=r->A0 P ep K' Kp' l (e.put dst v) (Ai h') pend':=fun v c h' pend' hp' hx=>
   NV hC hb h1 h2 l _ h' _ pend' hp' ho.2 (by rw[B4 (EX ho.1)];exact hd) hx
  cases gd with
  | none=>
   have hr:(Ud call eff fl pd k e h fun v c h'=>Ri call l (e.put dst v) h' ((i,c)::pd) K)=r:=hr
   exact NY hC hb hp hr (fun v c h' pend' q1 q2=>go v c h' pend' q1 q2) h2
  | some p=>
   obtain⟨s,w⟩:=p
   have hr:(YD w (e s) (Ud call eff fl pd k e h fun v c h'=>Ri call l (e.put dst v) h' ((i,c)::pd) K) (Ri call l (e.put dst Ad) h ((i,gP)::pd) K))=r:=hr
   obtain⟨b,k1,k2,k3⟩:=PE hr hb
   exact UK k1 (fun hw=>NY hC hb hp (k2 hw) (fun v c h' pend' q1 q2=>go v c h' pend' q1 q2) h2) (fun hw=>go Ad gP h pend (hp.more _) (k3 hw))
end
def Xg (call:Ag) (plan:List DV) (e:Env) (h:KH) (K:EK):KC:=
 Bool.rec (motive:=fun _=>KC) (Bool.rec (motive:=fun _=>KC) .bad (Ri call plan e h [] K) (plan.all (fun it=>Rw it.o))) (Xh call (Yn plan) e h K) (plan.all VX)
theorem Kb {plan:List DV}{e:Env}(ho:plan.all (fun it=>Rw it.o)=true):JD plan e AN=e AN:=by
 unfold JD
 rw[if_neg]
 intro hh
 rw[Gj]at hh
 obtain⟨it,h1,h2⟩:=hh
 rw[CY]at ho
 exact EX (ho it h1) (by simpa using h2)
theorem Na {P:Program}{call:Ag}{r:KC}{K':Env->AH->Prop}{Kp':AV->Env->AH->Prop}(hC:AW P call) (hb:r≠.bad){K:EK}(h1:∀e h,e AN=.tup []->K e h=r->K' e (Ai h)) (h2:∀v h,r=.Bi v h->∀e,e AN=.tup []->Kp' v e (Ai h))
  {plan:List DV} {e:Env} {h:KH} (hd:e AN=.tup []) (hr:Xg call plan e h K=r):A0 P (JD plan e) K' Kp' plan e (Ai h) []:=by
 unfold Xg at hr
 cases hf:plan.all VX with
 | true=>
  rw[hf]at hr
  have hd':plan.all (fun it=>Rw it.o)=true:=by
   rw[CY]at hf ⊢
   intro x hx
   have:=hf x hx
   simp only[VX,AS]at this
   exact this.1
  have:=Nb hC hb (ep:=JD plan e) (Kp':=Kp') h1 (fun v h hv=>h2 v h hv _ (by rw[Kb hd'];exact hd)) (Yn plan) e h [] (by rw[IQ];exact hf) hd hr
  rw[IQ]at this;exact this
 | false=>
  rw[hf]at hr
  obtain⟨g1,g2⟩:=LY hr hb
  exact NV hC hb h1 (fun v h hv=>h2 v h hv _ (by rw[Kb g1];exact hd)) plan e h [] [] (fun i p hi=>by cases hi) g1 hd g2
end
noncomputable section
variable [BX]
inductive HT where
 | l
 | s (a b:HT)
 | i (a b:HT)
 | j (l:List Nat) (a b:HT)
def CT (l:List Nat):JT l:=List.rec (motive:=fun l=>JT l) (fun _=>.bad) (fun _ _ ih _=>ih) l
theorem LN:∀(l:List Nat) (e:Env) (h:KH),CQ l (CT l) e h=.bad
 | [],_,_=>rfl
 | _::l,e,h=>LN l e h
def Ar:Env:=fun i=>bif Nat.beq i AN then .tup []else .unk
def TB (id:Nat) (K:EK) (ke:Nat->EK):Nat->EK:=(fun(_:AK->Nat) i=>Bool.rec (motive:=fun _=>EK) (ke i) K (Nat.beq i id)) Zl
theorem Ob (id:Nat) (K:EK) (ke:Nat->EK) (i:Nat):TB id K ke i=if i=id then K else ke i:=by
 show Bool.rec (motive:=fun _=>EK) (ke i) K (Nat.beq i id)=_
 rw[Ck]
 by_cases h:i=id<;>simp[h]
def KZ:EK:=fun _ _=>.bad
def run (call:Ag) (c:Ax):HT->EK->(Nat->EK)->EK->EK:=
 Ax.rec (motive:=fun _=>HT->EK->(Nat->EK)->EK->EK)
  (fun _ kn _ _=>kn)
  (fun ops _ kn _ _ e h=>jC call ops e h kn)
  (fun plan _ kn _ _ e h=>Xg call plan e h kn)
  (fun _ _ ra rb t kn ke kr=>HT.rec (motive:=fun _=>EK) KZ (fun x y _ _=>ra x (rb y kn ke kr) ke kr) (fun _ _ _ _=>KZ) (fun _ _ _ _ _=>KZ) t)
  (fun c _ _ ra rb t kn ke kr e h=>HT.rec (motive:=fun _=>KC) .bad (fun _ _ _ _=>.bad) (fun x y _ _=>A7 (c.ev e) (ra x kn ke kr e h) (rb y kn ke kr e h))
   (fun l x y _ _=>JW (c.ev e) (IP l Ar kn) (fun J=>ra x (CQ l J) ke kr e h) (fun J=>rb y (CQ l J) ke kr e h)) t)
  (fun id _ ra t kn ke kr e h=>HT.rec (motive:=fun _=>KC) .bad (fun _ _ _ _=>.bad) (fun x _ _ _=>ra x kn (TB id kn ke) kr e h)
   (fun l x _ _ _=>Zi (IP l Ar kn) fun J=>ra x (CQ l J) (TB id (CQ l J) ke) kr e h) t)
  (fun _ ra t _ ke kr e h=>HT.rec (motive:=fun _=>KC) .bad (fun _ _ _ _=>.bad) (fun _ _ _ _=>.bad)
   (fun l x _ _ _=>CQ l (BG (CT l) fun self=>IP l Ar fun e h=>ra x (CQ l self) ke kr e h) e h) t)
  (fun id _ _ ke _=>ke id)
  (fun _ _ _ kr=>kr)
  (fun _ _ _ _ _ _ _ _ _ _=>KZ) c
def KQ (r:KC) (kn:EK) (ke:Nat->EK) (kr:EK):Ex->Env->AH->Prop:=fun x e H=>e AN=.tup []/\∃h,Ai h=H/\match x with
 | .normal=>kn e h=r
 | .exit i=>ke i e h=r
 | .ret=>kr e h=r
 | .Bi v=>r=.Bi v h
theorem Cx {l:List Nat}{e:Env}(hd:e AN=.tup []):(∀t,II l e Ar t=e t\/II l e Ar t=.unk)/\II l e Ar AN=.tup []:=by
 refine⟨fun t=>?_,?_⟩
 ·rw[Dh]
  split
  ·exact .inl rfl
  ·unfold Ar
   rw[Ck,Cr]
   split
   ·rename_i h;subst h;exact .inl hd.symm
   ·exact .inr rfl
 ·rw[Dh]
  split
  ·exact hd
  ·unfold Ar
   rw[Ov];rfl
theorem S_ {l:List Nat}{e:Env}{H:AH}(hd:e AN=.tup []):VS e H (II l e Ar) H:=VS.GI (Cx hd).1 ((Cx hd).2.trans hd.symm)
theorem KQ.join {r:KC}{l:List Nat}{kn:EK}{ke:Nat->EK}{kr:EK}:∀x e H,KQ r (CQ l (IP l Ar kn)) ke kr x e H->lJ (KQ r kn ke kr) x e H:=by
 rintro x e H ⟨hd,h,rfl,hx⟩
 cases x with
 | normal=>
  simp only[C3]at hx
  exact⟨_,_,S_ (l:=l) hd,(Cx hd).2,h,rfl,hx⟩
 | exit i=>exact BB ⟨hd,h,rfl,hx⟩
 | ret=>exact BB ⟨hd,h,rfl,hx⟩
 | Bi v=>exact⟨hd,h,rfl,hx⟩
section
variable {P:Program}{call:Ag}{r:KC}{n:Nat}{hs:Hints}
theorem KU (hC:AW P call) (hmix:P.follows .mixedOrders=true) (hn:n<=AN) (hb:r≠.bad):∀(c:Code) (ac:Ax),comp P hs n c=some ac ->
  ∀(t:HT) (kn:EK) (ke:Nat->EK) (kr:EK) (e:Env) (h:KH),e AN=.tup []->run call ac t kn ke kr e h=r->DS P n c (KQ r kn ke kr) e (Ai h):=by
 have hbb:KC.bad≠r:=fun h=>hb h.symm
 intro c
 induction c with
 | skip=>
  intro ac hc t kn ke kr e h hd hr
  simp only[comp,AD]at hc;subst hc
  exact CS.skip ⟨hd,h,rfl,hr⟩
 | exit id=>
  intro ac hc t kn ke kr e h hd hr
  simp only[comp,AD]at hc;subst hc
  exact CS.exit ⟨hd,h,rfl,hr⟩
 | ret=>
  intro ac hc t kn ke kr e h hd hr
  simp only[comp,AD]at hc;subst hc
  exact CS.ret ⟨hd,h,rfl,hr⟩
 | region id ops draw=>
  intro ac hc t kn ke kr e h hd hr
  have h1:∀e' h',e' AN=.tup []->kn e' h'=r->VV (KQ r kn ke kr) .normal e' (Ai h'):=fun e' h' q1 q2=>Fu ⟨q1,h',rfl,q2⟩
  have h2:∀v h',r=.Bi v h'->∀e',e' AN=.tup []->KQ r kn ke kr (.Bi v) e' (Ai h'):=fun v h' q1 e' q2=>⟨q2,h',rfl,q1⟩
  refine CS.ae hmix hn hc (.inl rfl) ?_
  cases draw with
  | true=>
   simp only[comp]at hc
   split at hc<;>(try (cases hc;done))
   split at hc<;>(try (cases hc;done))
   rename_i plan hpl
   split at hc<;>(try (cases hc;done))
   simp only[AD]at hc;subst hc
   exact Oh (Na hC hb (K':=fun e' H'=>VV (KQ r kn ke kr) .normal e' H') (Kp':=fun v e' H'=>KQ r kn ke kr (.Bi v) e' H') h1 h2 hd hr)
  | false=>
   simp only[comp,AO]at hc
   obtain⟨al,hal,rfl⟩:=hc
   exact HF (Px hC hb (K':=fun e' H'=>VV (KQ r kn ke kr) .normal e' H') (Kp':=fun v e' H'=>KQ r kn ke kr (.Bi v) e' H') h1 h2 hd hr)
 | seq x y ihx ihy=>
  intro ac hc t kn ke kr e h hd hr
  simp only[comp]at hc
  split at hc
  ·rename_i ax ay hx hy
   simp only[AD]at hc;subst hc
   cases t with
   | l=>exact absurd hr hbb
   | i a b=>exact absurd hr hbb
   | j l a b=>exact absurd hr hbb
   | s a b=>
    have hr:run call ax a (run call ay b kn ke kr) ke kr e h=r:=hr
    refine CS.seq (CS.post ?_ (ihx ax hx a _ ke kr e h hd hr))
    rintro z e' H' ⟨hd',h',rfl,hz⟩
    refine BB ?_
    cases z with
    | normal=>exact ihy ay hy b kn ke kr e' h' hd' hz
    | exit i=>exact⟨hd',h',rfl,hz⟩
    | ret=>exact⟨hd',h',rfl,hz⟩
    | Bi v=>exact⟨hd',h',rfl,hz⟩
  ·cases hc
 | cond c x y ihx ihy=>
  intro ac hc t kn ke kr e h hd hr
  simp only[comp]at hc
  split at hc
  ·rename_i c' ax ay h1 hx hy
   simp only[AD]at hc;subst hc
   have go:∀{A B:KC} {Q:Ex->Env->AH->Prop},A7 (c'.ev e) A B=r->(A=r->DS P n x Q e (Ai h))->(B=r->DS P n y Q e (Ai h))->DS P n (.cond c x y) Q e (Ai h):=fun{A B Q} hi ha hbq=>by
    unfold A7 at hi
    cases hv:Tw (c'.ev e)with
    | no=>rw[hv]at hi;exact absurd hi hbb
    | «at» b=>
     rw[hv]at hi
     refine CS.cond h1 (OV hv) (fun ht=>?_) (fun ht=>?_)
     ·subst ht;exact ha hi
     ·subst ht;exact hbq hi
   cases t with
   | l=>exact absurd hr hbb
   | s a b=>exact absurd hr hbb
   | i a b=>exact go hr (fun q=>ihx ax hx a kn ke kr e h hd q) (fun q=>ihy ay hy b kn ke kr e h hd q)
   | j l a b=>exact go hr (fun q=>(ihx ax hx a _ ke kr e h hd q).post KQ.join) (fun q=>(ihy ay hy b _ ke kr e h hd q).post KQ.join)
  ·cases hc
 | block id x ih=>
  intro ac hc t kn ke kr e h hd hr
  simp only[comp,AO]at hc
  obtain⟨ax,hx,rfl⟩:=hc
  cases t with
  | l=>exact absurd hr hbb
  | s a b=>exact absurd hr hbb
  | i a b=>
   refine CS.block ((ih ax hx a kn (TB id kn ke) kr e h hd hr).post ?_)
   rintro z e' H' ⟨hd',h',rfl,hz⟩
   refine BB ?_
   cases z with
   | normal=>exact⟨hd',h',rfl,hz⟩
   | exit i=>
    simp only[Ob]at hz
    simp only[]
    by_cases hi:i=id
    ·rw[if_pos hi];rw[if_pos hi]at hz;exact⟨hd',h',rfl,hz⟩
    ·rw[if_neg hi];rw[if_neg hi]at hz;exact⟨hd',h',rfl,hz⟩
   | ret=>exact⟨hd',h',rfl,hz⟩
   | Bi v=>exact⟨hd',h',rfl,hz⟩
  | j l a b=>
   have hr:run call ax a (CQ l (IP l Ar kn)) (TB id (CQ l (IP l Ar kn)) ke) kr e h=r:=hr
   refine CS.block ((ih ax hx a _ _ kr e h hd hr).post ?_)
   rintro z e' H' ⟨hd',h',rfl,hz⟩
   cases z with
   | normal=>exact KQ.join (l:=l) .normal e' _ ⟨hd',h',rfl,hz⟩
   | exit i=>
    simp only[Ob]at hz
    by_cases hi:i=id
    ·rw[if_pos hi]at hz
     simp only[C3]at hz
     refine⟨_,_,S_ (l:=l) hd',?_⟩
     simp only[hi,if_true]
     exact⟨(Cx hd').2,h',rfl,hz⟩
    ·rw[if_neg hi]at hz
     refine BB ?_
     simp only[]
     rw[if_neg hi];exact⟨hd',h',rfl,hz⟩
   | ret=>exact BB ⟨hd',h',rfl,hz⟩
   | Bi v=>exact⟨hd',h',rfl,hz⟩
 | loop x ih=>
  intro ac hc t kn ke kr e h hd hr
  simp only[comp,AO]at hc
  obtain⟨ax,hx,rfl⟩:=hc
  cases t with
  | l=>exact absurd hr hbb
  | s a b=>exact absurd hr hbb
  | i a b=>exact absurd hr hbb
  | j l a b=>
   have hr:CQ l (Vd (CT l) (fun self=>IP l Ar fun e h=>run call ax a (CQ l self) ke kr e h) bH) e h=r:=hr
   generalize hbody:(fun self:JT l=>IP l Ar fun e h=>run call ax a (CQ l self) ke kr e h)=body at hr
   refine CS.loop (L:=fun k e H=>e AN=.tup []/\∃h,Ai h=H/\CQ l (Vd (CT l) body k) e h=r) ⟨hd,h,rfl,hr⟩ ?_
   rintro k e1 H1 ⟨hd1,h1,rfl,hr1⟩
   cases k with
   | zero=>
    have hr1:CQ l (CT l) e1 h1=r:=hr1
    rw[LN]at hr1
    exact absurd hr1 hbb
   | succ k=>
    have hr1:CQ l (body (Vd (CT l) body k)) e1 h1=r:=hr1
    rw[<- hbody,C3,hbody]at hr1
    refine CS.vs (S_ (l:=l) hd1) ((ih ax hx a _ ke kr _ h1 (Cx hd1).2 hr1).post ?_)
    rintro z e' H' ⟨hd',h',rfl,hz⟩
    refine BB ?_
    cases z with
    | normal=>exact⟨k,Nat.lt_succ_self k,hd',h',rfl,hz⟩
    | exit i=>exact⟨hd',h',rfl,hz⟩
    | ret=>exact⟨hd',h',rfl,hz⟩
    | Bi v=>exact⟨hd',h',rfl,hz⟩
 | rangeFunc g ps zs bd=>
  intro ac hc t kn ke kr e h hd hr
  simp only[comp]at hc
  split at hc<;>(try (cases hc;done))
  split at hc<;>(try (cases hc;done))
  simp only[AD]at hc;subst hc
  exact absurd hr hbb
 | label l=>
  intro ac hc t kn ke kr e h hd hr
  simp only[comp,AD]at hc;subst hc
  exact CS.label ⟨hd,h,rfl,hr⟩
 | scope x ih=>
  intro ac hc t kn ke kr e h hd hr
  simp only[comp,AO]at hc
  obtain⟨ax,hx,rfl⟩:=hc
  cases t with
  | l=>exact absurd hr hbb
  | s a b=>exact absurd hr hbb
  | i a b=>exact CS.scope (ih ax hx a kn ke kr e h hd hr)
  | j l a b=>exact CS.scope ((ih ax hx a _ ke kr e h hd hr).post KQ.join)
 | _=>intro ac hc;simp[comp]at hc
end
def jB (q:List Cc) (e:Env) (h:KH):(List AV->KC)->KC:=
 List.rec (motive:=fun _=>(List AV->KC)->KC) (fun K=>K []) (fun r _ ih K=>Cc.rec (motive:=fun _=>KC) (fun i=>ih fun l=>K (e i::l)) (fun a g=>AT g (e a) h fun v=>ih fun l=>K (v::l)) r) q
def Ik (q:List Cc):EK:=fun e h=>jB q e h fun l=>.ret (I9 l) h
theorem Pw {e:Env}{h:KH}{r:KC}(hb:r≠.bad):∀{q:List Cc}{K:List AV->KC},jB q e h K=r->∃l,DQ e (Ai h) q=some l/\K l=r
 | [],K,hr=>⟨[],rfl,hr⟩
 | .tmp i::q,K,hr=>by
  obtain⟨l,h1,h2⟩:=Pw hb (q:=q) (K:=fun l=>K (e i::l)) hr
  exact⟨_,by simp only[DQ,h1];rfl,h2⟩
 | .cell a g::q,K,hr=>by
  have hr:AT g (e a) h (fun v=>jB q e h fun l=>K (v::l))=r:=hr
  rw[Wy]at hr
  obtain⟨v,g1,g2⟩:=L4 hr hb
  obtain⟨l,h1,h2⟩:=Pw hb (q:=q) g2
  exact⟨_,by simp only[DQ,g1,h1];rfl,h2⟩
theorem IL {e:Env}{h:KH}{r:KC}{q:List Cc}(hb:r≠.bad) (hr:Ik q e h=r):∃l,DQ e (Ai h) q=some l/\r=.ret (I9 l) h:=by
 obtain⟨l,h1,h2⟩:=Pw hb hr
 exact⟨l,h1,h2.symm⟩
def An (zs:List AV) (K:AV->List AV->KC):KC:=List.rec (motive:=fun _=>KC) .bad (fun v t _=>K v t) zs
def Bn (zs:List AV) (K:KC):KC:=List.rec (motive:=fun _=>KC) K (fun _ _ _=>.bad) zs
def MQ (np:Nat):Nat->Env->List AV->KH->EK->KC:=
 Nat.rec (motive:=fun _=>Nat->Env->List AV->KH->EK->KC) (fun _ e zs h K=>Bn zs (K e h)) (fun _ ih i e zs h K=>An zs fun v t=>ih (Nat.succ i) (e.set i v) t h K) np
theorem IM {r:KC}(hb:r≠.bad){h:KH}{K:EK}:∀(np i:Nat) (e:Env) (zs:List AV),MQ np i e zs h K=r->zs.length=np/\∃e',K e' h=r/\∀t,e' t=if i<=t/\t<i+np then zs.getD (t-i) .unk else e t
 | 0,i,e,[],hr=>⟨rfl,e,hr,fun t=>by rw[if_neg (by omega)]⟩
 | 0,i,e,_::_,hr=>absurd hr.symm hb
 | np+1,i,e,[],hr=>absurd hr.symm hb
 | np+1,i,e,v::zs,hr=>by
  obtain⟨h1,e',h2,h3⟩:=IM hb np (i+1) (e.set i v) zs hr
  refine⟨by rw[BV,h1],e',h2,fun t=>?_⟩
  rw[h3,Env.AM]
  by_cases c1:t=i
  ·subst c1
   rw[if_neg (by omega),if_pos rfl,if_pos (by omega)];simp
  ·by_cases c2:i+1<=t/\t<i+1+np
   ·rw[if_pos c2,if_pos (by omega)]
    have:t-i=(t-(i+1))+1:=by omega
    rw[this];simp
   ·rw[if_neg c2,if_neg c1,if_neg (by omega)]
def jE (np:Nat) (q:List Cc) (ac:Ax) (t:HT):Ag->List AV->KH->KC:=fun call zs h=>
 MQ np 0 Ar zs h fun e h=>run call ac t (Ik q) (fun _=>KZ) (Ik q) e h
abbrev GF:=Ag->List AV->KH->KC
def Aw (P:Program) (g:FuncId) (F:GF):Prop:=∀call,AW P call->∀zs h,
 (∀v h',F call zs h=.ret v h'->AP P g zs (Ai h) (fun o H'=>o=.ret v/\H'=Ai h')) /\
 (∀v h',F call zs h=.Bi v h'->AP P g zs (Ai h) (fun o H'=>o=.Bi v/\H'=Ai h'))
theorem V9 {P:Program}{g n np:Nat}{q:List Cc}{ac:Ax}{t:HT}(hF:Mh P g n ac q) (hnp:Nat.ble np n=true){F:GF}(hf:F=jE np q ac t):Aw P g F:=by
 subst hf
 intro call hC zs h
 have hnp:=Ab hnp
 have main:∀(r:KC) (post:Am->AH->Prop),jE np q ac t call zs h=r->r≠.bad->(∀v h',r=.ret v h'->post (.ret v) (Ai h'))->(∀v h',r=.Bi v h'->post (.Bi v) (Ai h'))->AP P g zs (Ai h) post:=by
  intro r post hr hb p1 p2
  obtain⟨h1,e,h2,h3⟩:=IM hb np 0 Ar zs hr
  have hle:=hF.le
  have he:e=CI zs:=by
   funext t
   rw[h3,CI,Ar,Ck,Cr]
   by_cases c1:t=AN
   ·subst c1
    rw[if_neg (by omega),if_pos rfl,if_pos rfl]
   ·rw[if_neg c1,if_neg c1]
    by_cases c2:t<np
    ·rw[if_pos (by omega)];rfl
    ·rw[if_neg (by omega),A6,BM (by omega)];rfl
  subst he
  refine hF.cW (by omega) fun c hs hc=>CS.post ?_ (KU hC hF.mix hF.le hb c ac hc t _ _ _ _ h (by simp[CI]) h2)
  rintro x e' H' ⟨hd,h',rfl,hx⟩
  refine BB ⟨⟨[],hd,IE⟩,?_⟩
  cases x with
  | normal=>
   obtain⟨l,g1,g2⟩:=IL hb hx
   simp only[GN,g1]
   exact p1 _ _ g2
  | ret=>
   obtain⟨l,g1,g2⟩:=IL hb hx
   simp only[GN,g1]
   exact p1 _ _ g2
  | exit i=>exact absurd hx.symm hb
  | Bi v=>exact p2 _ _ hx
 exact⟨fun v h' hr=>main _ _ hr (by intro hh;cases hh) (fun v' h'' hh=>by cases hh;exact⟨rfl,rfl⟩) (fun v' h'' hh=>by cases hh),
  fun v h' hr=>main _ _ hr (by intro hh;cases hh) (fun v' h'' hh=>by cases hh) (fun v' h'' hh=>by cases hh;exact⟨rfl,rfl⟩)⟩
abbrev OK:=FuncId->Option GF
def Uy (Tb:OK) (orc:Ag) (n:Nat):Ag:=
 Nat.rec (motive:=fun _=>Ag) (fun _ _ _=>.bad) (fun _ ih g zs h=>Option.rec (motive:=fun _=>KC) (orc g zs h) (fun F=>F ih zs h) (Tb g)) n
def Kv (P:Program) (Tb:OK):Prop:=∀g F,Tb g=some F->Aw P g F
def Cq (k:Nat) (l r:OK):OK:=fun g=>bif Nat.ble k g then r g else l g
def Cj (k:Nat) (F:GF):OK:=fun g=>bif Nat.beq g k then some F else none
theorem Ay {P:Program}{k:Nat}{l r:OK}(hl:Kv P l) (hr:Kv P r):Kv P (Cq k l r):=fun g F h=>by
 unfold Cq at h
 cases hk:Nat.ble k g with
 | true=>rw[hk]at h;exact hr g F h
 | false=>rw[hk]at h;exact hl g F h
theorem Au {P:Program}{k:Nat}{F:GF}(h:Aw P k F):Kv P (Cj k F):=fun g F' hh=>by
 unfold Cj at hh
 rw[Ck,Cr]at hh
 split at hh
 ·rename_i hg;subst hg;cases hh;exact h
 ·cases hh
theorem VA {P:Program}:AW P (fun _ _ _=>.bad):=fun _ _ _=>⟨fun _ _ h=>(by cases h),fun _ _ h=>(by cases h)⟩
theorem MV {P:Program}{Tb:OK}{orc:Ag}(hT:Kv P Tb) (hO:AW P orc):∀n,AW P (Uy Tb orc n)
 | 0=>VA
 | n+1=>fun g zs h=>by
  have e0:Uy Tb orc (n+1) g zs h=Option.rec (motive:=fun _=>KC) (orc g zs h) (fun F=>F (Uy Tb orc n) zs h) (Tb g):=rfl
  rw[e0]
  cases ht:Tb g with
  | none=>exact hO g zs h
  | some F=>exact hT g F ht _ (MV hT hO n) zs h
def Ea (P:Program) (fn:Func) (hs:Hints) (n:Nat):Ax:=Option.rec (motive:=fun _=>Ax) .skip (fun c=>c) (fn.body.bind (comp P hs n))
def I (n:Nat):AV:=.int .i64 (.ofNat n)
def N (k:IntKind) (n:Nat):AV:=.int k (.ofNat n)
def Bl (n:Nat) (x:AV) (l:List AV):List AV:=Nat.rec (motive:=fun _=>List AV) l (fun _ ih=>x::ih) n
end
noncomputable section
variable [BX] [YC]
def fL (e:Env) (ps:List (Nat × Nat × AF)):List (Nat × Nat × AF):=List.rec (motive:=fun _=>List (Nat × Nat × AF)) [] (fun p _ ih=>(p.1,p.2.1,.cst (p.2.2.ev e))::ih) ps
theorem Od (e:Env):∀(ps:List (Nat × Nat × AF)) (c:List AV),B5 emp c (fL e ps)=B5 e c ps
 | [],c=>rfl
 | (o,n,x)::ps,c=>by
  show B5 emp c ((o,n,.cst (x.ev e))::fL e ps)=_
  simp only[B5,AF.ev,Od e ps]
def C2 (e:Env) (k:AK):AK:=match k with
 | .move x=>.move (Eu e x)
 | .pick c a b=>.pick (Eu e c) (Eu e a) (Eu e b)
 | .build z ps=>.build z (fL e ps)
 | .nilCheck x=>.nilCheck (Eu e x)
 | .bin op x y=>.bin op (Eu e x) (Eu e y)
 | .convI k x=>.convI k (Eu e x)
 | .mkIface t x=>.mkIface t (Eu e x)
 | .fieldAddr off x=>.fieldAddr off (Eu e x)
 | .field g off x=>.field g off (Eu e x)
 | .indexAddrA n z x i=>.indexAddrA n z (Eu e x) (Eu e i)
 | .indexAddrS z x i=>.indexAddrS z (Eu e x) (Eu e i)
 | .extract i x=>.extract i (Eu e x)
 | .len x=>.len (Eu e x)
 | .load g x=>.load g (Eu e x)
 | .box x=>.box (Eu e x)
 | .buildSlice z n c ps=>.buildSlice z n c (fL e ps)
 | .store n x v=>.store n (Eu e x) (Eu e v)
 | .append z b s x=>.append z b (Eu e s) (Eu e x)
 | k=>P8 e k
inductive VZ where
 | mv (x:AF)
 | ifc (t:TypeId) (x:AF)
 | fnc (f:Fn) (a b:List AF)
 | call (f:AF) (args:List AF)
 | Bi (x:AF)
 | no
 | pu
 | rd
 | ef
 | nx (x:AF)
def Jg (k:AK):VZ:=match k with
 | .move x=>.mv x
 | .mkIface t x=>.ifc t x
 | .mkFunc f a b=>.fnc f a b
 | .call f args=>.call f args
 | .panic x=>.Bi x
 | .defer _ _=>.no
 | .recover=>.no
 | .nextM x=>.nx x
 | .load .. | .strOfBytes _ | .lookup .. | .lenMap _ | .ext .. | .entryM _ | .gld ..=>.rd
 | .alloc _ | .box _ | .buildSlice .. | .mkSlice .. | .store .. | .append .. | .mark _ | .appendZ .. | .makeMap | .rangeM _ | .mapUpd .. | .bytesOf _ | .JD .. | .copy ..=>.ef
 | _=>.pu
def AB (k:AK) (K:AV->Prop):Prop:=Option.rec (motive:=fun _=>Prop) False K (AI k emp)
def AE (k:AK) (H:AH) (K:AV->Prop):Prop:=Option.rec (motive:=fun _=>Prop) False K (AZ k emp H)
def AQ (k:AK) (H:AH) (K:AV->AH->Prop):Prop:=Option.rec (motive:=fun _=>Prop) False (fun p=>Prod.rec (motive:=fun _=>Prop) K p) (BL k emp H)
def AG (P:Program) (g:FuncId) (zs:List AV) (H:AH) (Kp K:AV->AH->Prop):Prop:=AP P g zs H fun o H'=>match o with
 | .ret v=>K v H'
 | .Bi v=>Kp v H'
def iL (fv:AV) (zs:List AV) (H:AH) (Kp K:AV->AH->Prop):Prop:=match fv with
 | .fn (.yield l) [] []=>YC.y l zs H fun o H'=>match o with
  | .ret v=>K v H'
  | .Bi v=>Kp v H'
 | _=>False
def DT (P:Program) (fv:AV) (zs:List AV) (H:AH) (Kp K:AV->AH->Prop):Prop:=
 FP.rec (motive:=fun _=>Prop) (iL fv zs H Kp K) (fun g first cap=>AG P g (TC first (TC zs cap)) H Kp K) (Vj fv)
def CF (v:AV) (H:AH) (Kp:AV->AH->Prop):Prop:=match v with
 | .ifc t v=>Kp (.ifc t v) H
 | _=>False
def Tm (w:Bool) (v:AV) (A B:Prop):Prop:=match Mc v with
 | some b=>(b=some w->A)/\(b≠some w->B)
 | none=>False
def BF {T:Type}(w:Bool) (v:AV) (J:T) (A B:T->Prop):Prop:=Tm w v (A J) (B J)
def AU (v:AV) (A B:Prop):Prop:=match v with
 | .bool t=>(t=true->A)/\(t=false->B)
 | _=>False
def Qr {T:Type}(v:AV) (J:T) (A B:T->Prop):Prop:=AU v (A J) (B J)
def Wv {T:Type}(J:T) (A:T->Prop):Prop:=A J
def Vc (x:AV) (H:AH) (K:AV->AH->Prop):Prop:=Option.rec (motive:=fun _=>Prop) False (fun l=>∀p∈l,K p.1 p.2) (KE x H)
abbrev PK:=Env->AH->Prop
def JP (l:List Nat):Type:=List.rec (motive:=fun _=>Type) (AH->Prop) (fun _ _ t=>AV->t) l
def JN (l:List Nat):Type:=List.rec (motive:=fun _=>Type) (AH->Nat) (fun _ _ t=>AV->t) l
def Jm (l:List Nat):JN l->Env->AH->Nat:=
 List.rec (motive:=fun l=>JN l->Env->AH->Nat) (fun J _ h=>J h) (fun i _ ih J e h=>ih (J (e i)) e h) l
def Eh (l:List Nat):JP l->PK:=
 List.rec (motive:=fun l=>JP l->PK) (fun J _ h=>J h) (fun i _ ih J e h=>ih (J (e i)) e h) l
def UD (l:List Nat):Env->PK->JP l:=
 List.rec (motive:=fun l=>Env->PK->JP l) (fun e0 f h=>f e0 h) (fun i _ ih e0 f v=>ih (e0.set i v) f) l
def Ah (l:List Nat) (body:JP l->JP l) (e:Env) (H:AH):Prop:=∃(I:JP l) (μ:JN l),Eh l I e H/\∀e H,Eh l I e H->Eh l (body (UD l emp fun e' H'=>Eh l I e' H'/\Jm l μ e' H'<Jm l μ e H)) e H
def Qs:Nat:=
 let _a:=@Ah
 let _b:=@Qr Nat
 let _c:=@BF Nat
 let _d:=@Wv Nat
 let _e:=DT
 let _f:=CF
 let _g:=AB
 let _h:=AE
 let _i:=AQ
 let _j:=Vc
 0
def GD (l:List Nat):JP l->PK:=
 (fun(_:Nat)=>(List.rec (motive:=fun l=>JP l->PK) (fun J _ h=>J h) (fun i _ ih J e h=>ih (J (e i)) e h) l:JP l->PK)) Qs
def OE (l:List Nat):Env->PK->JP l:=
 (fun(_:Nat)=>(List.rec (motive:=fun l=>Env->PK->JP l) (fun e0 f h=>f e0 h) (fun i _ ih e0 f v=>ih (e0.set i v) f) l:Env->PK->JP l)) Qs
theorem D9:∀(l:List Nat) (e0:Env) (f:PK) (e:Env) (h:AH),GD l (OE l e0 f) e h=f (II l e e0) h
 | [],_,_,_,_=>rfl
 | i::l,e0,f,e,h=>by
  show GD l (OE l (e0.set i (e i)) f) e h=_
  rw[D9 l];rfl
def Vu (P:Program) (k:AK) (e:Env) (H:AH) (Kp K:AV->AH->Prop):Prop:=
 (fun(_:Nat)=>VZ.rec (motive:=fun _=>Prop) (fun x=>K (x.ev e) H) (fun t x=>K (.ifc t (x.ev e)) H) (fun f a b=>K (.fn f (GH e a) (GH e b)) H) (fun f args=>DT P (f.ev e) (GH e args) H Kp K) (fun x=>CF (x.ev e) H Kp) False
  (AB (C2 e k) fun v=>K v H) (AE (C2 e k) H fun v=>K v H) (AQ (C2 e k) H K) (fun x=>Vc (x.ev e) H K) (Jg k)) Qs
theorem PB {k:AK}{K:AV->Prop}(h:AB k K):∃v,AI k emp=some v/\K v:=by
 unfold AB at h
 cases hk:AI k emp with
 | none=>rw[hk]at h;exact h.elim
 | some v=>rw[hk]at h;exact⟨v,rfl,h⟩
theorem L0 {k:AK}{H:AH}{K:AV->Prop}(h:AE k H K):∃v,AZ k emp H=some v/\K v:=by
 unfold AE at h
 cases hk:AZ k emp H with
 | none=>rw[hk]at h;exact h.elim
 | some v=>rw[hk]at h;exact⟨v,rfl,h⟩
theorem ZQ {k:AK}{H:AH}{K:AV->AH->Prop}(h:AQ k H K):∃v H',BL k emp H=some (v,H')/\K v H':=by
 unfold AQ at h
 cases hk:BL k emp H with
 | none=>rw[hk]at h;exact h.elim
 | some p=>rw[hk]at h;exact⟨p.1,p.2,rfl,h⟩
theorem P4 (e:Env) (k:AK) (hk:Jg k=.pu):AI (C2 e k) emp=AI k e:=by
 cases k<;>first
  | (cases hk;done)
  | rfl
  | (simp only[AI,C2,Od];done)
  | (simp only[AI,C2,P8,Oe];rfl)
theorem MM (e:Env) (H:AH) (k:AK) (hk:Jg k=.rd):AZ (C2 e k) emp H=AZ k e H/\AI k e=none:=by
 cases k<;>first
  | (cases hk;done)
  | exact⟨rfl,rfl⟩
theorem P5 (e:Env) (H:AH) (k:AK) (hk:Jg k=.ef):BL (C2 e k) emp H=BL k e H/\AI k e=none/\AZ k e H=none:=by
 cases k<;>first
  | (cases hk;done)
  | exact⟨rfl,rfl,rfl⟩
  | (refine⟨?_,rfl,rfl⟩;simp only[BL,C2,Od];done)
theorem KD {P:Program}{k:AK}{e:Env}{H:AH}{K1 K2 Kp1 Kp2:AV->AH->Prop}(hk:∀v H',K1 v H'->K2 v H') (hp:∀v H',Kp1 v H'->Kp2 v H') (ha:HN P k e H K1 Kp1):HN P k e H K2 Kp2:=by
 unfold HN at ha ⊢
 split at ha
 ·unfold HJ at ha ⊢
  split at ha
  ·exact ha.mono fun o H' hq=>by cases o with
    | ret v=>exact hk _ _ hq
    | Bi v=>exact hp _ _ hq
  ·exact YC.mono ha fun o H' hq=>by cases o with
    | ret v=>exact hk _ _ hq
    | Bi v=>exact hp _ _ hq
  ·exact ha
 ·split at ha
  ·exact hp _ _ ha
  ·exact ha
 ·exact ha
 ·exact ha
 ·split at ha
  ·exact fun p hp=>hk _ _ (ha p hp)
  ·exact ha
 ·split at ha
  ·exact hk _ _ ha
  ·exact ha
theorem aT {P:Program}{k:AK}{e:Env}{H:AH}{Kp K:AV->AH->Prop}(hp:k.plain=true) (h:Vu P k e H Kp K):∃v H',A2 k e H=some (v,H')/\K v H':=by
 have h:VZ.rec (motive:=fun _=>Prop) (fun x=>K (x.ev e) H) (fun t x=>K (.ifc t (x.ev e)) H) (fun f a b=>K (.fn f (GH e a) (GH e b)) H) (fun f args=>DT P (f.ev e) (GH e args) H Kp K) (fun x=>CF (x.ev e) H Kp) False
  (AB (C2 e k) fun v=>K v H) (AE (C2 e k) H fun v=>K v H) (AQ (C2 e k) H K) (fun x=>Vc (x.ev e) H K) (Jg k):=h
 cases hc:Jg k with
 | mv x=>
  rw[hc]at h
  cases k<;>(try (cases hc;done))<;>(try (simp[Jg]at hc;done))
  simp only[Jg,VZ.mv.injEq]at hc;subst hc
  exact⟨_,_,rfl,h⟩
 | ifc t x=>
  rw[hc]at h
  cases k<;>(try (cases hc;done))<;>(try (simp[Jg]at hc;done))
  simp only[Jg,VZ.ifc.injEq]at hc;obtain⟨rfl,rfl⟩:=hc
  exact⟨_,_,rfl,h⟩
 | fnc f a b=>
  rw[hc]at h
  cases k<;>(try (cases hc;done))<;>(try (simp[Jg]at hc;done))
  simp only[Jg,VZ.fnc.injEq]at hc;obtain⟨rfl,rfl,rfl⟩:=hc
  exact⟨_,_,by simp only[A2,AI,<- Gl],h⟩
 | call f args=>cases k<;>first | (cases hp;done) | (cases hc;done) | (simp[Jg]at hc;done)
 | Bi x=>cases k<;>first | (cases hp;done) | (cases hc;done) | (simp[Jg]at hc;done)
 | nx x=>cases k<;>first | (cases hp;done) | (cases hc;done) | (simp[Jg]at hc;done)
 | no=>rw[hc]at h;exact h.elim
 | pu=>
  rw[hc]at h
  obtain⟨v,h1,h2⟩:=PB h
  rw[P4 e k hc]at h1
  exact⟨v,H,by simp only[A2,h1],h2⟩
 | rd=>
  rw[hc]at h
  obtain⟨v,h1,h2⟩:=L0 h
  obtain⟨g1,g2⟩:=MM e H k hc
  rw[g1]at h1
  exact⟨v,H,by simp only[A2,g2,h1],h2⟩
 | ef=>
  rw[hc]at h
  obtain⟨v,H',h1,h2⟩:=ZQ h
  obtain⟨g1,g2,g3⟩:=P5 e H k hc
  rw[g1]at h1
  exact⟨v,H',by simp only[A2,g2,g3,h1],h2⟩
theorem Ig {P:Program}{k:AK}{e:Env}{H:AH}{Kp K:AV->AH->Prop}(h:Vu P k e H Kp K):HN P k e H K Kp/\k.B2=false:=by
 by_cases hp:k.plain=true
 ·obtain⟨v,H',h1,h2⟩:=aT hp h
  exact⟨Gt hp h1 h2,UE hp⟩
 ·cases k<;>(try exact absurd rfl hp)
  case call f args=>
   refine⟨?_,rfl⟩
   have h:DT P (f.ev e) (GH e args) H Kp K:=h
   simp only[DT,Ka,Gl,<- Ao]at h
   cases hfp:Vj (f.ev e)with
   | no=>
    rw[hfp]at h
    have h:iL (f.ev e) (args.map (·.ev e)) H Kp K:=h
    unfold iL at h
    split at h
    ·rename_i l hl
     simp only[HN,HJ,hl];exact h
    ·exact h.elim
   | «at» g first cap=>
    rw[hfp]at h
    exact Mb (Si hfp) rfl h (fun v H' hv=>hv) (fun v H' hv=>hv)
  case panic x=>
   refine⟨?_,rfl⟩
   have h:CF (x.ev e) H Kp:=h
   unfold CF at h
   split at h
   ·rename_i t v hx
    simp only[HN,hx];exact h
   ·exact h.elim
  case nextM x=>
   refine⟨?_,rfl⟩
   have h:Vc (x.ev e) H K:=h
   unfold Vc at h
   simp only[HN]
   cases hn:KE (x.ev e) H with
   | none=>rw[hn]at h;exact h.elim
   | some l=>rw[hn]at h;exact h
  case defer f args=>exact(show False from h).elim
  case recover=>exact(show False from h).elim
theorem PC {w:Bool}{v:AV}{A B:Prop}(h:Tm w v A B):∃o,Mc v=some o/\(o=some w->A)/\(o≠some w->B):=by
 unfold Tm at h
 split at h
 ·rename_i b hb;exact⟨b,hb,h.1,h.2⟩
 ·exact h.elim
def aI (P:Program) (Kp:AV->AH->Prop) (ops:List A_):Env->AH->PK->Prop:=
 List.rec (motive:=fun _=>Env->AH->PK->Prop) (fun e h K=>K e h) (fun o _ ih e h K=>Vu P o.k e h Kp fun v h'=>ih (e.put o.dst v) h' K) ops
def mg (P:Program) (Kp:AV->AH->Prop) (g:ZO) (e:Env) (h:AH) (K:PK):Prop:=Prod.rec (motive:=fun _=>Prop) (fun g ops=>Option.rec (motive:=fun _=>Prop)
  (Bool.rec (motive:=fun _=>Prop) False (aI P Kp ops e h K) (ops.all (fun o=>o.gd.isNone)))
  (fun p=>Prod.rec (motive:=fun _=>Prop) (fun s w=>Bool.rec (motive:=fun _=>Prop) False (BF w (e s) (OE (LU ops) e K) (fun J=>aI P Kp ops e h (GD (LU ops) J)) (fun J=>GD (LU ops) J (fun _=>Ad) h)) (ops.all (EO s w))) p) g) g
def eO (P:Program) (Kp:AV->AH->Prop) (gs:List ZO):Env->AH->PK->Prop:=
 List.rec (motive:=fun _=>Env->AH->PK->Prop) (fun e h K=>K e h) (fun g _ ih e h K=>mg P Kp g e h fun e' h'=>ih e' h' K) gs
def mZ (P:Program) (Kp:AV->AH->Prop) (ops:List A_) (e:Env) (h:AH) (K:PK):Prop:=Bool.rec (motive:=fun _=>Prop) False (eO P Kp (lP ops) e h K) (ops.all Rw)
theorem KV {b:Bool}{x:Prop}(h:Bool.rec (motive:=fun _=>Prop) False x b):b=true/\x:=by
 cases b with
 | true=>exact⟨rfl,h⟩
 | false=>exact h.elim
section
variable {P:Program}{Kp:AV->AH->Prop}{K':Env->AH->Prop}{Kp':AV->Env->AH->Prop}
theorem LC {s:Nat}{w:Bool}{K:PK}(h2:∀v h,Kp v h->∀e,e AN=.tup []->Kp' v e h):∀(ops:List A_) (e:Env) (h:AH),ops.all Rw=true->e AN=.tup [] ->
  (Mc (e s)=some (some w)/\ops.all (EO s w)=true\/ops.all (fun o=>o.gd.isNone)=true)->aI P Kp ops e h K ->
  (∀e' h',(∀t,t ∉ LU ops->e' t=e t)->e' AN=.tup []->K e' h'->K' e' h')->CJ P ops e h K' Kp'
 | [],e,h,_,hd,_,hr,h1=>h1 e h (fun _ _=>rfl) hd hr
 | o::ops,e,h,ho,hd,hg,hr,h1=>by
  have hr:Vu P o.k e h Kp fun v h'=>aI P Kp ops (e.put o.dst v) h' K:=hr
  simp only[EB,AS]at ho hg
  have hd':∀v,(e.put o.dst v) AN=.tup []:=fun v=>by rw[B4 (EX ho.1)];exact hd
  have go:∀v h',(Mc ((e.put o.dst v) s)=some (some w)/\ops.all (EO s w)=true\/ops.all (fun o=>o.gd.isNone)=true)->aI P Kp ops (e.put o.dst v) h' K->CJ P ops (e.put o.dst v) h' K' Kp':=fun v h' hg' hx=>
   LC h2 ops (e.put o.dst v) h' ho.2 (hd' v) hg' hx fun e' h'' q1 q2 q3=>h1 e' h'' (fun t ht=>by
    have ht:t ∉ Jy o.dst (LU ops):=ht
    rw[Gs,not_or]at ht
    rw[q1 t ht.2,B4 ht.1]) q2 q3
  have mono:(∀v,Mc ((e.put o.dst v) s)=some (some w)/\ops.all (EO s w)=true\/ops.all (fun o=>o.gd.isNone)=true)->HN P o.k e h (fun v H'=>CJ P ops (e.put o.dst v) H' K' Kp') (fun v H'=>Kp' v e H'):=fun hg'=>
   KD (fun v H' hx=>go v H' (hg' v) hx) (fun v H' hx=>h2 v H' hx e hd) (Ig hr).1
  have nd:=(Ig hr).2
  obtain⟨dst,k,gd⟩:=o
  rcases hg with⟨g1,g2,g3⟩ | ⟨g2,g3⟩
  ·obtain⟨rfl,g4⟩:=Fj g2
   exact W7 g1 (fun _=>mono fun v=>.inl ⟨by rw[B4 g4];exact g1,g3⟩) (fun hn=>absurd rfl hn)
  ·simp only[Hu]at g2
   subst g2
   exact Fm nd (mono fun v=>.inr g3)
theorem Pc {K:PK}(h1:∀e h,e AN=.tup []->K e h->K' e h) (h2:∀v h,Kp v h->∀e,e AN=.tup []->Kp' v e h) :
  ∀(gs:List ZO) (e:Env) (h:AH),(XA gs).all Rw=true->e AN=.tup []->eO P Kp gs e h K->CJ P (XA gs) e h K' Kp'
 | [],e,h,_,hd,hr=>h1 e h hd hr
 | (g,ops)::gs,e,h,ho,hd,hr=>by
  have hr:mg P Kp (g,ops) e h fun e' h'=>eO P Kp gs e' h' K:=hr
  change (ops++XA gs).all Rw=true at ho
  rw[O5,AS]at ho
  have rest:∀e' h',e' AN=.tup []->eO P Kp gs e' h' K->CJ P (XA gs) e' h' K' Kp':=fun e' h' hd' hx=>Pc h1 h2 gs e' h' ho.2 hd' hx
  refine IU ops (XA gs) e h ?_
  cases g with
  | none=>
   obtain⟨g1,g2⟩:=KV hr
   exact LC (s:=0) (w:=true) h2 ops e h ho.1 hd (.inr g1) g2 fun e' h' _ q2 q3=>rest e' h' q2 q3
  | some p=>
   obtain⟨s,w⟩:=p
   obtain⟨g1,g2⟩:=KV hr
   obtain⟨b,k1,k2,k3⟩:=PC g2
   by_cases hw:b=some w
   ·subst hw
    refine LC h2 ops e h ho.1 hd (.inl ⟨k1,g1⟩) (k2 rfl) fun e' h' q1 q2 q3=>rest e' h' q2 ?_
    rw[D9]at q3
    have:II (LU ops) e' e=e':=by
     funext t
     rw[Dh]
     split
     ·rfl
     ·rename_i hm;exact(q1 t hm).symm
    rw[this]at q3;exact q3
   ·have k3:=k3 hw
    simp only[D9]at k3
    refine QW hw ops e h g1 k1 (rest _ h ?_ k3)
    rw[Dh,if_neg (TK ho.1)]
    exact hd
theorem Vr {K:PK}(h1:∀e h,e AN=.tup []->K e h->K' e h) (h2:∀v h,Kp v h->∀e,e AN=.tup []->Kp' v e h)
  {ops:List A_} {e:Env} {h:AH} (hd:e AN=.tup []) (hr:mZ P Kp ops e h K):CJ P ops e h K' Kp':=by
 obtain⟨g1,g2⟩:=KV hr
 have:=Pc h1 h2 (lP ops) e h (by rw[Js];exact g1) hd g2
 rw[Js]at this;exact this
end
end
noncomputable section
variable [BX] [YC]
def Ny (k:AK) (H:AH) (K:AV->AH->Prop):Prop:=Option.rec (motive:=fun _=>Prop) False (fun p=>Prod.rec (motive:=fun _=>Prop) (fun c f=>K (f H.next) (H.push (.cells c))) p) (FQ k emp)
theorem Tl {k:AK}{H:AH}{K:AV->AH->Prop}(h:Ny k H K):∃c f,FQ k emp=some (c,f)/\K (f H.next) (H.push (.cells c)):=by
 unfold Ny at h
 cases hk:FQ k emp with
 | none=>rw[hk]at h;exact h.elim
 | some p=>rw[hk]at h;exact⟨p.1,p.2,rfl,h⟩
theorem Ue (e:Env) (k:AK) (hk:Jg k=.ef):FQ (C2 e k) emp=FQ k e:=by
 cases k<;>first
  | (cases hk;done)
  | rfl
  | (simp only[FQ,C2,Od];done)
def gI (k:AK) (e:Env) (H:AH) (K:AV->AH->Prop):Prop:=
 (fun(_:Nat)=>VZ.rec (motive:=fun _=>Prop) (fun x=>K (x.ev e) H) (fun t x=>K (.ifc t (x.ev e)) H) (fun f a b=>K (.fn f (GH e a) (GH e b)) H) (fun _ _=>False) (fun _=>False) False
  (AB (C2 e k) fun v=>K v H) (AE (C2 e k) H fun v=>K v H) (Ny (C2 e k) H K) (fun _=>False) (Jg k)) Qs
def aR (P:Program) (Kp:AV->AH->Prop) (eff:Bool) (k:AK) (e:Env) (H:AH) (K:AV->AH->Prop):Prop:=
 (fun(_:Nat)=>Bool.rec (motive:=fun _=>Prop) (gI k e H K) (Vu P k e H Kp K) eff) Qs
theorem YU {k:AK}{e:Env}{H:AH}{K:AV->AH->Prop}(h:gI k e H K):(∃v,AI k e=some v/\K v H)\/(∃v,AI k e=none/\AZ k e H=some v/\AZ (C2 e k) emp H=some v/\K v H/\Jg k=.rd) \/
  (∃c f,AI k e=none/\AZ k e H=none/\FQ k e=some (c,f)/\K (f H.next) (H.push (.cells c))):=by
 have h:VZ.rec (motive:=fun _=>Prop) (fun x=>K (x.ev e) H) (fun t x=>K (.ifc t (x.ev e)) H) (fun f a b=>K (.fn f (GH e a) (GH e b)) H) (fun _ _=>False) (fun _=>False) False
  (AB (C2 e k) fun v=>K v H) (AE (C2 e k) H fun v=>K v H) (Ny (C2 e k) H K) (fun _=>False) (Jg k):=h
 cases hc:Jg k with
 | mv x=>
  rw[hc]at h
  cases k<;>(try (cases hc;done))<;>(try (simp[Jg]at hc;done))
  simp only[Jg,VZ.mv.injEq]at hc;subst hc
  exact .inl ⟨_,rfl,h⟩
 | ifc t x=>
  rw[hc]at h
  cases k<;>(try (cases hc;done))<;>(try (simp[Jg]at hc;done))
  simp only[Jg,VZ.ifc.injEq]at hc;obtain⟨rfl,rfl⟩:=hc
  exact .inl ⟨_,rfl,h⟩
 | fnc f a b=>
  rw[hc]at h
  cases k<;>(try (cases hc;done))<;>(try (simp[Jg]at hc;done))
  simp only[Jg,VZ.fnc.injEq]at hc;obtain⟨rfl,rfl,rfl⟩:=hc
  exact .inl ⟨_,by simp only[AI,<- Gl],h⟩
 | call f args=>rw[hc]at h;exact h.elim
 | Bi x=>rw[hc]at h;exact h.elim
 | no=>rw[hc]at h;exact h.elim
 | nx x=>rw[hc]at h;exact h.elim
 | pu=>
  rw[hc]at h
  obtain⟨v,h1,h2⟩:=PB h
  rw[P4 e k hc]at h1
  exact .inl ⟨v,h1,h2⟩
 | rd=>
  rw[hc]at h
  obtain⟨v,h1,h2⟩:=L0 h
  obtain⟨g1,g2⟩:=MM e H k hc
  exact .inr (.inl ⟨v,g2,by rw[<- g1];exact h1,h1,h2,rfl⟩)
 | ef=>
  rw[hc]at h
  obtain⟨c,f,h1,h2⟩:=Tl h
  obtain⟨_,g2,g3⟩:=P5 e H k hc
  rw[Ue e k hc]at h1
  exact .inr (.inr ⟨c,f,g2,g3,h1,h2⟩)
def UH (P:Program) (Kp:AV->AH->Prop) (its:List DV):Env->AH->PK->Prop:=
 List.rec (motive:=fun _=>Env->AH->PK->Prop) (fun e h K=>K e h) (fun it _ ih e h K=>aR P Kp it.eff it.o.k e h fun v h'=>ih (e.put it.o.dst v) h' K) its
def gJ (P:Program) (Kp:AV->AH->Prop) (g:OJ) (e:Env) (h:AH) (K:PK):Prop:=Prod.rec (motive:=fun _=>Prop) (fun g its=>Option.rec (motive:=fun _=>Prop)
  (Bool.rec (motive:=fun _=>Prop) False (UH P Kp its e h K) (its.all (fun it=>it.o.gd.isNone)))
  (fun p=>Prod.rec (motive:=fun _=>Prop) (fun s w=>Bool.rec (motive:=fun _=>Prop) False (BF w (e s) (OE (HE its) e K) (fun J=>UH P Kp its e h (GD (HE its) J)) (fun J=>GD (HE its) J (fun _=>Ad) h)) (its.all (fun it=>EO s w it.o))) p) g) g
def XP (P:Program) (Kp:AV->AH->Prop) (gs:List OJ):Env->AH->PK->Prop:=
 List.rec (motive:=fun _=>Env->AH->PK->Prop) (fun e h K=>K e h) (fun g _ ih e h K=>gJ P Kp g e h fun e' h'=>ih e' h' K) gs
section
variable {P:Program}{Kp:AV->AH->Prop}{ep:Env}{K':Env->AH->Prop}{Kp':AV->Env->AH->Prop}
theorem NR {i pre:Nat}{d:Option Nat}{k:AK}{eff:Bool}{l:List DV}{e:Env}{h:AH}{pend:E4}{K:AV->AH->Prop}(hr:aR P Kp eff k e h K)
  (h1:∀v h' pend',K v h'->A0 P ep K' Kp' l (e.put d v) h' pend') (h2:∀v h',Kp v h'->Kp' v ep h'):A0 P ep K' Kp' (⟨i,⟨d,k,none⟩,pre,[],eff⟩::l) e h pend:=by
 cases eff with
 | true=>exact UM (KD (fun v H' hk=>⟨trivial,h1 v H' pend hk⟩) (fun v H' hk=>h2 v H' hk) (Ig hr).1)
 | false=>
  rcases YU hr with⟨v,g1,g2⟩ | ⟨v,g0,g1,_,g2,_⟩ | ⟨c,f,g0,g1,g2,g3⟩
  ·exact Ji g1 (h1 v h pend g2)
  ·exact Ph g0 g1 (h1 v h _ g2)
  ·exact XT g0 g1 g2 (h1 _ _ _ g3)
theorem Jf {s:Nat}{w:Bool}{K:PK}{rest:List DV}(h2:∀v h,Kp v h->Kp' v ep h):∀(its:List DV) (e:Env) (h:AH) (pend:E4),its.all VX=true->e AN=.tup [] ->
  (Mc (e s)=some (some w)/\its.all (fun it=>EO s w it.o)=true\/its.all (fun it=>it.o.gd.isNone)=true)->UH P Kp its e h K ->
  (∀e' h' pend',(∀t,t ∉ HE its->e' t=e t)->e' AN=.tup []->K e' h'->A0 P ep K' Kp' rest e' h' pend')->A0 P ep K' Kp' (its++rest) e h pend
 | [],e,h,pend,_,hd,_,hr,h1=>h1 e h pend (fun _ _=>rfl) hd hr
 | it::its,e,h,pend,ho,hd,hg,hr,h1=>by
  have hr:aR P Kp it.eff it.o.k e h fun v h'=>UH P Kp its (e.put it.o.dst v) h' K:=hr
  simp only[EB,AS]at ho hg
  obtain⟨ho1,ho2⟩:=ho
  simp only[VX,AS]at ho1
  have hd':∀v,(e.put it.o.dst v) AN=.tup []:=fun v=>by rw[B4 (EX ho1.1)];exact hd
  have go:∀v h' pend',(Mc ((e.put it.o.dst v) s)=some (some w)/\its.all (fun it=>EO s w it.o)=true\/its.all (fun it=>it.o.gd.isNone)=true)->UH P Kp its (e.put it.o.dst v) h' K->A0 P ep K' Kp' (its++rest) (e.put it.o.dst v) h' pend':=fun v h' pend' hg' hx=>
   Jf h2 its (e.put it.o.dst v) h' pend' ho2 (hd' v) hg' hx fun e' h'' pend'' q1 q2 q3=>h1 e' h'' pend'' (fun t ht=>by
    have ht:t ∉ Jy it.o.dst (HE its):=ht
    rw[Gs,not_or]at ht
    rw[q1 t ht.2,B4 ht.1]) q2 q3
  obtain⟨i,⟨dst,k,gd⟩,pre,fl,eff⟩:=it
  have hfl:=ho1.2
  simp only[List.isEmpty_iff]at hfl
  subst hfl
  rcases hg with⟨g1,g2,g3⟩ | ⟨g2,g3⟩
  ·obtain⟨hh,g4⟩:=Fj g2
   simp only at hh g4
   subst hh
   exact UK g1 (fun _=>NR hr (fun v h' pend' hx=>go v h' pend' (.inl ⟨by simp only;rw[B4 g4];exact g1,g3⟩) hx) h2) (fun hn=>absurd rfl hn)
  ·simp only[Hu]at g2
   subst g2
   exact NR hr (fun v h' pend' hx=>go v h' pend' (.inr g3) hx) h2
theorem NQ {K:PK}(h1:∀e h,e AN=.tup []->K e h->K' e h) (h2:∀v h,Kp v h->Kp' v ep h) :
  ∀(gs:List OJ) (e:Env) (h:AH) (pend:E4),(L6 gs).all VX=true->e AN=.tup []->XP P Kp gs e h K->A0 P ep K' Kp' (L6 gs) e h pend
 | [],e,h,pend,_,hd,hr=>h1 e h hd hr
 | (g,its)::gs,e,h,pend,ho,hd,hr=>by
  have hr:gJ P Kp (g,its) e h fun e' h'=>XP P Kp gs e' h' K:=hr
  change (its++L6 gs).all VX=true at ho
  rw[O5,AS]at ho
  have rest:∀e' h' pend',e' AN=.tup []->XP P Kp gs e' h' K->A0 P ep K' Kp' (L6 gs) e' h' pend':=fun e' h' pend' hd' hx=>NQ h1 h2 gs e' h' pend' ho.2 hd' hx
  show A0 P ep K' Kp' (its++L6 gs) e h pend
  cases g with
  | none=>
   obtain⟨g1,g2⟩:=KV hr
   exact Jf (s:=0) (w:=true) h2 its e h pend ho.1 hd (.inr g1) g2 fun e' h' pend' _ q2 q3=>rest e' h' pend' q2 q3
  | some p=>
   obtain⟨s,w⟩:=p
   obtain⟨g1,g2⟩:=KV hr
   obtain⟨b,k1,k2,k3⟩:=PC g2
   by_cases hw:b=some w
   ·subst hw
    refine Jf h2 its e h pend ho.1 hd (.inl ⟨k1,g1⟩) (k2 rfl) fun e' h' pend' q1 q2 q3=>rest e' h' pend' q2 ?_
    rw[D9]at q3
    have:II (HE its) e' e=e':=by
     funext t
     rw[Dh]
     split
     ·rfl
     ·rename_i hm;exact(q1 t hm).symm
    rw[this]at q3;exact q3
   ·have k3:=k3 hw
    simp only[D9]at k3
    refine NA hw its e h pend g1 k1 (rest _ h _ ?_ k3)
    rw[Dh,if_neg (QO ho.1)]
    exact hd
end
abbrev dE:=List (Nat × (AH->Prop))
def YV (fl:List Nat) (pd:dE) (h:AH):Prop:=List.rec (motive:=fun _=>Prop) True (fun p _ ih=>Bool.rec (motive:=fun _=>Prop) ih (p.2 h/\ih) (UT p.1 fl)) pd
theorem XQ {fl:List Nat}{h:AH}:∀{pd:dE},YV fl pd h->∀p∈pd,p.1∈fl->p.2 h
 | p::pd,hk,q,hq,hf=>by
  have hk:Bool.rec (motive:=fun _=>Prop) (YV fl pd h) (p.2 h/\YV fl pd h) (UT p.1 fl):=hk
  cases hq with
  | head=>rw[Sy hf]at hk;exact hk.1
  | tail _ hq=>
   refine XQ (pd:=pd) ?_ q hq hf
   cases hm:UT p.1 fl with
   | false=>rw[hm]at hk;exact hk
   | true=>rw[hm]at hk;exact hk.2
def IX (pd:dE) (pend:E4):Prop:=∀i p,pend.lookup i=some p->∃b,(i,b)∈pd/\∀x,b x->p x
theorem IX.more {pd:dE}{pend:E4}(h:IX pd pend) (q:Nat × (AH->Prop)):IX (q::pd) pend:=fun i p hi=>let ⟨b,h1,h2⟩:=h i p hi;⟨b,.tail _ h1,h2⟩
theorem IX.cons {pd:dE}{pend:E4}(h:IX pd pend){i:Nat}{b:AH->Prop}{p:AH->Prop}(hp:∀x,b x->p x):IX ((i,b)::pd) ((i,p)::pend):=fun j q hj=>by
 rw[List.lookup_cons]at hj
 by_cases hij:(j==i)=true
 ·rw[hij]at hj
  simp only[AD]at hj
  subst hj
  have:j=i:=by simpa using hij
  subst this
  exact⟨b,.head _,hp⟩
 ·simp only[SQ]at hij
  rw[hij]at hj
  obtain⟨b',h1,h2⟩:=h j q hj
  exact⟨b',.tail _ h1,h2⟩
theorem IX.U9 {pd:dE}{pend:E4}(hp:IX pd pend){h:AH}:∀{fl fl':List Nat},(∀i∈fl',i∈fl)->YV fl pd h->U9 fl' pend h
 | _,[],_,_=>trivial
 | fl,i::is,hs,hk=>by
  refine⟨?_,IX.U9 hp (fun j hj=>hs j (.tail _ hj)) hk⟩
  cases hl:pend.lookup i with
  | none=>trivial
  | some p=>
   obtain⟨b,h1,h2⟩:=hp i p hl
   exact h2 h (XQ hk _ h1 (hs i (.head _)))
abbrev PG:=AV->(AH->Prop)->AH->Prop
def Lz:AH->Prop:=fun _=>True
def Ba (k:AK) (v:AV):AH->Prop:=fun H=>AZ k emp H=some v
def fz (k:AK) (r:Nat):AH->Prop:=fun H=>∃c f,FQ k emp=some (c,f)/\H.get r=some (.cells c)
def rm (w:Bool) (v:AV) (h:AH) (J:PG) (A:PG->Prop):Prop:=Tm w v (A J) (J Ad Lz h)
def UF (P:Program) (Kp:AV->AH->Prop) (eff:Bool) (fl:List Nat) (pd:dE) (k:AK) (e:Env) (H:AH) (K:PG):Prop:=
 (fun(_:Nat)=>Bool.rec (motive:=fun _=>Prop)
  (VZ.rec (motive:=fun _=>Prop) (fun x=>K (x.ev e) Lz H) (fun t x=>K (.ifc t (x.ev e)) Lz H) (fun f a b=>K (.fn f (GH e a) (GH e b)) Lz H) (fun _ _=>False) (fun _=>False) False
   (AB (C2 e k) fun v=>K v Lz H) (AE (C2 e k) H fun v=>K v (Ba (C2 e k) v) H) (Ny (C2 e k) H fun v H'=>K v (fz (C2 e k) H.next) H') (fun _=>False) (Jg k))
  (Vu P k e H Kp fun v H'=>YV fl pd H'/\K v Lz H') eff) Qs
def RP (P:Program) (Kp:AV->AH->Prop) (l:List DV):Env->AH->dE->PK->Prop:=
 (fun(_:Nat)=>List.rec (motive:=fun _=>Env->AH->dE->PK->Prop) (fun e h _ K=>K e h) (fun it _ ih e h pd K=>
  Option.rec (motive:=fun _=>Prop) (UF P Kp it.eff it.fl pd it.o.k e h fun v c h'=>ih (e.put it.o.dst v) h' ((it.i,c)::pd) K)
   (fun p=>rm p.2 (e p.1) h (fun v c h'=>ih (e.put it.o.dst v) h' ((it.i,c)::pd) K) fun J=>UF P Kp it.eff it.fl pd it.o.k e h J) it.o.gd) l) Qs
section
variable {P:Program}{Kp:AV->AH->Prop}{ep:Env}{K':Env->AH->Prop}{Kp':AV->Env->AH->Prop}
theorem NO {i pre:Nat}{d:Option Nat}{k:AK}{eff:Bool}{fl:List Nat}{pd:dE}{l:List DV}{e:Env}{h:AH}{pend:E4}(hp:IX pd pend){K:PG}(hr:UF P Kp eff fl pd k e h K)
  (h1:∀v c h' pend',IX ((i,c)::pd) pend'->K v c h'->A0 P ep K' Kp' l (e.put d v) h' pend') (h2:∀v h',Kp v h'->Kp' v ep h'):A0 P ep K' Kp' (⟨i,⟨d,k,none⟩,pre,fl,eff⟩::l) e h pend:=by
 cases eff with
 | true=>
  have hr:Vu P k e h Kp fun v H'=>YV fl pd H'/\K v Lz H':=hr
  exact UM (KD (fun v H' hk=>⟨hp.U9 (fun _ hi=>hi) hk.1,h1 v Lz H' pend (hp.more _) hk.2⟩) (fun v H' hk=>h2 v H' hk) (Ig hr).1)
 | false=>
  have hr:VZ.rec (motive:=fun _=>Prop) (fun x=>K (x.ev e) Lz h) (fun t x=>K (.ifc t (x.ev e)) Lz h) (fun f a b=>K (.fn f (GH e a) (GH e b)) Lz h) (fun _ _=>False) (fun _=>False) False
   (AB (C2 e k) fun v=>K v Lz h) (AE (C2 e k) h fun v=>K v (Ba (C2 e k) v) h) (Ny (C2 e k) h fun v H'=>K v (fz (C2 e k) h.next) H') (fun _=>False) (Jg k):=hr
  cases hc:Jg k with
  | mv x=>
   rw[hc]at hr
   cases k<;>(try (cases hc;done))<;>(try (simp[Jg]at hc;done))
   simp only[Jg,VZ.mv.injEq]at hc;subst hc
   exact Ji rfl (h1 _ _ _ _ (hp.more _) hr)
  | ifc t x=>
   rw[hc]at hr
   cases k<;>(try (cases hc;done))<;>(try (simp[Jg]at hc;done))
   simp only[Jg,VZ.ifc.injEq]at hc;obtain⟨rfl,rfl⟩:=hc
   exact Ji rfl (h1 _ _ _ _ (hp.more _) hr)
  | fnc f a b=>
   rw[hc]at hr
   cases k<;>(try (cases hc;done))<;>(try (simp[Jg]at hc;done))
   simp only[Jg,VZ.fnc.injEq]at hc;obtain⟨rfl,rfl,rfl⟩:=hc
   exact Ji (by simp only[AI,<- Gl]) (h1 _ _ _ _ (hp.more _) hr)
  | call f args=>rw[hc]at hr;exact hr.elim
  | Bi x=>rw[hc]at hr;exact hr.elim
  | no=>rw[hc]at hr;exact hr.elim
  | nx x=>rw[hc]at hr;exact hr.elim
  | pu=>
   rw[hc]at hr
   obtain⟨v,g1,g2⟩:=PB hr
   rw[P4 e k hc]at g1
   exact Ji g1 (h1 v _ _ _ (hp.more _) g2)
  | rd=>
   rw[hc]at hr
   obtain⟨v,g1,g2⟩:=L0 hr
   obtain⟨q1,q2⟩:=MM e h k hc
   rw[q1]at g1
   exact Ph q2 g1 (h1 v _ h _ (hp.cons fun x hx=>by rw[<- (MM e x k hc).1];exact hx) g2)
  | ef=>
   rw[hc]at hr
   obtain⟨c,f,g1,g2⟩:=Tl hr
   obtain⟨_,q2,q3⟩:=P5 e h k hc
   have g1':=g1
   rw[Ue e k hc]at g1'
   refine XT q2 q3 g1' (h1 _ _ _ _ (hp.cons fun x hx=>?_) g2)
   obtain⟨c',f',k1,k2⟩:=hx
   rw[g1]at k1;cases k1;exact k2
theorem NN {K:PK}(h1:∀e h,e AN=.tup []->K e h->K' e h) (h2:∀v h,Kp v h->Kp' v ep h) :
  ∀(l:List DV) (e:Env) (h:AH) (pd:dE) (pend:E4),IX pd pend->l.all (fun it=>Rw it.o)=true->e AN=.tup []->RP P Kp l e h pd K->A0 P ep K' Kp' l e h pend
 | [],e,h,pd,pend,_,_,hd,hr=>h1 e h hd hr
 | ⟨i,⟨dst,k,gd⟩,pre,fl,eff⟩::l,e,h,pd,pend,hp,ho,hd,hr=>by
  simp only[EB,AS]at ho
  have go:∀v c h' pend',IX ((i,c)::pd) pend'->RP P Kp l (e.put dst v) h' ((i,c)::pd) K->A0 P ep K' Kp' l (e.put dst v) h' pend':=fun v c h' pend' hp' hx=>
   NN h1 h2 l _ h' _ pend' hp' ho.2 (by rw[B4 (EX ho.1)];exact hd) hx
  cases gd with
  | none=>
   have hr:UF P Kp eff fl pd k e h fun v c h'=>RP P Kp l (e.put dst v) h' ((i,c)::pd) K:=hr
   exact NO hp hr (fun v c h' pend' q1 q2=>go v c h' pend' q1 q2) h2
  | some p=>
   obtain⟨s,w⟩:=p
   have hr:Tm w (e s) (UF P Kp eff fl pd k e h fun v c h'=>RP P Kp l (e.put dst v) h' ((i,c)::pd) K) (RP P Kp l (e.put dst Ad) h ((i,Lz)::pd) K):=hr
   obtain⟨b,k1,k2,k3⟩:=PC hr
   exact UK k1 (fun hw=>NO hp (k2 hw) (fun v c h' pend' q1 q2=>go v c h' pend' q1 q2) h2) (fun hw=>go Ad Lz h pend (hp.more _) (k3 hw))
end
def aQ (P:Program) (Kp:AV->AH->Prop) (plan:List DV) (e:Env) (h:AH) (K:PK):Prop:=
 Bool.rec (motive:=fun _=>Prop) (Bool.rec (motive:=fun _=>Prop) False (RP P Kp plan e h [] K) (plan.all (fun it=>Rw it.o))) (XP P Kp (Yn plan) e h K) (plan.all VX)
theorem UI {P:Program}{Kp:AV->AH->Prop}{K':Env->AH->Prop}{Kp':AV->Env->AH->Prop}{K:PK}(h1:∀e h,e AN=.tup []->K e h->K' e h) (h2:∀v h,Kp v h->∀e,e AN=.tup []->Kp' v e h)
  {plan:List DV} {e:Env} {h:AH} (hd:e AN=.tup []) (hr:aQ P Kp plan e h K):A0 P (JD plan e) K' Kp' plan e h []:=by
 unfold aQ at hr
 cases hf:plan.all VX with
 | true=>
  rw[hf]at hr
  have hd':plan.all (fun it=>Rw it.o)=true:=by
   rw[CY]at hf ⊢
   intro x hx
   have:=hf x hx
   simp only[VX,AS]at this
   exact this.1
  have:=NQ (ep:=JD plan e) (Kp':=Kp') h1 (fun v h hv=>h2 v h hv _ (by rw[Kb hd'];exact hd)) (Yn plan) e h [] (by rw[IQ];exact hf) hd hr
  rw[IQ]at this;exact this
 | false=>
  rw[hf]at hr
  obtain⟨g1,g2⟩:=KV hr
  exact NN h1 (fun v h hv=>h2 v h hv _ (by rw[Kb g1];exact hd)) plan e h [] [] (fun i p hi=>by cases hi) g1 hd g2
end
noncomputable section
variable [BX]
mutual
def dK (k:Nat):AV->Bool
 | .unk=>true | .bool _=>true | .int _ _=>true | .str _=>true | .nilp=>true | .nils=>true | .nilm=>true | .nilf=>true | .nili=>true
 | .ptr r _=>Nat.ble (Nat.succ r) k
 | .sl r _ _ _=>Nat.ble (Nat.succ r) k
 | .mp r=>Nat.ble (Nat.succ r) k
 | .pim l _=>OB k l
 | .sim l _ _=>OB k l
 | .fn _ a b=>OB k a&&OB k b
 | .ifc _ x=>dK k x
 | .agg l=>OB k l
 | .tup l=>OB k l
def OB (k:Nat):List AV->Bool
 | []=>true
 | x::l=>dK k x&&OB k l
end
mutual
theorem Mn {k:Nat}:∀x,dK k x=true->Sc k x
 | .unk,_=>.unk | .bool _,_=>.bool _ | .int _ _,_=>.int _ _ | .str _,_=>.str _ | .nilp,_=>.nilp | .nils,_=>.nils | .nilm,_=>.nilm | .nilf,_=>.nilf | .nili,_=>.nili
 | .ptr r _,h=>.ptr (Ab h)
 | .sl r _ _ _,h=>.sl (Ab h)
 | .mp r,h=>.mp (Ab h)
 | .pim l _,h=>.pim (DJ l (by simpa[dK]using h))
 | .sim l _ _,h=>.sim (DJ l (by simpa[dK]using h))
 | .fn _ a b,h=>by
  simp only[dK,AS]at h
  exact .fn (DJ a h.1) (DJ b h.2)
 | .ifc _ x,h=>.ifc (Mn x (by simpa[dK]using h))
 | .agg l,h=>.agg (DJ l (by simpa[dK]using h))
 | .tup l,h=>.tup (DJ l (by simpa[dK]using h))
theorem DJ {k:Nat}:∀l,OB k l=true->HK k l
 | [],_=>.nil
 | x::l,h=>by
  simp only[OB,AS]at h
  exact .cons (Mn x h.1) (DJ l h.2)
end
mutual
def fR (h:KH) (k:Nat):AV->AV->Bool
 | y,x=>(ES x y&&dK k y)||(match y with
  | .unk=>true
  | .pim l' o=>(match x with
   | .ptr r o0=>Nat.ble k r&&Nat.beq o0 o&&(match Bz h r with | some l=>Jt h k l' l | none=>false)
   | _=>false)
  | .sim l' n ex=>(match x with
   | .sl r o n0 lim=>Nat.ble k r&&Nat.beq n0 n&&(match Bz h r with | some l=>Nat.ble (o+l'.length) l.length&&Jt h k l' ((l.drop o).take l'.length) | none=>false)&&(!(Nat.beq n 0)||l'.isEmpty)&&(!ex||Rc lim (.ex n))
   | _=>false)
  | .ifc t y=>(match x with
   | .ifc t' x=>Nat.beq t' t&&fR h k y x
   | _=>false)
  | .agg l'=>(match x with
   | .agg l=>Jt h k l' l
   | _=>false)
  | .tup l'=>(match x with
   | .tup l=>Jt h k l' l
   | _=>false)
  | _=>false)
def Jt (h:KH) (k:Nat):List AV->List AV->Bool
 | [],l=>(match l with
  | []=>true
  | _=>false)
 | y::l',l=>(match l with
  | x::l=>fR h k y x&&Jt h k l' l
  | []=>false)
end
mutual
theorem QH {h:KH}{k:Nat}:∀(y x:AV),fR h k y x=true->GS (Ai h) k x y:=by
 intro y x hh
 unfold fR at hh
 simp only[Ee,AS]at hh
 rcases hh with⟨h1,h2⟩ | hh
 ·rw[CB _ _ h1];exact .low (Mn _ h2)
 ·cases y with
  | unk=>exact .unk x
  | pim l' o=>
   cases x<;>try (cases hh;done)
   rename_i r o0
   simp only[AS,FC]at hh
   obtain⟨⟨h1,rfl⟩,h3⟩:=hh
   split at h3
   ·rename_i l hl
    rw[Bq]at hl
    exact .ptr (Ab h1) hl (Ew l' l h3)
   ·cases h3
  | sim l' n ex=>
   cases x<;>try (cases hh;done)
   rename_i r o n0 lim
   simp only[AS,FC,Ee,E7]at hh
   obtain⟨⟨⟨⟨h1,rfl⟩,h3⟩,h4⟩,h5⟩:=hh
   split at h3
   ·rename_i l hl
    rw[Bq]at hl
    simp only[AS]at h3
    refine .sl (Ab h1) hl (Ab h3.1) (Ew l' _ h3.2) (fun hn=>?_) (fun hx=>?_)
    ·subst hn
     rcases h4 with h4 | h4
     ·cases h4
     ·simpa using h4
    ·subst hx
     rcases h5 with h5 | h5
     ·cases h5
     ·exact HZ h5
   ·cases h3
  | ifc t y=>
   cases x<;>try (cases hh;done)
   simp only[AS,FC]at hh
   obtain⟨rfl,h2⟩:=hh
   exact .ifc (QH y _ h2)
  | agg l'=>
   cases x<;>try (cases hh;done)
   exact .agg (Ew l' _ hh)
  | tup l'=>
   cases x<;>try (cases hh;done)
   exact .tup (Ew l' _ hh)
  | _=>cases hh
theorem Ew {h:KH}{k:Nat}:∀(l' l:List AV),Jt h k l' l=true->CH (Ai h) k l l'
 | [],l,hh=>by
  cases l with
  | nil=>exact .nil
  | cons _ _=>simp[Jt]at hh
 | y::l',l,hh=>by
  cases l with
  | nil=>simp[Jt]at hh
  | cons x l=>
   simp only[Jt,AS]at hh
   exact .cons (QH y x hh.1) (Ew l' l hh.2)
end
end
section
def NF (P:Program) (g:FuncId) (caps:List AV) (H:AH) (N:Nat) (X:Nat->AH->List AV->Prop) (Cl:(Nat->AH->Prop)->Prop) (G:AH->AH->Prop):Prop:=
 Enters P g/\∀(Z:Zt) (σ:Sg) (w:World) (vc:List Value) (l:Nat) (I:Nat->AH->Prop),WR Z σ H w->CE Z σ caps vc->Cl I->I 0 H ->
  (∀(i:Nat) (x:List AV) (Hi:AH),i<N->X i Hi x->I i Hi->∀(Z':Zt) (σ':Sg) (W:World) (vs:List Value),CR Z Z'->Nw σ H.next σ'->H.next<=Hi.next->WR Z' σ' Hi W->CE Z' σ' x vs ->
   YieldAt Fence.wide 0 P l vs.toArray W fun y W'=>∃Z'' σ'' H'',CR Z' Z''/\Nw σ' Hi.next σ''/\Hi.next<=H''.next/\WR Z'' σ'' H'' W'/\y=.returned (.bool true)/\I (i+1) H''/\G Hi H'') ->
  Calls P g (#[.func (.yield l) #[] #[]]++vc.toArray) w fun y W=>∃v Z' σ' H',y=.returned v/\CR Z Z'/\Nw σ H.next σ'/\H.next<=H'.next/\WR Z' σ' H' W/\I N H'
section
variable {P:Program}
theorem Vo {n:Nat}(hn:n<=AN){g:Operand}{g':AF}(hg:A9 g=some g'){ps:Array Tmp}(hps:∀p∈ps.toList,p<n) {zs bd:Code}{Z:Zt}{σ:Sg}{H:AH}{e:Env}{a:Act}{w:World}{Z0:Zt}{σ0:Sg}{m:Nat}{Q:Ex->Env->AH->Prop}
  (hO:Hj Z0) (hZ:CR Z0 Z) (hS:Nw σ0 m σ) (hm:m<=H.next) (hW:WR Z σ H w) (he:FR Z σ n e a) {f:FuncId} {caps:List AV} {N:Nat} {X:Nat->AH->List AV->Prop} {Cl:(Nat->AH->Prop)->Prop} {G:AH->AH->Prop} {ds:List AV} {I:Nat->AH->Prop}
  (h1:g'.ev e=.fn (.func f) [] caps) (h2:e AN=.tup ds) (h3:NF P f caps H N X Cl G) (hCl:Cl I) (h4:I 0 H)
  (h5:∀i x Hi,i<N->X i Hi x->I i Hi->H.next<=Hi.next->x.length=ps.size/\∃Qa:Nat->Env->AH->Prop,
   (∀l Z' σ' a1 W,CR Z0 Z'->Nw σ0 m σ'->m<=Hi.next->WR Z' σ' Hi W->FR Z' σ' n (So e ps.toList x) a1->zs.wpIn (RF (some l)) 0 P (QR Z' σ' n Hi.next fun y e' H'=>y=.normal/\Qa l e' H') a1 W) /\
   (∀l e' H' Z' σ' a1 W,Qa l e' H'->CR Z0 Z'->Nw σ0 m σ'->m<=H'.next->WR Z' σ' H' W->FR Z' σ' n e' a1->bd.wpIn (RF (some l)) 0 P (QR Z' σ' n H'.next fun y _ H''=>y=.normal/\I (i+1) H''/\G Hi H'') a1 W))
  (h6:∀Hn,I N Hn->Q .normal (e.set AN (.tup (.nili::ds))) Hn):(Code.rangeFunc g ps zs bd).wpIn (RF none) 0 P (QR Z0 σ0 n m Q) a w:=by
 have hfv:=AJ he.er hg
 rw[h1]at hfv
 obtain⟨vf,vc,e1,e2,e3⟩:=hfv.M0
 have e2:vf=#[]:=by
  generalize hl:vf.toList=l2 at e2
  cases e2;exact DI (by simpa using hl)
 subst e2
 refine wpIn_rangeFunc ?_
 intro fn _
 obtain⟨L1,z1⟩:=hW.lay (.deferred (some []))
 obtain⟨L2,z2⟩:=L1.lay (.loop { state:=.ready,pending:=none,fn,tmps:=a.tmps,params:=ps,assign:=zs,body:=bd,defers:=w.heap.size })
 have hsz:(w.alloc (.deferred (some []))).heap.size=w.heap.size+1:=World.size_alloc ..
 rw[hsz]at L2 z2
 generalize hrec:(.loop { state:=.ready,pending:=none,fn,tmps:=a.tmps,params:=ps,assign:=zs,body:=bd,defers:=w.heap.size }:Obj)=rec at L2 z2
 generalize hW1:(w.alloc (.deferred (some []))).alloc rec=W1 at L2
 refine⟨w.heap.size+1,[{ target:=.collected w.heap.size,args:=#[] }],W1,{ target:=.fn (.func f) vc,args:=#[.func (.yield (w.heap.size+1)) #[] #[]] },W1,f,#[.func (.yield (w.heap.size+1)) #[] #[]]++vc,W1,?_,?_,fun _ _=>trivial,?_,Hx,?_⟩
 ·rw[<- hW1,<- hrec];exact run_enterLoop_outer _ _ _ _ _
 ·simp only[resolve,e1]
  simp[go_sem]
 ·simp[invoke,go_sem,EJ h3.1]
 have zz:=z1.trans z2
 have hl0:((Z.at w.heap.size (.deferred (some []))).at (w.heap.size+1) rec) (w.heap.size+1)=some rec:=Zt.FO _ _ _
 have hd0:((Z.at w.heap.size (.deferred (some []))).at (w.heap.size+1) rec) w.heap.size=some (.deferred (some [])):=by
  rw[Zt.GP _ _ (by omega),Zt.FO]
 generalize hZ1:(Z.at w.heap.size (.deferred (some []))).at (w.heap.size+1) rec=Z1 at L2 zz hl0 hd0
 have hZ0l:Z0 (w.heap.size+1)=none:=by
  cases hq:Z0 (w.heap.size+1)with
  | none=>rfl
  | some x=>have:=(Al.1 (hW.z _ _ (hZ.le _ _ hq))).1;omega
 have hfr:=he.mono zz (fun _ _ h=>h)
 have key:=h3.2 Z1 σ W1 vc.toList (w.heap.size+1) I L2 (e3.mono zz (fun _ _ h=>h)) hCl h4 ?_
 ·have ev:vc.toList.toArray=vc:=by simp
  rw[ev]at key
  refine Iq (key.mono ?_)
  rintro y W2 ⟨v,Z2,σ2,H2,rfl,k1,k2,k3,k4,k5⟩
  have hl2:=k1.le _ _ hl0
  have hlw:=k4.z _ _ hl2
  rw[<- hrec]at hlw hl2
  refine⟨none,_,run_endLoop hlw (by simp),?_⟩
  have t2:=k4.Kf hl2 Gq (.loop { state:=.exhausted,pending:=none,fn,tmps:=a.tmps,params:=ps,assign:=zs,body:=bd,defers:=w.heap.size })
  refine⟨_,σ2,.normal,e.set AN (.tup (.nili::ds)),H2,Zt.Rz _ (hZ.trans (zz.trans k1)) (.inl hZ0l),hS.trans k2 hm,Cs hm k3,t2,?_,rfl,h6 H2 k5⟩
  have f2:=(hfr.mono k1 (L2.sle k2)).Kf hl2 (.loop { state:=.exhausted,pending:=none,fn,tmps:=a.tmps,params:=ps,assign:=zs,body:=bd,defers:=w.heap.size })
  obtain⟨dl,d1,d2⟩:=f2.ds
  rw[h2]at d1
  simp only[AV.tup.injEq]at d1;subst d1
  refine⟨fun t ht=>?_,⟨_,Env.GC ..,?_⟩,f2.sz⟩
  ·rw[Env.G1 _ _ (by omega)];exact f2.er t ht
  ·refine .mark ?_ (fun ho=>?_) (fun d hd ht=>?_) d2
   ·rw[Zt.GP _ _ (by omega)]
    exact k1.le _ _ hd0
   ·have ho:Z2.old w.heap.size:=ho
    rw[k1.old,zz.old]at ho
    obtain⟨x,hx⟩:=(hO.le hZ) _ ho
    have:=(Al.1 (hW.z _ _ hx)).1
    omega
   ·obtain⟨dl0,q1,q2⟩:=he.ds
    have hx:=q2.marks d hd ht
    have:=(Al.1 (hW.z _ _ hx)).1
    omega
 ·intro i x Hi hi hx hI Z' σ' W vs q1 q2 q3 q4 q5
  obtain⟨r1,Qa,r2,r3⟩:=h5 i x Hi hi hx hI q3
  have hl':=q1.le _ _ hl0
  rw[<- hrec]at hl'
  have hZ0':CR Z0 Z':=hZ.trans (zz.trans q1)
  have hS0':Nw σ0 m σ':=hS.trans q2 hm
  have hm0:m<=Hi.next:=Cs hm q3
  exact NL (J:=fun H''=>I (i+1) H''/\G Hi H'') hn hps r1 q4 q5 (hfr.mono q1 (L2.sle q2)) hl' (fun a1 f1=>r2 _ Z' σ' a1 W hZ0' hS0' hm0 q4 f1)
   (fun e' H' Z3 σ3 a1 w1 hh p1 p2 p3 p4 p5=>r3 _ e' H' Z3 σ3 a1 w1 hh ((Zt.Rz _ hZ0' (.inl hZ0l)).trans p1) (hS0'.trans p2 hm0) (Cs hm0 p3) p4 p5)
end
section
variable [YC] {ro:Option Nat}{P:Program}{n:Nat}{Q Q':Ex->Env->AH->Prop}{e e':Env}{H H':AH}{c x y:Code}{id:Nat}
theorem CS.mK {g:Operand}{g':AF}{ps:Array Tmp}{zs bd:Code}{f:FuncId}{caps:List AV}{N:Nat}{X:Nat->AH->List AV->Prop}{Cl:(Nat->AH->Prop)->Prop}{G:AH->AH->Prop}{ds:List AV}{I:Nat->AH->Prop}(hn:n<=AN) (hg:A9 g=some g') (hps:∀p∈ps.toList,p<n)
  (h1:g'.ev e=.fn (.func f) [] caps) (h2:e AN=.tup ds) (h3:NF P f caps H N X Cl G) (hCl:Cl I) (h4:I 0 H)
  (h5:∀i x Hi,i<N->X i Hi x->I i Hi->H.next<=Hi.next->x.length=ps.size/\∀l,CS (some l) P n zs (fun y e' H'=>y=.normal/\CS (some l) P n bd (fun z _ H''=>z=.normal/\I (i+1) H''/\G Hi H'') e' H') (So e ps.toList x) Hi)
  (h6:∀Hn,I N Hn->Q .normal (e.set AN (.tup (.nili::ds))) Hn):CS none P n (.rangeFunc g ps zs bd) Q e H:=by
 intro Z σ a w Z0 σ0 m hO hY hZ hS hm hW he
 refine Vo hn hg hps hO hZ hS hm hW he h1 h2 h3 hCl h4 (fun i x Hi hi hx hI hle=>?_) h6
 obtain⟨r1,r2⟩:=h5 i x Hi hi hx hI hle
 exact⟨r1,fun l e' H'=>CS (some l) P n bd (fun z _ H''=>z=.normal/\I (i+1) H''/\G Hi H'') e' H',fun l Z' σ' a1 W q1 q2 q3 q4 q5=>r2 l Z' σ' a1 W Z' σ' Hi.next (hO.le q1) (hY.up q1 q2 q3) (CR.refl _) (Nw.refl _ _) (A5 _) q4 q5,
  fun l e' H' Z' σ' a1 W hh q1 q2 q3 q4 q5=>hh Z' σ' a1 W Z' σ' H'.next (hO.le q1) (hY.up q1 q2 q3) (CR.refl _) (Nw.refl _ _) (A5 _) q4 q5⟩
end
section
variable {P:Program}{n:Nat}{H:AH}
 @[reducible] def Vb (l N:Nat) (X:Nat->AH->List AV->Prop) (G:AH->AH->Prop) (I:Nat->AH->Prop):YC where
 y:=fun l' args H post=>l'=l/\∃i,i<N/\X i H args/\I i H/\∀H',H.next<=H'.next->I (i+1) H'->G H H'->post (.ret (.bool true)) H'
 mono:=fun⟨h1,i,h2,h2',h3,h4⟩ hp=>⟨h1,i,h2,h2',h3,fun H' a b c=>hp _ _ (h4 H' a b c)⟩
theorem Mh.tN {g:FuncId}{ac:Ax}{ars:List Cc}(hF:Mh P g n ac ars){caps:List AV}{N:Nat}{X:Nat->AH->List AV->Prop}{Cl:(Nat->AH->Prop)->Prop}{G:AH->AH->Prop}(hlen:caps.length+1<=n)
  (h:∀l I,Cl I->I 0 H->∀c hs,comp P hs n c=some ac->@DS (Vb l N X G I) P n c (fun x e H'=>(∃ds,e AN=.tup ds/\∀x∈ds,x=.nili)/\GN ars (fun out H'=>(∃v,out=.ret v)/\I N H') x e H') (CI (.fn (.yield l) [] []::caps)) H):NF P g caps H N X Cl G:=by
 obtain⟨fn,c,hs,hf,Di,hb,hn,hc,hr⟩:=hF.ex
 subst hn
 refine⟨⟨fn,hf,Di,by rw[hb];rfl⟩,fun Z σ w vc l I hW hv hCl hI hY=>?_⟩
 have c1:∀(Z:Zt) (o:Nat->Prop),Zc Z { Z with old:=o }:=fun Z o _ _ _ _ h=>h
 have wr:∀(Z:Zt) (o:Nat->Prop) {σ:Sg} {H:AH} {w:World},WR Z σ H w->WR { Z with old:=o } σ H w:=fun Z o σ H w hW=>
  ⟨hW.z,fun r x p h1 h2=>⟨(hW.h r x p h1 h2).1,((hW.h r x p h1 h2).2).Kf (c1 Z o) rfl⟩,hW.inj,hW.fresh,hW.top,hW.rest⟩
 have hv2:CE { Z with old:=fun b=>∃o,Z b=some o } σ (.fn (.yield l) [] []::caps) (.func (.yield l) #[] #[]::vc):=.cons (.fn .nil .nil) (hv.FJ (c1 Z _) (fun _ _ h=>h))
 have key:=KF (H:=H) (w:=w) (post:=fun out H'=>(∃v,out=.ret v)/\I N H') hf hb hF.le (by simpa using hlen) hr (fun b hb=>hb) (fun b hb=>by
   cases hq:Z b with
   | none=>rfl
   | some x=>exact absurd ⟨x,hq⟩ hb) (wr Z _ hW) hv2 fun a g4=>h l I hCl hI c hs hc _ σ a w _ σ H.next (fun b hb=>hb) ?_ (CR.refl _) (Nw.refl _ _) (A5 _) (wr Z _ hW) g4
 ·have ev:(#[.func (.yield l) #[] #[]]++vc.toArray:Array Value)=(.func (.yield l) #[] #[]::vc).toArray:=by simp
  rw[ev]
  refine key.mono ?_
  rintro e w' ⟨Z',σ',H',out,g1,g2,g3,g4,g5,⟨v,rfl⟩,g6⟩
  obtain⟨cv,rfl,_⟩:=g5
  exact⟨cv,{ Z' with old:=Z.old },σ',H',rfl,⟨g1.le,g1.os,g1.out,g1.QI,rfl⟩,g2,g3,wr Z' _ g4,g6⟩
 ·rintro l' args Hi post ⟨rfl,i,q1,q1',q2,q3⟩ Z' σ' W vs k1 k2 k3 k4 k5
  obtain⟨fn',tmps,zs,bd,y1,y2⟩:=hY i args Hi q1 q1' q2 { Z' with old:=Z.old } σ' W vs ⟨k1.le,k1.os,k1.out,k1.QI,rfl⟩ k2 k3 (wr Z' _ k4) (k5.FJ (c1 Z' _) (fun _ _ h=>h))
  refine⟨fn',tmps,zs,bd,y1,y2.mono ?_⟩
  rintro y W' ⟨Z2,σ2,H2,p1,p2,p3,p4,rfl,p6,p7⟩
  exact⟨{ Z2 with old:=Z'.old },σ2,H2,.ret (.bool true),⟨p1.le,p1.os,p1.out,p1.QI,rfl⟩,p2,p3,wr Z2 _ p4,⟨_,rfl,.bool _⟩,q3 H2 p3 p6 p7⟩
end
end
end Go.AL
