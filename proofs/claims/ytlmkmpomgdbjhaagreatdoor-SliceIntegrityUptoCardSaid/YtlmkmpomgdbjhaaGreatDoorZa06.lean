import Derived.Test.YtlmkmpomgdbjhaaGreatDoorZa05
import Derived.Test.YtlmkmpomgdbjhaaGreatDoorProg
/-
  a part of the proof.
-/
set_option linter.unusedSectionVars false
set_option linter.unusedVariables false
set_option linter.unusedSimpArgs false
namespace Go.AL
noncomputable section
variable [BQ]
def cW {α:Type} (n:Nat) (k:Nat->α):α:=Nat.rec (motive:=fun _=>α) (k 0) (fun m _=>k (Nat.succ m)) n
def b_ (m i:Nat):Bool:=Nat.beq (Nat.land (Nat.shiftRight m i) 1) 1
def lU (a b:Nat):Bool:=Nat.beq (Nat.land a b) a
def iK (m i:Nat):Nat:=Nat.lor m (Nat.shiftLeft 1 i)
def mN (m i:Nat):Nat:=bif b_ m i then Nat.sub m (Nat.shiftLeft 1 i)else m
def rj (m:Nat) (d:Option Nat):Nat:=Option.rec (motive:=fun _=>Nat) m (fun d=>mN m d) d
def bz (n x:Nat):List Nat:=Nat.rec (motive:=fun _=>Nat->List Nat) (fun _=>[]) (fun _ ih i=>bif b_ x i then i::ih (Nat.succ i)else ih (Nat.succ i)) n 0
def sH:AK->Bool
 | .call .. | .store .. | .append .. | .copy .. | .Is .. | .panic .. | .recover | .defer .. | .mark .. | .appendZ .. | .makeMap | .mapUpd .. | .rangeM _ | .nextM _=>true
 | _=>false
def sJ (ops:Array Oper) (n:Nat):List Nat:=
 Nat.rec (motive:=fun _=>List Nat) [] (fun n r=>cW (List.foldl (fun m p=>iK (Nat.lor m (List.getD r p 0)) p) 0 (K6 ops n)) fun x=>r++[x]) n
abbrev IA:=Nat × Bool × Bool × Nat
def mg (P:Program):List Oper->List Nat->Nat->List IA
 | o::l,p::r,i=>cW i fun i=>Option.rec (motive:=fun _=>List IA) [] (fun k=>(i,sH k,k.L9,p)::mg P l r (Nat.succ i)) (Dp P o)
 | _,_,_=>[]
abbrev HA:=Nat × Nat × List Nat × Bool
def Zx {α:Type} (K:Nat->List (HA × Bool)->Bool->α):List IA->Nat->List (HA × Bool)->Bool->α
 | [],d,o,w=>K d o w
 | (i,e,m,p)::l,d,o,w=>bif !(b_ d i)&&(!e&&lU p d)then cW (iK d i) fun d'=>Zx K l d' (((i,p,[],false),m)::o) true else Zx K l d o w
def fx (d:Nat):List IA->Option (Nat × Nat)
 | []=>none
 | (i,_,_,p)::l=>bif !(b_ d i)&&lU p d then some (i,p)else fx d l
def yy (p:Nat) (o:List (HA × Bool)):List Nat:=((o.filter fun x=>x.2&&!(b_ p x.1.1)).map (·.1.1)).reverse
def iH (its:List IA):Nat->Nat->List (HA × Bool)->List HA
 | 0,_,o=>(o.map (·.1)).reverse
 | f+1,d,o=>Zx (fun d o w=>bif w then iH its f d o else Option.rec (motive:=fun _=>List HA) ((o.map (·.1)).reverse) (fun x=>cW (iK d x.1) fun d'=>iH its f d' (((x.1,x.2,yy x.2 o,true),false)::o)) (fx d its)) its d o false
def HO (P:Program):Code->Hints
 | .region id ops true=>[(id,iH (mg P ops.toList (sJ ops ops.size) 0) (2*ops.size+2) 0 [])]
 | .seq a b=>HO P a++HO P b
 | .cond _ a b=>HO P a++HO P b
 | .block _ a=>HO P a
 | .loop a=>HO P a
 | .scope a=>HO P a
 | .rangeFunc _ _ a b=>HO P a++HO P b
 | _=>[]
def ff (ops:List A_) (out:Nat):Nat:=List.rec (motive:=fun _=>Nat) out (fun o _ s=>List.foldl iK (rj s o.dst) o.tmps) ops
def fg (c:AE) (s:Nat):Nat:=match c with | .tmp t=>iK s t | _=>s
def Ig (q:Nat):Ay->Nat->(Nat->Nat)->Nat
 | .skip,out,_=>out
 | .reg ops,out,_=>ff ops out
 | .dreg pl,out,_=>ff (pl.map (·.o)) out
 | .seq a b,out,ex=>cW (Ig q b out ex) fun s=>Ig q a s ex
 | .cond c a b,out,ex=>fg c (Nat.lor (Ig q a out ex) (Ig q b out ex))
 | .block id a,out,ex=>Ig q a out fun i=>bif Nat.beq i id then out else ex i
 | .loop a,_,ex=>Ig q a 0 ex
 | .exit i,_,ex=>ex i
 | .ret,_,_=>q
 | .rng g ps a b,out,_=>fg g (Nat.lor out (List.foldl mN (cW (Ig q b 0 fun _=>0) fun s=>Ig q a s fun _=>0) ps))
def mF (ops:List A_):Bool:=ops.any fun o=>o.gd.isNone&&(match o.k with | .panic _=>true | _=>false)
def TI:Ay->Bool × (Nat->Nat)
 | .skip=>(true,fun _=>0)
 | .reg ops=>(!mF ops,fun _=>0)
 | .dreg pl=>(!mF (pl.map (·.o)),fun _=>0)
 | .seq a b=>((TI a).1&&(TI b).1,fun id=>bif (TI a).1 then Nat.add ((TI a).2 id) ((TI b).2 id)else(TI a).2 id)
 | .cond _ a b=>((TI a).1||(TI b).1,fun id=>Nat.add ((TI a).2 id) ((TI b).2 id))
 | .block i a=>((TI a).1||Nat.ble 1 ((TI a).2 i),fun id=>bif Nat.beq i id then 0 else(TI a).2 id)
 | .loop a=>(false,(TI a).2)
 | .exit i=>(false,fun id=>bif Nat.beq i id then 1 else 0)
 | .ret=>(false,fun _=>0)
 | .rng _ _ _ _=>(true,fun _=>0)
def yA (b:Ay) (sm:Bool) (se:Nat->Bool):Bool:=match b with
 | .skip=>sm
 | .exit i=>se i
 | .ret=>true
 | _=>false
def Nr (dp:Bool) (q n:Nat):Ay->Nat->(Nat->Nat)->Bool->(Nat->Bool)->HT
 | .seq a b,out,ex,sm,se=>.s (Nr dp q n a (Ig q b out ex) ex (yA b sm se) se) (Nr dp q n b out ex sm se)
 | .rng _ _ a b,_,_,_,_=>.s (Nr dp q n a (Ig q b 0 fun _=>0) (fun _=>0) false (fun _=>false)) (Nr dp q n b 0 (fun _=>0) true (fun _=>false))
 | .cond _ a b,out,ex,sm,se=>bif dp||(sm||!((TI a).1&&(TI b).1))then .i (Nr dp q n a out ex sm se) (Nr dp q n b out ex sm se)else .j (bz n out) (Nr dp q n a out ex true se) (Nr dp q n b out ex true se)
 | .block id a,out,ex,sm,se=>bif dp||(sm||Nat.ble (Nat.add ((TI a).2 id) (bif (TI a).1 then 1 else 0)) 1)then .i (Nr dp q n a out (fun i=>bif Nat.beq i id then out else ex i) sm fun i=>bif Nat.beq i id then sm else se i) .l
  else .j (bz n out) (Nr dp q n a out (fun i=>bif Nat.beq i id then out else ex i) true fun i=>bif Nat.beq i id then true else se i) .l
 | .loop a,_,ex,_,se=>cW (Ig q a 0 ex) fun x=>cW (Nat.lor x (Ig q a x ex)) fun x=>.j (bz n x) (Nr dp q n a x ex true se) .l
 | _,_,_,_,_=>.l
def vj (P:Program) (fn:Func):Hints:=Option.rec (motive:=fun _=>Hints) [] (fun c=>HO P c) fn.body
def qA (P:Program) (fn:Func):List CZ:=Option.rec (motive:=fun _=>List CZ) [] (fun q=>q) (F_ P fn.results.toList)
def gE (P:Program) (fn:Func):Ay:=EY P fn (vj P fn) fn.ntmps
def vW (q:List CZ):Nat:=List.rec (motive:=fun _=>Nat) 0 (fun r _ s=>CZ.rec (motive:=fun _=>Nat) (fun t=>iK s t) (fun a _=>iK s a) r) q
def qU (P:Program) (fn:Func) (dp:Bool):HT:=Nr dp (vW (qA P fn)) fn.ntmps (gE P fn) (vW (qA P fn)) (fun _=>0) true fun _=>true
def qR (fn:Func):Nat:=Nat.add fn.params.size fn.nfree
def kg (P:Program) (fn:Func):Bool:=!(fn.name=="runtime.NumGoroutine")&&((fn.body.bind (comp P (vj P fn) fn.ntmps)).isSome&&((F_ P fn.results.toList).isSome&&(Nat.ble fn.ntmps AM&&Nat.ble (qR fn) fn.ntmps)))
def ve (P:Program) (fn:Func):GF:=iW (qR fn) (qA P fn) (gE P fn) (qU P fn false)
def Qp (P:Program) (fn:Func):Bool:=kg P fn&&(FN (gE P fn)&&Wu (qA P fn))
section
variable {P:Program}{g:FuncId}{fn:Func}
theorem HG (hmix:P.follows .mixedOrders=true) (hf:P.funcs[g]?=some fn) (ho:kg P fn=true):MT P g fn.ntmps (gE P fn) (qA P fn)/\Nat.ble (qR fn) fn.ntmps=true:=by
 simp only[kg,AS,E5]at ho
 obtain⟨h1,h2,h3,h4,h5⟩:=ho
 obtain⟨q,hq⟩:=E9.1 h3
 refine⟨fw hmix hf h1 rfl h2 ?_ h4,h5⟩
 unfold qA;rw[hq]
theorem sA (hmix:P.follows .mixedOrders=true) (hf:P.funcs[g]?=some fn) (ho:kg P fn=true){F:GF}(hF:F=ve P fn):Ax P g F:=
 Vp (HG hmix hf ho).1 (HG hmix hf ho).2 hF
theorem Ly (ho:Qp P fn=true):kg P fn=true/\FN (gE P fn)=true/\Wu (qA P fn)=true:=by
 simpa only[Qp,AS]using ho
def ma (its:Ya) (P:Program) (fn:Func):GF:=aW its (qR fn) (qA P fn) (gE P fn) (qU P fn true)
theorem sD {its:Ya}(hI:Rx P its) (hmix:P.follows .mixedOrders=true) (hf:P.funcs[g]?=some fn) (ho:Qp P fn=true):Ax P g (ma its P fn):=
 have h:=Ly ho
 NN (HG hmix hf h.1).1 hI h.2.1 h.2.2 (HG hmix hf h.1).2 rfl
def gq (its:Ya) (P:Program) (ex:FuncId->Bool):Nt:=fun g=>bif ex g then none else Option.rec (motive:=fun _=>Option GF) none (fun fn=>bif Qp P fn then some (ma its P fn)else none) P.funcs[g]?
theorem dM {its:Ya}(hI:Rx P its) (hmix:P.follows .mixedOrders=true) (ex:FuncId->Bool):Kf P (gq its P ex):=fun g F h=>by
 unfold gq at h
 cases he:ex g with
 | true=>rw[he]at h;cases h
 | false=>
  rw[he]at h
  cases hf:P.funcs[g]? with
  | none=>rw[hf]at h;cases h
  | some fn=>
   rw[hf]at h
   have h:(bif Qp P fn then some (ma its P fn)else none)=some F:=h
   cases ho:Qp P fn with
   | false=>rw[ho]at h;cases h
   | true=>
    rw[ho]at h
    cases h
    have h:=Ly ho
    exact NN (HG hmix hf h.1).1 hI h.2.1 h.2.2 (HG hmix hf h.1).2 rfl
def gu (a b:Nt):Nt:=fun g=>Option.rec (motive:=fun _=>Option GF) (b g) (fun F=>some F) (a g)
theorem dO {a b:Nt}(ha:Kf P a) (hb:Kf P b):Kf P (gu a b):=fun g F h=>by
 unfold gu at h
 cases hx:a g with
 | none=>rw[hx]at h;exact hb g F h
 | some F'=>rw[hx]at h;cases h;exact ha g _ hx
def vY (P:Program) (fn:Func) (ws:List AV) (H:AH) (Post:Al->AH->Prop):Prop:=Zs P (qA P fn) (gE P fn) (qU P fn false) ws H Post
theorem pA (hmix:P.follows .mixedOrders=true) (hf:P.funcs[g]?=some fn) (ho:Qp P fn=true){ws:List AV}(hlen:Nat.ble ws.length fn.ntmps=true){H:AH}{Post:Al->AH->Prop}{G:Prop}(hG:G=vY P fn ws H Post) (h:G):AQ P g ws H Post:=
 have k:=Ly ho
 PR (HG hmix hf k.1).1 k.2.1 k.2.2 hlen hG h
end
end
section
instance:Coe AV AE:=⟨.cst⟩
variable [BQ]
theorem dh {P:Program}{g n:Nat}{q:List CZ}{ac:Ay}{t:HT}(hF:MT P g n ac q) (ho:FN ac=true) (hq:Wu q=true){caps:List AV}{N:Nat}{X:Nat->AH->List AV->Prop}{Cl:(Nat->AH->Prop)->Prop}{G:AH->AH->Prop}(hlen:Nat.ble (caps.length+1) n=true){H:AH}{D:Nat->(Nat->AH->Prop)->Prop}
  (hG:∀l I,D l I=@Zs (VF l N X G I) P q ac t (.fn (.yield l) [] []::caps) H (fun out H'=>(∃v,out=.ret v)/\I N H')) (h:∀l I,Cl I->I 0 H->D l I):M3 P g caps H N X Cl G:=
 VZ hF ho hq hlen fun l I hCl hI=>Eq.mp (hG l I) (h l I hCl hI)
theorem Wv {P:Program}{g:FuncId}{fn:Func}(hmix:P.follows .mixedOrders=true) (hf:P.funcs[g]?=some fn) (ho:Qp P fn=true){caps:List AV}{N:Nat}{X:Nat->AH->List AV->Prop}{Cl:(Nat->AH->Prop)->Prop}{G:AH->AH->Prop}(hlen:Nat.ble (caps.length+1) fn.ntmps=true){H:AH}{D:Nat->(Nat->AH->Prop)->Prop}
  (hD:∀l I,D l I=@Zs (VF l N X G I) P (qA P fn) (gE P fn) (qU P fn false) (.fn (.yield l) [] []::caps) H (fun out H'=>(∃v,out=.ret v)/\I N H')) (h:∀l I,Cl I->I 0 H->D l I):M3 P g caps H N X Cl G:=
 have k:=Ly ho
 dh (HG hmix hf k.1).1 k.2.1 k.2.2 hlen hD h
end
end Go.AL
namespace Go.Proofs.YtlmkmpomgdbjhaaGreatDoor
open Tryz
section
open Go Go.AL
theorem mix:prog.follows .mixedOrders=true:=by kernel_rfl
variable [BQ]
theorem tP {g:FuncId}{fn:Func}{l:List AV}{h:AH}{Post:Al->AH->Prop}{G:Prop}(hf:prog.funcs[g]?=some fn) (ho:(Qp prog fn&&Nat.ble l.length fn.ntmps)=true) (hG:G=vY prog fn l h Post) (k:G):AQ prog g l h Post:=by
  rw[AS]at ho
  exact pA mix hf ho.1 ho.2 hG k
def xh (W X:AV) (h:AH) (d:Al->AH->Prop):Prop:=(
 AO (.box W) h fun Y Q=>
 AO (.alloc (BD 32 (N .u8 0) [])) Q fun Z R=>
 AO (.alloc (BD 64 (N .u8 0) [])) R fun v4 U=>
 AO (.alloc (BD 64 (N .u8 0) [])) U fun v5 V=>
 Ak [1,2,4,5,6,10] (fun O=>(fun(t u s l m a:AV) (e:AH)=>
 AB (.bin .lss a (I 64)) fun D=>
 AZ D
 (AB (.bin .lss a (I 32)) fun n=>
 MU n (fun(o c b p g i j q:AV) (f:AH)=>
 AB (.bin .xor j (N .u8 54)) fun r=>
 AB (.bin .xor j (N .u8 92)) fun E=>
 AB (.indexAddrA 64 1 p i) fun G=>
 AO (.store 1 G r) f fun a3 B=>
 AB (.indexAddrA 64 1 g i) fun L=>
 AO (.store 1 L E) B fun a4 C=>
 AB (.bin .add q (I 1)) fun M=>
 O o c b p g M C)
 (fun k=>AB (.indexAddrA 32 1 u a) fun c=>
 AG (.load none c) e fun b=>
 k t u s l m a b a e)
 (fun k=>k t u s l m a (N .u8 0) a e))
 (AB (.sliceA 64 1 l none none none) fun n=>
 AO (.buildSlice 1 2 [.nils,.nils] [(0,1,n),(1,1,t)]) e fun o v=>
 AF prog 88 [o] v (yp d) fun c w=>
 AO (.alloc (BD 32 (N .u8 0) [])) w fun b x=>
 AO (.store 32 b c) x fun p y=>
 AB (.sliceA 64 1 m none none none) fun g=>
 AB (.sliceA 32 1 b none none none) fun i=>
 Lb (.buildSlice 1 2 [.nils,.nils] [(0,1,g),(1,1,i)]) y fun j z=>
 AF prog 88 [j] z (yp d) fun q A=>
 AO (.store 32 s q) A fun a2 f=>
 AG (.load (some 32) s) f fun r=>
 d (.ret r) f))) ((((((A5.set 1 X).set 2 Y).set 4 Z).set 5 v4).set 6 v5).set 10 (I 0)) V)
theorem T43 {v0 v1 h Post}(hG:xh v0 v1 h Post):AQ prog 43 [v0,v1] h Post:=tP func43 (by kernel_rfl) (by kernel_rfl) hG
def xg (k:AV) (h:AH) (b:Al->AH->Prop):Prop:=(
 AB (.len k) fun A=>
 Ak [0,3,9,10,11] (fun z=>(fun(l w x y m:AV) (j:AH)=>
 AB (.bin .lss m y) fun B=>
 AZ B
 (AB (.indexAddrS 1 x m) fun f=>
 AG (.load none f) j fun g=>
 AB (.len g) fun q=>
 AB (.bin .add w q) fun a=>
 AB (.bin .lss a (I 0)) fun c=>
 AZ c
 (CD (.ifc 9 (.str [108,101,110,32,111,117,116,32,111,102,32,114,97,110,103,101])) j (yp b))
 (AB (.bin .add m (I 1)) fun d=>
 z l a x y d j))
 (AF prog 89 [.nils,w] j (yp b) fun f o=>
 AB (.len l) fun g=>
 Ak [6,25,26,27] (fun n=>(fun(a c d i:AV) (e:AH)=>
 AB (.bin .lss i d) fun r=>
 AZ r
 (AB (.indexAddrS 1 c i) fun s=>
 AG (.load none s) e fun t=>
 AO (.append 1 1 a t) e fun u p=>
 AB (.bin .add i (I 1)) fun v=>
 n u c d v p)
 (b (.ret a) e))) ((((A5.set 6 f).set 25 l).set 26 g).set 27 (I 0)) o))) (((((A5.set 0 k).set 3 (I 0)).set 9 k).set 10 A).set 11 (I 0)) h)
theorem T44 {v0 h Post}(hG:xg v0 h Post):AQ prog 44 [v0] h Post:=tP func44 (by kernel_rfl) (by kernel_rfl) hG
def xf (c:AV) (h:AH) (a:Al->AH->Prop):Prop:=(
 AO (.box c) h fun d b=>
 a (.ret (.fn (.func 90) [] [d])) b)
theorem T45 {v0 h Post}(hG:xf v0 h Post):AQ prog 45 [v0] h Post:=tP func45 (by kernel_rfl) (by kernel_rfl) hG
def ua [YC] (M O Q R:AV) (h:AH) (b:Al->AH->Prop):Prop:=(
 AG (.load none O) h fun U=>
 AB (.len U) fun V=>
 Ak [0,2,3,8,9] (fun L=>(fun(W G X m e:AV) (d:AH)=>
 AB (.bin .lss e m) fun r=>
 AZ r
 (AG (.load none G) d fun s=>
 AB (.len s) fun t=>
 Ak [0,2,3,5,8,9,13,14] (fun q=>(fun(f g i j n o p c:AV) (a:AH)=>
 AB (.bin .lss c p) fun u=>
 AZ u
 (AB (.build [(I 0),(I 0)] [(0,1,j),(1,1,c)]) fun k=>
 AG (.load none i) a fun v=>
 AG (.load none g) a fun w=>
 AB (.len w) fun x=>
 AB (.bin .mul j x) fun y=>
 AB (.bin .add y c) fun z=>
 AB (.indexAddrS 1 v z) fun A=>
 AG (.load none A) a fun B=>
 DV prog f [k,B] a (yp b) fun C l=>
 AB (.un .not C) fun D=>
 AZ D
 (b (.ret (.tup [])) l)
 (AB (.bin .add c (I 1)) fun E=>
 q f g i j n o p E l))
 (AB (.bin .add o (I 1)) fun k=>
 L f g i n k a))) ((((((((A5.set 0 W).set 2 G).set 3 X).set 5 e).set 8 m).set 9 e).set 13 t).set 14 (I 0)) d)
 (b (.ret (.tup [])) d))) (((((A5.set 0 M).set 2 Q).set 3 R).set 8 V).set 9 (I 0)) h)
theorem I70 {v1 v2 v3:AV}{N:Nat}{X:Nat->AH->List AV->Prop}{Cl:(Nat->AH->Prop)->Prop}{G:AH->AH->Prop}{H:AH}(h:∀l I,Cl I->I 0 H->@ua (VF l N X G I) (.fn (.yield l) [] []) v1 v2 v3 H fun out H'=>(∃v,out=.ret v)/\I N H'):M3 prog 70 [v1,v2,v3] H N X Cl G:=
 Wv (D:=fun l I=>@ua (VF l N X G I) (.fn (.yield l) [] []) v1 v2 v3 H fun out H'=>(∃v,out=.ret v)/\I N H') (fn:=f70) mix (by kernel_rfl) (by kernel_rfl) (by kernel_rfl) (fun l I=>by kernel_rfl) h
def uZ [YC] (x y z:AV) (h:AH) (a:Al->AH->Prop):Prop:=(
 AG (.load none y) h fun A=>
 Ak [0,2,6,7] (fun w=>(fun(B u v n:AV) (m:AH)=>
 AB (.bin .lss n v) fun p=>
 AZ p
 (AG (.load none u) m fun q=>
 Ak [0,2,4,6,7,10,11] (fun o=>(fun(b g i j k l c:AV) (e:AH)=>
 AB (.bin .lss c l) fun r=>
 AZ r
 (DV prog b [i,c] e (yp a) fun d f=>
 AB (.un .not d) fun s=>
 AZ s
 (a (.ret (.tup [])) f)
 (AB (.bin .add c (I 1)) fun t=>
 o b g i j k l t f))
 (AB (.bin .add k (I 1)) fun d=>
 w b g j d e))) (((((((A5.set 0 B).set 2 u).set 4 n).set 6 v).set 7 n).set 10 q).set 11 (I 0)) m)
 (a (.ret (.tup [])) m))) ((((A5.set 0 x).set 2 z).set 6 A).set 7 (I 0)) h)
theorem I84 {v1 v2:AV}{N:Nat}{X:Nat->AH->List AV->Prop}{Cl:(Nat->AH->Prop)->Prop}{G:AH->AH->Prop}{H:AH}(h:∀l I,Cl I->I 0 H->@uZ (VF l N X G I) (.fn (.yield l) [] []) v1 v2 H fun out H'=>(∃v,out=.ret v)/\I N H'):M3 prog 84 [v1,v2] H N X Cl G:=
 Wv (D:=fun l I=>@uZ (VF l N X G I) (.fn (.yield l) [] []) v1 v2 H fun out H'=>(∃v,out=.ret v)/\I N H') (fn:=f84) mix (by kernel_rfl) (by kernel_rfl) (by kernel_rfl) (fun l I=>by kernel_rfl) h
def xT (L:AV) (h:AH) (c:Al->AH->Prop):Prop:=(
 AO (.alloc (BD 32 (N .u8 0) [])) h fun M y=>
 AB (.build (BD 8 (N .u32 0) []) [(0,1,(N .u32 1779033703)),(1,1,(N .u32 3144134277)),(2,1,(N .u32 1013904242)),(3,1,(N .u32 2773480762)),(4,1,(N .u32 1359893119)),(5,1,(N .u32 2600822924)),(6,1,(N .u32 528734635)),(7,1,(N .u32 1541459225))]) fun O=>
 AO (.alloc (BD 8 (N .u32 0) [])) y fun l z=>
 AO (.store 8 l O) z fun V A=>
 AF prog 182 [L] A (yp c) fun Q B=>
 TR prog Q B (fun(R:List AV) (E:AH) (w:AH->Prop)=>Q4 R fun m x6'=>Wb x6' (AF prog 183 [l,m] E SF fun g G=>
 w G)) fun C=>
 AO (.alloc (BD 32 (N .u8 0) [])) C fun m D=>
 Ak [2,3,5,13] (fun x=>(fun(g j d a:AV) (b:AH)=>
 AB (.bin .lss a (I 32)) fun o=>
 AZ o
 (AB (.bin .quo a (I 4)) fun e=>
 AB (.indexAddrA 8 1 j e) fun k=>
 AG (.load none k) b fun f=>
 AB (.bin .rem a (I 4)) fun p=>
 AB (.bin .mul (I 8) p) fun q=>
 AB (.bin .sub (I 24) q) fun r=>
 AB (.bin .shr f r) fun s=>
 AB (.convI .u8 s) fun t=>
 AB (.indexAddrA 32 1 d a) fun u=>
 AO (.store 1 u t) b fun U n=>
 AB (.bin .add a (I 1)) fun v=>
 x g j d v n)
 (AG (.load (some 32) d) b fun e=>
 AO (.store 32 g e) b fun k i=>
 AG (.load (some 32) g) i fun f=>
 c (.ret f) i))) ((((A5.set 2 M).set 3 l).set 5 m).set 13 (I 0)) D)
theorem z_ {v0 h Post}(hG:xT v0 h Post):AQ prog 88 [v0] h Post:=tP func88 (by kernel_rfl) (by kernel_rfl) hG
def xS (a e:AV) (h:AH) (b:Al->AH->Prop):Prop:=(
 AB (.bin .lss e (I 0)) fun m=>
 AZ m
 (CD (.ifc 9 (.str [99,97,110,110,111,116,32,98,101,32,110,101,103,97,116,105,118,101])) h (yp b))
 (AB (.cap a) fun n=>
 AB (.len a) fun o=>
 AB (.bin .sub n o) fun p=>
 AB (.bin .sub e p) fun k=>
 AB (.bin .gtr k (I 0)) fun q=>
 MU q (fun(r:AV) (l:AH)=>
 b (.ret r) l)
 (fun c=>AB (.cap a) fun s=>
 AB (.sliceS 1 a none (some s) none) fun f=>
 AO (.appendZ 1 1 [(N .u8 0)] f k) h fun g d=>
 AB (.len a) fun i=>
 AB (.sliceS 1 g none (some i) none) fun j=>
 c j d)
 (fun c=>c a h)))
theorem z9 {v0 v1 h Post}(hG:xS v0 v1 h Post):AQ prog 89 [v0,v1] h Post:=tP func89 (by kernel_rfl) (by kernel_rfl) hG
def uY [YC] (q e:AV) (h:AH) (a:Al->AH->Prop):Prop:=(
 AG (.load none e) h fun r=>
 AB (.len r) fun s=>
 AB (.bin .sub s (I 1)) fun t=>
 Ak [0,1,3] (fun p=>(fun(n o c:AV) (b:AH)=>
 AB (.bin .geq c (I 0)) fun f=>
 AZ f
 (AG (.load none o) b fun g=>
 AB (.indexAddrS 1 g c) fun i=>
 AG (.load none i) b fun j=>
 DV prog n [c,j] b (yp a) fun k d=>
 AB (.un .not k) fun l=>
 AZ l
 (a (.ret (.tup [])) d)
 (AB (.bin .sub c (I 1)) fun m=>
 p n o m d))
 (a (.ret (.tup [])) b))) (((A5.set 0 q).set 1 e).set 3 t) h)
theorem I90 {v1:AV}{N:Nat}{X:Nat->AH->List AV->Prop}{Cl:(Nat->AH->Prop)->Prop}{G:AH->AH->Prop}{H:AH}(h:∀l I,Cl I->I 0 H->@uY (VF l N X G I) (.fn (.yield l) [] []) v1 H fun out H'=>(∃v,out=.ret v)/\I N H'):M3 prog 90 [v1] H N X Cl G:=
 Wv (D:=fun l I=>@uY (VF l N X G I) (.fn (.yield l) [] []) v1 H fun out H'=>(∃v,out=.ret v)/\I N H') (fn:=f90) mix (by kernel_rfl) (by kernel_rfl) (by kernel_rfl) (fun l I=>by kernel_rfl) h
def oz (c:AV) (h:AH) (a:Al->AH->Prop):Prop:=(
 AO (.box c) h fun d b=>
 a (.ret (.fn (.func 303) [] [d])) b)
theorem tC {v0 h Post}(hG:oz v0 h Post):AQ prog 182 [v0] h Post:=tP func182 (by kernel_rfl) (by kernel_rfl) hG
def ow (v0 v1:AV) (h:AH) (c:Al->AH->Prop):Prop:=(
 AO (.alloc (BD 64 (N .u32 0) [])) h fun v2 h2=>
 Ak [0,1,4,17] (fun J3=>(fun(v4 v5 v6 W:AV) (h8:AH)=>
 AB (.bin .lss W (I 16)) fun v9=>
 AZ v9
 (AB (.bin .mul (I 4) W) fun e6=>
 AB (.indexAddrS 1 v5 e6) fun G=>
 AG (.load none G) h8 fun l=>
 AB (.convI .u32 l) fun m=>
 AB (.bin .shl m (N .u64 24)) fun e7=>
 AB (.bin .mul (I 4) W) fun b8=>
 AB (.bin .add b8 (I 1)) fun L=>
 AB (.indexAddrS 1 v5 L) fun M=>
 AG (.load none M) h8 fun q=>
 AB (.convI .u32 q) fun Y=>
 AB (.bin .shl Y (N .u64 16)) fun O=>
 AB (.bin .or e7 O) fun Q=>
 AB (.bin .mul (I 4) W) fun A=>
 AB (.bin .add A (I 2)) fun B=>
 AB (.indexAddrS 1 v5 B) fun a=>
 AG (.load none a) h8 fun C=>
 AB (.convI .u32 C) fun r=>
 AB (.bin .shl r (N .u64 8)) fun b9=>
 AB (.bin .or Q b9) fun R=>
 AB (.bin .mul (I 4) W) fun U=>
 AB (.bin .add U (I 3)) fun f=>
 AB (.indexAddrS 1 v5 f) fun g=>
 AG (.load none g) h8 fun i=>
 AB (.convI .u32 i) fun V=>
 AB (.bin .or R V) fun s=>
 AB (.indexAddrA 64 1 v6 W) fun t=>
 AO (.store 1 t s) h8 fun u e3=>
 AB (.bin .add W (I 1)) fun n=>
 J3 v4 v5 v6 n e3)
 (Ak [0,4,6] (fun d7=>(fun(G l m:AV) (E:AH)=>
 AB (.bin .lss m (I 64)) fun b8=>
 AZ b8
 (AB (.bin .sub m (I 15)) fun L=>
 AB (.indexAddrA 64 1 l L) fun M=>
 AG (.load none M) E fun q=>
 AB (.bin .sub m (I 2)) fun Y=>
 AB (.indexAddrA 64 1 l Y) fun O=>
 AG (.load none O) E fun Q=>
 AF prog 304 [q,(.int .i64 (-7))] E (yp c) fun A e1=>
 AF prog 304 [q,(.int .i64 (-18))] e1 (yp c) fun B e2=>
 AB (.bin .xor A B) fun a=>
 AB (.bin .shr q (N .u64 3)) fun C=>
 AB (.bin .xor a C) fun r=>
 AF prog 304 [Q,(.int .i64 (-17))] e2 (yp c) fun b9 e=>
 AF prog 304 [Q,(.int .i64 (-19))] e (yp c) fun R b7=>
 AB (.bin .xor b9 R) fun U=>
 AB (.bin .shr Q (N .u64 10)) fun f=>
 AB (.bin .xor U f) fun g=>
 AB (.bin .sub m (I 16)) fun i=>
 AB (.indexAddrA 64 1 l i) fun V=>
 AG (.load none V) b7 fun s=>
 AB (.bin .add s r) fun t=>
 AB (.bin .sub m (I 7)) fun u=>
 AB (.indexAddrA 64 1 l u) fun n=>
 AG (.load none n) b7 fun v=>
 AB (.bin .add t v) fun w=>
 AB (.bin .add w g) fun x=>
 AB (.indexAddrA 64 1 l m) fun y=>
 AO (.store 1 y x) b7 fun Z e4=>
 AB (.bin .add m (I 1)) fun z=>
 d7 G l z e4)
 (AB (.nilCheck G) fun L=>
 AG (.load (some 8) L) E fun M=>
 AO (.alloc (BD 8 (N .u32 0) [])) E fun q e0=>
 AO (.store 8 q M) e0 fun Y c3=>
 AG (.gld (some 64) 0) c3 fun O=>
 Ak [0,4,11,102,103] (fun d8=>(fun(A B a C r:AV) (e:AH)=>
 AB (.bin .lss r (I 64)) fun R=>
 AZ R
 (AB (.indexA 64 1 none C r) fun U=>
 AB (.indexAddrA 8 1 a (I 7)) fun f=>
 AG (.load none f) e fun g=>
 AB (.indexAddrA 8 1 a (I 4)) fun i=>
 AG (.load none i) e fun V=>
 AB (.indexAddrA 8 1 a (I 4)) fun s=>
 AG (.load none s) e fun t=>
 AB (.indexAddrA 8 1 a (I 4)) fun u=>
 AG (.load none u) e fun n=>
 AB (.indexAddrA 8 1 a (I 4)) fun v=>
 AG (.load none v) e fun w=>
 AB (.indexAddrA 8 1 a (I 5)) fun x=>
 AG (.load none x) e fun y=>
 AB (.bin .and w y) fun Z=>
 AB (.indexAddrA 8 1 a (I 4)) fun z=>
 AG (.load none z) e fun D=>
 AB (.un .xor D) fun e9=>
 AB (.indexAddrA 8 1 a (I 6)) fun a0=>
 AG (.load none a0) e fun a1=>
 AB (.bin .and e9 a1) fun f0=>
 AB (.bin .xor Z f0) fun f1=>
 AB (.indexAddrA 64 1 B r) fun a2=>
 AG (.load none a2) e fun a3=>
 AF prog 304 [V,(.int .i64 (-6))] e (yp c) fun f2 j=>
 (Am (.load none a2) a3 j/\(Am (.load none a0) a1 j/\(Am (.load none z) D j/\(Am (.load none x) y j/\(Am (.load none v) w j/\(Am (.load none u) n j/\(Am (.load none s) t j/\(Am (.load none f) g j/\True))))))))/\AF prog 304 [t,(.int .i64 (-11))] j (yp c) fun f3 o=>
 (Am (.load none a2) a3 o/\(Am (.load none a0) a1 o/\(Am (.load none z) D o/\(Am (.load none x) y o/\(Am (.load none v) w o/\(Am (.load none u) n o/\(Am (.load none f) g o/\True)))))))/\AB (.bin .xor f2 f3) fun f4=>
 AF prog 304 [n,(.int .i64 (-25))] o (yp c) fun f5 b=>
 (Am (.load none a2) a3 b/\(Am (.load none a0) a1 b/\(Am (.load none z) D b/\(Am (.load none x) y b/\(Am (.load none v) w b/\(Am (.load none f) g b/\True))))))/\AB (.bin .xor f4 f5) fun f6=>
 AB (.bin .add g f6) fun f7=>
 AB (.bin .add f7 f1) fun f8=>
 AB (.bin .add f8 U) fun f9=>
 AB (.bin .add f9 a3) fun c4=>
 AB (.indexAddrA 8 1 a (I 0)) fun g0=>
 AG (.load none g0) b fun g1=>
 AB (.indexAddrA 8 1 a (I 0)) fun c5=>
 AG (.load none c5) b fun c6=>
 AB (.indexAddrA 8 1 a (I 0)) fun c1=>
 AG (.load none c1) b fun c2=>
 AB (.indexAddrA 8 1 a (I 0)) fun a4=>
 AG (.load none a4) b fun a5=>
 AB (.indexAddrA 8 1 a (I 1)) fun a6=>
 AG (.load none a6) b fun a7=>
 AB (.bin .and a5 a7) fun g2=>
 AB (.indexAddrA 8 1 a (I 0)) fun a8=>
 AG (.load none a8) b fun a9=>
 AB (.indexAddrA 8 1 a (I 2)) fun b0=>
 AG (.load none b0) b fun b1=>
 AB (.bin .and a9 b1) fun g3=>
 AB (.bin .xor g2 g3) fun g4=>
 AB (.indexAddrA 8 1 a (I 1)) fun b2=>
 AG (.load none b2) b fun b3=>
 AB (.indexAddrA 8 1 a (I 2)) fun b4=>
 AG (.load none b4) b fun b5=>
 AB (.bin .and b3 b5) fun g5=>
 AB (.bin .xor g4 g5) fun g6=>
 AF prog 304 [g1,(.int .i64 (-2))] b (yp c) fun g7 k=>
 (Am (.load none b4) b5 k/\(Am (.load none b2) b3 k/\(Am (.load none b0) b1 k/\(Am (.load none a8) a9 k/\(Am (.load none a6) a7 k/\(Am (.load none a4) a5 k/\(Am (.load none c1) c2 k/\(Am (.load none c5) c6 k/\True))))))))/\AF prog 304 [c6,(.int .i64 (-13))] k (yp c) fun g8 p=>
 (Am (.load none b4) b5 p/\(Am (.load none b2) b3 p/\(Am (.load none b0) b1 p/\(Am (.load none a8) a9 p/\(Am (.load none a6) a7 p/\(Am (.load none a4) a5 p/\(Am (.load none c1) c2 p/\True)))))))/\AB (.bin .xor g7 g8) fun g9=>
 AF prog 304 [c2,(.int .i64 (-22))] p (yp c) fun i0 d=>
 (Am (.load none b4) b5 d/\(Am (.load none b2) b3 d/\(Am (.load none b0) b1 d/\(Am (.load none a8) a9 d/\(Am (.load none a6) a7 d/\(Am (.load none a4) a5 d/\True))))))/\AB (.bin .xor g9 i0) fun i1=>
 AB (.bin .add i1 g6) fun i2=>
 AB (.bin .add c4 i2) fun i3=>
 AB (.indexAddrA 8 1 a (I 0)) fun i4=>
 AG (.load none i4) d fun i5=>
 AB (.indexAddrA 8 1 a (I 1)) fun i6=>
 AG (.load none i6) d fun i7=>
 AB (.indexAddrA 8 1 a (I 2)) fun i8=>
 AG (.load none i8) d fun i9=>
 AB (.indexAddrA 8 1 a (I 3)) fun j0=>
 AG (.load none j0) d fun j1=>
 AB (.bin .add j1 c4) fun j2=>
 AB (.indexAddrA 8 1 a (I 4)) fun c8=>
 AG (.load none c8) d fun c9=>
 AB (.indexAddrA 8 1 a (I 5)) fun d0=>
 AG (.load none d0) d fun d1=>
 AB (.indexAddrA 8 1 a (I 6)) fun d2=>
 AG (.load none d2) d fun d3=>
 AB (.build (BD 8 (N .u32 0) []) [(0,1,i3),(1,1,i5),(2,1,i7),(3,1,i9),(4,1,j2),(5,1,c9),(6,1,d1),(7,1,d3)]) fun d4=>
 AO (.store 8 a d4) d fun j7 c7=>
 AB (.bin .add r (I 1)) fun d5=>
 d8 A B a C d5 c7)
 (Ak [0,11,190] (fun d9=>(fun(f g i:AV) (X:AH)=>
 AB (.bin .lss i (I 8)) fun s=>
 AZ s
 (AB (.nilCheck f) fun t=>
 AB (.indexAddrA 8 1 t i) fun u=>
 AG (.load none u) X fun n=>
 AB (.indexAddrA 8 1 g i) fun v=>
 AG (.load none v) X fun w=>
 AB (.bin .add n w) fun x=>
 AB (.nilCheck f) fun y=>
 AB (.indexAddrA 8 1 y i) fun Z=>
 AO (.store 1 Z x) X fun z e5=>
 AB (.bin .add i (I 1)) fun D=>
 d9 f g D e5)
 (c (.ret (.tup [])) X))) (((A5.set 0 A).set 11 a).set 190 (I 0)) e))) (((((A5.set 0 G).set 4 l).set 11 q).set 102 O).set 103 (I 0)) c3))) (((A5.set 0 v4).set 4 v6).set 6 (I 16)) h8))) ((((A5.set 0 v0).set 1 v1).set 4 v2).set 17 (I 0)) h2)
theorem tB {v0 v1 h Post}(hG:ow v0 v1 h Post):AQ prog 183 [v0,v1] h Post:=tP func183 (by kernel_rfl) (by kernel_rfl) hG
def kU [YC] (v0 v1:AV) (h:AH) (c:Al->AH->Prop):Prop:=(
 AG (.load none v1) h fun M=>
 AB (.len M) fun v3=>
 Ak [0,3,4,8,9,10] (fun J4=>(fun(v5 v6 v7 v8 v9 l:AV) (k:AH)=>
 AB (.bin .lss l v9) fun E=>
 AZ E
 (AB (.indexAddrS 1 v8 l) fun m=>
 AG (.load none m) k fun e=>
 AO (.append 1 1 v6 e) k fun G A=>
 AB (.len e) fun f=>
 AB (.convI .u64 f) fun a=>
 AB (.bin .add v7 a) fun g=>
 AB (.bin .add l (I 1)) fun L=>
 J4 v5 G g v8 v9 L A)
 (AO (.buildSlice 1 1 [(N .u8 0)] [(0,1,(N .u8 128))]) k fun m y=>
 AO (.append 1 1 v6 m) y fun e z=>
 Ak [0,3,4] (fun v=>(fun(f a g:AV) (q:AH)=>
 AB (.len a) fun O=>
 AB (.bin .rem O (I 64)) fun Q=>
 AB (.bin .neq Q (I 56)) fun R=>
 AZ R
 (AO (.buildSlice 1 1 [(N .u8 0)] [(0,1,(N .u8 0))]) q fun U B=>
 AO (.append 1 1 a U) B fun i C=>
 v f i g C)
 (Ak [0,3,4,7] (fun w=>(fun(i t u n:AV) (r:AH)=>
 AB (.bin .geq n (I 0)) fun V=>
 AZ V
 (AB (.bin .mul (N .u64 8) u) fun W=>
 AB (.bin .shr W n) fun j=>
 AB (.convI .u8 j) fun b=>
 AO (.buildSlice 1 1 [(N .u8 0)] [(0,1,b)]) r fun X d=>
 AO (.append 1 1 t X) d fun o D=>
 AB (.bin .sub n (I 8)) fun p=>
 w i o u p D)
 (Ak [0,3] (fun x=>(fun(j b:AV) (d:AH)=>
 AB (.len b) fun o=>
 AB (.bin .gtr o (I 0)) fun p=>
 AZ p
 (AB (.sliceS 1 b none (some (I 64)) none) fun Y=>
 DV prog j [Y] d (yp c) fun Z s=>
 AB (.un .not Z) fun a0=>
 AZ a0
 (c (.ret (.tup [])) s)
 (AB (.sliceS 1 b (some (I 64)) none none) fun a1=>
 x j a1 s))
 (c (.ret (.tup [])) d))) ((A5.set 0 i).set 3 t) r))) ((((A5.set 0 f).set 3 a).set 4 g).set 7 (I 56)) q))) (((A5.set 0 v5).set 3 e).set 4 v7) z))) ((((((A5.set 0 v0).set 3 .nils).set 4 (N .u64 0)).set 8 M).set 9 v3).set 10 (I 0)) h)
theorem uU {v1:AV}{N:Nat}{X:Nat->AH->List AV->Prop}{Cl:(Nat->AH->Prop)->Prop}{G:AH->AH->Prop}{H:AH}(h:∀l I,Cl I->I 0 H->@kU (VF l N X G I) (.fn (.yield l) [] []) v1 H fun out H'=>(∃v,out=.ret v)/\I N H'):M3 prog 303 [v1] H N X Cl G:=
 Wv (D:=fun l I=>@kU (VF l N X G I) (.fn (.yield l) [] []) v1 H fun out H'=>(∃v,out=.ret v)/\I N H') (fn:=f303) mix (by kernel_rfl) (by kernel_rfl) (by kernel_rfl) (fun l I=>by kernel_rfl) h
def oe (b d:AV) (h:AH) (a:Al->AH->Prop):Prop:=(
 AB (.convI .u64 d) fun e=>
 AB (.bin .and e (N .u64 31)) fun c=>
 AB (.bin .shl b c) fun f=>
 AB (.bin .sub (N .u64 32) c) fun g=>
 AB (.bin .shr b g) fun i=>
 AB (.bin .or f i) fun j=>
 a (.ret j) h)
theorem sb {v0 v1 h Post}(hG:oe v0 v1 h Post):AQ prog 304 [v0,v1] h Post:=tP func304 (by kernel_rfl) (by kernel_rfl) hG
end
section
open Go Go.AL
variable [BQ]
def xl (i:AV) (h:AH) (a:Al->AH->Prop):Prop:=(
 AB (.build [.nils] []) fun j=>
 AO (.box j) h fun k f=>
 AO (.alloc [.nilp]) f fun b g=>
 AO (.store 1 b k) g fun p d=>
 AG (.load none b) d fun l=>
 AF prog 51 [l,i,(.fn (.func 52) [] [b])] d (yp a) fun q c=>
 AG (.load none b) c fun m=>
 AB (.nilCheck m) fun n=>
 AB (.fieldAddr 0 n) fun o=>
 AG (.load none o) c fun e=>
 a (.ret e) c)
theorem T26 {v0 h Post}(hG:xl v0 h Post):AQ prog 26 [v0] h Post:=tP func26 (by kernel_rfl) (by kernel_rfl) hG
def G47 (n u:AV) (h:AH) (a:Al->AH->Prop):Prop:=(
 AF prog 91 [n] h (yp a) fun i b=>
 AB (.bin .lss i (I 0)) fun v=>
 AZ v
 (AB (.build [(I 0)] [(0,1,(I 4))]) fun j=>
 CD (.ifc 139 j) b (yp a))
 (AB (.nilCheck n) fun j=>
 AB (.fieldAddr 0 j) fun w=>
 AG (.load none w) b fun x=>
 AB (.len x) fun y=>
 AB (.bin .gtr i y) fun z=>
 AZ z
 (AB (.build [(I 0)] [(0,1,(I 5))]) fun A=>
 CD (.ifc 139 A) b (yp a))
 (Ak [1,6,22,23] (fun t=>(fun(d e f g:AV) (c:AH)=>
 AB (.bin .lss g f) fun o=>
 AZ o
 (DV prog d [] c (yp a) fun p k=>
 AO (.buildSlice 27 1 (BD 5 (I 0) (BD 6 .nils ((I 0)::(BD 4 .nils (BD 4 (I 0) ((.bool false)::((I 0)::((.bool false)::(BD 4 .nils []))))))))) [(0,27,p)]) k fun q l=>
 AO (.append 27 440 e q) l fun r m=>
 AB (.bin .add g (I 1)) fun s=>
 t d r f s m)
 (a (.ret e) c))) ((((A5.set 1 u).set 6 .nils).set 22 i).set 23 (I 0)) b)))
theorem T47 {v0 v1 h Post}(hG:G47 v0 v1 h Post):AQ prog 47 [v0,v1] h Post:=tP func47 (by kernel_rfl) (by kernel_rfl) hG
def xe (b:AV) (h:AH) (a:Al->AH->Prop):Prop:=(
 AO (.alloc (BD 5 (I 0) (BD 6 .nils ((I 0)::(BD 4 .nils (BD 4 (I 0) ((.bool false)::((I 0)::((.bool false)::(BD 4 .nils [])))))))))) h fun s O=>
 AF prog 91 [b] O (yp a) fun Y Q=>
 AB (.build (BD 5 (I 0) (BD 6 .nils ((I 0)::(BD 4 .nils (BD 4 (I 0) ((.bool false)::((I 0)::((.bool false)::(BD 4 .nils []))))))))) [(0,1,Y)]) fun Z=>
 AO (.alloc (BD 5 (I 0) (BD 6 .nils ((I 0)::(BD 4 .nils (BD 4 (I 0) ((.bool false)::((I 0)::((.bool false)::(BD 4 .nils [])))))))))) Q fun c R=>
 AO (.store 27 c Z) R fun v5 U=>
 AF prog 91 [b] U (yp a) fun v6 V=>
 AB (.fieldAddr 1 c) fun v7=>
 AO (.store 1 v7 v6) V fun v8 W=>
 AF prog 91 [b] W (yp a) fun v9 X=>
 AB (.fieldAddr 2 c) fun t=>
 AO (.store 1 t v9) X fun a3 f=>
 AF prog 91 [b] f (yp a) fun u g=>
 AB (.fieldAddr 3 c) fun v=>
 AO (.store 1 v u) g fun a4 i=>
 AF prog 92 [b] i (yp a) fun w j=>
 AB (.fieldAddr 4 c) fun x=>
 AO (.store 19 x w) j fun a5 k=>
 AF prog 93 [b] k (yp a) fun y l=>
 AB (.fieldAddr 23 c) fun z=>
 AO (.store 1 z y) l fun a6 m=>
 AF prog 94 [b,(.fn (.func 93) [b] [])] m (yp a) fun A n=>
 AB (.fieldAddr 24 c) fun B=>
 AO (.store 1 B A) n fun a7 o=>
 AF prog 95 [b,(.fn (.func 96) [b] [])] o (yp a) fun C p=>
 AB (.fieldAddr 25 c) fun D=>
 AO (.store 1 D C) p fun a8 q=>
 AF prog 97 [b,(.fn (.func 98) [b] [])] q (yp a) fun E r=>
 AB (.fieldAddr 26 c) fun G=>
 AO (.store 1 G E) r fun a9 d=>
 AG (.load (some 27) c) d fun L=>
 AO (.store 27 s L) d fun b0 e=>
 AG (.load (some 27) s) e fun M=>
 a (.ret M) e)
theorem T48 {v0 h Post}(hG:xe v0 h Post):AQ prog 48 [v0] h Post:=tP func48 (by kernel_rfl) (by kernel_rfl) hG
def G51 (t f u:AV) (h:AH) (a:Al->AH->Prop):Prop:=(
 AB (.len f) fun v=>
 AF prog 53 [t,v] h (yp a) fun z s=>
 AB (.len f) fun w=>
 Ak [2,12,13,14] (fun r=>(fun(o p q c:AV) (b:AH)=>
 AB (.bin .lss c q) fun j=>
 AZ j
 (AB (.indexAddrS 27 p c) fun k=>
 AG (.load (some 27) k) b fun l=>
 AO (.alloc (BD 5 (I 0) (BD 6 .nils ((I 0)::(BD 4 .nils (BD 4 (I 0) ((.bool false)::((I 0)::((.bool false)::(BD 4 .nils [])))))))))) b fun e g=>
 AO (.store 27 e l) g fun x d=>
 AG (.load (some 27) e) d fun m=>
 DV prog o [m] d (yp a) fun y i=>
 AB (.bin .add c (I 1)) fun n=>
 r o p q n i)
 (a (.ret (.tup [])) b))) ((((A5.set 2 u).set 12 f).set 13 w).set 14 (I 0)) s)
theorem T51 {v0 v1 v2 h Post}(hG:G51 v0 v1 v2 h Post):AQ prog 51 [v0,v1,v2] h Post:=tP func51 (by kernel_rfl) (by kernel_rfl) hG
def xd (V W:AV) (h:AH) (b:Al->AH->Prop):Prop:=(
 AO (.box V) h fun l g=>
 AB (.fieldAddr 0 l) fun X=>
 AG (.load none X) g fun Y=>
 AB (.fieldAddr 1 l) fun Z=>
 AG (.load none Z) g fun v6=>
 AB (.fieldAddr 2 l) fun v7=>
 AG (.load none v7) g fun v8=>
 AB (.fieldAddr 3 l) fun v9=>
 AG (.load none v9) g fun w=>
 AO (.buildSlice 1 4 (BD 4 (I 0) []) [(0,1,Y),(1,1,v6),(2,1,v8),(3,1,w)]) g fun q u=>
 AB (.len q) fun x=>
 Ak [1,2,13,14,15] (fun t=>(fun(a d r s k:AV) (c:AH)=>
 AB (.bin .lss k s) fun y=>
 AZ y
 (AB (.indexAddrS 1 r k) fun m=>
 AG (.load none m) c fun n=>
 AG (.load none a) c fun o=>
 AF prog 53 [o,n] c (yp b) fun z e=>
 AB (.bin .add k (I 1)) fun p=>
 t a d r s p e)
 (AG (.load none a) c fun m=>
 AB (.fieldAddr 4 d) fun n=>
 AG (.load (some 19) n) c fun o=>
 AF prog 54 [m,o] c (yp b) fun z e=>
 AG (.load none a) e fun p=>
 AB (.fieldAddr 23 d) fun A=>
 AG (.load none A) e fun B=>
 AF prog 55 [p,B] e (yp b) fun a4 f=>
 AG (.load none a) f fun C=>
 AB (.fieldAddr 24 d) fun D=>
 AG (.load none D) f fun E=>
 AG (.load none a) f fun G=>
 AF prog 56 [C,E,(.fn (.func 55) [G] [])] f (yp b) fun a5 i=>
 AG (.load none a) i fun L=>
 AB (.fieldAddr 25 d) fun M=>
 AG (.load none M) i fun O=>
 AF prog 57 [L,O,(.fn (.func 58) [] [a])] i (yp b) fun a6 j=>
 AG (.load none a) j fun Q=>
 AB (.fieldAddr 26 d) fun R=>
 AG (.load none R) j fun U=>
 AF prog 59 [Q,U,(.fn (.func 60) [] [a])] j (yp b) fun a7 v=>
 b (.ret (.tup [])) v))) (((((A5.set 1 W).set 2 l).set 13 q).set 14 x).set 15 (I 0)) u)
theorem T52 {v0 v1 h Post}(hG:xd v0 v1 h Post):AQ prog 52 [v0,v1] h Post:=tP func52 (by kernel_rfl) (by kernel_rfl) hG
def xc (v0 v1:AV) (h:AH) (a:Al->AH->Prop):Prop:=(
 AO (.box v0) h fun b h2=>
 AO (.box v1) h2 fun v3 V=>
 AB (.fieldAddr 0 v3) fun v4=>
 AG (.load (some 18) v4) V fun v5=>
 AO (.alloc ((I 0)::(BD 6 .nils ((I 0)::(BD 4 .nils (BD 4 (I 0) ((.bool false)::((I 0)::[])))))))) V fun c h6=>
 AO (.store 18 c v5) h6 fun v7 L=>
 AG (.load none b) L fun v8=>
 AB (.fieldAddr 0 c) fun v9=>
 AG (.load none v9) L fun Y=>
 AF prog 53 [v8,Y] L (yp a) fun i3 n=>
 AG (.load none b) n fun Z=>
 AB (.fieldAddr 1 c) fun a0=>
 AG (.load none a0) n fun a1=>
 AF prog 61 [Z,a1] n (yp a) fun i4 o=>
 AG (.load none b) o fun a2=>
 AB (.fieldAddr 2 c) fun a3=>
 AG (.load none a3) o fun a4=>
 AF prog 61 [a2,a4] o (yp a) fun i5 i=>
 AG (.load none b) i fun a5=>
 AB (.fieldAddr 3 c) fun a6=>
 AB (.fieldAddr 0 a6) fun a7=>
 AG (.load none a7) i fun a8=>
 AG (.load none b) i fun a9=>
 AF prog 102 [a5,a8,(.fn (.func 103) [a9] [])] i (yp a) fun i6 j=>
 AG (.load none b) j fun b0=>
 AB (.fieldAddr 3 c) fun b1=>
 AB (.fieldAddr 1 b1) fun b2=>
 AG (.load none b2) j fun b3=>
 AG (.load none b) j fun b5=>
 AF prog 56 [b0,b3,(.fn (.func 55) [b5] [])] j (yp a) fun i7 k=>
 AG (.load none b) k fun b6=>
 AB (.fieldAddr 3 c) fun b7=>
 AB (.fieldAddr 2 b7) fun b8=>
 AG (.load none b8) k fun b9=>
 AG (.load none b) k fun c0=>
 AF prog 104 [b6,b9,(.fn (.func 105) [c0] [])] k (yp a) fun i8 p=>
 AG (.load none b) p fun c1=>
 AB (.fieldAddr 6 c) fun c2=>
 AB (.fieldAddr 0 c2) fun c3=>
 AG (.load none c3) p fun c4=>
 AF prog 55 [c1,c4] p (yp a) fun i9 q=>
 AG (.load none b) q fun c5=>
 AB (.fieldAddr 6 c) fun c6=>
 AB (.fieldAddr 1 c6) fun c7=>
 AG (.load none c7) q fun c8=>
 AF prog 53 [c5,c8] q (yp a) fun j0 l=>
 AG (.load none b) l fun c9=>
 AB (.fieldAddr 8 c) fun d0=>
 AB (.fieldAddr 0 d0) fun d1=>
 AG (.load none d1) l fun d2=>
 AG (.load none b) l fun d3=>
 AF prog 102 [c9,d2,(.fn (.func 103) [d3] [])] l (yp a) fun j1 r=>
 AG (.load none b) r fun d4=>
 AB (.fieldAddr 8 c) fun d5=>
 AB (.fieldAddr 1 d5) fun d6=>
 AG (.load none d6) r fun d7=>
 AF prog 106 [d4,d7,(.fn (.func 107) [] [b])] r (yp a) fun j2 m=>
 AG (.load none b) m fun d8=>
 AB (.fieldAddr 8 c) fun d9=>
 AB (.fieldAddr 2 d9) fun e0=>
 AG (.load none e0) m fun e1=>
 AG (.load none b) m fun e2=>
 AF prog 104 [d8,e1,(.fn (.func 105) [e2] [])] m (yp a) fun j3 s=>
 AG (.load none b) s fun e3=>
 AB (.fieldAddr 8 c) fun e4=>
 AB (.fieldAddr 3 e4) fun e5=>
 AG (.load none e5) s fun e6=>
 AF prog 113 [e3,e6,(.fn (.func 114) [] [b])] s (yp a) fun j4 e=>
 AB (.fieldAddr 12 c) fun e7=>
 AB (.fieldAddr 0 e7) fun e8=>
 AG (.load none e8) e fun e9=>
 AB (.fieldAddr 12 c) fun f0=>
 AB (.fieldAddr 1 f0) fun f1=>
 AG (.load none f1) e fun f2=>
 AB (.fieldAddr 12 c) fun f3=>
 AB (.fieldAddr 2 f3) fun f4=>
 AG (.load none f4) e fun f5=>
 AB (.fieldAddr 12 c) fun f6=>
 AB (.fieldAddr 3 f6) fun f7=>
 AG (.load none f7) e fun f8=>
 AO (.buildSlice 1 4 (BD 4 (I 0) []) [(0,1,e9),(1,1,f2),(2,1,f5),(3,1,f8)]) e fun z W=>
 AB (.len z) fun f9=>
 Ak [2,3,4,90,91,92] (fun U=>(fun(f A u B C v:AV) (d:AH)=>
 AB (.bin .lss v C) fun g0=>
 AZ g0
 (AB (.indexAddrS 1 B v) fun w=>
 AG (.load none w) d fun x=>
 AG (.load none f) d fun y=>
 AF prog 53 [y,x] d (yp a) fun D X=>
 AB (.bin .add v (I 1)) fun E=>
 U f A u B C E X)
 (AG (.load none f) d fun w=>
 AB (.fieldAddr 12 u) fun x=>
 AB (.fieldAddr 4 x) fun y=>
 AG (.load none y) d fun D=>
 AF prog 105 [w,D] d (yp a) fun E t=>
 AG (.load none f) t fun g1=>
 AB (.fieldAddr 17 u) fun g2=>
 AG (.load none g2) t fun M=>
 AF prog 53 [g1,M] t (yp a) fun g7 g=>
 AG (.load none f) g fun O=>
 AB (.fieldAddr 18 A) fun Q=>
 AG (.load none Q) g fun R=>
 AF prog 105 [O,R] g (yp a) fun g8 G=>
 a (.ret (.tup [])) G))) ((((((A5.set 2 b).set 3 v3).set 4 c).set 90 z).set 91 f9).set 92 (I 0)) W)
theorem T54 {v0 v1 h Post}(hG:xc v0 v1 h Post):AQ prog 54 [v0,v1] h Post:=tP func54 (by kernel_rfl) (by kernel_rfl) hG
def xa (b d:AV) (h:AH) (a:Al->AH->Prop):Prop:=(
 AF prog 116 [b,d,(.fn (.func 53) [b] [])] h (yp a) fun e c=>
 a (.ret (.tup [])) c)
theorem T55 {v0 v1 h Post}(hG:xa v0 v1 h Post):AQ prog 55 [v0,v1] h Post:=tP func55 (by kernel_rfl) (by kernel_rfl) hG
def G56 (p d q:AV) (h:AH) (a:Al->AH->Prop):Prop:=(
 AB (.len d) fun r=>
 AF prog 53 [p,r] h (yp a) fun u o=>
 AB (.len d) fun s=>
 Ak [2,12,13,14] (fun n=>(fun(k l m c:AV) (b:AH)=>
 AB (.bin .lss c m) fun f=>
 AZ f
 (AB (.indexAddrS 1 l c) fun g=>
 AG (.load none g) b fun i=>
 DV prog k [i] b (yp a) fun t e=>
 AB (.bin .add c (I 1)) fun j=>
 n k l m j e)
 (a (.ret (.tup [])) b))) ((((A5.set 2 q).set 12 d).set 13 s).set 14 (I 0)) o)
theorem wA {v0 v1 v2 h Post}(hG:G56 v0 v1 v2 h Post):AQ prog 56 [v0,v1,v2] h Post:=tP func56 (by kernel_rfl) (by kernel_rfl) hG
def G57 (t f u:AV) (h:AH) (a:Al->AH->Prop):Prop:=(
 AB (.len f) fun v=>
 AF prog 53 [t,v] h (yp a) fun z s=>
 AB (.len f) fun w=>
 Ak [2,12,13,14] (fun r=>(fun(o p q c:AV) (b:AH)=>
 AB (.bin .lss c q) fun j=>
 AZ j
 (AB (.indexAddrS 8 p c) fun k=>
 AG (.load (some 8) k) b fun l=>
 AO (.alloc ((I 0)::(.nils::(BD 6 (I 0) [])))) b fun e g=>
 AO (.store 8 e l) g fun x d=>
 AG (.load (some 8) e) d fun m=>
 DV prog o [m] d (yp a) fun y i=>
 AB (.bin .add c (I 1)) fun n=>
 r o p q n i)
 (a (.ret (.tup [])) b))) ((((A5.set 2 u).set 12 f).set 13 w).set 14 (I 0)) s)
theorem T57 {v0 v1 v2 h Post}(hG:G57 v0 v1 v2 h Post):AQ prog 57 [v0,v1,v2] h Post:=tP func57 (by kernel_rfl) (by kernel_rfl) hG
def xZ (O m:AV) (h:AH) (b:Al->AH->Prop):Prop:=(
 AO (.box O) h fun c k=>
 AG (.load none m) k fun Q=>
 AB (.fieldAddr 0 c) fun R=>
 AG (.load none R) k fun U=>
 AF prog 53 [Q,U] k (yp b) fun v6 l=>
 AG (.load none m) l fun V=>
 AB (.fieldAddr 1 c) fun W=>
 AG (.load none W) l fun X=>
 AF prog 55 [V,X] l (yp b) fun Y a=>
 AB (.fieldAddr 2 c) fun q=>
 AG (.load none q) a fun r=>
 AB (.fieldAddr 3 c) fun s=>
 AG (.load none s) a fun t=>
 AB (.fieldAddr 4 c) fun u=>
 AG (.load none u) a fun v=>
 AB (.fieldAddr 5 c) fun w=>
 AG (.load none w) a fun x=>
 AB (.fieldAddr 6 c) fun y=>
 AG (.load none y) a fun z=>
 AB (.fieldAddr 7 c) fun A=>
 AG (.load none A) a fun B=>
 AO (.buildSlice 1 6 (BD 6 (I 0) []) [(0,1,r),(1,1,t),(2,1,v),(3,1,x),(4,1,z),(5,1,B)]) a fun f o=>
 AB (.len f) fun C=>
 Ak [1,25,26,27] (fun n=>(fun(g i j e:AV) (d:AH)=>
 AB (.bin .lss e j) fun D=>
 AZ D
 (AB (.indexAddrS 1 i e) fun E=>
 AG (.load none E) d fun G=>
 AG (.load none g) d fun L=>
 AF prog 53 [L,G] d (yp b) fun Z p=>
 AB (.bin .add e (I 1)) fun M=>
 n g i j M p)
 (b (.ret (.tup [])) d))) ((((A5.set 1 m).set 25 f).set 26 C).set 27 (I 0)) o)
theorem T58 {v0 v1 h Post}(hG:xZ v0 v1 h Post):AQ prog 58 [v0,v1] h Post:=tP func58 (by kernel_rfl) (by kernel_rfl) hG
def G59 (t f u:AV) (h:AH) (a:Al->AH->Prop):Prop:=(
 AB (.len f) fun v=>
 AF prog 53 [t,v] h (yp a) fun z s=>
 AB (.len f) fun w=>
 Ak [2,12,13,14] (fun r=>(fun(o p q c:AV) (b:AH)=>
 AB (.bin .lss c q) fun j=>
 AZ j
 (AB (.indexAddrS 2 p c) fun k=>
 AG (.load (some 2) k) b fun l=>
 AO (.alloc [.nils,.nils]) b fun e g=>
 AO (.store 2 e l) g fun x d=>
 AG (.load (some 2) e) d fun m=>
 DV prog o [m] d (yp a) fun y i=>
 AB (.bin .add c (I 1)) fun n=>
 r o p q n i)
 (a (.ret (.tup [])) b))) ((((A5.set 2 u).set 12 f).set 13 w).set 14 (I 0)) s)
theorem T59 {v0 v1 v2 h Post}(hG:G59 v0 v1 v2 h Post):AQ prog 59 [v0,v1,v2] h Post:=tP func59 (by kernel_rfl) (by kernel_rfl) hG
def xY (g e:AV) (h:AH) (a:Al->AH->Prop):Prop:=(
 AO (.box g) h fun f b=>
 AG (.load none e) b fun i=>
 AB (.fieldAddr 0 f) fun j=>
 AG (.load none j) b fun k=>
 AF prog 61 [i,k] b (yp a) fun p c=>
 AG (.load none e) c fun l=>
 AB (.fieldAddr 1 f) fun m=>
 AG (.load none m) c fun n=>
 AF prog 61 [l,n] c (yp a) fun o d=>
 a (.ret (.tup [])) d)
theorem T60 {v0 v1 h Post}(hG:xY v0 v1 h Post):AQ prog 60 [v0,v1] h Post:=tP func60 (by kernel_rfl) (by kernel_rfl) hG
def xX (e f:AV) (h:AH) (a:Al->AH->Prop):Prop:=(
 AO (.box e) h fun c b=>
 AG (.load none c) b fun g=>
 AF prog 117 [g,f,(.fn (.func 118) [] [c])] b (yp a) fun i d=>
 a (.ret (.tup [])) d)
theorem T61 {v0 v1 h Post}(hG:xX v0 v1 h Post):AQ prog 61 [v0,v1] h Post:=tP func61 (by kernel_rfl) (by kernel_rfl) hG
def xR (R:AV) (h:AH) (a:Al->AH->Prop):Prop:=(
 Ak [0,3,4] (fun O=>(fun(y U p:AV) (Q:AH)=>
 AF prog 184 [y] Q (yp a) fun d w=>
 AB (.bin .eql p (I 9)) fun M=>
 DG true M (fun(X v:AV) (q:AH)=>
 AB (.pick M v (.cst (.bool false))) fun i=>
 DG false i (fun(V j t:AV) (r:AH)=>
 DG true t (fun(W k:AV) (s:AH)=>
 DG false i (fun(x:AV) (b:AH)=>
 AB (.pick i (.cst (.bool true)) x) fun A=>
 AZ A
 (AB (.build [(I 0)] [(0,1,(I 4))]) fun l=>
 CD (.ifc 139 l) b (yp a))
 (AB (.bin .and d (N .u8 127)) fun l=>
 AB (.convI .u64 l) fun B=>
 AB (.bin .mul (I 7) p) fun C=>
 AB (.bin .shl B C) fun D=>
 AB (.bin .or U D) fun c=>
 AB (.bin .lss d (N .u8 128)) fun E=>
 AZ E
 (AB (.bin .and c (N .u64 1)) fun m=>
 AB (.bin .eql m (N .u64 1)) fun G=>
 AZ G
 (AB (.bin .shr c (N .u64 1)) fun n=>
 AB (.convI .i64 n) fun o=>
 AB (.un .xor o) fun L=>
 a (.ret L) b)
 (AB (.bin .shr c (N .u64 1)) fun n=>
 AB (.convI .i64 n) fun o=>
 a (.ret o) b))
 (AB (.bin .add p (I 1)) fun m=>
 O y c m b))) (fun g=>
 AB (.pick t k (.cst (.bool false))) fun z=>
 g z s) (fun g=>g Bp s)) (fun f=>
 AB (.bin .eql d (N .u8 0)) fun k=>
 f d k r) (fun f=>f Bp Bp r)) (fun e=>
 AB (.bin .gtr p (I 0)) fun j=>
 e p j j q) (fun e=>e Bp Bp Bp q)) (fun u=>
 AB (.bin .gtr d (N .u8 1)) fun v=>
 u d v w) (fun u=>u Bp Bp w))) (((A5.set 0 R).set 3 (N .u64 0)).set 4 (I 0)) h)
theorem z8 {v0 h Post}(hG:xR v0 h Post):AQ prog 91 [v0] h Post:=tP func91 (by kernel_rfl) (by kernel_rfl) hG
def xQ (v0:AV) (h:AH) (a:Al->AH->Prop):Prop:=(
 AO (.box v0) h fun b h1=>
 AO (.alloc ((I 0)::(BD 6 .nils ((I 0)::(BD 4 .nils (BD 4 (I 0) ((.bool false)::((I 0)::((.bool false)::[]))))))))) h1 fun v2 h2=>
 AO (.alloc ((I 0)::(BD 6 .nils ((I 0)::(BD 4 .nils (BD 4 (I 0) ((.bool false)::((I 0)::((.bool false)::[]))))))))) h2 fun Z h3=>
 AB (.fieldAddr 0 Z) fun c=>
 AG (.load none b) h3 fun v5=>
 AF prog 91 [v5] h3 (yp a) fun v6 h6=>
 AB (.nilCheck c) fun v7=>
 AB (.fieldAddr 0 v7) fun v8=>
 AO (.store 1 v8 v6) h6 fun v9 h9=>
 AG (.load none b) h9 fun b7=>
 AF prog 185 [b7] h9 (yp a) fun b8 a0=>
 AB (.nilCheck c) fun b9=>
 AB (.fieldAddr 1 b9) fun c0=>
 AO (.store 1 c0 b8) a0 fun l7 o=>
 AG (.load none b) o fun c1=>
 AF prog 185 [c1] o (yp a) fun c2 a1=>
 AB (.nilCheck c) fun c3=>
 AB (.fieldAddr 2 c3) fun c4=>
 AO (.store 1 c4 c2) a1 fun l8 j=>
 AG (.load none b) j fun c6=>
 AG (.load none b) j fun c7=>
 AF prog 186 [c6,(.fn (.func 187) [c7] [])] j (yp a) fun c8 a2=>
 AB (.nilCheck c) fun c9=>
 AB (.fieldAddr 3 c9) fun d0=>
 AB (.fieldAddr 0 d0) fun d1=>
 AO (.store 1 d1 c8) a2 fun l9 k=>
 AG (.load none b) k fun d2=>
 AG (.load none b) k fun d3=>
 AF prog 94 [d2,(.fn (.func 93) [d3] [])] k (yp a) fun d4 a3=>
 AB (.nilCheck c) fun d5=>
 AB (.fieldAddr 3 d5) fun d6=>
 AB (.fieldAddr 1 d6) fun d7=>
 AO (.store 1 d7 d4) a3 fun m0 l=>
 AG (.load none b) l fun d8=>
 AG (.load none b) l fun d9=>
 AF prog 188 [d8,(.fn (.func 189) [d9] [])] l (yp a) fun e0 a5=>
 AB (.nilCheck c) fun e1=>
 AB (.fieldAddr 3 e1) fun e2=>
 AB (.fieldAddr 2 e2) fun e3=>
 AO (.store 1 e3 e0) a5 fun m1 p=>
 AG (.load none b) p fun e4=>
 AF prog 93 [e4] p (yp a) fun e5 a6=>
 AB (.nilCheck c) fun e6=>
 AB (.fieldAddr 6 e6) fun e7=>
 AB (.fieldAddr 0 e7) fun e8=>
 AO (.store 1 e8 e5) a6 fun m2 q=>
 AG (.load none b) q fun e9=>
 AF prog 91 [e9] q (yp a) fun f0 a7=>
 AB (.nilCheck c) fun f1=>
 AB (.fieldAddr 6 f1) fun f2=>
 AB (.fieldAddr 1 f2) fun f3=>
 AO (.store 1 f3 f0) a7 fun m3 m=>
 AG (.load none b) m fun f4=>
 AG (.load none b) m fun f5=>
 AF prog 186 [f4,(.fn (.func 187) [f5] [])] m (yp a) fun f6 a8=>
 AB (.nilCheck c) fun f7=>
 AB (.fieldAddr 8 f7) fun f8=>
 AB (.fieldAddr 0 f8) fun f9=>
 AO (.store 1 f9 f6) a8 fun m4 r=>
 AG (.load none b) r fun g0=>
 AF prog 190 [g0,(.fn (.func 191) [] [b])] r (yp a) fun g1 a9=>
 AB (.nilCheck c) fun g2=>
 AB (.fieldAddr 8 g2) fun g3=>
 AB (.fieldAddr 1 g3) fun g4=>
 AO (.store 1 g4 g1) a9 fun m5 n=>
 AG (.load none b) n fun g5=>
 AG (.load none b) n fun g6=>
 AF prog 188 [g5,(.fn (.func 189) [g6] [])] n (yp a) fun g7 b0=>
 AB (.nilCheck c) fun g8=>
 AB (.fieldAddr 8 g8) fun g9=>
 AB (.fieldAddr 2 g9) fun i0=>
 AO (.store 1 i0 g7) b0 fun m6 s=>
 AG (.load none b) s fun i1=>
 AF prog 194 [i1,(.fn (.func 195) [] [b])] s (yp a) fun i2 b1=>
 AB (.nilCheck c) fun i3=>
 AB (.fieldAddr 8 i3) fun i4=>
 AB (.fieldAddr 3 i4) fun i5=>
 AO (.store 1 i5 i2) b1 fun m7 t=>
 AG (.load none b) t fun i6=>
 AF prog 91 [i6] t (yp a) fun i7 b2=>
 AB (.nilCheck c) fun i8=>
 AB (.fieldAddr 12 i8) fun i9=>
 AB (.fieldAddr 0 i9) fun j0=>
 AO (.store 1 j0 i7) b2 fun m8 u=>
 AG (.load none b) u fun j1=>
 AF prog 91 [j1] u (yp a) fun j2 b3=>
 AB (.nilCheck c) fun j3=>
 AB (.fieldAddr 12 j3) fun j4=>
 AB (.fieldAddr 1 j4) fun j5=>
 AO (.store 1 j5 j2) b3 fun m9 v=>
 AG (.load none b) v fun j6=>
 AF prog 91 [j6] v (yp a) fun j7 b5=>
 AB (.nilCheck c) fun j8=>
 AB (.fieldAddr 12 j8) fun j9=>
 AB (.fieldAddr 2 j9) fun k0=>
 AO (.store 1 k0 j7) b5 fun n0 w=>
 AG (.load none b) w fun k1=>
 AF prog 91 [k1] w (yp a) fun k2 b6=>
 AB (.nilCheck c) fun k3=>
 AB (.fieldAddr 12 k3) fun A=>
 AB (.fieldAddr 3 A) fun B=>
 AO (.store 1 B k2) b6 fun k8 d=>
 AG (.load none b) d fun C=>
 AF prog 189 [C] d (yp a) fun D x=>
 AB (.nilCheck c) fun E=>
 AB (.fieldAddr 12 E) fun G=>
 AB (.fieldAddr 4 G) fun L=>
 AO (.store 1 L D) x fun k9 e=>
 AG (.load none b) e fun M=>
 AF prog 91 [M] e (yp a) fun O y=>
 AB (.nilCheck c) fun Q=>
 AB (.fieldAddr 17 Q) fun R=>
 AO (.store 1 R O) y fun l0 f=>
 AG (.load none b) f fun U=>
 AF prog 189 [U] f (yp a) fun V z=>
 AB (.fieldAddr 18 Z) fun W=>
 AO (.store 1 W V) z fun l1 g=>
 AG (.load (some 19) Z) g fun X=>
 AO (.store 19 v2 X) g fun l2 i=>
 AG (.load (some 19) v2) i fun Y=>
 a (.ret Y) i)
theorem z7 {v0 h Post}(hG:xQ v0 h Post):AQ prog 92 [v0] h Post:=tP func92 (by kernel_rfl) (by kernel_rfl) hG
def xP (b:AV) (h:AH) (a:Al->AH->Prop):Prop:=(
 AF prog 197 [b,(.fn (.func 91) [b] [])] h (yp a) fun d c=>
 a (.ret d) c)
theorem z6 {v0 h Post}(hG:xP v0 h Post):AQ prog 93 [v0] h Post:=tP func93 (by kernel_rfl) (by kernel_rfl) hG
def G94 (n u:AV) (h:AH) (a:Al->AH->Prop):Prop:=(
 AF prog 91 [n] h (yp a) fun i b=>
 AB (.bin .lss i (I 0)) fun v=>
 AZ v
 (AB (.build [(I 0)] [(0,1,(I 4))]) fun j=>
 CD (.ifc 139 j) b (yp a))
 (AB (.nilCheck n) fun j=>
 AB (.fieldAddr 0 j) fun w=>
 AG (.load none w) b fun x=>
 AB (.len x) fun y=>
 AB (.bin .gtr i y) fun z=>
 AZ z
 (AB (.build [(I 0)] [(0,1,(I 5))]) fun A=>
 CD (.ifc 139 A) b (yp a))
 (Ak [1,6,22,23] (fun t=>(fun(d e f g:AV) (c:AH)=>
 AB (.bin .lss g f) fun o=>
 AZ o
 (DV prog d [] c (yp a) fun p k=>
 AO (.buildSlice 1 1 [.nils] [(0,1,p)]) k fun q l=>
 AO (.append 1 24 e q) l fun r m=>
 AB (.bin .add g (I 1)) fun s=>
 t d r f s m)
 (a (.ret e) c))) ((((A5.set 1 u).set 6 .nils).set 22 i).set 23 (I 0)) b)))
theorem zy {v0 v1 h Post}(hG:G94 v0 v1 h Post):AQ prog 94 [v0,v1] h Post:=tP func94 (by kernel_rfl) (by kernel_rfl) hG
def G95 (n u:AV) (h:AH) (a:Al->AH->Prop):Prop:=(
 AF prog 91 [n] h (yp a) fun i b=>
 AB (.bin .lss i (I 0)) fun v=>
 AZ v
 (AB (.build [(I 0)] [(0,1,(I 4))]) fun j=>
 CD (.ifc 139 j) b (yp a))
 (AB (.nilCheck n) fun j=>
 AB (.fieldAddr 0 j) fun w=>
 AG (.load none w) b fun x=>
 AB (.len x) fun y=>
 AB (.bin .gtr i y) fun z=>
 AZ z
 (AB (.build [(I 0)] [(0,1,(I 5))]) fun A=>
 CD (.ifc 139 A) b (yp a))
 (Ak [1,6,22,23] (fun t=>(fun(d e f g:AV) (c:AH)=>
 AB (.bin .lss g f) fun o=>
 AZ o
 (DV prog d [] c (yp a) fun p k=>
 AO (.buildSlice 8 1 ((I 0)::(.nils::(BD 6 (I 0) []))) [(0,8,p)]) k fun q l=>
 AO (.append 8 80 e q) l fun r m=>
 AB (.bin .add g (I 1)) fun s=>
 t d r f s m)
 (a (.ret e) c))) ((((A5.set 1 u).set 6 .nils).set 22 i).set 23 (I 0)) b)))
theorem zx {v0 v1 h Post}(hG:G95 v0 v1 h Post):AQ prog 95 [v0,v1] h Post:=tP func95 (by kernel_rfl) (by kernel_rfl) hG
def xO (c:AV) (h:AH) (a:Al->AH->Prop):Prop:=(
 AO (.alloc ((I 0)::(.nils::(BD 6 (I 0) [])))) h fun q E=>
 AF prog 91 [c] E (yp a) fun U G=>
 AB (.build ((I 0)::(.nils::(BD 6 (I 0) []))) [(0,1,U)]) fun V=>
 AO (.alloc ((I 0)::(.nils::(BD 6 (I 0) [])))) G fun b L=>
 AO (.store 8 b V) L fun v5 M=>
 AF prog 93 [c] M (yp a) fun W O=>
 AB (.fieldAddr 1 b) fun X=>
 AO (.store 1 X W) O fun v8 Q=>
 AF prog 91 [c] Q (yp a) fun Y R=>
 AB (.fieldAddr 2 b) fun r=>
 AO (.store 1 r Y) R fun Z f=>
 AF prog 91 [c] f (yp a) fun s g=>
 AB (.fieldAddr 3 b) fun t=>
 AO (.store 1 t s) g fun a0 i=>
 AF prog 91 [c] i (yp a) fun u j=>
 AB (.fieldAddr 4 b) fun v=>
 AO (.store 1 v u) j fun a1 k=>
 AF prog 91 [c] k (yp a) fun w l=>
 AB (.fieldAddr 5 b) fun x=>
 AO (.store 1 x w) l fun a2 m=>
 AF prog 91 [c] m (yp a) fun y n=>
 AB (.fieldAddr 6 b) fun z=>
 AO (.store 1 z y) n fun a3 o=>
 AF prog 91 [c] o (yp a) fun A p=>
 AB (.fieldAddr 7 b) fun B=>
 AO (.store 1 B A) p fun a4 d=>
 AG (.load (some 8) b) d fun C=>
 AO (.store 8 q C) d fun a5 e=>
 AG (.load (some 8) q) e fun D=>
 a (.ret D) e)
theorem zw {v0 h Post}(hG:xO v0 h Post):AQ prog 96 [v0] h Post:=tP func96 (by kernel_rfl) (by kernel_rfl) hG
def G97 (n u:AV) (h:AH) (a:Al->AH->Prop):Prop:=(
 AF prog 91 [n] h (yp a) fun i b=>
 AB (.bin .lss i (I 0)) fun v=>
 AZ v
 (AB (.build [(I 0)] [(0,1,(I 4))]) fun j=>
 CD (.ifc 139 j) b (yp a))
 (AB (.nilCheck n) fun j=>
 AB (.fieldAddr 0 j) fun w=>
 AG (.load none w) b fun x=>
 AB (.len x) fun y=>
 AB (.bin .gtr i y) fun z=>
 AZ z
 (AB (.build [(I 0)] [(0,1,(I 5))]) fun A=>
 CD (.ifc 139 A) b (yp a))
 (Ak [1,6,22,23] (fun t=>(fun(d e f g:AV) (c:AH)=>
 AB (.bin .lss g f) fun o=>
 AZ o
 (DV prog d [] c (yp a) fun p k=>
 AO (.buildSlice 2 1 [.nils,.nils] [(0,2,p)]) k fun q l=>
 AO (.append 2 48 e q) l fun r m=>
 AB (.bin .add g (I 1)) fun s=>
 t d r f s m)
 (a (.ret e) c))) ((((A5.set 1 u).set 6 .nils).set 22 i).set 23 (I 0)) b)))
theorem zu {v0 v1 h Post}(hG:G97 v0 v1 h Post):AQ prog 97 [v0,v1] h Post:=tP func97 (by kernel_rfl) (by kernel_rfl) hG
def G98 (c:AV) (h:AH) (a:Al->AH->Prop):Prop:=(
 AO (.alloc [.nils,.nils]) h fun d e=>
 AF prog 185 [c] e (yp a) fun i f=>
 AF prog 185 [c] f (yp a) fun j g=>
 AB (.build [.nils,.nils] [(0,1,i),(1,1,j)]) fun k=>
 AO (.store 2 d k) g fun m b=>
 AG (.load (some 2) d) b fun l=>
 a (.ret l) b)
theorem zt {v0 h Post}(hG:G98 v0 h Post):AQ prog 98 [v0] h Post:=tP func98 (by kernel_rfl) (by kernel_rfl) hG
def u9 (t f u:AV) (h:AH) (a:Al->AH->Prop):Prop:=(
 AB (.len f) fun v=>
 AF prog 53 [t,v] h (yp a) fun z s=>
 AB (.len f) fun w=>
 Ak [2,12,13,14] (fun r=>(fun(o p q c:AV) (b:AH)=>
 AB (.bin .lss c q) fun j=>
 AZ j
 (AB (.indexAddrS 4 p c) fun k=>
 AG (.load (some 4) k) b fun l=>
 AO (.alloc (BD 4 (N .u64 0) [])) b fun e g=>
 AO (.store 4 e l) g fun x d=>
 AG (.load (some 4) e) d fun m=>
 DV prog o [m] d (yp a) fun y i=>
 AB (.bin .add c (I 1)) fun n=>
 r o p q n i)
 (a (.ret (.tup [])) b))) ((((A5.set 2 u).set 12 f).set 13 w).set 14 (I 0)) s)
theorem oL {v0 v1 v2 h Post}(hG:u9 v0 v1 v2 h Post):AQ prog 102 [v0,v1,v2] h Post:=tP func102 (by kernel_rfl) (by kernel_rfl) hG
def pF (E G:AV) (h:AH) (i:Al->AH->Prop):Prop:=(
 AO (.box G) h fun L l=>
 AG (.load (some 4) L) l fun M=>
 Ak [0,7,8] (fun D=>(fun(O C j:AV) (p:AH)=>
 AB (.bin .lss j (I 4)) fun Q=>
 AZ Q
 (AB (.indexA 4 1 none C j) fun q=>
 Ak [0,5,7,8,11] (fun k=>(fun(a e f g c:AV) (b:AH)=>
 AB (.bin .lss c (I 8)) fun r=>
 AZ r
 (AB (.nilCheck a) fun d=>
 AB (.fieldAddr 0 d) fun s=>
 AG (.load none s) b fun t=>
 AB (.bin .mul (I 8) c) fun u=>
 AB (.bin .shr e u) fun v=>
 AB (.convI .u8 v) fun w=>
 Lb (.buildSlice 1 1 [(N .u8 0)] [(0,1,w)]) b fun x m=>
 AO (.append 1 1 t x) m fun y n=>
 AB (.nilCheck a) fun z=>
 AB (.fieldAddr 0 z) fun A=>
 AO (.store 1 A y) n fun R o=>
 AB (.bin .add c (I 1)) fun B=>
 k a e f g B o)
 (AB (.bin .add g (I 1)) fun d=>
 D a f d b))) (((((A5.set 0 O).set 5 q).set 7 C).set 8 j).set 11 (I 0)) p)
 (i (.ret (.tup [])) p))) (((A5.set 0 E).set 7 M).set 8 (I 0)) l)
theorem tX {v0 v1 h Post}(hG:pF v0 v1 h Post):AQ prog 103 [v0,v1] h Post:=tP func103 (by kernel_rfl) (by kernel_rfl) hG
def u7 (p d q:AV) (h:AH) (a:Al->AH->Prop):Prop:=(
 AB (.len d) fun r=>
 AF prog 53 [p,r] h (yp a) fun u o=>
 AB (.len d) fun s=>
 Ak [2,12,13,14] (fun n=>(fun(k l m c:AV) (b:AH)=>
 AB (.bin .lss c m) fun f=>
 AZ f
 (AB (.indexAddrS 1 l c) fun g=>
 AG (.load none g) b fun i=>
 DV prog k [i] b (yp a) fun t e=>
 AB (.bin .add c (I 1)) fun j=>
 n k l m j e)
 (a (.ret (.tup [])) b))) ((((A5.set 2 q).set 12 d).set 13 s).set 14 (I 0)) o)
theorem oK {v0 v1 v2 h Post}(hG:u7 v0 v1 v2 h Post):AQ prog 104 [v0,v1,v2] h Post:=tP func104 (by kernel_rfl) (by kernel_rfl) hG
def pE (e l:AV) (h:AH) (b:Al->AH->Prop):Prop:=(
 MU l (fun(i m:AV) (d:AH)=>
 AB (.nilCheck i) fun n=>
 AB (.fieldAddr 0 n) fun o=>
 AG (.load none o) d fun p=>
 AO (.buildSlice 1 1 [(N .u8 0)] [(0,1,m)]) d fun q j=>
 AO (.append 1 1 p q) j fun r k=>
 AB (.nilCheck i) fun f=>
 AB (.fieldAddr 0 f) fun g=>
 AO (.store 1 g r) k fun s c=>
 b (.ret (.tup [])) c)
 (fun a=>a e (N .u8 1) h)
 (fun a=>a e (N .u8 0) h))
theorem tW {v0 v1 h Post}(hG:pE v0 v1 h Post):AQ prog 105 [v0,v1] h Post:=tP func105 (by kernel_rfl) (by kernel_rfl) hG
def u6 (p d q:AV) (h:AH) (a:Al->AH->Prop):Prop:=(
 AB (.len d) fun r=>
 AF prog 53 [p,r] h (yp a) fun u o=>
 AB (.len d) fun s=>
 Ak [2,12,13,14] (fun n=>(fun(k l m c:AV) (b:AH)=>
 AB (.bin .lss c m) fun f=>
 AZ f
 (AB (.indexAddrS 1 l c) fun g=>
 AG (.load none g) b fun i=>
 DV prog k [i] b (yp a) fun t e=>
 AB (.bin .add c (I 1)) fun j=>
 n k l m j e)
 (a (.ret (.tup [])) b))) ((((A5.set 2 q).set 12 d).set 13 s).set 14 (I 0)) o)
theorem tV {v0 v1 v2 h Post}(hG:u6 v0 v1 v2 h Post):AQ prog 106 [v0,v1,v2] h Post:=tP func106 (by kernel_rfl) (by kernel_rfl) hG
def pD (d b:AV) (h:AH) (a:Al->AH->Prop):Prop:=(
 AG (.load none b) h fun e=>
 AF prog 108 [e,d,(.fn (.func 109) [] [b])] h (yp a) fun f c=>
 a (.ret (.tup [])) c)
theorem tU {v0 v1 h Post}(hG:pD v0 v1 h Post):AQ prog 107 [v0,v1] h Post:=tP func107 (by kernel_rfl) (by kernel_rfl) hG
def uz (t f u:AV) (h:AH) (a:Al->AH->Prop):Prop:=(
 AB (.len f) fun v=>
 AF prog 53 [t,v] h (yp a) fun z s=>
 AB (.len f) fun w=>
 Ak [2,12,13,14] (fun r=>(fun(o p q c:AV) (b:AH)=>
 AB (.bin .lss c q) fun j=>
 AZ j
 (AB (.indexAddrS 2 p c) fun k=>
 AG (.load (some 2) k) b fun l=>
 AO (.alloc [(I 0),.nils]) b fun e g=>
 AO (.store 2 e l) g fun x d=>
 AG (.load (some 2) e) d fun m=>
 DV prog o [m] d (yp a) fun y i=>
 AB (.bin .add c (I 1)) fun n=>
 r o p q n i)
 (a (.ret (.tup [])) b))) ((((A5.set 2 u).set 12 f).set 13 w).set 14 (I 0)) s)
theorem tT {v0 v1 v2 h Post}(hG:uz v0 v1 v2 h Post):AQ prog 108 [v0,v1,v2] h Post:=tP func108 (by kernel_rfl) (by kernel_rfl) hG
def pC (g d:AV) (h:AH) (a:Al->AH->Prop):Prop:=(
 AO (.box g) h fun f b=>
 AG (.load none d) b fun i=>
 AB (.fieldAddr 0 f) fun j=>
 AG (.load none j) b fun k=>
 AF prog 53 [i,k] b (yp a) fun p c=>
 AG (.load none d) c fun l=>
 AB (.fieldAddr 1 f) fun m=>
 AG (.load none m) c fun n=>
 AF prog 110 [l,n,(.fn (.func 111) [] [d])] c (yp a) fun o e=>
 a (.ret (.tup [])) e)
theorem tR {v0 v1 h Post}(hG:pC v0 v1 h Post):AQ prog 109 [v0,v1] h Post:=tP func109 (by kernel_rfl) (by kernel_rfl) hG
def uy (t f u:AV) (h:AH) (a:Al->AH->Prop):Prop:=(
 AB (.len f) fun v=>
 AF prog 53 [t,v] h (yp a) fun z s=>
 AB (.len f) fun w=>
 Ak [2,12,13,14] (fun r=>(fun(o p q c:AV) (b:AH)=>
 AB (.bin .lss c q) fun j=>
 AZ j
 (AB (.indexAddrS 2 p c) fun k=>
 AG (.load (some 2) k) b fun l=>
 AO (.alloc [(.bool false),(N .u8 0)]) b fun e g=>
 AO (.store 2 e l) g fun x d=>
 AG (.load (some 2) e) d fun m=>
 DV prog o [m] d (yp a) fun y i=>
 AB (.bin .add c (I 1)) fun n=>
 r o p q n i)
 (a (.ret (.tup [])) b))) ((((A5.set 2 u).set 12 f).set 13 w).set 14 (I 0)) s)
theorem tO {v0 v1 v2 h Post}(hG:uy v0 v1 v2 h Post):AQ prog 110 [v0,v1,v2] h Post:=tP func110 (by kernel_rfl) (by kernel_rfl) hG
def pB (g e:AV) (h:AH) (a:Al->AH->Prop):Prop:=(
 AO (.box g) h fun f b=>
 AG (.load none e) b fun i=>
 AB (.fieldAddr 0 f) fun j=>
 AG (.load none j) b fun k=>
 AF prog 105 [i,k] b (yp a) fun p c=>
 AG (.load none e) c fun l=>
 AB (.fieldAddr 1 f) fun m=>
 AG (.load none m) c fun n=>
 AF prog 112 [l,n] c (yp a) fun o d=>
 a (.ret (.tup [])) d)
theorem tN {v0 v1 h Post}(hG:pB v0 v1 h Post):AQ prog 111 [v0,v1] h Post:=tP func111 (by kernel_rfl) (by kernel_rfl) hG
def o_ (b f:AV) (h:AH) (a:Al->AH->Prop):Prop:=(
 AB (.nilCheck b) fun g=>
 AB (.fieldAddr 0 g) fun i=>
 AG (.load none i) h fun j=>
 AO (.buildSlice 1 1 [(N .u8 0)] [(0,1,f)]) h fun k c=>
 AO (.append 1 1 j k) c fun l d=>
 AB (.nilCheck b) fun m=>
 AB (.fieldAddr 0 m) fun n=>
 AO (.store 1 n l) d fun o e=>
 a (.ret (.tup [])) e)
theorem tM {v0 v1 h Post}(hG:o_ v0 v1 h Post):AQ prog 112 [v0,v1] h Post:=tP func112 (by kernel_rfl) (by kernel_rfl) hG
def ux (p d q:AV) (h:AH) (a:Al->AH->Prop):Prop:=(
 AB (.len d) fun r=>
 AF prog 53 [p,r] h (yp a) fun u o=>
 AB (.len d) fun s=>
 Ak [2,12,13,14] (fun n=>(fun(k l m c:AV) (b:AH)=>
 AB (.bin .lss c m) fun f=>
 AZ f
 (AB (.indexAddrS 1 l c) fun g=>
 AG (.load none g) b fun i=>
 DV prog k [i] b (yp a) fun t e=>
 AB (.bin .add c (I 1)) fun j=>
 n k l m j e)
 (a (.ret (.tup [])) b))) ((((A5.set 2 q).set 12 d).set 13 s).set 14 (I 0)) o)
theorem tL {v0 v1 v2 h Post}(hG:ux v0 v1 v2 h Post):AQ prog 113 [v0,v1,v2] h Post:=tP func113 (by kernel_rfl) (by kernel_rfl) hG
def o9 (d b:AV) (h:AH) (a:Al->AH->Prop):Prop:=(
 AG (.load none b) h fun e=>
 AG (.load none b) h fun f=>
 AF prog 115 [e,d,(.fn (.func 112) [f] [])] h (yp a) fun g c=>
 a (.ret (.tup [])) c)
theorem tK {v0 v1 h Post}(hG:o9 v0 v1 h Post):AQ prog 114 [v0,v1] h Post:=tP func114 (by kernel_rfl) (by kernel_rfl) hG
def uw (p d q:AV) (h:AH) (a:Al->AH->Prop):Prop:=(
 AB (.len d) fun r=>
 AF prog 53 [p,r] h (yp a) fun u o=>
 AB (.len d) fun s=>
 Ak [2,12,13,14] (fun n=>(fun(k l m c:AV) (b:AH)=>
 AB (.bin .lss c m) fun f=>
 AZ f
 (AB (.indexAddrS 1 l c) fun g=>
 AG (.load none g) b fun i=>
 DV prog k [i] b (yp a) fun t e=>
 AB (.bin .add c (I 1)) fun j=>
 n k l m j e)
 (a (.ret (.tup [])) b))) ((((A5.set 2 q).set 12 d).set 13 s).set 14 (I 0)) o)
theorem tJ {v0 v1 v2 h Post}(hG:uw v0 v1 v2 h Post):AQ prog 115 [v0,v1,v2] h Post:=tP func115 (by kernel_rfl) (by kernel_rfl) hG
def uu (p d q:AV) (h:AH) (a:Al->AH->Prop):Prop:=(
 AB (.len d) fun r=>
 AF prog 53 [p,r] h (yp a) fun u o=>
 AB (.len d) fun s=>
 Ak [2,12,13,14] (fun n=>(fun(k l m c:AV) (b:AH)=>
 AB (.bin .lss c m) fun f=>
 AZ f
 (AB (.indexAddrS 1 l c) fun g=>
 AG (.load none g) b fun i=>
 DV prog k [i] b (yp a) fun t e=>
 AB (.bin .add c (I 1)) fun j=>
 n k l m j e)
 (a (.ret (.tup [])) b))) ((((A5.set 2 q).set 12 d).set 13 s).set 14 (I 0)) o)
theorem tI {v0 v1 v2 h Post}(hG:uu v0 v1 v2 h Post):AQ prog 116 [v0,v1,v2] h Post:=tP func116 (by kernel_rfl) (by kernel_rfl) hG
def uq (t f u:AV) (h:AH) (a:Al->AH->Prop):Prop:=(
 AB (.len f) fun v=>
 AF prog 53 [t,v] h (yp a) fun z s=>
 AB (.len f) fun w=>
 Ak [2,12,13,14] (fun r=>(fun(o p q c:AV) (b:AH)=>
 AB (.bin .lss c q) fun j=>
 AZ j
 (AB (.indexAddrS 2 p c) fun k=>
 AG (.load (some 2) k) b fun l=>
 AO (.alloc [(I 0),(N .u8 0)]) b fun e g=>
 AO (.store 2 e l) g fun x d=>
 AG (.load (some 2) e) d fun m=>
 DV prog o [m] d (yp a) fun y i=>
 AB (.bin .add c (I 1)) fun n=>
 r o p q n i)
 (a (.ret (.tup [])) b))) ((((A5.set 2 u).set 12 f).set 13 w).set 14 (I 0)) s)
theorem tH {v0 v1 v2 h Post}(hG:uq v0 v1 v2 h Post):AQ prog 117 [v0,v1,v2] h Post:=tP func117 (by kernel_rfl) (by kernel_rfl) hG
def o8 (g e:AV) (h:AH) (a:Al->AH->Prop):Prop:=(
 AO (.box g) h fun f b=>
 AG (.load none e) b fun i=>
 AB (.fieldAddr 0 f) fun j=>
 AG (.load none j) b fun k=>
 AF prog 53 [i,k] b (yp a) fun p c=>
 AG (.load none e) c fun l=>
 AB (.fieldAddr 1 f) fun m=>
 AG (.load none m) c fun n=>
 AF prog 112 [l,n] c (yp a) fun o d=>
 a (.ret (.tup [])) d)
theorem tG {v0 v1 h Post}(hG:o8 v0 v1 h Post):AQ prog 118 [v0,v1] h Post:=tP func118 (by kernel_rfl) (by kernel_rfl) hG
end
end Go.Proofs.YtlmkmpomgdbjhaaGreatDoor
namespace Go.AL
section
variable [BQ]
structure GB (H:AH) (p:Nat) (ro:Option Nat) (H':AH):Prop where
 nx:H.next<=H'.next
 get:∀q,q<H.next->q≠p->some q≠ro->H'.get q=H.get q
 gl:H'.gl=H.gl
theorem GB.refl (H:AH) (p:Nat) (ro:Option Nat):GB H p ro H:=⟨A4 _,fun _ _ _ _=>rfl,rfl⟩
theorem GB.trans {H H1 H2:AH}{p:Nat}{ro ro1:Option Nat}(h1:GB H p ro H1) (hr:∀r,ro1=some r->H.next<=r\/ro=some r) (h2:GB H1 p ro1 H2):GB H p ro H2:=
 ⟨Cq h1.nx h2.nx,fun q hq hp hro=>by
  rw[h2.get q (C6 hq h1.nx) hp (fun e=>?_),h1.get q hq hp hro]
  rcases hr q e.symm with h | h
  ·omega
  ·exact hro h.symm,h2.gl.trans h1.gl⟩
def kX (ro:Option Nat) (bs:List UInt8):AV:=match ro with
 | none=>.nils
 | some r=>.sl r 0 bs.length (.op 1)
theorem Wr.cell {H:AH}{p:Nat}{ro:Option Nat}{bs:List UInt8}(h:Wr H p ro bs):H.get p=some (.cells [kX ro bs]):=by cases h<;>assumption
theorem Wr.vX {H:AH}{p:Nat}{ro:Option Nat}{bs:List UInt8}(h:Wr H p ro bs):p<H.next:=by cases h<;>assumption
theorem We {H:AH}{p:Nat}{ro:Option Nat}{bs:List UInt8}{K:AV->Prop}(hW:Wr H p ro bs) (hK:K (kX ro bs)):AG (.load none (.cst (.ptr p 0))) H K:=
 BG (v:=kX ro bs) (by simp[AY,BJ,AE.ev,AH.cells?,hW.cell,apart]) hK
theorem VJ {H:AH}{p:Nat}{ro:Option Nat}{bs:List UInt8}{x:UInt8}{K:AH->Prop}(hW:Wr H p ro bs) (hb:bs.length<1099511627776)
  (hK:∀H' r',H.next<=r'->Wr H' p (some r') (bs++[x])->GB H p ro H'->K H') :
  AO (.append 1 1 (.cst (kX ro bs)) (.cst (.sl H.next 0 1 (.ex 1)))) (H.push (.cells [bv x])) fun v9 h9=>AB (.nilCheck (.cst (.ptr p 0))) fun v10=>AB (.fieldAddr 0 (.cst v10)) fun v11=>AO (.store 1 (.cst v11) (.cst v9)) h9 fun _ h12=>K h12:=by
 have hlt:=hW.vX
 have h1:p≠H.next:=by omega
 have h2:p≠H.next+1:=by omega
 cases hW with
 | nil hp _=>
  refine Aq (v:=.sl (H.next+1) 0 1 (.op 1)) (H':=(H.push (.cells [bv x])).push (.cells [bv x])) (by simp[BC,AE.ev,kX,BO,Ae,AH.cells?,AH.Ai]) ?_
  refine AA (v:=.ptr p 0) rfl (AA (v:=.ptr p 0) rfl ?_)
  refine Aq (v:=.unk) (H':=((H.push (.cells [bv x])).push (.cells [bv x])).set p (.cells [.sl (H.next+1) 0 1 (.op 1)])) (by simp[BC,AE.ev,AH.cells?,AH.Ai,hp,h1,h2,AV.cellsOf,Ap]) ?_
  refine hK _ (H.next+1) (by omega) (.row (bs:=[x]) ?_ ?_ (by omega) (by simp;omega) (by simp)) ⟨by simp;omega,fun q hq hqp _=>?_,rfl⟩
  ·simp[AH.AU]
  ·have h3:H.next+1≠p:=by omega
   simp[AH.AU,AH.Ai,h3]
  ·have h3:q≠H.next:=by omega
   have h4:q≠H.next+1:=by omega
   simp[AH.AU,AH.Ai,hqp,h3,h4]
 | row hp hr hne hl0 hrt=>
  rename_i r
  have h0:List.take bs.length (bs.map bv)=bs.map bv:=AX (by simp)
  have h3:r≠H.next:=by omega
  have h4:¬p=r:=fun e=>hne e.symm
  have h5:bs.length+1<=140737488355328:=by omega
  have h6:bs.length+1<=9223372036854775807:=by omega
  refine Aq (v:=.sl (H.next+1) 0 (bs.length+1) (.op 1)) (H':=((H.push (.cells [bv x])).erase r).push (.cells (bs.map bv++[bv x]))) (by
   simp[BC,AE.ev,kX,BO,Ae,AH.cells?,AH.Ai,hr,h3,h5,h6,h0]) ?_
  refine AA (v:=.ptr p 0) rfl (AA (v:=.ptr p 0) rfl ?_)
  refine Aq (v:=.unk) (H':=(((H.push (.cells [bv x])).erase r).push (.cells (bs.map bv++[bv x]))).set p (.cells [.sl (H.next+1) 0 (bs.length+1) (.op 1)])) (by
   simp[BC,AE.ev,AH.cells?,AH.Ai,AH.get_erase,hp,h1,h2,h4,AV.cellsOf,Ap]) ?_
  refine hK _ (H.next+1) (by omega) (.row ?_ ?_ (by omega) (by simp;omega) (by simp)) ⟨by simp;omega,fun q hq hqp hqr=>?_,rfl⟩
  ·simp[AH.AU]
  ·have h7:H.next+1≠p:=by omega
   simp[AH.AU,AH.Ai,AH.get_erase,h7]
  ·have h7:q≠H.next:=by omega
   have h8:q≠H.next+1:=by omega
   have h9:q≠r:=fun e=>hqr (by rw[e])
   simp[AH.AU,AH.Ai,AH.get_erase,hqp,h7,h8,h9]
theorem DW.of {H H':AH}{p:Nat}{ro:Option Nat}{bs:List UInt8}(r':Nat) (h1:H.next<=r') (h2:Wr H' p (some r') bs) (h3:GB H p ro H'):DW H p ro bs (.ret (.tup [])) H':=⟨rfl,r',h1,h2,h3.nx,h3.get,h3.gl⟩
end
end Go.AL
namespace Go.Proofs.YtlmkmpomgdbjhaaGreatDoor
open Tryz
section
open Go Go.AL
variable [BQ]
theorem K49 {H:AH}{p:Nat}{ro:Option Nat}{bs:List UInt8}(b:Bool) (hW:Wr H p ro bs) (hb:bs.length<1099511627776) :
  AQ prog 105 [.ptr p 0,.bool b] H (DW H p ro (bs++[if b then 1 else 0])):=by
 refine tW ?_
 unfold pE
 have main:∀x:UInt8,(if b then 1 else 0)=x->AB (.nilCheck (.cst (.ptr p 0))) fun v5=>AB (.fieldAddr 0 (.cst v5)) fun v6=>AG (.load none (.cst v6)) H fun v7=>AO (.buildSlice 1 1 [(N .u8 0)] [(0,1,(.cst (bv x)))]) H fun v8 h8=>
   AO (.append 1 1 (.cst v7) (.cst v8)) h8 fun v9 h9=>AB (.nilCheck (.cst (.ptr p 0))) fun v10=>AB (.fieldAddr 0 (.cst v10)) fun v11=>AO (.store 1 (.cst v11) (.cst v9)) h9 fun _ h12=>DW H p ro (bs++[if b then 1 else 0]) (.ret (.tup [])) h12:=by
  intro x hx
  refine AA (v:=.ptr p 0) rfl (AA (v:=.ptr p 0) rfl (We hW ?_))
  refine Aq (v:=.sl H.next 0 1 (.ex 1)) (H':=H.push (.cells [bv x])) (by simp[BC,Bv,AE.ev,AV.cellsOf,bv,N]) ?_
  refine VJ hW hb fun H' r' q1 q2 q3=>?_
  rw[hx]
  exact .of r' q1 q2 q3
 refine Lc (fun hb=>?_) (fun hb=>?_)
 ·subst hb;exact main 1 rfl
 ·subst hb;exact main 0 rfl
end
end Go.Proofs.YtlmkmpomgdbjhaaGreatDoor
namespace Go.AL
section
open Co
variable {P:Program}
structure Qz (H:AH) (p:Nat) (ro:Option Nat) (H':AH) (bs':List UInt8):Prop where
 w:∃ro',Wr H' p ro' bs'/\(ro'=ro\/∃r',ro'=some r'/\H.next<=r')
 nx:H.next<=H'.next
 fr:∀q,q<H.next->q≠p->some q≠ro->H'.get q=H.get q
 gl:H'.gl=H.gl
theorem Qz.refl {H:AH}{p:Nat}{ro:Option Nat}{bs:List UInt8}(h:Wr H p ro bs):Qz H p ro H bs:=⟨⟨ro,h,.inl rfl⟩,A4 _,fun _ _ _ _=>rfl,rfl⟩
theorem Qz.post {H H1 H2:AH}{p:Nat}{ro ro1:Option Nat}{bs2:List UInt8}(h:H.next<=H1.next) (hro:ro1=ro\/∃r',ro1=some r'/\H.next<=r') (hf:∀q,q<H.next->q≠p->some q≠ro->H1.get q=H.get q) (hg:H1.gl=H.gl)
  {r2:Nat} (h1:H1.next<=r2) (h2:Wr H2 p (some r2) bs2) (h3:H1.next<=H2.next) (h4:∀q,q<H1.next->q≠p->some q≠ro1->H2.get q=H1.get q) (h5:H2.gl=H1.gl):Qz H p ro H2 bs2:=
 ⟨⟨some r2,h2,.inr ⟨r2,rfl,by omega⟩⟩,by omega,fun q hq hp hr=>by
  rw[h4 q (by omega) hp ?_,hf q hq hp hr]
  rcases hro with rfl | ⟨r',rfl,hr'⟩
  ·exact hr
  ·intro e;cases e;omega,h5.trans hg⟩
theorem wrap_u8 (n:Int):IntKind.u8.wrap n=n % 256:=by simp[IntKind.wrap,IntKind.bits,IntKind.signed]
theorem wrap_u64 (n:Int):IntKind.u64.wrap n=n % 18446744073709551616:=by simp[IntKind.wrap,IntKind.bits,IntKind.signed]
theorem Hc (n:Int):IntKind.i64.wrap n=if n % 18446744073709551616>=9223372036854775808 then n % 18446744073709551616-18446744073709551616 else n % 18446744073709551616:=by simp[IntKind.wrap,IntKind.bits,IntKind.signed]
theorem mK:∀k<256,(BitVec.ofInt 8 ((k:Nat):Int) ||| BitVec.ofInt 8 128).toNat=k % 128+128:=by decide +kernel
theorem u8_or {u:Nat}:IntKind.u8.wrap (((BitVec.ofInt 8 (IntKind.u8.wrap (u:Int)) ||| BitVec.ofInt 8 128).toNat:Nat):Int)=((UInt8.ofNat (u % 128+128)).toNat:Int):=by
 have h1:(u:Int) % 256=((u % 256:Nat):Int):=by omega
 rw[wrap_u8 (u:Int),h1,mK (u % 256) (HU _ (by omega)),ofNat_toNat (by omega),wrap_u8];omega
theorem dC {u:Nat}(h:u<=127):IntKind.u8.wrap (u:Int)=((UInt8.ofNat u).toNat:Int):=by
 rw[ofNat_toNat (by omega),wrap_u8];omega
theorem dD {u:Nat}:((u:Int).fdiv (2 ^ 7))=((u / 128:Nat):Int):=by
 rw[E4 _ (by decide)];simp
theorem Wr.step {H:AH}{p:Nat}{ro:Option Nat}{bs:List UInt8}(hW:Wr H p ro bs) (hb:bs.length<1099511627776) (x:UInt8) :
  ∃v v' H1 H2,BJ none (.ptr p 0) (H.push (.cells [bv x]))=some v/\BJ none (.ptr p 0) H=some v/\BO 1 1 v (.sl H.next 0 1 (.ex 1)) (H.push (.cells [bv x]))=some (v',H1) /\
   H1.cells? p=some [v]/\v'.cellsOf=some [v']/\H2=H1.set p (.cells [v'])/\H2.gl=H.gl/\Wr H2 p (some (H.next+1)) (bs++[x])/\H2.next=H.next+2/\∀q,q<H.next->q≠p->some q≠ro->H2.get q=H.get q:=by
 cases hW with
 | nil hp hlt=>
  have h1:p≠H.next:=by omega
  have h2:p≠H.next+1:=by omega
  refine⟨.nils,.sl (H.next+1) 0 1 (.op 1),(H.push (.cells [bv x])).push (.cells [bv x]),_,?_,?_,?_,?_,rfl,rfl,rfl,?_,by simp,?_⟩
  ·simp[BJ,AH.cells?,AH.Ai,h1,hp,apart]
  ·simp[BJ,AH.cells?,hp,apart]
  ·simp[BO,Ae,AH.cells?,AH.Ai]
  ·simp[AH.cells?,AH.Ai,h1,h2,hp]
  ·refine .row (bs:=[x]) ?_ ?_ (by omega) (by simp;omega) (by simp)
   ·simp[AH.AU]
   ·simp[AH.AU,AH.Ai,bv];omega
  ·intro q hq hqp hqr
   have h3:q≠H.next:=by omega
   have h4:q≠H.next+1:=by omega
   simp[AH.AU,AH.Ai,hqp,h3,h4]
 | row hp hr hne hlt hrt=>
  rename_i r
  have h1:p≠H.next:=by omega
  have h2:p≠H.next+1:=by omega
  have h3:r≠H.next:=by omega
  have h4:¬p=r:=fun e=>hne e.symm
  have h5:bs.length+1<=140737488355328:=by omega
  have h6:bs.length+1<=9223372036854775807:=by omega
  refine⟨.sl r 0 bs.length (.op 1),.sl (H.next+1) 0 (bs.length+1) (.op 1),((H.push (.cells [bv x])).erase r).push (.cells (bs.map bv++[bv x])),_,?_,?_,?_,?_,rfl,rfl,rfl,?_,by simp,?_⟩
  ·simp[BJ,AH.cells?,AH.Ai,h1,hp,apart]
  ·simp[BJ,AH.cells?,hp,apart]
  ·simp[BO,Ae,AH.cells?,AH.Ai,h3,hr,h5,h6,AX]
  ·simp[AH.cells?,AH.Ai,AH.get_erase,h1,h2,h4,hp]
  ·refine .row ?_ ?_ (by omega) (by simp;omega) (by simp)
   ·simp[AH.AU]
   ·have h7:H.next+1≠p:=by omega
    simp[AH.AU,AH.Ai,AH.get_erase,h7]
  ·intro q hq hqp hqr
   have h7:q≠H.next:=by omega
   have h8:q≠H.next+1:=by omega
   have h9:q≠r:=fun e=>hqr (by rw[e])
   simp[AH.AU,AH.Ai,AH.get_erase,hqp,h7,h8,h9]
theorem gU {n:Int}(h0:0<=n) (h:Q0 n):IntKind.u64.wrap (IntKind.u64.wrap n*2 ^ (min (1:Int).toNat IntKind.u64.bits))=((zz n:Nat):Int):=by
 obtain⟨h1,h2⟩:=h
 have e:(2:Int) ^ (min (1:Int).toNat IntKind.u64.bits)=2:=by rfl
 rw[e,wrap_u64,wrap_u64]
 unfold zz;rw[if_pos h0];omega
theorem xor_not (n:Int):((BitVec.ofInt 64 (-1) ^^^ BitVec.ofInt 64 n).toNat:Int)=(-n-1) % 18446744073709551616:=by
 have e1:BitVec.ofInt 64 (-1)=BitVec.allOnes 64:=by decide
 rw[e1,BitVec.allOnes_xor,BitVec.toNat_not,BitVec.toNat_ofInt]
 have h1:(0:Int)<=n % ((2 ^ 64:Nat):Int):=Int.emod_nonneg _ (by decide)
 have h2:n % ((2 ^ 64:Nat):Int)<18446744073709551616:=Int.emod_lt_of_pos _ (by decide)
 have e2:((2 ^ 64:Nat):Int)=18446744073709551616:=by decide
 rw[e2]at *
 have e3:2 ^ 64=18446744073709551616:=by decide
 rw[e3]
 omega
theorem iI (m:Nat) (h:m<9223372036854775808):((BitVec.ofInt 64 ((2*m:Nat):Int) ||| BitVec.ofInt 64 1).toNat)=2*m+1:=by
 rw[VE]
 have e1:(BitVec.ofInt 64 ((2*m:Nat):Int)).toNat=2*m:=by simp;omega
 have e2:(BitVec.ofInt 64 1).toNat=1:=by decide
 rw[e1,e2]
 have:=N_ (i:=1) (b:=1) (by decide) m
 simpa using this.symm
theorem gV {n:Int}(h0:¬0<=n) (h:Q0 n) :
  IntKind.u64.wrap (((BitVec.ofInt 64 (IntKind.u64.wrap (IntKind.u64.wrap (IntKind.i64.wrap (((BitVec.ofInt 64 (-1) ^^^ BitVec.ofInt 64 n).toNat:Nat):Int))*2 ^ (min (1:Int).toNat IntKind.u64.bits))) ||| BitVec.ofInt 64 1).toNat:Nat):Int)=((zz n:Nat):Int):=by
 obtain⟨h1,h2⟩:=h
 have e:(2:Int) ^ (min (1:Int).toNat IntKind.u64.bits)=2:=by rfl
 have e1:IntKind.i64.wrap (((BitVec.ofInt 64 (-1) ^^^ BitVec.ofInt 64 n).toNat:Nat):Int)=-n-1:=by
  rw[xor_not,Hc]
  split<;>omega
 rw[e1,e,wrap_u64 (-n-1),wrap_u64]
 have e2:(-n-1) % 18446744073709551616*2 % 18446744073709551616=((2*(-n-1).toNat:Nat):Int):=by omega
 rw[wrap_u64,e2,iI _ (by omega)]
 unfold zz;rw[if_neg h0];omega
end
section
open Co
variable {P:Program}
theorem HJ {e:Env}{H:AH}{y:Ay}{Q:Ex->Env->AH->Prop}{Kp:AV->Env->AH->Prop}(h:D P y Q e H):CI P [] e H (fun e' H'=>VA (VQ P y Q) .normal e' H') Kp:=Tc (VL h)
theorem Su {e:Env}{H:AH}{Q:Ex->Env->AH->Prop}{Kp:AV->Env->AH->Prop}(h:Q .normal e H):CI P [] e H (fun e' H'=>VA Q .normal e' H') Kp:=Tc (Fj h)
abbrev WQ (H:AH) (p:Nat) (ro:Option Nat) (bs':List UInt8):Ex->Env->AH->Prop:=fun x e H'=>e AM=.tup []/\F1 [] (DW H p ro bs') x e H'
theorem Qz.WQ {H H1 H2:AH}{p:Nat}{ro ro1:Option Nat}{e:Env}{bs1 bs2:List UInt8}(hm:Qz H p ro H1 bs1) (hw:Wr H1 p ro1 bs1) (hro:ro1=ro\/∃r',ro1=some r'/\H.next<=r') (hd:e AM=.tup []) (hg:H2.gl=H1.gl)
  (h2:Wr H2 p (some (H1.next+1)) bs2) (hn:H2.next=H1.next+2) (h4:∀q,q<H1.next->q≠p->some q≠ro1->H2.get q=H1.get q):WQ H p ro bs2 .normal e H2:=by
 have hnx:=hm.nx
 obtain⟨⟨_,_,_⟩,_,fr,gl⟩:=Qz.post hm.nx hro hm.fr hm.gl (r2:=H1.next+1) (by omega) h2 (by omega) h4 hg
 exact⟨hd,rfl,H1.next+1,by omega,h2,by omega,fr,gl⟩
theorem Uo {H:AH}{p:Nat}{ro:Option Nat}{all:List UInt8}(hb:all.length<1099511627776) (u0:Nat) (e0:Env) (h0:e0 0=.ptr p 0) (h4:e0 4=.int .u64 (u0:Nat)) (hd:e0 AM=.tup [])
  {bs:List UInt8} (hW:Wr H p ro bs) (hall:bs++MG u0=all):D P (.seq (.block 0 (.loop cH)) (.reg cG)) (WQ H p ro all) e0 H:=by
 refine QD (XU (jD (fun e H'=>∃(u:Nat) (bs':List UInt8),e 0=.ptr p 0/\e 4=.int .u64 (u:Nat)/\e AM=.tup []/\Qz H p ro H' bs'/\bs'++MG u=all)
  (fun e _=>match e 4 with | .int _ u=>u.toNat | _=>0) ⟨u0,bs,h0,h4,hd,Qz.refl hW,hall⟩ ?_))
 rintro e H' ⟨u,bs',h0,h4,hd,hm,hall'⟩
 have hd':e 1000000=.tup []:=hd
 obtain⟨ro1,hw,hro⟩:=hm.w
 have hlen:bs'.length<1099511627776:=by
  have:=congrArg List.length hall'
  simp only[AW]at this;omega
 unfold cH gO
 refine QD (Dx ?_)
 refine A0 (v:=.int .u64 (u:Nat)) (H1:=H') (by simp[A6,AJ,AE.ev,h4]) rfl ?_
 refine A0 (v:=.bool (decide (127<u))) (H1:=H') (by simp[A6,AJ,AE.ev,Env.put,Env.AN,Dj];omega) rfl ?_
 refine HJ (Ji (t:=decide (127<u)) (by simp[AE.ev,Env.put,Env.AN]) (fun ht=>?_) (fun ht=>?_))
 ·
  have hu:127<u:=by simpa using ht
  refine K7 ?_
  have hor:=@u8_or u
  have henc:MG u=UInt8.ofNat (u % 128+128)::MG (u / 128):=by rw[MG,if_neg (by omega)]
  generalize UInt8.ofNat (u % 128+128)=x at hor henc
  obtain⟨v,v',H1,H2,s1,s2,s3,s4,s5,s6,s7,s8,s9,s10⟩:=hw.step hlen x
  refine QD (XU ?_)
  unfold gN
  refine Gs ?_
  refine A0 (v:=.ptr p 0) (H1:=H') (by simp[A6,AJ,AE.ev,Env.put,Env.AN,h0]) rfl ?_
  refine A0 (v:=.ptr p 0) (H1:=H') (by simp[A6,AJ,AE.ev,Env.put,Env.AN,h0]) rfl ?_
  refine A0 (v:=.ptr p 0) (H1:=H') (by simp[A6,AJ,AE.ev,Env.put,Env.AN,Ik]) rfl ?_
  refine A0 (v:=.ptr p 0) (H1:=H') (by simp[A6,AJ,AE.ev,Env.put,Env.AN,Fc]) rfl ?_
  refine A0 (v:=v) (H1:=H') (by simp[A6,AJ,AY,AE.ev,Env.put,Env.AN,s2]) rfl ?_
  refine A0 (v:=.int .u64 (u:Nat)) (H1:=H') (by simp[A6,AJ,AE.ev,Env.put,Env.AN,h4]) rfl ?_
  refine A0 (v:=.int .u8 (IntKind.u8.wrap (u:Nat))) (H1:=H') (by simp[A6,AJ,AE.ev,Env.put,Env.AN]) rfl ?_
  refine A0 (v:=bv x) (H1:=H') (by
   simp only[A6,AJ,AE.ev,Env.put,Env.AN,reduceIte,Dj]
   exact congrArg (fun z=>some (AV.int IntKind.u8 z,H')) hor) rfl ?_
  refine A0 (v:=.sl H'.next 0 1 (.ex 1)) (H1:=H'.push (.cells [bv x])) (by simp[A6,AJ,AY,BC,Bv,AV.cellsOf,AE.ev,Env.put,Env.AN,bv]) rfl ?_
  refine A0 (v:=v') (H1:=H1) (by simp[A6,AJ,AY,BC,AE.ev,Env.put,Env.AN,s3]) rfl ?_
  refine A0 (v:=.ptr p 0) (H1:=H1) (by simp[A6,AJ,AE.ev,Env.put,Env.AN,Ik]) rfl ?_
  refine A0 (v:=.ptr p 0) (H1:=H1) (by simp[A6,AJ,AE.ev,Env.put,Env.AN,Fc]) rfl ?_
  refine A0 (v:=.unk) (H1:=H2) (by simp[A6,AJ,AY,BC,AE.ev,Env.put,Env.AN,s4,s5,s6,Ap]) rfl ?_
  refine Su (mA (Q9 ?_))
  unfold gM
  refine Gs ?_
  refine A0 (v:=.int .u64 (u:Nat)) (H1:=H2) (by simp[A6,AJ,AE.ev,Env.put,Env.AN,h4]) rfl ?_
  refine A0 (v:=.int .u64 ((u / 128:Nat):Int)) (H1:=H2) (by
   simp only[A6,AJ,AE.ev,Env.put,Env.AN,reduceIte,Dj,IntKind.bits]
   have:=@dD u
   simp only[show(0:Int)<=7 by omega,if_true,show min (7:Int).toNat 64=7 by decide,this]) rfl ?_
  refine A0 (v:=.int .u64 ((u / 128:Nat):Int)) (H1:=H2) (by simp[A6,AJ,AE.ev,Env.put,Env.AN]) rfl ?_
  refine Su (iD ⟨u / 128,bs'++[x],by simp[Env.put,Env.AN,h0],by simp[Env.put,Env.AN],by simp[Env.put,Env.AN,AM,hd'],?_,?_⟩ ?_)
  ·have hnx:=hm.nx
   exact Qz.post hm.nx hro hm.fr hm.gl (r2:=H'.next+1) (by omega) s8 (by omega) s10 s7
  ·rw[<- hall',Ar,henc];rfl
  ·simp[Env.put,Env.AN,h4];omega
 ·
  have hu:u<=127:=by simpa using ht
  refine jE (VV (Tp (VW (Q9 ?_))))
  have hcv:=dC hu
  have hfin:all=bs'++[UInt8.ofNat u]:=by rw[<- hall',MG,if_pos hu]
  generalize UInt8.ofNat u=x at hcv hfin
  obtain⟨v,v',H1,H2,s1,s2,s3,s4,s5,s6,s7,s8,s9,s10⟩:=hw.step hlen x
  unfold cG
  refine Gs ?_
  refine A0 (v:=.ptr p 0) (H1:=H') (by simp[A6,AJ,AE.ev,Env.put,Env.AN,h0]) rfl ?_
  refine A0 (v:=.ptr p 0) (H1:=H') (by simp[A6,AJ,AE.ev,Env.put,Env.AN,h0]) rfl ?_
  refine A0 (v:=.ptr p 0) (H1:=H') (by simp[A6,AJ,AE.ev,Env.put,Env.AN,Ik]) rfl ?_
  refine A0 (v:=.ptr p 0) (H1:=H') (by simp[A6,AJ,AE.ev,Env.put,Env.AN,Fc]) rfl ?_
  refine A0 (v:=v) (H1:=H') (by simp[A6,AJ,AY,AE.ev,Env.put,Env.AN,s2]) rfl ?_
  refine A0 (v:=.int .u64 (u:Nat)) (H1:=H') (by simp[A6,AJ,AE.ev,Env.put,Env.AN,h4]) rfl ?_
  refine A0 (v:=bv x) (H1:=H') (by simp only[A6,AJ,AE.ev,Env.put,Env.AN,reduceIte,bv,hcv]) rfl ?_
  refine A0 (v:=.sl H'.next 0 1 (.ex 1)) (H1:=H'.push (.cells [bv x])) (by simp[A6,AJ,AY,BC,Bv,AV.cellsOf,AE.ev,Env.put,Env.AN,bv]) rfl ?_
  refine A0 (v:=v') (H1:=H1) (by simp[A6,AJ,AY,BC,AE.ev,Env.put,Env.AN,s3]) rfl ?_
  refine A0 (v:=.ptr p 0) (H1:=H1) (by simp[A6,AJ,AE.ev,Env.put,Env.AN,Ik]) rfl ?_
  refine A0 (v:=.ptr p 0) (H1:=H1) (by simp[A6,AJ,AE.ev,Env.put,Env.AN,Fc]) rfl ?_
  refine A0 (v:=.unk) (H1:=H2) (by simp[A6,AJ,AY,BC,AE.ev,Env.put,Env.AN,s4,s5,s6,Ap]) rfl ?_
  rw[hfin]
  exact Su (hm.WQ hw hro (by simp[Env.put,Env.AN,AM,hd']) s7 s8 s9 s10)
end
section
open Co
variable {P:Program}
theorem vw (F:MT P 53 42 qY oH){H:AH}{p:Nat}{ro:Option Nat}{bs:List UInt8}{n:Int}(hn:Q0 n) (hW:Wr H p ro bs) (hb:(bs++Ba n).length<1099511627776) :
  AQ P 53 [.ptr p 0,.int .i64 n] H (DW H p ro (bs++Ba n)):=by
 refine F.call (by simp) ?_
 show D P qY (WQ H p ro (bs++Ba n)) _ H
 unfold qY gR gQ gP
 refine Dx ?_
 refine A0 (v:=.int .i64 n) (H1:=H) (by simp[A6,AJ,AE.ev,CH,AM]) rfl ?_
 refine A0 (v:=.int .u64 (IntKind.u64.wrap n)) (H1:=H) (by simp[A6,AJ,AE.ev,Env.put,Env.AN]) rfl ?_
 refine A0 (v:=.int .u64 (IntKind.u64.wrap (IntKind.u64.wrap n*2 ^ (min (1:Int).toNat IntKind.u64.bits)))) (H1:=H) (by simp[A6,AJ,AE.ev,Env.put,Env.AN,Dj]) rfl ?_
 refine A0 (v:=.int .u64 (IntKind.u64.wrap (IntKind.u64.wrap n*2 ^ (min (1:Int).toNat IntKind.u64.bits)))) (H1:=H) (by simp[A6,AJ,AE.ev,Env.put,Env.AN]) rfl ?_
 refine HJ (QD (Dx ?_))
 refine A0 (v:=.int .i64 n) (H1:=H) (by simp[A6,AJ,AE.ev,Env.put,Env.AN,CH,AM]) rfl ?_
 refine A0 (v:=.bool (decide (n<0))) (H1:=H) (by simp[A6,AJ,AE.ev,Env.put,Env.AN,Dj]) rfl ?_
 refine HJ (Ji (t:=decide (n<0)) (by simp[AE.ev,Env.put,Env.AN]) (fun ht=>?_) (fun ht=>?_))
 ·have h0:¬0<=n:=by
    have:n<0:=by simpa using ht
    omega
  refine Gs ?_
  refine A0 (v:=.int .i64 n) (H1:=H) (by simp[A6,AJ,AE.ev,Env.put,Env.AN,CH,AM]) rfl ?_
  refine A0 (v:=.int .i64 (IntKind.i64.wrap (((BitVec.ofInt 64 (-1) ^^^ BitVec.ofInt 64 n).toNat:Nat):Int))) (H1:=H) (by simp only[A6,AJ,AE.ev,Env.put,Env.AN,reduceIte,km];rfl) rfl ?_
  refine A0 (v:=.int .u64 (IntKind.u64.wrap (IntKind.i64.wrap (((BitVec.ofInt 64 (-1) ^^^ BitVec.ofInt 64 n).toNat:Nat):Int)))) (H1:=H) (by simp only[A6,AJ,AE.ev,Env.put,Env.AN,reduceIte]) rfl ?_
  refine A0 (v:=.int .u64 (IntKind.u64.wrap (IntKind.u64.wrap (IntKind.i64.wrap (((BitVec.ofInt 64 (-1) ^^^ BitVec.ofInt 64 n).toNat:Nat):Int))*2 ^ (min (1:Int).toNat IntKind.u64.bits)))) (H1:=H) (by simp only[A6,AJ,AE.ev,Env.put,Env.AN,reduceIte,Dj,show(0:Int)<=1 by omega,if_true]) rfl ?_
  refine A0 (v:=.int .u64 ((zz n:Nat):Int)) (H1:=H) (by
   simp only[A6,AJ,AE.ev,Env.put,Env.AN,reduceIte,Dj]
   exact congrArg (fun z=>some (AV.int IntKind.u64 z,H)) (gV h0 hn)) rfl ?_
  refine A0 (v:=.int .u64 ((zz n:Nat):Int)) (H1:=H) (by simp[A6,AJ,AE.ev,Env.put,Env.AN]) rfl ?_
  exact Su (Q9 (Uo hb (zz n) _ (by simp[Env.put,Env.AN,CH,AM]) (by simp[Env.put,Env.AN]) (by simp[Env.put,Env.AN,CH,AM]) hW rfl))
 ·have h0:0<=n:=by
    have:¬n<0:=by simpa using ht
    omega
  refine K7 (Q9 (Uo hb (zz n) _ (by simp[Env.put,Env.AN,CH,AM]) ?_ (by simp[Env.put,Env.AN,CH,AM]) hW rfl))
  have:=gU h0 hn
  simp only[Env.put,Env.AN,reduceIte]
  exact congrArg (AV.int IntKind.u64) this
end
section
open Co
variable [BQ] {P:Program}
theorem DW.Bd {H H':AH}{p:Nat}{ro:Option Nat}{bs:List UInt8}{v:AV}{K:Prop}(h:DW H p ro bs (.Bd v) H'):K:=by cases h.1
theorem DW.get {H H':AH}{p:Nat}{ro:Option Nat}{bs:List UInt8}{v:AV}(h:DW H p ro bs (.ret v) H'):v=.tup []/\∃r',H.next<=r'/\Wr H' p (some r') bs/\GB H p ro H':=by
 obtain⟨h1,r',h2,h3,h4,h5,h6⟩:=h
 cases h1
 exact⟨rfl,r',h2,h3,h4,h5,h6⟩
def Xe (L:List (Nat × List AV)) (p:Nat) (H:AH) (ro:Option Nat):Prop:=∀x∈L,x.1<H.next/\x.1≠p/\some x.1≠ro/\H.get x.1=some (.cells x.2)
theorem Xe.GJ {L:List (Nat × List AV)}{p:Nat}{H H':AH}{ro:Option Nat}{r':Nat}(h:Xe L p H ro) (hk:GB H p ro H') (hr:H.next<=r'):Xe L p H' (some r'):=fun x hx=>by
 obtain⟨h1,h2,h3,h4⟩:=h x hx
 have:=hk.nx
 exact⟨by omega,h2,by simp only[ne_eq,AD];omega,by rw[hk.get _ h1 h2 h3];exact h4⟩
def Nq:Nat:=1099511627776
def Xd (P:Program) (L:List (Nat × List AV)) (p:Nat) (fv x:AV) (o:List UInt8):Prop:=∀H ro bs,Wr H p ro bs->Xe L p H ro->(bs++o).length<Nq->Gw P fv [x] H (DW H p ro (bs++o))
def DZ (P:Program) (v0 v1 v2:AV) (h:AH) (Post:Al->AH->Prop):Prop:=(
 AB (.len (.cst v1)) fun v3=>
 AF P 53 [v0,v3] h (yp Post) fun v4 h4=>
 AB (.len (.cst v1)) fun v5=>
 Ak [2,12,13,14] (fun J6=>(fun(v7 v8 v9 v10:AV) (h11:AH)=>
 AB (.bin .lss (.cst v10) (.cst v9)) fun v12=>
 AZ v12
 (AB (.indexAddrS 1 (.cst v8) (.cst v10)) fun v13=>
 AG (.load none (.cst v13)) h11 fun v14=>
 DV P v7 [v14] h11 (yp Post) fun v15 h15=>
 AB (.bin .add (.cst v10) (.cst (I 1))) fun v16=>
 J6 v7 v8 v9 v16 h15)
 (Post (.ret (.tup [])) h11))) ((((A5.set 2 v2).set 12 v1).set 13 v5).set 14 (I 0)) h4)
def gS (P:Program):Prop:=∀{H:AH}{p:Nat}{ro:Option Nat}{bs:List UInt8}{n:Int},Q0 n->Wr H p ro bs->(bs++Ba n).length<Nq->AQ P 53 [.ptr p 0,.int .i64 n] H (DW H p ro (bs++Ba n))
theorem de (h18:gS P){L:List (Nat × List AV)}{H:AH}{p:Nat}{ro:Option Nat}{bs:List UInt8}{v1 fv:AV}{cs:List AV}{n:Nat}{os:List (List UInt8)}(hf:kV 1 v1 cs n) (hn:Q0 (n:Int)) (ho:os.length=n)
  (hW:Wr H p ro bs) (hL:Xe L p H ro) (hs:∀(i:Nat) (x:AV) (o:List UInt8),cs[i]?=some x->os[i]?=some o->Xd P L p fv x o) (hb:(bs++(Ba n++os.flatten)).length<Nq) :
  DZ P (.ptr p 0) v1 fv H (DW H p ro (bs++(Ba n++os.flatten))):=by
 have hlen:AJ (.len (.cst v1)) emp=some (.int .i64 (n:Int)):=by cases hf<;>rfl
 unfold DZ
 refine AA hlen ?_
 have hb0:(bs++Ba n).length<Nq:=by simp only[AW]at hb ⊢;omega
 refine BA (h18 hn hW hb0) (fun v H1 h1=>?_) (fun v H1 h1=>h1.Bd)
 obtain⟨rfl,r1,q1,q2,q3⟩:=h1.get
 refine AA hlen ?_
 let I:AV->AV->AV->AV->AH->Prop:=fun a b c d H'=>a=fv/\b=v1/\c=.int .i64 (n:Int)/\∃(i r':Nat),d=.int .i64 (i:Int)/\i<=n/\H.next<=r'/\Wr H' p (some r') (bs++(Ba n++(os.take i).flatten))/\GB H p ro H'
 let μ:AV->AV->AV->AV->AH->Nat:=fun _ _ _ d _=>match d with
  | .int _ j=>(n-j).toNat
  | _=>0
 refine⟨I,μ,⟨rfl,rfl,rfl,0,r1,rfl,TM _,q1,by simpa using q2,q3⟩,?_⟩
 intro e H2 hI
 obtain⟨e1,e2,e3,i,r',e4,hi,hr',hw,hk⟩:=(hI:I (e 2) (e 12) (e 13) (e 14) H2)
 show AB (.bin .lss (.cst (e 14)) (.cst (e 13))) _
 rw[e4,e3]
 refine AA (v:=.bool (decide ((i:Int)<n))) rfl (B_ (fun ht=>?_) (fun ht=>?_))
 ·have hlt:i<n:=by have:=of_decide_eq_true ht;omega
  rw[e2,e1]
  have hc:∃x,cs[i]?=some x/\AJ (.indexAddrS 1 (.cst v1) (.cst (.int .i64 (i:Int)))) emp=some (.pim cs i):=by
   cases hf with
   | nil=>omega
   | sim h=>
    refine⟨cs[i]'(by omega),Ab (by omega),?_⟩
    have h1:(0:Int)<=(i:Int)/\(i:Int)<(n:Int):=by omega
    simp[AJ,AE.ev,Ey,h1]
  obtain⟨x,hx,hc⟩:=hc
  obtain⟨o,ho'⟩:∃o,os[i]?=some o:=⟨os[i]'(by omega),Ab (by omega)⟩
  refine AA hc (BG (v:=x) (by simpa[AY,BJ,AE.ev,apart]using hx) ?_)
  have ht1:(os.take (i+1)).flatten=(os.take i).flatten++o:=by
   rw[Cr,ho'];simp
  have hsub:(os.take (i+1)).flatten.length<=os.flatten.length:=by
   conv=>rhs;rw[<- Fo (i+1) os]
   rw[G4,AW];omega
  have hb1:((bs++(Ba n++(os.take i).flatten))++o).length<Nq:=by
   rw[ht1]at hsub
   simp only[AW]at hb hsub ⊢;omega
  refine SG (hs i x o hx ho' H2 (some r') _ hw (hL.GJ hk hr') hb1) (fun v H3 h3=>?_) (fun v H3 h3=>h3.Bd)
  obtain⟨rfl,r2,w1,w2,w3⟩:=h3.get
  have hwr:IntKind.i64.wrap ((i:Int)+1)=((i+1:Nat):Int):=by
   have:((i+1:Nat):Int)=(i:Int)+1:=by omega
   rw[this]
   rw[Hc];have h9:=hn.2;split<;>omega
  refine AA (v:=.int .i64 ((i+1:Nat):Int)) (by show some (AV.int .i64 (IntKind.i64.wrap ((i:Int)+1)))=_;rw[hwr]) ?_
  have hnx:=hk.nx
  refine⟨⟨rfl,rfl,rfl,i+1,r2,rfl,hlt,by omega,?_,hk.trans (fun r hr=>?_) w3⟩,?_⟩
  ·rw[ht1];simpa[Ar]using w2
  ·cases hr;exact .inl hr'
  ·show((n:Int)-((i+1:Nat):Int)).toNat<μ (e 2) (e 12) (e 13) (e 14) H2
   rw[e4]
   show((n:Int)-((i+1:Nat):Int)).toNat<((n:Int)-(i:Int)).toNat
   omega
 ·have hge:i=n:=by have:=of_decide_eq_false ht;omega
  subst hge
  rw[<- ho,GU]at hw
  rw[<- ho]
  exact .of r' hr' hw hk
end
section
open Co
variable [BQ] {P:Program}
theorem C9.w {H H':AH}(h:C9 H H') (p:Nat) (ro:Option Nat):GB H p ro H':=⟨h.nx,fun q hq _ _=>h.get q hq,h.gl⟩
theorem Wr.UT {H H':AH}{p:Nat}{ro:Option Nat}{bs:List UInt8}(hW:Wr H p ro bs) (h:C9 H H'):Wr H' p ro bs:=by
 have hn:=h.nx
 cases hW with
 | nil hp hlt=>exact .nil (by rw[h.get _ hlt];exact hp) (by omega)
 | row hp hr hne hlt hrt=>exact .row (by rw[h.get _ hlt];exact hp) (by rw[h.get _ hrt];exact hr) hne (by omega) (by omega)
theorem Xe.UT {L:List (Nat × List AV)}{p:Nat}{H H':AH}{ro:Option Nat}(h:Xe L p H ro) (hk:C9 H H'):Xe L p H' ro:=fun x hx=>by
 obtain⟨h1,h2,h3,h4⟩:=h x hx
 have:=hk.nx
 exact⟨by omega,h2,h3,by rw[hk.get _ h1];exact h4⟩
theorem bj {k:Nat}{z c:List AV}{H:AH}{K:AV->AH->Prop}(hz:z.length=k) (hc:c.length=k) (hK:∀H',C9 H H'->H'.get H.next=some (.cells c)->K (.agg c) H') :
  AO (.alloc z) H fun v15 h15=>AO (.store k (.cst v15) (.cst (.agg c))) h15 fun _ h16=>AG (.load (some k) (.cst v15)) h16 fun v17=>K v17 h16:=by
 refine Aq (v:=.ptr H.next 0) (H':=H.push (.cells z)) rfl ?_
 have hs:Ap z 0 c=c:=by rw[Cu (by omega)];simp[hc,hz]
 refine Aq (v:=.unk) (H':=(H.push (.cells z)).set H.next (.cells c)) (by simp[BC,AE.ev,AH.cells?,AH.Ai,AV.cellsOf,hs,hc,hz]) ?_
 refine BG (v:=.agg c) (by simp[AY,BJ,AE.ev,AH.cells?,AH.AU,apart,hc];exact AX (by omega)) ?_
 refine hK _ ⟨by simp,fun q hq=>?_,rfl⟩ (by simp[AH.AU])
 have:q≠H.next:=by omega
 simp[AH.AU,AH.Ai,this]
theorem XY {x:AV}{c:List AV}{H:AH}{K:AV->AH->Prop}(hx:x.cellsOf=some c) (hK:K (.ptr H.next 0) (H.push (.cells c))):AO (.box (.cst x)) H K:=
 Aq (v:=.ptr H.next 0) (H':=H.push (.cells c)) (by simp[BC,AE.ev,hx]) hK
def Xu (P:Program) (k:Nat) (z:List AV) (v0 v1 v2:AV) (h:AH) (Post:Al->AH->Prop):Prop:=(
 AB (.len (.cst v1)) fun v3=>
 AF P 53 [v0,v3] h (yp Post) fun v4 h4=>
 AB (.len (.cst v1)) fun v5=>
 Ak [2,12,13,14] (fun J6=>(fun(v7 v8 v9 v10:AV) (h11:AH)=>
 AB (.bin .lss (.cst v10) (.cst v9)) fun v12=>
 AZ v12
 (AB (.indexAddrS k (.cst v8) (.cst v10)) fun v13=>
 AG (.load (some k) (.cst v13)) h11 fun v14=>
 AO (.alloc z) h11 fun v15 h15=>
 AO (.store k (.cst v15) (.cst v14)) h15 fun v16 h16=>
 AG (.load (some k) (.cst v15)) h16 fun v17=>
 DV P v7 [v17] h16 (yp Post) fun v18 h18=>
 AB (.bin .add (.cst v10) (.cst (I 1))) fun v19=>
 J6 v7 v8 v9 v19 h18)
 (Post (.ret (.tup [])) h11))) ((((A5.set 2 v2).set 12 v1).set 13 v5).set 14 (I 0)) h4)
theorem db (h18:gS P){k:Nat}{z:List AV}(hz:z.length=k){L:List (Nat × List AV)}{H:AH}{p:Nat}{ro:Option Nat}{bs:List UInt8}{v1 fv:AV}{cs:List AV}{n:Nat}{os:List (List UInt8)}(hf:kV k v1 cs n) (hn:Q0 (n:Int)) (ho:os.length=n)
  (hW:Wr H p ro bs) (hL:Xe L p H ro) (hs:∀(i:Nat) (o:List UInt8),os[i]?=some o->Xd P L p fv (.agg ((cs.drop (i*k)).take k)) o) (hb:(bs++(Ba n++os.flatten)).length<Nq) :
  Xu P k z (.ptr p 0) v1 fv H (DW H p ro (bs++(Ba n++os.flatten))):=by
 have hlen:AJ (.len (.cst v1)) emp=some (.int .i64 (n:Int)):=by cases hf<;>rfl
 unfold Xu
 refine AA hlen ?_
 have hb0:(bs++Ba n).length<Nq:=by simp only[AW]at hb ⊢;omega
 refine BA (h18 hn hW hb0) (fun v H1 h1=>?_) (fun v H1 h1=>h1.Bd)
 obtain⟨rfl,r1,q1,q2,q3⟩:=h1.get
 refine AA hlen ?_
 let I:AV->AV->AV->AV->AH->Prop:=fun a b c d H'=>a=fv/\b=v1/\c=.int .i64 (n:Int)/\∃(i r':Nat),d=.int .i64 (i:Int)/\i<=n/\H.next<=r'/\Wr H' p (some r') (bs++(Ba n++(os.take i).flatten))/\GB H p ro H'
 let μ:AV->AV->AV->AV->AH->Nat:=fun _ _ _ d _=>match d with
  | .int _ j=>(n-j).toNat
  | _=>0
 refine⟨I,μ,⟨rfl,rfl,rfl,0,r1,rfl,TM _,q1,by simpa using q2,q3⟩,?_⟩
 intro e H2 hI
 obtain⟨e1,e2,e3,i,r',e4,hi,hr',hw,hk⟩:=(hI:I (e 2) (e 12) (e 13) (e 14) H2)
 show AB (.bin .lss (.cst (e 14)) (.cst (e 13))) _
 rw[e4,e3]
 refine AA (v:=.bool (decide ((i:Int)<n))) rfl (B_ (fun ht=>?_) (fun ht=>?_))
 ·have hlt:i<n:=by have:=of_decide_eq_true ht;omega
  rw[e2,e1]
  have hc:((cs.drop (i*k)).take k).length=k/\i*k+k<=cs.length/\AJ (.indexAddrS k (.cst v1) (.cst (.int .i64 (i:Int)))) emp=some (.pim cs (i*k)):=by
   cases hf with
   | nil=>omega
   | sim h=>
    have hm:i*k+k<=n*k:=by
     have:(i+1)*k<=n*k:=DY k hlt
     rw[EC,GY]at this;exact this
    refine⟨?_,by omega,?_⟩
    ·rw[BL,B3];omega
    ·have h1:(0:Int)<=(i:Int)/\(i:Int)<(n:Int):=by omega
     simp[AJ,AE.ev,Ey,h1]
  obtain⟨hcl,hcm,hc⟩:=hc
  obtain⟨o,ho'⟩:∃o,os[i]?=some o:=⟨os[i]'(by omega),Ab (by omega)⟩
  refine AA hc (BG (v:=.agg ((cs.drop (i*k)).take k)) (by simp[AY,BJ,AE.ev,apart,hcm]) ?_)
  refine bj hz hcl fun H3 hk3 _=>?_
  have ht1:(os.take (i+1)).flatten=(os.take i).flatten++o:=by
   rw[Cr,ho'];simp
  have hsub:(os.take (i+1)).flatten.length<=os.flatten.length:=by
   conv=>rhs;rw[<- Fo (i+1) os]
   rw[G4,AW];omega
  have hb1:((bs++(Ba n++(os.take i).flatten))++o).length<Nq:=by
   rw[ht1]at hsub
   simp only[AW]at hb hsub ⊢;omega
  refine SG (hs i o ho' H3 (some r') _ (hw.UT hk3) ((hL.GJ hk hr').UT hk3) hb1) (fun v H4 h4=>?_) (fun v H4 h4=>h4.Bd)
  obtain⟨rfl,r2,w1,w2,w3⟩:=h4.get
  have hwr:IntKind.i64.wrap ((i:Int)+1)=((i+1:Nat):Int):=by
   have:((i+1:Nat):Int)=(i:Int)+1:=by omega
   rw[this,Hc];have h9:=hn.2;split<;>omega
  refine AA (v:=.int .i64 ((i+1:Nat):Int)) (by show some (AV.int .i64 (IntKind.i64.wrap ((i:Int)+1)))=_;rw[hwr]) ?_
  have hnx:=hk.nx
  have hnx3:=hk3.nx
  refine⟨⟨rfl,rfl,rfl,i+1,r2,rfl,hlt,by omega,?_,(hk.trans (fun r hr=>?_) (hk3.w p (some r'))).trans (fun r hr=>?_) w3⟩,?_⟩
  ·rw[ht1];simpa[Ar]using w2
  ·cases hr;exact .inl hr'
  ·cases hr;exact .inl hr'
  ·show((n:Int)-((i+1:Nat):Int)).toNat<μ (e 2) (e 12) (e 13) (e 14) H2
   rw[e4]
   show((n:Int)-((i+1:Nat):Int)).toNat<((n:Int)-(i:Int)).toNat
   omega
 ·have hge:i=n:=by have:=of_decide_eq_false ht;omega
  subst hge
  rw[<- ho,GU]at hw
  rw[<- ho]
  exact .of r' hr' hw hk
end
section
open Co
variable [BQ] {P:Program}
def Dd:Ty->Nat
 | .pair a b=>Dd a+Dd b
 | .vec n=>n / 8
 | _=>1
def w8:List UInt8->Nat
 | []=>0
 | x::l=>x.toNat+256*w8 l
def RC:(t:Ty)->t.D->List AV->Prop
 | .int,n,c=>c=[.int .i64 n]
 | .byte,x,c=>c=[bv x]
 | .bool,b,c=>c=[.bool b]
 | .list t,l,c=>∃v cs,c=[v]/\kV (Dd t) v cs (GA l).length/\∃css:List (List AV),cs=css.flatten/\css.length=(GA l).length/\∀(i:Nat) (x:t.D) (y:List AV),(GA l)[i]?=some x->css[i]?=some y->RC t x y
 | .pair a b,p,c=>∃c1 c2,c=c1++c2/\RC a p.1 c1/\RC b p.2 c2
 | .vec n,l,c=>(Rl l).length=n/\c.length=n / 8/\∀i,i<n / 8->c[i]?=some (.int .u64 ((w8 (((Rl l).drop (8*i)).take 8):Nat):Int))
theorem LF:∀(t:Ty) (d:t.D) (c:List AV),RC t d c->c.length=Dd t
 | .int,_,c,h=>by have h:c=_:=h;subst h;rfl
 | .byte,_,c,h=>by have h:c=_:=h;subst h;rfl
 | .bool,_,c,h=>by have h:c=_:=h;subst h;rfl
 | .list _,_,c,h=>by obtain⟨v,cs,rfl,_⟩:=h;rfl
 | .pair a b,d,c,h=>by
  obtain⟨c1,c2,rfl,h1,h2⟩:=h
  rw[AW,LF a _ _ h1,LF b _ _ h2];rfl
 | .vec n,_,c,h=>h.2.1
def Xc (P:Program) (L:List (Nat × List AV)) (p:Nat) (fv:AV) (t:Ty):Prop:=∀(d:t.D) (x:AV),RC t d [x]->t.wf d->Xd P L p fv x (t.enc d)
def Ng (P:Program) (L:List (Nat × List AV)) (p:Nat) (fv:AV) (t:Ty):Prop:=∀(d:t.D) (c:List AV),RC t d c->t.wf d->Xd P L p fv (.agg c) (t.enc d)
theorem Kv {t:Ty}{l:(Ty.list t).D}{v1:AV}(hr:RC (.list t) l [v1]):∃cs css,kV (Dd t) v1 cs (GA l).length/\cs=List.flatten css/\css.length=(GA l).length/\(∀x∈css,x.length=Dd t) /\
  ∀(i:Nat) (x:t.D) (y:List AV),(GA l)[i]?=some x->css[i]?=some y->RC t x y:=by
 obtain⟨v,cs,e,hf,css,h1,h2,h3⟩:=hr
 have e:v1=v:=by simpa using e
 subst e
 refine⟨cs,css,hf,h1,h2,fun x hx=>?_,h3⟩
 obtain⟨i,hi⟩:=DC hx
 have hlt:i<css.length:=by
  rcases CT i css.length with h | h
  ·exact h
  ·rw[BT h]at hi;cases hi
 exact LF t _ _ (h3 i _ x (Ab (by omega)) hi)
theorem Ep (h18:gS P){t:Ty}(hz:Dd t=1){L:List (Nat × List AV)}{H:AH}{p:Nat}{ro:Option Nat}{bs:List UInt8}{v1 fv:AV}{l:(Ty.list t).D}(hr:RC (.list t) l [v1]) (hw:(Ty.list t).wf l)
  (hW:Wr H p ro bs) (hL:Xe L p H ro) (hs:Xc P L p fv t) (hb:(bs++(Ty.list t).enc l).length<Nq):DZ P (.ptr p 0) v1 fv H (DW H p ro (bs++(Ty.list t).enc l)):=by
 obtain⟨cs,css,hf,h1,h2,h3,h4⟩:=Kv hr
 have he:(Ty.list t).enc l=Ba ((GA l).length:Int)++((GA l).map t.enc).flatten:=by
  show _++(GA l).flatMap t.enc=_
  rw[List.flatMap_def]
 rw[he]at hb ⊢
 rw[hz]at hf
 refine de h18 hf hw.1 (by simp) hW hL (fun i x o hx ho=>?_) hb
 rw[BU,AP]at ho
 obtain⟨d,hd,rfl⟩:=ho
 have hlt:i<(GA l).length:=by
  rcases CT i (GA l).length with h | h
  ·exact h
  ·rw[BT h]at hd;cases hd
 have hc:css[i]?=some (css[i]'(by omega)):=Ab (by omega)
 have hR:=h4 i d _ hd hc
 have hy:=Je css i _ h3 hc
 rw[hz,EU,<- h1]at hy
 have hx':[x]=css[i]'(by omega):=by
  rw[<- hy]
  have:cs.drop i=x::cs.drop (i+1):=by
   have hi:i<cs.length:=by
    rcases CT i cs.length with h | h
    ·exact h
    ·rw[BT h]at hx;cases hx
   rw[Gc hi]
   rw[Ab hi]at hx
   simp only[AD]at hx
   rw[hx]
  rw[this];rfl
 rw[<- hx']at hR
 exact hs d x hR (hw.2 d (CK hd))
theorem Eo (h18:gS P){t:Ty}{z:List AV}(hz:z.length=Dd t){L:List (Nat × List AV)}{H:AH}{p:Nat}{ro:Option Nat}{bs:List UInt8}{v1 fv:AV}{l:(Ty.list t).D}(hr:RC (.list t) l [v1]) (hw:(Ty.list t).wf l)
  (hW:Wr H p ro bs) (hL:Xe L p H ro) (hs:Ng P L p fv t) (hb:(bs++(Ty.list t).enc l).length<Nq):Xu P (Dd t) z (.ptr p 0) v1 fv H (DW H p ro (bs++(Ty.list t).enc l)):=by
 obtain⟨cs,css,hf,h1,h2,h3,h4⟩:=Kv hr
 have he:(Ty.list t).enc l=Ba ((GA l).length:Int)++((GA l).map t.enc).flatten:=by
  show _++(GA l).flatMap t.enc=_
  rw[List.flatMap_def]
 rw[he]at hb ⊢
 refine db h18 hz hf hw.1 (by simp) hW hL (fun i o ho=>?_) hb
 rw[BU,AP]at ho
 obtain⟨d,hd,rfl⟩:=ho
 have hlt:i<(GA l).length:=by
  rcases CT i (GA l).length with h | h
  ·exact h
  ·rw[BT h]at hd;cases hd
 have hc:css[i]?=some (css[i]'(by omega)):=Ab (by omega)
 have hR:=h4 i d _ hd hc
 have hy:=Je css i _ h3 hc
 rw[<- h1]at hy
 rw[hy]
 exact hs d _ hR (hw.2 d (CK hd))
end
section
open Co
variable [BQ] {P:Program}
structure St (H0:AH) (p:Nat) (ro0:Option Nat) (L:List (Nat × List AV)) (H:AH) (ro:Option Nat) (bs:List UInt8):Prop where
 w:Wr H p ro bs
 k:Xe L p H ro
 kw:GB H0 p ro0 H
 fr:ro=ro0\/∃r,ro=some r/\H0.next<=r
section
variable {H0 H:AH}{p:Nat}{ro0 ro:Option Nat}{L:List (Nat × List AV)}{bs bs':List UInt8}{Post:Al->AH->Prop}
theorem St.start (hW:Wr H p ro bs) (hL:Xe L p H ro):St H p ro L H ro bs:=⟨hW,hL,GB.refl _ _ _,.inl rfl⟩
theorem St.rk {H':AH}(h:St H0 p ro0 L H ro bs) (hk:C9 H H'):St H0 p ro0 L H' ro bs:=by
 refine⟨h.w.UT hk,h.k.UT hk,h.kw.trans (ro1:=ro) (fun r hr=>?_) (hk.w p ro),h.fr⟩
 rcases h.fr with e | ⟨r1,e1,e2⟩
 ·exact .inr (by rw[<- e,hr])
 ·rw[hr]at e1;cases e1;exact .inl e2
theorem St.push {c:List AV}(h:St H0 p ro0 L H ro bs):St H0 p ro0 ((H.next,c)::L) (H.push (.cells c)) ro bs:=by
 have h1:=h.rk (C9.push H (.cells c))
 refine⟨h1.w,fun x hx=>?_,h1.kw,h1.fr⟩
 cases hx with
 | head=>
  have hp:=h.w.vX
  refine⟨by simp,by show H.next≠p;omega,?_,by simp⟩
  have hw:=h.w
  cases hw with
  | nil _ _=>simp
  | row _ _ _ _ hrt=>simp only[ne_eq,AD];show H.next≠_;omega
 | tail _ hx=>exact h1.k x hx
theorem St.box {x:AV}{c:List AV}{K:AV->AH->Prop}(h:St H0 p ro0 L H ro bs) (hx:x.cellsOf=some c) (hK:∀H',St H0 p ro0 ((H.next,c)::L) H' ro bs->K (.ptr H.next 0) H'):AO (.box (.cst x)) H K:=
 XY hx (hK _ h.push)
theorem St.call {g:FuncId}{ar:List AV}{K:AV->AH->Prop}(h:St H0 p ro0 L H ro bs) (hC:AQ P g ar H (DW H p ro bs')) (hK:∀H' r',St H0 p ro0 L H' (some r') bs'->H0.next<=r'->K (.tup []) H'):AF P g ar H (yp Post) K:=by
 refine BA hC (fun v H' h'=>?_) (fun v H' h'=>h'.Bd)
 obtain⟨rfl,r',q1,q2,q3⟩:=h'.get
 have hn:=h.kw.nx
 refine hK H' r' ⟨q2,h.k.GJ q3 q1,h.kw.trans (ro1:=ro) (fun r hr=>?_) q3,.inr ⟨r',rfl,by omega⟩⟩ (by omega)
 rcases h.fr with e | ⟨r1,e1,e2⟩
 ·exact .inr (by rw[<- e,hr])
 ·rw[hr]at e1;cases e1;exact .inl e2
theorem St.fin {r:Nat}(h:St H0 p ro0 L H (some r) bs) (hr:H0.next<=r):DW H0 p ro0 bs (.ret (.tup [])) H:=.of r hr h.w h.kw
theorem St.ld {q o:Nat}{c:List AV}{x:AV}{K:AV->Prop}(h:St H0 p ro0 L H ro bs) (hm:(q,c)∈L) (hx:c[o]?=some x) (hK:K x):AG (.load none (.cst (.ptr q o))) H K:=by
 obtain⟨_,_,_,h4⟩:=h.k _ hm
 exact BG (v:=x) (by simpa[AY,BJ,AE.ev,AH.cells?,h4,apart]using hx) hK
end
def jV (P:Program) (g:FuncId) (t:Ty):Prop:=∀{H:AH}{p:Nat}{ro:Option Nat}{bs:List UInt8}{d:t.D}{x:AV},RC t d [x]->t.wf d->Wr H p ro bs->(bs++t.enc d).length<Nq->AQ P g [.ptr p 0,x] H (DW H p ro (bs++t.enc d))
theorem jV.step {g:FuncId}{t:Ty}(h:jV P g t) (L:List (Nat × List AV)) (p:Nat):Xc P L p (.fn (.func g) [.ptr p 0] []) t:=fun _ _ hR hw _ _ _ hW _ hb=>h hR hw hW hb
end
end Go.AL
namespace Go.Proofs.YtlmkmpomgdbjhaaGreatDoor
open Tryz
section
open Go Go.AL Go.AL.Co
variable [BQ]
theorem F18:MT prog 53 42 qY oH:=MT.mk' (fn:=f53) (hs:=[]) mix (by kernel_rfl) (by kernel_rfl) (by kernel_rfl) (by kernel_rfl) (by kernel_rfl) (by kernel_rfl)
theorem No:gS prog:=fun hn hW hb=>vw F18 hn hW hb
theorem wE:jV prog 53 .int:=fun{H p ro bs d x} hR hw hW hb=>by
 have hR:[x]=[.int .i64 d]:=hR
 cases hR
 exact No hw hW hb
theorem oP:jV prog 105 .bool:=fun{H p ro bs d x} hR _ hW hb=>by
 have hR:[x]=[.bool d]:=hR
 cases hR
 have:=K49 (H:=H) (p:=p) (ro:=ro) (bs:=bs) d hW (by simp only[AW]at hb;show _<Nq;omega)
 cases d<;>exact this
theorem uT:jV prog 112 .byte:=fun{H p ro bs d x} hR _ hW hb=>by
 have hR:[x]=[bv d]:=hR
 cases hR
 refine tM ?_
 unfold o_
 refine AA (v:=.ptr p 0) rfl (AA (v:=.ptr p 0) rfl (We hW ?_))
 refine Aq (v:=.sl H.next 0 1 (.ex 1)) (H':=H.push (.cells [bv d])) (by simp[BC,Bv,AE.ev,AV.cellsOf,bv,N]) ?_
 exact VJ hW (by simp only[AW]at hb;show _<Nq;omega) fun H' r' q1 q2 q3=>.of r' q1 q2 q3
theorem oQ:jV prog 55 BM:=fun{H p ro bs d x} hR hw hW hb=>by
 refine T55 ?_
 unfold xa
 refine(St.start (L:=[]) hW (fun _ h=>by cases h)).call (tI (?_:DZ prog (.ptr p 0) x (.fn (.func 53) [.ptr p 0] []) H _)) fun H' r' h' hr=>h'.fin hr
 exact Ep No rfl hR hw hW (fun _ h=>by cases h) (wE.step [] p) hb
theorem S62 {L:List (Nat × List AV)}{p q:Nat}(hq:(q,[AV.ptr p 0])∈L):Ng prog L p (.fn (.func 118) [] [.ptr q 0]) O9:=by
 intro d c hR hw H ro bs hW hL hb
 obtain⟨c1,c2,rfl,h1,h2⟩:=hR
 have h1:c1=[.int .i64 d.1]:=h1
 have h2:c2=[bv d.2]:=h2
 subst h1 h2
 have he:O9.enc d=Ba d.1++([(d.2:UInt8)]:List UInt8):=rfl
 rw[he]at hb ⊢
 refine tG ?_
 unfold o8
 refine(St.start hW hL).box rfl fun H1 s1=>?_
 refine s1.ld (.tail _ hq) rfl (AA (v:=.ptr H.next 0) rfl (s1.ld (.head _) rfl ?_))
 refine s1.call (No hw.1 s1.w (by simp only[AW]at hb ⊢;omega)) fun H2 r2 s2 _=>?_
 refine s2.ld (.tail _ hq) rfl (AA (v:=.ptr H.next 1) rfl (s2.ld (.head _) rfl ?_))
 refine s2.call (uT rfl trivial s2.w (by rw[Ar];exact hb)) fun H3 r3 s3 hr=>?_
 have:=s3.fin hr
 rw[Ar]at this;exact this
theorem qf:jV prog 61 CG:=fun{H p ro bs d x} hR hw hW hb=>by
 refine T61 ?_
 unfold xX
 refine(St.start (L:=[]) hW (fun _ h=>by cases h)).box rfl fun H1 s1=>?_
 refine s1.ld (.head _) rfl ?_
 refine s1.call (tH (?_:Xu prog 2 [(I 0),(N .u8 0)] (.ptr p 0) x (.fn (.func 118) [] [.ptr H.next 0]) H1 _)) fun H2 r2 s2 hr=>s2.fin hr
 exact Eo (t:=O9) No rfl hR hw s1.w s1.k (S62 (.head _)) hb
end
section
open Go Go.AL Go.AL.Co
variable [BQ]
theorem S58 {L:List (Nat × List AV)}{p q:Nat}(hq:(q,[AV.ptr p 0])∈L):Xc prog L p (.fn (.func 114) [] [.ptr q 0]) Ch:=by
 intro d x hR hw H ro bs hW hL hb
 refine tK ?_
 unfold o9
 have s0:=St.start hW hL
 refine s0.ld hq rfl (s0.ld hq rfl ?_)
 refine s0.call (tJ (?_:DZ prog (.ptr p 0) x (.fn (.func 112) [.ptr p 0] []) H _)) fun H2 r2 s2 hr=>s2.fin hr
 exact Ep No rfl hR hw hW hL (uT.step L p) hb
theorem S55 {L:List (Nat × List AV)}{p q:Nat}(hq:(q,[AV.ptr p 0])∈L):Ng prog L p (.fn (.func 111) [] [.ptr q 0]) Gd:=by
 intro d c hR hw H ro bs hW hL hb
 obtain⟨c1,c2,rfl,h1,h2⟩:=hR
 have h1:c1=[.bool d.1]:=h1
 have h2:c2=[bv d.2]:=h2
 subst h1 h2
 have he:Gd.enc d=Ty.bool.enc d.1++Ty.byte.enc d.2:=rfl
 rw[he]at hb ⊢
 refine tN ?_
 unfold pB
 refine(St.start hW hL).box rfl fun H1 s1=>?_
 refine s1.ld (.tail _ hq) rfl (AA (v:=.ptr H.next 0) rfl (s1.ld (.head _) rfl ?_))
 refine s1.call (oP (d:=d.1) rfl trivial s1.w (by simp only[AW]at hb ⊢;omega)) fun H2 r2 s2 _=>?_
 refine s2.ld (.tail _ hq) rfl (AA (v:=.ptr H.next 1) rfl (s2.ld (.head _) rfl ?_))
 refine s2.call (uT (d:=d.2) rfl trivial s2.w (by rw[Ar];exact hb)) fun H3 r3 s3 hr=>?_
 have:=s3.fin hr
 rw[Ar]at this;exact this
theorem td {L:List (Nat × List AV)}{p q:Nat}(hq:(q,[AV.ptr p 0])∈L):Ng prog L p (.fn (.func 109) [] [.ptr q 0]) DH:=by
 intro d c hR hw H ro bs hW hL hb
 obtain⟨c1,c2,rfl,h1,h2⟩:=hR
 have h1:c1=[.int .i64 d.1]:=h1
 obtain⟨v,hv⟩:∃v,c2=[v]:=by obtain⟨v,_,h,_⟩:=h2;exact⟨v,h⟩
 subst h1 hv
 have he:DH.enc d=Ty.int.enc d.1++(Ty.list Gd).enc d.2:=rfl
 rw[he]at hb ⊢
 refine tR ?_
 unfold pC
 refine(St.start hW hL).box rfl fun H1 s1=>?_
 refine s1.ld (.tail _ hq) rfl (AA (v:=.ptr H.next 0) rfl (s1.ld (.head _) rfl ?_))
 refine s1.call (wE (d:=d.1) rfl hw.1 s1.w (by simp only[AW]at hb ⊢;omega)) fun H2 r2 s2 _=>?_
 refine s2.ld (.tail _ hq) rfl (AA (v:=.ptr H.next 1) rfl (s2.ld (.head _) rfl ?_))
 refine s2.call (tO (?_:Xu prog 2 [(.bool false),(N .u8 0)] (.ptr p 0) v (.fn (.func 111) [] [.ptr q 0]) H2 (DW H2 p (some r2) (bs++Ty.int.enc d.1++(Ty.list Gd).enc d.2)))) fun H3 r3 s3 hr=>?_
 ·exact Eo (t:=Gd) No rfl h2 hw.2 s2.w s2.k (S55 (.tail _ hq)) (by rw[Ar];exact hb)
 ·have:=s3.fin hr
  rw[Ar]at this;exact this
theorem S51 {L:List (Nat × List AV)}{p q:Nat}(hq:(q,[AV.ptr p 0])∈L):Xc prog L p (.fn (.func 107) [] [.ptr q 0]) (.list DH):=by
 intro d x hR hw H ro bs hW hL hb
 refine tU ?_
 unfold pD
 have s0:=St.start hW hL
 refine s0.ld hq rfl ?_
 refine s0.call (tT (?_:Xu prog 2 [(I 0),.nils] (.ptr p 0) x (.fn (.func 109) [] [.ptr q 0]) H _)) fun H2 r2 s2 hr=>s2.fin hr
 exact Eo (t:=DH) No rfl hR hw hW hL (td hq) hb
theorem uH {L:List (Nat × List AV)}{p q:Nat}(hq:(q,[AV.ptr p 0])∈L):Ng prog L p (.fn (.func 60) [] [.ptr q 0]) IK:=by
 intro d c hR hw H ro bs hW hL hb
 obtain⟨c1,c2,rfl,h1,h2⟩:=hR
 obtain⟨v1,hv1⟩:∃v,c1=[v]:=by obtain⟨v,_,h,_⟩:=h1;exact⟨v,h⟩
 obtain⟨v2,hv2⟩:∃v,c2=[v]:=by obtain⟨v,_,h,_⟩:=h2;exact⟨v,h⟩
 subst hv1 hv2
 have he:IK.enc d=CG.enc d.1++CG.enc d.2:=rfl
 rw[he]at hb ⊢
 refine T60 ?_
 unfold xY
 refine(St.start hW hL).box rfl fun H1 s1=>?_
 refine s1.ld (.tail _ hq) rfl (AA (v:=.ptr H.next 0) rfl (s1.ld (.head _) rfl ?_))
 refine s1.call (qf (d:=d.1) h1 hw.1 s1.w (by simp only[AW]at hb ⊢;omega)) fun H2 r2 s2 _=>?_
 refine s2.ld (.tail _ hq) rfl (AA (v:=.ptr H.next 1) rfl (s2.ld (.head _) rfl ?_))
 refine s2.call (qf (d:=d.2) h2 hw.2 s2.w (by rw[Ar];exact hb)) fun H3 r3 s3 hr=>?_
 have:=s3.fin hr
 rw[Ar]at this;exact this
end
end Go.Proofs.YtlmkmpomgdbjhaaGreatDoor
