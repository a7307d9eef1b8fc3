import Derived.Test.YtlmkmpomgdbjhaaGreatDoorZa05
import Derived.Test.YtlmkmpomgdbjhaaGreatDoorProg
/-
  a part of the proof.
-/
set_option linter.unusedSectionVars false
set_option linter.unusedVariables false
set_option linter.unusedSimpArgs false
namespace Go.AL
noncomputable section
variable [BX]
def dM {α:Type} (n:Nat) (k:Nat->α):α:=Nat.rec (motive:=fun _=>α) (k 0) (fun m _=>k (Nat.succ m)) n
def cm (m i:Nat):Bool:=Nat.beq (Nat.land (Nat.shiftRight m i) 1) 1
def mB (a b:Nat):Bool:=Nat.beq (Nat.land a b) a
def iq (m i:Nat):Nat:=Nat.lor m (Nat.shiftLeft 1 i)
def mu (m i:Nat):Nat:=bif cm m i then Nat.sub m (Nat.shiftLeft 1 i)else m
def so (m:Nat) (d:Option Nat):Nat:=Option.rec (motive:=fun _=>Nat) m (fun d=>mu m d) d
def ck (n x:Nat):List Nat:=Nat.rec (motive:=fun _=>Nat->List Nat) (fun _=>[]) (fun _ ih i=>bif cm x i then i::ih (Nat.succ i)else ih (Nat.succ i)) n 0
def tJ:AK->Bool
 | .call .. | .store .. | .append .. | .copy .. | .JD .. | .panic .. | .recover | .defer .. | .mark .. | .appendZ .. | .makeMap | .mapUpd .. | .rangeM _ | .nextM _=>true
 | _=>false
def tL (ops:Array Oper) (n:Nat):List Nat:=
 Nat.rec (motive:=fun _=>List Nat) [] (fun n r=>dM (List.foldl (fun m p=>iq (Nat.lor m (List.getD r p 0)) p) 0 (LV ops n)) fun x=>r++[x]) n
abbrev IA:=Nat × Bool × Bool × Nat
def nN (P:Program):List Oper->List Nat->Nat->List IA
 | o::l,p::r,i=>dM i fun i=>Option.rec (motive:=fun _=>List IA) [] (fun k=>(i,tJ k,k.MS,p)::nN P l r (Nat.succ i)) (Dr P o)
 | _,_,_=>[]
abbrev HA:=Nat × Nat × List Nat × Bool
def aS {α:Type} (K:Nat->List (HA × Bool)->Bool->α):List IA->Nat->List (HA × Bool)->Bool->α
 | [],d,o,w=>K d o w
 | (i,e,m,p)::l,d,o,w=>bif !(cm d i)&&(!e&&mB p d)then dM (iq d i) fun d'=>aS K l d' (((i,p,[],false),m)::o) true else aS K l d o w
def gh (d:Nat):List IA->Option (Nat × Nat)
 | []=>none
 | (i,_,_,p)::l=>bif !(cm d i)&&mB p d then some (i,p)else gh d l
def flA (p:Nat) (o:List (HA × Bool)):List Nat:=((o.filter fun x=>x.2&&!(cm p x.1.1)).map (·.1.1)).reverse
def ik (its:List IA):Nat->Nat->List (HA × Bool)->List HA
 | 0,_,o=>(o.map (·.1)).reverse
 | f+1,d,o=>aS (fun d o w=>bif w then ik its f d o else Option.rec (motive:=fun _=>List HA) ((o.map (·.1)).reverse) (fun x=>dM (iq d x.1) fun d'=>ik its f d' (((x.1,x.2,flA x.2 o,true),false)::o)) (gh d its)) its d o false
def Hl (P:Program):Code->Hints
 | .region id ops true=>[(id,ik (nN P ops.toList (tL ops ops.size) 0) (2*ops.size+2) 0 [])]
 | .seq a b=>Hl P a++Hl P b
 | .cond _ a b=>Hl P a++Hl P b
 | .block _ a=>Hl P a
 | .loop a=>Hl P a
 | .scope a=>Hl P a
 | .rangeFunc _ _ a b=>Hl P a++Hl P b
 | _=>[]
def gN (ops:List A_) (out:Nat):Nat:=List.rec (motive:=fun _=>Nat) out (fun o _ s=>List.foldl iq (so s o.dst) o.tmps) ops
def gO (c:AF) (s:Nat):Nat:=match c with | .tmp t=>iq s t | _=>s
def Iz (q:Nat):Ax->Nat->(Nat->Nat)->Nat
 | .skip,out,_=>out
 | .reg ops,out,_=>gN ops out
 | .dreg pl,out,_=>gN (pl.map (·.o)) out
 | .seq a b,out,ex=>dM (Iz q b out ex) fun s=>Iz q a s ex
 | .cond c a b,out,ex=>gO c (Nat.lor (Iz q a out ex) (Iz q b out ex))
 | .block id a,out,ex=>Iz q a out fun i=>bif Nat.beq i id then out else ex i
 | .loop a,_,ex=>Iz q a 0 ex
 | .exit i,_,ex=>ex i
 | .ret,_,_=>q
 | .rng g ps a b,out,_=>gO g (Nat.lor out (List.foldl mu (dM (Iz q b 0 fun _=>0) fun s=>Iz q a s fun _=>0) ps))
def mh (ops:List A_):Bool:=ops.any fun o=>o.gd.isNone&&(match o.k with | .panic _=>true | _=>false)
def Tc:Ax->Bool × (Nat->Nat)
 | .skip=>(true,fun _=>0)
 | .reg ops=>(!mh ops,fun _=>0)
 | .dreg pl=>(!mh (pl.map (·.o)),fun _=>0)
 | .seq a b=>((Tc a).1&&(Tc b).1,fun id=>bif (Tc a).1 then Nat.add ((Tc a).2 id) ((Tc b).2 id)else(Tc a).2 id)
 | .cond _ a b=>((Tc a).1||(Tc b).1,fun id=>Nat.add ((Tc a).2 id) ((Tc b).2 id))
 | .block i a=>((Tc a).1||Nat.ble 1 ((Tc a).2 i),fun id=>bif Nat.beq i id then 0 else(Tc a).2 id)
 | .loop a=>(false,(Tc a).2)
 | .exit i=>(false,fun id=>bif Nat.beq i id then 1 else 0)
 | .ret=>(false,fun _=>0)
 | .rng _ _ _ _=>(true,fun _=>0)
def zO (b:Ax) (sm:Bool) (se:Nat->Bool):Bool:=match b with
 | .skip=>sm
 | .exit i=>se i
 | .ret=>true
 | _=>false
def OI (dp:Bool) (q n:Nat):Ax->Nat->(Nat->Nat)->Bool->(Nat->Bool)->HT
 | .seq a b,out,ex,sm,se=>.s (OI dp q n a (Iz q b out ex) ex (zO b sm se) se) (OI dp q n b out ex sm se)
 | .rng _ _ a b,_,_,_,_=>.s (OI dp q n a (Iz q b 0 fun _=>0) (fun _=>0) false (fun _=>false)) (OI dp q n b 0 (fun _=>0) true (fun _=>false))
 | .cond _ a b,out,ex,sm,se=>bif dp||(sm||!((Tc a).1&&(Tc b).1))then .i (OI dp q n a out ex sm se) (OI dp q n b out ex sm se)else .j (ck n out) (OI dp q n a out ex true se) (OI dp q n b out ex true se)
 | .block id a,out,ex,sm,se=>bif dp||(sm||Nat.ble (Nat.add ((Tc a).2 id) (bif (Tc a).1 then 1 else 0)) 1)then .i (OI dp q n a out (fun i=>bif Nat.beq i id then out else ex i) sm fun i=>bif Nat.beq i id then sm else se i) .l
  else .j (ck n out) (OI dp q n a out (fun i=>bif Nat.beq i id then out else ex i) true fun i=>bif Nat.beq i id then true else se i) .l
 | .loop a,_,ex,_,se=>dM (Iz q a 0 ex) fun x=>dM (Nat.lor x (Iz q a x ex)) fun x=>.j (ck n x) (OI dp q n a x ex true se) .l
 | _,_,_,_,_=>.l
def xJ (P:Program) (fn:Func):Hints:=Option.rec (motive:=fun _=>Hints) [] (fun c=>Hl P c) fn.body
def qA (P:Program) (fn:Func):List Cc:=Option.rec (motive:=fun _=>List Cc) [] (fun q=>q) (Gb P fn.results.toList)
def gv (P:Program) (fn:Func):Ax:=Ea P fn (xJ P fn) fn.ntmps
def xC (q:List Cc):Nat:=List.rec (motive:=fun _=>Nat) 0 (fun r _ s=>Cc.rec (motive:=fun _=>Nat) (fun t=>iq s t) (fun a _=>iq s a) r) q
def rV (P:Program) (fn:Func) (dp:Bool):HT:=OI dp (xC (qA P fn)) fn.ntmps (gv P fn) (xC (qA P fn)) (fun _=>0) true fun _=>true
def rS (fn:Func):Nat:=Nat.add fn.params.size fn.nfree
def lN (P:Program) (fn:Func):Bool:=!(fn.name=="runtime.NumGoroutine")&&((fn.body.bind (comp P (xJ P fn) fn.ntmps)).isSome&&((Gb P fn.results.toList).isSome&&(Nat.ble fn.ntmps AN&&Nat.ble (rS fn) fn.ntmps)))
def xI (P:Program) (fn:Func):GF:=jE (rS fn) (qA P fn) (gv P fn) (rV P fn false)
def Qz (P:Program) (fn:Func):Bool:=lN P fn&&(FV (gv P fn)&&XM (qA P fn))
section
variable {P:Program}{g:FuncId}{fn:Func}
theorem HY (hmix:P.follows .mixedOrders=true) (hf:P.funcs[g]?=some fn) (ho:lN P fn=true):Mh P g fn.ntmps (gv P fn) (qA P fn)/\Nat.ble (rS fn) fn.ntmps=true:=by
 simp only[lN,AS,E7]at ho
 obtain⟨h1,h2,h3,h4,h5⟩:=ho
 obtain⟨q,hq⟩:=FA.1 h3
 refine⟨gf hmix hf h1 rfl h2 ?_ h4,h5⟩
 unfold qA;rw[hq]
theorem sA (hmix:P.follows .mixedOrders=true) (hf:P.funcs[g]?=some fn) (ho:lN P fn=true){F:GF}(hF:F=xI P fn):Aw P g F:=
 V9 (HY hmix hf ho).1 (HY hmix hf ho).2 hF
theorem MH (ho:Qz P fn=true):lN P fn=true/\FV (gv P fn)=true/\XM (qA P fn)=true:=by
 simpa only[Qz,AS]using ho
def nM (its:ZJ) (P:Program) (fn:Func):GF:=bL its (rS fn) (qA P fn) (gv P fn) (rV P fn true)
theorem sD {its:ZJ}(hI:SJ P its) (hmix:P.follows .mixedOrders=true) (hf:P.funcs[g]?=some fn) (ho:Qz P fn=true):Aw P g (nM its P fn):=
 have h:=MH ho
 NZ (HY hmix hf h.1).1 hI h.2.1 h.2.2 (HY hmix hf h.1).2 rfl
def iU (its:ZJ) (P:Program) (ex:FuncId->Bool):OK:=fun g=>bif ex g then none else Option.rec (motive:=fun _=>Option GF) none (fun fn=>bif Qz P fn then some (nM its P fn)else none) P.funcs[g]?
theorem dx {its:ZJ}(hI:SJ P its) (hmix:P.follows .mixedOrders=true) (ex:FuncId->Bool):Kv P (iU its P ex):=fun g F h=>by
 unfold iU at h
 cases he:ex g with
 | true=>rw[he]at h;cases h
 | false=>
  rw[he]at h
  cases hf:P.funcs[g]? with
  | none=>rw[hf]at h;cases h
  | some fn=>
   rw[hf]at h
   have h:(bif Qz P fn then some (nM its P fn)else none)=some F:=h
   cases ho:Qz P fn with
   | false=>rw[ho]at h;cases h
   | true=>
    rw[ho]at h
    cases h
    have h:=MH ho
    exact NZ (HY hmix hf h.1).1 hI h.2.1 h.2.2 (HY hmix hf h.1).2 rfl
def iV (a b:OK):OK:=fun g=>Option.rec (motive:=fun _=>Option GF) (b g) (fun F=>some F) (a g)
theorem dz {a b:OK}(ha:Kv P a) (hb:Kv P b):Kv P (iV a b):=fun g F h=>by
 unfold iV at h
 cases hx:a g with
 | none=>rw[hx]at h;exact hb g F h
 | some F'=>rw[hx]at h;cases h;exact ha g _ hx
def xG (P:Program) (fn:Func) (ws:List AV) (H:AH) (Post:Am->AH->Prop):Prop:=aO P (qA P fn) (gv P fn) (rV P fn false) ws H Post
theorem pA (hmix:P.follows .mixedOrders=true) (hf:P.funcs[g]?=some fn) (ho:Qz P fn=true){ws:List AV}(hlen:Nat.ble ws.length fn.ntmps=true){H:AH}{Post:Am->AH->Prop}{G:Prop}(hG:G=xG P fn ws H Post) (h:G):AP P g ws H Post:=
 have k:=MH ho
 Pd (HY hmix hf k.1).1 k.2.1 k.2.2 hlen hG h
end
end
section
instance:Coe AV AF:=⟨.cst⟩
variable [BX]
theorem eP {P:Program}{g n:Nat}{q:List Cc}{ac:Ax}{t:HT}(hF:Mh P g n ac q) (ho:FV ac=true) (hq:XM q=true){caps:List AV}{N:Nat}{X:Nat->AH->List AV->Prop}{Cl:(Nat->AH->Prop)->Prop}{G:AH->AH->Prop}(hlen:Nat.ble (caps.length+1) n=true){H:AH}{D:Nat->(Nat->AH->Prop)->Prop}
  (hG:∀l I,D l I=@aO (Vb l N X G I) P q ac t (.fn (.yield l) [] []::caps) H (fun out H'=>(∃v,out=.ret v)/\I N H')) (h:∀l I,Cl I->I 0 H->D l I):NF P g caps H N X Cl G:=
 Vt hF ho hq hlen fun l I hCl hI=>Eq.mp (hG l I) (h l I hCl hI)
theorem XN {P:Program}{g:FuncId}{fn:Func}(hmix:P.follows .mixedOrders=true) (hf:P.funcs[g]?=some fn) (ho:Qz P fn=true){caps:List AV}{N:Nat}{X:Nat->AH->List AV->Prop}{Cl:(Nat->AH->Prop)->Prop}{G:AH->AH->Prop}(hlen:Nat.ble (caps.length+1) fn.ntmps=true){H:AH}{D:Nat->(Nat->AH->Prop)->Prop}
  (hD:∀l I,D l I=@aO (Vb l N X G I) P (qA P fn) (gv P fn) (rV P fn false) (.fn (.yield l) [] []::caps) H (fun out H'=>(∃v,out=.ret v)/\I N H')) (h:∀l I,Cl I->I 0 H->D l I):NF P g caps H N X Cl G:=
 have k:=MH ho
 eP (HY hmix hf k.1).1 k.2.1 k.2.2 hlen hD h
end
end Go.AL
namespace Go.Proofs.YtlmkmpomgdbjhaaGreatDoor
open Tryz
section
open Go Go.AL
theorem mix:prog.follows .mixedOrders=true:=by kernel_rfl
variable [BX]
theorem tP {g:FuncId}{fn:Func}{l:List AV}{h:AH}{Post:Am->AH->Prop}{G:Prop}(hf:prog.funcs[g]?=some fn) (ho:(Qz prog fn&&Nat.ble l.length fn.ntmps)=true) (hG:G=xG prog fn l h Post) (k:G):AP prog g l h Post:=by
  rw[AS]at ho
  exact pA mix hf ho.1 ho.2 hG k
def yu (W X:AV) (h:AH) (d:Am->AH->Prop):Prop:=(
 AQ (.box W) h fun Y Q=>
 AQ (.alloc (Bl 32 (N .u8 0) [])) Q fun Z R=>
 AQ (.alloc (Bl 64 (N .u8 0) [])) R fun v4 U=>
 AQ (.alloc (Bl 64 (N .u8 0) [])) U fun v5 V=>
 Ah [1,2,4,5,6,10] (fun O=>(fun(t u s l m a:AV) (e:AH)=>
 AB (.bin .lss a (I 64)) fun D=>
 AU D
 (AB (.bin .lss a (I 32)) fun n=>
 Qr n (fun(o c b p g i j q:AV) (f:AH)=>
 AB (.bin .xor j (N .u8 54)) fun r=>
 AB (.bin .xor j (N .u8 92)) fun E=>
 AB (.indexAddrA 64 1 p i) fun G=>
 AQ (.store 1 G r) f fun a3 B=>
 AB (.indexAddrA 64 1 g i) fun L=>
 AQ (.store 1 L E) B fun a4 C=>
 AB (.bin .add q (I 1)) fun M=>
 O o c b p g M C)
 (fun k=>AB (.indexAddrA 32 1 u a) fun c=>
 AE (.load none c) e fun b=>
 k t u s l m a b a e)
 (fun k=>k t u s l m a (N .u8 0) a e))
 (AB (.sliceA 64 1 l none none none) fun n=>
 AQ (.buildSlice 1 2 [.nils,.nils] [(0,1,n),(1,1,t)]) e fun o v=>
 AG prog 88 [o] v (yp d) fun c w=>
 AQ (.alloc (Bl 32 (N .u8 0) [])) w fun b x=>
 AQ (.store 32 b c) x fun p y=>
 AB (.sliceA 64 1 m none none none) fun g=>
 AB (.sliceA 32 1 b none none none) fun i=>
 Ny (.buildSlice 1 2 [.nils,.nils] [(0,1,g),(1,1,i)]) y fun j z=>
 AG prog 88 [j] z (yp d) fun q A=>
 AQ (.store 32 s q) A fun a2 f=>
 AE (.load (some 32) s) f fun r=>
 d (.ret r) f))) ((((((Ar.set 1 X).set 2 Y).set 4 Z).set 5 v4).set 6 v5).set 10 (I 0)) V)
theorem T43 {v0 v1 h Post}(hG:yu v0 v1 h Post):AP prog 43 [v0,v1] h Post:=tP func43 (by kernel_rfl) (by kernel_rfl) hG
def yt (k:AV) (h:AH) (b:Am->AH->Prop):Prop:=(
 AB (.len k) fun A=>
 Ah [0,3,9,10,11] (fun z=>(fun(l w x y m:AV) (j:AH)=>
 AB (.bin .lss m y) fun B=>
 AU B
 (AB (.indexAddrS 1 x m) fun f=>
 AE (.load none f) j fun g=>
 AB (.len g) fun q=>
 AB (.bin .add w q) fun a=>
 AB (.bin .lss a (I 0)) fun c=>
 AU c
 (CF (.ifc 9 (.str [108,101,110,32,111,117,116,32,111,102,32,114,97,110,103,101])) j (yp b))
 (AB (.bin .add m (I 1)) fun d=>
 z l a x y d j))
 (AG prog 89 [.nils,w] j (yp b) fun f o=>
 AB (.len l) fun g=>
 Ah [6,25,26,27] (fun n=>(fun(a c d i:AV) (e:AH)=>
 AB (.bin .lss i d) fun r=>
 AU r
 (AB (.indexAddrS 1 c i) fun s=>
 AE (.load none s) e fun t=>
 AQ (.append 1 1 a t) e fun u p=>
 AB (.bin .add i (I 1)) fun v=>
 n u c d v p)
 (b (.ret a) e))) ((((Ar.set 6 f).set 25 l).set 26 g).set 27 (I 0)) o))) (((((Ar.set 0 k).set 3 (I 0)).set 9 k).set 10 A).set 11 (I 0)) h)
theorem T44 {v0 h Post}(hG:yt v0 h Post):AP prog 44 [v0] h Post:=tP func44 (by kernel_rfl) (by kernel_rfl) hG
def yr (c:AV) (h:AH) (a:Am->AH->Prop):Prop:=(
 AQ (.box c) h fun d b=>
 a (.ret (.fn (.func 90) [] [d])) b)
theorem T45 {v0 h Post}(hG:yr v0 h Post):AP prog 45 [v0] h Post:=tP func45 (by kernel_rfl) (by kernel_rfl) hG
def v_ [YC] (M O Q R:AV) (h:AH) (b:Am->AH->Prop):Prop:=(
 AE (.load none O) h fun U=>
 AB (.len U) fun V=>
 Ah [0,2,3,8,9] (fun L=>(fun(W G X m e:AV) (d:AH)=>
 AB (.bin .lss e m) fun r=>
 AU r
 (AE (.load none G) d fun s=>
 AB (.len s) fun t=>
 Ah [0,2,3,5,8,9,13,14] (fun q=>(fun(f g i j n o p c:AV) (a:AH)=>
 AB (.bin .lss c p) fun u=>
 AU u
 (AB (.build [(I 0),(I 0)] [(0,1,j),(1,1,c)]) fun k=>
 AE (.load none i) a fun v=>
 AE (.load none g) a fun w=>
 AB (.len w) fun x=>
 AB (.bin .mul j x) fun y=>
 AB (.bin .add y c) fun z=>
 AB (.indexAddrS 1 v z) fun A=>
 AE (.load none A) a fun B=>
 DT prog f [k,B] a (yp b) fun C l=>
 AB (.un .not C) fun D=>
 AU D
 (b (.ret (.tup [])) l)
 (AB (.bin .add c (I 1)) fun E=>
 q f g i j n o p E l))
 (AB (.bin .add o (I 1)) fun k=>
 L f g i n k a))) ((((((((Ar.set 0 W).set 2 G).set 3 X).set 5 e).set 8 m).set 9 e).set 13 t).set 14 (I 0)) d)
 (b (.ret (.tup [])) d))) (((((Ar.set 0 M).set 2 Q).set 3 R).set 8 V).set 9 (I 0)) h)
theorem I70 {v1 v2 v3:AV}{N:Nat}{X:Nat->AH->List AV->Prop}{Cl:(Nat->AH->Prop)->Prop}{G:AH->AH->Prop}{H:AH}(h:∀l I,Cl I->I 0 H->@v_ (Vb l N X G I) (.fn (.yield l) [] []) v1 v2 v3 H fun out H'=>(∃v,out=.ret v)/\I N H'):NF prog 70 [v1,v2,v3] H N X Cl G:=
 XN (D:=fun l I=>@v_ (Vb l N X G I) (.fn (.yield l) [] []) v1 v2 v3 H fun out H'=>(∃v,out=.ret v)/\I N H') (fn:=f70) mix (by kernel_rfl) (by kernel_rfl) (by kernel_rfl) (fun l I=>by kernel_rfl) h
def vz [YC] (x y z:AV) (h:AH) (a:Am->AH->Prop):Prop:=(
 AE (.load none y) h fun A=>
 Ah [0,2,6,7] (fun w=>(fun(B u v n:AV) (m:AH)=>
 AB (.bin .lss n v) fun p=>
 AU p
 (AE (.load none u) m fun q=>
 Ah [0,2,4,6,7,10,11] (fun o=>(fun(b g i j k l c:AV) (e:AH)=>
 AB (.bin .lss c l) fun r=>
 AU r
 (DT prog b [i,c] e (yp a) fun d f=>
 AB (.un .not d) fun s=>
 AU s
 (a (.ret (.tup [])) f)
 (AB (.bin .add c (I 1)) fun t=>
 o b g i j k l t f))
 (AB (.bin .add k (I 1)) fun d=>
 w b g j d e))) (((((((Ar.set 0 B).set 2 u).set 4 n).set 6 v).set 7 n).set 10 q).set 11 (I 0)) m)
 (a (.ret (.tup [])) m))) ((((Ar.set 0 x).set 2 z).set 6 A).set 7 (I 0)) h)
theorem I84 {v1 v2:AV}{N:Nat}{X:Nat->AH->List AV->Prop}{Cl:(Nat->AH->Prop)->Prop}{G:AH->AH->Prop}{H:AH}(h:∀l I,Cl I->I 0 H->@vz (Vb l N X G I) (.fn (.yield l) [] []) v1 v2 H fun out H'=>(∃v,out=.ret v)/\I N H'):NF prog 84 [v1,v2] H N X Cl G:=
 XN (D:=fun l I=>@vz (Vb l N X G I) (.fn (.yield l) [] []) v1 v2 H fun out H'=>(∃v,out=.ret v)/\I N H') (fn:=f84) mix (by kernel_rfl) (by kernel_rfl) (by kernel_rfl) (fun l I=>by kernel_rfl) h
def yg (L:AV) (h:AH) (c:Am->AH->Prop):Prop:=(
 AQ (.alloc (Bl 32 (N .u8 0) [])) h fun M y=>
 AB (.build (Bl 8 (N .u32 0) []) [(0,1,(N .u32 1779033703)),(1,1,(N .u32 3144134277)),(2,1,(N .u32 1013904242)),(3,1,(N .u32 2773480762)),(4,1,(N .u32 1359893119)),(5,1,(N .u32 2600822924)),(6,1,(N .u32 528734635)),(7,1,(N .u32 1541459225))]) fun O=>
 AQ (.alloc (Bl 8 (N .u32 0) [])) y fun l z=>
 AQ (.store 8 l O) z fun V A=>
 AG prog 182 [L] A (yp c) fun Q B=>
 Tk prog Q B (fun(R:List AV) (E:AH) (w:AH->Prop)=>RB R fun m x6'=>Ww x6' (AG prog 183 [l,m] E SX fun g G=>
 w G)) fun C=>
 AQ (.alloc (Bl 32 (N .u8 0) [])) C fun m D=>
 Ah [2,3,5,13] (fun x=>(fun(g j d a:AV) (b:AH)=>
 AB (.bin .lss a (I 32)) fun o=>
 AU o
 (AB (.bin .quo a (I 4)) fun e=>
 AB (.indexAddrA 8 1 j e) fun k=>
 AE (.load none k) b fun f=>
 AB (.bin .rem a (I 4)) fun p=>
 AB (.bin .mul (I 8) p) fun q=>
 AB (.bin .sub (I 24) q) fun r=>
 AB (.bin .shr f r) fun s=>
 AB (.convI .u8 s) fun t=>
 AB (.indexAddrA 32 1 d a) fun u=>
 AQ (.store 1 u t) b fun U n=>
 AB (.bin .add a (I 1)) fun v=>
 x g j d v n)
 (AE (.load (some 32) d) b fun e=>
 AQ (.store 32 g e) b fun k i=>
 AE (.load (some 32) g) i fun f=>
 c (.ret f) i))) ((((Ar.set 2 M).set 3 l).set 5 m).set 13 (I 0)) D)
theorem T88 {v0 h Post}(hG:yg v0 h Post):AP prog 88 [v0] h Post:=tP func88 (by kernel_rfl) (by kernel_rfl) hG
def yf (a e:AV) (h:AH) (b:Am->AH->Prop):Prop:=(
 AB (.bin .lss e (I 0)) fun m=>
 AU m
 (CF (.ifc 9 (.str [99,97,110,110,111,116,32,98,101,32,110,101,103,97,116,105,118,101])) h (yp b))
 (AB (.cap a) fun n=>
 AB (.len a) fun o=>
 AB (.bin .sub n o) fun p=>
 AB (.bin .sub e p) fun k=>
 AB (.bin .gtr k (I 0)) fun q=>
 Qr q (fun(r:AV) (l:AH)=>
 b (.ret r) l)
 (fun c=>AB (.cap a) fun s=>
 AB (.sliceS 1 a none (some s) none) fun f=>
 AQ (.appendZ 1 1 [(N .u8 0)] f k) h fun g d=>
 AB (.len a) fun i=>
 AB (.sliceS 1 g none (some i) none) fun j=>
 c j d)
 (fun c=>c a h)))
theorem T89 {v0 v1 h Post}(hG:yf v0 v1 h Post):AP prog 89 [v0,v1] h Post:=tP func89 (by kernel_rfl) (by kernel_rfl) hG
def vw [YC] (q e:AV) (h:AH) (a:Am->AH->Prop):Prop:=(
 AE (.load none e) h fun r=>
 AB (.len r) fun s=>
 AB (.bin .sub s (I 1)) fun t=>
 Ah [0,1,3] (fun p=>(fun(n o c:AV) (b:AH)=>
 AB (.bin .geq c (I 0)) fun f=>
 AU f
 (AE (.load none o) b fun g=>
 AB (.indexAddrS 1 g c) fun i=>
 AE (.load none i) b fun j=>
 DT prog n [c,j] b (yp a) fun k d=>
 AB (.un .not k) fun l=>
 AU l
 (a (.ret (.tup [])) d)
 (AB (.bin .sub c (I 1)) fun m=>
 p n o m d))
 (a (.ret (.tup [])) b))) (((Ar.set 0 q).set 1 e).set 3 t) h)
theorem I90 {v1:AV}{N:Nat}{X:Nat->AH->List AV->Prop}{Cl:(Nat->AH->Prop)->Prop}{G:AH->AH->Prop}{H:AH}(h:∀l I,Cl I->I 0 H->@vw (Vb l N X G I) (.fn (.yield l) [] []) v1 H fun out H'=>(∃v,out=.ret v)/\I N H'):NF prog 90 [v1] H N X Cl G:=
 XN (D:=fun l I=>@vw (Vb l N X G I) (.fn (.yield l) [] []) v1 H fun out H'=>(∃v,out=.ret v)/\I N H') (fn:=f90) mix (by kernel_rfl) (by kernel_rfl) (by kernel_rfl) (fun l I=>by kernel_rfl) h
def pg (c:AV) (h:AH) (a:Am->AH->Prop):Prop:=(
 AQ (.box c) h fun d b=>
 a (.ret (.fn (.func 303) [] [d])) b)
theorem uM {v0 h Post}(hG:pg v0 h Post):AP prog 182 [v0] h Post:=tP func182 (by kernel_rfl) (by kernel_rfl) hG
def pf (v0 v1:AV) (h:AH) (c:Am->AH->Prop):Prop:=(
 AQ (.alloc (Bl 64 (N .u32 0) [])) h fun v2 h2=>
 Ah [0,1,4,17] (fun J3=>(fun(v4 v5 v6 W:AV) (h8:AH)=>
 AB (.bin .lss W (I 16)) fun v9=>
 AU v9
 (AB (.bin .mul (I 4) W) fun e6=>
 AB (.indexAddrS 1 v5 e6) fun G=>
 AE (.load none G) h8 fun l=>
 AB (.convI .u32 l) fun m=>
 AB (.bin .shl m (N .u64 24)) fun e7=>
 AB (.bin .mul (I 4) W) fun b8=>
 AB (.bin .add b8 (I 1)) fun L=>
 AB (.indexAddrS 1 v5 L) fun M=>
 AE (.load none M) h8 fun q=>
 AB (.convI .u32 q) fun Y=>
 AB (.bin .shl Y (N .u64 16)) fun O=>
 AB (.bin .or e7 O) fun Q=>
 AB (.bin .mul (I 4) W) fun A=>
 AB (.bin .add A (I 2)) fun B=>
 AB (.indexAddrS 1 v5 B) fun a=>
 AE (.load none a) h8 fun C=>
 AB (.convI .u32 C) fun r=>
 AB (.bin .shl r (N .u64 8)) fun b9=>
 AB (.bin .or Q b9) fun R=>
 AB (.bin .mul (I 4) W) fun U=>
 AB (.bin .add U (I 3)) fun f=>
 AB (.indexAddrS 1 v5 f) fun g=>
 AE (.load none g) h8 fun i=>
 AB (.convI .u32 i) fun V=>
 AB (.bin .or R V) fun s=>
 AB (.indexAddrA 64 1 v6 W) fun t=>
 AQ (.store 1 t s) h8 fun u e3=>
 AB (.bin .add W (I 1)) fun n=>
 J3 v4 v5 v6 n e3)
 (Ah [0,4,6] (fun d7=>(fun(G l m:AV) (E:AH)=>
 AB (.bin .lss m (I 64)) fun b8=>
 AU b8
 (AB (.bin .sub m (I 15)) fun L=>
 AB (.indexAddrA 64 1 l L) fun M=>
 AE (.load none M) E fun q=>
 AB (.bin .sub m (I 2)) fun Y=>
 AB (.indexAddrA 64 1 l Y) fun O=>
 AE (.load none O) E fun Q=>
 AG prog 304 [q,(.int .i64 (-7))] E (yp c) fun A e1=>
 AG prog 304 [q,(.int .i64 (-18))] e1 (yp c) fun B e2=>
 AB (.bin .xor A B) fun a=>
 AB (.bin .shr q (N .u64 3)) fun C=>
 AB (.bin .xor a C) fun r=>
 AG prog 304 [Q,(.int .i64 (-17))] e2 (yp c) fun b9 e=>
 AG prog 304 [Q,(.int .i64 (-19))] e (yp c) fun R b7=>
 AB (.bin .xor b9 R) fun U=>
 AB (.bin .shr Q (N .u64 10)) fun f=>
 AB (.bin .xor U f) fun g=>
 AB (.bin .sub m (I 16)) fun i=>
 AB (.indexAddrA 64 1 l i) fun V=>
 AE (.load none V) b7 fun s=>
 AB (.bin .add s r) fun t=>
 AB (.bin .sub m (I 7)) fun u=>
 AB (.indexAddrA 64 1 l u) fun n=>
 AE (.load none n) b7 fun v=>
 AB (.bin .add t v) fun w=>
 AB (.bin .add w g) fun x=>
 AB (.indexAddrA 64 1 l m) fun y=>
 AQ (.store 1 y x) b7 fun Z e4=>
 AB (.bin .add m (I 1)) fun z=>
 d7 G l z e4)
 (AB (.nilCheck G) fun L=>
 AE (.load (some 8) L) E fun M=>
 AQ (.alloc (Bl 8 (N .u32 0) [])) E fun q e0=>
 AQ (.store 8 q M) e0 fun Y c3=>
 AE (.gld (some 64) 0) c3 fun O=>
 Ah [0,4,11,102,103] (fun d8=>(fun(A B a C r:AV) (e:AH)=>
 AB (.bin .lss r (I 64)) fun R=>
 AU R
 (AB (.indexA 64 1 none C r) fun U=>
 AB (.indexAddrA 8 1 a (I 7)) fun f=>
 AE (.load none f) e fun g=>
 AB (.indexAddrA 8 1 a (I 4)) fun i=>
 AE (.load none i) e fun V=>
 AB (.indexAddrA 8 1 a (I 4)) fun s=>
 AE (.load none s) e fun t=>
 AB (.indexAddrA 8 1 a (I 4)) fun u=>
 AE (.load none u) e fun n=>
 AB (.indexAddrA 8 1 a (I 4)) fun v=>
 AE (.load none v) e fun w=>
 AB (.indexAddrA 8 1 a (I 5)) fun x=>
 AE (.load none x) e fun y=>
 AB (.bin .and w y) fun Z=>
 AB (.indexAddrA 8 1 a (I 4)) fun z=>
 AE (.load none z) e fun D=>
 AB (.un .xor D) fun e9=>
 AB (.indexAddrA 8 1 a (I 6)) fun a0=>
 AE (.load none a0) e fun a1=>
 AB (.bin .and e9 a1) fun f0=>
 AB (.bin .xor Z f0) fun f1=>
 AB (.indexAddrA 64 1 B r) fun a2=>
 AE (.load none a2) e fun a3=>
 AG prog 304 [V,(.int .i64 (-6))] e (yp c) fun f2 j=>
 (Ba (.load none a2) a3 j/\(Ba (.load none a0) a1 j/\(Ba (.load none z) D j/\(Ba (.load none x) y j/\(Ba (.load none v) w j/\(Ba (.load none u) n j/\(Ba (.load none s) t j/\(Ba (.load none f) g j/\True))))))))/\AG prog 304 [t,(.int .i64 (-11))] j (yp c) fun f3 o=>
 (Ba (.load none a2) a3 o/\(Ba (.load none a0) a1 o/\(Ba (.load none z) D o/\(Ba (.load none x) y o/\(Ba (.load none v) w o/\(Ba (.load none u) n o/\(Ba (.load none f) g o/\True)))))))/\AB (.bin .xor f2 f3) fun f4=>
 AG prog 304 [n,(.int .i64 (-25))] o (yp c) fun f5 b=>
 (Ba (.load none a2) a3 b/\(Ba (.load none a0) a1 b/\(Ba (.load none z) D b/\(Ba (.load none x) y b/\(Ba (.load none v) w b/\(Ba (.load none f) g b/\True))))))/\AB (.bin .xor f4 f5) fun f6=>
 AB (.bin .add g f6) fun f7=>
 AB (.bin .add f7 f1) fun f8=>
 AB (.bin .add f8 U) fun f9=>
 AB (.bin .add f9 a3) fun c4=>
 AB (.indexAddrA 8 1 a (I 0)) fun g0=>
 AE (.load none g0) b fun g1=>
 AB (.indexAddrA 8 1 a (I 0)) fun c5=>
 AE (.load none c5) b fun c6=>
 AB (.indexAddrA 8 1 a (I 0)) fun c1=>
 AE (.load none c1) b fun c2=>
 AB (.indexAddrA 8 1 a (I 0)) fun a4=>
 AE (.load none a4) b fun a5=>
 AB (.indexAddrA 8 1 a (I 1)) fun a6=>
 AE (.load none a6) b fun a7=>
 AB (.bin .and a5 a7) fun g2=>
 AB (.indexAddrA 8 1 a (I 0)) fun a8=>
 AE (.load none a8) b fun a9=>
 AB (.indexAddrA 8 1 a (I 2)) fun b0=>
 AE (.load none b0) b fun b1=>
 AB (.bin .and a9 b1) fun g3=>
 AB (.bin .xor g2 g3) fun g4=>
 AB (.indexAddrA 8 1 a (I 1)) fun b2=>
 AE (.load none b2) b fun b3=>
 AB (.indexAddrA 8 1 a (I 2)) fun b4=>
 AE (.load none b4) b fun b5=>
 AB (.bin .and b3 b5) fun g5=>
 AB (.bin .xor g4 g5) fun g6=>
 AG prog 304 [g1,(.int .i64 (-2))] b (yp c) fun g7 k=>
 (Ba (.load none b4) b5 k/\(Ba (.load none b2) b3 k/\(Ba (.load none b0) b1 k/\(Ba (.load none a8) a9 k/\(Ba (.load none a6) a7 k/\(Ba (.load none a4) a5 k/\(Ba (.load none c1) c2 k/\(Ba (.load none c5) c6 k/\True))))))))/\AG prog 304 [c6,(.int .i64 (-13))] k (yp c) fun g8 p=>
 (Ba (.load none b4) b5 p/\(Ba (.load none b2) b3 p/\(Ba (.load none b0) b1 p/\(Ba (.load none a8) a9 p/\(Ba (.load none a6) a7 p/\(Ba (.load none a4) a5 p/\(Ba (.load none c1) c2 p/\True)))))))/\AB (.bin .xor g7 g8) fun g9=>
 AG prog 304 [c2,(.int .i64 (-22))] p (yp c) fun i0 d=>
 (Ba (.load none b4) b5 d/\(Ba (.load none b2) b3 d/\(Ba (.load none b0) b1 d/\(Ba (.load none a8) a9 d/\(Ba (.load none a6) a7 d/\(Ba (.load none a4) a5 d/\True))))))/\AB (.bin .xor g9 i0) fun i1=>
 AB (.bin .add i1 g6) fun i2=>
 AB (.bin .add c4 i2) fun i3=>
 AB (.indexAddrA 8 1 a (I 0)) fun i4=>
 AE (.load none i4) d fun i5=>
 AB (.indexAddrA 8 1 a (I 1)) fun i6=>
 AE (.load none i6) d fun i7=>
 AB (.indexAddrA 8 1 a (I 2)) fun i8=>
 AE (.load none i8) d fun i9=>
 AB (.indexAddrA 8 1 a (I 3)) fun j0=>
 AE (.load none j0) d fun j1=>
 AB (.bin .add j1 c4) fun j2=>
 AB (.indexAddrA 8 1 a (I 4)) fun c8=>
 AE (.load none c8) d fun c9=>
 AB (.indexAddrA 8 1 a (I 5)) fun d0=>
 AE (.load none d0) d fun d1=>
 AB (.indexAddrA 8 1 a (I 6)) fun d2=>
 AE (.load none d2) d fun d3=>
 AB (.build (Bl 8 (N .u32 0) []) [(0,1,i3),(1,1,i5),(2,1,i7),(3,1,i9),(4,1,j2),(5,1,c9),(6,1,d1),(7,1,d3)]) fun d4=>
 AQ (.store 8 a d4) d fun j7 c7=>
 AB (.bin .add r (I 1)) fun d5=>
 d8 A B a C d5 c7)
 (Ah [0,11,190] (fun d9=>(fun(f g i:AV) (X:AH)=>
 AB (.bin .lss i (I 8)) fun s=>
 AU s
 (AB (.nilCheck f) fun t=>
 AB (.indexAddrA 8 1 t i) fun u=>
 AE (.load none u) X fun n=>
 AB (.indexAddrA 8 1 g i) fun v=>
 AE (.load none v) X fun w=>
 AB (.bin .add n w) fun x=>
 AB (.nilCheck f) fun y=>
 AB (.indexAddrA 8 1 y i) fun Z=>
 AQ (.store 1 Z x) X fun z e5=>
 AB (.bin .add i (I 1)) fun D=>
 d9 f g D e5)
 (c (.ret (.tup [])) X))) (((Ar.set 0 A).set 11 a).set 190 (I 0)) e))) (((((Ar.set 0 G).set 4 l).set 11 q).set 102 O).set 103 (I 0)) c3))) (((Ar.set 0 v4).set 4 v6).set 6 (I 16)) h8))) ((((Ar.set 0 v0).set 1 v1).set 4 v2).set 17 (I 0)) h2)
theorem uL {v0 v1 h Post}(hG:pf v0 v1 h Post):AP prog 183 [v0,v1] h Post:=tP func183 (by kernel_rfl) (by kernel_rfl) hG
def lF [YC] (v0 v1:AV) (h:AH) (c:Am->AH->Prop):Prop:=(
 AE (.load none v1) h fun M=>
 AB (.len M) fun v3=>
 Ah [0,3,4,8,9,10] (fun J4=>(fun(v5 v6 v7 v8 v9 l:AV) (k:AH)=>
 AB (.bin .lss l v9) fun E=>
 AU E
 (AB (.indexAddrS 1 v8 l) fun m=>
 AE (.load none m) k fun e=>
 AQ (.append 1 1 v6 e) k fun G A=>
 AB (.len e) fun f=>
 AB (.convI .u64 f) fun a=>
 AB (.bin .add v7 a) fun g=>
 AB (.bin .add l (I 1)) fun L=>
 J4 v5 G g v8 v9 L A)
 (AQ (.buildSlice 1 1 [(N .u8 0)] [(0,1,(N .u8 128))]) k fun m y=>
 AQ (.append 1 1 v6 m) y fun e z=>
 Ah [0,3,4] (fun v=>(fun(f a g:AV) (q:AH)=>
 AB (.len a) fun O=>
 AB (.bin .rem O (I 64)) fun Q=>
 AB (.bin .neq Q (I 56)) fun R=>
 AU R
 (AQ (.buildSlice 1 1 [(N .u8 0)] [(0,1,(N .u8 0))]) q fun U B=>
 AQ (.append 1 1 a U) B fun i C=>
 v f i g C)
 (Ah [0,3,4,7] (fun w=>(fun(i t u n:AV) (r:AH)=>
 AB (.bin .geq n (I 0)) fun V=>
 AU V
 (AB (.bin .mul (N .u64 8) u) fun W=>
 AB (.bin .shr W n) fun j=>
 AB (.convI .u8 j) fun b=>
 AQ (.buildSlice 1 1 [(N .u8 0)] [(0,1,b)]) r fun X d=>
 AQ (.append 1 1 t X) d fun o D=>
 AB (.bin .sub n (I 8)) fun p=>
 w i o u p D)
 (Ah [0,3] (fun x=>(fun(j b:AV) (d:AH)=>
 AB (.len b) fun o=>
 AB (.bin .gtr o (I 0)) fun p=>
 AU p
 (AB (.sliceS 1 b none (some (I 64)) none) fun Y=>
 DT prog j [Y] d (yp c) fun Z s=>
 AB (.un .not Z) fun a0=>
 AU a0
 (c (.ret (.tup [])) s)
 (AB (.sliceS 1 b (some (I 64)) none none) fun a1=>
 x j a1 s))
 (c (.ret (.tup [])) d))) ((Ar.set 0 i).set 3 t) r))) ((((Ar.set 0 f).set 3 a).set 4 g).set 7 (I 56)) q))) (((Ar.set 0 v5).set 3 e).set 4 v7) z))) ((((((Ar.set 0 v0).set 3 .nils).set 4 (N .u64 0)).set 8 M).set 9 v3).set 10 (I 0)) h)
theorem vo {v1:AV}{N:Nat}{X:Nat->AH->List AV->Prop}{Cl:(Nat->AH->Prop)->Prop}{G:AH->AH->Prop}{H:AH}(h:∀l I,Cl I->I 0 H->@lF (Vb l N X G I) (.fn (.yield l) [] []) v1 H fun out H'=>(∃v,out=.ret v)/\I N H'):NF prog 303 [v1] H N X Cl G:=
 XN (D:=fun l I=>@lF (Vb l N X G I) (.fn (.yield l) [] []) v1 H fun out H'=>(∃v,out=.ret v)/\I N H') (fn:=f303) mix (by kernel_rfl) (by kernel_rfl) (by kernel_rfl) (fun l I=>by kernel_rfl) h
def pU (b d:AV) (h:AH) (a:Am->AH->Prop):Prop:=(
 AB (.convI .u64 d) fun e=>
 AB (.bin .and e (N .u64 31)) fun c=>
 AB (.bin .shl b c) fun f=>
 AB (.bin .sub (N .u64 32) c) fun g=>
 AB (.bin .shr b g) fun i=>
 AB (.bin .or f i) fun j=>
 a (.ret j) h)
theorem tt {v0 v1 h Post}(hG:pU v0 v1 h Post):AP prog 304 [v0,v1] h Post:=tP func304 (by kernel_rfl) (by kernel_rfl) hG
end
section
open Go Go.AL
variable [BX]
def yw (i:AV) (h:AH) (a:Am->AH->Prop):Prop:=(
 AB (.build [.nils] []) fun j=>
 AQ (.box j) h fun k f=>
 AQ (.alloc [.nilp]) f fun b g=>
 AQ (.store 1 b k) g fun p d=>
 AE (.load none b) d fun l=>
 AG prog 51 [l,i,(.fn (.func 52) [] [b])] d (yp a) fun q c=>
 AE (.load none b) c fun m=>
 AB (.nilCheck m) fun n=>
 AB (.fieldAddr 0 n) fun o=>
 AE (.load none o) c fun e=>
 a (.ret e) c)
theorem T26 {v0 h Post}(hG:yw v0 h Post):AP prog 26 [v0] h Post:=tP func26 (by kernel_rfl) (by kernel_rfl) hG
def yv (f g:AV) (h:AH) (a:Am->AH->Prop):Prop:=(
 AB (.len f) fun t=>
 AB (.len g) fun u=>
 AB (.bin .neq t u) fun v=>
 AU v
 (a (.ret (.bool false)) h)
 (Ah [0,1,5] (fun s=>(fun(e r c:AV) (b:AH)=>
 AB (.len e) fun i=>
 AB (.bin .lss c i) fun j=>
 AU j
 (AB (.indexAddrS 27 e c) fun k=>
 AE (.load (some 27) k) b fun l=>
 AB (.indexAddrS 27 r c) fun m=>
 AE (.load (some 27) m) b fun n=>
 AG prog 64 [l,n] b (yp a) fun o d=>
 AB (.un .not o) fun p=>
 AU p
 (a (.ret (.bool false)) d)
 (AB (.bin .add c (I 1)) fun q=>
 s e r q d))
 (a (.ret (.bool true)) b))) (((Ar.set 0 f).set 1 g).set 5 (I 0)) h))
theorem T28 {v0 v1 h Post}(hG:yv v0 v1 h Post):AP prog 28 [v0,v1] h Post:=tP func28 (by kernel_rfl) (by kernel_rfl) hG
def G47 (n u:AV) (h:AH) (a:Am->AH->Prop):Prop:=(
 AG prog 91 [n] h (yp a) fun i b=>
 AB (.bin .lss i (I 0)) fun v=>
 AU v
 (AB (.build [(I 0)] [(0,1,(I 4))]) fun j=>
 CF (.ifc 139 j) b (yp a))
 (AB (.nilCheck n) fun j=>
 AB (.fieldAddr 0 j) fun w=>
 AE (.load none w) b fun x=>
 AB (.len x) fun y=>
 AB (.bin .gtr i y) fun z=>
 AU z
 (AB (.build [(I 0)] [(0,1,(I 5))]) fun A=>
 CF (.ifc 139 A) b (yp a))
 (Ah [1,6,22,23] (fun t=>(fun(d e f g:AV) (c:AH)=>
 AB (.bin .lss g f) fun o=>
 AU o
 (DT prog d [] c (yp a) fun p k=>
 AQ (.buildSlice 27 1 (Bl 5 (I 0) (Bl 6 .nils ((I 0)::(Bl 4 .nils (Bl 4 (I 0) ((.bool false)::((I 0)::((.bool false)::(Bl 4 .nils []))))))))) [(0,27,p)]) k fun q l=>
 AQ (.append 27 440 e q) l fun r m=>
 AB (.bin .add g (I 1)) fun s=>
 t d r f s m)
 (a (.ret e) c))) ((((Ar.set 1 u).set 6 .nils).set 22 i).set 23 (I 0)) b)))
theorem T47 {v0 v1 h Post}(hG:G47 v0 v1 h Post):AP prog 47 [v0,v1] h Post:=tP func47 (by kernel_rfl) (by kernel_rfl) hG
def yq (b:AV) (h:AH) (a:Am->AH->Prop):Prop:=(
 AQ (.alloc (Bl 5 (I 0) (Bl 6 .nils ((I 0)::(Bl 4 .nils (Bl 4 (I 0) ((.bool false)::((I 0)::((.bool false)::(Bl 4 .nils [])))))))))) h fun s O=>
 AG prog 91 [b] O (yp a) fun Y Q=>
 AB (.build (Bl 5 (I 0) (Bl 6 .nils ((I 0)::(Bl 4 .nils (Bl 4 (I 0) ((.bool false)::((I 0)::((.bool false)::(Bl 4 .nils []))))))))) [(0,1,Y)]) fun Z=>
 AQ (.alloc (Bl 5 (I 0) (Bl 6 .nils ((I 0)::(Bl 4 .nils (Bl 4 (I 0) ((.bool false)::((I 0)::((.bool false)::(Bl 4 .nils [])))))))))) Q fun c R=>
 AQ (.store 27 c Z) R fun v5 U=>
 AG prog 91 [b] U (yp a) fun v6 V=>
 AB (.fieldAddr 1 c) fun v7=>
 AQ (.store 1 v7 v6) V fun v8 W=>
 AG prog 91 [b] W (yp a) fun v9 X=>
 AB (.fieldAddr 2 c) fun t=>
 AQ (.store 1 t v9) X fun a3 f=>
 AG prog 91 [b] f (yp a) fun u g=>
 AB (.fieldAddr 3 c) fun v=>
 AQ (.store 1 v u) g fun a4 i=>
 AG prog 92 [b] i (yp a) fun w j=>
 AB (.fieldAddr 4 c) fun x=>
 AQ (.store 19 x w) j fun a5 k=>
 AG prog 93 [b] k (yp a) fun y l=>
 AB (.fieldAddr 23 c) fun z=>
 AQ (.store 1 z y) l fun a6 m=>
 AG prog 94 [b,(.fn (.func 93) [b] [])] m (yp a) fun A n=>
 AB (.fieldAddr 24 c) fun B=>
 AQ (.store 1 B A) n fun a7 o=>
 AG prog 95 [b,(.fn (.func 96) [b] [])] o (yp a) fun C p=>
 AB (.fieldAddr 25 c) fun D=>
 AQ (.store 1 D C) p fun a8 q=>
 AG prog 97 [b,(.fn (.func 98) [b] [])] q (yp a) fun E r=>
 AB (.fieldAddr 26 c) fun G=>
 AQ (.store 1 G E) r fun a9 d=>
 AE (.load (some 27) c) d fun L=>
 AQ (.store 27 s L) d fun b0 e=>
 AE (.load (some 27) s) e fun M=>
 a (.ret M) e)
theorem T48 {v0 h Post}(hG:yq v0 h Post):AP prog 48 [v0] h Post:=tP func48 (by kernel_rfl) (by kernel_rfl) hG
def G51 (t f u:AV) (h:AH) (a:Am->AH->Prop):Prop:=(
 AB (.len f) fun v=>
 AG prog 53 [t,v] h (yp a) fun z s=>
 AB (.len f) fun w=>
 Ah [2,12,13,14] (fun r=>(fun(o p q c:AV) (b:AH)=>
 AB (.bin .lss c q) fun j=>
 AU j
 (AB (.indexAddrS 27 p c) fun k=>
 AE (.load (some 27) k) b fun l=>
 AQ (.alloc (Bl 5 (I 0) (Bl 6 .nils ((I 0)::(Bl 4 .nils (Bl 4 (I 0) ((.bool false)::((I 0)::((.bool false)::(Bl 4 .nils [])))))))))) b fun e g=>
 AQ (.store 27 e l) g fun x d=>
 AE (.load (some 27) e) d fun m=>
 DT prog o [m] d (yp a) fun y i=>
 AB (.bin .add c (I 1)) fun n=>
 r o p q n i)
 (a (.ret (.tup [])) b))) ((((Ar.set 2 u).set 12 f).set 13 w).set 14 (I 0)) s)
theorem T51 {v0 v1 v2 h Post}(hG:G51 v0 v1 v2 h Post):AP prog 51 [v0,v1,v2] h Post:=tP func51 (by kernel_rfl) (by kernel_rfl) hG
def yo (V W:AV) (h:AH) (b:Am->AH->Prop):Prop:=(
 AQ (.box V) h fun l g=>
 AB (.fieldAddr 0 l) fun X=>
 AE (.load none X) g fun Y=>
 AB (.fieldAddr 1 l) fun Z=>
 AE (.load none Z) g fun v6=>
 AB (.fieldAddr 2 l) fun v7=>
 AE (.load none v7) g fun v8=>
 AB (.fieldAddr 3 l) fun v9=>
 AE (.load none v9) g fun w=>
 AQ (.buildSlice 1 4 (Bl 4 (I 0) []) [(0,1,Y),(1,1,v6),(2,1,v8),(3,1,w)]) g fun q u=>
 AB (.len q) fun x=>
 Ah [1,2,13,14,15] (fun t=>(fun(a d r s k:AV) (c:AH)=>
 AB (.bin .lss k s) fun y=>
 AU y
 (AB (.indexAddrS 1 r k) fun m=>
 AE (.load none m) c fun n=>
 AE (.load none a) c fun o=>
 AG prog 53 [o,n] c (yp b) fun z e=>
 AB (.bin .add k (I 1)) fun p=>
 t a d r s p e)
 (AE (.load none a) c fun m=>
 AB (.fieldAddr 4 d) fun n=>
 AE (.load (some 19) n) c fun o=>
 AG prog 54 [m,o] c (yp b) fun z e=>
 AE (.load none a) e fun p=>
 AB (.fieldAddr 23 d) fun A=>
 AE (.load none A) e fun B=>
 AG prog 55 [p,B] e (yp b) fun a4 f=>
 AE (.load none a) f fun C=>
 AB (.fieldAddr 24 d) fun D=>
 AE (.load none D) f fun E=>
 AE (.load none a) f fun G=>
 AG prog 56 [C,E,(.fn (.func 55) [G] [])] f (yp b) fun a5 i=>
 AE (.load none a) i fun L=>
 AB (.fieldAddr 25 d) fun M=>
 AE (.load none M) i fun O=>
 AG prog 57 [L,O,(.fn (.func 58) [] [a])] i (yp b) fun a6 j=>
 AE (.load none a) j fun Q=>
 AB (.fieldAddr 26 d) fun R=>
 AE (.load none R) j fun U=>
 AG prog 59 [Q,U,(.fn (.func 60) [] [a])] j (yp b) fun a7 v=>
 b (.ret (.tup [])) v))) (((((Ar.set 1 W).set 2 l).set 13 q).set 14 x).set 15 (I 0)) u)
theorem T52 {v0 v1 h Post}(hG:yo v0 v1 h Post):AP prog 52 [v0,v1] h Post:=tP func52 (by kernel_rfl) (by kernel_rfl) hG
def yn (v0 v1:AV) (h:AH) (a:Am->AH->Prop):Prop:=(
 AQ (.box v0) h fun b h2=>
 AQ (.box v1) h2 fun v3 V=>
 AB (.fieldAddr 0 v3) fun v4=>
 AE (.load (some 18) v4) V fun v5=>
 AQ (.alloc ((I 0)::(Bl 6 .nils ((I 0)::(Bl 4 .nils (Bl 4 (I 0) ((.bool false)::((I 0)::[])))))))) V fun c h6=>
 AQ (.store 18 c v5) h6 fun v7 L=>
 AE (.load none b) L fun v8=>
 AB (.fieldAddr 0 c) fun v9=>
 AE (.load none v9) L fun Y=>
 AG prog 53 [v8,Y] L (yp a) fun i3 n=>
 AE (.load none b) n fun Z=>
 AB (.fieldAddr 1 c) fun a0=>
 AE (.load none a0) n fun a1=>
 AG prog 61 [Z,a1] n (yp a) fun i4 o=>
 AE (.load none b) o fun a2=>
 AB (.fieldAddr 2 c) fun a3=>
 AE (.load none a3) o fun a4=>
 AG prog 61 [a2,a4] o (yp a) fun i5 i=>
 AE (.load none b) i fun a5=>
 AB (.fieldAddr 3 c) fun a6=>
 AB (.fieldAddr 0 a6) fun a7=>
 AE (.load none a7) i fun a8=>
 AE (.load none b) i fun a9=>
 AG prog 102 [a5,a8,(.fn (.func 103) [a9] [])] i (yp a) fun i6 j=>
 AE (.load none b) j fun b0=>
 AB (.fieldAddr 3 c) fun b1=>
 AB (.fieldAddr 1 b1) fun b2=>
 AE (.load none b2) j fun b3=>
 AE (.load none b) j fun b5=>
 AG prog 56 [b0,b3,(.fn (.func 55) [b5] [])] j (yp a) fun i7 k=>
 AE (.load none b) k fun b6=>
 AB (.fieldAddr 3 c) fun b7=>
 AB (.fieldAddr 2 b7) fun b8=>
 AE (.load none b8) k fun b9=>
 AE (.load none b) k fun c0=>
 AG prog 104 [b6,b9,(.fn (.func 105) [c0] [])] k (yp a) fun i8 p=>
 AE (.load none b) p fun c1=>
 AB (.fieldAddr 6 c) fun c2=>
 AB (.fieldAddr 0 c2) fun c3=>
 AE (.load none c3) p fun c4=>
 AG prog 55 [c1,c4] p (yp a) fun i9 q=>
 AE (.load none b) q fun c5=>
 AB (.fieldAddr 6 c) fun c6=>
 AB (.fieldAddr 1 c6) fun c7=>
 AE (.load none c7) q fun c8=>
 AG prog 53 [c5,c8] q (yp a) fun j0 l=>
 AE (.load none b) l fun c9=>
 AB (.fieldAddr 8 c) fun d0=>
 AB (.fieldAddr 0 d0) fun d1=>
 AE (.load none d1) l fun d2=>
 AE (.load none b) l fun d3=>
 AG prog 102 [c9,d2,(.fn (.func 103) [d3] [])] l (yp a) fun j1 r=>
 AE (.load none b) r fun d4=>
 AB (.fieldAddr 8 c) fun d5=>
 AB (.fieldAddr 1 d5) fun d6=>
 AE (.load none d6) r fun d7=>
 AG prog 106 [d4,d7,(.fn (.func 107) [] [b])] r (yp a) fun j2 m=>
 AE (.load none b) m fun d8=>
 AB (.fieldAddr 8 c) fun d9=>
 AB (.fieldAddr 2 d9) fun e0=>
 AE (.load none e0) m fun e1=>
 AE (.load none b) m fun e2=>
 AG prog 104 [d8,e1,(.fn (.func 105) [e2] [])] m (yp a) fun j3 s=>
 AE (.load none b) s fun e3=>
 AB (.fieldAddr 8 c) fun e4=>
 AB (.fieldAddr 3 e4) fun e5=>
 AE (.load none e5) s fun e6=>
 AG prog 113 [e3,e6,(.fn (.func 114) [] [b])] s (yp a) fun j4 e=>
 AB (.fieldAddr 12 c) fun e7=>
 AB (.fieldAddr 0 e7) fun e8=>
 AE (.load none e8) e fun e9=>
 AB (.fieldAddr 12 c) fun f0=>
 AB (.fieldAddr 1 f0) fun f1=>
 AE (.load none f1) e fun f2=>
 AB (.fieldAddr 12 c) fun f3=>
 AB (.fieldAddr 2 f3) fun f4=>
 AE (.load none f4) e fun f5=>
 AB (.fieldAddr 12 c) fun f6=>
 AB (.fieldAddr 3 f6) fun f7=>
 AE (.load none f7) e fun f8=>
 AQ (.buildSlice 1 4 (Bl 4 (I 0) []) [(0,1,e9),(1,1,f2),(2,1,f5),(3,1,f8)]) e fun z W=>
 AB (.len z) fun f9=>
 Ah [2,3,4,90,91,92] (fun U=>(fun(f A u B C v:AV) (d:AH)=>
 AB (.bin .lss v C) fun g0=>
 AU g0
 (AB (.indexAddrS 1 B v) fun w=>
 AE (.load none w) d fun x=>
 AE (.load none f) d fun y=>
 AG prog 53 [y,x] d (yp a) fun D X=>
 AB (.bin .add v (I 1)) fun E=>
 U f A u B C E X)
 (AE (.load none f) d fun w=>
 AB (.fieldAddr 12 u) fun x=>
 AB (.fieldAddr 4 x) fun y=>
 AE (.load none y) d fun D=>
 AG prog 105 [w,D] d (yp a) fun E t=>
 AE (.load none f) t fun g1=>
 AB (.fieldAddr 17 u) fun g2=>
 AE (.load none g2) t fun M=>
 AG prog 53 [g1,M] t (yp a) fun g7 g=>
 AE (.load none f) g fun O=>
 AB (.fieldAddr 18 A) fun Q=>
 AE (.load none Q) g fun R=>
 AG prog 105 [O,R] g (yp a) fun g8 G=>
 a (.ret (.tup [])) G))) ((((((Ar.set 2 b).set 3 v3).set 4 c).set 90 z).set 91 f9).set 92 (I 0)) W)
theorem T54 {v0 v1 h Post}(hG:yn v0 v1 h Post):AP prog 54 [v0,v1] h Post:=tP func54 (by kernel_rfl) (by kernel_rfl) hG
def ym (b d:AV) (h:AH) (a:Am->AH->Prop):Prop:=(
 AG prog 116 [b,d,(.fn (.func 53) [b] [])] h (yp a) fun e c=>
 a (.ret (.tup [])) c)
theorem T55 {v0 v1 h Post}(hG:ym v0 v1 h Post):AP prog 55 [v0,v1] h Post:=tP func55 (by kernel_rfl) (by kernel_rfl) hG
def G56 (p d q:AV) (h:AH) (a:Am->AH->Prop):Prop:=(
 AB (.len d) fun r=>
 AG prog 53 [p,r] h (yp a) fun u o=>
 AB (.len d) fun s=>
 Ah [2,12,13,14] (fun n=>(fun(k l m c:AV) (b:AH)=>
 AB (.bin .lss c m) fun f=>
 AU f
 (AB (.indexAddrS 1 l c) fun g=>
 AE (.load none g) b fun i=>
 DT prog k [i] b (yp a) fun t e=>
 AB (.bin .add c (I 1)) fun j=>
 n k l m j e)
 (a (.ret (.tup [])) b))) ((((Ar.set 2 q).set 12 d).set 13 s).set 14 (I 0)) o)
theorem xT {v0 v1 v2 h Post}(hG:G56 v0 v1 v2 h Post):AP prog 56 [v0,v1,v2] h Post:=tP func56 (by kernel_rfl) (by kernel_rfl) hG
def G57 (t f u:AV) (h:AH) (a:Am->AH->Prop):Prop:=(
 AB (.len f) fun v=>
 AG prog 53 [t,v] h (yp a) fun z s=>
 AB (.len f) fun w=>
 Ah [2,12,13,14] (fun r=>(fun(o p q c:AV) (b:AH)=>
 AB (.bin .lss c q) fun j=>
 AU j
 (AB (.indexAddrS 8 p c) fun k=>
 AE (.load (some 8) k) b fun l=>
 AQ (.alloc ((I 0)::(.nils::(Bl 6 (I 0) [])))) b fun e g=>
 AQ (.store 8 e l) g fun x d=>
 AE (.load (some 8) e) d fun m=>
 DT prog o [m] d (yp a) fun y i=>
 AB (.bin .add c (I 1)) fun n=>
 r o p q n i)
 (a (.ret (.tup [])) b))) ((((Ar.set 2 u).set 12 f).set 13 w).set 14 (I 0)) s)
theorem T57 {v0 v1 v2 h Post}(hG:G57 v0 v1 v2 h Post):AP prog 57 [v0,v1,v2] h Post:=tP func57 (by kernel_rfl) (by kernel_rfl) hG
def yk (O m:AV) (h:AH) (b:Am->AH->Prop):Prop:=(
 AQ (.box O) h fun c k=>
 AE (.load none m) k fun Q=>
 AB (.fieldAddr 0 c) fun R=>
 AE (.load none R) k fun U=>
 AG prog 53 [Q,U] k (yp b) fun v6 l=>
 AE (.load none m) l fun V=>
 AB (.fieldAddr 1 c) fun W=>
 AE (.load none W) l fun X=>
 AG prog 55 [V,X] l (yp b) fun Y a=>
 AB (.fieldAddr 2 c) fun q=>
 AE (.load none q) a fun r=>
 AB (.fieldAddr 3 c) fun s=>
 AE (.load none s) a fun t=>
 AB (.fieldAddr 4 c) fun u=>
 AE (.load none u) a fun v=>
 AB (.fieldAddr 5 c) fun w=>
 AE (.load none w) a fun x=>
 AB (.fieldAddr 6 c) fun y=>
 AE (.load none y) a fun z=>
 AB (.fieldAddr 7 c) fun A=>
 AE (.load none A) a fun B=>
 AQ (.buildSlice 1 6 (Bl 6 (I 0) []) [(0,1,r),(1,1,t),(2,1,v),(3,1,x),(4,1,z),(5,1,B)]) a fun f o=>
 AB (.len f) fun C=>
 Ah [1,25,26,27] (fun n=>(fun(g i j e:AV) (d:AH)=>
 AB (.bin .lss e j) fun D=>
 AU D
 (AB (.indexAddrS 1 i e) fun E=>
 AE (.load none E) d fun G=>
 AE (.load none g) d fun L=>
 AG prog 53 [L,G] d (yp b) fun Z p=>
 AB (.bin .add e (I 1)) fun M=>
 n g i j M p)
 (b (.ret (.tup [])) d))) ((((Ar.set 1 m).set 25 f).set 26 C).set 27 (I 0)) o)
theorem T58 {v0 v1 h Post}(hG:yk v0 v1 h Post):AP prog 58 [v0,v1] h Post:=tP func58 (by kernel_rfl) (by kernel_rfl) hG
def G59 (t f u:AV) (h:AH) (a:Am->AH->Prop):Prop:=(
 AB (.len f) fun v=>
 AG prog 53 [t,v] h (yp a) fun z s=>
 AB (.len f) fun w=>
 Ah [2,12,13,14] (fun r=>(fun(o p q c:AV) (b:AH)=>
 AB (.bin .lss c q) fun j=>
 AU j
 (AB (.indexAddrS 2 p c) fun k=>
 AE (.load (some 2) k) b fun l=>
 AQ (.alloc [.nils,.nils]) b fun e g=>
 AQ (.store 2 e l) g fun x d=>
 AE (.load (some 2) e) d fun m=>
 DT prog o [m] d (yp a) fun y i=>
 AB (.bin .add c (I 1)) fun n=>
 r o p q n i)
 (a (.ret (.tup [])) b))) ((((Ar.set 2 u).set 12 f).set 13 w).set 14 (I 0)) s)
theorem T59 {v0 v1 v2 h Post}(hG:G59 v0 v1 v2 h Post):AP prog 59 [v0,v1,v2] h Post:=tP func59 (by kernel_rfl) (by kernel_rfl) hG
def yj (g e:AV) (h:AH) (a:Am->AH->Prop):Prop:=(
 AQ (.box g) h fun f b=>
 AE (.load none e) b fun i=>
 AB (.fieldAddr 0 f) fun j=>
 AE (.load none j) b fun k=>
 AG prog 61 [i,k] b (yp a) fun p c=>
 AE (.load none e) c fun l=>
 AB (.fieldAddr 1 f) fun m=>
 AE (.load none m) c fun n=>
 AG prog 61 [l,n] c (yp a) fun o d=>
 a (.ret (.tup [])) d)
theorem T60 {v0 v1 h Post}(hG:yj v0 v1 h Post):AP prog 60 [v0,v1] h Post:=tP func60 (by kernel_rfl) (by kernel_rfl) hG
def yi (e f:AV) (h:AH) (a:Am->AH->Prop):Prop:=(
 AQ (.box e) h fun c b=>
 AE (.load none c) b fun g=>
 AG prog 117 [g,f,(.fn (.func 118) [] [c])] b (yp a) fun i d=>
 a (.ret (.tup [])) d)
theorem T61 {v0 v1 h Post}(hG:yi v0 v1 h Post):AP prog 61 [v0,v1] h Post:=tP func61 (by kernel_rfl) (by kernel_rfl) hG
def yh (v0 v1:AV) (h:AH) (a:Am->AH->Prop):Prop:=(
 AQ (.box v0) h fun f h2=>
 AQ (.box v1) h2 fun g t=>
 AB (.fieldAddr 0 f) fun v4=>
 AE (.load none v4) t fun v5=>
 AB (.fieldAddr 0 g) fun v6=>
 AE (.load none v6) t fun v7=>
 AB (.bin .eql v5 v7) fun v8=>
 BF true v8 (fun(v9 C D E l:AV) (i:AH)=>
 AB (.pick v8 l (.cst (.bool false))) fun a9=>
 BF true a9 (fun(d4 G L M m:AV) (j:AH)=>
 AB (.pick a9 m (.cst (.bool false))) fun b0=>
 BF true b0 (fun(d5 O Q R n:AV) (k:AH)=>
 AB (.pick b0 n (.cst (.bool false))) fun b1=>
 BF true b1 (fun(d6 U V W o:AV) (b:AH)=>
 AB (.pick b1 o (.cst (.bool false))) fun b2=>
 BF true b2 (fun(d7 X Y Z p:AV) (c:AH)=>
 AB (.pick b2 p (.cst (.bool false))) fun b3=>
 BF true b3 (fun(d8 a0 a1 a2 q:AV) (d:AH)=>
 AB (.pick b3 q (.cst (.bool false))) fun b4=>
 BF true b4 (fun(d9 a3 a4 a5 r:AV) (e:AH)=>
 AB (.pick b4 r (.cst (.bool false))) fun b5=>
 BF true b5 (fun(e0 a6 a7 a8 s:AV) (B:AH)=>
 AB (.pick b5 s (.cst (.bool false))) fun c5=>
 a (.ret c5) B) (fun A=>
 AB (.fieldAddr 26 f) fun a6=>
 AE (.load none a6) e fun a7=>
 AB (.fieldAddr 26 g) fun a8=>
 AE (.load none a8) e fun s=>
 AG prog 129 [a7,s] e (yp a) fun c4 B=>
 A a6 a7 a8 s c4 B) (fun A=>A Ad Ad Ad Ad Ad e)) (fun z=>
 AB (.fieldAddr 25 f) fun a3=>
 AE (.load none a3) d fun a4=>
 AB (.fieldAddr 25 g) fun a5=>
 AE (.load none a5) d fun r=>
 AG prog 128 [a4,r] d (yp a) fun c3 e=>
 z a3 a4 a5 r c3 e) (fun z=>z Ad Ad Ad Ad Ad d)) (fun y=>
 AB (.fieldAddr 24 f) fun a0=>
 AE (.load none a0) c fun a1=>
 AB (.fieldAddr 24 g) fun a2=>
 AE (.load none a2) c fun q=>
 AG prog 127 [a1,q] c (yp a) fun c2 d=>
 y a0 a1 a2 q c2 d) (fun y=>y Ad Ad Ad Ad Ad c)) (fun x=>
 AB (.fieldAddr 23 f) fun X=>
 AE (.load none X) b fun Y=>
 AB (.fieldAddr 23 g) fun Z=>
 AE (.load none Z) b fun p=>
 AG prog 126 [Y,p] b (yp a) fun c1 c=>
 x X Y Z p c1 c) (fun x=>x Ad Ad Ad Ad Ad b)) (fun w=>
 AB (.fieldAddr 4 f) fun U=>
 AE (.load (some 19) U) k fun V=>
 AB (.fieldAddr 4 g) fun W=>
 AE (.load (some 19) W) k fun o=>
 AG prog 125 [V,o] k (yp a) fun c0 b=>
 w U V W o c0 b) (fun w=>w Ad Ad Ad Ad Ad k)) (fun v=>
 AB (.fieldAddr 3 f) fun O=>
 AE (.load none O) j fun Q=>
 AB (.fieldAddr 3 g) fun R=>
 AE (.load none R) j fun n=>
 AB (.bin .eql Q n) fun b9=>
 v O Q R n b9 j) (fun v=>v Ad Ad Ad Ad Ad j)) (fun u=>
 AB (.fieldAddr 2 f) fun G=>
 AE (.load none G) i fun L=>
 AB (.fieldAddr 2 g) fun M=>
 AE (.load none M) i fun m=>
 AB (.bin .eql L m) fun b8=>
 u G L M m b8 i) (fun u=>u Ad Ad Ad Ad Ad i)) (fun J9=>
 AB (.fieldAddr 1 f) fun C=>
 AE (.load none C) t fun D=>
 AB (.fieldAddr 1 g) fun E=>
 AE (.load none E) t fun l=>
 AB (.bin .eql D l) fun b7=>
 J9 C D E l b7 t) (fun J9=>J9 Ad Ad Ad Ad Ad t))
theorem T64 {v0 v1 h Post}(hG:yh v0 v1 h Post):AP prog 64 [v0,v1] h Post:=tP func64 (by kernel_rfl) (by kernel_rfl) hG
def ye (R:AV) (h:AH) (a:Am->AH->Prop):Prop:=(
 Ah [0,3,4] (fun O=>(fun(y U p:AV) (Q:AH)=>
 AG prog 184 [y] Q (yp a) fun d w=>
 AB (.bin .eql p (I 9)) fun M=>
 BF true M (fun(X v:AV) (q:AH)=>
 AB (.pick M v (.cst (.bool false))) fun i=>
 BF false i (fun(V j t:AV) (r:AH)=>
 BF true t (fun(W k:AV) (s:AH)=>
 BF false i (fun(x:AV) (b:AH)=>
 AB (.pick i (.cst (.bool true)) x) fun A=>
 AU A
 (AB (.build [(I 0)] [(0,1,(I 4))]) fun l=>
 CF (.ifc 139 l) b (yp a))
 (AB (.bin .and d (N .u8 127)) fun l=>
 AB (.convI .u64 l) fun B=>
 AB (.bin .mul (I 7) p) fun C=>
 AB (.bin .shl B C) fun D=>
 AB (.bin .or U D) fun c=>
 AB (.bin .lss d (N .u8 128)) fun E=>
 AU E
 (AB (.bin .and c (N .u64 1)) fun m=>
 AB (.bin .eql m (N .u64 1)) fun G=>
 AU G
 (AB (.bin .shr c (N .u64 1)) fun n=>
 AB (.convI .i64 n) fun o=>
 AB (.un .xor o) fun L=>
 a (.ret L) b)
 (AB (.bin .shr c (N .u64 1)) fun n=>
 AB (.convI .i64 n) fun o=>
 a (.ret o) b))
 (AB (.bin .add p (I 1)) fun m=>
 O y c m b))) (fun g=>
 AB (.pick t k (.cst (.bool false))) fun z=>
 g z s) (fun g=>g Ad s)) (fun f=>
 AB (.bin .eql d (N .u8 0)) fun k=>
 f d k r) (fun f=>f Ad Ad r)) (fun e=>
 AB (.bin .gtr p (I 0)) fun j=>
 e p j j q) (fun e=>e Ad Ad Ad q)) (fun u=>
 AB (.bin .gtr d (N .u8 1)) fun v=>
 u d v w) (fun u=>u Ad Ad w))) (((Ar.set 0 R).set 3 (N .u64 0)).set 4 (I 0)) h)
theorem T91 {v0 h Post}(hG:ye v0 h Post):AP prog 91 [v0] h Post:=tP func91 (by kernel_rfl) (by kernel_rfl) hG
def yd (v0:AV) (h:AH) (a:Am->AH->Prop):Prop:=(
 AQ (.box v0) h fun b h1=>
 AQ (.alloc ((I 0)::(Bl 6 .nils ((I 0)::(Bl 4 .nils (Bl 4 (I 0) ((.bool false)::((I 0)::((.bool false)::[]))))))))) h1 fun v2 h2=>
 AQ (.alloc ((I 0)::(Bl 6 .nils ((I 0)::(Bl 4 .nils (Bl 4 (I 0) ((.bool false)::((I 0)::((.bool false)::[]))))))))) h2 fun Z h3=>
 AB (.fieldAddr 0 Z) fun c=>
 AE (.load none b) h3 fun v5=>
 AG prog 91 [v5] h3 (yp a) fun v6 h6=>
 AB (.nilCheck c) fun v7=>
 AB (.fieldAddr 0 v7) fun v8=>
 AQ (.store 1 v8 v6) h6 fun v9 h9=>
 AE (.load none b) h9 fun b7=>
 AG prog 185 [b7] h9 (yp a) fun b8 a0=>
 AB (.nilCheck c) fun b9=>
 AB (.fieldAddr 1 b9) fun c0=>
 AQ (.store 1 c0 b8) a0 fun l7 o=>
 AE (.load none b) o fun c1=>
 AG prog 185 [c1] o (yp a) fun c2 a1=>
 AB (.nilCheck c) fun c3=>
 AB (.fieldAddr 2 c3) fun c4=>
 AQ (.store 1 c4 c2) a1 fun l8 j=>
 AE (.load none b) j fun c6=>
 AE (.load none b) j fun c7=>
 AG prog 186 [c6,(.fn (.func 187) [c7] [])] j (yp a) fun c8 a2=>
 AB (.nilCheck c) fun c9=>
 AB (.fieldAddr 3 c9) fun d0=>
 AB (.fieldAddr 0 d0) fun d1=>
 AQ (.store 1 d1 c8) a2 fun l9 k=>
 AE (.load none b) k fun d2=>
 AE (.load none b) k fun d3=>
 AG prog 94 [d2,(.fn (.func 93) [d3] [])] k (yp a) fun d4 a3=>
 AB (.nilCheck c) fun d5=>
 AB (.fieldAddr 3 d5) fun d6=>
 AB (.fieldAddr 1 d6) fun d7=>
 AQ (.store 1 d7 d4) a3 fun m0 l=>
 AE (.load none b) l fun d8=>
 AE (.load none b) l fun d9=>
 AG prog 188 [d8,(.fn (.func 189) [d9] [])] l (yp a) fun e0 a5=>
 AB (.nilCheck c) fun e1=>
 AB (.fieldAddr 3 e1) fun e2=>
 AB (.fieldAddr 2 e2) fun e3=>
 AQ (.store 1 e3 e0) a5 fun m1 p=>
 AE (.load none b) p fun e4=>
 AG prog 93 [e4] p (yp a) fun e5 a6=>
 AB (.nilCheck c) fun e6=>
 AB (.fieldAddr 6 e6) fun e7=>
 AB (.fieldAddr 0 e7) fun e8=>
 AQ (.store 1 e8 e5) a6 fun m2 q=>
 AE (.load none b) q fun e9=>
 AG prog 91 [e9] q (yp a) fun f0 a7=>
 AB (.nilCheck c) fun f1=>
 AB (.fieldAddr 6 f1) fun f2=>
 AB (.fieldAddr 1 f2) fun f3=>
 AQ (.store 1 f3 f0) a7 fun m3 m=>
 AE (.load none b) m fun f4=>
 AE (.load none b) m fun f5=>
 AG prog 186 [f4,(.fn (.func 187) [f5] [])] m (yp a) fun f6 a8=>
 AB (.nilCheck c) fun f7=>
 AB (.fieldAddr 8 f7) fun f8=>
 AB (.fieldAddr 0 f8) fun f9=>
 AQ (.store 1 f9 f6) a8 fun m4 r=>
 AE (.load none b) r fun g0=>
 AG prog 190 [g0,(.fn (.func 191) [] [b])] r (yp a) fun g1 a9=>
 AB (.nilCheck c) fun g2=>
 AB (.fieldAddr 8 g2) fun g3=>
 AB (.fieldAddr 1 g3) fun g4=>
 AQ (.store 1 g4 g1) a9 fun m5 n=>
 AE (.load none b) n fun g5=>
 AE (.load none b) n fun g6=>
 AG prog 188 [g5,(.fn (.func 189) [g6] [])] n (yp a) fun g7 b0=>
 AB (.nilCheck c) fun g8=>
 AB (.fieldAddr 8 g8) fun g9=>
 AB (.fieldAddr 2 g9) fun i0=>
 AQ (.store 1 i0 g7) b0 fun m6 s=>
 AE (.load none b) s fun i1=>
 AG prog 194 [i1,(.fn (.func 195) [] [b])] s (yp a) fun i2 b1=>
 AB (.nilCheck c) fun i3=>
 AB (.fieldAddr 8 i3) fun i4=>
 AB (.fieldAddr 3 i4) fun i5=>
 AQ (.store 1 i5 i2) b1 fun m7 t=>
 AE (.load none b) t fun i6=>
 AG prog 91 [i6] t (yp a) fun i7 b2=>
 AB (.nilCheck c) fun i8=>
 AB (.fieldAddr 12 i8) fun i9=>
 AB (.fieldAddr 0 i9) fun j0=>
 AQ (.store 1 j0 i7) b2 fun m8 u=>
 AE (.load none b) u fun j1=>
 AG prog 91 [j1] u (yp a) fun j2 b3=>
 AB (.nilCheck c) fun j3=>
 AB (.fieldAddr 12 j3) fun j4=>
 AB (.fieldAddr 1 j4) fun j5=>
 AQ (.store 1 j5 j2) b3 fun m9 v=>
 AE (.load none b) v fun j6=>
 AG prog 91 [j6] v (yp a) fun j7 b5=>
 AB (.nilCheck c) fun j8=>
 AB (.fieldAddr 12 j8) fun j9=>
 AB (.fieldAddr 2 j9) fun k0=>
 AQ (.store 1 k0 j7) b5 fun n0 w=>
 AE (.load none b) w fun k1=>
 AG prog 91 [k1] w (yp a) fun k2 b6=>
 AB (.nilCheck c) fun k3=>
 AB (.fieldAddr 12 k3) fun A=>
 AB (.fieldAddr 3 A) fun B=>
 AQ (.store 1 B k2) b6 fun k8 d=>
 AE (.load none b) d fun C=>
 AG prog 189 [C] d (yp a) fun D x=>
 AB (.nilCheck c) fun E=>
 AB (.fieldAddr 12 E) fun G=>
 AB (.fieldAddr 4 G) fun L=>
 AQ (.store 1 L D) x fun k9 e=>
 AE (.load none b) e fun M=>
 AG prog 91 [M] e (yp a) fun O y=>
 AB (.nilCheck c) fun Q=>
 AB (.fieldAddr 17 Q) fun R=>
 AQ (.store 1 R O) y fun l0 f=>
 AE (.load none b) f fun U=>
 AG prog 189 [U] f (yp a) fun V z=>
 AB (.fieldAddr 18 Z) fun W=>
 AQ (.store 1 W V) z fun l1 g=>
 AE (.load (some 19) Z) g fun X=>
 AQ (.store 19 v2 X) g fun l2 i=>
 AE (.load (some 19) v2) i fun Y=>
 a (.ret Y) i)
theorem T92 {v0 h Post}(hG:yd v0 h Post):AP prog 92 [v0] h Post:=tP func92 (by kernel_rfl) (by kernel_rfl) hG
def yc (b:AV) (h:AH) (a:Am->AH->Prop):Prop:=(
 AG prog 197 [b,(.fn (.func 91) [b] [])] h (yp a) fun d c=>
 a (.ret d) c)
theorem T93 {v0 h Post}(hG:yc v0 h Post):AP prog 93 [v0] h Post:=tP func93 (by kernel_rfl) (by kernel_rfl) hG
def G94 (n u:AV) (h:AH) (a:Am->AH->Prop):Prop:=(
 AG prog 91 [n] h (yp a) fun i b=>
 AB (.bin .lss i (I 0)) fun v=>
 AU v
 (AB (.build [(I 0)] [(0,1,(I 4))]) fun j=>
 CF (.ifc 139 j) b (yp a))
 (AB (.nilCheck n) fun j=>
 AB (.fieldAddr 0 j) fun w=>
 AE (.load none w) b fun x=>
 AB (.len x) fun y=>
 AB (.bin .gtr i y) fun z=>
 AU z
 (AB (.build [(I 0)] [(0,1,(I 5))]) fun A=>
 CF (.ifc 139 A) b (yp a))
 (Ah [1,6,22,23] (fun t=>(fun(d e f g:AV) (c:AH)=>
 AB (.bin .lss g f) fun o=>
 AU o
 (DT prog d [] c (yp a) fun p k=>
 AQ (.buildSlice 1 1 [.nils] [(0,1,p)]) k fun q l=>
 AQ (.append 1 24 e q) l fun r m=>
 AB (.bin .add g (I 1)) fun s=>
 t d r f s m)
 (a (.ret e) c))) ((((Ar.set 1 u).set 6 .nils).set 22 i).set 23 (I 0)) b)))
theorem T94 {v0 v1 h Post}(hG:G94 v0 v1 h Post):AP prog 94 [v0,v1] h Post:=tP func94 (by kernel_rfl) (by kernel_rfl) hG
def G95 (n u:AV) (h:AH) (a:Am->AH->Prop):Prop:=(
 AG prog 91 [n] h (yp a) fun i b=>
 AB (.bin .lss i (I 0)) fun v=>
 AU v
 (AB (.build [(I 0)] [(0,1,(I 4))]) fun j=>
 CF (.ifc 139 j) b (yp a))
 (AB (.nilCheck n) fun j=>
 AB (.fieldAddr 0 j) fun w=>
 AE (.load none w) b fun x=>
 AB (.len x) fun y=>
 AB (.bin .gtr i y) fun z=>
 AU z
 (AB (.build [(I 0)] [(0,1,(I 5))]) fun A=>
 CF (.ifc 139 A) b (yp a))
 (Ah [1,6,22,23] (fun t=>(fun(d e f g:AV) (c:AH)=>
 AB (.bin .lss g f) fun o=>
 AU o
 (DT prog d [] c (yp a) fun p k=>
 AQ (.buildSlice 8 1 ((I 0)::(.nils::(Bl 6 (I 0) []))) [(0,8,p)]) k fun q l=>
 AQ (.append 8 80 e q) l fun r m=>
 AB (.bin .add g (I 1)) fun s=>
 t d r f s m)
 (a (.ret e) c))) ((((Ar.set 1 u).set 6 .nils).set 22 i).set 23 (I 0)) b)))
theorem T95 {v0 v1 h Post}(hG:G95 v0 v1 h Post):AP prog 95 [v0,v1] h Post:=tP func95 (by kernel_rfl) (by kernel_rfl) hG
def yb (c:AV) (h:AH) (a:Am->AH->Prop):Prop:=(
 AQ (.alloc ((I 0)::(.nils::(Bl 6 (I 0) [])))) h fun q E=>
 AG prog 91 [c] E (yp a) fun U G=>
 AB (.build ((I 0)::(.nils::(Bl 6 (I 0) []))) [(0,1,U)]) fun V=>
 AQ (.alloc ((I 0)::(.nils::(Bl 6 (I 0) [])))) G fun b L=>
 AQ (.store 8 b V) L fun v5 M=>
 AG prog 93 [c] M (yp a) fun W O=>
 AB (.fieldAddr 1 b) fun X=>
 AQ (.store 1 X W) O fun v8 Q=>
 AG prog 91 [c] Q (yp a) fun Y R=>
 AB (.fieldAddr 2 b) fun r=>
 AQ (.store 1 r Y) R fun Z f=>
 AG prog 91 [c] f (yp a) fun s g=>
 AB (.fieldAddr 3 b) fun t=>
 AQ (.store 1 t s) g fun a0 i=>
 AG prog 91 [c] i (yp a) fun u j=>
 AB (.fieldAddr 4 b) fun v=>
 AQ (.store 1 v u) j fun a1 k=>
 AG prog 91 [c] k (yp a) fun w l=>
 AB (.fieldAddr 5 b) fun x=>
 AQ (.store 1 x w) l fun a2 m=>
 AG prog 91 [c] m (yp a) fun y n=>
 AB (.fieldAddr 6 b) fun z=>
 AQ (.store 1 z y) n fun a3 o=>
 AG prog 91 [c] o (yp a) fun A p=>
 AB (.fieldAddr 7 b) fun B=>
 AQ (.store 1 B A) p fun a4 d=>
 AE (.load (some 8) b) d fun C=>
 AQ (.store 8 q C) d fun a5 e=>
 AE (.load (some 8) q) e fun D=>
 a (.ret D) e)
theorem T96 {v0 h Post}(hG:yb v0 h Post):AP prog 96 [v0] h Post:=tP func96 (by kernel_rfl) (by kernel_rfl) hG
def G97 (n u:AV) (h:AH) (a:Am->AH->Prop):Prop:=(
 AG prog 91 [n] h (yp a) fun i b=>
 AB (.bin .lss i (I 0)) fun v=>
 AU v
 (AB (.build [(I 0)] [(0,1,(I 4))]) fun j=>
 CF (.ifc 139 j) b (yp a))
 (AB (.nilCheck n) fun j=>
 AB (.fieldAddr 0 j) fun w=>
 AE (.load none w) b fun x=>
 AB (.len x) fun y=>
 AB (.bin .gtr i y) fun z=>
 AU z
 (AB (.build [(I 0)] [(0,1,(I 5))]) fun A=>
 CF (.ifc 139 A) b (yp a))
 (Ah [1,6,22,23] (fun t=>(fun(d e f g:AV) (c:AH)=>
 AB (.bin .lss g f) fun o=>
 AU o
 (DT prog d [] c (yp a) fun p k=>
 AQ (.buildSlice 2 1 [.nils,.nils] [(0,2,p)]) k fun q l=>
 AQ (.append 2 48 e q) l fun r m=>
 AB (.bin .add g (I 1)) fun s=>
 t d r f s m)
 (a (.ret e) c))) ((((Ar.set 1 u).set 6 .nils).set 22 i).set 23 (I 0)) b)))
theorem T97 {v0 v1 h Post}(hG:G97 v0 v1 h Post):AP prog 97 [v0,v1] h Post:=tP func97 (by kernel_rfl) (by kernel_rfl) hG
def G98 (c:AV) (h:AH) (a:Am->AH->Prop):Prop:=(
 AQ (.alloc [.nils,.nils]) h fun d e=>
 AG prog 185 [c] e (yp a) fun i f=>
 AG prog 185 [c] f (yp a) fun j g=>
 AB (.build [.nils,.nils] [(0,1,i),(1,1,j)]) fun k=>
 AQ (.store 2 d k) g fun m b=>
 AE (.load (some 2) d) b fun l=>
 a (.ret l) b)
theorem T98 {v0 h Post}(hG:G98 v0 h Post):AP prog 98 [v0] h Post:=tP func98 (by kernel_rfl) (by kernel_rfl) hG
def wV (t f u:AV) (h:AH) (a:Am->AH->Prop):Prop:=(
 AB (.len f) fun v=>
 AG prog 53 [t,v] h (yp a) fun z s=>
 AB (.len f) fun w=>
 Ah [2,12,13,14] (fun r=>(fun(o p q c:AV) (b:AH)=>
 AB (.bin .lss c q) fun j=>
 AU j
 (AB (.indexAddrS 4 p c) fun k=>
 AE (.load (some 4) k) b fun l=>
 AQ (.alloc (Bl 4 (N .u64 0) [])) b fun e g=>
 AQ (.store 4 e l) g fun x d=>
 AE (.load (some 4) e) d fun m=>
 DT prog o [m] d (yp a) fun y i=>
 AB (.bin .add c (I 1)) fun n=>
 r o p q n i)
 (a (.ret (.tup [])) b))) ((((Ar.set 2 u).set 12 f).set 13 w).set 14 (I 0)) s)
theorem ow {v0 v1 v2 h Post}(hG:wV v0 v1 v2 h Post):AP prog 102 [v0,v1,v2] h Post:=tP func102 (by kernel_rfl) (by kernel_rfl) hG
def qD (E G:AV) (h:AH) (i:Am->AH->Prop):Prop:=(
 AQ (.box G) h fun L l=>
 AE (.load (some 4) L) l fun M=>
 Ah [0,7,8] (fun D=>(fun(O C j:AV) (p:AH)=>
 AB (.bin .lss j (I 4)) fun Q=>
 AU Q
 (AB (.indexA 4 1 none C j) fun q=>
 Ah [0,5,7,8,11] (fun k=>(fun(a e f g c:AV) (b:AH)=>
 AB (.bin .lss c (I 8)) fun r=>
 AU r
 (AB (.nilCheck a) fun d=>
 AB (.fieldAddr 0 d) fun s=>
 AE (.load none s) b fun t=>
 AB (.bin .mul (I 8) c) fun u=>
 AB (.bin .shr e u) fun v=>
 AB (.convI .u8 v) fun w=>
 Ny (.buildSlice 1 1 [(N .u8 0)] [(0,1,w)]) b fun x m=>
 AQ (.append 1 1 t x) m fun y n=>
 AB (.nilCheck a) fun z=>
 AB (.fieldAddr 0 z) fun A=>
 AQ (.store 1 A y) n fun R o=>
 AB (.bin .add c (I 1)) fun B=>
 k a e f g B o)
 (AB (.bin .add g (I 1)) fun d=>
 D a f d b))) (((((Ar.set 0 O).set 5 q).set 7 C).set 8 j).set 11 (I 0)) p)
 (i (.ret (.tup [])) p))) (((Ar.set 0 E).set 7 M).set 8 (I 0)) l)
theorem ug {v0 v1 h Post}(hG:qD v0 v1 h Post):AP prog 103 [v0,v1] h Post:=tP func103 (by kernel_rfl) (by kernel_rfl) hG
def wU (p d q:AV) (h:AH) (a:Am->AH->Prop):Prop:=(
 AB (.len d) fun r=>
 AG prog 53 [p,r] h (yp a) fun u o=>
 AB (.len d) fun s=>
 Ah [2,12,13,14] (fun n=>(fun(k l m c:AV) (b:AH)=>
 AB (.bin .lss c m) fun f=>
 AU f
 (AB (.indexAddrS 1 l c) fun g=>
 AE (.load none g) b fun i=>
 DT prog k [i] b (yp a) fun t e=>
 AB (.bin .add c (I 1)) fun j=>
 n k l m j e)
 (a (.ret (.tup [])) b))) ((((Ar.set 2 q).set 12 d).set 13 s).set 14 (I 0)) o)
theorem ov {v0 v1 v2 h Post}(hG:wU v0 v1 v2 h Post):AP prog 104 [v0,v1,v2] h Post:=tP func104 (by kernel_rfl) (by kernel_rfl) hG
def qC (e l:AV) (h:AH) (b:Am->AH->Prop):Prop:=(
 Qr l (fun(i m:AV) (d:AH)=>
 AB (.nilCheck i) fun n=>
 AB (.fieldAddr 0 n) fun o=>
 AE (.load none o) d fun p=>
 AQ (.buildSlice 1 1 [(N .u8 0)] [(0,1,m)]) d fun q j=>
 AQ (.append 1 1 p q) j fun r k=>
 AB (.nilCheck i) fun f=>
 AB (.fieldAddr 0 f) fun g=>
 AQ (.store 1 g r) k fun s c=>
 b (.ret (.tup [])) c)
 (fun a=>a e (N .u8 1) h)
 (fun a=>a e (N .u8 0) h))
theorem uf {v0 v1 h Post}(hG:qC v0 v1 h Post):AP prog 105 [v0,v1] h Post:=tP func105 (by kernel_rfl) (by kernel_rfl) hG
def wT (p d q:AV) (h:AH) (a:Am->AH->Prop):Prop:=(
 AB (.len d) fun r=>
 AG prog 53 [p,r] h (yp a) fun u o=>
 AB (.len d) fun s=>
 Ah [2,12,13,14] (fun n=>(fun(k l m c:AV) (b:AH)=>
 AB (.bin .lss c m) fun f=>
 AU f
 (AB (.indexAddrS 1 l c) fun g=>
 AE (.load none g) b fun i=>
 DT prog k [i] b (yp a) fun t e=>
 AB (.bin .add c (I 1)) fun j=>
 n k l m j e)
 (a (.ret (.tup [])) b))) ((((Ar.set 2 q).set 12 d).set 13 s).set 14 (I 0)) o)
theorem ue {v0 v1 v2 h Post}(hG:wT v0 v1 v2 h Post):AP prog 106 [v0,v1,v2] h Post:=tP func106 (by kernel_rfl) (by kernel_rfl) hG
def qB (d b:AV) (h:AH) (a:Am->AH->Prop):Prop:=(
 AE (.load none b) h fun e=>
 AG prog 108 [e,d,(.fn (.func 109) [] [b])] h (yp a) fun f c=>
 a (.ret (.tup [])) c)
theorem ud {v0 v1 h Post}(hG:qB v0 v1 h Post):AP prog 107 [v0,v1] h Post:=tP func107 (by kernel_rfl) (by kernel_rfl) hG
def wS (t f u:AV) (h:AH) (a:Am->AH->Prop):Prop:=(
 AB (.len f) fun v=>
 AG prog 53 [t,v] h (yp a) fun z s=>
 AB (.len f) fun w=>
 Ah [2,12,13,14] (fun r=>(fun(o p q c:AV) (b:AH)=>
 AB (.bin .lss c q) fun j=>
 AU j
 (AB (.indexAddrS 2 p c) fun k=>
 AE (.load (some 2) k) b fun l=>
 AQ (.alloc [(I 0),.nils]) b fun e g=>
 AQ (.store 2 e l) g fun x d=>
 AE (.load (some 2) e) d fun m=>
 DT prog o [m] d (yp a) fun y i=>
 AB (.bin .add c (I 1)) fun n=>
 r o p q n i)
 (a (.ret (.tup [])) b))) ((((Ar.set 2 u).set 12 f).set 13 w).set 14 (I 0)) s)
theorem uc {v0 v1 v2 h Post}(hG:wS v0 v1 v2 h Post):AP prog 108 [v0,v1,v2] h Post:=tP func108 (by kernel_rfl) (by kernel_rfl) hG
def p_ (g d:AV) (h:AH) (a:Am->AH->Prop):Prop:=(
 AQ (.box g) h fun f b=>
 AE (.load none d) b fun i=>
 AB (.fieldAddr 0 f) fun j=>
 AE (.load none j) b fun k=>
 AG prog 53 [i,k] b (yp a) fun p c=>
 AE (.load none d) c fun l=>
 AB (.fieldAddr 1 f) fun m=>
 AE (.load none m) c fun n=>
 AG prog 110 [l,n,(.fn (.func 111) [] [d])] c (yp a) fun o e=>
 a (.ret (.tup [])) e)
theorem ub {v0 v1 h Post}(hG:p_ v0 v1 h Post):AP prog 109 [v0,v1] h Post:=tP func109 (by kernel_rfl) (by kernel_rfl) hG
def wR (t f u:AV) (h:AH) (a:Am->AH->Prop):Prop:=(
 AB (.len f) fun v=>
 AG prog 53 [t,v] h (yp a) fun z s=>
 AB (.len f) fun w=>
 Ah [2,12,13,14] (fun r=>(fun(o p q c:AV) (b:AH)=>
 AB (.bin .lss c q) fun j=>
 AU j
 (AB (.indexAddrS 2 p c) fun k=>
 AE (.load (some 2) k) b fun l=>
 AQ (.alloc [(.bool false),(N .u8 0)]) b fun e g=>
 AQ (.store 2 e l) g fun x d=>
 AE (.load (some 2) e) d fun m=>
 DT prog o [m] d (yp a) fun y i=>
 AB (.bin .add c (I 1)) fun n=>
 r o p q n i)
 (a (.ret (.tup [])) b))) ((((Ar.set 2 u).set 12 f).set 13 w).set 14 (I 0)) s)
theorem ua {v0 v1 v2 h Post}(hG:wR v0 v1 v2 h Post):AP prog 110 [v0,v1,v2] h Post:=tP func110 (by kernel_rfl) (by kernel_rfl) hG
def p9 (g e:AV) (h:AH) (a:Am->AH->Prop):Prop:=(
 AQ (.box g) h fun f b=>
 AE (.load none e) b fun i=>
 AB (.fieldAddr 0 f) fun j=>
 AE (.load none j) b fun k=>
 AG prog 105 [i,k] b (yp a) fun p c=>
 AE (.load none e) c fun l=>
 AB (.fieldAddr 1 f) fun m=>
 AE (.load none m) c fun n=>
 AG prog 112 [l,n] c (yp a) fun o d=>
 a (.ret (.tup [])) d)
theorem uZ {v0 v1 h Post}(hG:p9 v0 v1 h Post):AP prog 111 [v0,v1] h Post:=tP func111 (by kernel_rfl) (by kernel_rfl) hG
def pz (b f:AV) (h:AH) (a:Am->AH->Prop):Prop:=(
 AB (.nilCheck b) fun g=>
 AB (.fieldAddr 0 g) fun i=>
 AE (.load none i) h fun j=>
 AQ (.buildSlice 1 1 [(N .u8 0)] [(0,1,f)]) h fun k c=>
 AQ (.append 1 1 j k) c fun l d=>
 AB (.nilCheck b) fun m=>
 AB (.fieldAddr 0 m) fun n=>
 AQ (.store 1 n l) d fun o e=>
 a (.ret (.tup [])) e)
theorem uY {v0 v1 h Post}(hG:pz v0 v1 h Post):AP prog 112 [v0,v1] h Post:=tP func112 (by kernel_rfl) (by kernel_rfl) hG
def wQ (p d q:AV) (h:AH) (a:Am->AH->Prop):Prop:=(
 AB (.len d) fun r=>
 AG prog 53 [p,r] h (yp a) fun u o=>
 AB (.len d) fun s=>
 Ah [2,12,13,14] (fun n=>(fun(k l m c:AV) (b:AH)=>
 AB (.bin .lss c m) fun f=>
 AU f
 (AB (.indexAddrS 1 l c) fun g=>
 AE (.load none g) b fun i=>
 DT prog k [i] b (yp a) fun t e=>
 AB (.bin .add c (I 1)) fun j=>
 n k l m j e)
 (a (.ret (.tup [])) b))) ((((Ar.set 2 q).set 12 d).set 13 s).set 14 (I 0)) o)
theorem uX {v0 v1 v2 h Post}(hG:wQ v0 v1 v2 h Post):AP prog 113 [v0,v1,v2] h Post:=tP func113 (by kernel_rfl) (by kernel_rfl) hG
def py (d b:AV) (h:AH) (a:Am->AH->Prop):Prop:=(
 AE (.load none b) h fun e=>
 AE (.load none b) h fun f=>
 AG prog 115 [e,d,(.fn (.func 112) [f] [])] h (yp a) fun g c=>
 a (.ret (.tup [])) c)
theorem uW {v0 v1 h Post}(hG:py v0 v1 h Post):AP prog 114 [v0,v1] h Post:=tP func114 (by kernel_rfl) (by kernel_rfl) hG
def wP (p d q:AV) (h:AH) (a:Am->AH->Prop):Prop:=(
 AB (.len d) fun r=>
 AG prog 53 [p,r] h (yp a) fun u o=>
 AB (.len d) fun s=>
 Ah [2,12,13,14] (fun n=>(fun(k l m c:AV) (b:AH)=>
 AB (.bin .lss c m) fun f=>
 AU f
 (AB (.indexAddrS 1 l c) fun g=>
 AE (.load none g) b fun i=>
 DT prog k [i] b (yp a) fun t e=>
 AB (.bin .add c (I 1)) fun j=>
 n k l m j e)
 (a (.ret (.tup [])) b))) ((((Ar.set 2 q).set 12 d).set 13 s).set 14 (I 0)) o)
theorem uV {v0 v1 v2 h Post}(hG:wP v0 v1 v2 h Post):AP prog 115 [v0,v1,v2] h Post:=tP func115 (by kernel_rfl) (by kernel_rfl) hG
def wO (p d q:AV) (h:AH) (a:Am->AH->Prop):Prop:=(
 AB (.len d) fun r=>
 AG prog 53 [p,r] h (yp a) fun u o=>
 AB (.len d) fun s=>
 Ah [2,12,13,14] (fun n=>(fun(k l m c:AV) (b:AH)=>
 AB (.bin .lss c m) fun f=>
 AU f
 (AB (.indexAddrS 1 l c) fun g=>
 AE (.load none g) b fun i=>
 DT prog k [i] b (yp a) fun t e=>
 AB (.bin .add c (I 1)) fun j=>
 n k l m j e)
 (a (.ret (.tup [])) b))) ((((Ar.set 2 q).set 12 d).set 13 s).set 14 (I 0)) o)
theorem uU {v0 v1 v2 h Post}(hG:wO v0 v1 v2 h Post):AP prog 116 [v0,v1,v2] h Post:=tP func116 (by kernel_rfl) (by kernel_rfl) hG
def wN (t f u:AV) (h:AH) (a:Am->AH->Prop):Prop:=(
 AB (.len f) fun v=>
 AG prog 53 [t,v] h (yp a) fun z s=>
 AB (.len f) fun w=>
 Ah [2,12,13,14] (fun r=>(fun(o p q c:AV) (b:AH)=>
 AB (.bin .lss c q) fun j=>
 AU j
 (AB (.indexAddrS 2 p c) fun k=>
 AE (.load (some 2) k) b fun l=>
 AQ (.alloc [(I 0),(N .u8 0)]) b fun e g=>
 AQ (.store 2 e l) g fun x d=>
 AE (.load (some 2) e) d fun m=>
 DT prog o [m] d (yp a) fun y i=>
 AB (.bin .add c (I 1)) fun n=>
 r o p q n i)
 (a (.ret (.tup [])) b))) ((((Ar.set 2 u).set 12 f).set 13 w).set 14 (I 0)) s)
theorem uT {v0 v1 v2 h Post}(hG:wN v0 v1 v2 h Post):AP prog 117 [v0,v1,v2] h Post:=tP func117 (by kernel_rfl) (by kernel_rfl) hG
def px (g e:AV) (h:AH) (a:Am->AH->Prop):Prop:=(
 AQ (.box g) h fun f b=>
 AE (.load none e) b fun i=>
 AB (.fieldAddr 0 f) fun j=>
 AE (.load none j) b fun k=>
 AG prog 53 [i,k] b (yp a) fun p c=>
 AE (.load none e) c fun l=>
 AB (.fieldAddr 1 f) fun m=>
 AE (.load none m) c fun n=>
 AG prog 112 [l,n] c (yp a) fun o d=>
 a (.ret (.tup [])) d)
theorem uS {v0 v1 h Post}(hG:px v0 v1 h Post):AP prog 118 [v0,v1] h Post:=tP func118 (by kernel_rfl) (by kernel_rfl) hG
def pr (e f:AV) (h:AH) (a:Am->AH->Prop):Prop:=(
 AB (.len e) fun r=>
 AB (.len f) fun s=>
 AB (.bin .neq r s) fun t=>
 AU t
 (a (.ret (.bool false)) h)
 (Ah [0,1,5] (fun q=>(fun(d p c:AV) (b:AH)=>
 AB (.len d) fun g=>
 AB (.bin .lss c g) fun i=>
 AU i
 (AB (.indexAddrS 1 d c) fun j=>
 AE (.load none j) b fun k=>
 AB (.indexAddrS 1 p c) fun l=>
 AE (.load none l) b fun m=>
 AB (.bin .neq k m) fun n=>
 AU n
 (a (.ret (.bool false)) b)
 (AB (.bin .add c (I 1)) fun o=>
 q d p o b))
 (a (.ret (.bool true)) b))) (((Ar.set 0 e).set 1 f).set 5 (I 0)) h))
theorem uQ {v0 v1 h Post}(hG:pr v0 v1 h Post):AP prog 126 [v0,v1] h Post:=tP func126 (by kernel_rfl) (by kernel_rfl) hG
def po (f g:AV) (h:AH) (a:Am->AH->Prop):Prop:=(
 AB (.len f) fun t=>
 AB (.len g) fun u=>
 AB (.bin .neq t u) fun v=>
 AU v
 (a (.ret (.bool false)) h)
 (Ah [0,1,5] (fun s=>(fun(e r c:AV) (b:AH)=>
 AB (.len e) fun i=>
 AB (.bin .lss c i) fun j=>
 AU j
 (AB (.indexAddrS 1 e c) fun k=>
 AE (.load none k) b fun l=>
 AB (.indexAddrS 1 r c) fun m=>
 AE (.load none m) b fun n=>
 AG prog 126 [l,n] b (yp a) fun o d=>
 AB (.un .not o) fun p=>
 AU p
 (a (.ret (.bool false)) d)
 (AB (.bin .add c (I 1)) fun q=>
 s e r q d))
 (a (.ret (.bool true)) b))) (((Ar.set 0 f).set 1 g).set 5 (I 0)) h))
theorem uP {v0 v1 h Post}(hG:po v0 v1 h Post):AP prog 127 [v0,v1] h Post:=tP func127 (by kernel_rfl) (by kernel_rfl) hG
def pj (v0 v1:AV) (h:AH) (d:Am->AH->Prop):Prop:=(
 AB (.len v0) fun v2=>
 AB (.len v1) fun v3=>
 AB (.bin .neq v2 v3) fun v4=>
 AU v4
 (d (.ret (.bool false)) h)
 (Ah [0,1,5] (fun J5=>(fun(v6 v7 v8:AV) (h9:AH)=>
 AB (.len v6) fun c1=>
 AB (.bin .lss v8 c1) fun c2=>
 AU c2
 (AB (.indexAddrS 8 v6 v8) fun c3=>
 AE (.load (some 8) c3) h9 fun c4=>
 AQ (.alloc ((I 0)::(.nils::(Bl 6 (I 0) [])))) h9 fun a b6=>
 AQ (.store 8 a c4) b6 fun e5 a5=>
 AB (.indexAddrS 8 v7 v8) fun c5=>
 AE (.load (some 8) c5) a5 fun c6=>
 AQ (.alloc ((I 0)::(.nils::(Bl 6 (I 0) [])))) a5 fun b b7=>
 AQ (.store 8 b c6) b7 fun e6 c=>
 AB (.fieldAddr 0 a) fun c7=>
 AE (.load none c7) c fun c8=>
 AB (.fieldAddr 0 b) fun c9=>
 AE (.load none c9) c fun d0=>
 AB (.bin .neq c8 d0) fun a7=>
 BF false a7 (fun(e7 z A B C l:AV) (e:AH)=>
 AB (.pick a7 (.cst (.bool true)) l) fun a8=>
 BF false a8 (fun(e8 D E G m:AV) (f:AH)=>
 AB (.pick a8 (.cst (.bool true)) m) fun a9=>
 BF false a9 (fun(e9 L M O n:AV) (g:AH)=>
 AB (.pick a9 (.cst (.bool true)) n) fun b0=>
 BF false b0 (fun(f0 Q R U o:AV) (i:AH)=>
 AB (.pick b0 (.cst (.bool true)) o) fun b1=>
 BF false b1 (fun(f1 V W X p:AV) (j:AH)=>
 AB (.pick b1 (.cst (.bool true)) p) fun b2=>
 BF false b2 (fun(f2 Y Z a0 q:AV) (k:AH)=>
 AB (.pick b2 (.cst (.bool true)) q) fun b3=>
 BF false b3 (fun(f3 a1 a2 a3 r:AV) (a6:AH)=>
 AB (.pick b3 (.cst (.bool true)) r) fun d9=>
 AU d9
 (d (.ret (.bool false)) a6)
 (AB (.bin .add v8 (I 1)) fun e0=>
 J5 v6 v7 e0 a6)) (fun y=>
 AB (.fieldAddr 7 a) fun a1=>
 AE (.load none a1) k fun a2=>
 AB (.fieldAddr 7 b) fun a3=>
 AE (.load none a3) k fun r=>
 AB (.bin .neq a2 r) fun d8=>
 y a1 a2 a3 r d8 k) (fun y=>y Ad Ad Ad Ad Ad k)) (fun x=>
 AB (.fieldAddr 6 a) fun Y=>
 AE (.load none Y) j fun Z=>
 AB (.fieldAddr 6 b) fun a0=>
 AE (.load none a0) j fun q=>
 AB (.bin .neq Z q) fun d6=>
 x Y Z a0 q d6 j) (fun x=>x Ad Ad Ad Ad Ad j)) (fun w=>
 AB (.fieldAddr 5 a) fun V=>
 AE (.load none V) i fun W=>
 AB (.fieldAddr 5 b) fun X=>
 AE (.load none X) i fun p=>
 AB (.bin .neq W p) fun d5=>
 w V W X p d5 i) (fun w=>w Ad Ad Ad Ad Ad i)) (fun v=>
 AB (.fieldAddr 4 a) fun Q=>
 AE (.load none Q) g fun R=>
 AB (.fieldAddr 4 b) fun U=>
 AE (.load none U) g fun o=>
 AB (.bin .neq R o) fun d4=>
 v Q R U o d4 g) (fun v=>v Ad Ad Ad Ad Ad g)) (fun u=>
 AB (.fieldAddr 3 a) fun L=>
 AE (.load none L) f fun M=>
 AB (.fieldAddr 3 b) fun O=>
 AE (.load none O) f fun n=>
 AB (.bin .neq M n) fun d3=>
 u L M O n d3 f) (fun u=>u Ad Ad Ad Ad Ad f)) (fun t=>
 AB (.fieldAddr 2 a) fun D=>
 AE (.load none D) e fun E=>
 AB (.fieldAddr 2 b) fun G=>
 AE (.load none G) e fun m=>
 AB (.bin .neq E m) fun d2=>
 t D E G m d2 e) (fun t=>t Ad Ad Ad Ad Ad e)) (fun s=>
 AB (.fieldAddr 1 a) fun z=>
 AE (.load none z) c fun A=>
 AB (.fieldAddr 1 b) fun B=>
 AE (.load none B) c fun C=>
 AG prog 126 [A,C] c (yp d) fun l b8=>
 AB (.un .not l) fun d1=>
 s z A B C l d1 b8) (fun s=>s Ad Ad Ad Ad Ad Ad c))
 (d (.ret (.bool true)) h9))) (((Ar.set 0 v0).set 1 v1).set 5 (I 0)) h))
theorem uO {v0 v1 h Post}(hG:pj v0 v1 h Post):AP prog 128 [v0,v1] h Post:=tP func128 (by kernel_rfl) (by kernel_rfl) hG
def ph (t u:AV) (h:AH) (a:Am->AH->Prop):Prop:=(
 AB (.len t) fun O=>
 AB (.len u) fun Q=>
 AB (.bin .neq O Q) fun R=>
 AU R
 (a (.ret (.bool false)) h)
 (Ah [0,1,5] (fun M=>(fun(m o b:AV) (n:AH)=>
 AB (.len m) fun v=>
 AB (.bin .lss b v) fun w=>
 AU w
 (AB (.indexAddrS 2 m b) fun x=>
 AB (.fieldAddr 0 x) fun y=>
 AE (.load none y) n fun z=>
 AB (.indexAddrS 2 o b) fun A=>
 AB (.fieldAddr 0 A) fun B=>
 AE (.load none B) n fun C=>
 AG prog 208 [z,C] n (yp a) fun D c=>
 AB (.un .not D) fun q=>
 BF false q (fun(U e f g i j k l r V W E:AV) (p:AH)=>
 AB (.pick q (.cst (.bool true)) E) fun G=>
 AU G
 (a (.ret (.bool false)) p)
 (AB (.bin .add b (I 1)) fun L=>
 M m o L p)) (fun d=>
 AB (.indexAddrS 2 m b) fun e=>
 AB (.fieldAddr 1 e) fun f=>
 AE (.load none f) c fun g=>
 AB (.indexAddrS 2 o b) fun i=>
 AB (.fieldAddr 1 i) fun j=>
 AE (.load none j) c fun k=>
 AG prog 208 [g,k] c (yp a) fun l s=>
 AB (.un .not l) fun r=>
 d m b e f g o b i j k l r s) (fun d=>d Ad Ad Ad Ad Ad Ad Ad Ad Ad Ad Ad Ad c))
 (a (.ret (.bool true)) n))) (((Ar.set 0 t).set 1 u).set 5 (I 0)) h))
theorem uN {v0 v1 h Post}(hG:ph v0 v1 h Post):AP prog 129 [v0,v1] h Post:=tP func129 (by kernel_rfl) (by kernel_rfl) hG
def pX (v0 v1:AV) (h:AH) (a:Am->AH->Prop):Prop:=(
 AQ (.box v0) h fun j h2=>
 AQ (.box v1) h2 fun k v=>
 AB (.fieldAddr 0 j) fun v4=>
 AE (.load none v4) v fun v5=>
 AB (.fieldAddr 0 k) fun v6=>
 AE (.load none v6) v fun v7=>
 AB (.bin .eql v5 v7) fun v8=>
 BF true v8 (fun(v9 D E G n:AV) (c:AH)=>
 AB (.pick v8 n (.cst (.bool false))) fun b4=>
 BF true b4 (fun(e0 L M O o:AV) (d:AH)=>
 AB (.pick b4 o (.cst (.bool false))) fun b5=>
 BF true b5 (fun(e1 Q R U p:AV) (e:AH)=>
 AB (.pick b5 p (.cst (.bool false))) fun b6=>
 BF true b6 (fun(e2 V W X Y Z q:AV) (f:AH)=>
 AB (.pick b6 q (.cst (.bool false))) fun b7=>
 BF true b7 (fun(e3 a0 a1 a2 a3 a4 r:AV) (l:AH)=>
 AB (.pick b7 r (.cst (.bool false))) fun b8=>
 BF true b8 (fun(e4 a5 a6 a7 s:AV) (g:AH)=>
 AB (.pick b8 s (.cst (.bool false))) fun b9=>
 BF true b9 (fun(e5 a8 a9 b0 t:AV) (m:AH)=>
 AB (.pick b9 t (.cst (.bool false))) fun c0=>
 BF true c0 (fun(e6 b1 b2 b3 u:AV) (c2:AH)=>
 AB (.pick c0 u (.cst (.bool false))) fun d1=>
 a (.ret d1) c2) (fun C=>
 AB (.fieldAddr 17 j) fun b1=>
 AE (.load none b1) m fun b2=>
 AB (.fieldAddr 17 k) fun b3=>
 AE (.load none b3) m fun u=>
 AB (.bin .eql b2 u) fun d0=>
 C b1 b2 b3 u d0 m) (fun C=>C Ad Ad Ad Ad Ad m)) (fun B=>
 AB (.fieldAddr 12 j) fun a8=>
 AE (.load (some 5) a8) g fun a9=>
 AB (.fieldAddr 12 k) fun b0=>
 AE (.load (some 5) b0) g fun t=>
 AB (.eq false (.wide (true,[(.i .i64),(.i .i64),(.i .i64),(.i .i64),.b])) a9 t) fun c9=>
 B a8 a9 b0 t c9 g) (fun B=>B Ad Ad Ad Ad Ad g)) (fun A=>
 AB (.fieldAddr 8 j) fun a5=>
 AE (.load (some 4) a5) l fun a6=>
 AB (.fieldAddr 8 k) fun a7=>
 AE (.load (some 4) a7) l fun s=>
 AG prog 317 [a6,s] l (yp a) fun c8 g=>
 A a5 a6 a7 s c8 g) (fun A=>A Ad Ad Ad Ad Ad l)) (fun z=>
 AB (.fieldAddr 6 j) fun a0=>
 AB (.fieldAddr 1 a0) fun a1=>
 AE (.load none a1) f fun a2=>
 AB (.fieldAddr 6 k) fun a3=>
 AB (.fieldAddr 1 a3) fun a4=>
 AE (.load none a4) f fun r=>
 AB (.bin .eql a2 r) fun c7=>
 z a0 a1 a2 a3 a4 r c7 f) (fun z=>z Ad Ad Ad Ad Ad Ad Ad f)) (fun y=>
 AB (.fieldAddr 6 j) fun V=>
 AB (.fieldAddr 0 V) fun W=>
 AE (.load none W) e fun X=>
 AB (.fieldAddr 6 k) fun Y=>
 AB (.fieldAddr 0 Y) fun Z=>
 AE (.load none Z) e fun q=>
 AG prog 316 [X,q] e (yp a) fun c6 f=>
 y V W X Y Z q c6 f) (fun y=>y Ad Ad Ad Ad Ad Ad Ad e)) (fun x=>
 AB (.fieldAddr 3 j) fun Q=>
 AE (.load (some 3) Q) d fun R=>
 AB (.fieldAddr 3 k) fun U=>
 AE (.load (some 3) U) d fun p=>
 AG prog 315 [R,p] d (yp a) fun c5 e=>
 x Q R U p c5 e) (fun x=>x Ad Ad Ad Ad Ad d)) (fun w=>
 AB (.fieldAddr 2 j) fun L=>
 AE (.load none L) c fun M=>
 AB (.fieldAddr 2 k) fun O=>
 AE (.load none O) c fun o=>
 AG prog 208 [M,o] c (yp a) fun c4 d=>
 w L M O o c4 d) (fun w=>w Ad Ad Ad Ad Ad c)) (fun J9=>
 AB (.fieldAddr 1 j) fun D=>
 AE (.load none D) v fun E=>
 AB (.fieldAddr 1 k) fun G=>
 AE (.load none G) v fun n=>
 AG prog 208 [E,n] v (yp a) fun c3 c=>
 J9 D E G n c3 c) (fun J9=>J9 Ad Ad Ad Ad Ad v))
theorem tw {v0 v1 h Post}(hG:pX v0 v1 h Post):AP prog 207 [v0,v1] h Post:=tP func207 (by kernel_rfl) (by kernel_rfl) hG
end
end Go.Proofs.YtlmkmpomgdbjhaaGreatDoor
namespace Go.AL
section
variable [BX]
structure Gc (H:AH) (p:Nat) (ro:Option Nat) (H':AH):Prop where
 nx:H.next<=H'.next
 get:∀q,q<H.next->q≠p->some q≠ro->H'.get q=H.get q
 gl:H'.gl=H.gl
theorem Gc.refl (H:AH) (p:Nat) (ro:Option Nat):Gc H p ro H:=⟨A5 _,fun _ _ _ _=>rfl,rfl⟩
theorem Gc.trans {H H1 H2:AH}{p:Nat}{ro ro1:Option Nat}(h1:Gc H p ro H1) (hr:∀r,ro1=some r->H.next<=r\/ro=some r) (h2:Gc H1 p ro1 H2):Gc H p ro H2:=
 ⟨Cs h1.nx h2.nx,fun q hq hp hro=>by
  rw[h2.get q (DD hq h1.nx) hp (fun e=>?_),h1.get q hq hp hro]
  rcases hr q e.symm with h | h
  ·omega
  ·exact hro h.symm,h2.gl.trans h1.gl⟩
def lI (ro:Option Nat) (bs:List UInt8):AV:=match ro with
 | none=>.nils
 | some r=>.sl r 0 bs.length (.op 1)
theorem Wr.cell {H:AH}{p:Nat}{ro:Option Nat}{bs:List UInt8}(h:Wr H p ro bs):H.get p=some (.cells [lI ro bs]):=by cases h<;>assumption
theorem Wr.xF {H:AH}{p:Nat}{ro:Option Nat}{bs:List UInt8}(h:Wr H p ro bs):p<H.next:=by cases h<;>assumption
theorem Wz {H:AH}{p:Nat}{ro:Option Nat}{bs:List UInt8}{K:AV->Prop}(hW:Wr H p ro bs) (hK:K (lI ro bs)):AE (.load none (.cst (.ptr p 0))) H K:=
 AX (v:=lI ro bs) (by simp[AZ,BC,AF.ev,AH.cells?,hW.cell,apart]) hK
theorem Vf {H:AH}{p:Nat}{ro:Option Nat}{bs:List UInt8}{x:UInt8}{K:AH->Prop}(hW:Wr H p ro bs) (hb:bs.length<1099511627776)
  (hK:∀H' r',H.next<=r'->Wr H' p (some r') (bs++[x])->Gc H p ro H'->K H') :
  AQ (.append 1 1 (.cst (lI ro bs)) (.cst (.sl H.next 0 1 (.ex 1)))) (H.push (.cells [bv x])) fun v9 h9=>AB (.nilCheck (.cst (.ptr p 0))) fun v10=>AB (.fieldAddr 0 (.cst v10)) fun v11=>AQ (.store 1 (.cst v11) (.cst v9)) h9 fun _ h12=>K h12:=by
 have hlt:=hW.xF
 have h1:p≠H.next:=by omega
 have h2:p≠H.next+1:=by omega
 cases hW with
 | nil hp _=>
  refine Ap (v:=.sl (H.next+1) 0 1 (.op 1)) (H':=(H.push (.cells [bv x])).push (.cells [bv x])) (by simp[BL,AF.ev,lI,Bx,Aj,AH.cells?,AH.Af]) ?_
  refine AA (v:=.ptr p 0) rfl (AA (v:=.ptr p 0) rfl ?_)
  refine Ap (v:=.unk) (H':=((H.push (.cells [bv x])).push (.cells [bv x])).set p (.cells [.sl (H.next+1) 0 1 (.op 1)])) (by simp[BL,AF.ev,AH.cells?,AH.Af,hp,h1,h2,AV.cellsOf,As]) ?_
  refine hK _ (H.next+1) (by omega) (.row (bs:=[x]) ?_ ?_ (by omega) (by simp;omega) (by simp)) ⟨by simp;omega,fun q hq hqp _=>?_,rfl⟩
  ·simp[AH.AY]
  ·have h3:H.next+1≠p:=by omega
   simp[AH.AY,AH.Af,h3]
  ·have h3:q≠H.next:=by omega
   have h4:q≠H.next+1:=by omega
   simp[AH.AY,AH.Af,hqp,h3,h4]
 | row hp hr hne hl0 hrt=>
  rename_i r
  have h0:List.take bs.length (bs.map bv)=bs.map bv:=Ac (by simp)
  have h3:r≠H.next:=by omega
  have h4:¬p=r:=fun e=>hne e.symm
  have h5:bs.length+1<=140737488355328:=by omega
  have h6:bs.length+1<=9223372036854775807:=by omega
  refine Ap (v:=.sl (H.next+1) 0 (bs.length+1) (.op 1)) (H':=((H.push (.cells [bv x])).erase r).push (.cells (bs.map bv++[bv x]))) (by
   simp[BL,AF.ev,lI,Bx,Aj,AH.cells?,AH.Af,hr,h3,h5,h6,h0]) ?_
  refine AA (v:=.ptr p 0) rfl (AA (v:=.ptr p 0) rfl ?_)
  refine Ap (v:=.unk) (H':=(((H.push (.cells [bv x])).erase r).push (.cells (bs.map bv++[bv x]))).set p (.cells [.sl (H.next+1) 0 (bs.length+1) (.op 1)])) (by
   simp[BL,AF.ev,AH.cells?,AH.Af,AH.get_erase,hp,h1,h2,h4,AV.cellsOf,As]) ?_
  refine hK _ (H.next+1) (by omega) (.row ?_ ?_ (by omega) (by simp;omega) (by simp)) ⟨by simp;omega,fun q hq hqp hqr=>?_,rfl⟩
  ·simp[AH.AY]
  ·have h7:H.next+1≠p:=by omega
   simp[AH.AY,AH.Af,AH.get_erase,h7]
  ·have h7:q≠H.next:=by omega
   have h8:q≠H.next+1:=by omega
   have h9:q≠r:=fun e=>hqr (by rw[e])
   simp[AH.AY,AH.Af,AH.get_erase,hqp,h7,h8,h9]
theorem DU.of {H H':AH}{p:Nat}{ro:Option Nat}{bs:List UInt8}(r':Nat) (h1:H.next<=r') (h2:Wr H' p (some r') bs) (h3:Gc H p ro H'):DU H p ro bs (.ret (.tup [])) H':=⟨rfl,r',h1,h2,h3.nx,h3.get,h3.gl⟩
end
end Go.AL
namespace Go.Proofs.YtlmkmpomgdbjhaaGreatDoor
open Tryz
section
open Go Go.AL
variable [BX]
theorem K49 {H:AH}{p:Nat}{ro:Option Nat}{bs:List UInt8}(b:Bool) (hW:Wr H p ro bs) (hb:bs.length<1099511627776) :
  AP prog 105 [.ptr p 0,.bool b] H (DU H p ro (bs++[if b then 1 else 0])):=by
 refine uf ?_
 unfold qC
 have main:∀x:UInt8,(if b then 1 else 0)=x->AB (.nilCheck (.cst (.ptr p 0))) fun v5=>AB (.fieldAddr 0 (.cst v5)) fun v6=>AE (.load none (.cst v6)) H fun v7=>AQ (.buildSlice 1 1 [(N .u8 0)] [(0,1,(.cst (bv x)))]) H fun v8 h8=>
   AQ (.append 1 1 (.cst v7) (.cst v8)) h8 fun v9 h9=>AB (.nilCheck (.cst (.ptr p 0))) fun v10=>AB (.fieldAddr 0 (.cst v10)) fun v11=>AQ (.store 1 (.cst v11) (.cst v9)) h9 fun _ h12=>DU H p ro (bs++[if b then 1 else 0]) (.ret (.tup [])) h12:=by
  intro x hx
  refine AA (v:=.ptr p 0) rfl (AA (v:=.ptr p 0) rfl (Wz hW ?_))
  refine Ap (v:=.sl H.next 0 1 (.ex 1)) (H':=H.push (.cells [bv x])) (by simp[BL,B5,AF.ev,AV.cellsOf,bv,N]) ?_
  refine Vf hW hb fun H' r' q1 q2 q3=>?_
  rw[hx]
  exact .of r' q1 q2 q3
 refine L3 (fun hb=>?_) (fun hb=>?_)
 ·subst hb;exact main 1 rfl
 ·subst hb;exact main 0 rfl
end
end Go.Proofs.YtlmkmpomgdbjhaaGreatDoor
namespace Go.AL
section
open Co
variable {P:Program}
structure Q9 (H:AH) (p:Nat) (ro:Option Nat) (H':AH) (bs':List UInt8):Prop where
 w:∃ro',Wr H' p ro' bs'/\(ro'=ro\/∃r',ro'=some r'/\H.next<=r')
 nx:H.next<=H'.next
 fr:∀q,q<H.next->q≠p->some q≠ro->H'.get q=H.get q
 gl:H'.gl=H.gl
theorem Q9.refl {H:AH}{p:Nat}{ro:Option Nat}{bs:List UInt8}(h:Wr H p ro bs):Q9 H p ro H bs:=⟨⟨ro,h,.inl rfl⟩,A5 _,fun _ _ _ _=>rfl,rfl⟩
theorem Q9.post {H H1 H2:AH}{p:Nat}{ro ro1:Option Nat}{bs2:List UInt8}(h:H.next<=H1.next) (hro:ro1=ro\/∃r',ro1=some r'/\H.next<=r') (hf:∀q,q<H.next->q≠p->some q≠ro->H1.get q=H.get q) (hg:H1.gl=H.gl)
  {r2:Nat} (h1:H1.next<=r2) (h2:Wr H2 p (some r2) bs2) (h3:H1.next<=H2.next) (h4:∀q,q<H1.next->q≠p->some q≠ro1->H2.get q=H1.get q) (h5:H2.gl=H1.gl):Q9 H p ro H2 bs2:=
 ⟨⟨some r2,h2,.inr ⟨r2,rfl,by omega⟩⟩,by omega,fun q hq hp hr=>by
  rw[h4 q (by omega) hp ?_,hf q hq hp hr]
  rcases hro with rfl | ⟨r',rfl,hr'⟩
  ·exact hr
  ·intro e;cases e;omega,h5.trans hg⟩
theorem wrap_u8 (n:Int):IntKind.u8.wrap n=n % 256:=by simp[IntKind.wrap,IntKind.bits,IntKind.signed]
theorem wrap_u64 (n:Int):IntKind.u64.wrap n=n % 18446744073709551616:=by simp[IntKind.wrap,IntKind.bits,IntKind.signed]
theorem Gp (n:Int):IntKind.i64.wrap n=if n % 18446744073709551616>=9223372036854775808 then n % 18446744073709551616-18446744073709551616 else n % 18446744073709551616:=by simp[IntKind.wrap,IntKind.bits,IntKind.signed]
theorem mo:∀k<256,(BitVec.ofInt 8 ((k:Nat):Int) ||| BitVec.ofInt 8 128).toNat=k % 128+128:=by decide +kernel
theorem u8_or {u:Nat}:IntKind.u8.wrap (((BitVec.ofInt 8 (IntKind.u8.wrap (u:Int)) ||| BitVec.ofInt 8 128).toNat:Nat):Int)=((UInt8.ofNat (u % 128+128)).toNat:Int):=by
 have h1:(u:Int) % 256=((u % 256:Nat):Int):=by omega
 rw[wrap_u8 (u:Int),h1,mo (u % 256) (JR _ (by omega)),ofNat_toNat (by omega),wrap_u8];omega
theorem dh {u:Nat}(h:u<=127):IntKind.u8.wrap (u:Int)=((UInt8.ofNat u).toNat:Int):=by
 rw[ofNat_toNat (by omega),wrap_u8];omega
theorem di {u:Nat}:((u:Int).fdiv (2 ^ 7))=((u / 128:Nat):Int):=by
 rw[E6 _ (by decide)];simp
theorem Wr.step {H:AH}{p:Nat}{ro:Option Nat}{bs:List UInt8}(hW:Wr H p ro bs) (hb:bs.length<1099511627776) (x:UInt8) :
  ∃v v' H1 H2,BC none (.ptr p 0) (H.push (.cells [bv x]))=some v/\BC none (.ptr p 0) H=some v/\Bx 1 1 v (.sl H.next 0 1 (.ex 1)) (H.push (.cells [bv x]))=some (v',H1) /\
   H1.cells? p=some [v]/\v'.cellsOf=some [v']/\H2=H1.set p (.cells [v'])/\H2.gl=H.gl/\Wr H2 p (some (H.next+1)) (bs++[x])/\H2.next=H.next+2/\∀q,q<H.next->q≠p->some q≠ro->H2.get q=H.get q:=by
 cases hW with
 | nil hp hlt=>
  have h1:p≠H.next:=by omega
  have h2:p≠H.next+1:=by omega
  refine⟨.nils,.sl (H.next+1) 0 1 (.op 1),(H.push (.cells [bv x])).push (.cells [bv x]),_,?_,?_,?_,?_,rfl,rfl,rfl,?_,by simp,?_⟩
  ·simp[BC,AH.cells?,AH.Af,h1,hp,apart]
  ·simp[BC,AH.cells?,hp,apart]
  ·simp[Bx,Aj,AH.cells?,AH.Af]
  ·simp[AH.cells?,AH.Af,h1,h2,hp]
  ·refine .row (bs:=[x]) ?_ ?_ (by omega) (by simp;omega) (by simp)
   ·simp[AH.AY]
   ·simp[AH.AY,AH.Af,bv];omega
  ·intro q hq hqp hqr
   have h3:q≠H.next:=by omega
   have h4:q≠H.next+1:=by omega
   simp[AH.AY,AH.Af,hqp,h3,h4]
 | row hp hr hne hlt hrt=>
  rename_i r
  have h1:p≠H.next:=by omega
  have h2:p≠H.next+1:=by omega
  have h3:r≠H.next:=by omega
  have h4:¬p=r:=fun e=>hne e.symm
  have h5:bs.length+1<=140737488355328:=by omega
  have h6:bs.length+1<=9223372036854775807:=by omega
  refine⟨.sl r 0 bs.length (.op 1),.sl (H.next+1) 0 (bs.length+1) (.op 1),((H.push (.cells [bv x])).erase r).push (.cells (bs.map bv++[bv x])),_,?_,?_,?_,?_,rfl,rfl,rfl,?_,by simp,?_⟩
  ·simp[BC,AH.cells?,AH.Af,h1,hp,apart]
  ·simp[BC,AH.cells?,hp,apart]
  ·simp[Bx,Aj,AH.cells?,AH.Af,h3,hr,h5,h6,Ac]
  ·simp[AH.cells?,AH.Af,AH.get_erase,h1,h2,h4,hp]
  ·refine .row ?_ ?_ (by omega) (by simp;omega) (by simp)
   ·simp[AH.AY]
   ·have h7:H.next+1≠p:=by omega
    simp[AH.AY,AH.Af,AH.get_erase,h7]
  ·intro q hq hqp hqr
   have h7:q≠H.next:=by omega
   have h8:q≠H.next+1:=by omega
   have h9:q≠r:=fun e=>hqr (by rw[e])
   simp[AH.AY,AH.Af,AH.get_erase,hqp,h7,h8,h9]
theorem iJ {n:Int}(h0:0<=n) (h:GZ n):IntKind.u64.wrap (IntKind.u64.wrap n*2 ^ (min (1:Int).toNat IntKind.u64.bits))=((zz n:Nat):Int):=by
 obtain⟨h1,h2⟩:=h
 have e:(2:Int) ^ (min (1:Int).toNat IntKind.u64.bits)=2:=by rfl
 rw[e,wrap_u64,wrap_u64]
 unfold zz;rw[if_pos h0];omega
theorem xor_not (n:Int):((BitVec.ofInt 64 (-1) ^^^ BitVec.ofInt 64 n).toNat:Int)=(-n-1) % 18446744073709551616:=by
 have e1:BitVec.ofInt 64 (-1)=BitVec.allOnes 64:=by decide
 rw[e1,BitVec.allOnes_xor,BitVec.toNat_not,BitVec.toNat_ofInt]
 have h1:(0:Int)<=n % ((2 ^ 64:Nat):Int):=Int.emod_nonneg _ (by decide)
 have h2:n % ((2 ^ 64:Nat):Int)<18446744073709551616:=Int.emod_lt_of_pos _ (by decide)
 have e2:((2 ^ 64:Nat):Int)=18446744073709551616:=by decide
 rw[e2]at *
 have e3:2 ^ 64=18446744073709551616:=by decide
 rw[e3]
 omega
theorem il (m:Nat) (h:m<9223372036854775808):((BitVec.ofInt 64 ((2*m:Nat):Int) ||| BitVec.ofInt 64 1).toNat)=2*m+1:=by
 rw[Va]
 have e1:(BitVec.ofInt 64 ((2*m:Nat):Int)).toNat=2*m:=by simp;omega
 have e2:(BitVec.ofInt 64 1).toNat=1:=by decide
 rw[e1,e2]
 have:=Lx (i:=1) (b:=1) (by decide) m
 simpa using this.symm
theorem iK {n:Int}(h0:¬0<=n) (h:GZ n) :
  IntKind.u64.wrap (((BitVec.ofInt 64 (IntKind.u64.wrap (IntKind.u64.wrap (IntKind.i64.wrap (((BitVec.ofInt 64 (-1) ^^^ BitVec.ofInt 64 n).toNat:Nat):Int))*2 ^ (min (1:Int).toNat IntKind.u64.bits))) ||| BitVec.ofInt 64 1).toNat:Nat):Int)=((zz n:Nat):Int):=by
 obtain⟨h1,h2⟩:=h
 have e:(2:Int) ^ (min (1:Int).toNat IntKind.u64.bits)=2:=by rfl
 have e1:IntKind.i64.wrap (((BitVec.ofInt 64 (-1) ^^^ BitVec.ofInt 64 n).toNat:Nat):Int)=-n-1:=by
  rw[xor_not,Gp]
  split<;>omega
 rw[e1,e,wrap_u64 (-n-1),wrap_u64]
 have e2:(-n-1) % 18446744073709551616*2 % 18446744073709551616=((2*(-n-1).toNat:Nat):Int):=by omega
 rw[wrap_u64,e2,il _ (by omega)]
 unfold zz;rw[if_neg h0];omega
end
section
open Co
variable {P:Program}
theorem He {e:Env}{H:AH}{y:Ax}{Q:Ex->Env->AH->Prop}{Kp:AV->Env->AH->Prop}(h:D P y Q e H):CJ P [] e H (fun e' H'=>VV (Vl P y Q) .normal e' H') Kp:=Tt (Vg h)
theorem TJ {e:Env}{H:AH}{Q:Ex->Env->AH->Prop}{Kp:AV->Env->AH->Prop}(h:Q .normal e H):CJ P [] e H (fun e' H'=>VV Q .normal e' H') Kp:=Tt (Fu h)
abbrev WQ (H:AH) (p:Nat) (ro:Option Nat) (bs':List UInt8):Ex->Env->AH->Prop:=fun x e H'=>e AN=.tup []/\GN [] (DU H p ro bs') x e H'
theorem Q9.WQ {H H1 H2:AH}{p:Nat}{ro ro1:Option Nat}{e:Env}{bs1 bs2:List UInt8}(hm:Q9 H p ro H1 bs1) (hw:Wr H1 p ro1 bs1) (hro:ro1=ro\/∃r',ro1=some r'/\H.next<=r') (hd:e AN=.tup []) (hg:H2.gl=H1.gl)
  (h2:Wr H2 p (some (H1.next+1)) bs2) (hn:H2.next=H1.next+2) (h4:∀q,q<H1.next->q≠p->some q≠ro1->H2.get q=H1.get q):WQ H p ro bs2 .normal e H2:=by
 have hnx:=hm.nx
 obtain⟨⟨_,_,_⟩,_,fr,gl⟩:=Q9.post hm.nx hro hm.fr hm.gl (r2:=H1.next+1) (by omega) h2 (by omega) h4 hg
 exact⟨hd,rfl,H1.next+1,by omega,h2,by omega,fr,gl⟩
theorem VB {H:AH}{p:Nat}{ro:Option Nat}{all:List UInt8}(hb:all.length<1099511627776) (u0:Nat) (e0:Env) (h0:e0 0=.ptr p 0) (h4:e0 4=.int .u64 (u0:Nat)) (hd:e0 AN=.tup [])
  {bs:List UInt8} (hW:Wr H p ro bs) (hall:bs++Io u0=all):D P (.seq (.block 0 (.loop c_)) (.reg cz)) (WQ H p ro all) e0 H:=by
 refine QP (Xw (jc (fun e H'=>∃(u:Nat) (bs':List UInt8),e 0=.ptr p 0/\e 4=.int .u64 (u:Nat)/\e AN=.tup []/\Q9 H p ro H' bs'/\bs'++Io u=all)
  (fun e _=>match e 4 with | .int _ u=>u.toNat | _=>0) ⟨u0,bs,h0,h4,hd,Q9.refl hW,hall⟩ ?_))
 rintro e H' ⟨u,bs',h0,h4,hd,hm,hall'⟩
 have hd':e 1000000=.tup []:=hd
 obtain⟨ro1,hw,hro⟩:=hm.w
 have hlen:bs'.length<1099511627776:=by
  have:=congrArg List.length hall'
  simp only[Aa]at this;omega
 unfold c_ iD
 refine QP (Dw ?_)
 refine Az (v:=.int .u64 (u:Nat)) (H1:=H') (by simp[A2,AI,AF.ev,h4]) rfl ?_
 refine Az (v:=.bool (decide (127<u))) (H1:=H') (by simp[A2,AI,AF.ev,Env.put,Env.AM,Dl];omega) rfl ?_
 refine He (Jz (t:=decide (127<u)) (by simp[AF.ev,Env.put,Env.AM]) (fun ht=>?_) (fun ht=>?_))
 ·
  have hu:127<u:=by simpa using ht
  refine LX ?_
  have hor:=@u8_or u
  have henc:Io u=UInt8.ofNat (u % 128+128)::Io (u / 128):=by rw[Io,if_neg (by omega)]
  generalize UInt8.ofNat (u % 128+128)=x at hor henc
  obtain⟨v,v',H1,H2,s1,s2,s3,s4,s5,s6,s7,s8,s9,s10⟩:=hw.step hlen x
  refine QP (Xw ?_)
  unfold iC
  refine HF ?_
  refine Az (v:=.ptr p 0) (H1:=H') (by simp[A2,AI,AF.ev,Env.put,Env.AM,h0]) rfl ?_
  refine Az (v:=.ptr p 0) (H1:=H') (by simp[A2,AI,AF.ev,Env.put,Env.AM,h0]) rfl ?_
  refine Az (v:=.ptr p 0) (H1:=H') (by simp[A2,AI,AF.ev,Env.put,Env.AM,I7]) rfl ?_
  refine Az (v:=.ptr p 0) (H1:=H') (by simp[A2,AI,AF.ev,Env.put,Env.AM,Fo]) rfl ?_
  refine Az (v:=v) (H1:=H') (by simp[A2,AI,AZ,AF.ev,Env.put,Env.AM,s2]) rfl ?_
  refine Az (v:=.int .u64 (u:Nat)) (H1:=H') (by simp[A2,AI,AF.ev,Env.put,Env.AM,h4]) rfl ?_
  refine Az (v:=.int .u8 (IntKind.u8.wrap (u:Nat))) (H1:=H') (by simp[A2,AI,AF.ev,Env.put,Env.AM]) rfl ?_
  refine Az (v:=bv x) (H1:=H') (by
   simp only[A2,AI,AF.ev,Env.put,Env.AM,reduceIte,Dl]
   exact congrArg (fun z=>some (AV.int IntKind.u8 z,H')) hor) rfl ?_
  refine Az (v:=.sl H'.next 0 1 (.ex 1)) (H1:=H'.push (.cells [bv x])) (by simp[A2,AI,AZ,BL,B5,AV.cellsOf,AF.ev,Env.put,Env.AM,bv]) rfl ?_
  refine Az (v:=v') (H1:=H1) (by simp[A2,AI,AZ,BL,AF.ev,Env.put,Env.AM,s3]) rfl ?_
  refine Az (v:=.ptr p 0) (H1:=H1) (by simp[A2,AI,AF.ev,Env.put,Env.AM,I7]) rfl ?_
  refine Az (v:=.ptr p 0) (H1:=H1) (by simp[A2,AI,AF.ev,Env.put,Env.AM,Fo]) rfl ?_
  refine Az (v:=.unk) (H1:=H2) (by simp[A2,AI,AZ,BL,AF.ev,Env.put,Env.AM,s4,s5,s6,As]) rfl ?_
  refine TJ (mX (RO ?_))
  unfold iB
  refine HF ?_
  refine Az (v:=.int .u64 (u:Nat)) (H1:=H2) (by simp[A2,AI,AF.ev,Env.put,Env.AM,h4]) rfl ?_
  refine Az (v:=.int .u64 ((u / 128:Nat):Int)) (H1:=H2) (by
   simp only[A2,AI,AF.ev,Env.put,Env.AM,reduceIte,Dl,IntKind.bits]
   have:=@di u
   simp only[show(0:Int)<=7 by omega,if_true,show min (7:Int).toNat 64=7 by decide,this]) rfl ?_
  refine Az (v:=.int .u64 ((u / 128:Nat):Int)) (H1:=H2) (by simp[A2,AI,AF.ev,Env.put,Env.AM]) rfl ?_
  refine TJ (ig ⟨u / 128,bs'++[x],by simp[Env.put,Env.AM,h0],by simp[Env.put,Env.AM],by simp[Env.put,Env.AM,AN,hd'],?_,?_⟩ ?_)
  ·have hnx:=hm.nx
   exact Q9.post hm.nx hro hm.fr hm.gl (r2:=H'.next+1) (by omega) s8 (by omega) s10 s7
  ·rw[<- hall',Ao,henc];rfl
  ·simp[Env.put,Env.AM,h4];omega
 ·
  have hu:u<=127:=by simpa using ht
  refine jd (Vp (T_ (Vq (RO ?_))))
  have hcv:=dh hu
  have hfin:all=bs'++[UInt8.ofNat u]:=by rw[<- hall',Io,if_pos hu]
  generalize UInt8.ofNat u=x at hcv hfin
  obtain⟨v,v',H1,H2,s1,s2,s3,s4,s5,s6,s7,s8,s9,s10⟩:=hw.step hlen x
  unfold cz
  refine HF ?_
  refine Az (v:=.ptr p 0) (H1:=H') (by simp[A2,AI,AF.ev,Env.put,Env.AM,h0]) rfl ?_
  refine Az (v:=.ptr p 0) (H1:=H') (by simp[A2,AI,AF.ev,Env.put,Env.AM,h0]) rfl ?_
  refine Az (v:=.ptr p 0) (H1:=H') (by simp[A2,AI,AF.ev,Env.put,Env.AM,I7]) rfl ?_
  refine Az (v:=.ptr p 0) (H1:=H') (by simp[A2,AI,AF.ev,Env.put,Env.AM,Fo]) rfl ?_
  refine Az (v:=v) (H1:=H') (by simp[A2,AI,AZ,AF.ev,Env.put,Env.AM,s2]) rfl ?_
  refine Az (v:=.int .u64 (u:Nat)) (H1:=H') (by simp[A2,AI,AF.ev,Env.put,Env.AM,h4]) rfl ?_
  refine Az (v:=bv x) (H1:=H') (by simp only[A2,AI,AF.ev,Env.put,Env.AM,reduceIte,bv,hcv]) rfl ?_
  refine Az (v:=.sl H'.next 0 1 (.ex 1)) (H1:=H'.push (.cells [bv x])) (by simp[A2,AI,AZ,BL,B5,AV.cellsOf,AF.ev,Env.put,Env.AM,bv]) rfl ?_
  refine Az (v:=v') (H1:=H1) (by simp[A2,AI,AZ,BL,AF.ev,Env.put,Env.AM,s3]) rfl ?_
  refine Az (v:=.ptr p 0) (H1:=H1) (by simp[A2,AI,AF.ev,Env.put,Env.AM,I7]) rfl ?_
  refine Az (v:=.ptr p 0) (H1:=H1) (by simp[A2,AI,AF.ev,Env.put,Env.AM,Fo]) rfl ?_
  refine Az (v:=.unk) (H1:=H2) (by simp[A2,AI,AZ,BL,AF.ev,Env.put,Env.AM,s4,s5,s6,As]) rfl ?_
  rw[hfin]
  exact TJ (hm.WQ hw hro (by simp[Env.put,Env.AM,AN,hd']) s7 s8 s9 s10)
end
section
open Co
variable {P:Program}
theorem xQ (F:Mh P 53 42 rZ ot){H:AH}{p:Nat}{ro:Option Nat}{bs:List UInt8}{n:Int}(hn:GZ n) (hW:Wr H p ro bs) (hb:(bs++BY n).length<1099511627776) :
  AP P 53 [.ptr p 0,.int .i64 n] H (DU H p ro (bs++BY n)):=by
 refine F.call (by simp) ?_
 show D P rZ (WQ H p ro (bs++BY n)) _ H
 unfold rZ iG iF iE
 refine Dw ?_
 refine Az (v:=.int .i64 n) (H1:=H) (by simp[A2,AI,AF.ev,CI,AN]) rfl ?_
 refine Az (v:=.int .u64 (IntKind.u64.wrap n)) (H1:=H) (by simp[A2,AI,AF.ev,Env.put,Env.AM]) rfl ?_
 refine Az (v:=.int .u64 (IntKind.u64.wrap (IntKind.u64.wrap n*2 ^ (min (1:Int).toNat IntKind.u64.bits)))) (H1:=H) (by simp[A2,AI,AF.ev,Env.put,Env.AM,Dl]) rfl ?_
 refine Az (v:=.int .u64 (IntKind.u64.wrap (IntKind.u64.wrap n*2 ^ (min (1:Int).toNat IntKind.u64.bits)))) (H1:=H) (by simp[A2,AI,AF.ev,Env.put,Env.AM]) rfl ?_
 refine He (QP (Dw ?_))
 refine Az (v:=.int .i64 n) (H1:=H) (by simp[A2,AI,AF.ev,Env.put,Env.AM,CI,AN]) rfl ?_
 refine Az (v:=.bool (decide (n<0))) (H1:=H) (by simp[A2,AI,AF.ev,Env.put,Env.AM,Dl]) rfl ?_
 refine He (Jz (t:=decide (n<0)) (by simp[AF.ev,Env.put,Env.AM]) (fun ht=>?_) (fun ht=>?_))
 ·have h0:¬0<=n:=by
    have:n<0:=by simpa using ht
    omega
  refine HF ?_
  refine Az (v:=.int .i64 n) (H1:=H) (by simp[A2,AI,AF.ev,Env.put,Env.AM,CI,AN]) rfl ?_
  refine Az (v:=.int .i64 (IntKind.i64.wrap (((BitVec.ofInt 64 (-1) ^^^ BitVec.ofInt 64 n).toNat:Nat):Int))) (H1:=H) (by simp only[A2,AI,AF.ev,Env.put,Env.AM,reduceIte,lQ];rfl) rfl ?_
  refine Az (v:=.int .u64 (IntKind.u64.wrap (IntKind.i64.wrap (((BitVec.ofInt 64 (-1) ^^^ BitVec.ofInt 64 n).toNat:Nat):Int)))) (H1:=H) (by simp only[A2,AI,AF.ev,Env.put,Env.AM,reduceIte]) rfl ?_
  refine Az (v:=.int .u64 (IntKind.u64.wrap (IntKind.u64.wrap (IntKind.i64.wrap (((BitVec.ofInt 64 (-1) ^^^ BitVec.ofInt 64 n).toNat:Nat):Int))*2 ^ (min (1:Int).toNat IntKind.u64.bits)))) (H1:=H) (by simp only[A2,AI,AF.ev,Env.put,Env.AM,reduceIte,Dl,show(0:Int)<=1 by omega,if_true]) rfl ?_
  refine Az (v:=.int .u64 ((zz n:Nat):Int)) (H1:=H) (by
   simp only[A2,AI,AF.ev,Env.put,Env.AM,reduceIte,Dl]
   exact congrArg (fun z=>some (AV.int IntKind.u64 z,H)) (iK h0 hn)) rfl ?_
  refine Az (v:=.int .u64 ((zz n:Nat):Int)) (H1:=H) (by simp[A2,AI,AF.ev,Env.put,Env.AM]) rfl ?_
  exact TJ (RO (VB hb (zz n) _ (by simp[Env.put,Env.AM,CI,AN]) (by simp[Env.put,Env.AM]) (by simp[Env.put,Env.AM,CI,AN]) hW rfl))
 ·have h0:0<=n:=by
    have:¬n<0:=by simpa using ht
    omega
  refine LX (RO (VB hb (zz n) _ (by simp[Env.put,Env.AM,CI,AN]) ?_ (by simp[Env.put,Env.AM,CI,AN]) hW rfl))
  have:=iJ h0 hn
  simp only[Env.put,Env.AM,reduceIte]
  exact congrArg (AV.int IntKind.u64) this
end
section
open Co
variable [BX] {P:Program}
theorem DU.Bi {H H':AH}{p:Nat}{ro:Option Nat}{bs:List UInt8}{v:AV}{K:Prop}(h:DU H p ro bs (.Bi v) H'):K:=by cases h.1
theorem DU.get {H H':AH}{p:Nat}{ro:Option Nat}{bs:List UInt8}{v:AV}(h:DU H p ro bs (.ret v) H'):v=.tup []/\∃r',H.next<=r'/\Wr H' p (some r') bs/\Gc H p ro H':=by
 obtain⟨h1,r',h2,h3,h4,h5,h6⟩:=h
 cases h1
 exact⟨rfl,r',h2,h3,h4,h5,h6⟩
def X8 (L:List (Nat × List AV)) (p:Nat) (H:AH) (ro:Option Nat):Prop:=∀x∈L,x.1<H.next/\x.1≠p/\some x.1≠ro/\H.get x.1=some (.cells x.2)
theorem X8.GI {L:List (Nat × List AV)}{p:Nat}{H H':AH}{ro:Option Nat}{r':Nat}(h:X8 L p H ro) (hk:Gc H p ro H') (hr:H.next<=r'):X8 L p H' (some r'):=fun x hx=>by
 obtain⟨h1,h2,h3,h4⟩:=h x hx
 have:=hk.nx
 exact⟨by omega,h2,by simp only[ne_eq,AD];omega,by rw[hk.get _ h1 h2 h3];exact h4⟩
def OH:Nat:=1099511627776
def X7 (P:Program) (L:List (Nat × List AV)) (p:Nat) (fv x:AV) (o:List UInt8):Prop:=∀H ro bs,Wr H p ro bs->X8 L p H ro->(bs++o).length<OH->HJ P fv [x] H (DU H p ro (bs++o))
def Gk (P:Program) (v0 v1 v2:AV) (h:AH) (Post:Am->AH->Prop):Prop:=(
 AB (.len (.cst v1)) fun v3=>
 AG P 53 [v0,v3] h (yp Post) fun v4 h4=>
 AB (.len (.cst v1)) fun v5=>
 Ah [2,12,13,14] (fun J6=>(fun(v7 v8 v9 v10:AV) (h11:AH)=>
 AB (.bin .lss (.cst v10) (.cst v9)) fun v12=>
 AU v12
 (AB (.indexAddrS 1 (.cst v8) (.cst v10)) fun v13=>
 AE (.load none (.cst v13)) h11 fun v14=>
 DT P v7 [v14] h11 (yp Post) fun v15 h15=>
 AB (.bin .add (.cst v10) (.cst (I 1))) fun v16=>
 J6 v7 v8 v9 v16 h15)
 (Post (.ret (.tup [])) h11))) ((((Ar.set 2 v2).set 12 v1).set 13 v5).set 14 (I 0)) h4)
def iH (P:Program):Prop:=∀{H:AH}{p:Nat}{ro:Option Nat}{bs:List UInt8}{n:Int},GZ n->Wr H p ro bs->(bs++BY n).length<OH->AP P 53 [.ptr p 0,.int .i64 n] H (DU H p ro (bs++BY n))
theorem eN (h18:iH P){L:List (Nat × List AV)}{H:AH}{p:Nat}{ro:Option Nat}{bs:List UInt8}{v1 fv:AV}{cs:List AV}{n:Nat}{os:List (List UInt8)}(hf:lG 1 v1 cs n) (hn:GZ (n:Int)) (ho:os.length=n)
  (hW:Wr H p ro bs) (hL:X8 L p H ro) (hs:∀(i:Nat) (x:AV) (o:List UInt8),cs[i]?=some x->os[i]?=some o->X7 P L p fv x o) (hb:(bs++(BY n++os.flatten)).length<OH) :
  Gk P (.ptr p 0) v1 fv H (DU H p ro (bs++(BY n++os.flatten))):=by
 have hlen:AI (.len (.cst v1)) emp=some (.int .i64 (n:Int)):=by cases hf<;>rfl
 unfold Gk
 refine AA hlen ?_
 have hb0:(bs++BY n).length<OH:=by simp only[Aa]at hb ⊢;omega
 refine BK (h18 hn hW hb0) (fun v H1 h1=>?_) (fun v H1 h1=>h1.Bi)
 obtain⟨rfl,r1,q1,q2,q3⟩:=h1.get
 refine AA hlen ?_
 let I:AV->AV->AV->AV->AH->Prop:=fun a b c d H'=>a=fv/\b=v1/\c=.int .i64 (n:Int)/\∃(i r':Nat),d=.int .i64 (i:Int)/\i<=n/\H.next<=r'/\Wr H' p (some r') (bs++(BY n++(os.take i).flatten))/\Gc H p ro H'
 let μ:AV->AV->AV->AV->AH->Nat:=fun _ _ _ d _=>match d with
  | .int _ j=>(n-j).toNat
  | _=>0
 refine⟨I,μ,⟨rfl,rfl,rfl,0,r1,rfl,ON _,q1,by simpa using q2,q3⟩,?_⟩
 intro e H2 hI
 obtain⟨e1,e2,e3,i,r',e4,hi,hr',hw,hk⟩:=(hI:I (e 2) (e 12) (e 13) (e 14) H2)
 show AB (.bin .lss (.cst (e 14)) (.cst (e 13))) _
 rw[e4,e3]
 refine AA (v:=.bool (decide ((i:Int)<n))) rfl (B3 (fun ht=>?_) (fun ht=>?_))
 ·have hlt:i<n:=by have:=of_decide_eq_true ht;omega
  rw[e2,e1]
  have hc:∃x,cs[i]?=some x/\AI (.indexAddrS 1 (.cst v1) (.cst (.int .i64 (i:Int)))) emp=some (.pim cs i):=by
   cases hf with
   | nil=>omega
   | sim h=>
    refine⟨cs[i]'(by omega),Ak (by omega),?_⟩
    have h1:(0:Int)<=(i:Int)/\(i:Int)<(n:Int):=by omega
    simp[AI,AF.ev,E0,h1]
  obtain⟨x,hx,hc⟩:=hc
  obtain⟨o,ho'⟩:∃o,os[i]?=some o:=⟨os[i]'(by omega),Ak (by omega)⟩
  refine AA hc (AX (v:=x) (by simpa[AZ,BC,AF.ev,apart]using hx) ?_)
  have ht1:(os.take (i+1)).flatten=(os.take i).flatten++o:=by
   rw[DZ,ho'];simp
  have hsub:(os.take (i+1)).flatten.length<=os.flatten.length:=by
   conv=>rhs;rw[<- Fw (i+1) os]
   rw[Gz,Aa];omega
  have hb1:((bs++(BY n++(os.take i).flatten))++o).length<OH:=by
   rw[ht1]at hsub
   simp only[Aa]at hb hsub ⊢;omega
  refine SY (hs i x o hx ho' H2 (some r') _ hw (hL.GI hk hr') hb1) (fun v H3 h3=>?_) (fun v H3 h3=>h3.Bi)
  obtain⟨rfl,r2,w1,w2,w3⟩:=h3.get
  have hwr:IntKind.i64.wrap ((i:Int)+1)=((i+1:Nat):Int):=by
   have:((i+1:Nat):Int)=(i:Int)+1:=by omega
   rw[this]
   rw[Gp];have h9:=hn.2;split<;>omega
  refine AA (v:=.int .i64 ((i+1:Nat):Int)) (by show some (AV.int .i64 (IntKind.i64.wrap ((i:Int)+1)))=_;rw[hwr]) ?_
  have hnx:=hk.nx
  refine⟨⟨rfl,rfl,rfl,i+1,r2,rfl,hlt,by omega,?_,hk.trans (fun r hr=>?_) w3⟩,?_⟩
  ·rw[ht1];simpa[Ao]using w2
  ·cases hr;exact .inl hr'
  ·show((n:Int)-((i+1:Nat):Int)).toNat<μ (e 2) (e 12) (e 13) (e 14) H2
   rw[e4]
   show((n:Int)-((i+1:Nat):Int)).toNat<((n:Int)-(i:Int)).toNat
   omega
 ·have hge:i=n:=by have:=of_decide_eq_false ht;omega
  subst hge
  rw[<- ho,Gh]at hw
  rw[<- ho]
  exact .of r' hr' hw hk
end
section
open Co
variable [BX] {P:Program}
theorem BT.w {H H':AH}(h:BT H H') (p:Nat) (ro:Option Nat):Gc H p ro H':=⟨h.nx,fun q hq _ _=>h.get q hq,h.gl⟩
theorem Wr.Uk {H H':AH}{p:Nat}{ro:Option Nat}{bs:List UInt8}(hW:Wr H p ro bs) (h:BT H H'):Wr H' p ro bs:=by
 have hn:=h.nx
 cases hW with
 | nil hp hlt=>exact .nil (by rw[h.get _ hlt];exact hp) (by omega)
 | row hp hr hne hlt hrt=>exact .row (by rw[h.get _ hlt];exact hp) (by rw[h.get _ hrt];exact hr) hne (by omega) (by omega)
theorem X8.Uk {L:List (Nat × List AV)}{p:Nat}{H H':AH}{ro:Option Nat}(h:X8 L p H ro) (hk:BT H H'):X8 L p H' ro:=fun x hx=>by
 obtain⟨h1,h2,h3,h4⟩:=h x hx
 have:=hk.nx
 exact⟨by omega,h2,h3,by rw[hk.get _ h1];exact h4⟩
theorem cS {k:Nat}{z c:List AV}{H:AH}{K:AV->AH->Prop}(hz:z.length=k) (hc:c.length=k) (hK:∀H',BT H H'->H'.get H.next=some (.cells c)->K (.agg c) H') :
  AQ (.alloc z) H fun v15 h15=>AQ (.store k (.cst v15) (.cst (.agg c))) h15 fun _ h16=>AE (.load (some k) (.cst v15)) h16 fun v17=>K v17 h16:=by
 refine Ap (v:=.ptr H.next 0) (H':=H.push (.cells z)) rfl ?_
 have hs:As z 0 c=c:=by rw[DB (by omega)];simp[hc,hz]
 refine Ap (v:=.unk) (H':=(H.push (.cells z)).set H.next (.cells c)) (by simp[BL,AF.ev,AH.cells?,AH.Af,AV.cellsOf,hs,hc,hz]) ?_
 refine AX (v:=.agg c) (by simp[AZ,BC,AF.ev,AH.cells?,AH.AY,apart,hc];exact Ac (by omega)) ?_
 refine hK _ ⟨by simp,fun q hq=>?_,rfl⟩ (by simp[AH.AY])
 have:q≠H.next:=by omega
 simp[AH.AY,AH.Af,this]
theorem TP {x:AV}{c:List AV}{H:AH}{K:AV->AH->Prop}(hx:x.cellsOf=some c) (hK:K (.ptr H.next 0) (H.push (.cells c))):AQ (.box (.cst x)) H K:=
 Ap (v:=.ptr H.next 0) (H':=H.push (.cells c)) (by simp[BL,AF.ev,hx]) hK
def YR (P:Program) (k:Nat) (z:List AV) (v0 v1 v2:AV) (h:AH) (Post:Am->AH->Prop):Prop:=(
 AB (.len (.cst v1)) fun v3=>
 AG P 53 [v0,v3] h (yp Post) fun v4 h4=>
 AB (.len (.cst v1)) fun v5=>
 Ah [2,12,13,14] (fun J6=>(fun(v7 v8 v9 v10:AV) (h11:AH)=>
 AB (.bin .lss (.cst v10) (.cst v9)) fun v12=>
 AU v12
 (AB (.indexAddrS k (.cst v8) (.cst v10)) fun v13=>
 AE (.load (some k) (.cst v13)) h11 fun v14=>
 AQ (.alloc z) h11 fun v15 h15=>
 AQ (.store k (.cst v15) (.cst v14)) h15 fun v16 h16=>
 AE (.load (some k) (.cst v15)) h16 fun v17=>
 DT P v7 [v17] h16 (yp Post) fun v18 h18=>
 AB (.bin .add (.cst v10) (.cst (I 1))) fun v19=>
 J6 v7 v8 v9 v19 h18)
 (Post (.ret (.tup [])) h11))) ((((Ar.set 2 v2).set 12 v1).set 13 v5).set 14 (I 0)) h4)
theorem eM (h18:iH P){k:Nat}{z:List AV}(hz:z.length=k){L:List (Nat × List AV)}{H:AH}{p:Nat}{ro:Option Nat}{bs:List UInt8}{v1 fv:AV}{cs:List AV}{n:Nat}{os:List (List UInt8)}(hf:lG k v1 cs n) (hn:GZ (n:Int)) (ho:os.length=n)
  (hW:Wr H p ro bs) (hL:X8 L p H ro) (hs:∀(i:Nat) (o:List UInt8),os[i]?=some o->X7 P L p fv (.agg ((cs.drop (i*k)).take k)) o) (hb:(bs++(BY n++os.flatten)).length<OH) :
  YR P k z (.ptr p 0) v1 fv H (DU H p ro (bs++(BY n++os.flatten))):=by
 have hlen:AI (.len (.cst v1)) emp=some (.int .i64 (n:Int)):=by cases hf<;>rfl
 unfold YR
 refine AA hlen ?_
 have hb0:(bs++BY n).length<OH:=by simp only[Aa]at hb ⊢;omega
 refine BK (h18 hn hW hb0) (fun v H1 h1=>?_) (fun v H1 h1=>h1.Bi)
 obtain⟨rfl,r1,q1,q2,q3⟩:=h1.get
 refine AA hlen ?_
 let I:AV->AV->AV->AV->AH->Prop:=fun a b c d H'=>a=fv/\b=v1/\c=.int .i64 (n:Int)/\∃(i r':Nat),d=.int .i64 (i:Int)/\i<=n/\H.next<=r'/\Wr H' p (some r') (bs++(BY n++(os.take i).flatten))/\Gc H p ro H'
 let μ:AV->AV->AV->AV->AH->Nat:=fun _ _ _ d _=>match d with
  | .int _ j=>(n-j).toNat
  | _=>0
 refine⟨I,μ,⟨rfl,rfl,rfl,0,r1,rfl,ON _,q1,by simpa using q2,q3⟩,?_⟩
 intro e H2 hI
 obtain⟨e1,e2,e3,i,r',e4,hi,hr',hw,hk⟩:=(hI:I (e 2) (e 12) (e 13) (e 14) H2)
 show AB (.bin .lss (.cst (e 14)) (.cst (e 13))) _
 rw[e4,e3]
 refine AA (v:=.bool (decide ((i:Int)<n))) rfl (B3 (fun ht=>?_) (fun ht=>?_))
 ·have hlt:i<n:=by have:=of_decide_eq_true ht;omega
  rw[e2,e1]
  have hc:((cs.drop (i*k)).take k).length=k/\i*k+k<=cs.length/\AI (.indexAddrS k (.cst v1) (.cst (.int .i64 (i:Int)))) emp=some (.pim cs (i*k)):=by
   cases hf with
   | nil=>omega
   | sim h=>
    have hm:i*k+k<=n*k:=by
     have:(i+1)*k<=n*k:=DW k hlt
     rw[EG,Gw]at this;exact this
    refine⟨?_,by omega,?_⟩
    ·rw[BI,CK];omega
    ·have h1:(0:Int)<=(i:Int)/\(i:Int)<(n:Int):=by omega
     simp[AI,AF.ev,E0,h1]
  obtain⟨hcl,hcm,hc⟩:=hc
  obtain⟨o,ho'⟩:∃o,os[i]?=some o:=⟨os[i]'(by omega),Ak (by omega)⟩
  refine AA hc (AX (v:=.agg ((cs.drop (i*k)).take k)) (by simp[AZ,BC,AF.ev,apart,hcm]) ?_)
  refine cS hz hcl fun H3 hk3 _=>?_
  have ht1:(os.take (i+1)).flatten=(os.take i).flatten++o:=by
   rw[DZ,ho'];simp
  have hsub:(os.take (i+1)).flatten.length<=os.flatten.length:=by
   conv=>rhs;rw[<- Fw (i+1) os]
   rw[Gz,Aa];omega
  have hb1:((bs++(BY n++(os.take i).flatten))++o).length<OH:=by
   rw[ht1]at hsub
   simp only[Aa]at hb hsub ⊢;omega
  refine SY (hs i o ho' H3 (some r') _ (hw.Uk hk3) ((hL.GI hk hr').Uk hk3) hb1) (fun v H4 h4=>?_) (fun v H4 h4=>h4.Bi)
  obtain⟨rfl,r2,w1,w2,w3⟩:=h4.get
  have hwr:IntKind.i64.wrap ((i:Int)+1)=((i+1:Nat):Int):=by
   have:((i+1:Nat):Int)=(i:Int)+1:=by omega
   rw[this,Gp];have h9:=hn.2;split<;>omega
  refine AA (v:=.int .i64 ((i+1:Nat):Int)) (by show some (AV.int .i64 (IntKind.i64.wrap ((i:Int)+1)))=_;rw[hwr]) ?_
  have hnx:=hk.nx
  have hnx3:=hk3.nx
  refine⟨⟨rfl,rfl,rfl,i+1,r2,rfl,hlt,by omega,?_,(hk.trans (fun r hr=>?_) (hk3.w p (some r'))).trans (fun r hr=>?_) w3⟩,?_⟩
  ·rw[ht1];simpa[Ao]using w2
  ·cases hr;exact .inl hr'
  ·cases hr;exact .inl hr'
  ·show((n:Int)-((i+1:Nat):Int)).toNat<μ (e 2) (e 12) (e 13) (e 14) H2
   rw[e4]
   show((n:Int)-((i+1:Nat):Int)).toNat<((n:Int)-(i:Int)).toNat
   omega
 ·have hge:i=n:=by have:=of_decide_eq_false ht;omega
  subst hge
  rw[<- ho,Gh]at hw
  rw[<- ho]
  exact .of r' hr' hw hk
end
section
open Co
variable [BX] {P:Program}
def C9:Ty->Nat
 | .pair a b=>C9 a+C9 b
 | .vec n=>n / 8
 | _=>1
def w8:List UInt8->Nat
 | []=>0
 | x::l=>x.toNat+256*w8 l
def RC:(t:Ty)->t.D->List AV->Prop
 | .int,n,c=>c=[.int .i64 n]
 | .byte,x,c=>c=[bv x]
 | .bool,b,c=>c=[.bool b]
 | .list t,l,c=>∃v cs,c=[v]/\lG (C9 t) v cs (Cm l).length/\∃css:List (List AV),cs=css.flatten/\css.length=(Cm l).length/\∀(i:Nat) (x:t.D) (y:List AV),(Cm l)[i]?=some x->css[i]?=some y->RC t x y
 | .pair a b,p,c=>∃c1 c2,c=c1++c2/\RC a p.1 c1/\RC b p.2 c2
 | .vec n,l,c=>(No l).length=n/\c.length=n / 8/\∀i,i<n / 8->c[i]?=some (.int .u64 ((w8 (((No l).drop (8*i)).take 8):Nat):Int))
theorem GY:∀(t:Ty) (d:t.D) (c:List AV),RC t d c->c.length=C9 t
 | .int,_,c,h=>by have h:c=_:=h;subst h;rfl
 | .byte,_,c,h=>by have h:c=_:=h;subst h;rfl
 | .bool,_,c,h=>by have h:c=_:=h;subst h;rfl
 | .list _,_,c,h=>by obtain⟨v,cs,rfl,_⟩:=h;rfl
 | .pair a b,d,c,h=>by
  obtain⟨c1,c2,rfl,h1,h2⟩:=h
  rw[Aa,GY a _ _ h1,GY b _ _ h2];rfl
 | .vec n,_,c,h=>h.2.1
def X6 (P:Program) (L:List (Nat × List AV)) (p:Nat) (fv:AV) (t:Ty):Prop:=∀(d:t.D) (x:AV),RC t d [x]->t.wf d->X7 P L p fv x (t.enc d)
def Nv (P:Program) (L:List (Nat × List AV)) (p:Nat) (fv:AV) (t:Ty):Prop:=∀(d:t.D) (c:List AV),RC t d c->t.wf d->X7 P L p fv (.agg c) (t.enc d)
theorem LI {t:Ty}{l:(Ty.list t).D}{v1:AV}(hr:RC (.list t) l [v1]):∃cs css,lG (C9 t) v1 cs (Cm l).length/\cs=List.flatten css/\css.length=(Cm l).length/\(∀x∈css,x.length=C9 t) /\
  ∀(i:Nat) (x:t.D) (y:List AV),(Cm l)[i]?=some x->css[i]?=some y->RC t x y:=by
 obtain⟨v,cs,e,hf,css,h1,h2,h3⟩:=hr
 have e:v1=v:=by simpa using e
 subst e
 refine⟨cs,css,hf,h1,h2,fun x hx=>?_,h3⟩
 obtain⟨i,hi⟩:=Cd hx
 have hlt:i<css.length:=by
  rcases B8 i css.length with h | h
  ·exact h
  ·rw[BM h]at hi;cases hi
 exact GY t _ _ (h3 i _ x (Ak (by omega)) hi)
theorem Ep (h18:iH P){t:Ty}(hz:C9 t=1){L:List (Nat × List AV)}{H:AH}{p:Nat}{ro:Option Nat}{bs:List UInt8}{v1 fv:AV}{l:(Ty.list t).D}(hr:RC (.list t) l [v1]) (hw:(Ty.list t).wf l)
  (hW:Wr H p ro bs) (hL:X8 L p H ro) (hs:X6 P L p fv t) (hb:(bs++(Ty.list t).enc l).length<OH):Gk P (.ptr p 0) v1 fv H (DU H p ro (bs++(Ty.list t).enc l)):=by
 obtain⟨cs,css,hf,h1,h2,h3,h4⟩:=LI hr
 have he:(Ty.list t).enc l=BY ((Cm l).length:Int)++((Cm l).map t.enc).flatten:=by
  show _++(Cm l).flatMap t.enc=_
  rw[List.flatMap_def]
 rw[he]at hb ⊢
 rw[hz]at hf
 refine eN h18 hf hw.1 (by simp) hW hL (fun i x o hx ho=>?_) hb
 rw[Bf,AO]at ho
 obtain⟨d,hd,rfl⟩:=ho
 have hlt:i<(Cm l).length:=by
  rcases B8 i (Cm l).length with h | h
  ·exact h
  ·rw[BM h]at hd;cases hd
 have hc:css[i]?=some (css[i]'(by omega)):=Ak (by omega)
 have hR:=h4 i d _ hd hc
 have hy:=Ju css i _ h3 hc
 rw[hz,Fx,<- h1]at hy
 have hx':[x]=css[i]'(by omega):=by
  rw[<- hy]
  have:cs.drop i=x::cs.drop (i+1):=by
   have hi:i<cs.length:=by
    rcases B8 i cs.length with h | h
    ·exact h
    ·rw[BM h]at hx;cases hx
   rw[C8 hi]
   rw[Ak hi]at hx
   simp only[AD]at hx
   rw[hx]
  rw[this];rfl
 rw[<- hx']at hR
 exact hs d x hR (hw.2 d (CU hd))
theorem Eo (h18:iH P){t:Ty}{z:List AV}(hz:z.length=C9 t){L:List (Nat × List AV)}{H:AH}{p:Nat}{ro:Option Nat}{bs:List UInt8}{v1 fv:AV}{l:(Ty.list t).D}(hr:RC (.list t) l [v1]) (hw:(Ty.list t).wf l)
  (hW:Wr H p ro bs) (hL:X8 L p H ro) (hs:Nv P L p fv t) (hb:(bs++(Ty.list t).enc l).length<OH):YR P (C9 t) z (.ptr p 0) v1 fv H (DU H p ro (bs++(Ty.list t).enc l)):=by
 obtain⟨cs,css,hf,h1,h2,h3,h4⟩:=LI hr
 have he:(Ty.list t).enc l=BY ((Cm l).length:Int)++((Cm l).map t.enc).flatten:=by
  show _++(Cm l).flatMap t.enc=_
  rw[List.flatMap_def]
 rw[he]at hb ⊢
 refine eM h18 hz hf hw.1 (by simp) hW hL (fun i o ho=>?_) hb
 rw[Bf,AO]at ho
 obtain⟨d,hd,rfl⟩:=ho
 have hlt:i<(Cm l).length:=by
  rcases B8 i (Cm l).length with h | h
  ·exact h
  ·rw[BM h]at hd;cases hd
 have hc:css[i]?=some (css[i]'(by omega)):=Ak (by omega)
 have hR:=h4 i d _ hd hc
 have hy:=Ju css i _ h3 hc
 rw[<- h1]at hy
 rw[hy]
 exact hs d _ hR (hw.2 d (CU hd))
end
section
open Co
variable [BX] {P:Program}
structure St (H0:AH) (p:Nat) (ro0:Option Nat) (L:List (Nat × List AV)) (H:AH) (ro:Option Nat) (bs:List UInt8):Prop where
 w:Wr H p ro bs
 k:X8 L p H ro
 kw:Gc H0 p ro0 H
 fr:ro=ro0\/∃r,ro=some r/\H0.next<=r
section
variable {H0 H:AH}{p:Nat}{ro0 ro:Option Nat}{L:List (Nat × List AV)}{bs bs':List UInt8}{Post:Am->AH->Prop}
theorem St.start (hW:Wr H p ro bs) (hL:X8 L p H ro):St H p ro L H ro bs:=⟨hW,hL,Gc.refl _ _ _,.inl rfl⟩
theorem St.sq {H':AH}(h:St H0 p ro0 L H ro bs) (hk:BT H H'):St H0 p ro0 L H' ro bs:=by
 refine⟨h.w.Uk hk,h.k.Uk hk,h.kw.trans (ro1:=ro) (fun r hr=>?_) (hk.w p ro),h.fr⟩
 rcases h.fr with e | ⟨r1,e1,e2⟩
 ·exact .inr (by rw[<- e,hr])
 ·rw[hr]at e1;cases e1;exact .inl e2
theorem St.push {c:List AV}(h:St H0 p ro0 L H ro bs):St H0 p ro0 ((H.next,c)::L) (H.push (.cells c)) ro bs:=by
 have h1:=h.sq (BT.push H (.cells c))
 refine⟨h1.w,fun x hx=>?_,h1.kw,h1.fr⟩
 cases hx with
 | head=>
  have hp:=h.w.xF
  refine⟨by simp,by show H.next≠p;omega,?_,by simp⟩
  have hw:=h.w
  cases hw with
  | nil _ _=>simp
  | row _ _ _ _ hrt=>simp only[ne_eq,AD];show H.next≠_;omega
 | tail _ hx=>exact h1.k x hx
theorem St.box {x:AV}{c:List AV}{K:AV->AH->Prop}(h:St H0 p ro0 L H ro bs) (hx:x.cellsOf=some c) (hK:∀H',St H0 p ro0 ((H.next,c)::L) H' ro bs->K (.ptr H.next 0) H'):AQ (.box (.cst x)) H K:=
 TP hx (hK _ h.push)
theorem St.call {g:FuncId}{ar:List AV}{K:AV->AH->Prop}(h:St H0 p ro0 L H ro bs) (hC:AP P g ar H (DU H p ro bs')) (hK:∀H' r',St H0 p ro0 L H' (some r') bs'->H0.next<=r'->K (.tup []) H'):AG P g ar H (yp Post) K:=by
 refine BK hC (fun v H' h'=>?_) (fun v H' h'=>h'.Bi)
 obtain⟨rfl,r',q1,q2,q3⟩:=h'.get
 have hn:=h.kw.nx
 refine hK H' r' ⟨q2,h.k.GI q3 q1,h.kw.trans (ro1:=ro) (fun r hr=>?_) q3,.inr ⟨r',rfl,by omega⟩⟩ (by omega)
 rcases h.fr with e | ⟨r1,e1,e2⟩
 ·exact .inr (by rw[<- e,hr])
 ·rw[hr]at e1;cases e1;exact .inl e2
theorem St.fin {r:Nat}(h:St H0 p ro0 L H (some r) bs) (hr:H0.next<=r):DU H0 p ro0 bs (.ret (.tup [])) H:=.of r hr h.w h.kw
theorem St.ld {q o:Nat}{c:List AV}{x:AV}{K:AV->Prop}(h:St H0 p ro0 L H ro bs) (hm:(q,c)∈L) (hx:c[o]?=some x) (hK:K x):AE (.load none (.cst (.ptr q o))) H K:=by
 obtain⟨_,_,_,h4⟩:=h.k _ hm
 exact AX (v:=x) (by simpa[AZ,BC,AF.ev,AH.cells?,h4,apart]using hx) hK
end
def jv (P:Program) (g:FuncId) (t:Ty):Prop:=∀{H:AH}{p:Nat}{ro:Option Nat}{bs:List UInt8}{d:t.D}{x:AV},RC t d [x]->t.wf d->Wr H p ro bs->(bs++t.enc d).length<OH->AP P g [.ptr p 0,x] H (DU H p ro (bs++t.enc d))
theorem jv.step {g:FuncId}{t:Ty}(h:jv P g t) (L:List (Nat × List AV)) (p:Nat):X6 P L p (.fn (.func g) [.ptr p 0] []) t:=fun _ _ hR hw _ _ _ hW _ hb=>h hR hw hW hb
end
end Go.AL
namespace Go.Proofs.YtlmkmpomgdbjhaaGreatDoor
open Tryz
section
open Go Go.AL Go.AL.Co
variable [BX]
theorem F18:Mh prog 53 42 rZ ot:=Mh.mk' (fn:=f53) (hs:=[]) mix (by kernel_rfl) (by kernel_rfl) (by kernel_rfl) (by kernel_rfl) (by kernel_rfl) (by kernel_rfl)
theorem OF:iH prog:=fun hn hW hb=>xQ F18 hn hW hb
theorem xY:jv prog 53 .int:=fun{H p ro bs d x} hR hw hW hb=>by
 have hR:[x]=[.int .i64 d]:=hR
 cases hR
 exact OF hw hW hb
theorem o9:jv prog 105 .bool:=fun{H p ro bs d x} hR _ hW hb=>by
 have hR:[x]=[.bool d]:=hR
 cases hR
 have:=K49 (H:=H) (p:=p) (ro:=ro) (bs:=bs) d hW (by simp only[Aa]at hb;show _<OH;omega)
 cases d<;>exact this
theorem vn:jv prog 112 .byte:=fun{H p ro bs d x} hR _ hW hb=>by
 have hR:[x]=[bv d]:=hR
 cases hR
 refine uY ?_
 unfold pz
 refine AA (v:=.ptr p 0) rfl (AA (v:=.ptr p 0) rfl (Wz hW ?_))
 refine Ap (v:=.sl H.next 0 1 (.ex 1)) (H':=H.push (.cells [bv d])) (by simp[BL,B5,AF.ev,AV.cellsOf,bv,N]) ?_
 exact Vf hW (by simp only[Aa]at hb;show _<OH;omega) fun H' r' q1 q2 q3=>.of r' q1 q2 q3
theorem o_:jv prog 55 A4:=fun{H p ro bs d x} hR hw hW hb=>by
 refine T55 ?_
 unfold ym
 refine(St.start (L:=[]) hW (fun _ h=>by cases h)).call (uU (?_:Gk prog (.ptr p 0) x (.fn (.func 53) [.ptr p 0] []) H _)) fun H' r' h' hr=>h'.fin hr
 exact Ep OF rfl hR hw hW (fun _ h=>by cases h) (xY.step [] p) hb
theorem S62 {L:List (Nat × List AV)}{p q:Nat}(hq:(q,[AV.ptr p 0])∈L):Nv prog L p (.fn (.func 118) [] [.ptr q 0]) FG:=by
 intro d c hR hw H ro bs hW hL hb
 obtain⟨c1,c2,rfl,h1,h2⟩:=hR
 have h1:c1=[.int .i64 d.1]:=h1
 have h2:c2=[bv d.2]:=h2
 subst h1 h2
 have he:FG.enc d=BY d.1++([(d.2:UInt8)]:List UInt8):=rfl
 rw[he]at hb ⊢
 refine uS ?_
 unfold px
 refine(St.start hW hL).box rfl fun H1 s1=>?_
 refine s1.ld (.tail _ hq) rfl (AA (v:=.ptr H.next 0) rfl (s1.ld (.head _) rfl ?_))
 refine s1.call (OF hw.1 s1.w (by simp only[Aa]at hb ⊢;omega)) fun H2 r2 s2 _=>?_
 refine s2.ld (.tail _ hq) rfl (AA (v:=.ptr H.next 1) rfl (s2.ld (.head _) rfl ?_))
 refine s2.call (vn rfl trivial s2.w (by rw[Ao];exact hb)) fun H3 r3 s3 hr=>?_
 have:=s3.fin hr
 rw[Ao]at this;exact this
theorem rj:jv prog 61 B9:=fun{H p ro bs d x} hR hw hW hb=>by
 refine T61 ?_
 unfold yi
 refine(St.start (L:=[]) hW (fun _ h=>by cases h)).box rfl fun H1 s1=>?_
 refine s1.ld (.head _) rfl ?_
 refine s1.call (uT (?_:YR prog 2 [(I 0),(N .u8 0)] (.ptr p 0) x (.fn (.func 118) [] [.ptr H.next 0]) H1 _)) fun H2 r2 s2 hr=>s2.fin hr
 exact Eo (t:=FG) OF rfl hR hw s1.w s1.k (S62 (.head _)) hb
end
section
open Go Go.AL Go.AL.Co
variable [BX]
theorem S58 {L:List (Nat × List AV)}{p q:Nat}(hq:(q,[AV.ptr p 0])∈L):X6 prog L p (.fn (.func 114) [] [.ptr q 0]) Bo:=by
 intro d x hR hw H ro bs hW hL hb
 refine uW ?_
 unfold py
 have s0:=St.start hW hL
 refine s0.ld hq rfl (s0.ld hq rfl ?_)
 refine s0.call (uV (?_:Gk prog (.ptr p 0) x (.fn (.func 112) [.ptr p 0] []) H _)) fun H2 r2 s2 hr=>s2.fin hr
 exact Ep OF rfl hR hw hW hL (vn.step L p) hb
theorem S55 {L:List (Nat × List AV)}{p q:Nat}(hq:(q,[AV.ptr p 0])∈L):Nv prog L p (.fn (.func 111) [] [.ptr q 0]) EP:=by
 intro d c hR hw H ro bs hW hL hb
 obtain⟨c1,c2,rfl,h1,h2⟩:=hR
 have h1:c1=[.bool d.1]:=h1
 have h2:c2=[bv d.2]:=h2
 subst h1 h2
 have he:EP.enc d=Ty.bool.enc d.1++Ty.byte.enc d.2:=rfl
 rw[he]at hb ⊢
 refine uZ ?_
 unfold p9
 refine(St.start hW hL).box rfl fun H1 s1=>?_
 refine s1.ld (.tail _ hq) rfl (AA (v:=.ptr H.next 0) rfl (s1.ld (.head _) rfl ?_))
 refine s1.call (o9 (d:=d.1) rfl trivial s1.w (by simp only[Aa]at hb ⊢;omega)) fun H2 r2 s2 _=>?_
 refine s2.ld (.tail _ hq) rfl (AA (v:=.ptr H.next 1) rfl (s2.ld (.head _) rfl ?_))
 refine s2.call (vn (d:=d.2) rfl trivial s2.w (by rw[Ao];exact hb)) fun H3 r3 s3 hr=>?_
 have:=s3.fin hr
 rw[Ao]at this;exact this
theorem uo {L:List (Nat × List AV)}{p q:Nat}(hq:(q,[AV.ptr p 0])∈L):Nv prog L p (.fn (.func 109) [] [.ptr q 0]) CA:=by
 intro d c hR hw H ro bs hW hL hb
 obtain⟨c1,c2,rfl,h1,h2⟩:=hR
 have h1:c1=[.int .i64 d.1]:=h1
 obtain⟨v,hv⟩:∃v,c2=[v]:=by obtain⟨v,_,h,_⟩:=h2;exact⟨v,h⟩
 subst h1 hv
 have he:CA.enc d=Ty.int.enc d.1++(Ty.list EP).enc d.2:=rfl
 rw[he]at hb ⊢
 refine ub ?_
 unfold p_
 refine(St.start hW hL).box rfl fun H1 s1=>?_
 refine s1.ld (.tail _ hq) rfl (AA (v:=.ptr H.next 0) rfl (s1.ld (.head _) rfl ?_))
 refine s1.call (xY (d:=d.1) rfl hw.1 s1.w (by simp only[Aa]at hb ⊢;omega)) fun H2 r2 s2 _=>?_
 refine s2.ld (.tail _ hq) rfl (AA (v:=.ptr H.next 1) rfl (s2.ld (.head _) rfl ?_))
 refine s2.call (ua (?_:YR prog 2 [(.bool false),(N .u8 0)] (.ptr p 0) v (.fn (.func 111) [] [.ptr q 0]) H2 (DU H2 p (some r2) (bs++Ty.int.enc d.1++(Ty.list EP).enc d.2)))) fun H3 r3 s3 hr=>?_
 ·exact Eo (t:=EP) OF rfl h2 hw.2 s2.w s2.k (S55 (.tail _ hq)) (by rw[Ao];exact hb)
 ·have:=s3.fin hr
  rw[Ao]at this;exact this
theorem S51 {L:List (Nat × List AV)}{p q:Nat}(hq:(q,[AV.ptr p 0])∈L):X6 prog L p (.fn (.func 107) [] [.ptr q 0]) (.list CA):=by
 intro d x hR hw H ro bs hW hL hb
 refine ud ?_
 unfold qB
 have s0:=St.start hW hL
 refine s0.ld hq rfl ?_
 refine s0.call (uc (?_:YR prog 2 [(I 0),.nils] (.ptr p 0) x (.fn (.func 109) [] [.ptr q 0]) H _)) fun H2 r2 s2 hr=>s2.fin hr
 exact Eo (t:=CA) OF rfl hR hw hW hL (uo hq) hb
theorem vQ {L:List (Nat × List AV)}{p q:Nat}(hq:(q,[AV.ptr p 0])∈L):Nv prog L p (.fn (.func 60) [] [.ptr q 0]) FU:=by
 intro d c hR hw H ro bs hW hL hb
 obtain⟨c1,c2,rfl,h1,h2⟩:=hR
 obtain⟨v1,hv1⟩:∃v,c1=[v]:=by obtain⟨v,_,h,_⟩:=h1;exact⟨v,h⟩
 obtain⟨v2,hv2⟩:∃v,c2=[v]:=by obtain⟨v,_,h,_⟩:=h2;exact⟨v,h⟩
 subst hv1 hv2
 have he:FU.enc d=B9.enc d.1++B9.enc d.2:=rfl
 rw[he]at hb ⊢
 refine T60 ?_
 unfold yj
 refine(St.start hW hL).box rfl fun H1 s1=>?_
 refine s1.ld (.tail _ hq) rfl (AA (v:=.ptr H.next 0) rfl (s1.ld (.head _) rfl ?_))
 refine s1.call (rj (d:=d.1) h1 hw.1 s1.w (by simp only[Aa]at hb ⊢;omega)) fun H2 r2 s2 _=>?_
 refine s2.ld (.tail _ hq) rfl (AA (v:=.ptr H.next 1) rfl (s2.ld (.head _) rfl ?_))
 refine s2.call (rj (d:=d.2) h2 hw.2 s2.w (by rw[Ao];exact hb)) fun H3 r3 s3 hr=>?_
 have:=s3.fin hr
 rw[Ao]at this;exact this
end
end Go.Proofs.YtlmkmpomgdbjhaaGreatDoor
