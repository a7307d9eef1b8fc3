import Derived.Test.YtlmkmpomgdbjhaaGreatDoorZa10
import Derived.Test.YtlmkmpomgdbjhaaGreatDoorProg
/-
  a part of the proof.
-/
set_option linter.unusedSectionVars false
set_option linter.unusedVariables false
set_option linter.unusedSimpArgs false
namespace Go.Proofs.YtlmkmpomgdbjhaaGreatDoor.San
open Tryz
section
open Go Go.AL
theorem Pp:prog.follows .mixedOrders=true:=by kernel_rfl
variable [BX]
theorem tS {g:FuncId}{fn:Func}{F:GF}(hf:prog.funcs[g]?=some fn) (ho:lN prog fn=true) (hF:F=xI prog fn):Aw prog g F:=sA Pp hf ho hF
def H46:Hints:=[(5,[(0,0,[],false),(1,1,[],false),(2,0,[1],true),(3,7,[],true)])]
theorem A46:∀all H,all.length=2->FW prog 46 all none H fun H'=>H'=H:=NB (fn:=f46) (n:=18) (hs:=H46) (ra:=5) (rb:=2) (rc:=6) (rd:=7) Pp (by kernel_rfl) (by kernel_rfl) (by kernel_rfl) (by kernel_rfl) (by kernel_rfl) (by kernel_rfl) (by kernel_rfl) (by kernel_rfl) (by kernel_rfl)
def vu:Hints:=[]
theorem wy:∀all H,all.length=2->FW prog 171 all none H fun H'=>H'=H:=NB (fn:=f171) (n:=16) (hs:=vu) (ra:=5) (rb:=2) (rc:=6) (rd:=7) Pp (by kernel_rfl) (by kernel_rfl) (by kernel_rfl) (by kernel_rfl) (by kernel_rfl) (by kernel_rfl) (by kernel_rfl) (by kernel_rfl) (by kernel_rfl)
def vq:Hints:=[(5,[(0,0,[],false),(1,1,[],false),(2,0,[],false),(3,4,[],false),(4,0,[1,3],true),(5,19,[3],true),(6,63,[],true)])]
theorem wx:∀all H,all.length=3->FW prog 395 all none H fun H'=>H'=H:=NB (fn:=f395) (n:=21) (hs:=vq) (ra:=6) (rb:=3) (rc:=7) (rd:=8) Pp (by kernel_rfl) (by kernel_rfl) (by kernel_rfl) (by kernel_rfl) (by kernel_rfl) (by kernel_rfl) (by kernel_rfl) (by kernel_rfl) (by kernel_rfl)
noncomputable def zK:GF:=fun cl ar h=>Yh (An ar fun s ar=>Bn ar (
 CO [.nils] p0 h fun b o=>
 CO [(I 0)] p0 o fun f p=>
 D4 [.nils] [.mk 0 1 s] fun t=>
 Dp t p fun g q=>
 BQ cl 47 [g,(.fn (.func 48) [g] [])] q fun u r=>
 BJ 1 b u r fun e=>
 Dn g fun v=>
 BH 0 v fun w=>
 AT none w e fun x=>
 A8 x fun j=>
 BD .gtr j (I 0) fun k=>
 A7 k
 (BJ 1 b .nils e fun i=>
 BJ 1 f (I 4) i fun a=>
 AT none b a fun m=>
 AT none f a fun d=>
 .ret (.tup [m,d]) a)
 (AT none b e fun l=>
 BJ 1 b l e fun a=>
 BJ 1 f (I 0) a fun c=>
 AT none b c fun d=>
 AT none f c fun n=>
 .ret (.tup [d,n]) c)))
def ya:Hints:=[]
theorem rh:Aw prog 23 zK:=Uh (fn:=f23) (n:=20) (np:=1) (hs:=ya) (q:=[.cell 2 none,.cell 3 none]) (t:=5) (g:=46) (cp:=[(.tmp 2),(.tmp 3)]) [.l] (t3:=(.s .l (.s .l (.s (.s .l (.i (.s .l .l) .l)) (.s .l .l))))) Pp (by kernel_rfl) (by kernel_rfl) (by kernel_rfl) (by kernel_rfl) (by kernel_rfl) (by kernel_rfl) (by kernel_rfl) (by kernel_rfl) (by kernel_rfl) (by kernel_rfl) (by kernel_rfl) (by kernel_rfl) A46 (by kernel_rfl)
noncomputable def zJ:GF:=fun cl ar h=>An ar fun m ar=>An ar fun n ar=>Bn ar (
 BG (CT [0,1,5]) (fun l=>(fun(j k a:AV) (d:KH)=>
 Bh a (I 64) fun o=>
 A7 o
 (Ci .u64 k fun p=>
 BD .shr p a fun q=>
 Ci .u8 q fun e=>
 C_ [(N .u8 0)] 1 [.mk 0 1 e] d fun f b=>
 Du 1 1 j f b fun g c=>
 BZ a (I 8) fun i=>
 l g k i c)
 (.ret j d))) m n (I 0) h)
theorem vQ:Aw prog 25 zJ:=tS func25 (by kernel_rfl) (by kernel_rfl)
noncomputable def zI:GF:=fun cl ar h=>Yh (An ar fun v0 ar=>An ar fun t ar=>Bn ar (
 Dp v0 h fun m h2=>
 CO ((I 0)::(Bl 4 .nils ((I 0)::[]))) p0 h2 fun n h3=>
 CO [(I 0)] p0 h3 fun o h4=>
 AT (some 6) m h4 fun v5=>
 BQ cl 71 [v5] h4 fun v6 G=>
 Kj v6 (I 0) fun v7=>
 A7 v7
 (D4 ((I 0)::(Bl 4 .nils ((I 0)::[]))) [] fun Z=>
 BJ 6 n Z G fun h9=>
 BJ 1 o v6 h9 fun e2=>
 KC.bad)
 (BH 5 m fun Z=>
 AT none Z G fun v9=>
 A8 v9 fun a7=>
 BD .gtr a7 (I 0) fun M=>
 Dt false M (fun(e4 u:AV) (L:KH)=>
 DA M (.bool true) u fun O=>
 Dt false O (fun(e5 v:AV) (i:KH)=>
 DA O (.bool true) v fun a8=>
 A7 a8
 (D4 ((I 0)::(Bl 4 .nils ((I 0)::[]))) [] fun w=>
 BJ 6 n w i fun a0=>
 BJ 1 o (I 1) a0 fun e3=>
 KC.bad)
 (AT (some 6) m i fun w=>
 BH 1 m fun a9=>
 AT none a9 i fun b0=>
 A8 b0 fun b1=>
 BH 2 m fun b2=>
 AT none b2 i fun b3=>
 A8 b3 fun b4=>
 BZ b1 b4 fun b5=>
 D4 (Bl 6 .nils ((I 0)::(.nils::((I 0)::(Bl 2 .nils ((.bool false)::[])))))) [.mk 0 6 w,.mk 6 1 b5,.mk 8 1 t] fun b6=>
 Dp b6 i fun b7 a1=>
 CO [.nilp] p0 a1 fun a a2=>
 BJ 1 a b7 a2 fun c=>
 AT none a c fun Q=>
 AT none a c fun b8=>
 AT none a c fun R=>
 AT none a c fun U=>
 AT none a c fun V=>
 AT none a c fun W=>
 AT none a c fun X=>
 AT none a c fun Y=>
 Ve (Bl 6 .nilf []) 6 [.mk 0 1 (.fn (.func 75) [R] []),.mk 1 1 (.fn (.func 76) [U] []),.mk 2 1 (.fn (.func 77) [V] []),.mk 3 1 (.fn (.func 78) [W] []),.mk 4 1 (.fn (.func 79) [X] []),.mk 5 1 (.fn (.func 80) [Y] [])] fun c40 g40=>CO c40 g40 c fun b9 a4=>
 BQ cl 74 [b8] a4 fun c0 d=>
 GA (cond (Yg c.nx c40 d) (cond (IK (Et none a d) Y) (cond (IK (Et none a d) X) (cond (IK (Et none a d) W) (cond (IK (Et none a d) V) (cond (IK (Et none a d) U) (cond (IK (Et none a d) R) (cond (IK (Et none a d) Q) true false) false) false) false) false) false) false) false) (BQ cl 73 [Q,c0,b9] d fun e6 b=>
 GA true (AT none a b fun c1=>
 Dn c1 fun c2=>
 BH 10 c2 fun c3=>
 AT none c3 b fun c4=>
 A8 c4 fun c5=>
 JX c5 (I 0) fun c6=>
 A7 c6
 (AT none a b fun x=>
 Dn x fun y=>
 BH 9 y fun z=>
 AT none z b fun A=>
 AT none a b fun l=>
 Dn l fun f=>
 BH 8 f fun g=>
 AT none g b fun B=>
 D4 ((I 0)::(Bl 4 .nils ((I 0)::[]))) [.mk 0 1 (I 2),.mk 3 1 A,.mk 5 1 B] fun k=>
 BJ 6 n k b fun a5=>
 BJ 1 o (I 0) a5 fun j=>
 AT (some 6) n j fun D=>
 AT none o j fun E=>
 .ret (.tup [D,E]) j)
 (AT none a b fun x=>
 Dn x fun y=>
 BH 11 y fun z=>
 AT none z b fun A=>
 JW A (fun(l f g:AV) (e:KH)=>
 AT none g e fun k=>
 Dn k fun C=>
 BH 10 C fun c7=>
 AT none c7 e fun D=>
 AT none g e fun E=>
 Dn E fun c9=>
 BH 8 c9 fun d0=>
 AT none d0 e fun d1=>
 D4 ((I 0)::(Bl 4 .nils ((I 0)::[]))) [.mk 0 1 (I 3),.mk 4 1 D,.mk 5 1 d1] fun d2=>
 BJ 6 l d2 e fun a6=>
 BJ 1 f (I 0) a6 fun s=>
 AT (some 6) l s fun d3=>
 AT none f s fun d4=>
 .ret (.tup [d3,d4]) s)
 (fun r=>AT none a b fun f=>
 AT (some 6) m b fun g=>
 C_ (Bl 6 .nils []) 1 [.mk 0 6 g] b fun B e=>
 Dn f fun k=>
 BH 10 k fun C=>
 BJ 1 C B e fun j=>
 r n o a j)
 (fun r=>r n o a b)))))) (fun q=>
 BD .gtr t (I 1073741824) fun v=>
 q t v L) (fun q=>q Ad Ad L)) (fun p=>
 Bh t (I 0) fun u=>
 p t u G) (fun p=>p Ad Ad G))))
def yZ:Hints:=[(8,[(0,0,[],false),(1,0,[],false),(3,0,[],false),(4,8,[],false),(5,0,[],false),(6,32,[],false),(7,0,[],false),(8,128,[],false),(9,0,[],false),(10,512,[],false),(11,0,[],false),(12,2048,[],false),(13,0,[],false),(14,8192,[],false),(15,32760,[],false),(2,2,[0,3,5,7,9,11,13,15],true),(16,65535,[],true)]),(10,[(0,0,[],false),(1,1,[],false),(2,3,[],false),(3,7,[],false),(4,0,[],false),(5,16,[],false),(6,48,[],false),(7,112,[],false),(8,255,[],false),(9,511,[],true),(10,1023,[],true)]),(13,[(0,0,[],false),(1,1,[],false),(2,3,[],false),(3,7,[],false),(4,0,[],false),(5,16,[],false),(6,48,[],false),(7,112,[],false),(8,255,[],false),(9,511,[],true),(10,1023,[],true)])]
theorem S35:Aw prog 35 zI:=Uh (fn:=f35) (n:=89) (np:=2) (hs:=yZ) (q:=[.cell 4 (some 6),.cell 5 none]) (t:=38) (g:=72) (cp:=[(.tmp 7),(.tmp 4),(.tmp 5)]) [.l,(.s .l (.s .l (.i (.s .l .l) .l))),(.s .l (.i (.s .l .l) .l)),.l] (t3:=(.s .l (.s (.s .l (.i (.s .l .l) .l)) (.s (.s .l (.j [4,5,7] .l .l)) (.s .l .l))))) Pp (by kernel_rfl) (by kernel_rfl) (by kernel_rfl) (by kernel_rfl) (by kernel_rfl) (by kernel_rfl) (by kernel_rfl) (by kernel_rfl) (by kernel_rfl) (by kernel_rfl) (by kernel_rfl) (by kernel_rfl) A72 (by kernel_rfl)
noncomputable def zH:GF:=fun cl ar h=>An ar fun V ar=>An ar fun W ar=>Bn ar (
 Dp V h fun X O=>
 CO (Bl 32 (N .u8 0) []) p0 O fun Y Q=>
 CO (Bl 64 (N .u8 0) []) p0 Q fun Z R=>
 CO (Bl 64 (N .u8 0) []) p0 R fun v5 U=>
 BG (CT [1,2,4,5,6,10]) (fun M=>(fun(s t q k l a:AV) (d:KH)=>
 Bh a (I 64) fun C=>
 A7 C
 (Bh a (I 32) fun m=>
 JW m (fun(n c b r f g i o:AV) (e:KH)=>
 BD .xor i (N .u8 54) fun p=>
 BD .xor i (N .u8 92) fun D=>
 Ds 64 1 r g fun E=>
 BJ 1 E p e fun A=>
 Ds 64 1 f g fun G=>
 BJ 1 G D A fun B=>
 BZ o (I 1) fun L=>
 M n c b r f L B)
 (fun j=>Ds 32 1 t a fun c=>
 AT none c d fun b=>
 j s t q k l a b a d)
 (fun j=>j s t q k l a (N .u8 0) a d))
 (N_ (.sliceA 64 1 (.cst k) none none none) fun m=>
 C_ [.nils,.nils] 2 [.mk 0 1 m,.mk 1 1 s] d fun n u=>
 BQ cl 88 [n] u fun c v=>
 CO (Bl 32 (N .u8 0) []) p0 v fun b w=>
 BJ 32 b c w fun x=>
 N_ (.sliceA 64 1 (.cst l) none none none) fun f=>
 N_ (.sliceA 32 1 (.cst b) none none none) fun g=>
 C_ [.nils,.nils] 2 [.mk 0 1 f,.mk 1 1 g] x fun i y=>
 BQ cl 88 [i] y fun o z=>
 BJ 32 q o z fun e=>
 AT (some 32) q e fun p=>
 .ret p e))) W X Y Z v5 (I 0) U)
theorem u_:Aw prog 43 zH:=tS func43 (by kernel_rfl) (by kernel_rfl)
noncomputable def zG:GF:=fun cl ar h=>An ar fun j ar=>Bn ar (
 A8 j fun z=>
 BG (CT [0,3,9,10,11]) (fun y=>(fun(k v w x l:AV) (i:KH)=>
 Bh l x fun A=>
 A7 A
 (Av 1 w l fun e=>
 AT none e i fun f=>
 A8 f fun p=>
 BZ v p fun a=>
 Bh a (I 0) fun b=>
 A7 b
 (RG (.ifc 9 (.str [108,101,110,32,111,117,116,32,111,102,32,114,97,110,103,101])) i)
 (BZ l (I 1) fun c=>
 y k a w x c i))
 (BQ cl 89 [.nils,v] i fun e n=>
 A8 k fun f=>
 BG (CT [6,25,26,27]) (fun m=>(fun(a b c g:AV) (d:KH)=>
 Bh g c fun q=>
 A7 q
 (Av 1 b g fun r=>
 AT none r d fun s=>
 Du 1 1 a s d fun t o=>
 BZ g (I 1) fun u=>
 m t b c u o)
 (.ret a d))) e k f (I 0) n))) j (I 0) j z (I 0) h)
theorem S44:Aw prog 44 zG:=tS func44 (by kernel_rfl) (by kernel_rfl)
noncomputable def zF:GF:=fun cl ar h=>An ar fun u ar=>An ar fun o ar=>Bn ar (
 Ci .u64 o fun A=>
 BD .shl A (N .u64 1) fun B=>
 Bh o (I 0) fun C=>
 JW C (fun(D p:AV) (z:KH)=>
 BG (CT [0,4]) (fun y=>(fun(a c:AV) (b:KH)=>
 BD .gtr c (N .u64 127) fun v=>
 A7 v
 (Dn a fun e=>
 BH 0 e fun f=>
 AT none f b fun g=>
 Ci .u8 c fun i=>
 BD .or i (N .u8 128) fun j=>
 C_ [(N .u8 0)] 1 [.mk 0 1 j] b fun k d=>
 Du 1 1 g k d fun l r=>
 Dn a fun m=>
 BH 0 m fun w=>
 BJ 1 w l r fun t=>
 BD .shr c (N .u64 7) fun x=>
 y a x t)
 (Dn a fun e=>
 BH 0 e fun f=>
 AT none f b fun g=>
 Ci .u8 c fun i=>
 C_ [(N .u8 0)] 1 [.mk 0 1 i] b fun j q=>
 Du 1 1 g j q fun k d=>
 Dn a fun l=>
 BH 0 l fun m=>
 BJ 1 m k d fun s=>
 .ret (.tup []) s))) D p z)
 (fun n=>Nz .xor o fun p=>
 Ci .u64 p fun E=>
 BD .shl E (N .u64 1) fun G=>
 BD .or G (N .u64 1) fun a=>
 n u a h)
 (fun n=>n u B h))
theorem uo:Aw prog 53 zF:=tS func53 (by kernel_rfl) (by kernel_rfl)
noncomputable def zE:GF:=fun cl ar h=>Yh (An ar fun v0 ar=>An ar fun v1 ar=>An ar fun v2 ar=>Bn ar (
 Dp v0 h fun v3 h3=>
 Dp v1 h3 fun y h4=>
 CO [.nils] p0 h4 fun q h5=>
 CO [(I 0)] p0 h5 fun s Q=>
 AT (some 2) v3 Q fun v7=>
 BQ cl 169 [v7] Q fun v8 h8=>
 F_ 0 v8 fun v9=>
 F_ 1 v8 fun R=>
 CO [(I 0),(I 0),.nils] p0 h8 fun U z=>
 BJ 3 U v9 z fun g=>
 Kj R (I 0) fun x=>
 Dt false x (fun(d7 n e:AV) (i:KH)=>
 DA x (.bool true) e fun W=>
 A7 W
 (BJ 1 q .nils i fun B=>
 BJ 1 s (I 1) B fun d6=>
 KC.bad)
 (AT (some 2) v3 i fun X=>
 D4 [.nils,.nils,.nils] [.mk 0 2 X] fun Y=>
 Dp Y i fun o t=>
 BH 0 y fun Z=>
 AT none Z t fun a0=>
 BQ cl 172 [a0] t fun a1 C=>
 D4 (Bl 6 .nils ((.bool false)::((I 0)::(Bl 4 .nils ((I 0)::(.nils::((I 0)::(.nils::((I 0)::(.nils::((I 0)::(.nils::((I 0)::(.nils::((I 0)::(.nils::((I 0)::(.nils::((I 0)::(.nils::((I 0)::(.nils::((I 0)::(.nils::((I 0)::(.nils::(Bl 5 (I 0) (Bl 4 (N .u64 0) (.nils::(Bl 2 (.bool false) (Bl 2 .nils []))))))))))))))))))))))))))))))) [.mk 39 4 a1,.mk 45 1 (.bool true)] fun a2=>
 Dp a2 C fun a u=>
 BH 1 y fun a3=>
 AT none a3 u fun a4=>
 BQ cl 173 [a,a4,v2] u fun a5 D=>
 CO [(I 0),(N .u8 0)] p0 D fun b E=>
 BJ 2 b a5 E fun c=>
 AT (some 2) b c fun p=>
 Ve [(I 0),(N .u8 0)] 1 [.mk 0 2 p] fun c33 g33=>CO c33 g33 c fun a7 v=>
 Dn a fun a8=>
 BH 39 a8 fun a9=>
 AT (some 4) a9 v fun b0=>
 BQ cl 176 [b0] v fun b1 j=>
 GA (cond (Yg c.nx c33 j) (cond (IK (Et (some 2) b j) p) true false) false) (BZ b1 (.str [42]) fun b2=>
 BQ cl 175 [b2] j fun b3 k=>
 GA (cond (Yg c.nx c33 k) (cond (IK (Et (some 2) b k) p) true false) false) (BQ cl 174 [a,a7,b3,(.bool false)] k fun d8 w=>
 GA true (AT (some 2) b w fun b4=>
 BQ cl 177 [a,(I 0),b4] w fun d9 G=>
 BQ cl 179 [a,(I 0)] G fun b5 L=>
 BQ cl 178 [o,b5] L fun e0 d=>
 Dn o fun b6=>
 BH 2 b6 fun b7=>
 AT none b7 d fun b8=>
 A8 b8 fun b9=>
 BD .gtr b9 (I 64) fun c0=>
 A7 c0
 (BJ 1 q .nils d fun M=>
 BJ 1 s (I 2) M fun l=>
 AT none q l fun r=>
 AT none s l fun c3=>
 .ret (.tup [r,c3]) l)
 (Dn o fun c1=>
 BH 2 c1 fun c2=>
 AT none c2 d fun r=>
 BJ 1 q r d fun O=>
 BJ 1 s (I 0) O fun m=>
 AT none q m fun c4=>
 AT none s m fun c5=>
 .ret (.tup [c4,c5]) m)))))) (fun f=>
 AT (some 2) y g fun n=>
 BQ cl 170 [n] g fun e A=>
 Nz .not e fun V=>
 f n e V A) (fun f=>f Ad Ad Ad g)))
def H82:Hints:=[(8,[(0,0,[],false),(1,0,[],false),(2,2,[],false),(3,0,[],false),(4,8,[],false),(5,24,[],false),(6,56,[],false),(7,120,[1,2],true),(8,248,[],false),(9,504,[1,2],true),(10,1023,[],true)])]
theorem S82:Aw prog 82 zE:=Uj (fn:=f82) (n:=67) (np:=3) (hs:=H82) (q:=[.cell 6 none,.cell 7 none]) (t:=25) (g:=171) (cp:=[(.tmp 6),(.tmp 7)]) (t0:=.l) (t1:=(.s .l (.s .l (.i (.s .l .l) .l)))) (t3:=(.s .l (.s .l (.s .l (.s .l (.s .l (.s .l (.s (.s .l (.i (.s .l .l) .l)) (.s .l .l))))))))) Pp (by kernel_rfl) (by kernel_rfl) (by kernel_rfl) (by kernel_rfl) (by kernel_rfl) (by kernel_rfl) (by kernel_rfl) (by kernel_rfl) (by kernel_rfl) (by kernel_rfl) (by kernel_rfl) (by kernel_rfl) wy (by kernel_rfl)
noncomputable def zD:GF:=fun cl ar h=>An ar fun y ar=>Bn ar (
 CO (Bl 32 (N .u8 0) []) p0 h fun W V=>
 A8 y fun X=>
 BG (CT [2,3,8,9,10]) (fun U=>(fun(q O Q R r:AV) (p:KH)=>
 Bh r R fun z=>
 A7 z
 (Av 1 Q r fun a=>
 AT none a p fun A=>
 BG (CT [2,3,5,6,8,9,10,14]) (fun s=>(fun(j k b l m n o c:AV) (i:KH)=>
 Bh c (I 8) fun C=>
 A7 C
 (A8 b fun d=>
 Ci .u64 d fun e=>
 NG (I 8) c fun f=>
 BD .shr e f fun D=>
 Ci .u8 D fun E=>
 C_ [(N .u8 0)] 1 [.mk 0 1 E] i fun G w=>
 Du 1 1 l G w fun L x=>
 BZ c (I 1) fun M=>
 s j k b L m n o M x)
 (C_ [.nils,.nils] 2 [.mk 0 1 l,.mk 1 1 b] i fun d u=>
 Du 1 24 k d u fun e v=>
 BZ o (I 1) fun f=>
 U j e m n f v))) q O A .nils Q R r (I 0) p)
 (BQ cl 88 [O] p fun a t=>
 BJ 32 q a t fun g=>
 AT (some 32) q g fun B=>
 .ret B g))) W .nils y X (I 0) V)
theorem S87:Aw prog 87 zD:=tS func87 (by kernel_rfl) (by kernel_rfl)
noncomputable def zC:GF:=fun cl ar h=>An ar fun p ar=>An ar fun d ar=>Bn ar (
 AT none d h fun q=>
 A8 q fun r=>
 BD .sub r (I 1) fun s=>
 BG (CT [0,1,3]) (fun o=>(fun(m n b:AV) (a:KH)=>
 BD .geq b (I 0) fun e=>
 A7 e
 (AT none n a fun f=>
 Av 1 f b fun g=>
 AT none g a fun i=>
 Sa cl m [b,i] a fun j c=>
 Nz .not j fun k=>
 A7 k
 (.ret (.tup []) c)
 (BD .sub b (I 1) fun l=>
 o m n l c))
 (.ret (.tup []) a))) p d s h)
theorem S90:Aw prog 90 zC:=tS func90 (by kernel_rfl) (by kernel_rfl)
noncomputable def zB:GF:=fun cl ar h=>An ar fun Q ar=>Bn ar (
 BG (CT [0,3,4]) (fun M=>(fun(x R o:AV) (O:KH)=>
 BQ cl 184 [x] O fun c v=>
 JX o (I 9) fun L=>
 Dt true L (fun(W u:AV) (p:KH)=>
 DA L u (.bool false) fun g=>
 Dt false g (fun(U i s:AV) (q:KH)=>
 Dt true s (fun(V j:AV) (r:KH)=>
 Dt false g (fun(w:AV) (a:KH)=>
 DA g (.bool true) w fun z=>
 A7 z
 (D4 [(I 0)] [.mk 0 1 (I 4)] fun k=>
 RG (.ifc 139 k) a)
 (BD .and c (N .u8 127) fun k=>
 Ci .u64 k fun A=>
 NG (I 7) o fun B=>
 BD .shl A B fun C=>
 BD .or R C fun b=>
 Bh c (N .u8 128) fun D=>
 A7 D
 (BD .and b (N .u64 1) fun l=>
 JX l (N .u64 1) fun E=>
 A7 E
 (BD .shr b (N .u64 1) fun m=>
 Ci .i64 m fun n=>
 Nz .xor n fun G=>
 .ret G a)
 (BD .shr b (N .u64 1) fun m=>
 Ci .i64 m fun n=>
 .ret n a))
 (BZ o (I 1) fun l=>
 M x b l a))) (fun f=>
 DA s j (.bool false) fun y=>
 f y r) (fun f=>f Ad r)) (fun e=>
 JX c (N .u8 0) fun j=>
 e c j q) (fun e=>e Ad Ad q)) (fun d=>
 BD .gtr o (I 0) fun i=>
 d o i i p) (fun d=>d Ad Ad Ad p)) (fun t=>
 BD .gtr c (N .u8 1) fun u=>
 t c u v) (fun t=>t Ad Ad v))) Q (N .u64 0) (I 0) h)
theorem S91:Aw prog 91 zB:=tS func91 (by kernel_rfl) (by kernel_rfl)
noncomputable def rB:GF:=fun cl ar h=>An ar fun D ar=>An ar fun E ar=>Bn ar (
 Dp E h fun G k=>
 AT (some 4) G k fun L=>
 BG (CT [0,7,8]) (fun C=>(fun(M B i:AV) (o:KH)=>
 Bh i (I 4) fun O=>
 A7 O
 (N_ (.indexA 4 1 none (.cst B) (.cst i)) fun p=>
 BG (CT [0,5,7,8,11]) (fun j=>(fun(a e f g c:AV) (b:KH)=>
 Bh c (I 8) fun q=>
 A7 q
 (Dn a fun d=>
 BH 0 d fun r=>
 AT none r b fun s=>
 NG (I 8) c fun t=>
 BD .shr e t fun u=>
 Ci .u8 u fun v=>
 C_ [(N .u8 0)] 1 [.mk 0 1 v] b fun w l=>
 Du 1 1 s w l fun x m=>
 Dn a fun y=>
 BH 0 y fun z=>
 BJ 1 z x m fun n=>
 BZ c (I 1) fun A=>
 j a e f g A n)
 (BZ g (I 1) fun d=>
 C a f d b))) M p B i (I 0) o)
 (.ret (.tup []) o))) D L (I 0) k)
theorem vj:Aw prog 103 rB:=tS func103 (by kernel_rfl) (by kernel_rfl)
noncomputable def rA:GF:=fun cl ar h=>An ar fun o ar=>An ar fun c ar=>An ar fun p ar=>Bn ar (
 A8 c fun q=>
 BQ cl 53 [o,q] h fun t n=>
 A8 c fun r=>
 BG (CT [2,12,13,14]) (fun m=>(fun(j k l b:AV) (a:KH)=>
 Bh b l fun e=>
 A7 e
 (Av 1 k b fun f=>
 AT none f a fun g=>
 Sa cl j [g] a fun s d=>
 BZ b (I 1) fun i=>
 m j k l i d)
 (.ret (.tup []) a))) p c r (I 0) n)
theorem vh:Aw prog 116 rA:=tS func116 (by kernel_rfl) (by kernel_rfl)
noncomputable def q_:GF:=fun cl ar h=>An ar fun b ar=>An ar fun g ar=>An ar fun c ar=>Bn ar (
 Tr g b fun d=>
 Dt true d (fun(k e i:AV) (f:KH)=>
 DA d i (.bool false) fun j=>
 .ret j f) (fun a=>
 Tr b c fun e=>
 a b c e h) (fun a=>a Ad Ad Ad h))
theorem vg:Aw prog 140 q_:=tS func140 (by kernel_rfl) (by kernel_rfl)
noncomputable def qy:GF:=fun cl ar h=>An ar fun j ar=>Bn ar (
 CO (Bl 4 (N .u64 0) []) p0 h fun s q=>
 CO (Bl 4 (N .u64 0) []) p0 q fun t r=>
 A8 j fun u=>
 BG (CT [2,3,6,7,8]) (fun p=>(fun(e f n o g:AV) (a:KH)=>
 Bh g o fun k=>
 A7 k
 (Av 1 n g fun b=>
 AT none b a fun l=>
 BQ cl 286 [f,l] a fun d i=>
 BZ g (I 1) fun m=>
 p e f n o m i)
 (AT (some 4) f a fun b=>
 BJ 4 e b a fun c=>
 AT (some 4) e c fun d=>
 .ret d c))) s t j u (I 0) r)
theorem vX:Aw prog 172 qy:=tS func172 (by kernel_rfl) (by kernel_rfl)
noncomputable def qx:GF:=fun cl ar h=>An ar fun d ar=>Bn ar (
 Dp d h fun e a=>
 AT (some 4) e a fun f=>
 BQ cl 297 [f] a fun g b=>
 BQ cl 296 [g] b fun i c=>
 .ret i c)
theorem vW:Aw prog 180 qx:=tS func180 (by kernel_rfl) (by kernel_rfl)
noncomputable def qv:GF:=fun cl ar h=>An ar fun a ar=>Bn ar (
 Dn a fun l=>
 BH 0 l fun m=>
 AT none m h fun n=>
 A8 n fun o=>
 JX o (I 0) fun p=>
 A7 p
 (D4 [(I 0)] [.mk 0 1 (I 5)] fun b=>
 RG (.ifc 139 b) h)
 (Dn a fun b=>
 BH 0 b fun q=>
 AT none q h fun r=>
 Av 1 r (I 0) fun s=>
 AT none s h fun d=>
 Dn a fun e=>
 BH 0 e fun f=>
 AT none f h fun g=>
 N_ (.sliceS 1 (.cst g) (some (.cst (I 1))) none none) fun i=>
 Dn a fun j=>
 BH 0 j fun k=>
 BJ 1 k i h fun c=>
 .ret d c))
theorem vV:Aw prog 184 qv:=tS func184 (by kernel_rfl) (by kernel_rfl)
noncomputable def qu:GF:=fun cl ar h=>An ar fun x ar=>Bn ar (
 CO (Bl 4 (N .u64 0) []) p0 h fun y v=>
 CO (Bl 4 (N .u64 0) []) p0 v fun z w=>
 BG (CT [0,2,3,5]) (fun u=>(fun(t j d e:AV) (c:KH)=>
 Bh e (I 32) fun A=>
 A7 A
 (BD .quo e (I 8) fun a=>
 Ds 4 1 d a fun i=>
 AT none i c fun b=>
 BD .rem e (I 8) fun l=>
 NG (I 8) l fun m=>
 BQ cl 184 [t] c fun n g=>
 GA (cond (IK (Et none i g) b) true false) (Ci .u64 n fun o=>
 BD .shl o m fun p=>
 BD .or b p fun q=>
 Ds 4 1 d a fun r=>
 BJ 1 r q g fun k=>
 GA true (BZ e (I 1) fun s=>
 u t j d s k)))
 (AT (some 4) d c fun a=>
 BJ 4 j a c fun f=>
 AT (some 4) j f fun b=>
 .ret b f))) x y z (I 0) w)
theorem vU:Aw prog 187 qu:=tS func187 (by kernel_rfl) (by kernel_rfl)
noncomputable def qq:GF:=fun cl ar h=>An ar fun b ar=>An ar fun l ar=>Bn ar (
 Dp l h fun f d=>
 A8 b fun m=>
 Tr m (I 24) fun g=>
 Dt true g (fun(o c i n:AV) (k:KH)=>
 DA g n (.bool false) fun e=>
 .ret e k) (fun a=>
 BQ cl 322 [b,(.fn (.func 323) [] [f])] d fun c j=>
 Nz .not c fun i=>
 a b (.fn (.func 323) [] [f]) c i j) (fun a=>a Ad Ad Ad Ad d))
theorem vT:Aw prog 215 qq:=tS func215 (by kernel_rfl) (by kernel_rfl)
noncomputable def qp:GF:=fun cl ar h=>An ar fun l ar=>Bn ar (
 Dp l h fun b a=>
 BH 0 b fun m=>
 AT none m a fun n=>
 A8 n fun o=>
 BH 1 b fun p=>
 AT none p a fun q=>
 A8 q fun r=>
 BZ o r fun s=>
 BH 2 b fun t=>
 AT none t a fun c=>
 A8 c fun d=>
 BZ s d fun e=>
 BH 3 b fun f=>
 AT none f a fun g=>
 A8 g fun i=>
 BZ e i fun j=>
 JX j (I 0) fun k=>
 .ret k a)
theorem vS:Aw prog 218 qp:=tS func218 (by kernel_rfl) (by kernel_rfl)
noncomputable def qn:GF:=fun cl ar h=>An ar fun v0 ar=>Bn ar (
 Dp v0 h fun v h1=>
 BH 1 v fun v2=>
 AT none v2 h1 fun v3=>
 A8 v3 fun w=>
 Bh w (I 1) fun v5=>
 Dt false v5 (fun(v6 v7:AV) (h8:KH)=>
 DA v5 (.bool true) v7 fun v9=>
 Dt false v9 (fun(f6 E G L M:AV) (B:KH)=>
 DA v9 (.bool true) M fun a9=>
 Dt false a9 (fun(f7 O Q q:AV) (C:KH)=>
 DA a9 (.bool true) q fun b0=>
 Dt false b0 (fun(f8 R U r:AV) (a6:KH)=>
 DA b0 (.bool true) r fun d5=>
 A7 d5
 (.ret (.bool false) a6)
 (CO (Bl 4 (N .u64 0) []) p0 a6 fun d6 a7=>
 BH 0 v fun d7=>
 AT none d7 a7 fun b1=>
 A8 b1 fun d8=>
 BG (CT [1,3,4,40,41,42]) (fun c7=>(fun(V b2 j b3 b4 W:AV) (n:KH)=>
 Bh W b4 fun d9=>
 A7 d9
 (Av 4 b3 W fun X=>
 AT (some 4) X n fun Y=>
 CO (Bl 4 (N .u64 0) []) p0 n fun b c9=>
 BJ 4 b Y c9 fun f=>
 AT (some 4) b f fun Z=>
 D4 (Bl 4 (N .u64 0) []) [] fun s=>
 N_ (.eq false (.wide (true,[(.i .u64),(.i .u64),(.i .u64),(.i .u64)])) (.cst Z) (.cst s)) fun t=>
 Dt false t (fun(f9 c k d a:AV) (o:KH)=>
 DA t (.bool true) a fun e2=>
 A7 e2
 (.ret (.bool false) o)
 (AT (some 4) j o fun a0=>
 AT (some 4) b o fun a1=>
 BQ cl 325 [a0,a1] o fun m d1=>
 BJ 4 j m d1 fun d2=>
 BZ W (I 1) fun a2=>
 c7 V b2 j b3 b4 a2 d2)) (fun e=>
 AT (some 4) j f fun c=>
 AT (some 4) b f fun k=>
 BQ cl 324 [c,k] f fun d d0=>
 D4 (Bl 4 (N .u64 0) []) [] fun a=>
 N_ (.eq true (.wide (true,[(.i .u64),(.i .u64),(.i .u64),(.i .u64)])) (.cst d) (.cst a)) fun l=>
 e c k d a l d0) (fun e=>e Ad Ad Ad Ad Ad f))
 (AT (some 4) j n fun X=>
 BQ cl 326 [X] n fun Y D=>
 D4 (Bl 4 (N .u64 0) []) [] fun b=>
 N_ (.eq true (.wide (true,[(.i .u64),(.i .u64),(.i .u64),(.i .u64)])) (.cst Y) (.cst b)) fun e0=>
 A7 e0
 (.ret (.bool false) D)
 (BH 1 V fun Z=>
 AT none Z D fun s=>
 A8 s fun t=>
 BG (CT [1,3,65,66,67]) (fun e=>(fun(c k d a l:AV) (g:KH)=>
 Bh l a fun a0=>
 A7 a0
 (Av 1 d l fun a1=>
 AT none a1 g fun m=>
 A8 m fun e3=>
 BH 0 c fun a2=>
 AT none a2 g fun e4=>
 A8 e4 fun e5=>
 Kj e3 e5 fun e6=>
 A7 e6
 (.ret (.bool false) g)
 (A8 m fun e7=>
 BG (CT [1,3,65,66,67,77,78,79]) (fun c8=>(fun(b5 u b6 b7 b8 b9 c0 a3:AV) (p:KH)=>
 Bh a3 c0 fun e8=>
 A7 e8
 (Av 1 b9 a3 fun a4=>
 AT none a4 p fun a5=>
 Bh a5 (I 0) fun c1=>
 Dt false c1 (fun(g0 c2 e9:AV) (a8:KH)=>
 DA c1 (.bool true) e9 fun f0=>
 A7 f0
 (.ret (.bool false) a8)
 (BZ a3 (I 1) fun f1=>
 c8 b5 u b6 b7 b8 b9 c0 f1 a8)) (fun A=>
 BD .geq a5 u fun c2=>
 A a5 u c2 p) (fun A=>A Ad Ad Ad p))
 (BZ b8 (I 1) fun a4=>
 e b5 u b6 b7 a4 p))) c k d a l m e7 (I 0) g))
 (.ret (.bool true) g))) V b2 s t (I 0) D)))) v w d6 b1 d8 (I 0) a7)) (fun z=>
 BH 0 v fun R=>
 AT none R C fun U=>
 A8 U fun r=>
 BD .gtr r (I 256) fun d4=>
 z R U r d4 C) (fun z=>z Ad Ad Ad Ad C)) (fun y=>
 BH 0 v fun O=>
 AT none O B fun Q=>
 A8 Q fun q=>
 Bh q (I 1) fun d3=>
 y O Q q d3 B) (fun y=>y Ad Ad Ad Ad B)) (fun x=>
 BH 2 v fun E=>
 AT none E h8 fun G=>
 A8 G fun L=>
 Kj L w fun M=>
 x E G L w M h8) (fun x=>x Ad Ad Ad Ad Ad h8)) (fun J6=>
 BD .gtr w (I 64) fun v7=>
 J6 w v7 h1) (fun J6=>J6 Ad Ad h1))
theorem vR:Aw prog 219 qn:=tS func219 (by kernel_rfl) (by kernel_rfl)
noncomputable def qm:GF:=fun cl ar h=>An ar fun x ar=>An ar fun y ar=>Bn ar (
 Dp x h fun z u=>
 Dp y u fun A v=>
 CO (Bl 16 (.bool false) []) p0 v fun B w=>
 BG (CT [2,3,4,6]) (fun t=>(fun(g s l b:AV) (a:KH)=>
 Bh b (I 16) fun o=>
 A7 o
 (Ds 16 1 g b fun d=>
 AT none d a fun j=>
 Dt false j (fun(k e f:AV) (m:KH)=>
 DA j (.bool true) f fun p=>
 Ds 16 1 g b fun q=>
 BJ 1 q p m fun n=>
 BZ b (I 1) fun r=>
 t g s l r n) (fun c=>
 Ds 16 1 s b fun e=>
 AT none e a fun f=>
 c b e f a) (fun c=>c Ad Ad Ad a))
 (AT (some 16) g a fun d=>
 BJ 16 l d a fun i=>
 AT (some 16) l i fun k=>
 .ret k i))) z A B (I 0) w)
theorem vP:Aw prog 282 qm:=tS func282 (by kernel_rfl) (by kernel_rfl)
noncomputable def ql:GF:=fun cl ar h=>An ar fun b ar=>An ar fun c ar=>Bn ar (
 BD .quo c (N .u8 64) fun e=>
 Dn b fun f=>
 Ds 4 1 f e fun g=>
 AT none g h fun i=>
 BD .rem c (N .u8 64) fun j=>
 BD .shl (N .u64 1) j fun k=>
 BD .or i k fun l=>
 Dn b fun m=>
 Ds 4 1 m e fun d=>
 BJ 1 d l h fun a=>
 .ret (.tup []) a)
theorem vO:Aw prog 286 ql:=tS func286 (by kernel_rfl) (by kernel_rfl)
noncomputable def qj:GF:=fun cl ar h=>Yh (An ar fun i ar=>Bn ar (
 CO [.nils] p0 h fun p W=>
 CO [(I 0)] p0 W fun q X=>
 CO [(I 0)] p0 X fun r w=>
 N_ (.lenStr (.cst i)) fun Z=>
 BD .gtr Z (I 4000) fun v5=>
 A7 v5
 (BJ 1 p .nils w fun Y=>
 BJ 1 q (I 0) Y fun o=>
 BJ 1 r (I 2) o fun m=>
 KC.bad)
 (D4 [(.str []),(I 0),.nils] [.mk 0 1 i] fun v6=>
 Dp v6 w fun l o=>
 BQ cl 396 [l] o fun v8 m=>
 Dn l fun v9=>
 BH 1 v9 fun x=>
 AT none x m fun y=>
 N_ (.lenStr (.cst i)) fun z=>
 Bh y z fun A=>
 JW A (fun(B b e f n:AV) (c:KH)=>
 Dn n fun C=>
 BH 2 C fun D=>
 AT none D c fun E=>
 A8 E fun G=>
 BD .gtr G (I 200) fun L=>
 A7 L
 (N_ (.lenStr (.cst B)) fun j=>
 BJ 1 b .nils c fun t=>
 BJ 1 e j t fun u=>
 BJ 1 f (I 2) u fun a=>
 AT none b a fun Q=>
 AT none e a fun R=>
 AT none f a fun k=>
 .ret (.tup [Q,R,k]) a)
 (Dn n fun j=>
 BH 2 j fun M=>
 AT none M c fun O=>
 BJ 1 b O c fun a=>
 BJ 1 e (I 0) a fun v=>
 BJ 1 f (I 0) v fun d=>
 AT none b d fun k=>
 AT none e d fun U=>
 AT none f d fun V=>
 .ret (.tup [k,U,V]) d))
 (fun g=>BQ cl 397 [l] m fun b s=>
 g i p q r l s)
 (fun g=>g i p q r l m))))
def vt:Hints:=[]
theorem vN:Aw prog 288 qj:=Uj (fn:=f288) (n:=36) (np:=1) (hs:=vt) (q:=[.cell 2 none,.cell 3 none,.cell 4 none]) (t:=9) (g:=395) (cp:=[(.tmp 2),(.tmp 3),(.tmp 4)]) (t0:=.l) (t1:=(.s .l (.i (.s .l .l) .l))) (t3:=(.s .l (.s .l (.s (.s .l (.j [0,2,3,4,5] .l .l)) (.s (.s .l (.i (.s .l .l) .l)) (.s .l .l)))))) Pp (by kernel_rfl) (by kernel_rfl) (by kernel_rfl) (by kernel_rfl) (by kernel_rfl) (by kernel_rfl) (by kernel_rfl) (by kernel_rfl) (by kernel_rfl) (by kernel_rfl) (by kernel_rfl) (by kernel_rfl) wx (by kernel_rfl)
noncomputable def qi:GF:=fun cl ar h=>An ar fun b ar=>Bn ar (
 BQ cl 410 [.nils,b] h fun c a=>
 .ret c a)
theorem vM:Aw prog 296 qi:=tS func296 (by kernel_rfl) (by kernel_rfl)
noncomputable def qh:GF:=fun cl ar h=>An ar fun b ar=>Bn ar (
 Dp b h fun c a=>
 .ret (.fn (.func 411) [] [c]) a)
theorem vL:Aw prog 297 qh:=tS func297 (by kernel_rfl) (by kernel_rfl)
noncomputable def qg:GF:=fun cl ar h=>An ar fun b ar=>An ar fun c ar=>Bn ar (
 BQ cl 431 [b,c] h fun d a=>
 BD .geq d (I 0) fun e=>
 .ret e a)
theorem vK:Aw prog 322 qg:=tS func322 (by kernel_rfl) (by kernel_rfl)
noncomputable def qf:GF:=fun cl ar h=>An ar fun A ar=>An ar fun B ar=>Bn ar (
 Dp A h fun n i=>
 BH 0 n fun C=>
 AT none C i fun D=>
 Bh D (.int .i64 (-1)) fun z=>
 Dt false z (fun(L r s o:AV) (f:KH)=>
 DA z (.bool true) o fun j=>
 Dt false j (fun(E k l a:AV) (g:KH)=>
 Dt true a (fun(G m b:AV) (p:KH)=>
 Dt false j (fun(w:AV) (t:KH)=>
 DA j (.bool true) w fun y=>
 .ret y t) (fun e=>
 DA a b (.bool false) fun x=>
 e x p) (fun e=>e Ad p)) (fun d=>
 BH 1 n fun m=>
 AT none m g fun b=>
 Kj b (N .u8 0) fun v=>
 d m b v g) (fun d=>d Ad Ad Ad g)) (fun c=>
 BH 0 n fun k=>
 AT none k f fun l=>
 BD .geq l (I 0) fun a=>
 c k l a a f) (fun c=>c Ad Ad Ad Ad f)) (fun q=>
 BH 0 n fun r=>
 AT none r i fun s=>
 AT none B i fun o=>
 BD .geq s o fun u=>
 q r s o u i) (fun q=>q Ad Ad Ad Ad i))
theorem vJ:Aw prog 323 qf:=tS func323 (by kernel_rfl) (by kernel_rfl)
noncomputable def qe:GF:=fun cl ar h=>An ar fun g ar=>An ar fun i ar=>Bn ar (
 Dp g h fun j d=>
 Dp i d fun k e=>
 CO (Bl 4 (N .u64 0) []) p0 e fun c a=>
 AT (some 4) j a fun l=>
 AT (some 4) k a fun m=>
 BQ cl 432 [l,m,(.fn (.func 433) [] [])] a fun n f=>
 BJ 4 c n f fun b=>
 AT (some 4) c b fun o=>
 .ret o b)
theorem vI:Aw prog 324 qe:=tS func324 (by kernel_rfl) (by kernel_rfl)
noncomputable def qa:GF:=fun cl ar h=>An ar fun g ar=>An ar fun i ar=>Bn ar (
 Dp g h fun j d=>
 Dp i d fun k e=>
 CO (Bl 4 (N .u64 0) []) p0 e fun c a=>
 AT (some 4) j a fun l=>
 AT (some 4) k a fun m=>
 BQ cl 432 [l,m,(.fn (.func 434) [] [])] a fun n f=>
 BJ 4 c n f fun b=>
 AT (some 4) c b fun o=>
 .ret o b)
theorem vH:Aw prog 325 qa:=tS func325 (by kernel_rfl) (by kernel_rfl)
noncomputable def qZ:GF:=fun cl ar h=>An ar fun g ar=>Bn ar (
 Dp g h fun c e=>
 CO (Bl 4 (N .u64 0) []) p0 e fun d a=>
 AT (some 4) c a fun i=>
 AT (some 4) c a fun j=>
 BQ cl 432 [i,j,(.fn (.func 435) [] [])] a fun k f=>
 BJ 4 d k f fun b=>
 AT (some 4) d b fun l=>
 .ret l b)
theorem vG:Aw prog 326 qZ:=tS func326 (by kernel_rfl) (by kernel_rfl)
noncomputable def qY:GF:=fun cl ar h=>An ar fun d ar=>Bn ar (
 BD .shr d (N .u64 1) fun o=>
 BD .and o (N .u64 6148914691236517205) fun p=>
 BD .and d (N .u64 6148914691236517205) fun q=>
 BZ p q fun m=>
 BD .shr m (N .u64 2) fun r=>
 BD .and r (N .u64 3689348814741910323) fun s=>
 BD .and m (N .u64 3689348814741910323) fun t=>
 BZ s t fun n=>
 BD .shr n (N .u64 4) fun u=>
 BZ u n fun e=>
 BD .and e (N .u64 1085102592571150095) fun a=>
 BD .shr a (N .u64 8) fun f=>
 BZ a f fun b=>
 BD .shr b (N .u64 16) fun g=>
 BZ b g fun c=>
 BD .shr c (N .u64 32) fun i=>
 BZ c i fun j=>
 Ci .i64 j fun k=>
 BD .and k (I 127) fun l=>
 .ret l h)
theorem vF:Aw prog 340 qY:=tS func340 (by kernel_rfl) (by kernel_rfl)
noncomputable def qX:GF:=fun cl ar h=>An ar fun v0 ar=>Bn ar (
 Dp v0 h fun l h1=>
 CO (Bl 257 (I 0) (Bl 2 .nils [])) p0 h1 fun v2 k=>
 BH 0 l fun v3=>
 AT none v3 k fun v4=>
 A8 v4 fun v5=>
 BH 1 l fun v6=>
 AT none v6 k fun v7=>
 BH 2 l fun v8=>
 AT none v8 k fun v9=>
 D4 (Bl 257 (I 0) (Bl 2 .nils [])) [.mk 256 1 v5,.mk 257 1 v7,.mk 258 1 v9] fun O=>
 CO (Bl 257 (I 0) (Bl 2 .nils [])) p0 k fun p E=>
 BJ 259 p O E fun m=>
 BH 0 l fun Q=>
 AT none Q m fun q=>
 A8 q fun R=>
 BG (CT [2,3,17,18,19]) (fun C=>(fun(e r s t b:AV) (a:KH)=>
 Bh b t fun U=>
 A7 U
 (Av 4 s b fun f=>
 AT (some 4) f a fun V=>
 CO (Bl 4 (N .u64 0) []) p0 a fun c G=>
 BJ 4 c V G fun o=>
 AT (some 4) c o fun W=>
 BQ cl 180 [W] o fun u L=>
 A8 u fun X=>
 BG (CT [2,3,4,17,18,19,25,26,27]) (fun D=>(fun(v g w x y z A B i:AV) (d:KH)=>
 Bh i B fun Y=>
 A7 Y
 (Av 1 A i fun j=>
 AT none j d fun Z=>
 BH 0 g fun a0=>
 Ds 256 1 a0 Z fun a1=>
 BJ 1 a1 w d fun M=>
 BZ i (I 1) fun a2=>
 D v g w x y z A B a2 M)
 (BZ z (I 1) fun j=>
 C v g x y j d))) e r b s t b u X (I 0) L)
 (AT (some 259) r a fun f=>
 BJ 259 e f a fun n=>
 AT (some 259) e n fun c=>
 .ret c n))) v2 p q R (I 0) m)
theorem vE:Aw prog 341 qX:=tS func341 (by kernel_rfl) (by kernel_rfl)
noncomputable def qW:GF:=fun cl ar h=>An ar fun v0 ar=>Bn ar (
 Dp v0 h fun s h1=>
 CO [.nils,.nils,.nils] p0 h1 fun v2 h2=>
 AT (some 259) s h2 fun v3=>
 AT (some 259) s h2 fun v4=>
 BQ cl 443 [v4] h2 fun v5 h5=>
 GA (cond (IK (Et (some 259) s h5) v3) true false) (BQ cl 442 [v3,v5] h5 fun v6 h6=>
 GA true (F_ 0 v6 fun v7=>
 F_ 1 v6 fun v8=>
 AT (some 259) s h6 fun v9=>
 BQ cl 444 [v9,v7,v8] h6 fun b0 e2=>
 F_ 0 b0 fun f9=>
 F_ 1 b0 fun g0=>
 D4 [.nils,.nils,.nils] [.mk 0 1 g0] fun g1=>
 CO [.nils,.nils,.nils] p0 e2 fun b1 e3=>
 BJ 3 b1 g1 e3 fun e4=>
 A8 v8 fun b2=>
 Iu 8 [(I 0)] b2 b2 e4 fun b3 a8=>
 Av 1 v7 (I 0) fun g2=>
 AT none g2 a8 fun g3=>
 C_ [(I 0)] 1 [.mk 0 1 g3] a8 fun g4 e5=>
 A8 b3 fun g5=>
 BG (CT [1,2,3,4,5,7,8,9,41,42]) (fun d9=>(fun(b4 b5 t b6 b7 b8 k b9 c0 u:AV) (r:KH)=>
 Bh u c0 fun g7=>
 A7 g7
 (Av 1 k u fun v=>
 BJ 1 v (.int .i64 (-1)) r fun e6=>
 BZ u (I 1) fun w=>
 d9 b4 b5 t b6 b7 b8 k b9 c0 w e6)
 (Av 1 t (I 0) fun v=>
 AT none v r fun g8=>
 Av 1 k g8 fun w=>
 BJ 1 w (I 0) r fun e7=>
 BG (CT [1,2,3,4,5,7,8,9,11]) (fun e0=>(fun(g9 x i0 c1 l c2 i1 y z:AV) (e:KH)=>
 A8 y fun i2=>
 Bh z i2 fun i3=>
 A7 i3
 (Av 1 y z fun A=>
 AT none A e fun i4=>
 Av 1 c1 i4 fun B=>
 AT none B e fun i5=>
 A8 l fun c3=>
 Iu 8 [(I 0)] c3 c3 e fun i6 e9=>
 A8 l fun i7=>
 BG (CT [1,2,3,4,5,7,8,9,11,12,13,70,71,72]) (fun e1=>(fun(f C m D E b g n G o L M O d:AV) (a:KH)=>
 Bh d O fun i9=>
 A7 i9
 (Av 1 M d fun Q=>
 AT none Q a fun R=>
 BH 257 f fun U=>
 AT none U a fun V=>
 Av 1 V o fun W=>
 AT none W a fun j0=>
 Av 1 j0 R fun X=>
 AT none X a fun Y=>
 Av 1 m Y fun Z=>
 AT none Z a fun c=>
 Av 1 g c fun a0=>
 AT none a0 a fun a1=>
 Bh a1 (I 0) fun a2=>
 JW a2 (fun(a3 i a4 a5 a6 a7 c4 j1 j2 j3 c5 c8 c9 d0 d1 d2:AV) (q:KH)=>
 Av 1 c4 c9 fun d3=>
 AT none d3 q fun d4=>
 Av 1 c5 c8 fun d5=>
 BJ 1 d5 d4 q fun c6=>
 BZ d2 (I 1) fun d6=>
 e1 a3 i a4 a5 a6 a7 c4 j1 j2 j3 c5 d0 d1 d6 c6)
 (fun p=>A8 n fun i=>
 Av 1 g c fun a4=>
 BJ 1 a4 i a fun f6=>
 C_ [(I 0)] 1 [.mk 0 1 c] f6 fun a6 f7=>
 Du 1 8 n a6 f7 fun a7 f8=>
 p f C m D E b g a7 G o L d c M O d f8)
 (fun p=>p f C m D E b g n G o L d c M O d a))
 (BH 1 b fun Q=>
 AT none Q a fun R=>
 C_ [.nils] 1 [.mk 0 1 L] a fun U f1=>
 Du 1 24 R U f1 fun V f2=>
 BH 1 b fun W=>
 BJ 1 W V f2 fun j=>
 BH 2 b fun X=>
 AT none X j fun Y=>
 BH 258 f fun Z=>
 AT none Z j fun c=>
 Av 1 c o fun a0=>
 AT none a0 j fun a1=>
 C_ [(.bool false)] 1 [.mk 0 1 a1] j fun a2 f3=>
 Du 1 1 Y a2 f3 fun a3 f4=>
 BH 2 b fun i=>
 BJ 1 i a3 f4 fun f5=>
 BZ G (I 1) fun a5=>
 e0 f C m D E b g n a5 f5))) g9 x i0 c1 l c2 i1 y z i5 i6 l i7 (I 0) e9)
 (AT (some 3) c2 e fun A=>
 BJ 3 x A e fun a9=>
 AT (some 3) x a9 fun B=>
 .ret B a9))) b4 b5 t b6 b7 b8 k b9 (I 0) e7))) s v2 v7 v8 f9 b1 b3 g4 g5 (I 0) e5)))
theorem vD:Aw prog 342 qW:=tS func342 (by kernel_rfl) (by kernel_rfl)
noncomputable def qV:GF:=fun cl ar h=>An ar fun v0 ar=>Bn ar (
 Dp v0 h fun W h1=>
 BH 257 W fun v2=>
 AT none v2 h1 fun v3=>
 A8 v3 fun v4=>
 Iu 8 [(I 0)] v4 v4 h1 fun v5 h5=>
 BH 257 W fun v6=>
 AT none v6 h5 fun v7=>
 A8 v7 fun v8=>
 Iu 1 [(N .u8 0)] v8 v8 h5 fun v9 h9=>
 A8 v5 fun a9=>
 BG (CT [1,4,5,22,23]) (fun X=>(fun(M k O Q r:AV) (G:KH)=>
 Bh r Q fun b0=>
 A7 b0
 (Av 1 k r fun s=>
 BJ 1 s (.int .i64 (-1)) G fun o=>
 BZ r (I 1) fun t=>
 X M k O Q t o)
 (Av 1 k (I 0) fun s=>
 BJ 1 s (I 0) G fun o=>
 C_ [(I 0)] 1 [.mk 0 1 (I 0)] o fun t a2=>
 BG (CT [1,4,5,7,8]) (fun Y=>(fun(R U V u v:AV) (f:KH)=>
 A8 u fun b1=>
 Bh v b1 fun b2=>
 A7 b2
 (Av 1 u v fun b3=>
 AT none b3 f fun w=>
 BH 258 R fun b4=>
 AT none b4 f fun b5=>
 Av 1 b5 w fun b6=>
 AT none b6 f fun b7=>
 A7 b7
 (C_ [] 0 [] f fun b8 a3=>
 BG (CT [4,5,9,10]) (fun a0=>(fun(b c d g:AV) (p:KH)=>
 Kj d (I 0) fun e=>
 A7 e
 (Av 1 c d fun c0=>
 AT none c0 p fun x=>
 C_ [(N .u8 0)] 1 [.mk 0 1 x] p fun j a4=>
 Du 1 1 j g a4 fun y L=>
 Av 1 b d fun z=>
 AT none z L fun A=>
 a0 b c A y L)
 (.ret (.tup [g,(.bool true)]) p))) U V w b8 a3)
 (BG (CT [1,4,5,7,8,9,63]) (fun Z=>(fun(i b c d g l e:AV) (a:KH)=>
 Bh e (I 256) fun x=>
 A7 x
 (BH 257 i fun j=>
 AT none j a fun y=>
 Av 1 y l fun z=>
 AT none z a fun A=>
 BH 0 i fun c2=>
 Ds 256 1 c2 e fun c3=>
 AT none c3 a fun c4=>
 Av 1 A c4 fun c5=>
 AT none c5 a fun m=>
 Av 1 b m fun c6=>
 AT none c6 a fun c7=>
 Bh c7 (I 0) fun c8=>
 JW c8 (fun(c9 B C d0 D d1 E:AV) (q:KH)=>
 BZ E (I 1) fun d3=>
 Z c9 B C d0 D d1 d3 q)
 (fun n=>Ci .u8 e fun B=>
 Av 1 b m fun C=>
 BJ 1 C l a fun a6=>
 Av 1 c m fun D=>
 BJ 1 D B a6 fun a7=>
 C_ [(I 0)] 1 [.mk 0 1 m] a7 fun E a8=>
 Du 1 8 d E a8 fun d2 q=>
 n i b c d2 g l e q)
 (fun n=>n i b c d g l e a))
 (BZ g (I 1) fun j=>
 Y i b c d j a))) R U V u v w (I 0) f))
 (.ret (.tup [.nils,(.bool false)]) f))) M k O t (I 0) a2))) W v5 v9 a9 (I 0) h9)
theorem vC:Aw prog 343 qV:=tS func343 (by kernel_rfl) (by kernel_rfl)
noncomputable def qU:GF:=fun cl ar h=>An ar fun p ar=>An ar fun q ar=>Bn ar (
 CO ((I 0)::(Bl 6 .nils ((I 0)::(Bl 4 .nils (Bl 4 (I 0) ((.bool false)::((I 0)::((.bool false)::[])))))))) p0 h fun r o=>
 BG (CT [0,1,4]) (fun n=>(fun(f m g:AV) (a:KH)=>
 Dn f fun s=>
 BH 21 s fun t=>
 AT none t a fun i=>
 BZ m (I 1) fun j=>
 BD .gtr i j fun k=>
 A7 k
 (Dn f fun b=>
 BH 1 b fun c=>
 AT none c a fun d=>
 n d m g a)
 (Dn f fun b=>
 BH 2 b fun c=>
 AT (some 19) c a fun d=>
 BJ 19 g d a fun e=>
 AT (some 19) g e fun l=>
 .ret l e))) p q r o)
theorem vB:Aw prog 365 qU:=tS func365 (by kernel_rfl) (by kernel_rfl)
noncomputable def qT:GF:=fun cl ar h=>An ar fun c ar=>An ar fun d ar=>Bn ar (
 A8 c fun q=>
 A8 d fun r=>
 Kj q r fun s=>
 A7 s
 (.ret (.bool false) h)
 (A8 c fun t=>
 BG (CT [0,1,12,13]) (fun p=>(fun(m n o b:AV) (a:KH)=>
 Bh b o fun e=>
 A7 e
 (Av 1 m b fun f=>
 AT none f a fun g=>
 Av 1 n b fun i=>
 AT none i a fun j=>
 Kj g j fun k=>
 A7 k
 (.ret (.bool false) a)
 (BZ b (I 1) fun l=>
 p m n o l a))
 (.ret (.bool true) a))) c d t (I 0) h))
theorem vA:Aw prog 381 qT:=tS func381 (by kernel_rfl) (by kernel_rfl)
noncomputable def qS:GF:=fun cl ar h=>An ar fun d ar=>An ar fun n ar=>Bn ar (
 A8 d fun o=>
 BG (CT [0,1,7,8]) (fun m=>(fun(j k l a:AV) (c:KH)=>
 Bh a l fun p=>
 A7 p
 (Av 2 j a fun e=>
 AT (some 2) e c fun f=>
 Sa cl k [f] c fun g b=>
 A7 g
 (.ret a b)
 (BZ a (I 1) fun i=>
 m j k l i b))
 (.ret (.int .i64 (-1)) c))) d n o (I 0) h)
theorem u9:Aw prog 431 qS:=tS func431 (by kernel_rfl) (by kernel_rfl)
noncomputable def qR:GF:=fun cl ar h=>An ar fun y ar=>An ar fun z ar=>An ar fun A ar=>Bn ar (
 Dp y h fun B u=>
 Dp z u fun C v=>
 CO (Bl 4 (N .u64 0) []) p0 v fun D w=>
 CO (Bl 4 (N .u64 0) []) p0 w fun E x=>
 BG (CT [2,3,4,6,7,9]) (fun t=>(fun(r s i c d b:AV) (a:KH)=>
 Bh b (I 4) fun l=>
 A7 l
 (Ds 4 1 s b fun e=>
 AT none e a fun m=>
 Ds 4 1 i b fun f=>
 AT none f a fun n=>
 Sa cl r [m,n] a fun o j=>
 Ds 4 1 d b fun p=>
 BJ 1 p o j fun k=>
 BZ b (I 1) fun q=>
 t r s i c d q k)
 (AT (some 4) d a fun e=>
 BJ 4 c e a fun g=>
 AT (some 4) c g fun f=>
 .ret f g))) A B C D E (I 0) x)
theorem u7:Aw prog 432 qR:=tS func432 (by kernel_rfl) (by kernel_rfl)
noncomputable def qQ:GF:=fun cl ar h=>An ar fun a ar=>An ar fun b ar=>Bn ar (
 BD .and a b fun c=>
 .ret c h)
theorem u6:Aw prog 433 qQ:=tS func433 (by kernel_rfl) (by kernel_rfl)
noncomputable def qP:GF:=fun cl ar h=>An ar fun a ar=>An ar fun b ar=>Bn ar (
 BD .or a b fun c=>
 .ret c h)
theorem uz:Aw prog 434 qP:=tS func434 (by kernel_rfl) (by kernel_rfl)
noncomputable def qO:GF:=fun cl ar h=>An ar fun a ar=>An ar fun c ar=>Bn ar (
 Nz .xor a fun b=>
 .ret b h)
theorem uy:Aw prog 435 qO:=tS func435 (by kernel_rfl) (by kernel_rfl)
noncomputable def qN:GF:=fun cl ar h=>An ar fun a ar=>An ar fun b ar=>Bn ar (
 BD .andNot a b fun c=>
 .ret c h)
theorem ux:Aw prog 440 qN:=tS func440 (by kernel_rfl) (by kernel_rfl)
noncomputable def qM:GF:=fun cl ar h=>An ar fun v0 ar=>An ar fun v1 ar=>Bn ar (
 Dp v0 h fun v2 h2=>
 BH 257 v2 fun v3=>
 AT none v3 h2 fun v4=>
 A8 v4 fun v5=>
 Iu 8 [(I 0)] v5 v5 h2 fun v6 h6=>
 A8 v1 fun v7=>
 BG (CT [1,2,6,24,25,26]) (fun J8=>(fun(v9 p q M O r:AV) (c:KH)=>
 Bh r O fun d7=>
 A7 d7
 (Av 1 M r fun d8=>
 AT none d8 c fun e=>
 BH 258 p fun Q=>
 AT none Q c fun t=>
 Av 1 t e fun R=>
 AT none R c fun e0=>
 JW e0 (fun(U f V W e1 u:AV) (d3:KH)=>
 BZ u (I 1) fun j=>
 J8 U f V W e1 j d3)
 (fun A=>Av 1 q e fun f=>
 BJ 1 f (I 1) c fun C=>
 A v9 p q M O r C)
 (fun A=>A v9 p q M O r c))
 (BG (CT [1,2,6,9]) (fun c7=>(fun(e Q t R:AV) (d1:KH)=>
 dJ .makeMap d1 fun U d2=>
 A8 t fun f=>
 Iu 8 [(I 0)] f f d2 fun V C=>
 A8 e fun W=>
 BG (CT [1,2,6,9,10,11,12,43,44,45]) (fun c8=>(fun(u v j b6 e2 X w b7 b8 Y:AV) (d:KH)=>
 Bh Y b8 fun e3=>
 A7 e3
 (Av 1 b7 Y fun Z=>
 AT none Z d fun b=>
 BH 257 v fun a0=>
 AT none a0 d fun e4=>
 Av 1 e4 b fun e5=>
 AT none e5 d fun e6=>
 A8 e6 fun e7=>
 NG (I 2) e7 fun e8=>
 BZ (I 2) e8 fun e9=>
 Iu 1 [(N .u8 0)] (I 0) e9 d fun f0 D=>
 Av 1 j b fun f2=>
 AT none f2 D fun f3=>
 Ci .u8 f3 fun f4=>
 Av 1 j b fun f5=>
 AT none f5 D fun f6=>
 BD .shr f6 (N .u64 8) fun f7=>
 Ci .u8 f7 fun f8=>
 C_ [(N .u8 0),(N .u8 0)] 2 [.mk 0 1 f4,.mk 1 1 f8] D fun f9 d4=>
 Du 1 1 f0 f9 d4 fun g0 E=>
 BH 257 v fun g1=>
 AT none g1 E fun g2=>
 Av 1 g2 b fun g3=>
 AT none g3 E fun b9=>
 A8 b9 fun g4=>
 BG (CT [1,2,6,9,10,11,12,14,15,43,44,45,76,77,78]) (fun c9=>(fun(a1 a2 k a3 l a4 x y a5 a6 a7 a8 c0 c1 a9:AV) (a:KH)=>
 Bh a9 c1 fun g5=>
 A7 g5
 (Av 1 c0 a9 fun b0=>
 AT none b0 a fun m=>
 Av 1 k m fun b1=>
 AT none b1 a fun b2=>
 Ci .u8 b2 fun b3=>
 Av 1 k m fun b4=>
 AT none b4 a fun g=>
 BD .shr g (N .u64 8) fun n=>
 Ci .u8 n fun z=>
 C_ [(N .u8 0),(N .u8 0)] 2 [.mk 0 1 b3,.mk 1 1 z] a fun o G=>
 Du 1 1 a5 o G fun i L=>
 BZ a9 (I 1) fun b5=>
 c9 a1 a2 k a3 l a4 x y i a6 a7 a8 c0 c1 b5 L)
 (SZ (.strOfBytes (.cst a5)) a fun b0=>
 SZ (.lookup (false,[.s]) (I 0) true (.cst l) (.cst b0)) a fun m=>
 F_ 0 m fun b1=>
 F_ 1 m fun b2=>
 Nz .not b2 fun b3=>
 JW b3 (fun(b4 g n z o i b5 g6 g7 g8 g9 i0:AV) (d6:KH)=>
 Av 1 i g6 fun c4=>
 BJ 1 c4 g7 d6 fun c2=>
 BZ i0 (I 1) fun c5=>
 c8 b4 g n z o i b5 g8 g9 c5 c2)
 (fun B=>A8 x fun g=>
 SZ (.strOfBytes (.cst a5)) a fun n=>
 dJ (.mapUpd (false,[.s]) (.cst l) (.cst n) (.cst g)) a fun z d5=>
 C_ [(I 0)] 1 [.mk 0 1 y] d5 fun o G=>
 Du 1 8 x o G fun i L=>
 B a1 a2 k a3 l a4 i y g a6 a7 a8 L)
 (fun B=>B a1 a2 k a3 l a4 x y b1 a6 a7 a8 a)))) u v j b6 e2 X w b g0 b7 b8 Y b9 g4 (I 0) E)
 (A8 w fun Z=>
 JX Z b6 fun b=>
 A7 b
 (.ret (.tup [X,w]) d)
 (A8 w fun a0=>
 c7 u v X a0 d)))) e Q t R U V .nils e W (I 0) C)) v9 p q (I 0) c))) v1 v2 v6 v1 v7 (I 0) h6)
theorem uw:Aw prog 442 qM:=tS func442 (by kernel_rfl) (by kernel_rfl)
noncomputable def qL:GF:=fun cl ar h=>An ar fun v0 ar=>Bn ar (
 Dp v0 h fun A v=>
 BH 257 A fun v2=>
 AT none v2 v fun v3=>
 A8 v3 fun Y=>
 Iu 1 [(.bool false)] Y Y v fun v5 h5=>
 Av 1 v5 (I 0) fun v6=>
 BJ 1 v6 (.bool true) h5 fun h7=>
 C_ [(I 0)] 1 [.mk 0 1 (I 0)] h7 fun v8 h8=>
 BG (CT [1,3,4,5]) (fun J9=>(fun(s B d g:AV) (a:KH)=>
 A8 d fun C=>
 Bh g C fun D=>
 A7 D
 (BH 257 s fun E=>
 AT none E a fun G=>
 Av 1 d g fun L=>
 AT none L a fun M=>
 Av 1 G M fun O=>
 AT none O a fun t=>
 A8 t fun Q=>
 BG (CT [1,3,4,5,28,29,30]) (fun u=>(fun(i c j k l m e:AV) (b:KH)=>
 Bh e m fun R=>
 A7 R
 (Av 1 l e fun n=>
 AT none n b fun o=>
 Av 1 c o fun U=>
 AT none U b fun V=>
 Nz .not V fun W=>
 JW W (fun(X p Z q r a0 a1:AV) (z:KH)=>
 BZ a1 (I 1) fun a2=>
 u X p Z q r a0 a2 z)
 (fun f=>Av 1 c o fun p=>
 BJ 1 p (.bool true) b fun w=>
 C_ [(I 0)] 1 [.mk 0 1 o] w fun q x=>
 Du 1 8 j q x fun r y=>
 f i c r k l m e y)
 (fun f=>f i c j k l m e b))
 (BZ k (I 1) fun n=>
 J9 i c j n b))) s B d g t Q (I 0) a)
 (.ret d a))) A v5 v8 (I 0) h8)
theorem uu:Aw prog 443 qL:=tS func443 (by kernel_rfl) (by kernel_rfl)
noncomputable def qK:GF:=fun cl ar h=>An ar fun v0 ar=>An ar fun v1 ar=>An ar fun v2 ar=>Bn ar (
 Dp v0 h fun v3 h3=>
 dJ .makeMap h3 fun v4 h4=>
 BH 256 v3 fun v5=>
 AT none v5 h4 fun v6=>
 Iu 8 [(I 0)] v6 v6 h4 fun v7 h7=>
 A8 v7 fun v8=>
 BG (CT [1,2,3,8,9,10,11,26,27]) (fun J9=>(fun(b2 b3 b4 b5 b6 b7 O b8 Q:AV) (b1:KH)=>
 Bh Q b8 fun d5=>
 A7 d5
 (Av 1 O Q fun d6=>
 BJ 1 d6 (.int .i64 (-1)) b1 fun c3=>
 BZ Q (I 1) fun d=>
 J9 b2 b3 b4 b5 b6 b7 O b8 d c3)
 (BG (CT [1,2,3,8,9,10,11,34]) (fun c1=>(fun(b9 d R c0 U V W j:AV) (t:KH)=>
 Bh j (I 256) fun d8=>
 A7 d8
 (BH 0 R fun d9=>
 Ds 256 1 d9 j fun e0=>
 AT none e0 t fun X=>
 Av 1 W X fun e1=>
 AT none e1 t fun e2=>
 Bh e2 (I 0) fun e3=>
 JW e3 (fun(e4 Y Z a0 a1 a2 b u e f:AV) (z:KH)=>
 Av 1 b e fun g=>
 AT none g z fun i=>
 Av 1 b e fun k=>
 AT none k z fun c=>
 Av 4 a2 c fun l=>
 AT (some 4) l z fun m=>
 Ci .u8 u fun C=>
 Ve [(N .u8 0)] 1 [.mk 0 1 C] fun xP g56=>CO xP g56 z fun D c6=>
 BQ cl 172 [D] c6 fun v A=>
 GA (cond (IK (Et (some 4) l A) m) (cond (IK (Et none k A) c) (cond (IK (Et none g A) i) true false) false) false) (BQ cl 325 [m,v] A fun e5 a=>
 GA (cond (IK (Et none g a) i) true false) (Av 4 a2 i fun a3=>
 BJ 4 a3 e5 a fun c7=>
 GA true (BZ f (I 1) fun n=>
 c1 e4 Y Z a0 a1 a2 b n c7))))
 (fun G=>A8 d fun Y=>
 NG (I 2) Y fun Z=>
 Iu 1 [(N .u8 0)] (I 0) Z t fun a0 c5=>
 A8 d fun a1=>
 BG (CT [1,2,3,8,9,10,11,13,14,15,34,50,51,52]) (fun c2=>(fun(b u e f B g i k c l m C D v:AV) (a:KH)=>
 Bh v D fun a3=>
 A7 a3
 (Av 1 C v fun a4=>
 AT none a4 a fun n=>
 BH 257 e fun a5=>
 AT none a5 a fun a6=>
 Av 1 a6 n fun a7=>
 AT none a7 a fun a8=>
 Av 1 a8 c fun o=>
 AT none o a fun w=>
 Av 1 b w fun E=>
 AT none E a fun p=>
 Ci .u8 p fun x=>
 BD .shr p (N .u64 8) fun q=>
 Ci .u8 q fun y=>
 C_ [(N .u8 0),(N .u8 0)] 2 [.mk 0 1 x,.mk 1 1 y] a fun r M=>
 Du 1 1 l r M fun a9 d2=>
 BZ v (I 1) fun b0=>
 c2 b u e f B g i k c a9 m C D b0 d2)
 (SZ (.strOfBytes (.cst l)) a fun a4=>
 SZ (.lookup (false,[.s]) (I 0) true (.cst f) (.cst a4)) a fun n=>
 F_ 0 n fun a5=>
 F_ 1 n fun a6=>
 Nz .not a6 fun a7=>
 JW a7 (fun(a8 o w E p x q y r a9 b0:AV) (d3:KH)=>
 Av 1 q r fun e8=>
 BJ 1 e8 a9 d3 fun d4=>
 G a8 o w E p x q y r b0 d4)
 (fun L=>A8 B fun o=>
 SZ (.strOfBytes (.cst l)) a fun w=>
 dJ (.mapUpd (false,[.s]) (.cst f) (.cst w) (.cst o)) a fun E c8=>
 C_ [(I 0)] 1 [.mk 0 1 c] c8 fun p c9=>
 Du 1 8 B p c9 fun x d0=>
 D4 (Bl 4 (N .u64 0) []) [] fun q=>
 C_ (Bl 4 (N .u64 0) []) 1 [.mk 0 4 q] d0 fun y d1=>
 Du 4 32 g y d1 fun r M=>
 L b u e f x r i k c o m M)
 (fun L=>L b u e f B g i k c a5 m a)))) b9 d R c0 U V W j X a0 j d a1 (I 0) c5)
 (fun G=>G b9 d R c0 U V W j X j t))
 (.ret (.tup [U,V]) t))) b2 b3 b4 b5 b6 b7 O (I 0) b1))) v1 v2 v3 v4 .nils .nils v7 v8 (I 0) h7)
theorem uq:Aw prog 444 qK:=tS func444 (by kernel_rfl) (by kernel_rfl)
noncomputable def qJ:GF:=fun cl ar h=>An ar fun v0 ar=>An ar fun v1 ar=>Bn ar (
 Dp v0 h fun v2 h2=>
 Dp v1 h2 fun v3 h3=>
 CO (Bl 256 (I 0) []) p0 h3 fun v4 h4=>
 CO (Bl 256 (I 0) []) p0 h4 fun v5 h5=>
 dJ .makeMap h5 fun v6 h6=>
 BG (CT [2,3,4,6,7,8,14]) (fun J7=>(fun(u v d k e f a:AV) (b:KH)=>
 Bh a (I 256) fun C=>
 A7 C
 (BH 0 u fun l=>
 Ds 256 1 l a fun D=>
 AT none D b fun m=>
 BH 0 v fun E=>
 Ds 256 1 E a fun G=>
 AT none G b fun L=>
 D4 [(I 0),(I 0)] [.mk 0 1 m,.mk 1 1 L] fun M=>
 CO [(I 0),(I 0)] p0 b fun n w=>
 BJ 2 n M w fun c=>
 AT (some 2) n c fun O=>
 SZ (.lookup (true,[(.i .i64),(.i .i64)]) (I 0) true (.cst f) (.cst O)) c fun t=>
 F_ 0 t fun Q=>
 F_ 1 t fun R=>
 Nz .not R fun U=>
 JW U (fun(V g o p q r W X Y:AV) (A:KH)=>
 Ds 256 1 p W fun Z=>
 BJ 1 Z X A fun B=>
 BZ Y (I 1) fun a0=>
 J7 V g o p q r a0 B)
 (fun j=>A8 e fun g=>
 AT (some 2) n c fun o=>
 dJ (.mapUpd (true,[(.i .i64),(.i .i64)]) (.cst f) (.cst o) (.cst g)) c fun p x=>
 C_ [(I 0)] 1 [.mk 0 1 a] x fun q y=>
 Du 1 8 e q y fun r z=>
 j u v d k r f a g a z)
 (fun j=>j u v d k e f a Q a c))
 (AT (some 256) k b fun l=>
 BJ 256 d l b fun s=>
 AT (some 256) d s fun m=>
 .ret (.tup [m,e]) s))) v2 v3 v4 v5 .nils v6 (I 0) h6)
theorem um:Aw prog 552 qJ:=tS func552 (by kernel_rfl) (by kernel_rfl)
noncomputable def qI:GF:=fun cl ar h=>An ar fun D ar=>An ar fun c ar=>An ar fun o ar=>An ar fun y ar=>Bn ar (
 Dp D h fun A C=>
 CO [(I 0),(I 0),(N .u64 0)] p0 C fun B a=>
 BH 257 o fun E=>
 AT none E a fun G=>
 BH 0 A fun L=>
 AT none L a fun M=>
 Av 1 G M fun d=>
 AT none d a fun e=>
 BH 0 o fun f=>
 Ds 256 1 f c fun g=>
 AT none g a fun i=>
 Av 1 e i fun j=>
 AT none j a fun k=>
 BH 257 y fun l=>
 AT none l a fun m=>
 BH 1 A fun n=>
 AT none n a fun p=>
 Av 1 m p fun q=>
 AT none q a fun r=>
 BH 0 y fun s=>
 Ds 256 1 s c fun t=>
 AT none t a fun u=>
 Av 1 r u fun v=>
 AT none v a fun w=>
 D4 [(I 0),(I 0),(N .u64 0)] [.mk 0 1 k,.mk 1 1 w] fun x=>
 BJ 3 B x a fun b=>
 AT (some 3) B b fun z=>
 .ret z b)
theorem uk:Aw prog 553 qI:=tS func553 (by kernel_rfl) (by kernel_rfl)
noncomputable def qH:GF:=fun cl ar h=>An ar fun v0 ar=>An ar fun v1 ar=>An ar fun v2 ar=>An ar fun v3 ar=>An ar fun v4 ar=>An ar fun v5 ar=>Bn ar (
 Dp v0 h fun v6 h6=>
 Dp v2 h6 fun v7 h7=>
 CO (Bl 257 (I 0) (Bl 2 .nils [])) p0 h7 fun v8 h8=>
 AT (some 256) v6 h8 fun v9=>
 A8 v1 fun c9=>
 D4 (Bl 257 (I 0) (Bl 2 .nils [])) [.mk 0 256 v9,.mk 256 1 c9] fun d0=>
 CO (Bl 257 (I 0) (Bl 2 .nils [])) p0 h8 fun a4 b4=>
 BJ 259 a4 d0 b4 fun b5=>
 dJ .makeMap b5 fun a5 a1=>
 AT (some 3) v7 a1 fun d1=>
 dJ (.mapUpd (true,[(.i .i64),(.i .i64),(.i .u64)]) (.cst a5) (.cst d1) (.cst (I 0))) a1 fun g1 a2=>
 AT (some 3) v7 a2 fun d2=>
 C_ [(I 0),(I 0),(N .u64 0)] 1 [.mk 0 3 d2] a2 fun d3 b6=>
 BG (CT [1,3,4,5,12,14,15,16,17]) (fun b2=>(fun(q d4 d5 d6 A a6 d7 a7 a8:AV) (z:KH)=>
 A8 a7 fun d8=>
 Bh a8 d8 fun d9=>
 A7 d9
 (A8 q fun r=>
 Iu 8 [(I 0)] r r z fun e0 p=>
 A8 q fun B=>
 BG (CT [1,3,4,5,12,14,15,16,17,18,42,43,44]) (fun b3=>(fun(C s t u l a m e n D E G f:AV) (g:KH)=>
 Bh f G fun e1=>
 A7 e1
 (Av 1 E f fun L=>
 AT none L g fun M=>
 Av 3 e n fun O=>
 AT (some 3) O g fun Q=>
 Sa cl s [Q,M] g fun R b9=>
 CO [(I 0),(I 0),(N .u64 0)] p0 b9 fun v j=>
 BJ 3 v R j fun d=>
 AT (some 3) v d fun w=>
 SZ (.lookup (true,[(.i .i64),(.i .i64),(.i .u64)]) (I 0) true (.cst m) (.cst w)) d fun x=>
 F_ 0 x fun U=>
 F_ 1 x fun V=>
 Nz .not V fun W=>
 JW W (fun(X b Y c b0 o Z a0 e3 b1 e4 e5 e6 e7 e8:AV) (c5:KH)=>
 Av 1 b1 e4 fun e9=>
 BJ 1 e9 e5 c5 fun c7=>
 BZ e8 (I 1) fun f0=>
 b3 X b Y c b0 o Z a0 e3 b1 e6 e7 f0 c7)
 (fun y=>A8 e fun b=>
 JX b u fun Y=>
 A7 Y
 (D4 (Bl 257 (I 0) (Bl 2 .nils [])) [] fun c=>
 BJ 259 l c d fun k=>
 AT (some 259) l k fun o=>
 .ret (.tup [o,(.bool false)]) k)
 (AT (some 3) v d fun c=>
 dJ (.mapUpd (true,[(.i .i64),(.i .i64),(.i .u64)]) (.cst m) (.cst c) (.cst b)) d fun b0 k=>
 AT (some 3) v k fun o=>
 C_ [(I 0),(I 0),(N .u64 0)] 1 [.mk 0 3 o] k fun Z c3=>
 Du 3 24 e Z c3 fun a0 c4=>
 y C s t u l a m a0 n D f b E G f c4))
 (fun y=>y C s t u l a m e n D f U E G f d))
 (BH 257 a fun L=>
 AT none L g fun M=>
 C_ [.nils] 1 [.mk 0 1 D] g fun O b7=>
 Du 1 24 M O b7 fun Q b8=>
 BH 257 a fun R=>
 BJ 1 R Q b8 fun j=>
 BH 258 a fun a9=>
 AT none a9 j fun w=>
 Av 3 e n fun x=>
 AT (some 3) x j fun U=>
 Sa cl t [U] j fun V a3=>
 GA (cond (IK (Et none a9 a3) w) true false) (Ve [(.bool false)] 1 [.mk 0 1 V] fun c62 g62=>CO c62 g62 a3 fun W c0=>
 Du 1 1 w W c0 fun X c1=>
 GA true (BH 258 a fun b=>
 BJ 1 b X c1 fun c2=>
 GA true (BZ n (I 1) fun c=>
 b2 C s t u l a m e c c2)))))) q d4 d5 d6 A a6 d7 a7 a8 e0 q B (I 0) p)
 (AT (some 259) a6 z fun r=>
 BJ 259 A r z fun p=>
 AT (some 259) A p fun B=>
 .ret (.tup [B,(.bool true)]) p))) v1 v3 v4 v5 v8 a4 a5 d3 (I 0) b6)
theorem uj:Aw prog 554 qH:=tS func554 (by kernel_rfl) (by kernel_rfl)
noncomputable def qG:GF:=fun cl ar h=>An ar fun O ar=>An ar fun Q ar=>Bn ar (
 BG (CT [0,1,6,7]) (fun M=>(fun(b r G L:AV) (a:KH)=>
 Dn b fun R=>
 BH 21 R fun U=>
 AT none U a fun v=>
 BD .gtr v (I 0) fun w=>
 A7 w
 (Dn b fun x=>
 BH 23 x fun y=>
 AT none y a fun t=>
 Dt true t (fun(V f g i j k l m n u z:AV) (e:KH)=>
 DA t z (.bool false) fun A=>
 JW A (fun(B o p q:AV) (s:KH)=>
 Dn B fun C=>
 BH 1 C fun D=>
 AT none D s fun E=>
 M E o p q s)
 (fun d=>Dn b fun o=>
 BH 22 o fun p=>
 AT none p e fun q=>
 d b r q (.bool true) e)
 (fun d=>d b r G L e)) (fun c=>
 Dn b fun f=>
 BH 2 f fun g=>
 BH 0 g fun i=>
 BH 1 i fun j=>
 AT none j a fun k=>
 Av 2 k (I 0) fun l=>
 BH 0 l fun m=>
 AT none m a fun n=>
 JX n r fun u=>
 c b f g i j k l m n r u a) (fun c=>c Ad Ad Ad Ad Ad Ad Ad Ad Ad Ad Ad a))
 (.ret (.tup [G,L]) a))) O Q .nils (.bool false) h)
theorem ui:Aw prog 574 qG:=tS func574 (by kernel_rfl) (by kernel_rfl)
end
end Go.Proofs.YtlmkmpomgdbjhaaGreatDoor.San
namespace Go.Proofs.YtlmkmpomgdbjhaaGreatDoor
open Tryz
section
open Go Go.RowKit Go.AL Go.Maps Go.Sort Go.Shelf
def dH (a0 a1:Nat) (x:UInt8):Prop:=(0<a0/\∃t m,t<64/\a0=2 ^ t*(2*m+1)/\x.toNat=t)\/(a0=0/\0<a1/\∃t m,t<64/\a1=2 ^ t*(2*m+1)/\x.toNat=64+t)
set_option maxRecDepth 100000 in
set_option maxHeartbeats 1000000 in
theorem nO (n l b off:Nat) (hn:1<=n) (a0 a1 a2 a3:Nat) (hp:0<a0\/0<a1) (J:World->Prop) (Jx:UInt8->World->Prop) (W:World) (hT:∀W',J W'->NC W')
  (h0:W.cell? ⟨b,off,none⟩=some (.int .u64 (a0:Int))) (h1:W.cell? ⟨b,off+1,none⟩=some (.int .u64 (a1:Int))) (h2:W.cell? ⟨b,off+2,none⟩=some (.int .u64 (a2:Int))) (h3:W.cell? ⟨b,off+3,none⟩=some (.int .u64 (a3:Int)))
  (l0:a0<18446744073709551616) (l1:a1<18446744073709551616)
  (hY:∀(x:UInt8) (W1:World),J W1->YieldAt Fence.wide (n-1) prog l #[.int .u8 (x.toNat:Int)] W1 fun e W'=>e=.returned (.bool false)/\Jx x W')
  (hJ:J W):CallsIn Fence.wide n prog 411 #[.func (.yield l) #[] #[],.pointer (some ⟨b,off,none⟩)] W fun e W'=>(∃v,e=.returned v)/\∃x,dH a0 a1 x/\Jx x W':=by
 refine callsIn_of_wp func411 rfl trivial ?_ rfl
 simp only[ntmps411,JI,BV,Gv,Nat.reduceAdd,Nat.reduceSub,JQ,JO,Li,JS,B7,Ec]
 have i0:=gV (.int .u64 (a0:Int)) (.int .u64 (a1:Int)) (.int .u64 (a2:Int)) (.int .u64 (a3:Int))
 have i1:=jK (.int .u64 (a0:Int)) (.int .u64 (a1:Int)) (.int .u64 (a2:Int)) (.int .u64 (a3:Int))
 gi_wp2
 gi_loopw [6] (fun v6 wr=>∃i:Nat,v6=.int .i64 (i:Int)/\(i=0\/(i=1/\a0<1))/\J wr) (fun v6 _=>4-Ja v6)
 case atStart=>exact⟨0,rfl,.inl rfl,hJ⟩
 case round=>
  obtain⟨i,rfl,hi,hJi⟩:=hrel
  rcases hi with rfl | ⟨rfl,ha0⟩
  ·gi_wp2
   gi_loopw [4] (fun v4 wr=>v4=.int .u64 (a0:Int)/\J wr) (fun v4 _=>Ja v4)
   case atStart=>exact⟨rfl,hJi⟩
   case round=>
    obtain⟨rfl,hJp⟩:=hrel
    rcases DE a0 with hz | hpos
    ·subst hz
     gi_wp2
     exact⟨⟨1,rfl,.inr ⟨rfl,by omega⟩,hJp⟩,by decide⟩
    ·have hne:((a0:Int)==0)=false:=by
      have:¬(a0:Int)=0:=by omega
      simp;omega
     have hTw:=hT _ hJp
     gi_wp2
     refine⟨trivial,(callsIn_wide.2 (V1 a0 wr hTw hpos l0)).mono ?_⟩
     rintro e w2 ⟨rfl,t,m,hwt,rfl⟩
     have ht:t<64:=by
      have g1:2 ^ t<=a0:=by
       have:2 ^ t*1<=2 ^ t*(2*m+1):=OR _ (by omega)
       omega
      exact(EC (a:=2) (by omega)).1 (B1 g1 (by rw[show(2:Nat) ^ 64=18446744073709551616 by decide];exact l0))
     generalize hxb:UInt8.ofNat t=xb
     have hx8:(xb.toNat:Int)=(t:Int):=by rw[<- hxb];simp;omega
     clear hxb
     obtain⟨fn,tmps,assign,body,hy,hR⟩:=hY xb w2 hJp
     rw[hx8]at hy
     gi_wp2
     refine hR.mono ?_
     rintro e W3 ⟨rfl,hJ3⟩
     gi_wp2
     refine bodyPost_ret (results_none rfl _ _ _) rfl ?_
     exact⟨⟨_,rfl⟩,xb,.inl ⟨hpos,t,m,ht,hwt,by omega⟩,hJ3⟩
  ·gi_wp2
   gi_loopw [4] (fun v4 wr=>v4=.int .u64 (a1:Int)/\J wr) (fun v4 _=>Ja v4)
   case atStart=>exact⟨rfl,hJi⟩
   case round=>
    obtain⟨rfl,hJp⟩:=hrel
    have hpos:0<a1:=by omega
    have hne:((a1:Int)==0)=false:=by
     have:¬(a1:Int)=0:=by omega
     simp;omega
    have hTw:=hT _ hJp
    gi_wp2
    refine⟨trivial,(callsIn_wide.2 (V1 a1 wr hTw hpos l1)).mono ?_⟩
    rintro e w2 ⟨rfl,t,m,hwt,rfl⟩
    have ht:t<64:=by
     have g1:2 ^ t<=a1:=by
      have:2 ^ t*1<=2 ^ t*(2*m+1):=OR _ (by omega)
      omega
     exact(EC (a:=2) (by omega)).1 (B1 g1 (by rw[show(2:Nat) ^ 64=18446744073709551616 by decide];exact l1))
    generalize hxb:UInt8.ofNat (64+t)=xb
    have hx8:(xb.toNat:Int)=(64:Int)+(t:Int):=by rw[<- hxb];simp;omega
    clear hxb
    obtain⟨fn,tmps,assign,body,hy,hR⟩:=hY xb w2 hJp
    rw[hx8]at hy
    gi_wp2
    refine hR.mono ?_
    rintro e W3 ⟨rfl,hJ3⟩
    gi_wp2
    refine bodyPost_ret (results_none rfl _ _ _) rfl ?_
    exact⟨⟨_,rfl⟩,xb,.inr ⟨by omega,hpos,t,m,ht,hwt,by omega⟩,hJ3⟩
def Ls.assign:Code:=(Code.region 2 #[{ dst:=some 3,op:=Op.assign (Operand.tmp 6),type:=5,pos:="class.go:90",after:=#[],guard:=none }] false)
def Ls.body:Code:=(Code.block 1 ((Code.region 3 #[{ dst:=some 7,op:=Op.move (Operand.tmp 3),type:=5,pos:="class.go:91",after:=#[],guard:=none },{ dst:=some 8,op:=Op.convert 5 3 (Operand.tmp 7),type:=3,pos:="class.go:91",after:=#[{ on:=0,ground:=Ground.data }],guard:=none },{ dst:=none,op:=Op.store 3 (Operand.tmp 2) (Operand.tmp 8),type:=0,pos:="class.go:91",after:=#[{ on:=1,ground:=Ground.data },{ on:=0,ground:=Ground.phase },{ on:=1,ground:=Ground.phase }],guard:=none }] false).seq Code.ret))
def Ls.rec (fn:FuncId) (cv:Value) (Bc Br Bm D:Nat) (st:LoopState) (pend:Option Code):Loop:=
 { state:=st,pending:=pend,fn,tmps:=#[cv,.pointer (some ⟨Bc,0,none⟩),.pointer (some ⟨Br,0,none⟩),undef,cv,.func (.func 411) #[] #[.pointer (some ⟨Bm,0,none⟩)],undef,undef,undef],params:=#[6],assign:=Ls.assign,body:=Ls.body,defers:=D }
structure Ls.At (w0:World) (fn:FuncId) (cv:Value) (Bc Br Bm l D:Nat) (res:Value) (st:LoopState) (pend:Option Code) (W:World):Prop where
 cr:W.heap[Br]?=some (.cells #[res] 3 (0,0))
 L:W.heap[l]?=some (.loop (Ls.rec fn cv Bc Br Bm D st pend))
 K:W.heap[D]?=some (.deferred (some []))
 below:Below w0.heap.size w0 W
set_option maxRecDepth 100000 in
set_option maxHeartbeats 2000000 in
theorem Ls.yield (m:Nat) (w0:World) (fn:FuncId) (cv:Value) (Bc Br Bm l D:Nat) (hrl:Br≠l) (hDl:D≠l) (hDr:D≠Br) (h0r:w0.heap.size<=Br) (h0l:w0.heap.size<=l) (x:UInt8) (W:World) (h:Ls.At w0 fn cv Bc Br Bm l D (.int .i64 0) .ready none W) :
  YieldAt Fence.wide m prog l #[.int .u8 (x.toNat:Int)] W fun e W'=>e=.returned (.bool false)/\Ls.At w0 fn cv Bc Br Bm l D (.int .i64 (x.toNat:Int)) .done (some .ret) W':=by
 refine⟨fn,#[cv,.pointer (some ⟨Bc,0,none⟩),.pointer (some ⟨Br,0,none⟩),undef,cv,.func (.func 411) #[] #[.pointer (some ⟨Bm,0,none⟩)],.int .u8 (x.toNat:Int),undef,undef],Ls.assign,Ls.body,by simpa[Ls.rec]using run_yield (P:=prog) (args:=#[.int .u8 (x.toNat:Int)]) h.L rfl,roundIn_of_wpIn trivial ?_⟩
 have hl:l<W.heap.size:=(Al.1 h.L).1
 have hbr:=run_beginRound (P:=prog) h.L rfl
 obtain⟨W2,hW2⟩:∃W2,W.putObj l (.loop { Ls.rec fn cv Bc Br Bm D .ready none with state:=.busy })=W2:=⟨_,rfl⟩
 rw[hW2]at hbr
 have hg2:W.grownBy W2 (some l):=by rw[<- hW2];exact grownBy_putObj_a _ _ _
 have hcr2:W2.heap[Br]?=some (.cells #[.int .i64 0] 3 (0,0)):=by rw[<- hW2];exact(World.putObj_heap_other hrl).trans h.cr
 have hK2:W2.heap[D]?=some (.deferred (some [])):=by rw[<- hW2];exact(World.putObj_heap_other hDl).trans h.K
 have hL2:W2.heap[l]?=some (.loop { Ls.rec fn cv Bc Br Bm D .ready none with state:=.busy }):=by rw[<- hW2];exact World.putObj_heap_same hl
 have hb2:Below w0.heap.size w0 W2:=h.below.grown hg2 h.below.size (fun k e=>by cases e;exact h0l)
 obtain⟨Us,hf2⟩:=cell_of_box_a hcr2
 have hx:=x.toNat_lt
 have hw:IntKind.i64.wrap (x.toNat:Int)=(x.toNat:Int):=by
  simp[IntKind.wrap,IntKind.bits,IntKind.signed];omega
 clear hW2
 unfold Ls.assign
 gi_wp2_with gi_round_op_a
 unfold Ls.body
 gi_wp2_with gi_round_op_a
 obtain⟨W4,hW4⟩:∃W4,W2.setCell ⟨Br,0,none⟩ (.int .i64 (x.toNat:Int))=W4:=⟨_,rfl⟩
 rw[hW4]
 have hg4:W2.grownBy W4 (some Br):=by rw[<- hW4];exact grownBy_setCell0_a _ _ _
 have hv4:W4.heap[Br]?=some (.cells #[.int .i64 (x.toNat:Int)] 3 (0,0)):=by rw[<- hW4];exact heap_setCell_box_a _ hcr2
 have hL4:W4.heap[l]?=some (.loop { Ls.rec fn cv Bc Br Bm D .ready none with state:=.busy }):=(hg4.block l (Al.1 hL2).1 (fun e=>hrl (by cases e;rfl))).trans hL2
 have hK4:W4.heap[D]?=some (.deferred (some [])):=(hg4.block D (Al.1 hK2).1 (fun e=>hDr (by cases e;rfl))).trans hK2
 have hl4:l<W4.heap.size:=(Al.1 hL4).1
 have hb4:Below w0.heap.size w0 W4:=hb2.grown hg4 hb2.size (fun k e=>by cases e;exact h0r)
 clear hW4
 exact⟨_,_,run_endRound (some .ret) hL4,rfl,(World.putObj_heap_other hrl).trans hv4,World.putObj_heap_same hl4,(World.putObj_heap_other hDl).trans hK4,hb4.grown (grownBy_putObj_a _ _ _) hb4.size (fun k e=>by cases e;exact h0l)⟩
theorem V4 (n:Nat) (cv:Value) (w:World) (hcv:∃a0 a1 a2 a3:Int,cv=.agg #[.int .u64 a0,.int .u64 a1,.int .u64 a2,.int .u64 a3]) :
  CallsIn Fence.wide n prog 297 #[cv] w fun e w'=>e=.returned (.func (.func 411) #[] #[.pointer (some ⟨w.heap.size,0,none⟩)])/\∃c,cv=.agg c/\w'=w.alloc (.cells c 49):=by
 obtain⟨a0,a1,a2,a3,rfl⟩:=hcv
 refine callsIn_of_wp func297 rfl trivial ?_ rfl
 simp only[ntmps297,JI,BV,Gv,Nat.reduceAdd,Nat.reduceSub,JQ,JO,Li,JS,B7,Ec]
 gi_wp2
 refine bodyPost_ret (results_tmp rfl _ _ _) rfl ?_
 exact⟨rfl,_,rfl,rfl⟩
set_option maxRecDepth 100000 in
set_option maxHeartbeats 2000000 in
theorem aw (a0 a1 a2 a3:Nat) (hp:0<a0\/0<a1) (l0:a0<18446744073709551616) (l1:a1<18446744073709551616) (w:World) (hT:NC w) :
  CallsIn Fence.wide 5 prog 238 #[.agg #[.int .u64 (a0:Int),.int .u64 (a1:Int),.int .u64 (a2:Int),.int .u64 (a3:Int)]] w fun e w'=>∃x,dH a0 a1 x/\e=.returned (.int .i64 (x.toNat:Int))/\Below w.heap.size w w':=by
 refine callsIn_of_wp_marks func238 rfl trivial ?_ rfl
 obtain⟨cv,hcv⟩:∃cv:Value,cv=.agg #[.int .u64 (a0:Int),.int .u64 (a1:Int),.int .u64 (a2:Int),.int .u64 (a3:Int)]:=⟨_,rfl⟩
 simp only[ntmps238,JI,BV,Gv,Nat.reduceAdd,Nat.reduceSub,JQ,JO,Li,JS,B7,Ec]
 gi_wp2
 refine⟨trivial,(V4 _ _ _ ⟨_,_,_,_,rfl⟩).mono ?_⟩
 rintro e w' ⟨rfl,c,hc,rfl⟩
 cases hc
 gi_wp2
 refine wpIn_rangeFunc ?_
 intro fn hfn
 rw[<- hcv]
 obtain⟨W0,hW0⟩:∃W0,((w.alloc (.cells #[.int .u64 (a0:Int),.int .u64 (a1:Int),.int .u64 (a2:Int),.int .u64 (a3:Int)] 49)).alloc (.cells #[.int .i64 0] 3)).alloc (.cells #[.int .u64 (a0:Int),.int .u64 (a1:Int),.int .u64 (a2:Int),.int .u64 (a3:Int)] 49)=W0:=⟨_,rfl⟩
 have hs0:W0.heap.size=w.heap.size+3:=by rw[<- hW0];simp
 have hv0:W0.heap[w.heap.size+1]?=some (.cells #[.int .i64 0] 3 (0,0)):=by
  rw[<- hW0];refine(Below.heap_alloc _ _ _ (by simp)).trans ?_
  have:=World.alloc_heap_new (w.alloc (.cells #[.int .u64 (a0:Int),.int .u64 (a1:Int),.int .u64 (a2:Int),.int .u64 (a3:Int)] 49)) (.cells #[.int .i64 0] 3);rwa [World.size_alloc]at this
 have hm0:W0.heap[w.heap.size+2]?=some (.cells #[.int .u64 (a0:Int),.int .u64 (a1:Int),.int .u64 (a2:Int),.int .u64 (a3:Int)] 49 (0,0)):=by
  rw[<- hW0]
  have:=World.alloc_heap_new ((w.alloc (.cells #[.int .u64 (a0:Int),.int .u64 (a1:Int),.int .u64 (a2:Int),.int .u64 (a3:Int)] 49)).alloc (.cells #[.int .i64 0] 3)) (.cells #[.int .u64 (a0:Int),.int .u64 (a1:Int),.int .u64 (a2:Int),.int .u64 (a3:Int)] 49);rwa [World.size_alloc,World.size_alloc]at this
 have hb0:Below w.heap.size w W0:=by rw[<- hW0];exact(((Below.refl _ w).alloc (A5 _) _).alloc (by simp) _).alloc (by simp;omega) _
 simp only[World.size_alloc]at *
 rw[hW0]
 obtain⟨W1,hW1⟩:∃W1,(W0.alloc (.deferred (some []))).alloc (.loop (Ls.rec fn cv w.heap.size (w.heap.size+1) (w.heap.size+2) W0.heap.size .ready none))=W1:=⟨_,rfl⟩
 have hold:∀k,k<W0.heap.size->W1.heap[k]?=W0.heap[k]?:=fun k hk=>by
  rw[<- hW1];exact(Below.heap_alloc _ _ k (by simp;omega)).trans (Below.heap_alloc _ _ k hk)
 have hb1:Below w.heap.size w W1:=by rw[<- hW1];exact(hb0.alloc hb0.size _).alloc (by have:=hb0.size;simp;omega) _
 have hs1:W1.heap.size=W0.heap.size+2:=by rw[<- hW1];simp
 have hM:Ls.At w fn cv w.heap.size (w.heap.size+1) (w.heap.size+2) (W0.heap.size+1) W0.heap.size (.int .i64 0) .ready none W1:=
  ⟨(hold _ (by omega)).trans hv0,by rw[<- hW1];have:=World.alloc_heap_new (W0.alloc (.deferred (some []))) (.loop (Ls.rec fn cv w.heap.size (w.heap.size+1) (w.heap.size+2) W0.heap.size .ready none));rwa [World.size_alloc]at this,
   by rw[<- hW1];exact(Below.heap_alloc _ _ _ (by simp)).trans (World.alloc_heap_new W0 _),hb1⟩
 have hm1:W1.heap[w.heap.size+2]?=some (.cells #[.int .u64 (a0:Int),.int .u64 (a1:Int),.int .u64 (a2:Int),.int .u64 (a3:Int)] 49 (0,0)):=(hold _ (by omega)).trans hm0
 refine⟨W0.heap.size+1,[{ target:=.collected W0.heap.size,args:=#[] }],W1,{ target:=.fn (.func 411) #[.pointer (some ⟨w.heap.size+2,0,none⟩)],args:=#[.func (.yield (W0.heap.size+1)) #[] #[]] },W1,411,
  #[.func (.yield (W0.heap.size+1)) #[] #[]]++#[.pointer (some ⟨w.heap.size+2,0,none⟩)],W1,?_,?_,?_,?_,fun _=>by omega,?_⟩
 ·rw[<- hW1];exact run_enterLoop_outer _ _ _ _ _
 ·simp[resolve,go_sem]
 ·intro f' hf';simp[Target.leads]at hf';subst hf';exact trivial
 ·simp[invoke,go_sem,EJ gj]
 ·refine(nO 4 (W0.heap.size+1) (w.heap.size+2) 0 (by omega) a0 a1 a2 a3 hp (Ls.At w fn cv w.heap.size (w.heap.size+1) (w.heap.size+2) (W0.heap.size+1) W0.heap.size (.int .i64 0) .ready none)
   (fun x=>Ls.At w fn cv w.heap.size (w.heap.size+1) (w.heap.size+2) (W0.heap.size+1) W0.heap.size (.int .i64 (x.toNat:Int)) .done (some .ret)) W1 (fun W' hJ=>hT.below hJ.below)
   (by simp[World.cell?,hm1]) (by simp[World.cell?,hm1]) (by simp[World.cell?,hm1]) (by simp[World.cell?,hm1]) l0 l1
   (fun x W hJ=>Ls.yield _ w fn cv _ _ _ _ _ (by omega) (by omega) (by omega) (by omega) (by omega) x W hJ) hM).mono ?_
  rintro e W2 ⟨⟨v0,rfl⟩,x,hx,h2⟩
  have hend:=run_endLoop (P:=prog) h2.L (by simp[Ls.rec])
  obtain⟨W3,hW3⟩:∃W3,W2.putObj (W0.heap.size+1) (.loop { Ls.rec fn cv w.heap.size (w.heap.size+1) (w.heap.size+2) W0.heap.size .done (some .ret)with state:=.exhausted })=W3:=⟨_,rfl⟩
  rw[hW3]at hend
  have hg3:W2.grownBy W3 (some (W0.heap.size+1)):=by rw[<- hW3];exact grownBy_putObj_a _ _ _
  have hv3:W3.heap[w.heap.size+1]?=some (.cells #[.int .i64 (x.toNat:Int)] 3 (0,0)):=by rw[<- hW3];exact(World.putObj_heap_other (by omega)).trans h2.cr
  have hK3:W3.heap[W0.heap.size]?=some (.deferred (some [])):=by rw[<- hW3];exact(World.putObj_heap_other (by omega)).trans h2.K
  have hb3:Below w.heap.size w W3:=h2.below.grown hg3 h2.below.size (fun k e=>by cases e;omega)
  obtain⟨QD,hf3⟩:=cell_of_box_a hv3
  clear hW3
  refine⟨some .ret,W3,hend,?_⟩
  gi_wp2
  rw[<- hs0]
  refine⟨by simp,.inl ⟨_,_,rfl,run_takeDeferred hK3,?_⟩⟩
  have dL:(W3.putObj W0.heap.size (.deferred none)).cell? ⟨w.heap.size+1,0,none⟩=some (.int .i64 (x.toNat:Int)):=
   (World.cell?_of_block (World.putObj_heap_other (k:=w.heap.size+1) (by omega))).trans QD
  refine⟨.int .i64 (x.toNat:Int),?_,x,hx,rfl,hb3.grown (grownBy_putObj_a _ _ _) hb3.size (fun k e=>by cases e;omega)⟩
  simp[results,f238,go_sem,dL]
end
section
open Go Go.AL
variable [BX]
theorem oU:Go.AL.Enters prog 238:=⟨_,func238,by
 have h:(f238.name=="runtime.NumGoroutine")=false:=by kernel_rfl
 simpa using h,by kernel_rfl⟩
theorem call238 [hC:Bw] {H:AH}(hg:H.gl=BX.G) (a0 a1 a2 a3 x:Nat) (hp:0<a0\/0<a1) (l0:a0<18446744073709551616) (l1:a1<18446744073709551616) (hx:∀y,dH a0 a1 y->y.toNat=x) :
  fp prog 238 [.agg [.int .u64 (.ofNat a0),.int .u64 (.ofNat a1),.int .u64 (.ofNat a2),.int .u64 (.ofNat a3)]] H (.int .i64 (.ofNat x)) H:=by
 refine⟨oU,fun Z σ w vs hW hv=>?_⟩
 obtain⟨v,rfl⟩:∃v,vs=[v]:=by
  cases hv with
  | cons h1 h2=>cases h2;exact⟨_,rfl⟩
 have h1:VR Z σ (.agg [.int .u64 (.ofNat a0),.int .u64 (.ofNat a1),.int .u64 (.ofNat a2),.int .u64 (.ofNat a3)]) v:=by cases hv;assumption
 obtain⟨oo,ho1,ho2⟩:=hC.Tb
 have hT:NC w:=ho2 w (hW.z 1 oo (hW.rest.2.2 1 oo (by rw[hg];exact ho1)).1)
 cases h1 with
 | agg g1 g2=>
 rename_i us
 have hus:us=#[.int .u64 (a0:Int),.int .u64 (a1:Int),.int .u64 (a2:Int),.int .u64 (a3:Int)]:=by
  cases g:us.toList with
  | nil=>rw[g]at g2;cases g2
  | cons u0 us1=>
   rw[g]at g2
   cases g2 with
   | cons b0 g2=>
   cases g2 with
   | cons b1 g2=>
   cases g2 with
   | cons b2 g2=>
   cases g2 with
   | cons b3 g2=>
   cases g2
   cases b0;cases b1;cases b2;cases b3
   exact DI (by simpa using g)
 subst hus
 refine Calls.mono (callsIn_wide.1 (aw a0 a1 a2 a3 hp l0 l1 w hT)) ?_
 rintro en w' ⟨y,hy,rfl,hbel⟩
 have e:=hx y hy
 subst e
 exact⟨Z,σ,H,.ret _,CR.refl _,Nw.refl _ _,A5 _,hW.below hbel,⟨_,rfl,.int _ _⟩,rfl,rfl⟩
theorem i_:∀y,dH 18446744073709551615 18446744065119617023 y->y.toNat=0:=by
 rintro y (⟨_,t,m,ht,h,hy⟩ | ⟨h,_⟩)
 ·rcases DE t with h0 | h0
  ·omega
  ·obtain⟨s,rfl⟩:∃s,t=s+1:=⟨t-1,by omega⟩
   rw[JE,Nat.mul_right_comm]at h
   omega
 ·omega
theorem iz:∀y,dH 0 8589934592 y->y.toNat=97:=by
 rintro y (⟨h,_⟩ | ⟨_,_,t,m,ht,h,hy⟩)
 ·omega
 ·have h1:=YH t m
  rw[<- h]at h1
  have h2:Nat.testBit 8589934592 t=true:=by
   rw[h1 t,if_neg (by omega),Ia,Nat.testBit_zero]
   simp
  have h3:∀j,j<64->Nat.testBit 8589934592 j=decide (j=33):=by decide
  rw[h3 t ht]at h2
  simp at h2
  omega
theorem oS:Go.AL.Enters prog 412:=⟨_,func412,by
 have h:(f412.name=="runtime.NumGoroutine")=false:=by kernel_rfl
 simpa using h,by kernel_rfl⟩
theorem call412 [hC:Bw] {H:AH}(hg:H.gl=BX.G):fp prog 412 [N .u64 16] H (I 4) H:=by
 refine⟨oS,fun Z σ w vs hW hv=>?_⟩
 obtain⟨v,rfl⟩:∃v,vs=[v]:=by
  cases hv with
  | cons h1 h2=>cases h2;exact⟨_,rfl⟩
 have h1:VR Z σ (N .u64 16) v:=by cases hv;assumption
 obtain⟨oo,ho1,ho2⟩:=hC.Tb
 have hT:NC w:=ho2 w (hW.z 1 oo (hW.rest.2.2 1 oo (by rw[hg];exact ho1)).1)
 cases h1
 refine Calls.mono (V1 16 w hT (by decide) (by decide)) ?_
 rintro e w' ⟨rfl,t,m,hx,rfl⟩
 have ht:t=4:=by
  have h1:t<5:=by
   rcases B8 t 5 with h | h
   ·exact h
   ·have:2 ^ 5<=2 ^ t:=HU (by decide) h
    have h2:2 ^ t*1<=2 ^ t*(2*m+1):=OR _ (by omega)
    omega
  match t,h1,hx with
  | 0,_,hx=>omega
  | 1,_,hx=>omega
  | 2,_,hx=>omega
  | 3,_,hx=>omega
  | 4,_,hx=>rfl
 subst ht
 exact⟨Z,σ,H,.ret _,CR.refl _,Nw.refl _ _,A5 _,hW,⟨_,rfl,.int _ _⟩,rfl,rfl⟩
end
end Go.Proofs.YtlmkmpomgdbjhaaGreatDoor
namespace Go.Proofs.YtlmkmpomgdbjhaaGreatDoor.San
open Tryz
noncomputable section
open Go Go.AL
variable [BX]
set_option maxRecDepth 1000000
theorem Mo {P:Program}{g:FuncId}{F:GF}{a0:List AV}{R:AV}{call:Ag}(hS:Aw P g F) (hC:AW P call) (hk:TM a0 R (F call a0 KH.emp)=true):dB P g a0 R:=by
 intro H al hg ha
 simp only[TM,AS]at hk
 obtain⟨hs,hk⟩:=hk
 cases hr:F call a0 KH.emp with
 | Bi v h'=>rw[hr]at hk;cases hk
 | bad=>rw[hr]at hk;cases hk
 | ret v h'=>
  rw[hr]at hk
  have hA:=(hS call hC a0 KH.emp).1 v h' hr
  exact AP.Oi (hA.mono fun o H' hq=>⟨v,hq.1,by rw[hq.2];exact LO _ _ hk⟩) (DJ _ hs) ha (fun r=>by rw[FE];rfl) (by rw[hg];rfl)
def bN (k n:Nat):List AV:=Nat.rec (motive:=fun _=>Nat->List AV) (fun _=>[]) (fun _ ih n=>dM (Nat.mod n 256) fun m=>dM (Nat.div n 256) fun d=>N .u8 m::ih d) k n
def xK (g:Nat):Bool:=Nat.beq g 23||Nat.beq g 26||Nat.beq g 38||Nat.beq g 81||Nat.beq g 88||Nat.beq g 182||Nat.beq g 238||Nat.beq g 241||Nat.beq g 243||Nat.beq g 244||Nat.beq g 303||Nat.beq g 335||Nat.beq g 336||Nat.beq g 386||Nat.beq g 410||Nat.beq g 411||Nat.beq g 412||Nat.beq g 482||Nat.beq g 485||Nat.beq g 615
def Tb:OK:=iV (Cq 297 (Cq 140 (Cq 82 (Cq 43 (Cq 25 (Cj 23 zK) (Cq 35 (Cj 25 zJ) (Cj 35 zI))) (Cq 44 (Cj 43 zH) (Cq 53 (Cj 44 zG) (Cj 53 zF)))) (Cq 91 (Cq 87 (Cj 82 zE) (Cq 90 (Cj 87 zD) (Cj 90 zC))) (Cq 103 (Cj 91 zB) (Cq 116 (Cj 103 rB) (Cj 116 rA))))) (Cq 218 (Cq 184 (Cq 172 (Cj 140 q_) (Cq 180 (Cj 172 qy) (Cj 180 qx))) (Cq 187 (Cj 184 qv) (Cq 215 (Cj 187 qu) (Cj 215 qq)))) (Cq 286 (Cq 219 (Cj 218 qp) (Cq 282 (Cj 219 qn) (Cj 282 qm))) (Cq 288 (Cj 286 ql) (Cq 296 (Cj 288 qj) (Cj 296 qi)))))) (Cq 431 (Cq 340 (Cq 324 (Cq 322 (Cj 297 qh) (Cq 323 (Cj 322 qg) (Cj 323 qf))) (Cq 325 (Cj 324 qe) (Cq 326 (Cj 325 qa) (Cj 326 qZ)))) (Cq 343 (Cq 341 (Cj 340 qY) (Cq 342 (Cj 341 qX) (Cj 342 qW))) (Cq 365 (Cj 343 qV) (Cq 381 (Cj 365 qU) (Cj 381 qT))))) (Cq 442 (Cq 434 (Cq 432 (Cj 431 qS) (Cq 433 (Cj 432 qR) (Cj 433 qQ))) (Cq 435 (Cj 434 qP) (Cq 440 (Cj 435 qO) (Cj 440 qN)))) (Cq 552 (Cq 443 (Cj 442 qM) (Cq 444 (Cj 443 qL) (Cj 444 qK))) (Cq 554 (Cq 553 (Cj 552 qJ) (Cj 553 qI)) (Cq 574 (Cj 554 qH) (Cj 574 qG))))))) (iU Un prog xK)
theorem Vk:Kv prog Tb:=dz (Ay (Ay (Ay (Ay (Ay (Au rh) (Ay (Au vQ) (Au S35))) (Ay (Au u_) (Ay (Au S44) (Au uo)))) (Ay (Ay (Au S82) (Ay (Au S87) (Au S90))) (Ay (Au S91) (Ay (Au vj) (Au vh))))) (Ay (Ay (Ay (Au vg) (Ay (Au vX) (Au vW))) (Ay (Au vV) (Ay (Au vU) (Au vT)))) (Ay (Ay (Au vS) (Ay (Au vR) (Au vP))) (Ay (Au vO) (Ay (Au vN) (Au vM)))))) (Ay (Ay (Ay (Ay (Au vL) (Ay (Au vK) (Au vJ))) (Ay (Au vI) (Ay (Au vH) (Au vG)))) (Ay (Ay (Au vF) (Ay (Au vE) (Au vD))) (Ay (Au vC) (Ay (Au vB) (Au vA))))) (Ay (Ay (Ay (Au u9) (Ay (Au u7) (Au u6))) (Ay (Au uz) (Ay (Au uy) (Au ux)))) (Ay (Ay (Au uw) (Ay (Au uu) (Au uq))) (Ay (Ay (Au um) (Au uk)) (Ay (Au uj) (Au ui))))))) (dx QB Pp xK)
def LA:List AV:=[.agg [.int .u64 (.ofNat 18446744073709551615),.int .u64 (.ofNat 18446744065119617023),.int .u64 (.ofNat 18446744073709551615),.int .u64 (.ofNat 18446744073709551615)]]
def LB:List AV:=[.agg [.int .u64 (.ofNat 0),.int .u64 (.ofNat 8589934592),.int .u64 (.ofNat 0),.int .u64 (.ofNat 0)]]
def N0:Ag:=Pk 238 LA (.int .i64 (.ofNat 0)) (Pk 238 LB (.int .i64 (.ofNat 97)) (Pk 412 [N .u64 16] (I 4) Ms))
theorem pL [Bw]:AW prog N0:=Mu (Mu (Mu mr fun H hg=>call412 hg) fun H hg=>call238 hg 0 8589934592 0 0 97 (.inr (by decide)) (by decide) (by decide) iz) fun H hg=>call238 hg 18446744073709551615 18446744065119617023 18446744073709551615 18446744073709551615 0 (.inl (by decide)) (by decide) (by decide) i_
end
section
open Go Go.AL Go.AL.Sha
variable [BX]
def fV:List AV->Option (List UInt8)
 | []=>some []
 | .int .u8 n::l=>match fV l with
  | some bs=>bif ES (.int .u8 n) (bv (UInt8.ofNat n.toNat))then some (UInt8.ofNat n.toNat::bs)else none
  | none=>none
 | _=>none
theorem WS:∀(l:List AV) (bs:List UInt8),fV l=some bs->l=bs.map bv:=by
 intro l
 fun_induction fV l with
 | case1=>intro bs h;cases h;rfl
 | case2 n l b' e h2 ih=>
  intro bs h
  cases h
  rw[B6,<- ih b' e,<- CB _ _ h2]
 | case3=>intro bs h;cases h
 | case4=>intro bs h;cases h
 | case5=>intro bs h;cases h
def fU:AV->Option (List UInt8)
 | .nils=>some []
 | .sim l n _=>bif Nat.beq n l.length then fV l else none
 | _=>none
theorem WO {v:AV}{bs:List UInt8}(h:fU v=some bs):KM bs v:=by
 cases v with
 | nils=>cases h;exact .inl ⟨rfl,rfl⟩
 | sim l n b=>
  simp only[fU]at h
  cases e:Nat.beq n l.length with
  | false=>rw[e]at h;cases h
  | true=>
   rw[e]at h
   have e2:=WS _ _ h
   have e3:=Cn e
   subst e2
   rw[BR]at e3
   subst e3
   exact .inr ⟨b,rfl⟩
 | _=>cases h
def U7:List AV->Option (List (List UInt8))
 | []=>some []
 | v::l=>match fU v,U7 l with
  | some b,some bs=>some (b::bs)
  | _,_=>none
theorem Nk:∀(l:List AV) (ps:List (List UInt8)),U7 l=some ps->l.length=ps.length/\∀(i:Nat) (v:AV),l[i]?=some v->∃bs,ps[i]?=some bs/\KM bs v
 | [],_,h=>by cases h;exact⟨rfl,fun i v hi=>by simp at hi⟩
 | v::l,ps,h=>by
  simp only[U7]at h
  cases e:fU v with
  | none=>rw[e]at h;simp at h
  | some b=>
   cases e2:U7 l with
   | none=>rw[e,e2]at h;simp at h
   | some bs=>
    rw[e,e2]at h
    cases h
    obtain⟨g1,g2⟩:=Nk l bs e2
    refine⟨by simp[g1],fun i x hi=>?_⟩
    cases i with
    | zero=>rw[EU]at hi;cases hi;exact⟨b,rfl,WO e⟩
    | succ i=>rw[Gf]at hi ⊢;exact g2 i x hi
def WU (a0:List AV) (R:AV):Bool:=match a0 with
 | [.sim l n b]=>match U7 l with
  | some ps=>Nat.beq n l.length&&((b||Nat.ble 1 n)&&(Nat.blt ps.length 1099511627776&&(Nat.blt ps.flatten.length 68719476736&&(OB 0 a0&&(LF R&&ES R (.agg ((sum ps.flatten).map bv)))))))
  | none=>false
 | _=>false
theorem YL [Bp] {a0:List AV}{R:AV}(h:WU a0 R=true):dB prog 88 a0 R:=by
 intro H al hg ha
 unfold WU at h
 split at h
 next l n b=>
  split at h
  next ps e=>
   simp only[AS]at h
   obtain⟨h1,h2,h3,h4,h5,h6,h7⟩:=h
   obtain⟨g1,g2⟩:=Nk _ _ e
   have hn:=Cn h1
   have hl:=DJ _ h5
   have hb0:ps.length=0->b=true:=fun h0=>by
    rw[Ee]at h2
    rcases h2 with h2 | h2
    ·exact h2
    ·have:=Ab h2;omega
   subst hn
   rw[g1]at ha
   have hp:FL 1 (SH ps) ps.length (.sim l ps.length b):=FL.lO g1 hb0 fun i x hx=>by
    obtain⟨bs,k1,k2⟩:=g2 i x hx
    exact⟨fun k=>by rcases k2 with⟨_,rfl⟩ | ⟨b,rfl⟩;exact .nils;exact .sim (Ef _ k),x,bs,rfl,k1,k2⟩
   have hC:=b_ (H:=⟨fun _=>none,0,BX.G⟩) rfl hp (Ab h3) (Ab h4)
   rw[<- CB _ _ h7]at hC
   exact AP.Oi (AP.mono hC fun o H' hq=>by
    obtain⟨rfl,x,rfl,rfl⟩:=hq
    exact⟨_,rfl,.pln (LD _ h6)⟩) (by rw[<- g1];exact hl) ha (fun r=>rfl) hg
  next=>cases h
 next=>cases h
end
end Go.Proofs.YtlmkmpomgdbjhaaGreatDoor.San
