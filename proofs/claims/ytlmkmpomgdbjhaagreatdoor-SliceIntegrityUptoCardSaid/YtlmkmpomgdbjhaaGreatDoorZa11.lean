import Derived.Test.YtlmkmpomgdbjhaaGreatDoorZa10
import Derived.Test.YtlmkmpomgdbjhaaGreatDoorProg
/-
  a part of the proof.
-/
set_option linter.unusedSectionVars false
set_option linter.unusedVariables false
set_option linter.unusedSimpArgs false
namespace Go.Proofs.YtlmkmpomgdbjhaaGreatDoor.San
open Tryz
section
open Go Go.AL
theorem Pb:prog.follows .mixedOrders=true:=by kernel_rfl
variable [BQ]
theorem tS {g:FuncId}{fn:Func}{F:GF}(hf:prog.funcs[g]?=some fn) (ho:kg prog fn=true) (hF:F=ve prog fn):Ax prog g F:=sA Pb hf ho hF
def H46:Hints:=[(5,[(0,0,[],false),(1,1,[],false),(2,0,[1],true),(3,7,[],true)])]
theorem A46:∀all H,all.length=2->FO prog 46 all none H fun H'=>H'=H:=Mz (fn:=f46) (n:=18) (hs:=H46) (ra:=5) (rb:=2) (rc:=6) (rd:=7) Pb (by kernel_rfl) (by kernel_rfl) (by kernel_rfl) (by kernel_rfl) (by kernel_rfl) (by kernel_rfl) (by kernel_rfl) (by kernel_rfl) (by kernel_rfl)
def uX:Hints:=[]
theorem vR:∀all H,all.length=2->FO prog 171 all none H fun H'=>H'=H:=Mz (fn:=f171) (n:=16) (hs:=uX) (ra:=5) (rb:=2) (rc:=6) (rd:=7) Pb (by kernel_rfl) (by kernel_rfl) (by kernel_rfl) (by kernel_rfl) (by kernel_rfl) (by kernel_rfl) (by kernel_rfl) (by kernel_rfl) (by kernel_rfl)
def uV:Hints:=[(5,[(0,0,[],false),(1,1,[],false),(2,0,[],false),(3,4,[],false),(4,0,[1,3],true),(5,19,[3],true),(6,63,[],true)])]
theorem vQ:∀all H,all.length=3->FO prog 395 all none H fun H'=>H'=H:=Mz (fn:=f395) (n:=21) (hs:=uV) (ra:=6) (rb:=3) (rc:=7) (rd:=8) Pb (by kernel_rfl) (by kernel_rfl) (by kernel_rfl) (by kernel_rfl) (by kernel_rfl) (by kernel_rfl) (by kernel_rfl) (by kernel_rfl) (by kernel_rfl)
noncomputable def x7:GF:=fun cl ar h=>X_ (An ar fun s ar=>Bi ar (
 CM [.nils] p0 h fun b o=>
 CM [(I 0)] p0 o fun f p=>
 D3 [.nils] [.mk 0 1 s] fun t=>
 Dm t p fun g q=>
 BR cl 47 [g,(.fn (.func 48) [g] [])] q fun u r=>
 BK 1 b u r fun e=>
 Dl g fun v=>
 BI 0 v fun w=>
 AR none w e fun x=>
 A8 x fun j=>
 BE .gtr j (I 0) fun k=>
 A7 k
 (BK 1 b .nils e fun i=>
 BK 1 f (I 4) i fun a=>
 AR none b a fun m=>
 AR none f a fun d=>
 .ret (.tup [m,d]) a)
 (AR none b e fun l=>
 BK 1 b l e fun a=>
 BK 1 f (I 0) a fun c=>
 AR none b c fun d=>
 AR none f c fun n=>
 .ret (.tup [d,n]) c)))
def xN:Hints:=[]
theorem qa:Ax prog 23 x7:=UQ (fn:=f23) (n:=20) (np:=1) (hs:=xN) (q:=[.cell 2 none,.cell 3 none]) (t:=5) (g:=46) (cp:=[(.tmp 2),(.tmp 3)]) [.l] (t3:=(.s .l (.s .l (.s (.s .l (.i (.s .l .l) .l)) (.s .l .l))))) Pb (by kernel_rfl) (by kernel_rfl) (by kernel_rfl) (by kernel_rfl) (by kernel_rfl) (by kernel_rfl) (by kernel_rfl) (by kernel_rfl) (by kernel_rfl) (by kernel_rfl) (by kernel_rfl) (by kernel_rfl) A46 (by kernel_rfl)
noncomputable def x6:GF:=fun cl ar h=>An ar fun m ar=>An ar fun n ar=>Bi ar (
 BH (CR [0,1,5]) (fun l=>(fun(j k a:AV) (d:KH)=>
 BZ a (I 64) fun o=>
 A7 o
 (Cf .u64 k fun p=>
 BE .shr p a fun q=>
 Cf .u8 q fun e=>
 C8 [(N .u8 0)] 1 [.mk 0 1 e] d fun f b=>
 Du 1 1 j f b fun g c=>
 BW a (I 8) fun i=>
 l g k i c)
 (.ret j d))) m n (I 0) h)
theorem uH:Ax prog 25 x6:=tS func25 (by kernel_rfl) (by kernel_rfl)
noncomputable def x5:GF:=fun cl ar h=>X_ (An ar fun v0 ar=>An ar fun t ar=>Bi ar (
 Dm v0 h fun m h2=>
 CM ((I 0)::(BD 4 .nils ((I 0)::[]))) p0 h2 fun n h3=>
 CM [(I 0)] p0 h3 fun o h4=>
 AR (some 6) m h4 fun v5=>
 BR cl 71 [v5] h4 fun v6 G=>
 KV v6 (I 0) fun v7=>
 A7 v7
 (D3 ((I 0)::(BD 4 .nils ((I 0)::[]))) [] fun Z=>
 BK 6 n Z G fun h9=>
 BK 1 o v6 h9 fun e2=>
 KC.bad)
 (BI 5 m fun Z=>
 AR none Z G fun v9=>
 A8 v9 fun a7=>
 BE .gtr a7 (I 0) fun M=>
 Dt false M (fun(e4 u:AV) (L:KH)=>
 C_ M (.bool true) u fun O=>
 Dt false O (fun(e5 v:AV) (i:KH)=>
 C_ O (.bool true) v fun a8=>
 A7 a8
 (D3 ((I 0)::(BD 4 .nils ((I 0)::[]))) [] fun w=>
 BK 6 n w i fun a0=>
 BK 1 o (I 1) a0 fun e3=>
 KC.bad)
 (AR (some 6) m i fun w=>
 BI 1 m fun a9=>
 AR none a9 i fun b0=>
 A8 b0 fun b1=>
 BI 2 m fun b2=>
 AR none b2 i fun b3=>
 A8 b3 fun b4=>
 BW b1 b4 fun b5=>
 D3 (BD 6 .nils ((I 0)::(.nils::((I 0)::(BD 2 .nils ((.bool false)::[])))))) [.mk 0 6 w,.mk 6 1 b5,.mk 8 1 t] fun b6=>
 Dm b6 i fun b7 a1=>
 CM [.nilp] p0 a1 fun a a2=>
 BK 1 a b7 a2 fun c=>
 AR none a c fun Q=>
 AR none a c fun b8=>
 AR none a c fun R=>
 AR none a c fun U=>
 AR none a c fun V=>
 AR none a c fun W=>
 AR none a c fun X=>
 AR none a c fun Y=>
 VI (BD 6 .nilf []) 6 [.mk 0 1 (.fn (.func 75) [R] []),.mk 1 1 (.fn (.func 76) [U] []),.mk 2 1 (.fn (.func 77) [V] []),.mk 3 1 (.fn (.func 78) [W] []),.mk 4 1 (.fn (.func 79) [X] []),.mk 5 1 (.fn (.func 80) [Y] [])] fun c40 g40=>CM c40 g40 c fun b9 a4=>
 BR cl 74 [b8] a4 fun c0 d=>
 Fs (cond (X9 c.nx c40 d) (cond (Hr (Es none a d) Y) (cond (Hr (Es none a d) X) (cond (Hr (Es none a d) W) (cond (Hr (Es none a d) V) (cond (Hr (Es none a d) U) (cond (Hr (Es none a d) R) (cond (Hr (Es none a d) Q) true false) false) false) false) false) false) false) false) (BR cl 73 [Q,c0,b9] d fun e6 b=>
 Fs true (AR none a b fun c1=>
 Dl c1 fun c2=>
 BI 10 c2 fun c3=>
 AR none c3 b fun c4=>
 A8 c4 fun c5=>
 JG c5 (I 0) fun c6=>
 A7 c6
 (AR none a b fun x=>
 Dl x fun y=>
 BI 9 y fun z=>
 AR none z b fun A=>
 AR none a b fun l=>
 Dl l fun f=>
 BI 8 f fun g=>
 AR none g b fun B=>
 D3 ((I 0)::(BD 4 .nils ((I 0)::[]))) [.mk 0 1 (I 2),.mk 3 1 A,.mk 5 1 B] fun k=>
 BK 6 n k b fun a5=>
 BK 1 o (I 0) a5 fun j=>
 AR (some 6) n j fun D=>
 AR none o j fun E=>
 .ret (.tup [D,E]) j)
 (AR none a b fun x=>
 Dl x fun y=>
 BI 11 y fun z=>
 AR none z b fun A=>
 JF A (fun(l f g:AV) (e:KH)=>
 AR none g e fun k=>
 Dl k fun C=>
 BI 10 C fun c7=>
 AR none c7 e fun D=>
 AR none g e fun E=>
 Dl E fun c9=>
 BI 8 c9 fun d0=>
 AR none d0 e fun d1=>
 D3 ((I 0)::(BD 4 .nils ((I 0)::[]))) [.mk 0 1 (I 3),.mk 4 1 D,.mk 5 1 d1] fun d2=>
 BK 6 l d2 e fun a6=>
 BK 1 f (I 0) a6 fun s=>
 AR (some 6) l s fun d3=>
 AR none f s fun d4=>
 .ret (.tup [d3,d4]) s)
 (fun r=>AR none a b fun f=>
 AR (some 6) m b fun g=>
 C8 (BD 6 .nils []) 1 [.mk 0 6 g] b fun B e=>
 Dl f fun k=>
 BI 10 k fun C=>
 BK 1 C B e fun j=>
 r n o a j)
 (fun r=>r n o a b)))))) (fun q=>
 BE .gtr t (I 1073741824) fun v=>
 q t v L) (fun q=>q Bp Bp L)) (fun p=>
 BZ t (I 0) fun u=>
 p t u G) (fun p=>p Bp Bp G))))
def xM:Hints:=[(8,[(0,0,[],false),(1,0,[],false),(3,0,[],false),(4,8,[],false),(5,0,[],false),(6,32,[],false),(7,0,[],false),(8,128,[],false),(9,0,[],false),(10,512,[],false),(11,0,[],false),(12,2048,[],false),(13,0,[],false),(14,8192,[],false),(15,32760,[],false),(2,2,[0,3,5,7,9,11,13,15],true),(16,65535,[],true)]),(10,[(0,0,[],false),(1,1,[],false),(2,3,[],false),(3,7,[],false),(4,0,[],false),(5,16,[],false),(6,48,[],false),(7,112,[],false),(8,255,[],false),(9,511,[],true),(10,1023,[],true)]),(13,[(0,0,[],false),(1,1,[],false),(2,3,[],false),(3,7,[],false),(4,0,[],false),(5,16,[],false),(6,48,[],false),(7,112,[],false),(8,255,[],false),(9,511,[],true),(10,1023,[],true)])]
theorem S35:Ax prog 35 x5:=UQ (fn:=f35) (n:=89) (np:=2) (hs:=xM) (q:=[.cell 4 (some 6),.cell 5 none]) (t:=38) (g:=72) (cp:=[(.tmp 7),(.tmp 4),(.tmp 5)]) [.l,(.s .l (.s .l (.i (.s .l .l) .l))),(.s .l (.i (.s .l .l) .l)),.l] (t3:=(.s .l (.s (.s .l (.i (.s .l .l) .l)) (.s (.s .l (.j [4,5,7] .l .l)) (.s .l .l))))) Pb (by kernel_rfl) (by kernel_rfl) (by kernel_rfl) (by kernel_rfl) (by kernel_rfl) (by kernel_rfl) (by kernel_rfl) (by kernel_rfl) (by kernel_rfl) (by kernel_rfl) (by kernel_rfl) (by kernel_rfl) A72 (by kernel_rfl)
noncomputable def x4:GF:=fun cl ar h=>An ar fun V ar=>An ar fun W ar=>Bi ar (
 Dm V h fun X O=>
 CM (BD 32 (N .u8 0) []) p0 O fun Y Q=>
 CM (BD 64 (N .u8 0) []) p0 Q fun Z R=>
 CM (BD 64 (N .u8 0) []) p0 R fun v5 U=>
 BH (CR [1,2,4,5,6,10]) (fun M=>(fun(s t q k l a:AV) (d:KH)=>
 BZ a (I 64) fun C=>
 A7 C
 (BZ a (I 32) fun m=>
 JF m (fun(n c b r f g i o:AV) (e:KH)=>
 BE .xor i (N .u8 54) fun p=>
 BE .xor i (N .u8 92) fun D=>
 Ds 64 1 r g fun E=>
 BK 1 E p e fun A=>
 Ds 64 1 f g fun G=>
 BK 1 G D A fun B=>
 BW o (I 1) fun L=>
 M n c b r f L B)
 (fun j=>Ds 32 1 t a fun c=>
 AR none c d fun b=>
 j s t q k l a b a d)
 (fun j=>j s t q k l a (N .u8 0) a d))
 (Nj (.sliceA 64 1 (.cst k) none none none) fun m=>
 C8 [.nils,.nils] 2 [.mk 0 1 m,.mk 1 1 s] d fun n u=>
 BR cl 88 [n] u fun c v=>
 CM (BD 32 (N .u8 0) []) p0 v fun b w=>
 BK 32 b c w fun x=>
 Nj (.sliceA 64 1 (.cst l) none none none) fun f=>
 Nj (.sliceA 32 1 (.cst b) none none none) fun g=>
 C8 [.nils,.nils] 2 [.mk 0 1 f,.mk 1 1 g] x fun i y=>
 BR cl 88 [i] y fun o z=>
 BK 32 q o z fun e=>
 AR (some 32) q e fun p=>
 .ret p e))) W X Y Z v5 (I 0) U)
theorem S43:Ax prog 43 x4:=tS func43 (by kernel_rfl) (by kernel_rfl)
noncomputable def xz:GF:=fun cl ar h=>An ar fun j ar=>Bi ar (
 A8 j fun z=>
 BH (CR [0,3,9,10,11]) (fun y=>(fun(k v w x l:AV) (i:KH)=>
 BZ l x fun A=>
 A7 A
 (Aw 1 w l fun e=>
 AR none e i fun f=>
 A8 f fun p=>
 BW v p fun a=>
 BZ a (I 0) fun b=>
 A7 b
 (Q6 (.ifc 9 (.str [108,101,110,32,111,117,116,32,111,102,32,114,97,110,103,101])) i)
 (BW l (I 1) fun c=>
 y k a w x c i))
 (BR cl 89 [.nils,v] i fun e n=>
 A8 k fun f=>
 BH (CR [6,25,26,27]) (fun m=>(fun(a b c g:AV) (d:KH)=>
 BZ g c fun q=>
 A7 q
 (Aw 1 b g fun r=>
 AR none r d fun s=>
 Du 1 1 a s d fun t o=>
 BW g (I 1) fun u=>
 m t b c u o)
 (.ret a d))) e k f (I 0) n))) j (I 0) j z (I 0) h)
theorem S44:Ax prog 44 xz:=tS func44 (by kernel_rfl) (by kernel_rfl)
noncomputable def xy:GF:=fun cl ar h=>An ar fun u ar=>An ar fun o ar=>Bi ar (
 Cf .u64 o fun A=>
 BE .shl A (N .u64 1) fun B=>
 BZ o (I 0) fun C=>
 JF C (fun(D p:AV) (z:KH)=>
 BH (CR [0,4]) (fun y=>(fun(a c:AV) (b:KH)=>
 BE .gtr c (N .u64 127) fun v=>
 A7 v
 (Dl a fun e=>
 BI 0 e fun f=>
 AR none f b fun g=>
 Cf .u8 c fun i=>
 BE .or i (N .u8 128) fun j=>
 C8 [(N .u8 0)] 1 [.mk 0 1 j] b fun k d=>
 Du 1 1 g k d fun l r=>
 Dl a fun m=>
 BI 0 m fun w=>
 BK 1 w l r fun t=>
 BE .shr c (N .u64 7) fun x=>
 y a x t)
 (Dl a fun e=>
 BI 0 e fun f=>
 AR none f b fun g=>
 Cf .u8 c fun i=>
 C8 [(N .u8 0)] 1 [.mk 0 1 i] b fun j q=>
 Du 1 1 g j q fun k d=>
 Dl a fun l=>
 BI 0 l fun m=>
 BK 1 m k d fun s=>
 .ret (.tup []) s))) D p z)
 (fun n=>Ni .xor o fun p=>
 Cf .u64 p fun E=>
 BE .shl E (N .u64 1) fun G=>
 BE .or G (N .u64 1) fun a=>
 n u a h)
 (fun n=>n u B h))
theorem td:Ax prog 53 xy:=tS func53 (by kernel_rfl) (by kernel_rfl)
noncomputable def xx:GF:=fun cl ar h=>X_ (An ar fun v0 ar=>An ar fun v1 ar=>An ar fun v2 ar=>Bi ar (
 Dm v0 h fun v3 h3=>
 Dm v1 h3 fun y h4=>
 CM [.nils] p0 h4 fun q h5=>
 CM [(I 0)] p0 h5 fun s Q=>
 AR (some 2) v3 Q fun v7=>
 BR cl 169 [v7] Q fun v8 h8=>
 Fq 0 v8 fun v9=>
 Fq 1 v8 fun R=>
 CM [(I 0),(I 0),.nils] p0 h8 fun U z=>
 BK 3 U v9 z fun g=>
 KV R (I 0) fun x=>
 Dt false x (fun(d7 n e:AV) (i:KH)=>
 C_ x (.bool true) e fun W=>
 A7 W
 (BK 1 q .nils i fun B=>
 BK 1 s (I 1) B fun d6=>
 KC.bad)
 (AR (some 2) v3 i fun X=>
 D3 [.nils,.nils,.nils] [.mk 0 2 X] fun Y=>
 Dm Y i fun o t=>
 BI 0 y fun Z=>
 AR none Z t fun a0=>
 BR cl 172 [a0] t fun a1 C=>
 D3 (BD 6 .nils ((.bool false)::((I 0)::(BD 4 .nils ((I 0)::(.nils::((I 0)::(.nils::((I 0)::(.nils::((I 0)::(.nils::((I 0)::(.nils::((I 0)::(.nils::((I 0)::(.nils::((I 0)::(.nils::((I 0)::(.nils::((I 0)::(.nils::((I 0)::(.nils::(BD 5 (I 0) (BD 4 (N .u64 0) (.nils::(BD 2 (.bool false) (BD 2 .nils []))))))))))))))))))))))))))))))) [.mk 39 4 a1,.mk 45 1 (.bool true)] fun a2=>
 Dm a2 C fun a u=>
 BI 1 y fun a3=>
 AR none a3 u fun a4=>
 BR cl 173 [a,a4,v2] u fun a5 D=>
 CM [(I 0),(N .u8 0)] p0 D fun b E=>
 BK 2 b a5 E fun c=>
 AR (some 2) b c fun p=>
 VI [(I 0),(N .u8 0)] 1 [.mk 0 2 p] fun c33 g33=>CM c33 g33 c fun a7 v=>
 Dl a fun a8=>
 BI 39 a8 fun a9=>
 AR (some 4) a9 v fun b0=>
 BR cl 176 [b0] v fun b1 j=>
 Fs (cond (X9 c.nx c33 j) (cond (Hr (Es (some 2) b j) p) true false) false) (BW b1 (.str [42]) fun b2=>
 BR cl 175 [b2] j fun b3 k=>
 Fs (cond (X9 c.nx c33 k) (cond (Hr (Es (some 2) b k) p) true false) false) (BR cl 174 [a,a7,b3,(.bool false)] k fun d8 w=>
 Fs true (AR (some 2) b w fun b4=>
 BR cl 177 [a,(I 0),b4] w fun d9 G=>
 BR cl 179 [a,(I 0)] G fun b5 L=>
 BR cl 178 [o,b5] L fun e0 d=>
 Dl o fun b6=>
 BI 2 b6 fun b7=>
 AR none b7 d fun b8=>
 A8 b8 fun b9=>
 BE .gtr b9 (I 64) fun c0=>
 A7 c0
 (BK 1 q .nils d fun M=>
 BK 1 s (I 2) M fun l=>
 AR none q l fun r=>
 AR none s l fun c3=>
 .ret (.tup [r,c3]) l)
 (Dl o fun c1=>
 BI 2 c1 fun c2=>
 AR none c2 d fun r=>
 BK 1 q r d fun O=>
 BK 1 s (I 0) O fun m=>
 AR none q m fun c4=>
 AR none s m fun c5=>
 .ret (.tup [c4,c5]) m)))))) (fun f=>
 AR (some 2) y g fun n=>
 BR cl 170 [n] g fun e A=>
 Ni .not e fun V=>
 f n e V A) (fun f=>f Bp Bp Bp g)))
def H82:Hints:=[(8,[(0,0,[],false),(1,0,[],false),(2,2,[],false),(3,0,[],false),(4,8,[],false),(5,24,[],false),(6,56,[],false),(7,120,[1,2],true),(8,248,[],false),(9,504,[1,2],true),(10,1023,[],true)])]
theorem S82:Ax prog 82 xx:=US (fn:=f82) (n:=67) (np:=3) (hs:=H82) (q:=[.cell 6 none,.cell 7 none]) (t:=25) (g:=171) (cp:=[(.tmp 6),(.tmp 7)]) (t0:=.l) (t1:=(.s .l (.s .l (.i (.s .l .l) .l)))) (t3:=(.s .l (.s .l (.s .l (.s .l (.s .l (.s .l (.s (.s .l (.i (.s .l .l) .l)) (.s .l .l))))))))) Pb (by kernel_rfl) (by kernel_rfl) (by kernel_rfl) (by kernel_rfl) (by kernel_rfl) (by kernel_rfl) (by kernel_rfl) (by kernel_rfl) (by kernel_rfl) (by kernel_rfl) (by kernel_rfl) (by kernel_rfl) vR (by kernel_rfl)
noncomputable def xw:GF:=fun cl ar h=>An ar fun y ar=>Bi ar (
 CM (BD 32 (N .u8 0) []) p0 h fun W V=>
 A8 y fun X=>
 BH (CR [2,3,8,9,10]) (fun U=>(fun(q O Q R r:AV) (p:KH)=>
 BZ r R fun z=>
 A7 z
 (Aw 1 Q r fun a=>
 AR none a p fun A=>
 BH (CR [2,3,5,6,8,9,10,14]) (fun s=>(fun(j k b l m n o c:AV) (i:KH)=>
 BZ c (I 8) fun C=>
 A7 C
 (A8 b fun d=>
 Cf .u64 d fun e=>
 M4 (I 8) c fun f=>
 BE .shr e f fun D=>
 Cf .u8 D fun E=>
 C8 [(N .u8 0)] 1 [.mk 0 1 E] i fun G w=>
 Du 1 1 l G w fun L x=>
 BW c (I 1) fun M=>
 s j k b L m n o M x)
 (C8 [.nils,.nils] 2 [.mk 0 1 l,.mk 1 1 b] i fun d u=>
 Du 1 24 k d u fun e v=>
 BW o (I 1) fun f=>
 U j e m n f v))) q O A .nils Q R r (I 0) p)
 (BR cl 88 [O] p fun a t=>
 BK 32 q a t fun g=>
 AR (some 32) q g fun B=>
 .ret B g))) W .nils y X (I 0) V)
theorem S87:Ax prog 87 xw:=tS func87 (by kernel_rfl) (by kernel_rfl)
noncomputable def xv:GF:=fun cl ar h=>An ar fun p ar=>An ar fun d ar=>Bi ar (
 AR none d h fun q=>
 A8 q fun r=>
 BE .sub r (I 1) fun s=>
 BH (CR [0,1,3]) (fun o=>(fun(m n b:AV) (a:KH)=>
 BE .geq b (I 0) fun e=>
 A7 e
 (AR none n a fun f=>
 Aw 1 f b fun g=>
 AR none g a fun i=>
 SI cl m [b,i] a fun j c=>
 Ni .not j fun k=>
 A7 k
 (.ret (.tup []) c)
 (BE .sub b (I 1) fun l=>
 o m n l c))
 (.ret (.tup []) a))) p d s h)
theorem S90:Ax prog 90 xv:=tS func90 (by kernel_rfl) (by kernel_rfl)
noncomputable def xu:GF:=fun cl ar h=>An ar fun Q ar=>Bi ar (
 BH (CR [0,3,4]) (fun M=>(fun(x R o:AV) (O:KH)=>
 BR cl 184 [x] O fun c v=>
 JG o (I 9) fun L=>
 Dt true L (fun(W u:AV) (p:KH)=>
 C_ L u (.bool false) fun g=>
 Dt false g (fun(U i s:AV) (q:KH)=>
 Dt true s (fun(V j:AV) (r:KH)=>
 Dt false g (fun(w:AV) (a:KH)=>
 C_ g (.bool true) w fun z=>
 A7 z
 (D3 [(I 0)] [.mk 0 1 (I 4)] fun k=>
 Q6 (.ifc 139 k) a)
 (BE .and c (N .u8 127) fun k=>
 Cf .u64 k fun A=>
 M4 (I 7) o fun B=>
 BE .shl A B fun C=>
 BE .or R C fun b=>
 BZ c (N .u8 128) fun D=>
 A7 D
 (BE .and b (N .u64 1) fun l=>
 JG l (N .u64 1) fun E=>
 A7 E
 (BE .shr b (N .u64 1) fun m=>
 Cf .i64 m fun n=>
 Ni .xor n fun G=>
 .ret G a)
 (BE .shr b (N .u64 1) fun m=>
 Cf .i64 m fun n=>
 .ret n a))
 (BW o (I 1) fun l=>
 M x b l a))) (fun f=>
 C_ s j (.bool false) fun y=>
 f y r) (fun f=>f Bp r)) (fun e=>
 JG c (N .u8 0) fun j=>
 e c j q) (fun e=>e Bp Bp q)) (fun d=>
 BE .gtr o (I 0) fun i=>
 d o i i p) (fun d=>d Bp Bp Bp p)) (fun t=>
 BE .gtr c (N .u8 1) fun u=>
 t c u v) (fun t=>t Bp Bp v))) Q (N .u64 0) (I 0) h)
theorem S91:Ax prog 91 xu:=tS func91 (by kernel_rfl) (by kernel_rfl)
noncomputable def qF:GF:=fun cl ar h=>An ar fun D ar=>An ar fun E ar=>Bi ar (
 Dm E h fun G k=>
 AR (some 4) G k fun L=>
 BH (CR [0,7,8]) (fun C=>(fun(M B i:AV) (o:KH)=>
 BZ i (I 4) fun O=>
 A7 O
 (Nj (.indexA 4 1 none (.cst B) (.cst i)) fun p=>
 BH (CR [0,5,7,8,11]) (fun j=>(fun(a e f g c:AV) (b:KH)=>
 BZ c (I 8) fun q=>
 A7 q
 (Dl a fun d=>
 BI 0 d fun r=>
 AR none r b fun s=>
 M4 (I 8) c fun t=>
 BE .shr e t fun u=>
 Cf .u8 u fun v=>
 C8 [(N .u8 0)] 1 [.mk 0 1 v] b fun w l=>
 Du 1 1 s w l fun x m=>
 Dl a fun y=>
 BI 0 y fun z=>
 BK 1 z x m fun n=>
 BW c (I 1) fun A=>
 j a e f g A n)
 (BW g (I 1) fun d=>
 C a f d b))) M p B i (I 0) o)
 (.ret (.tup []) o))) D L (I 0) k)
theorem uR:Ax prog 103 qF:=tS func103 (by kernel_rfl) (by kernel_rfl)
noncomputable def qE:GF:=fun cl ar h=>An ar fun o ar=>An ar fun c ar=>An ar fun p ar=>Bi ar (
 A8 c fun q=>
 BR cl 53 [o,q] h fun t n=>
 A8 c fun r=>
 BH (CR [2,12,13,14]) (fun m=>(fun(j k l b:AV) (a:KH)=>
 BZ b l fun e=>
 A7 e
 (Aw 1 k b fun f=>
 AR none f a fun g=>
 SI cl j [g] a fun s d=>
 BW b (I 1) fun i=>
 m j k l i d)
 (.ret (.tup []) a))) p c r (I 0) n)
theorem uQ:Ax prog 116 qE:=tS func116 (by kernel_rfl) (by kernel_rfl)
noncomputable def qD:GF:=fun cl ar h=>An ar fun b ar=>An ar fun g ar=>An ar fun c ar=>Bi ar (
 TZ g b fun d=>
 Dt true d (fun(k e i:AV) (f:KH)=>
 C_ d i (.bool false) fun j=>
 .ret j f) (fun a=>
 TZ b c fun e=>
 a b c e h) (fun a=>a Bp Bp Bp h))
theorem uP:Ax prog 140 qD:=tS func140 (by kernel_rfl) (by kernel_rfl)
noncomputable def qC:GF:=fun cl ar h=>An ar fun j ar=>Bi ar (
 CM (BD 4 (N .u64 0) []) p0 h fun s q=>
 CM (BD 4 (N .u64 0) []) p0 q fun t r=>
 A8 j fun u=>
 BH (CR [2,3,6,7,8]) (fun p=>(fun(e f n o g:AV) (a:KH)=>
 BZ g o fun k=>
 A7 k
 (Aw 1 n g fun b=>
 AR none b a fun l=>
 BR cl 286 [f,l] a fun d i=>
 BW g (I 1) fun m=>
 p e f n o m i)
 (AR (some 4) f a fun b=>
 BK 4 e b a fun c=>
 AR (some 4) e c fun d=>
 .ret d c))) s t j u (I 0) r)
theorem uO:Ax prog 172 qC:=tS func172 (by kernel_rfl) (by kernel_rfl)
noncomputable def qB:GF:=fun cl ar h=>An ar fun d ar=>Bi ar (
 Dm d h fun e a=>
 AR (some 4) e a fun f=>
 BR cl 297 [f] a fun g b=>
 BR cl 296 [g] b fun i c=>
 .ret i c)
theorem uN:Ax prog 180 qB:=tS func180 (by kernel_rfl) (by kernel_rfl)
noncomputable def p_:GF:=fun cl ar h=>An ar fun a ar=>Bi ar (
 Dl a fun l=>
 BI 0 l fun m=>
 AR none m h fun n=>
 A8 n fun o=>
 JG o (I 0) fun p=>
 A7 p
 (D3 [(I 0)] [.mk 0 1 (I 5)] fun b=>
 Q6 (.ifc 139 b) h)
 (Dl a fun b=>
 BI 0 b fun q=>
 AR none q h fun r=>
 Aw 1 r (I 0) fun s=>
 AR none s h fun d=>
 Dl a fun e=>
 BI 0 e fun f=>
 AR none f h fun g=>
 Nj (.sliceS 1 (.cst g) (some (.cst (I 1))) none none) fun i=>
 Dl a fun j=>
 BI 0 j fun k=>
 BK 1 k i h fun c=>
 .ret d c))
theorem uM:Ax prog 184 p_:=tS func184 (by kernel_rfl) (by kernel_rfl)
noncomputable def p9:GF:=fun cl ar h=>An ar fun x ar=>Bi ar (
 CM (BD 4 (N .u64 0) []) p0 h fun y v=>
 CM (BD 4 (N .u64 0) []) p0 v fun z w=>
 BH (CR [0,2,3,5]) (fun u=>(fun(t j d e:AV) (c:KH)=>
 BZ e (I 32) fun A=>
 A7 A
 (BE .quo e (I 8) fun a=>
 Ds 4 1 d a fun i=>
 AR none i c fun b=>
 BE .rem e (I 8) fun l=>
 M4 (I 8) l fun m=>
 BR cl 184 [t] c fun n g=>
 Fs (cond (Hr (Es none i g) b) true false) (Cf .u64 n fun o=>
 BE .shl o m fun p=>
 BE .or b p fun q=>
 Ds 4 1 d a fun r=>
 BK 1 r q g fun k=>
 Fs true (BW e (I 1) fun s=>
 u t j d s k)))
 (AR (some 4) d c fun a=>
 BK 4 j a c fun f=>
 AR (some 4) j f fun b=>
 .ret b f))) x y z (I 0) w)
theorem uL:Ax prog 187 p9:=tS func187 (by kernel_rfl) (by kernel_rfl)
noncomputable def pz:GF:=fun cl ar h=>An ar fun b ar=>An ar fun l ar=>Bi ar (
 Dm l h fun f d=>
 A8 b fun m=>
 TZ m (I 24) fun g=>
 Dt true g (fun(o c i n:AV) (k:KH)=>
 C_ g n (.bool false) fun e=>
 .ret e k) (fun a=>
 BR cl 322 [b,(.fn (.func 323) [] [f])] d fun c j=>
 Ni .not c fun i=>
 a b (.fn (.func 323) [] [f]) c i j) (fun a=>a Bp Bp Bp Bp d))
theorem uK:Ax prog 215 pz:=tS func215 (by kernel_rfl) (by kernel_rfl)
noncomputable def py:GF:=fun cl ar h=>An ar fun l ar=>Bi ar (
 Dm l h fun b a=>
 BI 0 b fun m=>
 AR none m a fun n=>
 A8 n fun o=>
 BI 1 b fun p=>
 AR none p a fun q=>
 A8 q fun r=>
 BW o r fun s=>
 BI 2 b fun t=>
 AR none t a fun c=>
 A8 c fun d=>
 BW s d fun e=>
 BI 3 b fun f=>
 AR none f a fun g=>
 A8 g fun i=>
 BW e i fun j=>
 JG j (I 0) fun k=>
 .ret k a)
theorem uJ:Ax prog 218 py:=tS func218 (by kernel_rfl) (by kernel_rfl)
noncomputable def px:GF:=fun cl ar h=>An ar fun v0 ar=>Bi ar (
 Dm v0 h fun v h1=>
 BI 1 v fun v2=>
 AR none v2 h1 fun v3=>
 A8 v3 fun w=>
 BZ w (I 1) fun v5=>
 Dt false v5 (fun(v6 v7:AV) (h8:KH)=>
 C_ v5 (.bool true) v7 fun v9=>
 Dt false v9 (fun(f6 E G L M:AV) (B:KH)=>
 C_ v9 (.bool true) M fun a9=>
 Dt false a9 (fun(f7 O Q q:AV) (C:KH)=>
 C_ a9 (.bool true) q fun b0=>
 Dt false b0 (fun(f8 R U r:AV) (a6:KH)=>
 C_ b0 (.bool true) r fun d5=>
 A7 d5
 (.ret (.bool false) a6)
 (CM (BD 4 (N .u64 0) []) p0 a6 fun d6 a7=>
 BI 0 v fun d7=>
 AR none d7 a7 fun b1=>
 A8 b1 fun d8=>
 BH (CR [1,3,4,40,41,42]) (fun c7=>(fun(V b2 j b3 b4 W:AV) (n:KH)=>
 BZ W b4 fun d9=>
 A7 d9
 (Aw 4 b3 W fun X=>
 AR (some 4) X n fun Y=>
 CM (BD 4 (N .u64 0) []) p0 n fun b c9=>
 BK 4 b Y c9 fun f=>
 AR (some 4) b f fun Z=>
 D3 (BD 4 (N .u64 0) []) [] fun s=>
 Nj (.eq false (.wide (true,[(.i .u64),(.i .u64),(.i .u64),(.i .u64)])) (.cst Z) (.cst s)) fun t=>
 Dt false t (fun(f9 c k d a:AV) (o:KH)=>
 C_ t (.bool true) a fun e2=>
 A7 e2
 (.ret (.bool false) o)
 (AR (some 4) j o fun a0=>
 AR (some 4) b o fun a1=>
 BR cl 325 [a0,a1] o fun m d1=>
 BK 4 j m d1 fun d2=>
 BW W (I 1) fun a2=>
 c7 V b2 j b3 b4 a2 d2)) (fun e=>
 AR (some 4) j f fun c=>
 AR (some 4) b f fun k=>
 BR cl 324 [c,k] f fun d d0=>
 D3 (BD 4 (N .u64 0) []) [] fun a=>
 Nj (.eq true (.wide (true,[(.i .u64),(.i .u64),(.i .u64),(.i .u64)])) (.cst d) (.cst a)) fun l=>
 e c k d a l d0) (fun e=>e Bp Bp Bp Bp Bp f))
 (AR (some 4) j n fun X=>
 BR cl 326 [X] n fun Y D=>
 D3 (BD 4 (N .u64 0) []) [] fun b=>
 Nj (.eq true (.wide (true,[(.i .u64),(.i .u64),(.i .u64),(.i .u64)])) (.cst Y) (.cst b)) fun e0=>
 A7 e0
 (.ret (.bool false) D)
 (BI 1 V fun Z=>
 AR none Z D fun s=>
 A8 s fun t=>
 BH (CR [1,3,65,66,67]) (fun e=>(fun(c k d a l:AV) (g:KH)=>
 BZ l a fun a0=>
 A7 a0
 (Aw 1 d l fun a1=>
 AR none a1 g fun m=>
 A8 m fun e3=>
 BI 0 c fun a2=>
 AR none a2 g fun e4=>
 A8 e4 fun e5=>
 KV e3 e5 fun e6=>
 A7 e6
 (.ret (.bool false) g)
 (A8 m fun e7=>
 BH (CR [1,3,65,66,67,77,78,79]) (fun c8=>(fun(b5 u b6 b7 b8 b9 c0 a3:AV) (p:KH)=>
 BZ a3 c0 fun e8=>
 A7 e8
 (Aw 1 b9 a3 fun a4=>
 AR none a4 p fun a5=>
 BZ a5 (I 0) fun c1=>
 Dt false c1 (fun(g0 c2 e9:AV) (a8:KH)=>
 C_ c1 (.bool true) e9 fun f0=>
 A7 f0
 (.ret (.bool false) a8)
 (BW a3 (I 1) fun f1=>
 c8 b5 u b6 b7 b8 b9 c0 f1 a8)) (fun A=>
 BE .geq a5 u fun c2=>
 A a5 u c2 p) (fun A=>A Bp Bp Bp p))
 (BW b8 (I 1) fun a4=>
 e b5 u b6 b7 a4 p))) c k d a l m e7 (I 0) g))
 (.ret (.bool true) g))) V b2 s t (I 0) D)))) v w d6 b1 d8 (I 0) a7)) (fun z=>
 BI 0 v fun R=>
 AR none R C fun U=>
 A8 U fun r=>
 BE .gtr r (I 256) fun d4=>
 z R U r d4 C) (fun z=>z Bp Bp Bp Bp C)) (fun y=>
 BI 0 v fun O=>
 AR none O B fun Q=>
 A8 Q fun q=>
 BZ q (I 1) fun d3=>
 y O Q q d3 B) (fun y=>y Bp Bp Bp Bp B)) (fun x=>
 BI 2 v fun E=>
 AR none E h8 fun G=>
 A8 G fun L=>
 KV L w fun M=>
 x E G L w M h8) (fun x=>x Bp Bp Bp Bp Bp h8)) (fun J6=>
 BE .gtr w (I 64) fun v7=>
 J6 w v7 h1) (fun J6=>J6 Bp Bp h1))
theorem uI:Ax prog 219 px:=tS func219 (by kernel_rfl) (by kernel_rfl)
noncomputable def pt:GF:=fun cl ar h=>An ar fun x ar=>An ar fun y ar=>Bi ar (
 Dm x h fun z u=>
 Dm y u fun A v=>
 CM (BD 16 (.bool false) []) p0 v fun B w=>
 BH (CR [2,3,4,6]) (fun t=>(fun(g s l b:AV) (a:KH)=>
 BZ b (I 16) fun o=>
 A7 o
 (Ds 16 1 g b fun d=>
 AR none d a fun j=>
 Dt false j (fun(k e f:AV) (m:KH)=>
 C_ j (.bool true) f fun p=>
 Ds 16 1 g b fun q=>
 BK 1 q p m fun n=>
 BW b (I 1) fun r=>
 t g s l r n) (fun c=>
 Ds 16 1 s b fun e=>
 AR none e a fun f=>
 c b e f a) (fun c=>c Bp Bp Bp a))
 (AR (some 16) g a fun d=>
 BK 16 l d a fun i=>
 AR (some 16) l i fun k=>
 .ret k i))) z A B (I 0) w)
theorem uG:Ax prog 282 pt:=tS func282 (by kernel_rfl) (by kernel_rfl)
noncomputable def pr:GF:=fun cl ar h=>An ar fun b ar=>An ar fun c ar=>Bi ar (
 BE .quo c (N .u8 64) fun e=>
 Dl b fun f=>
 Ds 4 1 f e fun g=>
 AR none g h fun i=>
 BE .rem c (N .u8 64) fun j=>
 BE .shl (N .u64 1) j fun k=>
 BE .or i k fun l=>
 Dl b fun m=>
 Ds 4 1 m e fun d=>
 BK 1 d l h fun a=>
 .ret (.tup []) a)
theorem uF:Ax prog 286 pr:=tS func286 (by kernel_rfl) (by kernel_rfl)
noncomputable def po:GF:=fun cl ar h=>X_ (An ar fun i ar=>Bi ar (
 CM [.nils] p0 h fun p W=>
 CM [(I 0)] p0 W fun q X=>
 CM [(I 0)] p0 X fun r w=>
 Nj (.lenStr (.cst i)) fun Z=>
 BE .gtr Z (I 4000) fun v5=>
 A7 v5
 (BK 1 p .nils w fun Y=>
 BK 1 q (I 0) Y fun o=>
 BK 1 r (I 2) o fun m=>
 KC.bad)
 (D3 [(.str []),(I 0),.nils] [.mk 0 1 i] fun v6=>
 Dm v6 w fun l o=>
 BR cl 396 [l] o fun v8 m=>
 Dl l fun v9=>
 BI 1 v9 fun x=>
 AR none x m fun y=>
 Nj (.lenStr (.cst i)) fun z=>
 BZ y z fun A=>
 JF A (fun(B b e f n:AV) (c:KH)=>
 Dl n fun C=>
 BI 2 C fun D=>
 AR none D c fun E=>
 A8 E fun G=>
 BE .gtr G (I 200) fun L=>
 A7 L
 (Nj (.lenStr (.cst B)) fun j=>
 BK 1 b .nils c fun t=>
 BK 1 e j t fun u=>
 BK 1 f (I 2) u fun a=>
 AR none b a fun Q=>
 AR none e a fun R=>
 AR none f a fun k=>
 .ret (.tup [Q,R,k]) a)
 (Dl n fun j=>
 BI 2 j fun M=>
 AR none M c fun O=>
 BK 1 b O c fun a=>
 BK 1 e (I 0) a fun v=>
 BK 1 f (I 0) v fun d=>
 AR none b d fun k=>
 AR none e d fun U=>
 AR none f d fun V=>
 .ret (.tup [k,U,V]) d))
 (fun g=>BR cl 397 [l] m fun b s=>
 g i p q r l s)
 (fun g=>g i p q r l m))))
def uW:Hints:=[]
theorem uE:Ax prog 288 po:=US (fn:=f288) (n:=36) (np:=1) (hs:=uW) (q:=[.cell 2 none,.cell 3 none,.cell 4 none]) (t:=9) (g:=395) (cp:=[(.tmp 2),(.tmp 3),(.tmp 4)]) (t0:=.l) (t1:=(.s .l (.i (.s .l .l) .l))) (t3:=(.s .l (.s .l (.s (.s .l (.j [0,2,3,4,5] .l .l)) (.s (.s .l (.i (.s .l .l) .l)) (.s .l .l)))))) Pb (by kernel_rfl) (by kernel_rfl) (by kernel_rfl) (by kernel_rfl) (by kernel_rfl) (by kernel_rfl) (by kernel_rfl) (by kernel_rfl) (by kernel_rfl) (by kernel_rfl) (by kernel_rfl) (by kernel_rfl) vQ (by kernel_rfl)
noncomputable def pj:GF:=fun cl ar h=>An ar fun b ar=>Bi ar (
 BR cl 410 [.nils,b] h fun c a=>
 .ret c a)
theorem uD:Ax prog 296 pj:=tS func296 (by kernel_rfl) (by kernel_rfl)
noncomputable def ph:GF:=fun cl ar h=>An ar fun b ar=>Bi ar (
 Dm b h fun c a=>
 .ret (.fn (.func 411) [] [c]) a)
theorem uC:Ax prog 297 ph:=tS func297 (by kernel_rfl) (by kernel_rfl)
noncomputable def pg:GF:=fun cl ar h=>An ar fun b ar=>An ar fun c ar=>Bi ar (
 BR cl 431 [b,c] h fun d a=>
 BE .geq d (I 0) fun e=>
 .ret e a)
theorem uB:Ax prog 322 pg:=tS func322 (by kernel_rfl) (by kernel_rfl)
noncomputable def pf:GF:=fun cl ar h=>An ar fun A ar=>An ar fun B ar=>Bi ar (
 Dm A h fun n i=>
 BI 0 n fun C=>
 AR none C i fun D=>
 BZ D (.int .i64 (-1)) fun z=>
 Dt false z (fun(L r s o:AV) (f:KH)=>
 C_ z (.bool true) o fun j=>
 Dt false j (fun(E k l a:AV) (g:KH)=>
 Dt true a (fun(G m b:AV) (p:KH)=>
 Dt false j (fun(w:AV) (t:KH)=>
 C_ j (.bool true) w fun y=>
 .ret y t) (fun e=>
 C_ a b (.bool false) fun x=>
 e x p) (fun e=>e Bp p)) (fun d=>
 BI 1 n fun m=>
 AR none m g fun b=>
 KV b (N .u8 0) fun v=>
 d m b v g) (fun d=>d Bp Bp Bp g)) (fun c=>
 BI 0 n fun k=>
 AR none k f fun l=>
 BE .geq l (I 0) fun a=>
 c k l a a f) (fun c=>c Bp Bp Bp Bp f)) (fun q=>
 BI 0 n fun r=>
 AR none r i fun s=>
 AR none B i fun o=>
 BE .geq s o fun u=>
 q r s o u i) (fun q=>q Bp Bp Bp Bp i))
theorem uA:Ax prog 323 pf:=tS func323 (by kernel_rfl) (by kernel_rfl)
noncomputable def pe:GF:=fun cl ar h=>An ar fun g ar=>An ar fun i ar=>Bi ar (
 Dm g h fun j d=>
 Dm i d fun k e=>
 CM (BD 4 (N .u64 0) []) p0 e fun c a=>
 AR (some 4) j a fun l=>
 AR (some 4) k a fun m=>
 BR cl 432 [l,m,(.fn (.func 433) [] [])] a fun n f=>
 BK 4 c n f fun b=>
 AR (some 4) c b fun o=>
 .ret o b)
theorem t_:Ax prog 324 pe:=tS func324 (by kernel_rfl) (by kernel_rfl)
noncomputable def pc:GF:=fun cl ar h=>An ar fun g ar=>An ar fun i ar=>Bi ar (
 Dm g h fun j d=>
 Dm i d fun k e=>
 CM (BD 4 (N .u64 0) []) p0 e fun c a=>
 AR (some 4) j a fun l=>
 AR (some 4) k a fun m=>
 BR cl 432 [l,m,(.fn (.func 434) [] [])] a fun n f=>
 BK 4 c n f fun b=>
 AR (some 4) c b fun o=>
 .ret o b)
theorem tz:Ax prog 325 pc:=tS func325 (by kernel_rfl) (by kernel_rfl)
noncomputable def pb:GF:=fun cl ar h=>An ar fun g ar=>Bi ar (
 Dm g h fun c e=>
 CM (BD 4 (N .u64 0) []) p0 e fun d a=>
 AR (some 4) c a fun i=>
 AR (some 4) c a fun j=>
 BR cl 432 [i,j,(.fn (.func 435) [] [])] a fun k f=>
 BK 4 d k f fun b=>
 AR (some 4) d b fun l=>
 .ret l b)
theorem tx:Ax prog 326 pb:=tS func326 (by kernel_rfl) (by kernel_rfl)
noncomputable def pa:GF:=fun cl ar h=>An ar fun d ar=>Bi ar (
 BE .shr d (N .u64 1) fun o=>
 BE .and o (N .u64 6148914691236517205) fun p=>
 BE .and d (N .u64 6148914691236517205) fun q=>
 BW p q fun m=>
 BE .shr m (N .u64 2) fun r=>
 BE .and r (N .u64 3689348814741910323) fun s=>
 BE .and m (N .u64 3689348814741910323) fun t=>
 BW s t fun n=>
 BE .shr n (N .u64 4) fun u=>
 BW u n fun e=>
 BE .and e (N .u64 1085102592571150095) fun a=>
 BE .shr a (N .u64 8) fun f=>
 BW a f fun b=>
 BE .shr b (N .u64 16) fun g=>
 BW b g fun c=>
 BE .shr c (N .u64 32) fun i=>
 BW c i fun j=>
 Cf .i64 j fun k=>
 BE .and k (I 127) fun l=>
 .ret l h)
theorem tw:Ax prog 340 pa:=tS func340 (by kernel_rfl) (by kernel_rfl)
noncomputable def pZ:GF:=fun cl ar h=>An ar fun v0 ar=>Bi ar (
 Dm v0 h fun l h1=>
 CM (BD 257 (I 0) (BD 2 .nils [])) p0 h1 fun v2 k=>
 BI 0 l fun v3=>
 AR none v3 k fun v4=>
 A8 v4 fun v5=>
 BI 1 l fun v6=>
 AR none v6 k fun v7=>
 BI 2 l fun v8=>
 AR none v8 k fun v9=>
 D3 (BD 257 (I 0) (BD 2 .nils [])) [.mk 256 1 v5,.mk 257 1 v7,.mk 258 1 v9] fun O=>
 CM (BD 257 (I 0) (BD 2 .nils [])) p0 k fun p E=>
 BK 259 p O E fun m=>
 BI 0 l fun Q=>
 AR none Q m fun q=>
 A8 q fun R=>
 BH (CR [2,3,17,18,19]) (fun C=>(fun(e r s t b:AV) (a:KH)=>
 BZ b t fun U=>
 A7 U
 (Aw 4 s b fun f=>
 AR (some 4) f a fun V=>
 CM (BD 4 (N .u64 0) []) p0 a fun c G=>
 BK 4 c V G fun o=>
 AR (some 4) c o fun W=>
 BR cl 180 [W] o fun u L=>
 A8 u fun X=>
 BH (CR [2,3,4,17,18,19,25,26,27]) (fun D=>(fun(v g w x y z A B i:AV) (d:KH)=>
 BZ i B fun Y=>
 A7 Y
 (Aw 1 A i fun j=>
 AR none j d fun Z=>
 BI 0 g fun a0=>
 Ds 256 1 a0 Z fun a1=>
 BK 1 a1 w d fun M=>
 BW i (I 1) fun a2=>
 D v g w x y z A B a2 M)
 (BW z (I 1) fun j=>
 C v g x y j d))) e r b s t b u X (I 0) L)
 (AR (some 259) r a fun f=>
 BK 259 e f a fun n=>
 AR (some 259) e n fun c=>
 .ret c n))) v2 p q R (I 0) m)
theorem tv:Ax prog 341 pZ:=tS func341 (by kernel_rfl) (by kernel_rfl)
noncomputable def pY:GF:=fun cl ar h=>An ar fun v0 ar=>Bi ar (
 Dm v0 h fun s h1=>
 CM [.nils,.nils,.nils] p0 h1 fun v2 h2=>
 AR (some 259) s h2 fun v3=>
 AR (some 259) s h2 fun v4=>
 BR cl 443 [v4] h2 fun v5 h5=>
 Fs (cond (Hr (Es (some 259) s h5) v3) true false) (BR cl 442 [v3,v5] h5 fun v6 h6=>
 Fs true (Fq 0 v6 fun v7=>
 Fq 1 v6 fun v8=>
 AR (some 259) s h6 fun v9=>
 BR cl 444 [v9,v7,v8] h6 fun b0 e2=>
 Fq 0 b0 fun f9=>
 Fq 1 b0 fun g0=>
 D3 [.nils,.nils,.nils] [.mk 0 1 g0] fun g1=>
 CM [.nils,.nils,.nils] p0 e2 fun b1 e3=>
 BK 3 b1 g1 e3 fun e4=>
 A8 v8 fun b2=>
 Ib 8 [(I 0)] b2 b2 e4 fun b3 a8=>
 Aw 1 v7 (I 0) fun g2=>
 AR none g2 a8 fun g3=>
 C8 [(I 0)] 1 [.mk 0 1 g3] a8 fun g4 e5=>
 A8 b3 fun g5=>
 BH (CR [1,2,3,4,5,7,8,9,41,42]) (fun d9=>(fun(b4 b5 t b6 b7 b8 k b9 c0 u:AV) (r:KH)=>
 BZ u c0 fun g7=>
 A7 g7
 (Aw 1 k u fun v=>
 BK 1 v (.int .i64 (-1)) r fun e6=>
 BW u (I 1) fun w=>
 d9 b4 b5 t b6 b7 b8 k b9 c0 w e6)
 (Aw 1 t (I 0) fun v=>
 AR none v r fun g8=>
 Aw 1 k g8 fun w=>
 BK 1 w (I 0) r fun e7=>
 BH (CR [1,2,3,4,5,7,8,9,11]) (fun e0=>(fun(g9 x i0 c1 l c2 i1 y z:AV) (e:KH)=>
 A8 y fun i2=>
 BZ z i2 fun i3=>
 A7 i3
 (Aw 1 y z fun A=>
 AR none A e fun i4=>
 Aw 1 c1 i4 fun B=>
 AR none B e fun i5=>
 A8 l fun c3=>
 Ib 8 [(I 0)] c3 c3 e fun i6 e9=>
 A8 l fun i7=>
 BH (CR [1,2,3,4,5,7,8,9,11,12,13,70,71,72]) (fun e1=>(fun(f C m D E b g n G o L M O d:AV) (a:KH)=>
 BZ d O fun i9=>
 A7 i9
 (Aw 1 M d fun Q=>
 AR none Q a fun R=>
 BI 257 f fun U=>
 AR none U a fun V=>
 Aw 1 V o fun W=>
 AR none W a fun j0=>
 Aw 1 j0 R fun X=>
 AR none X a fun Y=>
 Aw 1 m Y fun Z=>
 AR none Z a fun c=>
 Aw 1 g c fun a0=>
 AR none a0 a fun a1=>
 BZ a1 (I 0) fun a2=>
 JF a2 (fun(a3 i a4 a5 a6 a7 c4 j1 j2 j3 c5 c8 c9 d0 d1 d2:AV) (q:KH)=>
 Aw 1 c4 c9 fun d3=>
 AR none d3 q fun d4=>
 Aw 1 c5 c8 fun d5=>
 BK 1 d5 d4 q fun c6=>
 BW d2 (I 1) fun d6=>
 e1 a3 i a4 a5 a6 a7 c4 j1 j2 j3 c5 d0 d1 d6 c6)
 (fun p=>A8 n fun i=>
 Aw 1 g c fun a4=>
 BK 1 a4 i a fun f6=>
 C8 [(I 0)] 1 [.mk 0 1 c] f6 fun a6 f7=>
 Du 1 8 n a6 f7 fun a7 f8=>
 p f C m D E b g a7 G o L d c M O d f8)
 (fun p=>p f C m D E b g n G o L d c M O d a))
 (BI 1 b fun Q=>
 AR none Q a fun R=>
 C8 [.nils] 1 [.mk 0 1 L] a fun U f1=>
 Du 1 24 R U f1 fun V f2=>
 BI 1 b fun W=>
 BK 1 W V f2 fun j=>
 BI 2 b fun X=>
 AR none X j fun Y=>
 BI 258 f fun Z=>
 AR none Z j fun c=>
 Aw 1 c o fun a0=>
 AR none a0 j fun a1=>
 C8 [(.bool false)] 1 [.mk 0 1 a1] j fun a2 f3=>
 Du 1 1 Y a2 f3 fun a3 f4=>
 BI 2 b fun i=>
 BK 1 i a3 f4 fun f5=>
 BW G (I 1) fun a5=>
 e0 f C m D E b g n a5 f5))) g9 x i0 c1 l c2 i1 y z i5 i6 l i7 (I 0) e9)
 (AR (some 3) c2 e fun A=>
 BK 3 x A e fun a9=>
 AR (some 3) x a9 fun B=>
 .ret B a9))) b4 b5 t b6 b7 b8 k b9 (I 0) e7))) s v2 v7 v8 f9 b1 b3 g4 g5 (I 0) e5)))
theorem tu:Ax prog 342 pY:=tS func342 (by kernel_rfl) (by kernel_rfl)
noncomputable def pX:GF:=fun cl ar h=>An ar fun v0 ar=>Bi ar (
 Dm v0 h fun W h1=>
 BI 257 W fun v2=>
 AR none v2 h1 fun v3=>
 A8 v3 fun v4=>
 Ib 8 [(I 0)] v4 v4 h1 fun v5 h5=>
 BI 257 W fun v6=>
 AR none v6 h5 fun v7=>
 A8 v7 fun v8=>
 Ib 1 [(N .u8 0)] v8 v8 h5 fun v9 h9=>
 A8 v5 fun a9=>
 BH (CR [1,4,5,22,23]) (fun X=>(fun(M k O Q r:AV) (G:KH)=>
 BZ r Q fun b0=>
 A7 b0
 (Aw 1 k r fun s=>
 BK 1 s (.int .i64 (-1)) G fun o=>
 BW r (I 1) fun t=>
 X M k O Q t o)
 (Aw 1 k (I 0) fun s=>
 BK 1 s (I 0) G fun o=>
 C8 [(I 0)] 1 [.mk 0 1 (I 0)] o fun t a2=>
 BH (CR [1,4,5,7,8]) (fun Y=>(fun(R U V u v:AV) (f:KH)=>
 A8 u fun b1=>
 BZ v b1 fun b2=>
 A7 b2
 (Aw 1 u v fun b3=>
 AR none b3 f fun w=>
 BI 258 R fun b4=>
 AR none b4 f fun b5=>
 Aw 1 b5 w fun b6=>
 AR none b6 f fun b7=>
 A7 b7
 (C8 [] 0 [] f fun b8 a3=>
 BH (CR [4,5,9,10]) (fun a0=>(fun(b c d g:AV) (p:KH)=>
 KV d (I 0) fun e=>
 A7 e
 (Aw 1 c d fun c0=>
 AR none c0 p fun x=>
 C8 [(N .u8 0)] 1 [.mk 0 1 x] p fun j a4=>
 Du 1 1 j g a4 fun y L=>
 Aw 1 b d fun z=>
 AR none z L fun A=>
 a0 b c A y L)
 (.ret (.tup [g,(.bool true)]) p))) U V w b8 a3)
 (BH (CR [1,4,5,7,8,9,63]) (fun Z=>(fun(i b c d g l e:AV) (a:KH)=>
 BZ e (I 256) fun x=>
 A7 x
 (BI 257 i fun j=>
 AR none j a fun y=>
 Aw 1 y l fun z=>
 AR none z a fun A=>
 BI 0 i fun c2=>
 Ds 256 1 c2 e fun c3=>
 AR none c3 a fun c4=>
 Aw 1 A c4 fun c5=>
 AR none c5 a fun m=>
 Aw 1 b m fun c6=>
 AR none c6 a fun c7=>
 BZ c7 (I 0) fun c8=>
 JF c8 (fun(c9 B C d0 D d1 E:AV) (q:KH)=>
 BW E (I 1) fun d3=>
 Z c9 B C d0 D d1 d3 q)
 (fun n=>Cf .u8 e fun B=>
 Aw 1 b m fun C=>
 BK 1 C l a fun a6=>
 Aw 1 c m fun D=>
 BK 1 D B a6 fun a7=>
 C8 [(I 0)] 1 [.mk 0 1 m] a7 fun E a8=>
 Du 1 8 d E a8 fun d2 q=>
 n i b c d2 g l e q)
 (fun n=>n i b c d g l e a))
 (BW g (I 1) fun j=>
 Y i b c d j a))) R U V u v w (I 0) f))
 (.ret (.tup [.nils,(.bool false)]) f))) M k O t (I 0) a2))) W v5 v9 a9 (I 0) h9)
theorem tt:Ax prog 343 pX:=tS func343 (by kernel_rfl) (by kernel_rfl)
noncomputable def pW:GF:=fun cl ar h=>An ar fun p ar=>An ar fun q ar=>Bi ar (
 CM ((I 0)::(BD 6 .nils ((I 0)::(BD 4 .nils (BD 4 (I 0) ((.bool false)::((I 0)::((.bool false)::[])))))))) p0 h fun r o=>
 BH (CR [0,1,4]) (fun n=>(fun(f m g:AV) (a:KH)=>
 Dl f fun s=>
 BI 21 s fun t=>
 AR none t a fun i=>
 BW m (I 1) fun j=>
 BE .gtr i j fun k=>
 A7 k
 (Dl f fun b=>
 BI 1 b fun c=>
 AR none c a fun d=>
 n d m g a)
 (Dl f fun b=>
 BI 2 b fun c=>
 AR (some 19) c a fun d=>
 BK 19 g d a fun e=>
 AR (some 19) g e fun l=>
 .ret l e))) p q r o)
theorem tr:Ax prog 365 pW:=tS func365 (by kernel_rfl) (by kernel_rfl)
noncomputable def pV:GF:=fun cl ar h=>An ar fun c ar=>An ar fun d ar=>Bi ar (
 A8 c fun q=>
 A8 d fun r=>
 KV q r fun s=>
 A7 s
 (.ret (.bool false) h)
 (A8 c fun t=>
 BH (CR [0,1,12,13]) (fun p=>(fun(m n o b:AV) (a:KH)=>
 BZ b o fun e=>
 A7 e
 (Aw 1 m b fun f=>
 AR none f a fun g=>
 Aw 1 n b fun i=>
 AR none i a fun j=>
 KV g j fun k=>
 A7 k
 (.ret (.bool false) a)
 (BW b (I 1) fun l=>
 p m n o l a))
 (.ret (.bool true) a))) c d t (I 0) h))
theorem tq:Ax prog 381 pV:=tS func381 (by kernel_rfl) (by kernel_rfl)
noncomputable def pU:GF:=fun cl ar h=>An ar fun d ar=>An ar fun n ar=>Bi ar (
 A8 d fun o=>
 BH (CR [0,1,7,8]) (fun m=>(fun(j k l a:AV) (c:KH)=>
 BZ a l fun p=>
 A7 p
 (Aw 2 j a fun e=>
 AR (some 2) e c fun f=>
 SI cl k [f] c fun g b=>
 A7 g
 (.ret a b)
 (BW a (I 1) fun i=>
 m j k l i b))
 (.ret (.int .i64 (-1)) c))) d n o (I 0) h)
theorem tp:Ax prog 431 pU:=tS func431 (by kernel_rfl) (by kernel_rfl)
noncomputable def pT:GF:=fun cl ar h=>An ar fun y ar=>An ar fun z ar=>An ar fun A ar=>Bi ar (
 Dm y h fun B u=>
 Dm z u fun C v=>
 CM (BD 4 (N .u64 0) []) p0 v fun D w=>
 CM (BD 4 (N .u64 0) []) p0 w fun E x=>
 BH (CR [2,3,4,6,7,9]) (fun t=>(fun(r s i c d b:AV) (a:KH)=>
 BZ b (I 4) fun l=>
 A7 l
 (Ds 4 1 s b fun e=>
 AR none e a fun m=>
 Ds 4 1 i b fun f=>
 AR none f a fun n=>
 SI cl r [m,n] a fun o j=>
 Ds 4 1 d b fun p=>
 BK 1 p o j fun k=>
 BW b (I 1) fun q=>
 t r s i c d q k)
 (AR (some 4) d a fun e=>
 BK 4 c e a fun g=>
 AR (some 4) c g fun f=>
 .ret f g))) A B C D E (I 0) x)
theorem tm:Ax prog 432 pT:=tS func432 (by kernel_rfl) (by kernel_rfl)
noncomputable def pS:GF:=fun cl ar h=>An ar fun a ar=>An ar fun b ar=>Bi ar (
 BE .and a b fun c=>
 .ret c h)
theorem tk:Ax prog 433 pS:=tS func433 (by kernel_rfl) (by kernel_rfl)
noncomputable def pR:GF:=fun cl ar h=>An ar fun a ar=>An ar fun b ar=>Bi ar (
 BE .or a b fun c=>
 .ret c h)
theorem tj:Ax prog 434 pR:=tS func434 (by kernel_rfl) (by kernel_rfl)
noncomputable def pQ:GF:=fun cl ar h=>An ar fun a ar=>An ar fun c ar=>Bi ar (
 Ni .xor a fun b=>
 .ret b h)
theorem ti:Ax prog 435 pQ:=tS func435 (by kernel_rfl) (by kernel_rfl)
noncomputable def pP:GF:=fun cl ar h=>An ar fun a ar=>An ar fun b ar=>Bi ar (
 BE .andNot a b fun c=>
 .ret c h)
theorem th:Ax prog 440 pP:=tS func440 (by kernel_rfl) (by kernel_rfl)
noncomputable def pO:GF:=fun cl ar h=>An ar fun v0 ar=>An ar fun v1 ar=>Bi ar (
 Dm v0 h fun v2 h2=>
 BI 257 v2 fun v3=>
 AR none v3 h2 fun v4=>
 A8 v4 fun v5=>
 Ib 8 [(I 0)] v5 v5 h2 fun v6 h6=>
 A8 v1 fun v7=>
 BH (CR [1,2,6,24,25,26]) (fun J8=>(fun(v9 p q M O r:AV) (c:KH)=>
 BZ r O fun d7=>
 A7 d7
 (Aw 1 M r fun d8=>
 AR none d8 c fun e=>
 BI 258 p fun Q=>
 AR none Q c fun t=>
 Aw 1 t e fun R=>
 AR none R c fun e0=>
 JF e0 (fun(U f V W e1 u:AV) (d3:KH)=>
 BW u (I 1) fun j=>
 J8 U f V W e1 j d3)
 (fun A=>Aw 1 q e fun f=>
 BK 1 f (I 1) c fun C=>
 A v9 p q M O r C)
 (fun A=>A v9 p q M O r c))
 (BH (CR [1,2,6,9]) (fun c7=>(fun(e Q t R:AV) (d1:KH)=>
 cT .makeMap d1 fun U d2=>
 A8 t fun f=>
 Ib 8 [(I 0)] f f d2 fun V C=>
 A8 e fun W=>
 BH (CR [1,2,6,9,10,11,12,43,44,45]) (fun c8=>(fun(u v j b6 e2 X w b7 b8 Y:AV) (d:KH)=>
 BZ Y b8 fun e3=>
 A7 e3
 (Aw 1 b7 Y fun Z=>
 AR none Z d fun b=>
 BI 257 v fun a0=>
 AR none a0 d fun e4=>
 Aw 1 e4 b fun e5=>
 AR none e5 d fun e6=>
 A8 e6 fun e7=>
 M4 (I 2) e7 fun e8=>
 BW (I 2) e8 fun e9=>
 Ib 1 [(N .u8 0)] (I 0) e9 d fun f0 D=>
 Aw 1 j b fun f2=>
 AR none f2 D fun f3=>
 Cf .u8 f3 fun f4=>
 Aw 1 j b fun f5=>
 AR none f5 D fun f6=>
 BE .shr f6 (N .u64 8) fun f7=>
 Cf .u8 f7 fun f8=>
 C8 [(N .u8 0),(N .u8 0)] 2 [.mk 0 1 f4,.mk 1 1 f8] D fun f9 d4=>
 Du 1 1 f0 f9 d4 fun g0 E=>
 BI 257 v fun g1=>
 AR none g1 E fun g2=>
 Aw 1 g2 b fun g3=>
 AR none g3 E fun b9=>
 A8 b9 fun g4=>
 BH (CR [1,2,6,9,10,11,12,14,15,43,44,45,76,77,78]) (fun c9=>(fun(a1 a2 k a3 l a4 x y a5 a6 a7 a8 c0 c1 a9:AV) (a:KH)=>
 BZ a9 c1 fun g5=>
 A7 g5
 (Aw 1 c0 a9 fun b0=>
 AR none b0 a fun m=>
 Aw 1 k m fun b1=>
 AR none b1 a fun b2=>
 Cf .u8 b2 fun b3=>
 Aw 1 k m fun b4=>
 AR none b4 a fun g=>
 BE .shr g (N .u64 8) fun n=>
 Cf .u8 n fun z=>
 C8 [(N .u8 0),(N .u8 0)] 2 [.mk 0 1 b3,.mk 1 1 z] a fun o G=>
 Du 1 1 a5 o G fun i L=>
 BW a9 (I 1) fun b5=>
 c9 a1 a2 k a3 l a4 x y i a6 a7 a8 c0 c1 b5 L)
 (SH (.strOfBytes (.cst a5)) a fun b0=>
 SH (.lookup (false,[.s]) (I 0) true (.cst l) (.cst b0)) a fun m=>
 Fq 0 m fun b1=>
 Fq 1 m fun b2=>
 Ni .not b2 fun b3=>
 JF b3 (fun(b4 g n z o i b5 g6 g7 g8 g9 i0:AV) (d6:KH)=>
 Aw 1 i g6 fun c4=>
 BK 1 c4 g7 d6 fun c2=>
 BW i0 (I 1) fun c5=>
 c8 b4 g n z o i b5 g8 g9 c5 c2)
 (fun B=>A8 x fun g=>
 SH (.strOfBytes (.cst a5)) a fun n=>
 cT (.mapUpd (false,[.s]) (.cst l) (.cst n) (.cst g)) a fun z d5=>
 C8 [(I 0)] 1 [.mk 0 1 y] d5 fun o G=>
 Du 1 8 x o G fun i L=>
 B a1 a2 k a3 l a4 i y g a6 a7 a8 L)
 (fun B=>B a1 a2 k a3 l a4 x y b1 a6 a7 a8 a)))) u v j b6 e2 X w b g0 b7 b8 Y b9 g4 (I 0) E)
 (A8 w fun Z=>
 JG Z b6 fun b=>
 A7 b
 (.ret (.tup [X,w]) d)
 (A8 w fun a0=>
 c7 u v X a0 d)))) e Q t R U V .nils e W (I 0) C)) v9 p q (I 0) c))) v1 v2 v6 v1 v7 (I 0) h6)
theorem tg:Ax prog 442 pO:=tS func442 (by kernel_rfl) (by kernel_rfl)
noncomputable def pN:GF:=fun cl ar h=>An ar fun v0 ar=>Bi ar (
 Dm v0 h fun A v=>
 BI 257 A fun v2=>
 AR none v2 v fun v3=>
 A8 v3 fun Y=>
 Ib 1 [(.bool false)] Y Y v fun v5 h5=>
 Aw 1 v5 (I 0) fun v6=>
 BK 1 v6 (.bool true) h5 fun h7=>
 C8 [(I 0)] 1 [.mk 0 1 (I 0)] h7 fun v8 h8=>
 BH (CR [1,3,4,5]) (fun J9=>(fun(s B d g:AV) (a:KH)=>
 A8 d fun C=>
 BZ g C fun D=>
 A7 D
 (BI 257 s fun E=>
 AR none E a fun G=>
 Aw 1 d g fun L=>
 AR none L a fun M=>
 Aw 1 G M fun O=>
 AR none O a fun t=>
 A8 t fun Q=>
 BH (CR [1,3,4,5,28,29,30]) (fun u=>(fun(i c j k l m e:AV) (b:KH)=>
 BZ e m fun R=>
 A7 R
 (Aw 1 l e fun n=>
 AR none n b fun o=>
 Aw 1 c o fun U=>
 AR none U b fun V=>
 Ni .not V fun W=>
 JF W (fun(X p Z q r a0 a1:AV) (z:KH)=>
 BW a1 (I 1) fun a2=>
 u X p Z q r a0 a2 z)
 (fun f=>Aw 1 c o fun p=>
 BK 1 p (.bool true) b fun w=>
 C8 [(I 0)] 1 [.mk 0 1 o] w fun q x=>
 Du 1 8 j q x fun r y=>
 f i c r k l m e y)
 (fun f=>f i c j k l m e b))
 (BW k (I 1) fun n=>
 J9 i c j n b))) s B d g t Q (I 0) a)
 (.ret d a))) A v5 v8 (I 0) h8)
theorem tf:Ax prog 443 pN:=tS func443 (by kernel_rfl) (by kernel_rfl)
noncomputable def pM:GF:=fun cl ar h=>An ar fun v0 ar=>An ar fun v1 ar=>An ar fun v2 ar=>Bi ar (
 Dm v0 h fun v3 h3=>
 cT .makeMap h3 fun v4 h4=>
 BI 256 v3 fun v5=>
 AR none v5 h4 fun v6=>
 Ib 8 [(I 0)] v6 v6 h4 fun v7 h7=>
 A8 v7 fun v8=>
 BH (CR [1,2,3,8,9,10,11,26,27]) (fun J9=>(fun(b2 b3 b4 b5 b6 b7 O b8 Q:AV) (b1:KH)=>
 BZ Q b8 fun d5=>
 A7 d5
 (Aw 1 O Q fun d6=>
 BK 1 d6 (.int .i64 (-1)) b1 fun c3=>
 BW Q (I 1) fun d=>
 J9 b2 b3 b4 b5 b6 b7 O b8 d c3)
 (BH (CR [1,2,3,8,9,10,11,34]) (fun c1=>(fun(b9 d R c0 U V W j:AV) (t:KH)=>
 BZ j (I 256) fun d8=>
 A7 d8
 (BI 0 R fun d9=>
 Ds 256 1 d9 j fun e0=>
 AR none e0 t fun X=>
 Aw 1 W X fun e1=>
 AR none e1 t fun e2=>
 BZ e2 (I 0) fun e3=>
 JF e3 (fun(e4 Y Z a0 a1 a2 b u e f:AV) (z:KH)=>
 Aw 1 b e fun g=>
 AR none g z fun i=>
 Aw 1 b e fun k=>
 AR none k z fun c=>
 Aw 4 a2 c fun l=>
 AR (some 4) l z fun m=>
 Cf .u8 u fun C=>
 VI [(N .u8 0)] 1 [.mk 0 1 C] fun vu g56=>CM vu g56 z fun D c6=>
 BR cl 172 [D] c6 fun v A=>
 Fs (cond (Hr (Es (some 4) l A) m) (cond (Hr (Es none k A) c) (cond (Hr (Es none g A) i) true false) false) false) (BR cl 325 [m,v] A fun e5 a=>
 Fs (cond (Hr (Es none g a) i) true false) (Aw 4 a2 i fun a3=>
 BK 4 a3 e5 a fun c7=>
 Fs true (BW f (I 1) fun n=>
 c1 e4 Y Z a0 a1 a2 b n c7))))
 (fun G=>A8 d fun Y=>
 M4 (I 2) Y fun Z=>
 Ib 1 [(N .u8 0)] (I 0) Z t fun a0 c5=>
 A8 d fun a1=>
 BH (CR [1,2,3,8,9,10,11,13,14,15,34,50,51,52]) (fun c2=>(fun(b u e f B g i k c l m C D v:AV) (a:KH)=>
 BZ v D fun a3=>
 A7 a3
 (Aw 1 C v fun a4=>
 AR none a4 a fun n=>
 BI 257 e fun a5=>
 AR none a5 a fun a6=>
 Aw 1 a6 n fun a7=>
 AR none a7 a fun a8=>
 Aw 1 a8 c fun o=>
 AR none o a fun w=>
 Aw 1 b w fun E=>
 AR none E a fun p=>
 Cf .u8 p fun x=>
 BE .shr p (N .u64 8) fun q=>
 Cf .u8 q fun y=>
 C8 [(N .u8 0),(N .u8 0)] 2 [.mk 0 1 x,.mk 1 1 y] a fun r M=>
 Du 1 1 l r M fun a9 d2=>
 BW v (I 1) fun b0=>
 c2 b u e f B g i k c a9 m C D b0 d2)
 (SH (.strOfBytes (.cst l)) a fun a4=>
 SH (.lookup (false,[.s]) (I 0) true (.cst f) (.cst a4)) a fun n=>
 Fq 0 n fun a5=>
 Fq 1 n fun a6=>
 Ni .not a6 fun a7=>
 JF a7 (fun(a8 o w E p x q y r a9 b0:AV) (d3:KH)=>
 Aw 1 q r fun e8=>
 BK 1 e8 a9 d3 fun d4=>
 G a8 o w E p x q y r b0 d4)
 (fun L=>A8 B fun o=>
 SH (.strOfBytes (.cst l)) a fun w=>
 cT (.mapUpd (false,[.s]) (.cst f) (.cst w) (.cst o)) a fun E c8=>
 C8 [(I 0)] 1 [.mk 0 1 c] c8 fun p c9=>
 Du 1 8 B p c9 fun x d0=>
 D3 (BD 4 (N .u64 0) []) [] fun q=>
 C8 (BD 4 (N .u64 0) []) 1 [.mk 0 4 q] d0 fun y d1=>
 Du 4 32 g y d1 fun r M=>
 L b u e f x r i k c o m M)
 (fun L=>L b u e f B g i k c a5 m a)))) b9 d R c0 U V W j X a0 j d a1 (I 0) c5)
 (fun G=>G b9 d R c0 U V W j X j t))
 (.ret (.tup [U,V]) t))) b2 b3 b4 b5 b6 b7 O (I 0) b1))) v1 v2 v3 v4 .nils .nils v7 v8 (I 0) h7)
theorem te:Ax prog 444 pM:=tS func444 (by kernel_rfl) (by kernel_rfl)
noncomputable def pL:GF:=fun cl ar h=>An ar fun v0 ar=>An ar fun v1 ar=>Bi ar (
 Dm v0 h fun v2 h2=>
 Dm v1 h2 fun v3 h3=>
 CM (BD 256 (I 0) []) p0 h3 fun v4 h4=>
 CM (BD 256 (I 0) []) p0 h4 fun v5 h5=>
 cT .makeMap h5 fun v6 h6=>
 BH (CR [2,3,4,6,7,8,14]) (fun J7=>(fun(u v d k e f a:AV) (b:KH)=>
 BZ a (I 256) fun C=>
 A7 C
 (BI 0 u fun l=>
 Ds 256 1 l a fun D=>
 AR none D b fun m=>
 BI 0 v fun E=>
 Ds 256 1 E a fun G=>
 AR none G b fun L=>
 D3 [(I 0),(I 0)] [.mk 0 1 m,.mk 1 1 L] fun M=>
 CM [(I 0),(I 0)] p0 b fun n w=>
 BK 2 n M w fun c=>
 AR (some 2) n c fun O=>
 SH (.lookup (true,[(.i .i64),(.i .i64)]) (I 0) true (.cst f) (.cst O)) c fun t=>
 Fq 0 t fun Q=>
 Fq 1 t fun R=>
 Ni .not R fun U=>
 JF U (fun(V g o p q r W X Y:AV) (A:KH)=>
 Ds 256 1 p W fun Z=>
 BK 1 Z X A fun B=>
 BW Y (I 1) fun a0=>
 J7 V g o p q r a0 B)
 (fun j=>A8 e fun g=>
 AR (some 2) n c fun o=>
 cT (.mapUpd (true,[(.i .i64),(.i .i64)]) (.cst f) (.cst o) (.cst g)) c fun p x=>
 C8 [(I 0)] 1 [.mk 0 1 a] x fun q y=>
 Du 1 8 e q y fun r z=>
 j u v d k r f a g a z)
 (fun j=>j u v d k e f a Q a c))
 (AR (some 256) k b fun l=>
 BK 256 d l b fun s=>
 AR (some 256) d s fun m=>
 .ret (.tup [m,e]) s))) v2 v3 v4 v5 .nils v6 (I 0) h6)
theorem tc:Ax prog 552 pL:=tS func552 (by kernel_rfl) (by kernel_rfl)
noncomputable def pK:GF:=fun cl ar h=>An ar fun D ar=>An ar fun c ar=>An ar fun o ar=>An ar fun y ar=>Bi ar (
 Dm D h fun A C=>
 CM [(I 0),(I 0),(N .u64 0)] p0 C fun B a=>
 BI 257 o fun E=>
 AR none E a fun G=>
 BI 0 A fun L=>
 AR none L a fun M=>
 Aw 1 G M fun d=>
 AR none d a fun e=>
 BI 0 o fun f=>
 Ds 256 1 f c fun g=>
 AR none g a fun i=>
 Aw 1 e i fun j=>
 AR none j a fun k=>
 BI 257 y fun l=>
 AR none l a fun m=>
 BI 1 A fun n=>
 AR none n a fun p=>
 Aw 1 m p fun q=>
 AR none q a fun r=>
 BI 0 y fun s=>
 Ds 256 1 s c fun t=>
 AR none t a fun u=>
 Aw 1 r u fun v=>
 AR none v a fun w=>
 D3 [(I 0),(I 0),(N .u64 0)] [.mk 0 1 k,.mk 1 1 w] fun x=>
 BK 3 B x a fun b=>
 AR (some 3) B b fun z=>
 .ret z b)
theorem ta:Ax prog 553 pK:=tS func553 (by kernel_rfl) (by kernel_rfl)
noncomputable def pJ:GF:=fun cl ar h=>An ar fun v0 ar=>An ar fun v1 ar=>An ar fun v2 ar=>An ar fun v3 ar=>An ar fun v4 ar=>An ar fun v5 ar=>Bi ar (
 Dm v0 h fun v6 h6=>
 Dm v2 h6 fun v7 h7=>
 CM (BD 257 (I 0) (BD 2 .nils [])) p0 h7 fun v8 h8=>
 AR (some 256) v6 h8 fun v9=>
 A8 v1 fun c9=>
 D3 (BD 257 (I 0) (BD 2 .nils [])) [.mk 0 256 v9,.mk 256 1 c9] fun d0=>
 CM (BD 257 (I 0) (BD 2 .nils [])) p0 h8 fun a4 b4=>
 BK 259 a4 d0 b4 fun b5=>
 cT .makeMap b5 fun a5 a1=>
 AR (some 3) v7 a1 fun d1=>
 cT (.mapUpd (true,[(.i .i64),(.i .i64),(.i .u64)]) (.cst a5) (.cst d1) (.cst (I 0))) a1 fun g1 a2=>
 AR (some 3) v7 a2 fun d2=>
 C8 [(I 0),(I 0),(N .u64 0)] 1 [.mk 0 3 d2] a2 fun d3 b6=>
 BH (CR [1,3,4,5,12,14,15,16,17]) (fun b2=>(fun(q d4 d5 d6 A a6 d7 a7 a8:AV) (z:KH)=>
 A8 a7 fun d8=>
 BZ a8 d8 fun d9=>
 A7 d9
 (A8 q fun r=>
 Ib 8 [(I 0)] r r z fun e0 p=>
 A8 q fun B=>
 BH (CR [1,3,4,5,12,14,15,16,17,18,42,43,44]) (fun b3=>(fun(C s t u l a m e n D E G f:AV) (g:KH)=>
 BZ f G fun e1=>
 A7 e1
 (Aw 1 E f fun L=>
 AR none L g fun M=>
 Aw 3 e n fun O=>
 AR (some 3) O g fun Q=>
 SI cl s [Q,M] g fun R b9=>
 CM [(I 0),(I 0),(N .u64 0)] p0 b9 fun v j=>
 BK 3 v R j fun d=>
 AR (some 3) v d fun w=>
 SH (.lookup (true,[(.i .i64),(.i .i64),(.i .u64)]) (I 0) true (.cst m) (.cst w)) d fun x=>
 Fq 0 x fun U=>
 Fq 1 x fun V=>
 Ni .not V fun W=>
 JF W (fun(X b Y c b0 o Z a0 e3 b1 e4 e5 e6 e7 e8:AV) (c5:KH)=>
 Aw 1 b1 e4 fun e9=>
 BK 1 e9 e5 c5 fun c7=>
 BW e8 (I 1) fun f0=>
 b3 X b Y c b0 o Z a0 e3 b1 e6 e7 f0 c7)
 (fun y=>A8 e fun b=>
 JG b u fun Y=>
 A7 Y
 (D3 (BD 257 (I 0) (BD 2 .nils [])) [] fun c=>
 BK 259 l c d fun k=>
 AR (some 259) l k fun o=>
 .ret (.tup [o,(.bool false)]) k)
 (AR (some 3) v d fun c=>
 cT (.mapUpd (true,[(.i .i64),(.i .i64),(.i .u64)]) (.cst m) (.cst c) (.cst b)) d fun b0 k=>
 AR (some 3) v k fun o=>
 C8 [(I 0),(I 0),(N .u64 0)] 1 [.mk 0 3 o] k fun Z c3=>
 Du 3 24 e Z c3 fun a0 c4=>
 y C s t u l a m a0 n D f b E G f c4))
 (fun y=>y C s t u l a m e n D f U E G f d))
 (BI 257 a fun L=>
 AR none L g fun M=>
 C8 [.nils] 1 [.mk 0 1 D] g fun O b7=>
 Du 1 24 M O b7 fun Q b8=>
 BI 257 a fun R=>
 BK 1 R Q b8 fun j=>
 BI 258 a fun a9=>
 AR none a9 j fun w=>
 Aw 3 e n fun x=>
 AR (some 3) x j fun U=>
 SI cl t [U] j fun V a3=>
 Fs (cond (Hr (Es none a9 a3) w) true false) (VI [(.bool false)] 1 [.mk 0 1 V] fun c62 g62=>CM c62 g62 a3 fun W c0=>
 Du 1 1 w W c0 fun X c1=>
 Fs true (BI 258 a fun b=>
 BK 1 b X c1 fun c2=>
 Fs true (BW n (I 1) fun c=>
 b2 C s t u l a m e c c2)))))) q d4 d5 d6 A a6 d7 a7 a8 e0 q B (I 0) p)
 (AR (some 259) a6 z fun r=>
 BK 259 A r z fun p=>
 AR (some 259) A p fun B=>
 .ret (.tup [B,(.bool true)]) p))) v1 v3 v4 v5 v8 a4 a5 d3 (I 0) b6)
theorem tZ:Ax prog 554 pJ:=tS func554 (by kernel_rfl) (by kernel_rfl)
noncomputable def pI:GF:=fun cl ar h=>An ar fun O ar=>An ar fun Q ar=>Bi ar (
 BH (CR [0,1,6,7]) (fun M=>(fun(b r G L:AV) (a:KH)=>
 Dl b fun R=>
 BI 21 R fun U=>
 AR none U a fun v=>
 BE .gtr v (I 0) fun w=>
 A7 w
 (Dl b fun x=>
 BI 23 x fun y=>
 AR none y a fun t=>
 Dt true t (fun(V f g i j k l m n u z:AV) (e:KH)=>
 C_ t z (.bool false) fun A=>
 JF A (fun(B o p q:AV) (s:KH)=>
 Dl B fun C=>
 BI 1 C fun D=>
 AR none D s fun E=>
 M E o p q s)
 (fun d=>Dl b fun o=>
 BI 22 o fun p=>
 AR none p e fun q=>
 d b r q (.bool true) e)
 (fun d=>d b r G L e)) (fun c=>
 Dl b fun f=>
 BI 2 f fun g=>
 BI 0 g fun i=>
 BI 1 i fun j=>
 AR none j a fun k=>
 Aw 2 k (I 0) fun l=>
 BI 0 l fun m=>
 AR none m a fun n=>
 JG n r fun u=>
 c b f g i j k l m n r u a) (fun c=>c Bp Bp Bp Bp Bp Bp Bp Bp Bp Bp Bp a))
 (.ret (.tup [G,L]) a))) O Q .nils (.bool false) h)
theorem tY:Ax prog 574 pI:=tS func574 (by kernel_rfl) (by kernel_rfl)
end
end Go.Proofs.YtlmkmpomgdbjhaaGreatDoor.San
namespace Go.Proofs.YtlmkmpomgdbjhaaGreatDoor
open Tryz
section
open Go Go.RowKit Go.AL Go.Maps Go.Sort Go.Shelf
def cQ (a0 a1:Nat) (x:UInt8):Prop:=(0<a0/\∃t m,t<64/\a0=2 ^ t*(2*m+1)/\x.toNat=t)\/(a0=0/\0<a1/\∃t m,t<64/\a1=2 ^ t*(2*m+1)/\x.toNat=64+t)
set_option maxRecDepth 100000 in
set_option maxHeartbeats 1000000 in
theorem mh (n l b off:Nat) (hn:1<=n) (a0 a1 a2 a3:Nat) (hp:0<a0\/0<a1) (J:World->Prop) (Jx:UInt8->World->Prop) (W:World) (hT:∀W',J W'->M0 W')
  (h0:W.cell? ⟨b,off,none⟩=some (.int .u64 (a0:Int))) (h1:W.cell? ⟨b,off+1,none⟩=some (.int .u64 (a1:Int))) (h2:W.cell? ⟨b,off+2,none⟩=some (.int .u64 (a2:Int))) (h3:W.cell? ⟨b,off+3,none⟩=some (.int .u64 (a3:Int)))
  (l0:a0<18446744073709551616) (l1:a1<18446744073709551616)
  (hY:∀(x:UInt8) (W1:World),J W1->YieldAt Fence.wide (n-1) prog l #[.int .u8 (x.toNat:Int)] W1 fun e W'=>e=.returned (.bool false)/\Jx x W')
  (hJ:J W):CallsIn Fence.wide n prog 411 #[.func (.yield l) #[] #[],.pointer (some ⟨b,off,none⟩)] W fun e W'=>(∃v,e=.returned v)/\∃x,cQ a0 a1 x/\Jx x W':=by
 refine callsIn_of_wp func411 rfl trivial ?_ rfl
 simp only[ntmps411,I5,Be,G9,Nat.reduceAdd,Nat.reduceSub,I9,I8,LN,JA,Bf,Fi]
 have i0:=vh (.int .u64 (a0:Int)) (.int .u64 (a1:Int)) (.int .u64 (a2:Int)) (.int .u64 (a3:Int))
 have i1:=vg (.int .u64 (a0:Int)) (.int .u64 (a1:Int)) (.int .u64 (a2:Int)) (.int .u64 (a3:Int))
 gi_wp2
 gi_loopw [6] (fun v6 wr=>∃i:Nat,v6=.int .i64 (i:Int)/\(i=0\/(i=1/\a0<1))/\J wr) (fun v6 _=>4-JI v6)
 case atStart=>exact⟨0,rfl,.inl rfl,hJ⟩
 case round=>
  obtain⟨i,rfl,hi,hJi⟩:=hrel
  rcases hi with rfl | ⟨rfl,ha0⟩
  ·gi_wp2
   gi_loopw [4] (fun v4 wr=>v4=.int .u64 (a0:Int)/\J wr) (fun v4 _=>JI v4)
   case atStart=>exact⟨rfl,hJi⟩
   case round=>
    obtain⟨rfl,hJp⟩:=hrel
    rcases DB a0 with hz | hpos
    ·subst hz
     gi_wp2
     exact⟨⟨1,rfl,.inr ⟨rfl,by omega⟩,hJp⟩,by decide⟩
    ·have hne:((a0:Int)==0)=false:=by
      have:¬(a0:Int)=0:=by omega
      simp;omega
     have hTw:=hT _ hJp
     gi_wp2
     refine⟨trivial,(callsIn_wide.2 (Vh a0 wr hTw hpos l0)).mono ?_⟩
     rintro e w2 ⟨rfl,t,m,hwt,rfl⟩
     have ht:t<64:=by
      have g1:2 ^ t<=a0:=by
       have:2 ^ t*1<=2 ^ t*(2*m+1):=Ob _ (by omega)
       omega
      exact(EB (a:=2) (by omega)).1 (Bz g1 (by rw[show(2:Nat) ^ 64=18446744073709551616 by decide];exact l0))
     generalize hxb:UInt8.ofNat t=xb
     have hx8:(xb.toNat:Int)=(t:Int):=by rw[<- hxb];simp;omega
     clear hxb
     obtain⟨fn,tmps,assign,body,hy,hR⟩:=hY xb w2 hJp
     rw[hx8]at hy
     gi_wp2
     refine hR.mono ?_
     rintro e W3 ⟨rfl,hJ3⟩
     gi_wp2
     refine bodyPost_ret (results_none rfl _ _ _) rfl ?_
     exact⟨⟨_,rfl⟩,xb,.inl ⟨hpos,t,m,ht,hwt,by omega⟩,hJ3⟩
  ·gi_wp2
   gi_loopw [4] (fun v4 wr=>v4=.int .u64 (a1:Int)/\J wr) (fun v4 _=>JI v4)
   case atStart=>exact⟨rfl,hJi⟩
   case round=>
    obtain⟨rfl,hJp⟩:=hrel
    have hpos:0<a1:=by omega
    have hne:((a1:Int)==0)=false:=by
     have:¬(a1:Int)=0:=by omega
     simp;omega
    have hTw:=hT _ hJp
    gi_wp2
    refine⟨trivial,(callsIn_wide.2 (Vh a1 wr hTw hpos l1)).mono ?_⟩
    rintro e w2 ⟨rfl,t,m,hwt,rfl⟩
    have ht:t<64:=by
     have g1:2 ^ t<=a1:=by
      have:2 ^ t*1<=2 ^ t*(2*m+1):=Ob _ (by omega)
      omega
     exact(EB (a:=2) (by omega)).1 (Bz g1 (by rw[show(2:Nat) ^ 64=18446744073709551616 by decide];exact l1))
    generalize hxb:UInt8.ofNat (64+t)=xb
    have hx8:(xb.toNat:Int)=(64:Int)+(t:Int):=by rw[<- hxb];simp;omega
    clear hxb
    obtain⟨fn,tmps,assign,body,hy,hR⟩:=hY xb w2 hJp
    rw[hx8]at hy
    gi_wp2
    refine hR.mono ?_
    rintro e W3 ⟨rfl,hJ3⟩
    gi_wp2
    refine bodyPost_ret (results_none rfl _ _ _) rfl ?_
    exact⟨⟨_,rfl⟩,xb,.inr ⟨by omega,hpos,t,m,ht,hwt,by omega⟩,hJ3⟩
def Ls.assign:Code:=(Code.region 2 #[{ dst:=some 3,op:=Op.assign (Operand.tmp 6),type:=5,pos:="class.go:90",after:=#[],guard:=none }] false)
def Ls.body:Code:=(Code.block 1 ((Code.region 3 #[{ dst:=some 7,op:=Op.move (Operand.tmp 3),type:=5,pos:="class.go:91",after:=#[],guard:=none },{ dst:=some 8,op:=Op.convert 5 3 (Operand.tmp 7),type:=3,pos:="class.go:91",after:=#[{ on:=0,ground:=Ground.data }],guard:=none },{ dst:=none,op:=Op.store 3 (Operand.tmp 2) (Operand.tmp 8),type:=0,pos:="class.go:91",after:=#[{ on:=1,ground:=Ground.data },{ on:=0,ground:=Ground.phase },{ on:=1,ground:=Ground.phase }],guard:=none }] false).seq Code.ret))
def Ls.rec (fn:FuncId) (cv:Value) (Bc Br Bm D:Nat) (st:LoopState) (pend:Option Code):Loop:=
 { state:=st,pending:=pend,fn,tmps:=#[cv,.pointer (some ⟨Bc,0,none⟩),.pointer (some ⟨Br,0,none⟩),undef,cv,.func (.func 411) #[] #[.pointer (some ⟨Bm,0,none⟩)],undef,undef,undef],params:=#[6],assign:=Ls.assign,body:=Ls.body,defers:=D }
structure Ls.At (w0:World) (fn:FuncId) (cv:Value) (Bc Br Bm l D:Nat) (res:Value) (st:LoopState) (pend:Option Code) (W:World):Prop where
 cr:W.heap[Br]?=some (.cells #[res] 3 (0,0))
 L:W.heap[l]?=some (.loop (Ls.rec fn cv Bc Br Bm D st pend))
 K:W.heap[D]?=some (.deferred (some []))
 below:Below w0.heap.size w0 W
set_option maxRecDepth 100000 in
set_option maxHeartbeats 2000000 in
theorem Ls.yield (m:Nat) (w0:World) (fn:FuncId) (cv:Value) (Bc Br Bm l D:Nat) (hrl:Br≠l) (hDl:D≠l) (hDr:D≠Br) (h0r:w0.heap.size<=Br) (h0l:w0.heap.size<=l) (x:UInt8) (W:World) (h:Ls.At w0 fn cv Bc Br Bm l D (.int .i64 0) .ready none W) :
  YieldAt Fence.wide m prog l #[.int .u8 (x.toNat:Int)] W fun e W'=>e=.returned (.bool false)/\Ls.At w0 fn cv Bc Br Bm l D (.int .i64 (x.toNat:Int)) .done (some .ret) W':=by
 refine⟨fn,#[cv,.pointer (some ⟨Bc,0,none⟩),.pointer (some ⟨Br,0,none⟩),undef,cv,.func (.func 411) #[] #[.pointer (some ⟨Bm,0,none⟩)],.int .u8 (x.toNat:Int),undef,undef],Ls.assign,Ls.body,by simpa[Ls.rec]using run_yield (P:=prog) (args:=#[.int .u8 (x.toNat:Int)]) h.L rfl,roundIn_of_wpIn trivial ?_⟩
 have hl:l<W.heap.size:=(Aj.1 h.L).1
 have hbr:=run_beginRound (P:=prog) h.L rfl
 obtain⟨W2,hW2⟩:∃W2,W.putObj l (.loop { Ls.rec fn cv Bc Br Bm D .ready none with state:=.busy })=W2:=⟨_,rfl⟩
 rw[hW2]at hbr
 have hg2:W.grownBy W2 (some l):=by rw[<- hW2];exact grownBy_putObj_a _ _ _
 have hcr2:W2.heap[Br]?=some (.cells #[.int .i64 0] 3 (0,0)):=by rw[<- hW2];exact(World.putObj_heap_other hrl).trans h.cr
 have hK2:W2.heap[D]?=some (.deferred (some [])):=by rw[<- hW2];exact(World.putObj_heap_other hDl).trans h.K
 have hL2:W2.heap[l]?=some (.loop { Ls.rec fn cv Bc Br Bm D .ready none with state:=.busy }):=by rw[<- hW2];exact World.putObj_heap_same hl
 have hb2:Below w0.heap.size w0 W2:=h.below.grown hg2 h.below.size (fun k e=>by cases e;exact h0l)
 obtain⟨Ub,hf2⟩:=cell_of_box_a hcr2
 have hx:=x.toNat_lt
 have hw:IntKind.i64.wrap (x.toNat:Int)=(x.toNat:Int):=by
  simp[IntKind.wrap,IntKind.bits,IntKind.signed];omega
 clear hW2
 unfold Ls.assign
 gi_wp2_with gi_round_op_a
 unfold Ls.body
 gi_wp2_with gi_round_op_a
 obtain⟨W4,hW4⟩:∃W4,W2.setCell ⟨Br,0,none⟩ (.int .i64 (x.toNat:Int))=W4:=⟨_,rfl⟩
 rw[hW4]
 have hg4:W2.grownBy W4 (some Br):=by rw[<- hW4];exact grownBy_setCell0_a _ _ _
 have hv4:W4.heap[Br]?=some (.cells #[.int .i64 (x.toNat:Int)] 3 (0,0)):=by rw[<- hW4];exact heap_setCell_box_a _ hcr2
 have hL4:W4.heap[l]?=some (.loop { Ls.rec fn cv Bc Br Bm D .ready none with state:=.busy }):=(hg4.block l (Aj.1 hL2).1 (fun e=>hrl (by cases e;rfl))).trans hL2
 have hK4:W4.heap[D]?=some (.deferred (some [])):=(hg4.block D (Aj.1 hK2).1 (fun e=>hDr (by cases e;rfl))).trans hK2
 have hl4:l<W4.heap.size:=(Aj.1 hL4).1
 have hb4:Below w0.heap.size w0 W4:=hb2.grown hg4 hb2.size (fun k e=>by cases e;exact h0r)
 clear hW4
 exact⟨_,_,run_endRound (some .ret) hL4,rfl,(World.putObj_heap_other hrl).trans hv4,World.putObj_heap_same hl4,(World.putObj_heap_other hDl).trans hK4,hb4.grown (grownBy_putObj_a _ _ _) hb4.size (fun k e=>by cases e;exact h0l)⟩
theorem Vk (n:Nat) (cv:Value) (w:World) (hcv:∃a0 a1 a2 a3:Int,cv=.agg #[.int .u64 a0,.int .u64 a1,.int .u64 a2,.int .u64 a3]) :
  CallsIn Fence.wide n prog 297 #[cv] w fun e w'=>e=.returned (.func (.func 411) #[] #[.pointer (some ⟨w.heap.size,0,none⟩)])/\∃c,cv=.agg c/\w'=w.alloc (.cells c 49):=by
 obtain⟨a0,a1,a2,a3,rfl⟩:=hcv
 refine callsIn_of_wp func297 rfl trivial ?_ rfl
 simp only[ntmps297,I5,Be,G9,Nat.reduceAdd,Nat.reduceSub,I9,I8,LN,JA,Bf,Fi]
 gi_wp2
 refine bodyPost_ret (results_tmp rfl _ _ _) rfl ?_
 exact⟨rfl,_,rfl,rfl⟩
set_option maxRecDepth 100000 in
set_option maxHeartbeats 2000000 in
theorem aI (a0 a1 a2 a3:Nat) (hp:0<a0\/0<a1) (l0:a0<18446744073709551616) (l1:a1<18446744073709551616) (w:World) (hT:M0 w) :
  CallsIn Fence.wide 5 prog 238 #[.agg #[.int .u64 (a0:Int),.int .u64 (a1:Int),.int .u64 (a2:Int),.int .u64 (a3:Int)]] w fun e w'=>∃x,cQ a0 a1 x/\e=.returned (.int .i64 (x.toNat:Int))/\Below w.heap.size w w':=by
 refine callsIn_of_wp_marks func238 rfl trivial ?_ rfl
 obtain⟨cv,hcv⟩:∃cv:Value,cv=.agg #[.int .u64 (a0:Int),.int .u64 (a1:Int),.int .u64 (a2:Int),.int .u64 (a3:Int)]:=⟨_,rfl⟩
 simp only[ntmps238,I5,Be,G9,Nat.reduceAdd,Nat.reduceSub,I9,I8,LN,JA,Bf,Fi]
 gi_wp2
 refine⟨trivial,(Vk _ _ _ ⟨_,_,_,_,rfl⟩).mono ?_⟩
 rintro e w' ⟨rfl,c,hc,rfl⟩
 cases hc
 gi_wp2
 refine wpIn_rangeFunc ?_
 intro fn hfn
 rw[<- hcv]
 obtain⟨W0,hW0⟩:∃W0,((w.alloc (.cells #[.int .u64 (a0:Int),.int .u64 (a1:Int),.int .u64 (a2:Int),.int .u64 (a3:Int)] 49)).alloc (.cells #[.int .i64 0] 3)).alloc (.cells #[.int .u64 (a0:Int),.int .u64 (a1:Int),.int .u64 (a2:Int),.int .u64 (a3:Int)] 49)=W0:=⟨_,rfl⟩
 have hs0:W0.heap.size=w.heap.size+3:=by rw[<- hW0];simp
 have hv0:W0.heap[w.heap.size+1]?=some (.cells #[.int .i64 0] 3 (0,0)):=by
  rw[<- hW0];refine(Below.heap_alloc _ _ _ (by simp)).trans ?_
  have:=World.alloc_heap_new (w.alloc (.cells #[.int .u64 (a0:Int),.int .u64 (a1:Int),.int .u64 (a2:Int),.int .u64 (a3:Int)] 49)) (.cells #[.int .i64 0] 3);rwa [World.size_alloc]at this
 have hm0:W0.heap[w.heap.size+2]?=some (.cells #[.int .u64 (a0:Int),.int .u64 (a1:Int),.int .u64 (a2:Int),.int .u64 (a3:Int)] 49 (0,0)):=by
  rw[<- hW0]
  have:=World.alloc_heap_new ((w.alloc (.cells #[.int .u64 (a0:Int),.int .u64 (a1:Int),.int .u64 (a2:Int),.int .u64 (a3:Int)] 49)).alloc (.cells #[.int .i64 0] 3)) (.cells #[.int .u64 (a0:Int),.int .u64 (a1:Int),.int .u64 (a2:Int),.int .u64 (a3:Int)] 49);rwa [World.size_alloc,World.size_alloc]at this
 have hb0:Below w.heap.size w W0:=by rw[<- hW0];exact(((Below.refl _ w).alloc (A4 _) _).alloc (by simp) _).alloc (by simp;omega) _
 simp only[World.size_alloc]at *
 rw[hW0]
 obtain⟨W1,hW1⟩:∃W1,(W0.alloc (.deferred (some []))).alloc (.loop (Ls.rec fn cv w.heap.size (w.heap.size+1) (w.heap.size+2) W0.heap.size .ready none))=W1:=⟨_,rfl⟩
 have hold:∀k,k<W0.heap.size->W1.heap[k]?=W0.heap[k]?:=fun k hk=>by
  rw[<- hW1];exact(Below.heap_alloc _ _ k (by simp;omega)).trans (Below.heap_alloc _ _ k hk)
 have hb1:Below w.heap.size w W1:=by rw[<- hW1];exact(hb0.alloc hb0.size _).alloc (by have:=hb0.size;simp;omega) _
 have hs1:W1.heap.size=W0.heap.size+2:=by rw[<- hW1];simp
 have hM:Ls.At w fn cv w.heap.size (w.heap.size+1) (w.heap.size+2) (W0.heap.size+1) W0.heap.size (.int .i64 0) .ready none W1:=
  ⟨(hold _ (by omega)).trans hv0,by rw[<- hW1];have:=World.alloc_heap_new (W0.alloc (.deferred (some []))) (.loop (Ls.rec fn cv w.heap.size (w.heap.size+1) (w.heap.size+2) W0.heap.size .ready none));rwa [World.size_alloc]at this,
   by rw[<- hW1];exact(Below.heap_alloc _ _ _ (by simp)).trans (World.alloc_heap_new W0 _),hb1⟩
 have hm1:W1.heap[w.heap.size+2]?=some (.cells #[.int .u64 (a0:Int),.int .u64 (a1:Int),.int .u64 (a2:Int),.int .u64 (a3:Int)] 49 (0,0)):=(hold _ (by omega)).trans hm0
 refine⟨W0.heap.size+1,[{ target:=.collected W0.heap.size,args:=#[] }],W1,{ target:=.fn (.func 411) #[.pointer (some ⟨w.heap.size+2,0,none⟩)],args:=#[.func (.yield (W0.heap.size+1)) #[] #[]] },W1,411,
  #[.func (.yield (W0.heap.size+1)) #[] #[]]++#[.pointer (some ⟨w.heap.size+2,0,none⟩)],W1,?_,?_,?_,?_,fun _=>by omega,?_⟩
 ·rw[<- hW1];exact run_enterLoop_outer _ _ _ _ _
 ·simp[resolve,go_sem]
 ·intro f' hf';simp[Target.leads]at hf';subst hf';exact trivial
 ·simp[invoke,go_sem,EH fz]
 ·refine(mh 4 (W0.heap.size+1) (w.heap.size+2) 0 (by omega) a0 a1 a2 a3 hp (Ls.At w fn cv w.heap.size (w.heap.size+1) (w.heap.size+2) (W0.heap.size+1) W0.heap.size (.int .i64 0) .ready none)
   (fun x=>Ls.At w fn cv w.heap.size (w.heap.size+1) (w.heap.size+2) (W0.heap.size+1) W0.heap.size (.int .i64 (x.toNat:Int)) .done (some .ret)) W1 (fun W' hJ=>hT.below hJ.below)
   (by simp[World.cell?,hm1]) (by simp[World.cell?,hm1]) (by simp[World.cell?,hm1]) (by simp[World.cell?,hm1]) l0 l1
   (fun x W hJ=>Ls.yield _ w fn cv _ _ _ _ _ (by omega) (by omega) (by omega) (by omega) (by omega) x W hJ) hM).mono ?_
  rintro e W2 ⟨⟨v0,rfl⟩,x,hx,h2⟩
  have hend:=run_endLoop (P:=prog) h2.L (by simp[Ls.rec])
  obtain⟨W3,hW3⟩:∃W3,W2.putObj (W0.heap.size+1) (.loop { Ls.rec fn cv w.heap.size (w.heap.size+1) (w.heap.size+2) W0.heap.size .done (some .ret)with state:=.exhausted })=W3:=⟨_,rfl⟩
  rw[hW3]at hend
  have hg3:W2.grownBy W3 (some (W0.heap.size+1)):=by rw[<- hW3];exact grownBy_putObj_a _ _ _
  have hv3:W3.heap[w.heap.size+1]?=some (.cells #[.int .i64 (x.toNat:Int)] 3 (0,0)):=by rw[<- hW3];exact(World.putObj_heap_other (by omega)).trans h2.cr
  have hK3:W3.heap[W0.heap.size]?=some (.deferred (some [])):=by rw[<- hW3];exact(World.putObj_heap_other (by omega)).trans h2.K
  have hb3:Below w.heap.size w W3:=h2.below.grown hg3 h2.below.size (fun k e=>by cases e;omega)
  obtain⟨Py,hf3⟩:=cell_of_box_a hv3
  clear hW3
  refine⟨some .ret,W3,hend,?_⟩
  gi_wp2
  rw[<- hs0]
  refine⟨by simp,.inl ⟨_,_,rfl,run_takeDeferred hK3,?_⟩⟩
  have cV:(W3.putObj W0.heap.size (.deferred none)).cell? ⟨w.heap.size+1,0,none⟩=some (.int .i64 (x.toNat:Int)):=
   (World.cell?_of_block (World.putObj_heap_other (k:=w.heap.size+1) (by omega))).trans Py
  refine⟨.int .i64 (x.toNat:Int),?_,x,hx,rfl,hb3.grown (grownBy_putObj_a _ _ _) hb3.size (fun k e=>by cases e;omega)⟩
  simp[results,f238,go_sem,cV]
end
section
open Go Go.AL
variable [BQ]
theorem nq:Go.AL.Enters prog 238:=⟨_,func238,by
 have h:(f238.name=="runtime.NumGoroutine")=false:=by kernel_rfl
 simpa using h,by kernel_rfl⟩
theorem call238 [hC:Bq] {H:AH}(hg:H.gl=BQ.G) (a0 a1 a2 a3 x:Nat) (hp:0<a0\/0<a1) (l0:a0<18446744073709551616) (l1:a1<18446744073709551616) (hx:∀y,cQ a0 a1 y->y.toNat=x) :
  fK prog 238 [.agg [.int .u64 (.ofNat a0),.int .u64 (.ofNat a1),.int .u64 (.ofNat a2),.int .u64 (.ofNat a3)]] H (.int .i64 (.ofNat x)) H:=by
 refine⟨nq,fun Z σ w vs hW hv=>?_⟩
 obtain⟨v,rfl⟩:∃v,vs=[v]:=by
  cases hv with
  | cons h1 h2=>cases h2;exact⟨_,rfl⟩
 have h1:VR Z σ (.agg [.int .u64 (.ofNat a0),.int .u64 (.ofNat a1),.int .u64 (.ofNat a2),.int .u64 (.ofNat a3)]) v:=by cases hv;assumption
 obtain⟨oo,ho1,ho2⟩:=hC.TH
 have hT:M0 w:=ho2 w (hW.z 1 oo (hW.rest.2.2 1 oo (by rw[hg];exact ho1)).1)
 cases h1 with
 | agg g1 g2=>
 rename_i us
 have hus:us=#[.int .u64 (a0:Int),.int .u64 (a1:Int),.int .u64 (a2:Int),.int .u64 (a3:Int)]:=by
  cases g:us.toList with
  | nil=>rw[g]at g2;cases g2
  | cons u0 us1=>
   rw[g]at g2
   cases g2 with
   | cons b0 g2=>
   cases g2 with
   | cons b1 g2=>
   cases g2 with
   | cons b2 g2=>
   cases g2 with
   | cons b3 g2=>
   cases g2
   cases b0;cases b1;cases b2;cases b3
   exact DE (by simpa using g)
 subst hus
 refine Calls.mono (callsIn_wide.1 (aI a0 a1 a2 a3 hp l0 l1 w hT)) ?_
 rintro en w' ⟨y,hy,rfl,hbel⟩
 have e:=hx y hy
 subst e
 exact⟨Z,σ,H,.ret _,CO.refl _,Nw.refl _ _,A4 _,hW.below hbel,⟨_,rfl,.int _ _⟩,rfl,rfl⟩
theorem iS:∀y,cQ 18446744073709551615 18446744065119617023 y->y.toNat=0:=by
 rintro y (⟨_,t,m,ht,h,hy⟩ | ⟨h,_⟩)
 ·rcases DB t with h0 | h0
  ·omega
  ·obtain⟨s,rfl⟩:∃s,t=s+1:=⟨t-1,by omega⟩
   rw[Iu,Nat.mul_right_comm]at h
   omega
 ·omega
theorem iR:∀y,cQ 0 8589934592 y->y.toNat=97:=by
 rintro y (⟨h,_⟩ | ⟨_,_,t,m,ht,h,hy⟩)
 ·omega
 ·have h1:=Xm t m
  rw[<- h]at h1
  have h2:Nat.testBit 8589934592 t=true:=by
   rw[h1 t,if_neg (by omega),HB,Nat.testBit_zero]
   simp
  have h3:∀j,j<64->Nat.testBit 8589934592 j=decide (j=33):=by decide
  rw[h3 t ht]at h2
  simp at h2
  omega
theorem nj:Go.AL.Enters prog 412:=⟨_,func412,by
 have h:(f412.name=="runtime.NumGoroutine")=false:=by kernel_rfl
 simpa using h,by kernel_rfl⟩
theorem call412 [hC:Bq] {H:AH}(hg:H.gl=BQ.G):fK prog 412 [N .u64 16] H (I 4) H:=by
 refine⟨nj,fun Z σ w vs hW hv=>?_⟩
 obtain⟨v,rfl⟩:∃v,vs=[v]:=by
  cases hv with
  | cons h1 h2=>cases h2;exact⟨_,rfl⟩
 have h1:VR Z σ (N .u64 16) v:=by cases hv;assumption
 obtain⟨oo,ho1,ho2⟩:=hC.TH
 have hT:M0 w:=ho2 w (hW.z 1 oo (hW.rest.2.2 1 oo (by rw[hg];exact ho1)).1)
 cases h1
 refine Calls.mono (Vh 16 w hT (by decide) (by decide)) ?_
 rintro e w' ⟨rfl,t,m,hx,rfl⟩
 have ht:t=4:=by
  have h1:t<5:=by
   rcases CT t 5 with h | h
   ·exact h
   ·have:2 ^ 5<=2 ^ t:=JC (by decide) h
    have h2:2 ^ t*1<=2 ^ t*(2*m+1):=Ob _ (by omega)
    omega
  match t,h1,hx with
  | 0,_,hx=>omega
  | 1,_,hx=>omega
  | 2,_,hx=>omega
  | 3,_,hx=>omega
  | 4,_,hx=>rfl
 subst ht
 exact⟨Z,σ,H,.ret _,CO.refl _,Nw.refl _ _,A4 _,hW,⟨_,rfl,.int _ _⟩,rfl,rfl⟩
end
end Go.Proofs.YtlmkmpomgdbjhaaGreatDoor
namespace Go.Proofs.YtlmkmpomgdbjhaaGreatDoor.San
open Tryz
noncomputable section
open Go Go.AL
variable [BQ]
set_option maxRecDepth 1000000
theorem Mc {P:Program}{g:FuncId}{F:GF}{a0:List AV}{R:AV}{call:Ag}(hS:Ax P g F) (hC:AT P call) (hk:Sx a0 R (F call a0 KH.emp)=true):cJ P g a0 R:=by
 intro H al hg ha
 simp only[Sx,AS]at hk
 obtain⟨hs,hk⟩:=hk
 cases hr:F call a0 KH.emp with
 | Bd v h'=>rw[hr]at hk;cases hk
 | bad=>rw[hr]at hk;cases hk
 | ret v h'=>
  rw[hr]at hk
  have hA:=(hS call hC a0 KH.emp).1 v h' hr
  exact AQ.MI (hA.mono fun o H' hq=>⟨v,hq.1,by rw[hq.2];exact K0 _ _ hk⟩) (DK _ hs) ha (fun r=>by rw[FC];rfl) (by rw[hg];rfl)
def bN (k n:Nat):List AV:=Nat.rec (motive:=fun _=>Nat->List AV) (fun _=>[]) (fun _ ih n=>cW (Nat.mod n 256) fun m=>cW (Nat.div n 256) fun d=>N .u8 m::ih d) k n
def vl (g:Nat):Bool:=Nat.beq g 23||Nat.beq g 26||Nat.beq g 38||Nat.beq g 81||Nat.beq g 88||Nat.beq g 182||Nat.beq g 238||Nat.beq g 241||Nat.beq g 243||Nat.beq g 244||Nat.beq g 303||Nat.beq g 335||Nat.beq g 336||Nat.beq g 386||Nat.beq g 410||Nat.beq g 411||Nat.beq g 412||Nat.beq g 482||Nat.beq g 485||Nat.beq g 615
def TH:Nt:=gu (Ck 297 (Ck 140 (Ck 82 (Ck 43 (Ck 25 (Cg 23 x7) (Ck 35 (Cg 25 x6) (Cg 35 x5))) (Ck 44 (Cg 43 x4) (Ck 53 (Cg 44 xz) (Cg 53 xy)))) (Ck 91 (Ck 87 (Cg 82 xx) (Ck 90 (Cg 87 xw) (Cg 90 xv))) (Ck 103 (Cg 91 xu) (Ck 116 (Cg 103 qF) (Cg 116 qE))))) (Ck 218 (Ck 184 (Ck 172 (Cg 140 qD) (Ck 180 (Cg 172 qC) (Cg 180 qB))) (Ck 187 (Cg 184 p_) (Ck 215 (Cg 187 p9) (Cg 215 pz)))) (Ck 286 (Ck 219 (Cg 218 py) (Ck 282 (Cg 219 px) (Cg 282 pt))) (Ck 288 (Cg 286 pr) (Ck 296 (Cg 288 po) (Cg 296 pj)))))) (Ck 431 (Ck 340 (Ck 324 (Ck 322 (Cg 297 ph) (Ck 323 (Cg 322 pg) (Cg 323 pf))) (Ck 325 (Cg 324 pe) (Ck 326 (Cg 325 pc) (Cg 326 pb)))) (Ck 343 (Ck 341 (Cg 340 pa) (Ck 342 (Cg 341 pZ) (Cg 342 pY))) (Ck 365 (Cg 343 pX) (Ck 381 (Cg 365 pW) (Cg 381 pV))))) (Ck 442 (Ck 434 (Ck 432 (Cg 431 pU) (Ck 433 (Cg 432 pT) (Cg 433 pS))) (Ck 435 (Cg 434 pR) (Ck 440 (Cg 435 pQ) (Cg 440 pP)))) (Ck 552 (Ck 443 (Cg 442 pO) (Ck 444 (Cg 443 pN) (Cg 444 pM))) (Ck 554 (Ck 553 (Cg 552 pL) (Cg 553 pK)) (Ck 574 (Cg 554 pJ) (Cg 574 pI))))))) (gq UX prog vl)
theorem VP:Kf prog TH:=dO (Az (Az (Az (Az (Az (Av qa) (Az (Av uH) (Av S35))) (Az (Av S43) (Az (Av S44) (Av td)))) (Az (Az (Av S82) (Az (Av S87) (Av S90))) (Az (Av S91) (Az (Av uR) (Av uQ))))) (Az (Az (Az (Av uP) (Az (Av uO) (Av uN))) (Az (Av uM) (Az (Av uL) (Av uK)))) (Az (Az (Av uJ) (Az (Av uI) (Av uG))) (Az (Av uF) (Az (Av uE) (Av uD)))))) (Az (Az (Az (Az (Av uC) (Az (Av uB) (Av uA))) (Az (Av t_) (Az (Av tz) (Av tx)))) (Az (Az (Av tw) (Az (Av tv) (Av tu))) (Az (Av tt) (Az (Av tr) (Av tq))))) (Az (Az (Az (Av tp) (Az (Av tm) (Av tk))) (Az (Av tj) (Az (Av ti) (Av th)))) (Az (Az (Av tg) (Az (Av tf) (Av te))) (Az (Az (Av tc) (Av ta)) (Az (Av tZ) (Av tY))))))) (dM Pw Pb vl)
def LA:List AV:=[.agg [.int .u64 (.ofNat 18446744073709551615),.int .u64 (.ofNat 18446744065119617023),.int .u64 (.ofNat 18446744073709551615),.int .u64 (.ofNat 18446744073709551615)]]
def LB:List AV:=[.agg [.int .u64 (.ofNat 0),.int .u64 (.ofNat 8589934592),.int .u64 (.ofNat 0),.int .u64 (.ofNat 0)]]
def N0:Ag:=PW 238 LA (.int .i64 (.ofNat 0)) (PW 238 LB (.int .i64 (.ofNat 97)) (PW 412 [N .u64 16] (I 4) Mf))
theorem od [Bq]:AT prog N0:=Mh (Mh (Mh mM fun H hg=>call412 hg) fun H hg=>call238 hg 0 8589934592 0 0 97 (.inr (by decide)) (by decide) (by decide) iR) fun H hg=>call238 hg 18446744073709551615 18446744065119617023 18446744073709551615 18446744073709551615 0 (.inl (by decide)) (by decide) (by decide) iS
end
section
open Go Go.AL Go.AL.Sha
variable [BQ]
def ej:List AV->Option (List UInt8)
 | []=>some []
 | .int .u8 n::l=>match ej l with
  | some bs=>bif EP (.int .u8 n) (bv (UInt8.ofNat n.toNat))then some (UInt8.ofNat n.toNat::bs)else none
  | none=>none
 | _=>none
theorem V5:∀(l:List AV) (bs:List UInt8),ej l=some bs->l=bs.map bv:=by
 intro l
 fun_induction ej l with
 | case1=>intro bs h;cases h;rfl
 | case2 n l b' e h2 ih=>
  intro bs h
  cases h
  rw[B1,<- ih b' e,<- CA _ _ h2]
 | case3=>intro bs h;cases h
 | case4=>intro bs h;cases h
 | case5=>intro bs h;cases h
def ei:AV->Option (List UInt8)
 | .nils=>some []
 | .sim l n _=>bif Nat.beq n l.length then ej l else none
 | _=>none
theorem V4 {v:AV}{bs:List UInt8}(h:ei v=some bs):It bs v:=by
 cases v with
 | nils=>cases h;exact .inl ⟨rfl,rfl⟩
 | sim l n b=>
  simp only[ei]at h
  cases e:Nat.beq n l.length with
  | false=>rw[e]at h;cases h
  | true=>
   rw[e]at h
   have e2:=V5 _ _ h
   have e3:=Cp e
   subst e2
   rw[Au]at e3
   subst e3
   exact .inr ⟨b,rfl⟩
 | _=>cases h
def Uj:List AV->Option (List (List UInt8))
 | []=>some []
 | v::l=>match ei v,Uj l with
  | some b,some bs=>some (b::bs)
  | _,_=>none
theorem NY:∀(l:List AV) (ps:List (List UInt8)),Uj l=some ps->l.length=ps.length/\∀(i:Nat) (v:AV),l[i]?=some v->∃bs,ps[i]?=some bs/\It bs v
 | [],_,h=>by cases h;exact⟨rfl,fun i v hi=>by simp at hi⟩
 | v::l,ps,h=>by
  simp only[Uj]at h
  cases e:ei v with
  | none=>rw[e]at h;simp at h
  | some b=>
   cases e2:Uj l with
   | none=>rw[e,e2]at h;simp at h
   | some bs=>
    rw[e,e2]at h
    cases h
    obtain⟨g1,g2⟩:=NY l bs e2
    refine⟨by simp[g1],fun i x hi=>?_⟩
    cases i with
    | zero=>rw[E6]at hi;cases hi;exact⟨b,rfl,V4 e⟩
    | succ i=>rw[GH]at hi ⊢;exact g2 i x hi
def V7 (a0:List AV) (R:AV):Bool:=match a0 with
 | [.sim l n b]=>match Uj l with
  | some ps=>Nat.beq n l.length&&((b||Nat.ble 1 n)&&(Nat.blt ps.length 1099511627776&&(Nat.blt ps.flatten.length 68719476736&&(Nk 0 a0&&(Kq R&&EP R (.agg ((sum ps.flatten).map bv)))))))
  | none=>false
 | _=>false
theorem Xp [Bj] {a0:List AV}{R:AV}(h:V7 a0 R=true):cJ prog 88 a0 R:=by
 intro H al hg ha
 unfold V7 at h
 split at h
 next l n b=>
  split at h
  next ps e=>
   simp only[AS]at h
   obtain⟨h1,h2,h3,h4,h5,h6,h7⟩:=h
   obtain⟨g1,g2⟩:=NY _ _ e
   have hn:=Cp h1
   have hl:=DK _ h5
   have hb0:ps.length=0->b=true:=fun h0=>by
    rw[Ec]at h2
    rcases h2 with h2 | h2
    ·exact h2
    ·have:=Aa h2;omega
   subst hn
   rw[g1]at ha
   have hp:FL 1 (Rw ps) ps.length (.sim l ps.length b):=FL.kh g1 hb0 fun i x hx=>by
    obtain⟨bs,k1,k2⟩:=g2 i x hx
    exact⟨fun k=>by rcases k2 with⟨_,rfl⟩ | ⟨b,rfl⟩;exact .nils;exact .sim (Dn _ k),x,bs,rfl,k1,k2⟩
   have hC:=bO (H:=⟨fun _=>none,0,BQ.G⟩) rfl hp (Aa h3) (Aa h4)
   rw[<- CA _ _ h7]at hC
   exact AQ.MI (AQ.mono hC fun o H' hq=>by
    obtain⟨rfl,x,rfl,rfl⟩:=hq
    exact⟨_,rfl,.pln (Ko _ h6)⟩) (by rw[<- g1];exact hl) ha (fun r=>rfl) hg
  next=>cases h
 next=>cases h
end
end Go.Proofs.YtlmkmpomgdbjhaaGreatDoor.San
