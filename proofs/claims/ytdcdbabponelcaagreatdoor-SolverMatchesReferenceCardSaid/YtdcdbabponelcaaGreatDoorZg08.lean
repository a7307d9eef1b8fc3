import Derived.Test.YtdcdbabponelcaaGreatDoorZg07
import Derived.Test.YtdcdbabponelcaaGreatDoorZe03
import Derived.Test.YtdcdbabponelcaaGreatDoorZg04
/-
  what is made is valid for the reference; the law gives back true on abstract arguments.
-/
set_option linter.unusedSectionVars false
set_option linter.unusedVariables false
set_option linter.unusedSimpArgs false
namespace Go.AL
variable [BY] {P:Program}
theorem FL.fS {z n:Nat}{Pr:Nat→List AV→Prop}{v:AV}(h:FL z Pr n v){i:Nat}(hi:i<n):∃c,c.length=z∧Pr i c∧∀(j:Nat) (x:AV) (H:AH) (K:AV→Prop),c[j]?=some x→K x →
  AB (.indexAddrS z (.cst v) (.cst (iv (i:Int)))) fun a=>AB (.fieldAddr j (.cst a)) fun b=>AP (.load none (.cst b)) H K:=by
 obtain⟨cs,c,h1,h2,h3,h4,h5,_,_⟩:=h.at hi
 refine⟨c,h2,h4,fun j x H K hx hK=>?_⟩
 have:=h5 j _ hx
 refine AA h1 (AA rfl (Cx (v:=x) ?_ hK))
 simpa[Ba,Cm,Ak.ev,apart]using this
theorem FL.r6 {z n m:Nat}{Pr:Nat→List AV→Prop}{v:AV}(h:FL z Pr n v){i:Nat}(hi:i<n) (hm:m≤z){H:AH}{K:AV→Prop}(hK:∀c,c.length=z→Pr i c→K (.agg (c.take m))) :
  AB (.indexAddrS z (.cst v) (.cst (iv (i:Int)))) fun a=>AB (.fieldAddr 0 (.cst a)) fun b=>AP (.load (some m) (.cst b)) H K:=by
 obtain⟨cs,c,h1,h2,h3,h4,h5,h6,h7⟩:=h.at hi
 refine AA h1 (AA rfl (Cx (v:=.agg (c.take m)) ?_ (hK c h2 h4)))
 have e:(cs.drop (i*z)).take m=c.take m:=by rw[←h6,List.take_take,Nat.min_eq_left hm]
 have hl:i*z+m≤cs.length:=by omega
 simp[Ba,Cm,Ak.ev,apart,e,hl]
theorem dU {a b c d e s n:Nat}{e0:Env}{H0 H1:AH}{L:OL}{x y z:AV}{W:Nat→AV→Prop}{body:JP [a,b,c,d,e]→JP [a,b,c,d,e]}(hne:a≠b∧a≠c∧a≠d∧a≠e∧b≠c∧b≠d∧b≠e∧c≠d∧c≠e∧d≠e) (ha:e0 a=x) (hb:e0 b=y) (hc:e0 c=z) (hd:W s (e0 d)) (he:e0 e=iv (s:Int)) (hs:s≤n) (hS:BE H0 L H1)
  (hbody:∀(i:Nat) (w:AV) (H:AH) (J:AV→AV→AV→AV→AV→AH→Prop),s≤i→i≤n→W i w→BE H0 L H→(i<n→∀w' H',W (i+1) w'→BE H0 L H'→J x y z w' (iv ((i:Int)+1)) H')→(body J:AV→AV→AV→AV→AV→AH→Prop) x y z w (iv (i:Int)) H):A_ [a,b,c,d,e] body e0 H1:=by
 obtain⟨n1,n2,n3,n4,n5,n6,n7,n8,n9,n10⟩:=hne
 let Iv:AV→AV→AV→AV→AV→AH→Prop:=fun u v w r t H'=>u=x∧v=y∧w=z∧∃i:Nat,t=iv (i:Int)∧s≤i∧i≤n∧W i r∧BE H0 L H'
 let μ:AV→AV→AV→AV→AV→AH→Nat:=fun _ _ _ _ w _=>match w with
  | .int _ j=>(n-j).toNat
  | _=>0
 refine⟨Iv,μ,⟨ha,hb,hc,s,he,Nat.le_refl _,hs,hd,hS⟩,?_⟩
 intro f H hI
 obtain⟨e1,e2,e3,i,e4,hi1,hi2,hw,hq⟩:=(hI:Iv (f a) (f b) (f c) (f d) (f e) H)
 have hmu:μ (f a) (f b) (f c) (f d) (f e) H=((n:Int)-(i:Int)).toNat:=by rw[e4]
 show(body _:AV→AV→AV→AV→AV→AH→Prop) (f a) (f b) (f c) (f d) (f e) H
 rw[e1,e2,e3,e4]
 refine hbody i _ H _ hi1 hi2 hw hq fun hlt w' H' hw' hq'=>?_
 obtain⟨g,hg⟩:∃g,g=(((((emp.set a x).set b y).set c z).set d w').set e (iv ((i:Int)+1))):=⟨_,rfl⟩
 have g1:g a=x:=by simp[hg,Env.B4,n1,n2,n3,n4]
 have g2:g b=y:=by simp[hg,Env.B4,n5,n6,n7]
 have g3:g c=z:=by simp[hg,Env.B4,n8,n9]
 have g4:g d=w':=by simp[hg,Env.B4,n10]
 have g5:g e=iv ((i:Int)+1):=by simp[hg,Env.B4]
 have:Iv (g a) (g b) (g c) (g d) (g e) H'∧μ (g a) (g b) (g c) (g d) (g e) H'<((n:Int)-(i:Int)).toNat:=by
  rw[g1,g2,g3,g4,g5]
  refine⟨⟨rfl,rfl,rfl,i+1,rfl,by omega,hlt,hw',hq'⟩,?_⟩
  show((n:Int)-((i:Int)+1)).toNat<((n:Int)-(i:Int)).toNat
  omega
 rw[hg]at this
 rw[←hmu]at this
 exact this
theorem e_ {a b c n:Nat}{e0:Env}{H0 H1:AH}{L:OL}{x y:AV}{body:JP [a,b,c]→JP [a,b,c]}(hab:a≠b) (hac:a≠c) (hbc:b≠c) (ha:e0 a=x) (hb:e0 b=y) (hc:e0 c=iv ((0:Nat):Int)) (hS:BE H0 L H1)
  (hbody:∀(i:Nat) (H:AH) (J:AV→AV→AV→AH→Prop),i≤n→BE H0 L H→(i<n→∀H',BE H0 L H'→J x y (iv ((i:Int)+1)) H')→(body J:AV→AV→AV→AH→Prop) x y (iv (i:Int)) H):A_ [a,b,c] body e0 H1:=by
 let Iv:AV→AV→AV→AH→Prop:=fun u v w H'=>u=x∧v=y∧∃i:Nat,w=iv (i:Int)∧i≤n∧BE H0 L H'
 let μ:AV→AV→AV→AH→Nat:=fun _ _ w _=>match w with
  | .int _ j=>(n-j).toNat
  | _=>0
 refine⟨Iv,μ,⟨ha,hb,0,hc,Nat.zero_le _,hS⟩,?_⟩
 intro f H hI
 obtain⟨e1,e2,i,e3,hi,hq⟩:=(hI:Iv (f a) (f b) (f c) H)
 have hmu:μ (f a) (f b) (f c) H=((n:Int)-(i:Int)).toNat:=by rw[e3]
 show(body _:AV→AV→AV→AH→Prop) (f a) (f b) (f c) H
 rw[e1,e2,e3]
 refine hbody i H _ hi hq fun hlt H' hq'=>?_
 obtain⟨g,hg⟩:∃g,g=(((emp.set a x).set b y).set c (iv ((i:Int)+1))):=⟨_,rfl⟩
 have g1:g a=x:=by simp[hg,Env.B4,hab,hac]
 have g2:g b=y:=by simp[hg,Env.B4,hbc]
 have g3:g c=iv ((i:Int)+1):=by simp[hg,Env.B4]
 have:Iv (g a) (g b) (g c) H'∧μ (g a) (g b) (g c) H'<((n:Int)-(i:Int)).toNat:=by
  rw[g1,g2,g3]
  refine⟨⟨rfl,rfl,i+1,rfl,hlt,hq'⟩,?_⟩
  show((n:Int)-((i:Int)+1)).toNat<((n:Int)-(i:Int)).toNat
  omega
 rw[hg]at this
 rw[←hmu]at this
 exact this
end Go.AL
namespace Go.Proofs.YtdcdbabponelcaaGreatDoor
open Go Go.AL Tryz
open Go.Proofs.YtdcdbabponelcaaGreatDoor.San (MC SI By pe pc dx Kc Dx)
variable [BY]
theorem vF {H:AH}(hg:H.gl=BY.G){j:Nat}(hj:j<8):CP prog 82 [.agg (MC j)] H fun x=>x=.bool true:=
 CP.row (Aq (BC Kc Dx 90) (By pe j hj) H hg) rfl
theorem vE {H:AH}(hg:H.gl=BY.G){c:List AV}(hc:ZF c):CP prog 83 [.agg c] H fun x=>x=iv 0:=by
 obtain⟨d,t,o,h1,h2,h3,rfl⟩:=hc
 exact CP.row (Aq (BC Kc Dx 90) (By (By (By pc d h1) t h2) o h3) H hg) rfl
theorem pA {H:AH}(hg:H.gl=BY.G):CP prog 208 [.sim Dz 3 true] H fun x=>x=.bool true:=CP.row (Aq (BC Kc Dx 90) dx H hg) rfl
theorem rV {H:AH}{n:Nat}{T:AV}(h:MQ n T):CP prog 75 [T,iv (n:Int)] H fun x=>x=.bool true:=by
 obtain⟨m,hm,h⟩:=h
 refine CP.of (tF ?_)
 unfold qZ
 try simp only[BU]
 refine h.len (Ea (by omega) (AZ ?_))
 refine Vz (n:=m) (by decide) (by decide) (by decide) rfl rfl rfl fun i J hi hJ=>?_
 refine h.len (BT (fun hlt=>Ai ?_) (fun hlt=>AZ (.same (fun k=>.bool _) rfl)))
 obtain⟨c,_,hc,rd⟩:=h.fS (show i<m by omega)
 obtain⟨x,b,rfl,x1,x2,x3⟩:=hc
 refine rd 0 (iv x) _ _ rfl (EZ (b:=-1) (by omega) (Af ?_))
 refine rd 0 (iv x) _ _ rfl (GK (by omega) (AA rfl (Af ?_)))
 refine rd 0 (iv x) _ _ rfl (Ox (fun h0=>Aj ?_) (fun h0=>Au ?_))
 ·have hb:=x3 h0
  subst hb
  exact rd 1 (bv 0) _ _ rfl (AA rfl (Af (AA rfl (AA rfl (AZ (BA ⟨by omega,by omega⟩ (hJ (by omega))))))))
 ·exact Af (AA rfl (AA rfl (AZ (BA ⟨by omega,by omega⟩ (hJ (by omega))))))
theorem vL {H:AH}:CP prog 76 [.agg [.nils,.nils,.nils]] H fun x=>x=.bool true:=by
 refine CP.of (tE ?_)
 unfold qY
 refine(BE.start H).box rfl fun q H1 s=>?_
 refine AA rfl (s.ld (x:=.nils) (.head _) rfl (AA rfl (AA rfl (Aj ?_))))
 refine AA rfl (s.ld (x:=.nils) (.head _) rfl (AA rfl (AA rfl (AA rfl (Aj ?_)))))
 refine AA rfl (s.ld (x:=.nils) (.head _) rfl (AA rfl (AA rfl (AA rfl (s.B9 (fun k=>.bool _) rfl)))))
theorem vK {H:AH}:CP prog 77 [.agg [.nils,iv 0]] H fun x=>x=.bool true:=by
 refine CP.of (tD ?_)
 unfold qX
 refine(BE.start H).box rfl fun q H1 s=>?_
 refine AA rfl (s.ld (x:=.nils) (.head _) rfl (AA rfl (AA rfl (Aj ?_))))
 refine AA rfl (s.ld (x:=iv 0) (.head _) rfl (AA rfl (AA rfl (s.B9 (fun k=>.bool _) rfl))))
theorem vJ {H:AH}:CP prog 78 [.agg [.nils,.nils,.nils,.nils]] H fun x=>x=.bool true:=by
 refine CP.of (tC ?_)
 unfold qW
 refine(BE.start H).box rfl fun q H1 s=>?_
 refine AA rfl (s.ld (x:=.nils) (.head _) rfl (AA rfl (AA rfl (Aj ?_))))
 refine AA rfl (s.ld (x:=.nils) (.head _) rfl (AA rfl (AA rfl (AA rfl (Aj ?_)))))
 refine AA rfl (s.ld (x:=.nils) (.head _) rfl (AA rfl (AA rfl (AA rfl (Aj ?_)))))
 refine AA rfl (s.ld (x:=.nils) (.head _) rfl (AA rfl (AA rfl (AA rfl (s.B9 (fun k=>.bool _) rfl)))))
theorem vI {H:AH}:CP prog 79 [.agg [iv 0,iv 0,iv 0,iv 0,.bool false]] H fun x=>x=.bool true:=by
 refine CP.of (tB ?_)
 unfold qV
 refine(BE.start H).box rfl fun q H1 s=>s.DN (.head _) rfl (AA rfl (AA rfl (s.B9 (fun k=>.bool _) rfl)))
theorem vG {H:AH}{n:Nat}{A:AV}{C:Int}(hA:FL 1 (SA (-2) 3) n A) (h1:-6≤C) (h2:C≤6) (hn:n≤100):CP prog 81 [.agg [A,iv C],iv (n:Int)] H fun x=>x=.bool true:=by
 refine CP.of (s_ ?_)
 unfold qT
 try simp only[BU]
 refine(BE.start H).box (c:=[A,iv C]) (by have:=hA.one;rfl) fun q H1 s=>?_
 refine AA rfl (s.ld (x:=A) (.head _) rfl (hA.len (DB rfl (Af ?_))))
 refine AA rfl (s.ld (x:=iv C) (.head _) rfl (EZ (b:=-1000) (by omega) (AA rfl (Af ?_))))
 refine AA rfl (s.ld (x:=iv C) (.head _) rfl (GK (by omega) (AA rfl (AZ ?_))))
 refine Vz (n:=n) (by decide) (by decide) (by decide) rfl rfl rfl fun i J hi hJ=>?_
 refine BT (fun hlt=>Ai ?_) (fun hlt=>AZ (s.B9 (fun k=>.bool _) rfl))
 refine AA rfl (s.ld (x:=A) (.head _) rfl (hA.Ef (by omega) fun x _ hx=>?_))
 obtain⟨a,ha,a1,a2⟩:=hx
 cases ha
 refine EZ (b:=-1000) (by omega) (Af ?_)
 refine AA rfl (s.ld (x:=A) (.head _) rfl (hA.Ef (by omega) fun x _ hx=>?_))
 obtain⟨a,ha,a1,a2⟩:=hx
 cases ha
 exact Ea (by omega) (AA rfl (AZ (BA ⟨by omega,by omega⟩ (hJ (by omega)))))
theorem pJ {H:AH}(hg:H.gl=BY.G){c:List AV}(hc:Ns c):CP prog 130 [.agg c] H fun x=>x=.bool true:=by
 obtain⟨m,nx,ac,hm1,hm8,rfl,hnx,hac⟩:=hc
 refine CP.of (lY ?_)
 unfold gP
 try simp only[BU]
 refine(BE.start H).box rfl fun q H1 s=>?_
 have hg1:=s.k.gl.trans hg
 refine AA rfl (s.ld (x:=nx) (.head _) rfl (hnx.len (EZ (by omega) (Af ?_))))
 refine AA rfl (s.ld (x:=ac) (.head _) rfl (hac.len (DB rfl (AA rfl (Af ?_)))))
 refine AA rfl (s.ld (x:=.sim Dz 3 true) (.head _) rfl (BK (pA hg1) fun x hx=>?_))
 subst hx
 refine AA rfl (AA rfl (AZ ?_))
 refine Vz (n:=m) (by decide) (by decide) (by decide) rfl rfl rfl fun i J hi hJ=>?_
 refine BT (fun hlt=>Ai ?_) (fun hlt=>AZ (s.B9 (fun k=>.bool _) rfl))
 refine AA rfl (s.ld (x:=nx) (.head _) rfl (hnx.Ef (by omega) fun r _ hr=>?_))
 obtain⟨r',hr,h3⟩:=hr
 cases hr
 refine h3.len (AA rfl (s.ld (x:=.sim Dz 3 true) (.head _) rfl (AA rfl (DB rfl (AZ ?_)))))
 refine pk (n:=3) (by decide) (by decide) (by decide) (by decide) (by decide) (by decide) rfl rfl rfl rfl fun j K hj hK=>?_
 refine AA rfl (s.ld (x:=nx) (.head _) rfl (hnx.Ef (by omega) fun r _ hr=>?_))
 obtain⟨r',hr,h3⟩:=hr
 cases hr
 refine h3.len (BT (fun hlt2=>Ai ?_) (fun hlt2=>AZ (BA ⟨by omega,by omega⟩ (hJ (by omega)))))
 refine AA rfl (s.ld (x:=nx) (.head _) rfl (hnx.Ef (by omega) fun r _ hr=>?_))
 obtain⟨r',hr,h3⟩:=hr
 cases hr
 refine h3.Ef (by omega) fun x _ hx=>?_
 obtain⟨a,ha,a1,a2⟩:=hx
 cases ha
 refine EZ (by omega) (Af ?_)
 refine AA rfl (s.ld (x:=nx) (.head _) rfl (hnx.Ef (by omega) fun r _ hr=>?_))
 obtain⟨r',hr,h3⟩:=hr
 cases hr
 refine h3.Ef (by omega) fun x _ hx=>?_
 obtain⟨a,ha,a1,a2⟩:=hx
 cases ha
 exact GK (by omega) (AA rfl (AZ (BA ⟨by omega,by omega⟩ (hK (by omega)))))
theorem vH {H:AH}(hg:H.gl=BY.G){c:List AV}(hc:Ns c):CP prog 80 [.agg c] H fun x=>x=.bool true:=by
 have hc0:=hc
 obtain⟨m,nx,ac,hm1,hm8,rfl,hnx,hac⟩:=hc0
 refine CP.of (tA ?_)
 unfold qU
 try simp only[BU]
 refine(BE.start H).box rfl fun q H1 s=>?_
 refine AA rfl (s.ld (x:=nx) (.head _) rfl (hnx.len (N6 (by omega) (Aj ?_))))
 refine s.DN (.head _) rfl (BK (pJ (s.k.gl.trans hg) hc) fun x hx=>?_)
 subst hx
 exact AA rfl (s.B9 (fun k=>.bool _) rfl)
set_option maxHeartbeats 1000000 in
theorem re {H:AH}{m:Nat}(hm:m≤40){v:AV}(hv:ZH m v):CP prog 37 [v,iv (m:Int)] H fun x=>x=.bool true:=by
 obtain⟨n,hn1,hn8,hv⟩:=hv
 refine CP.of (qL ?_)
 unfold oG
 try simp only[BU]
 refine e_ (n:=n) (L:=[]) (by decide) (by decide) (by decide) rfl rfl rfl (BE.start H) fun i H1 J hi s hJ=>?_
 refine hv.len (BT (fun hlt=>Ai ?_) (fun hlt=>AZ (hv.len (N7 (by omega) (s.B9 (fun k=>.bool _) rfl)))))
 refine hv.IG (by omega) fun c hc1 _ hc=>?_
 obtain⟨kd,L,R,rfl,k1,k4,p1,p2,p3⟩:=hc
 refine s.alloc fun q H2 s=>s.Cr rfl rfl fun H3 s=>?_
 have nxt:AB (.bin .add (.cst (iv (i:Int))) (.cst (iv 1))) fun v66=>J v (iv (m:Int)) v66 H3:=BA ⟨by omega,by omega⟩ (hJ (by omega) _ (s.sub (List.nil_sublist _)))
 refine AA rfl (s.ld (x:=iv kd) (.head _) rfl (IV ?_))
 refine Nb (fun J=>∀op:Int,(op=0∧R=0∨op=1∧0≤L∧L<i∧R=0∨op=2∧0≤L∧L<i∧0≤R∧R<i)→J v (iv (m:Int)) (iv (i:Int)) (.ptr q 0) (iv op) H3) (fun op hop=>?_) (fun ht J hJ=>?_) (fun hf J hJ=>?_)
 ·rcases hop with⟨rfl,hR⟩ | ⟨rfl,h1,h2,hR⟩ | ⟨rfl,h1,h2,h3,h4⟩
  ·refine GK (by omega) (Au (BQ (Au (AA rfl (Af (N5 (by omega) (Aj ?_)))))))
   refine AA rfl (s.ld (x:=iv R) (.head _) rfl (DB hR (Af (AA rfl (AA rfl (Af (ZA (by omega) ?_)))))))
   exact Au (BQ (Au (Af (AA rfl (AA rfl (AZ nxt))))))
  ·refine MW (by omega) (Aj (AA rfl (s.ld (x:=iv L) (.head _) rfl (EZ (by omega) (Af ?_)))))
   refine AA rfl (s.ld (x:=iv L) (.head _) rfl (GK (by omega) (Aj (AA rfl (AA rfl (Af (N5 (by omega) (Aj ?_))))))))
   refine AA rfl (s.ld (x:=iv R) (.head _) rfl (DB hR (Af (AA rfl (AA rfl (Af (ZA (by omega) ?_)))))))
   exact Au (BQ (Au (Af (AA rfl (AA rfl (AZ nxt))))))
  ·refine MW (by omega) (Aj (AA rfl (s.ld (x:=iv L) (.head _) rfl (EZ (by omega) (Af ?_)))))
   refine AA rfl (s.ld (x:=iv L) (.head _) rfl (GK (by omega) (Aj (AA rfl (AA rfl (Af (EZ (by omega) (Au (Af ?_)))))))))
   refine AA rfl (AA rfl (Af (FF rfl (Aj ?_))))
   refine AA rfl (s.ld (x:=iv R) (.head _) rfl (EZ (by omega) (Af ?_)))
   refine AA rfl (s.ld (x:=iv R) (.head _) rfl (GK (by omega) (Aj ?_)))
   exact AA rfl (Af (AA rfl (AA rfl (AZ nxt))))
 ·obtain⟨b1,b2,b3⟩:=p1 (of_decide_eq_true ht)
  refine AA rfl (s.ld (x:=iv L) (.head _) rfl (EZ (by omega) (Af ?_)))
  exact AA rfl (s.ld (x:=iv L) (.head _) rfl (GK (by omega) (AA rfl (AZ (hJ 0 (.inl ⟨rfl,b3⟩))))))
 ·have h1:=of_decide_eq_false hf
  refine FM (fun h2=>Ai ?_) (fun h2=>AZ ?_)
  ·obtain⟨b1,b2,b3⟩:=p2 h2
   exact hJ 1 (.inr (.inl ⟨rfl,b1,b2,b3⟩))
  ·obtain⟨b1,b2,b3,b4⟩:=p3 (by omega)
   exact FM (fun h3=>CK (Ai (hJ 2 (.inr (.inr ⟨rfl,b1,b2,b3,b4⟩))))) (fun h3=>CL (FF (by omega) (Ai (hJ 2 (.inr (.inr ⟨rfl,b1,b2,b3,b4⟩))))))
def gB (m:Nat) (v:AV):Prop:=∃n,1≤n∧n≤8∧FL 3 (fun i c=>(i=0→c=[iv 1,iv (m:Int),iv 0])∧(0<i→ZG m i c)) n v
theorem oi {H:AH}{m:Nat}(hm:m≤40){v:AV}(hv:gB m v):CP prog 37 [v,iv (m:Int)] H fun x=>x=.bool false:=by
 obtain⟨n,hn1,hn8,hv⟩:=hv
 refine CP.of (qL ?_)
 unfold oG
 try simp only[BU]
 let Iv:AV→AV→AV→AH→Prop:=fun a b c H'=>a=v∧b=iv (m:Int)∧c=iv ((0:Nat):Int)∧BE H [] H'
 refine⟨Iv,fun _ _ _ _=>0,⟨rfl,rfl,rfl,BE.start H⟩,?_⟩
 intro e H1 hI
 obtain⟨e1,e2,e3,s⟩:=(hI:Iv (e 0) (e 1) (e 5) H1)
 show AB (.len (.cst (e 0))) _
 rw[e1,e2,e3]
 refine hv.len (N5 (by omega) (Ai (hv.IG (by omega) fun c hc1 _ hc=>?_)))
 have hc:=hc.1 rfl
 subst hc
 refine s.alloc fun q H2 s=>s.Cr rfl rfl fun H3 s=>?_
 refine AA rfl (s.ld (x:=iv 1) (.head _) rfl (FF rfl (CK ?_)))
 refine AA rfl (s.ld (x:=iv (m:Int)) (.head _) rfl (EZ (by omega) (Af ?_)))
 exact AA rfl (s.ld (x:=iv (m:Int)) (.head _) rfl (MW (by omega) (AA rfl (Ai (s.B9 (fun k=>.bool _) rfl)))))
theorem oW {H:AH}{m:Nat}(hm:m≤40){v:AV}(hv:gB m v):CP prog 65 [v,iv (m:Int)] H fun x=>x=.bool false:=by
 obtain⟨n,hn1,hn8,hv⟩:=hv
 refine CP.of (qI ?_)
 unfold oD
 try simp only[BU]
 refine hv.len ?_
 let Iv:AV→AV→AV→AV→AV→AH→Prop:=fun a b c d f H'=>a=v∧b=iv (m:Int)∧c=v∧d=iv (n:Int)∧f=iv ((0:Nat):Int)∧BE H [] H'
 refine⟨Iv,fun _ _ _ _ _ _=>0,⟨rfl,rfl,rfl,rfl,rfl,BE.start H⟩,?_⟩
 intro e H1 hI
 obtain⟨e1,e2,e3,e4,e5,s⟩:=(hI:Iv (e 0) (e 1) (e 9) (e 10) (e 11) H1)
 show AB (.bin .lss (.cst (e 11)) (.cst (e 10))) _
 rw[e1,e2,e3,e4,e5]
 refine N5 (by omega) (Ai (hv.IG (by omega) fun c hc1 _ hc=>?_))
 have hc:=hc.1 rfl
 subst hc
 refine s.alloc fun q H2 s=>s.Cr rfl rfl fun H3 s=>?_
 refine AA rfl (s.ld (x:=iv 1) (.head _) rfl (FF rfl (CK ?_)))
 refine AA rfl (s.ld (x:=iv (m:Int)) (.head _) rfl (D4 ⟨by omega,by omega⟩ ?_))
 refine BK iP fun x hx=>?_
 rw[decide_eq_false (by omega)]at hx
 subst hx
 exact AA rfl (BB (AA rfl (Ai (s.B9 (fun k=>.bool _) rfl))))
end Go.Proofs.YtdcdbabponelcaaGreatDoor
namespace Go.Proofs.YtdcdbabponelcaaGreatDoor
open Go Go.AL Tryz
open Go.Proofs.YtdcdbabponelcaaGreatDoor.San (MC)
variable [BY]
section
variable {H:AH}{Kp K:AV→AH→Prop}
theorem Qf {n:Nat}(h:K (.bool true) H):AX prog 75 [.nils,iv (n:Int)] H Kp K:=BK (rV ⟨0,by omega,.nil⟩) fun x hx=>by subst hx;exact h
theorem RK {n:Nat}{T:AV}(hT:MQ n T) (h:K (.bool true) H):AX prog 75 [T,iv (n:Int)] H Kp K:=BK (rV hT) fun x hx=>by subst hx;exact h
theorem ir (h:K (.bool true) H):AX prog 76 [.agg [.nils,.nils,.nils]] H Kp K:=BK vL fun x hx=>by subst hx;exact h
theorem iq (h:K (.bool true) H):AX prog 77 [.agg [.nils,iv 0]] H Kp K:=BK vK fun x hx=>by subst hx;exact h
theorem im (h:K (.bool true) H):AX prog 78 [.agg [.nils,.nils,.nils,.nils]] H Kp K:=BK vJ fun x hx=>by subst hx;exact h
theorem il (h:K (.bool true) H):AX prog 79 [.agg [iv 0,iv 0,iv 0,iv 0,.bool false]] H Kp K:=BK vI fun x hx=>by subst hx;exact h
end
set_option maxHeartbeats 2000000 in
theorem oh {H:AH}(hg:H.gl=BY.G) {n k:Nat}(hn:n≤12) (hk:k≤12){c:List AV}(hc:Kr n k c):CP prog 38 [.agg c,iv (n:Int),iv (k:Int)] H fun x=>x=.bool true:=by
 refine CP.of (qK ?_)
 unfold oF Up QF QE Uv Uu Ut Us Ur Uq Uo Un Um Ul Uk RA Q_ Q9
 try simp only[BU]
 refine(BE.start H).box rfl fun q H1 s=>?_
 have hg1:=s.k.gl.trans hg
 cases hc with
 | isIn hT hd=>
  repeat (first
   | refine s.ld (.head _) rfl ?_
   | refine s.Ch (.head _) rfl (nb rfl) ?_
   | refine Aj ?_
   | refine Au ?_
   | refine Af ?_
   | refine BB ?_
   | refine Ai ?_
   | refine AZ ?_
   | refine BQ ?_
   | refine AA rfl ?_)
  refine RK hT ?_
  repeat (first
   | refine s.ld (.head _) rfl ?_
   | refine s.Ch (.head _) rfl (nb rfl) ?_
   | refine Aj ?_
   | refine Au ?_
   | refine Af ?_
   | refine BB ?_
   | refine Ai ?_
   | refine AZ ?_
   | refine BQ ?_
   | refine AA rfl ?_)
  refine Qf ?_
  repeat (first
   | refine s.ld (.head _) rfl ?_
   | refine s.Ch (.head _) rfl (nb rfl) ?_
   | refine Aj ?_
   | refine Au ?_
   | refine Af ?_
   | refine BB ?_
   | refine Ai ?_
   | refine AZ ?_
   | refine BQ ?_
   | refine AA rfl ?_)
  refine iq ?_
  repeat (first
   | refine s.ld (.head _) rfl ?_
   | refine s.Ch (.head _) rfl (nb rfl) ?_
   | refine Aj ?_
   | refine Au ?_
   | refine Af ?_
   | refine BB ?_
   | refine Ai ?_
   | refine AZ ?_
   | refine BQ ?_
   | refine AA rfl ?_)
  refine im ?_
  repeat (first
   | refine s.ld (.head _) rfl ?_
   | refine s.Ch (.head _) rfl (nb rfl) ?_
   | refine Aj ?_
   | refine Au ?_
   | refine Af ?_
   | refine BB ?_
   | refine Ai ?_
   | refine AZ ?_
   | refine BQ ?_
   | refine AA rfl ?_)
  refine il ?_
  repeat (first
   | refine s.ld (.head _) rfl ?_
   | refine s.Ch (.head _) rfl (nb rfl) ?_
   | refine Aj ?_
   | refine Au ?_
   | refine Af ?_
   | refine BB ?_
   | refine Ai ?_
   | refine AZ ?_
   | refine BQ ?_
   | refine AA rfl ?_)
  refine BK (vH hg1 hd) fun x hx=>?_
  subst hx
  exact s.B9 (fun k=>.bool _) rfl
 | isEq hT hU=>
  repeat (first
   | refine s.ld (.head _) rfl ?_
   | refine s.Ch (.head _) rfl (nb rfl) ?_
   | refine Aj ?_
   | refine Au ?_
   | refine Af ?_
   | refine BB ?_
   | refine Ai ?_
   | refine AZ ?_
   | refine BQ ?_
   | refine AA rfl ?_)
  refine RK hT ?_
  repeat (first
   | refine s.ld (.head _) rfl ?_
   | refine s.Ch (.head _) rfl (nb rfl) ?_
   | refine Aj ?_
   | refine Au ?_
   | refine Af ?_
   | refine BB ?_
   | refine Ai ?_
   | refine AZ ?_
   | refine BQ ?_
   | refine AA rfl ?_)
  refine RK hU ?_
  repeat (first
   | refine s.ld (.head _) rfl ?_
   | refine s.Ch (.head _) rfl (nb rfl) ?_
   | refine Aj ?_
   | refine Au ?_
   | refine Af ?_
   | refine BB ?_
   | refine Ai ?_
   | refine AZ ?_
   | refine BQ ?_
   | refine AA rfl ?_)
  refine ir ?_
  repeat (first
   | refine s.ld (.head _) rfl ?_
   | refine s.Ch (.head _) rfl (nb rfl) ?_
   | refine Aj ?_
   | refine Au ?_
   | refine Af ?_
   | refine BB ?_
   | refine Ai ?_
   | refine AZ ?_
   | refine BQ ?_
   | refine AA rfl ?_)
  refine iq ?_
  repeat (first
   | refine s.ld (.head _) rfl ?_
   | refine s.Ch (.head _) rfl (nb rfl) ?_
   | refine Aj ?_
   | refine Au ?_
   | refine Af ?_
   | refine BB ?_
   | refine Ai ?_
   | refine AZ ?_
   | refine BQ ?_
   | refine AA rfl ?_)
  refine im ?_
  repeat (first
   | refine s.ld (.head _) rfl ?_
   | refine s.Ch (.head _) rfl (nb rfl) ?_
   | refine Aj ?_
   | refine Au ?_
   | refine Af ?_
   | refine BB ?_
   | refine Ai ?_
   | refine AZ ?_
   | refine BQ ?_
   | refine AA rfl ?_)
  refine il ?_
  repeat (first
   | refine s.ld (.head _) rfl ?_
   | refine s.Ch (.head _) rfl (nb rfl) ?_
   | refine Aj ?_
   | refine Au ?_
   | refine Af ?_
   | refine BB ?_
   | refine Ai ?_
   | refine AZ ?_
   | refine BQ ?_
   | refine AA rfl ?_)
  exact s.B9 (fun k=>.bool _) rfl
 | isRow hA h1 h2=>
  rename_i A C
  have e:((n+k:Nat):Int)=(n:Int)+(k:Int):=by omega
  have h81:=vG (H:=H1) hA h1 h2 (by omega)
  rw[e]at h81
  repeat (first
   | refine s.ld (.head _) rfl ?_
   | refine s.Ch (.head _) rfl (nb rfl) ?_
   | refine Aj ?_
   | refine Au ?_
   | refine Af ?_
   | refine BB ?_
   | refine Ai ?_
   | refine AZ ?_
   | refine BQ ?_
   | refine AA rfl ?_)
  refine Qf ?_
  repeat (first
   | refine s.ld (.head _) rfl ?_
   | refine s.Ch (.head _) rfl (nb rfl) ?_
   | refine Aj ?_
   | refine Au ?_
   | refine Af ?_
   | refine BB ?_
   | refine Ai ?_
   | refine AZ ?_
   | refine BQ ?_
   | refine BA ⟨by omega,by omega⟩ ?_
   | refine AA rfl ?_)
  refine Qf ?_
  repeat (first
   | refine s.ld (.head _) rfl ?_
   | refine s.Ch (.head _) rfl (nb rfl) ?_
   | refine Aj ?_
   | refine Au ?_
   | refine Af ?_
   | refine BB ?_
   | refine Ai ?_
   | refine AZ ?_
   | refine BQ ?_
   | refine BA ⟨by omega,by omega⟩ ?_
   | refine AA rfl ?_)
  refine ir ?_
  repeat (first
   | refine s.ld (.head _) rfl ?_
   | refine s.Ch (.head _) rfl (nb rfl) ?_
   | refine Aj ?_
   | refine Au ?_
   | refine Af ?_
   | refine BB ?_
   | refine Ai ?_
   | refine AZ ?_
   | refine BQ ?_
   | refine BA ⟨by omega,by omega⟩ ?_
   | refine AA rfl ?_)
  refine im ?_
  repeat (first
   | refine s.ld (.head _) rfl ?_
   | refine s.Ch (.head _) rfl (nb rfl) ?_
   | refine Aj ?_
   | refine Au ?_
   | refine Af ?_
   | refine BB ?_
   | refine Ai ?_
   | refine AZ ?_
   | refine BQ ?_
   | refine BA ⟨by omega,by omega⟩ ?_
   | refine AA rfl ?_)
  refine il ?_
  repeat (first
   | refine s.ld (.head _) rfl ?_
   | refine s.Ch (.head _) rfl (nb rfl) ?_
   | refine Aj ?_
   | refine Au ?_
   | refine Af ?_
   | refine BB ?_
   | refine Ai ?_
   | refine AZ ?_
   | refine BQ ?_
   | refine BA ⟨by omega,by omega⟩ ?_
   | refine AA rfl ?_)
  refine BK h81 fun x hx=>?_
  subst hx
  exact s.B9 (fun k=>.bool _) rfl
 | isIm hT hU hj hm=>
  have h82:=vF hg1 hj
  rw[hm]at h82
  repeat (first
   | refine s.ld (.head _) rfl ?_
   | refine s.Ch (.head _) rfl (nb rfl) ?_
   | refine Aj ?_
   | refine Au ?_
   | refine Af ?_
   | refine BB ?_
   | refine Ai ?_
   | refine AZ ?_
   | refine BQ ?_
   | refine AA rfl ?_)
  refine RK hT ?_
  repeat (first
   | refine s.ld (.head _) rfl ?_
   | refine s.Ch (.head _) rfl (nb rfl) ?_
   | refine Aj ?_
   | refine Au ?_
   | refine Af ?_
   | refine BB ?_
   | refine Ai ?_
   | refine AZ ?_
   | refine BQ ?_
   | refine AA rfl ?_)
  refine RK hU ?_
  repeat (first
   | refine s.ld (.head _) rfl ?_
   | refine s.Ch (.head _) rfl (nb rfl) ?_
   | refine Aj ?_
   | refine Au ?_
   | refine Af ?_
   | refine BB ?_
   | refine Ai ?_
   | refine AZ ?_
   | refine BQ ?_
   | refine AA rfl ?_)
  refine ir ?_
  repeat (first
   | refine s.ld (.head _) rfl ?_
   | refine s.Ch (.head _) rfl (nb rfl) ?_
   | refine Aj ?_
   | refine Au ?_
   | refine Af ?_
   | refine BB ?_
   | refine Ai ?_
   | refine AZ ?_
   | refine BQ ?_
   | refine AA rfl ?_)
  refine iq ?_
  repeat (first
   | refine s.ld (.head _) rfl ?_
   | refine s.Ch (.head _) rfl (nb rfl) ?_
   | refine Aj ?_
   | refine Au ?_
   | refine Af ?_
   | refine BB ?_
   | refine Ai ?_
   | refine AZ ?_
   | refine BQ ?_
   | refine AA rfl ?_)
  refine il ?_
  repeat (first
   | refine s.ld (.head _) rfl ?_
   | refine s.Ch (.head _) rfl (nb rfl) ?_
   | refine Aj ?_
   | refine Au ?_
   | refine Af ?_
   | refine BB ?_
   | refine Ai ?_
   | refine AZ ?_
   | refine BQ ?_
   | refine AA rfl ?_)
  refine BK h82 fun x hx=>?_
  subst hx
  exact s.B9 (fun k=>.bool _) rfl
 | isNum hT hq h1 h2=>
  repeat (first
   | refine s.ld (.head _) rfl ?_
   | refine s.Ch (.head _) rfl (nb rfl) ?_
   | refine Aj ?_
   | refine Au ?_
   | refine Af ?_
   | refine BB ?_
   | refine Ai ?_
   | refine AZ ?_
   | refine BQ ?_
   | refine AA rfl ?_)
  refine RK hT ?_
  repeat (first
   | refine s.ld (.head _) rfl ?_
   | refine s.Ch (.head _) rfl (nb rfl) ?_
   | refine Aj ?_
   | refine Au ?_
   | refine Af ?_
   | refine BB ?_
   | refine Ai ?_
   | refine AZ ?_
   | refine BQ ?_
   | refine AA rfl ?_)
  refine Qf ?_
  repeat (first
   | refine s.ld (.head _) rfl ?_
   | refine s.Ch (.head _) rfl (nb rfl) ?_
   | refine Aj ?_
   | refine Au ?_
   | refine Af ?_
   | refine BB ?_
   | refine Ai ?_
   | refine AZ ?_
   | refine BQ ?_
   | refine AA rfl ?_)
  refine ir ?_
  repeat (first
   | refine s.ld (.head _) rfl ?_
   | refine s.Ch (.head _) rfl (nb rfl) ?_
   | refine Aj ?_
   | refine Au ?_
   | refine Af ?_
   | refine BB ?_
   | refine Ai ?_
   | refine AZ ?_
   | refine BQ ?_
   | refine AA rfl ?_)
  refine iq ?_
  repeat (first
   | refine s.ld (.head _) rfl ?_
   | refine s.Ch (.head _) rfl (nb rfl) ?_
   | refine Aj ?_
   | refine Au ?_
   | refine Af ?_
   | refine BB ?_
   | refine Ai ?_
   | refine AZ ?_
   | refine BQ ?_
   | refine AA rfl ?_)
  refine im ?_
  repeat (first
   | refine s.ld (.head _) rfl ?_
   | refine s.Ch (.head _) rfl (nb rfl) ?_
   | refine Aj ?_
   | refine Au ?_
   | refine Af ?_
   | refine BB ?_
   | refine Ai ?_
   | refine AZ ?_
   | refine BQ ?_
   | refine AA rfl ?_)
  refine BK (vE hg1 hq) fun x hx=>?_
  subst hx
  repeat (first
   | refine s.ld (.head _) rfl ?_
   | refine s.Ch (.head _) rfl (nb rfl) ?_
   | refine Aj ?_
   | refine Au ?_
   | refine Af ?_
   | refine BB ?_
   | refine Ai ?_
   | refine AZ ?_
   | refine BQ ?_
   | refine MW h1 ?_
   | refine N5 h2 ?_
   | refine AA rfl ?_)
  exact s.B9 (fun k=>.bool _) rfl
def ZI (n k:Nat) (c:List AV):Prop:=∃a t,Kr n k (a::t)∧c=iv 6::t
theorem od {H:AH}{n k n' k':Nat}{c:List AV}(hc:ZI n k c):CP prog 38 [.agg c,iv (n':Int),iv (k':Int)] H fun x=>x=.bool false:=by
 obtain⟨a,t,_,rfl⟩:=hc
 refine CP.of (qK ?_)
 unfold oF Up QF QE
 try simp only[BU]
 refine(BE.start H).box rfl fun q H1 s=>?_
 refine AA rfl (s.ld (x:=iv 6) (.head _) rfl (EZ (by omega) (Af ?_)))
 refine AA rfl (s.ld (x:=iv 6) (.head _) rfl (N7 (by omega) (AA rfl (BB ?_))))
 exact AA rfl (BB (AA rfl (Ai (s.B9 (fun k=>.bool _) rfl))))
theorem oX {H:AH}{n k n' k':Nat}{c:List AV}(hc:ZI n k c):CP prog 64 [.agg c,iv (n':Int),iv (k':Int)] H fun x=>x=.bool false:=by
 obtain⟨a,t,_,rfl⟩:=hc
 refine CP.of (qJ ?_)
 unfold oE Uj QD QC QA P_ P8 P7 P6 P9 QB
 try simp only[BU]
 refine(BE.start H).box rfl fun q H1 s=>?_
 repeat (first
  | refine s.ld (.head _) rfl ?_
  | refine s.Ch (.head _) rfl (nb rfl) ?_
  | refine Aj ?_
  | refine Au ?_
  | refine Af ?_
  | refine BB ?_
  | refine Ai ?_
  | refine AZ ?_
  | refine BQ ?_
  | refine AA rfl ?_)
 refine BK iP fun x hx=>?_
 rw[decide_eq_false (by omega)]at hx
 subst hx
 repeat (first
  | refine s.ld (.head _) rfl ?_
  | refine s.Ch (.head _) rfl (nb rfl) ?_
  | refine Aj ?_
  | refine Au ?_
  | refine Af ?_
  | refine BB ?_
  | refine Ai ?_
  | refine AZ ?_
  | refine BQ ?_
  | refine AA rfl ?_)
 exact s.B9 (fun k=>.bool _) rfl
theorem ZI.ri {n k:Nat}(hnk:n+k≤100){c:List AV}(h:ZI n k c):∃d,RS BR d c∧In BR d:=by
 obtain⟨a,t,ha,rfl⟩:=h
 obtain⟨d,hd,di⟩:=ha.ri hnk
 obtain⟨c1,c2,e,h1,h2⟩:=hd
 have h1:c1=[iv d.1]:=h1
 subst h1
 obtain⟨_,rfl⟩:=List.cons.inj e
 exact⟨((6:Int),d.2),⟨[iv 6],_,rfl,rfl,h2⟩,Kj (n:=6) (by decide),di.2⟩
theorem gB.ri {m:Nat}(hm:m≤100){v:AV}(h:gB m v):∃d:List Nd,1≤d.length∧d.length≤8∧RS (.list BX) d [v]∧∀x∈d,Ui x:=by
 obtain⟨n,n1,n8,h⟩:=h
 obtain⟨l,hl,h,hi⟩:=h.dR (t:=BX) (Q:=Ui) rfl (by omega) fun i c hin hc=>by
  obtain⟨hc0,hc1⟩:=hc
  by_cases e:i=0
  ·have hc:=hc0 e
   subst hc
   refine⟨((1:Int),(m:Int),(0:Int)),HJ _,?_⟩
   show 0≤(1:Int)∧(1:Int)≤100∧0≤(m:Int)∧(m:Int)≤100∧0≤(0:Int)∧(0:Int)≤100
   omega
  obtain⟨kd,L,R,rfl,k1,k4,h1,h2,h3⟩:=hc1 (by omega)
  refine⟨(kd,L,R),HJ (kd,L,R),?_⟩
  show 0≤kd∧kd≤100∧0≤L∧L≤100∧0≤R∧R≤100
  by_cases e1:kd=1
  ·have:=h1 e1;omega
  by_cases e2:kd=2
  ·have:=h2 e2;omega
  have:=h3 (by omega);omega
 have hl:List.length (α:=Nd) l=n:=hl
 exact⟨l,by omega,by omega,h,hi⟩
theorem ZI.len {n k:Nat}{c:List AV}(h:ZI n k c):c.length=18:=by
 obtain⟨a,t,ha,rfl⟩:=h
 have:=ha.len
 simpa using this
theorem oe {H:AH}(hg:H.gl=BY.G) {n k:Nat}(hn:n≤12) (hk:k≤12){c:List AV}(hc:R_ n k c):CP prog 38 [.agg (c.take 18),iv (n:Int),iv (k:Int)] H fun x=>x=.bool true:=by
 obtain⟨a,b,rfl,ha⟩:=hc
 have e:(a++[AV.bool b]).take 18=a:=by rw[List.take_append_of_le_length (by rw[ha.len];omega),List.take_of_length_le (by rw[ha.len];omega)]
 rw[e]
 exact oh hg hn hk ha
set_option maxHeartbeats 4000000 in
theorem vZ {H:AH}(hg:H.gl=BY.G){sh:Nat}{c:List AV}(h:Ue sh c):CP prog 31 [.agg c] H fun x=>x=iv 0:=by
 obtain⟨mo,to,li,at_,fo,nl,na,nf,rfl,h1,h2,hl,h3,ha,h4,hf,h5⟩:=h.ex
 obtain⟨n,hn⟩:∃n,n=1+sh % 2:=⟨_,rfl⟩
 obtain⟨k,hk⟩:∃k,k=sh / 2 % 2:=⟨_,rfl⟩
 rw[←hn]at h1 h3 h4
 rw[←hk]at h2 h3 h4
 have hn2:n≤2:=by omega
 have hk2:k≤1:=by omega
 clear hn hk h
 refine CP.of (td ?_)
 unfold q_ U8 U7 U6 U5 U4 U3 Uz Uy Ux Uw RC RB
 try simp only[BU]
 refine(BE.start H).box rfl fun q H1 s=>?_
 refine AA rfl (s.ld (x:=mo) (.head _) rfl (h1.len (AA rfl (s.ld (x:=to) (.head _) rfl (h2.len ?_)))))
 refine dU (s:=0) (n:=nf) (L:=[(q,[M5,mo,to,li,at_,fo])]) (x:=.ptr q 0) (y:=iv (n:Int)) (z:=iv (k:Int)) (W:=fun i w=>∃WO:Nat,w=iv (WO:Int)∧WO≤8*i) (by decide) rfl rfl rfl ⟨0,rfl,by omega⟩ rfl (by omega) s fun i w H2 J hi1 hi2 hw s hJ=>?_
 obtain⟨WO,rfl,hcnt⟩:=hw
 refine AA rfl (s.ld (x:=fo) (.head _) rfl (h5.len (BT (fun hlt=>Aj ?_) (fun hlt=>Au ?_))))
 ·refine N6 (by omega) (AA rfl (Ai ?_))
  refine AA rfl (s.ld (x:=fo) (.head _) rfl (h5.Ef (by omega) fun x _ hx=>?_))
  obtain⟨v,hv,m,m1,m8,hm⟩:=hx
  cases hv
  exact hm.len (BA ⟨by omega,by omega⟩ (BA ⟨by omega,by omega⟩ (hJ (by omega) _ _ ⟨WO+m,congrArg iv (Int.natCast_add WO m).symm,by omega⟩ s)))
 clear hJ
 have hc8:WO≤8:=by omega
 refine AA rfl (AZ ?_)
 refine AA rfl (s.ld (x:=M5) (.head _) rfl (AA rfl (Ea (by omega) (Af (Ea (by omega) (AA rfl (Af ?_)))))))
 refine Ea (by omega) (AA rfl (Af (BA ⟨by omega,by omega⟩ (Ea (by omega) (AA rfl (Af ?_))))))
 refine AA rfl (s.ld (x:=li) (.head _) rfl (h3.len (Ea (by omega) (AA rfl (Af ?_)))))
 refine AA rfl (s.ld (x:=at_) (.head _) rfl (h4.len (Ea (by omega) (AA rfl (Af ?_)))))
 refine Ea (by omega) (AA rfl (AZ ?_))
 refine AA rfl (s.ld (x:=M5) (.head _) rfl (AA rfl (N7 (by omega) ?_)))
 refine dU (s:=1) (n:=2) (L:=[(q,[M5,mo,to,li,at_,fo])]) (x:=.ptr q 0) (y:=iv (n:Int)) (z:=iv (k:Int)) (W:=fun _ w=>w=.bool true) (by decide) rfl rfl rfl rfl rfl (by omega) s fun i w H3 J hi1 hi2 hw s hJ=>?_
 subst hw
 refine AA rfl (s.ld (x:=M5) (.head _) rfl (AA rfl (BT (fun hlt=>Ai (Aj ?_)) (fun hlt=>AZ ?_))))
 ·obtain rfl:i=1:=by omega
  refine AA rfl (s.ld (x:=M5) (.head _) rfl (AA rfl (AA rfl (Cx (v:=N .u8 97) rfl ?_))))
  refine AA rfl (s.ld (x:=M5) (.head _) rfl (AA rfl (Cx (v:=N .u8 98) rfl ?_)))
  exact AA rfl (AA rfl (BA ⟨by omega,by omega⟩ (hJ (by omega) _ _ rfl s)))
 clear hJ
 refine dU (s:=0) (n:=n) (L:=[(q,[M5,mo,to,li,at_,fo])]) (x:=.ptr q 0) (y:=iv (n:Int)) (z:=iv (k:Int)) (W:=fun _ w=>w=.bool true) (by decide) rfl rfl rfl rfl rfl (by omega) s fun i w H4 J hi1 hi2 hw s hJ=>?_
 subst hw
 refine BT (fun hlt=>Ai (Aj ?_)) (fun hlt=>AZ ?_)
 ·refine AA rfl (s.ld (x:=mo) (.head _) rfl (h1.Ef (by omega) fun x _ hx=>?_))
  cases hx
  refine MW (by omega) (AA rfl (Aj ?_))
  refine AA rfl (s.ld (x:=mo) (.head _) rfl (h1.Ef (by omega) fun x _ hx=>?_))
  cases hx
  exact N6 (by omega) (AA rfl (BA ⟨by omega,by omega⟩ (hJ (by omega) _ _ rfl s)))
 clear hJ
 refine dU (s:=0) (n:=k) (L:=[(q,[M5,mo,to,li,at_,fo])]) (x:=.ptr q 0) (y:=iv (n:Int)) (z:=iv (k:Int)) (W:=fun _ w=>w=.bool true) (by decide) rfl rfl rfl rfl rfl (by omega) s fun i w H5 J hi1 hi2 hw s hJ=>?_
 subst hw
 refine BT (fun hlt=>Ai (Aj ?_)) (fun hlt=>AZ ?_)
 ·refine AA rfl (s.ld (x:=to) (.head _) rfl (h2.Ef (by omega) fun x _ hx=>?_))
  cases hx
  refine MW (by omega) (AA rfl (Aj ?_))
  refine AA rfl (s.ld (x:=to) (.head _) rfl (h2.Ef (by omega) fun x _ hx=>?_))
  cases hx
  exact N6 (by omega) (AA rfl (BA ⟨by omega,by omega⟩ (hJ (by omega) _ _ rfl s)))
 clear hJ
 refine dU (s:=0) (n:=nl) (L:=[(q,[M5,mo,to,li,at_,fo])]) (x:=.ptr q 0) (y:=iv (n:Int)) (z:=iv (k:Int)) (W:=fun _ w=>w=.bool true) (by decide) rfl rfl rfl rfl rfl (by omega) s fun i w H6 J hi1 hi2 hw s hJ=>?_
 subst hw
 refine AA rfl (s.ld (x:=li) (.head _) rfl (h3.len (BT (fun hlt=>Aj ?_) (fun hlt=>Au ?_))))
 ·refine AA rfl (Ai (AA rfl (s.ld (x:=li) (.head _) rfl (h3.r6 (by omega) (by decide) fun c _ hc=>?_))))
  refine BK (oe (s.k.gl.trans hg) (by omega) (by omega) hc) fun x hx=>?_
  subst hx
  exact BA ⟨by omega,by omega⟩ (hJ (by omega) _ _ rfl s)
 clear hJ
 refine AA rfl (AZ ?_)
 refine dU (s:=0) (n:=na) (L:=[(q,[M5,mo,to,li,at_,fo])]) (x:=.ptr q 0) (y:=iv (n:Int)) (z:=iv (k:Int)) (W:=fun _ w=>w=.bool true) (by decide) rfl rfl rfl rfl rfl (by omega) s fun i w H7 J hi1 hi2 hw s hJ=>?_
 subst hw
 refine AA rfl (s.ld (x:=at_) (.head _) rfl (h4.len (BT (fun hlt=>Aj ?_) (fun hlt=>Au ?_))))
 ·refine AA rfl (Ai (AA rfl (s.ld (x:=at_) (.head _) rfl (h4.IG (by omega) fun c _ _ hc=>?_))))
  refine BK (oh (s.k.gl.trans hg) (by omega) (by omega) hc) fun x hx=>?_
  subst hx
  exact BA ⟨by omega,by omega⟩ (hJ (by omega) _ _ rfl s)
 clear hJ
 refine AA rfl (AZ ?_)
 refine e_ (n:=nf) (L:=[(q,[M5,mo,to,li,at_,fo])]) (x:=.ptr q 0) (y:=.bool true) (by decide) (by decide) (by decide) rfl rfl rfl s fun i H8 J hi s hJ=>?_
 refine AA rfl (s.ld (x:=fo) (.head _) rfl (h5.len (BT (fun hlt=>Aj ?_) (fun hlt=>Au ?_))))
 ·refine AA rfl (Ai (AA rfl (s.ld (x:=fo) (.head _) rfl (h5.Ef (by omega) fun x _ hx=>?_))))
  obtain⟨v,hv,hvf⟩:=hx
  cases hv
  refine AA rfl (s.ld (x:=at_) (.head _) rfl (h4.len (BK (re (by omega) hvf) fun x hx=>?_)))
  subst hx
  exact BA ⟨by omega,by omega⟩ (hJ (by omega) _ s)
 exact AA rfl (AZ (AA rfl (AZ (s.B9 (fun k=>.int _ _) rfl))))
theorem C8 {H:AH}(hg:H.gl=BY.G){sh:Nat}{d:Bh.D}{c:List AV}(h:Ue sh c) (hr:RS Bh d c):CP prog 8 [.agg c] H fun x=>∃c',x=.tup [.agg c',iv 0]∧RS GO (d,[[]]) c':=by
 obtain⟨al,mo,to,li,at_,fo,rfl,_⟩:=CR hr
 refine CP.of (T8 ?_)
 unfold G8
 try simp only[BU]
 refine(BE.start H).box rfl fun q1 H1 s=>s.alloc fun q2 H2 s=>s.DN (c:=[al,mo,to,li,at_,fo]) (.tail _ (.head _)) rfl ?_
 refine BK (vZ (s.k.gl.trans hg) h) fun x hx=>?_
 subst hx
 refine DB rfl (AZ (s.DN (c:=[al,mo,to,li,at_,fo]) (.tail _ (.head _)) rfl ?_))
 refine s.bs (out:=[]) rfl fun q7 H3 s=>s.bs (out:=[.sl q7 0 0 (.ex 0)]) rfl fun q8 H4 s=>?_
 refine AA rfl ?_
 refine s.B6 (A:=[(q8,_),(q7,_)]) rfl rfl (nb rfl) fun H5 s=>?_
 have s:BE H [(q8,[.sl q7 0 0 (.ex 0)]),(q7,[]),(q2,[al,mo,to,li,at_,fo,.sl q8 0 1 (.ex 1)]),(q1,[al,mo,to,li,at_,fo])] H5:=s
 refine s.DN (q:=q2) (c:=[al,mo,to,li,at_,fo,.sl q8 0 1 (.ex 1)]) (.tail _ (.tail _ (.head _))) rfl ?_
 have hG:GL [(q7,[])] 1 (RE (.list B5) [[]]) 1 [.sl q7 0 0 (.ex 0)]:=GL.nil.add (c:=[.sl q7 0 0 (.ex 0)]) (c':=[.sim [] 0 true]) (.cons (FZ.row (.head _) (fun _=>.nil) (fun _=>rfl)) .nil) rfl rfl (fun k=>.cons (.sim .nil) .nil) ⟨[],rfl,fX B5⟩
 obtain⟨y,hy1,hy2⟩:=hG.Gs (.exn (r:=q8) (by decide))
 have hy:RS (.list (.list B5)) [[]] [y]:=RS.of (t:=.list B5) (l:=[[]]) (nb rfl) hy2
 have hw:=NI hr hy
 have sc:=CC
 refine s.fin (y:=.tup [.agg [al,mo,to,li,at_,fo,y],iv 0]) (fun H' k hR=>.tup (.cons (.agg ?_) (.cons (.low (.int _ _)) .nil))) ⟨_,rfl,hw⟩
 have hs:=CC k Bh _ _ hr
 have:Cd H' k ([al,mo,to,li,at_,fo]++[.sl q8 0 1 (.ex 1)]) ([al,mo,to,li,at_,fo]++[y]):=Cd.app (.low hs) (.cons (hy1 H' k fun x hx=>hR x (by
  rcases List.mem_cons.1 hx with rfl | hx
  ·exact .head _
  ·obtain rfl:=List.mem_singleton.1 hx
   exact .tail _ (.head _))) .nil)
 exact this
end Go.Proofs.YtdcdbabponelcaaGreatDoor
namespace Go.AL
variable [BY] {P:Program}
theorem UX {x:UInt8}{m:Nat}{K:AV→Prop}(ht:m≤x.toNat→K (.bool true)) (hf:¬m≤x.toNat→K (.bool false)):AB (.bin .geq (.cst (bv x)) (.cst (N .u8 m))) K:=by
 refine AA (v:=.bool (decide (m≤x.toNat))) ?_ ?_
 ·show some (AV.bool (decide ((m:Int)≤(x.toNat:Int))))=_
  congr 2;simp
 ·by_cases h:m≤x.toNat
  ·rw[decide_eq_true h];exact ht h
  ·rw[decide_eq_false h];exact hf h
theorem UY {x:UInt8}{m:Nat}{K:AV→Prop}(h:∀t,K (.bool t)):AB (.bin .eql (.cst (bv x)) (.cst (N .u8 m))) K:=AA rfl (h _)
theorem GX.head {z n:Nat}{Pr:Nat→List AV→Prop}{cs:List AV}(h:GX z Pr n cs) (hn:0<n):∃c0 r,cs=c0++r∧c0.length=z∧(∀k,DZ k c0)∧Pr 0 c0∧∀(c:List AV) (Pr':Nat→List AV→Prop),c.length=z→(∀k,DZ k c)→Pr' 0 c→(∀i c,0<i→Pr i c→Pr' i c)→GX z Pr' n (c++r):=by
 obtain⟨css,rfl,h2,h3⟩:=h.ex
 match css,h2,h3 with
 | [],h2,_=>simp at h2;omega
 | c0::css,h2,h3=>
  obtain⟨a1,a2,a3⟩:=h3 0 c0 rfl
  refine⟨c0,css.flatten,rfl,a1,a2,a3,fun c Pr' b1 b2 b3 b4=>⟨⟨c::css,rfl,by simpa using h2,fun i d hd=>?_⟩⟩⟩
  cases i with
  | zero=>cases hd;exact⟨b1,b2,b3⟩
  | succ i=>
   obtain⟨e1,e2,e3⟩:=h3 (i+1) d hd
   exact⟨e1,e2,b4 _ _ (by omega) e3⟩
end Go.AL
namespace Go.Proofs.YtdcdbabponelcaaGreatDoor
open Go Go.AL Tryz
variable [BY]
def dh (n k:Nat) (ok:Bool) (c:List AV):Prop:=if ok=true then Kr n k c else ZI n k c
def dg (m:Nat) (ok:Bool) (v:AV):Prop:=if ok=true then ZH m v else gB m v
def ia (n k m:Nat) (FA:Nat→Bool) (okF:Bool) (f l:AV):Prop:=1≤m∧m≤3∧dg m okF f∧FL 18 (fun i=>dh n k (FA i)) m l
theorem Z_ {n k:Nat}(hn:0<n):Kr n k jB:=by
 have hT:MQ n (.sim [I 0,N .u8 0] 1 true):=⟨1,by omega,⟨.inr ⟨[[iv 0,bv 0]],true,rfl,fun h=>by omega,rfl,fun i c hc=>by
  match i,hc with
  | 0,hc=>cases hc;exact⟨rfl,fun k=>.cons (.int _ _) (.cons (.int _ _) .nil),0,0,rfl,by omega,by omega,fun _=>rfl⟩
  | i+1,hc=>simp at hc⟩⟩⟩
 have hU:MQ n (.sim [.int .i64 (-1),N .u8 97] 1 false):=⟨1,by omega,⟨.inr ⟨[[iv (-1),bv 97]],false,rfl,fun h=>by omega,rfl,fun i c hc=>by
  match i,hc with
  | 0,hc=>cases hc;exact⟨rfl,fun k=>.cons (.int _ _) (.cons (.int _ _) .nil),-1,97,rfl,by omega,by omega,fun h=>by omega⟩
  | i+1,hc=>simp at hc⟩⟩⟩
 exact .isEq hT hU
set_option maxHeartbeats 2000000 in
theorem vt {H:AH}(hg:H.gl=BY.G){d:Bh.D}{c:List AV}{n k nf nl:Nat}{dd:UInt8}{F L:AV}(hr:RS Bh d c) (hd:jH d n k) (hn:0<n) (hF:FB nf F) (hL:LL 1 (fun _ c=>∃x m,c=[x]∧FB m x) nl L) :
  CP prog 13 [.agg c,.agg [bv dd,F,L]] H fun x=>∃f l m FA okF,x=.tup [f,l]∧ia n k m FA okF f l:=by
 obtain⟨al,mo,to,li,at_,fo,rfl,_,p1,p2,_⟩:=CR hr
 have hnk:=hd.nk
 have fm:FL 1 (RE .int (DI d.2.1)) (DI d.2.1).length mo:=p1.fl
 have ft:FL 1 (RE .int (DI d.2.2.1)) (DI d.2.2.1).length to:=p2.fl
 rw[hd.hn]at fm
 rw[hd.hk]at ft
 have hLL:∀{K:AV→Prop},K (iv (nl:Int))→AB (.len (.cst L)) K:=fun hK=>hL.len hK
 refine CP.of (tr ?_)
 unfold rJ
 try simp only[BU]
 refine(BE.start H).box rfl fun q2 H1 s=>s.box (c:=[bv dd,F,L]) (by
  rfl) fun q3 H2 s=>s.bs (out:=[]) rfl fun q4 H3 s=>?_
 obtain⟨B,hB⟩:∃B,B=[(q3,[bv dd,F,L]),(q2,[al,mo,to,li,at_,fo])]:=⟨_,rfl⟩
 have s:BE H ([(q4,[])]++B) H3:=by rw[hB];exact s
 have m3:∀{o:OL},(q3,[bv dd,F,L])∈o++B:=fun{o}=>by rw[hB];simp
 have m2:∀{o:OL},(q2,[al,mo,to,li,at_,fo])∈o++B:=fun{o}=>by rw[hB];simp
 let Iv:AV→AV→AV→AV→AH→Prop:=fun a b w e H'=>a=.ptr q2 0∧b=.ptr q3 0∧∃(i:Nat) (o:OL) (cs:List AV),e=iv (i:Int)∧i≤3∧BE H (o++B) H'∧Lv 18 o i cs w∧GX 18 (fun _=>Kr n k) i cs
 let μ:AV→AV→AV→AV→AH→Nat:=fun _ _ _ f _=>match f with
  | .int _ j=>(3-j).toNat
  | _=>0
 refine⟨Iv,μ,⟨rfl,rfl,0,_,[],rfl,by omega,s,.ex q4,.nil⟩,?_⟩
 clear s
 intro e H4 hI
 obtain⟨e1,e2,i,o,cs,e3,hi,s,hw,hG⟩:=(hI:Iv (e 2) (e 3) (e 6) (e 7) H4)
 have hmu:μ (e 2) (e 3) (e 6) (e 7) H4=((3:Int)-(i:Int)).toNat:=by rw[e3]
 show AB (.fieldAddr 2 (.cst (e 3))) _
 rw[e1,e2,e3]
 generalize e 6=w at hw
 have fin:AB (.len (.cst w)) fun v19=>AB (.bin .eql (.cst v19) (.cst (iv 0))) fun v20=>Dk v20 (fun(v21 v22:AV) (h23:AH)=>
   AB (.fieldAddr 1 (.cst v21)) fun v24=>AP (.load none (.cst v24)) h23 fun v25=>AB (.len (.cst v22)) fun v26=>AX prog 28 [v25,v26] h23 (yp (MP H fun x=>∃f l m FA okF,x=.tup [f,l]∧ia n k m FA okF f l)) fun v27 h27=>
   AB (.fieldAddr 0 (.cst v21)) fun v28=>AP (.load none (.cst v28)) h27 fun v29=>AB (.bin .geq (.cst v29) (.cst (N .u8 228))) fun v30=>Dk v30 (fun(v31 v32:AV) (h33:AH)=>MP H (fun x=>∃f l m FA okF,x=.tup [f,l]∧ia n k m FA okF f l) (.ret (.tup [v32,v31])) h33)
   (fun J31=>AB (.indexAddrS 18 (.cst v22) (.cst (iv 0))) fun v32=>AB (.fieldAddr 0 (.cst v32)) fun v33=>AW (.store 1 (.cst v33) (.cst (iv 6))) h27 fun _ h34=>J31 v22 v27 h34)
   (fun J31=>AB (.fieldAddr 0 (.cst v21)) fun v32=>AP (.load none (.cst v32)) h27 fun v33=>AB (.bin .geq (.cst v33) (.cst (N .u8 200))) fun v34=>Ag v34
    (AB (.len (.cst v22)) fun v35=>AB (.indexAddrS 3 (.cst v27) (.cst (iv 0))) fun v36=>AB (.fieldAddr 1 (.cst v36)) fun v37=>AW (.store 1 (.cst v37) (.cst v35)) h27 fun _ h38=>J31 v22 v27 h38)
    (J31 v22 v27 h27)))
   (fun J21=>AX prog 21 [(.str [97])] H4 (yp (MP H fun x=>∃f l m FA okF,x=.tup [f,l]∧ia n k m FA okF f l)) fun v22 h22=>AW (.buildSlice 18 1 (iv 0::(Av 6 .nils (iv 0::(Av 4 .nils (Av 4 (iv 0) ((.bool false)::(iv 0::[]))))))) [(0,18,(.cst v22))]) h22 fun v23 h23=>AW (.append 18 304 (.cst w) (.cst v23)) h23 fun v24 h24=>J21 (.ptr q3 0) v24 h24)
   (fun J21=>J21 (.ptr q3 0) w H4):=by
  refine hw.len (IV (Nb (fun J=>∀(m:Nat) (o:OL) (cs:List AV) (w:AV) (H':AH),1≤m→m≤3→BE H (o++B) H'→Lv 18 o m cs w→GX 18 (fun _=>Kr n k) m cs→J (.ptr q3 0) w H') (fun m o cs w H5 hm1 hm3 s hw hG=>?_) (fun ht J hJ=>?_) (fun hf J hJ=>?_)))
  ·refine AA rfl (s.ld (x:=F) m3 rfl (hw.len ?_))
   refine Df (iS hF (by omega) (by omega)) (fun f H6 hp=>?_) (fun v H' hp=>by obtain⟨_,_,_,_,_,_,e,_⟩:=hp;cases e)
   obtain⟨i',hi1,hi8,f',of,cf,e,hlf,sf,hgf⟩:=hp
   cases e
   have s:=s.join sf
   clear sf
   obtain⟨qa,rfl,hia,hlw⟩:=hw.idx (i:=0) (by omega)
   obtain⟨qf,rfl,hif,hlf'⟩:=hlf.idx (i:=0) (by omega)
   have s:BE H ([(qf,cf)]++(qa,cs)::B) H6:=s
   have mm3:∀{a b:Nat × List AV},(q3,[bv dd,F,L])∈[a]++b::B:=fun{a b}=>.tail _ (.tail _ (m3 (o:=[])))
   have fin2:∀(cf' ca':List AV) (FA:Nat→Bool) (okF:Bool) (H':AH) (Pf:Nat→List AV→Prop),BE H ([(qf,cf')]++(qa,ca')::B) H'→GX 3 Pf i' cf'→(∀y,FL 3 Pf i' y→dg m okF y)→GX 18 (fun i=>dh n k (FA i)) m ca'→MP H (fun x=>∃f l m FA okF,x=.tup [f,l]∧ia n k m FA okF f l) (.ret (.tup [f,w])) H':=fun cf' ca' FA okF H' Pf s gf hPf ga=>by
    obtain⟨ya,ya1,ya2⟩:=(ga.gl (R:=[])).Gs (hlw ca')
    obtain⟨yf,yf1,yf2⟩:=(gf.gl (R:=[])).Gs (hlf' cf')
    refine s.fin (y:=.tup [yf,ya]) (fun H'' k' hR=>.tup (.cons (yf1 H'' k' fun x hx=>hR x ?_) (.cons (ya1 H'' k' fun x hx=>hR x ?_) .nil))) ⟨yf,ya,m,FA,okF,rfl,hm1,hm3,hPf _ yf2,ya2⟩
    ·have hx:x∈[(qf,cf')]:=by simpa using hx
     obtain rfl:=List.mem_singleton.1 hx
     exact .head _
    ·have hx:x∈[(qa,ca')]:=by simpa using hx
     obtain rfl:=List.mem_singleton.1 hx
     exact .tail _ (.head _)
   have gaT:GX 18 (fun i=>dh n k ((fun _=>true) i)) m cs:=hG.mono fun i c _ hc=>hc
   have gfT:∀y,FL 3 (ZG m) i' y→dg m true y:=fun y hy=>⟨i',hi1,hi8,hy⟩
   refine AA rfl (s.ld (x:=bv dd) mm3 rfl (UX (fun hge=>CK ?_) (fun hge=>CL ?_)))
   ·obtain⟨c0,r,rfl,l0,_,hv0,hch⟩:=hG.head (by omega)
    obtain⟨a,t,rfl⟩:∃a t,c0=a::t:=by
     match c0,l0 with
     | a::t,_=>exact⟨a,t,rfl⟩
    have hvx:ZI n k (iv 6::t):=⟨a,t,hv0,rfl⟩
    have hsc:∀k',DZ k' (iv 6::t):=fun k'=>by
     cases hv0.sc k' with
     | cons _ h=>exact .cons (.int _ _) h
    refine AA (v:=.ptr qa 0) (hia 18) (AA rfl (s.B6 (vs:=[iv 6]) rfl rfl (by simp) fun H7 s=>?_))
    have e8:Bj ((a::t)++r) 0 [iv 6]=(iv 6::t)++r:=by rw[CQ (by simp)];rfl
    rw[e8]at s
    exact fin2 cf _ (fun i=>decide (i≠0)) true H7 _ s hgf gfT (hch _ _ hvx.len hsc (by show(if decide ((0:Nat)≠0)=true then _ else _);rw[if_neg (by decide)];exact hvx) (fun i c hi hc=>by show(if decide (i≠0)=true then _ else _);rw[if_pos (decide_eq_true (by omega))];exact hc))
   ·refine AA rfl (s.ld (x:=bv dd) mm3 rfl (UX (fun hge2=>Ai ?_) (fun hge2=>AZ ?_)))
    ·obtain⟨c0,r,rfl,l0,_,hv0,hch⟩:=hgf.head (by omega)
     obtain⟨kd,L0,R0,rfl,k1,k4,p1,p2,p3⟩:=hv0
     obtain rfl:kd=1:=by
      by_cases e1:kd=1
      ·exact e1
      by_cases e2:kd=2
      ·have:=p2 e2;omega
      have:=p3 (by omega);omega
     obtain⟨_,_,rfl⟩:=p1 rfl
     refine hw.len (AA (v:=.ptr qf 0) (hif 3) (AA rfl (s.B6 (A:=[]) (vs:=[iv (m:Int)]) rfl rfl (by simp) fun H7 s=>?_)))
     have e8:Bj ([iv 1,iv L0,iv 0]++r) 1 [iv (m:Int)]=[iv 1,iv (m:Int),iv 0]++r:=by rw[CQ (by simp)];rfl
     rw[e8]at s
     exact fin2 _ cs (fun _=>true) false H7 (fun i c=>(i=0→c=[iv 1,iv (m:Int),iv 0])∧(0<i→ZG m i c)) s (hch _ _ rfl (fun k=>.cons (.int _ _) (.cons (.int _ _) (.cons (.int _ _) .nil))) ⟨fun _=>rfl,fun h=>by omega⟩ (fun i c hi hc=>⟨fun h=>by omega,fun _=>hc⟩)) (fun y hy=>⟨i',hi1,hi8,hy⟩) gaT
    ·exact fin2 cf cs (fun _=>true) true H6 _ s hgf gfT gaT
  ·have h0:(i:Int)=0:=of_decide_eq_true ht
   obtain rfl:i=0:=by omega
   refine BK (vh (s.k.gl.trans hg)) fun x hx=>?_
   subst hx
   have hW:=Z_ (k:=k) hn
   refine s.app (k:=18) (c:=jB) hw hG.ln rfl rfl rfl (by omega) (by decide) fun o' v' H5 s hw'=>hJ 1 o' _ v' H5 (by omega) (by omega) s hw' (hG.Dw rfl (fun r=>hW.sc r) hW)
  ·have h0:¬(i:Int)=0:=of_decide_eq_false hf
   exact hJ i o cs w H4 (by omega) hi s hw hG
 refine AA rfl (s.ld (x:=L) m3 rfl (hLL (BT (fun hlt=>Aj ?_) (fun hlt=>Au ?_))))
 ·refine BT (fun hlt3=>AA rfl (Ai ?_)) (fun hlt3=>AA rfl (AZ fin))
  refine AA rfl (s.ld (x:=L) m3 rfl (hL.Ef (by omega) fun x _ hx=>?_))
  obtain⟨x',m',ex,hxb⟩:=hx
  cases ex
  refine AA rfl (s.ld (x:=mo) m2 rfl (fm.len (AA rfl (s.ld (x:=to) m2 rfl (ft.len ?_)))))
  refine BK (o_ (s.k.gl.trans hg) hxb (by omega) (by omega)) fun y hy=>?_
  obtain⟨c',rfl,hc'⟩:=hy
  refine Hb (s.app (k:=18) (c:=c') hw hG.ln rfl hc'.len rfl (by omega) (by decide) fun o' v' H5 s hw'=>BA (a:=(i:Int)) (b:=1) ⟨by omega,by omega⟩ ⟨⟨rfl,rfl,i+1,o',_,rfl,by omega,s,hw',hG.Dw hc'.len (fun r=>hc'.sc r) hc'⟩,?_⟩)
  show _<μ (e 2) (e 3) (e 6) (e 7) H4
  rw[hmu]
  show((3:Int)-((i:Int)+1)).toNat<((3:Int)-(i:Int)).toNat
  omega
 ·exact AA rfl (AZ fin)
end Go.Proofs.YtdcdbabponelcaaGreatDoor
namespace Go.AL
variable [BY] {P:Program}
theorem SD {h:AH}{J:PG}{A:PG→Prop}(hA:A J):N1 false (.bool false) h J A:=⟨fun _=>hA,fun h=>absurd rfl h⟩
theorem LL.fl {z n:Nat}{Pr:Nat→List AV→Prop}{v:AV}(h:LL z Pr n v){i:Nat}(hi:i<n):∃v',FL z Pr n v'∧Ap (.indexAddrS z (.cst v) (.cst (iv (i:Int)))) emp=Ap (.indexAddrS z (.cst v') (.cst (iv (i:Int)))) emp:=by
 rcases h.ex with⟨rfl,_⟩ | ⟨css,b,rfl,h3,h4⟩
 ·omega
 ·have h9:(0:Int)≤(i:Int)∧(i:Int)<(n:Int):=by omega
  exact⟨.sim css.flatten n true,⟨.inr ⟨css,true,rfl,fun _=>rfl,h3,h4⟩⟩,by simp[Ap,Ak.ev,E_,h9]⟩
theorem LL.IG {z n:Nat}{Pr:Nat→List AV→Prop}{v:AV}(h:LL z Pr n v){i:Nat}(hi:i<n){H:AH}{K:AV→Prop}(hK:∀c,c.length=z→(∀k,DZ k c)→Pr i c→K (.agg c)) :
  AB (.indexAddrS z (.cst v) (.cst (iv (i:Int)))) fun v2=>AP (.load (some z) (.cst v2)) H K:=by
 obtain⟨v',hf,e⟩:=h.fl hi
 have:=hf.IG hi (H:=H) (K:=K) hK
 unfold AB at this ⊢
 rw[e];exact this
theorem LL.lD {z n:Nat}{Pr:Nat→List AV→Prop}{v:AV}(h:LL z Pr n v){i:Nat}(hi:i<n){H:AH}{K:AV→Prop}(hK:∀c,Pr i c→∃x,c[0]?=some x∧K x) :
  AB (.indexAddrS z (.cst v) (.cst (iv (i:Int)))) fun a=>AB (.fieldAddr 0 (.cst a)) fun b=>AP (.load none (.cst b)) H K:=by
 obtain⟨v',hf,e⟩:=h.fl hi
 obtain⟨c,_,hc,rd⟩:=hf.fS hi
 obtain⟨x,hx,hk⟩:=hK c hc
 have:=rd 0 x H K hx hk
 unfold AB at this ⊢
 rw[e];exact this
theorem Hp {c vs:List AV}(h:vs.length=c.length):Bj c 0 vs=vs:=by
 rw[CQ (by omega)];simp[List.drop_of_length_le (by omega:c.length≤vs.length)]
end Go.AL
namespace Go.Proofs.YtdcdbabponelcaaGreatDoor
open Go Go.AL Tryz
variable [BY]
theorem BE.kZ {H0 H:AH}{L:OL}{d:Bh.D}{ls:List (List As)}{r:Nat}{e:Int}{g:FuncId}{ar:List AV}{Kp K:AV→AH→Prop}(hC:An prog g ar H (G4 H0 L d ls r (iv e)))
  (hK:∀S H',BE H0 (S++L) H'→L8 d ls r S→K (iv e) H'):AX prog g ar H Kp K:=
 Df hC (fun v H' hp=>by obtain⟨e,S,s,hS⟩:=hp;cases e;exact hK S H' s hS) (fun v H' hp=>by obtain⟨e,_⟩:=hp;cases e)
section
variable {H0 H:AH}{S L:OL}{d:Bh.D}{ls:List (List As)}{r:Nat}
theorem vA (s:BE H0 (S++L) H) (hS:L8 d ls r S) (hb:ls.length≤1000):An prog 9 [.ptr r 0] H (G4 H0 L d (MD ls).2 r (iv (MD ls).1)):=by
 have h:=C9 s hS hb
 by_cases hc:40<ls.length
 ·rw[show MD ls=(2,ls)from if_pos hc]
  exact Eq.mp (congrArg (An prog 9 [.ptr r 0] H) (if_pos hc)) h
 ·rw[show MD ls=(0,ls++[[]])from if_neg hc]
  exact Eq.mp (congrArg (An prog 9 [.ptr r 0] H) (if_neg hc)) h
theorem pS (s:BE H0 (S++L) H) (hS:L8 d ls r S) (hb:ls.length≤1000) (h0:0<ls.length):An prog 11 [.ptr r 0] H (G4 H0 L d (ME ls).2 r (iv (ME ls).1)):=by
 have h:=vw s hS hb
 by_cases hc:ls.length=1
 ·rw[show ME ls=(7,ls)from if_pos (by omega)]
  exact Eq.mp (congrArg (An prog 11 [.ptr r 0] H) (if_pos hc)) h
 ·rw[show ME ls=(0,ls.dropLast)from if_neg (by omega)]
  exact Eq.mp (congrArg (An prog 11 [.ptr r 0] H) (if_neg hc)) h
end
structure oB (H:AH) (d:Bh.D) (r q16:Nat) (L:OL) (ls:List (List As)) (H':AH):Prop where
 ex:∃S C7,BE H (S++(q16,C7)::L) H'∧L8 d ls r S∧RS GO (d,ls) C7∧L9 d ls∧0<ls.length
set_option maxHeartbeats 4000000 in
theorem C3 [SB] {H:AH}(hg:H.gl=BY.G) {v scr:AV}{sh:UInt8}{ns:Nat}(hv:aB sh v) (hs:LL 3 (fun _ c=>∃dd F L nf nl,c=[bv dd,F,L]∧FB nf F∧LL 1 (fun _ c=>∃x m,c=[x]∧FB m x) nl L) ns scr) :
  CP prog 3 [v,scr] H fun x=>x=.bool true:=by
 have hv0:=hv
 obtain⟨lits,atoms,nodes,nl,na,nn,rfl,_⟩:=hv0
 refine CP.of (T3 ?_)
 unfold G3
 try simp only[BU]
 have hg1:∀{H':AH} {L:OL},BE H L H'→H'.gl=BY.G:=fun s=>s.k.gl.trans hg
 refine(BE.start H).box rfl fun q2 H1 s=>?_
 refine BK (P5 (hg1 s)) fun x hx=>?_
 subst hx
 refine s.DN (c:=[bv sh,lits,atoms,nodes]) (.head _) rfl ?_
 refine BK (C6 (hg1 s) hv) fun x hx=>?_
 obtain⟨c,rfl,hc⟩:=hx
 obtain⟨d,hd,hr,hi,a1,a2,a3⟩:=hc.ri
 have hc6:c.length=6:=hc.len
 refine s.alloc fun q6 H2 s=>s.Cr hc6 rfl fun H3 s=>s.DN (.head _) hc6 ?_
 refine Df (C7 (fun H' hH=>ow (hH.trans (hg1 s)) hc) hr) (fun w H4 hp=>?_) (fun w H4 hp=>by obtain⟨_,_,_,_,e,_⟩:=hp;cases e)
 obtain⟨hk,r,ql,c',e,g1,g2,g3,g4,g5,hr'⟩:=hp
 cases e
 obtain⟨b0,b1,b2,b3,b4,b5,rfl,_⟩:=CR hr'
 have s2:BE H3 [(r,[b0,b1,b2,b3,b4,b5,.sl ql 0 1 (.ex 1)]),(ql,[.nils])] H4:=by
  refine⟨hk,fun x hx=>?_,?_⟩
  ·rcases List.mem_cons.1 hx with rfl | hx
   ·exact⟨by show H3.next≤r;omega,g3,g4⟩
   ·obtain rfl:=List.mem_singleton.1 hx
    exact⟨g1,by show ql<H4.next;omega,g5⟩
  ·show[r,ql].Nodup
   simp;omega
 have s:=s.join s2
 clear s2 hk g1 g2 g3 g4 g5
 have hS:L8 d [[]] r [(r,[b0,b1,b2,b3,b4,b5,.sl ql 0 1 (.ex 1)]),(ql,[.nils])]:=
  ⟨b0,b1,b2,b3,b4,b5,ql,1,.ex 1,[.nils],[],[],rfl,hr',Jg.nil.snoc (o:=[]) ⟨[],.nil,.nil⟩,rfl,by decide,.inl rfl⟩
 refine AA rfl (AA rfl ?_)
 refine s.DN (q:=q6) (c:=c) (List.mem_append_right _ (.head _)) hc6 (BK (C8 (hg1 s) hc hr) fun x hx=>?_)
 obtain⟨C7,rfl,hR⟩:=hx
 have l7:C7.length=7:=CM _ _ _ hR
 refine AA rfl (AA rfl ?_)
 refine s.alloc fun q16 H5 s=>s.Cr l7 rfl fun H6 s=>?_
 refine AA rfl (Af (DB rfl (AA rfl (Af (DB rfl (AA rfl (AZ ?_)))))))
 obtain⟨L0,hL0⟩:∃L0,L0=[(q6,c),(q2,[bv sh,lits,atoms,nodes])]:=⟨_,rfl⟩
 have hm6:∀{A:OL} {x:Nat × List AV},(q6,c)∈A++x::L0:=fun{A x}=>by rw[hL0];simp
 have hst:oB H d r q16 L0 [[]] H6:=by
  refine⟨_,C7,?_,hS,hR,L9.start a1 a2 a3,by decide⟩
  rw[hL0]
  exact s.perm (List.perm_middle (l₁:=[(r,_),(ql,_)]))
 clear s hS hR
 let Iv:AV→AV→AV→AV→AV→AH→Prop:=fun a b e f g H'=>a=scr∧b=.ptr q6 0∧e=.ptr r 0∧f=.ptr q16 0∧∃(i:Nat) (ls:List (List As)),g=iv (i:Int)∧i≤60∧oB H d r q16 L0 ls H'
 let μ:AV→AV→AV→AV→AV→AH→Nat:=fun _ _ _ _ g _=>match g with
  | .int _ j=>(60-j).toNat
  | _=>0
 refine⟨Iv,μ,⟨rfl,rfl,rfl,rfl,0,_,rfl,by omega,hst⟩,?_⟩
 clear hst
 intro e H7 hI
 obtain⟨e1,e2,e3,e4,i,ls,e5,hi60,hst⟩:=(hI:Iv (e 1) (e 6) (e 7) (e 9) (e 11) H7)
 have hmu:μ (e 1) (e 6) (e 7) (e 9) (e 11) H7=((60:Int)-(i:Int)).toNat:=by rw[e5]
 show AB (.len (.cst (e 1))) _
 rw[e1,e2,e3,e4,e5]
 obtain⟨S,C7,s,hS,hR,hb,hpos⟩:=hst.ex
 have hlv:=hb.lv
 have exit:MP H (fun x=>x=.bool true) (.ret (.bool true)) H7:=s.B9 (fun k=>.bool _) rfl
 refine hs.len (BT (fun hlt=>Aj ?_) (fun hlt=>Au (AA rfl (AZ exit))))
 refine BT (fun hlt6=>AA rfl (Ai ?_)) (fun hlt6=>AA rfl (AZ exit))
 clear exit
 refine hs.lD (by omega) fun cc hcc=>?_
 obtain⟨dd,F,L,nf,nl,rfl,hF,hL⟩:=hcc
 refine⟨bv dd,rfl,Vc (UY fun t=>?_)⟩
 have l7:C7.length=7:=CM _ _ _ hR
 refine Nb (fun J=>∀(e':Int) (ls':List (List As)) (H':AH),oB H d r q16 L0 ls' H'→J scr (.ptr q6 0) (.ptr r 0) (iv e') (.ptr q16 0) (iv e') (iv (i:Int)) H') (fun e' ls' H8 hst'=>?_) (fun ht J hJ=>?_) (fun hf J hJ=>?_)
 ·obtain⟨S',C',s',hS',hR',hb',hpos'⟩:=hst'.ex
  have l7':C'.length=7:=CM _ _ _ hR'
  have n1:=hb'.na
  have n2:=hb'.run
  have n3:=hb'.lv
  refine DB rfl (SD (SD (s'.DN (q:=q16) (c:=C') (List.mem_append_right _ (.head _)) l7' (SD ?_))))
  refine BK (vj (s'.old.sub (List.subset_append_left _ _)) hS' (by omega) n2 (by omega) hb'.len (fun x hx=>(hb'.one x hx).ok)) fun x hx=>⟨⟨s'.fD (q:=q16) (c:=C') (List.mem_append_right _ (.head _)) (by rw[List.drop_zero,List.take_of_length_le (by omega)]) (by omega),trivial⟩,?_⟩
  obtain⟨p1,rfl,hp1⟩:=hx
  refine SD (BK (rh hR' hb') fun x hx=>⟨trivial,?_⟩)
  obtain⟨p2,rfl,hp2⟩:=hx
  refine SD (BK (vn hp1 hp2 (Vv hi hb')) fun x hx=>⟨trivial,?_⟩)
  subst hx
  refine SD (AA rfl (AA rfl (AZ (BA (a:=(i:Int)) (b:=1) ⟨by omega,by omega⟩ ⟨⟨rfl,rfl,rfl,rfl,i+1,ls',rfl,by omega,hst'⟩,?_⟩))))
  show _<μ (e 1) (e 6) (e 7) (e 9) (e 11) H7
  rw[hmu]
  show((60:Int)-((i:Int)+1)).toNat<((60:Int)-(i:Int)).toNat
  omega
 ·refine BE.kZ (vA s hS (by omega)) fun S' H8 s hS'=>?_
  refine s.DN (q:=q16) (c:=C7) (List.mem_append_right _ (.head _)) l7 (BK (vz hR (by omega)) fun x hx=>?_)
  obtain⟨C',rfl,hR'⟩:=hx
  have l7':C'.length=7:=CM _ _ _ hR'
  refine AA rfl (AA rfl (s.B6 rfl l7' (by omega) fun H9 s=>hJ _ (MD ls).2 H9 ⟨S',C',by rw[Hp (by omega)]at s;exact s,hS',hR',?_,?_⟩))
  ·unfold MD
   split
   ·exact hb
   ·rename_i hh;exact hb.push hh
  ·unfold MD
   split
   ·exact hpos
   ·simp
 ·refine UY fun t2=>?_
  cases t2 with
  | true=>
   refine Ai (BE.kZ (pS s hS (by omega) hpos) fun S' H8 s hS'=>?_)
   refine s.DN (q:=q16) (c:=C7) (List.mem_append_right _ (.head _)) l7 (BK (vu hR (by omega)) fun x hx=>?_)
   obtain⟨C',rfl,hR'⟩:=hx
   have l7':C'.length=7:=CM _ _ _ hR'
   refine AA rfl (AA rfl (s.B6 rfl l7' (by omega) fun H9 s=>hJ _ (ME ls).2 H9 ⟨S',C',by rw[Hp (by omega)]at s;exact s,hS',hR',?_,?_⟩))
   ·unfold ME
    split
    ·exact hb
    ·exact hb.pop
   ·unfold ME
    split
    ·exact hpos
    ·simp;omega
  | false=>
   refine AZ (s.DN (q:=q6) (c:=c) hm6 hc6 (hs.IG (by omega) fun cc _ _ hcc=>?_))
   obtain⟨lE,F2,L2,nf2,nl2,rfl,hF2,hL2⟩:=hcc
   refine BK (vt (hg1 s) hr hd (by omega) hF2 hL2) fun x hx=>?_
   obtain⟨f,l,m,FA,okF,rfl,hm1,hm3,hf,hl⟩:=hx
   refine AA rfl (AA rfl ?_)
   have hnk:1+sh.toNat % 2+sh.toNat / 2 % 2≤100:=by omega
   obtain⟨fd,f1,f8,hfr,hfq⟩:∃fd:List Nd,1≤fd.length∧fd.length≤8∧RS (.list BX) fd [f]∧∀x∈fd,Ui x:=by
    unfold dg at hf
    split at hf
    ·exact hf.ri (by omega)
    ·exact hf.ri (by omega)
   obtain⟨ld,hld,hlr,hli⟩:=hl.Yz (t:=BR) rfl (by omega) fun j a ha=>by
    unfold dh at ha
    split at ha
    ·exact ha.ri hnk
    ·exact ha.ri hnk
   have hld:ld.length=m:=hld
   have hasq:dp (fd,ld):=⟨f1,hfq,hli⟩
   obtain⟨ls0,l0,rfl⟩:∃ls0 l0,ls=ls0++[l0]:=by
    have hne:ls≠[]:=fun e=>by subst e;simp at hpos
    exact⟨ls.dropLast,ls.getLast hne,(List.dropLast_concat_getLast hne).symm⟩
   have h64:FL 18 (fun j a=>∀H:AH,H.gl=BY.G→CP prog 64 [.agg a,iv ((1+sh.toNat % 2:Nat):Int),iv ((sh.toNat / 2 % 2:Nat):Int)] H fun x=>x=.bool (FA j)) ld.length l:=by
    rw[hld]
    refine hl.mono fun j a _ ha H hH=>?_
    unfold dh at ha
    cases ho:FA j with
    | true=>rw[ho,if_pos rfl]at ha;exact oZ hH (by omega) (by omega) ha
    | false=>rw[ho,if_neg (by decide)]at ha;exact oX ha
   have h38:FL 18 (fun j a=>∀H:AH,H.gl=BY.G→CP prog 38 [.agg a,iv ((1+sh.toNat % 2:Nat):Int),iv ((sh.toNat / 2 % 2:Nat):Int)] H fun x=>x=.bool (FA j)) ld.length l:=by
    rw[hld]
    refine hl.mono fun j a _ ha H hH=>?_
    unfold dh at ha
    cases ho:FA j with
    | true=>rw[ho,if_pos rfl]at ha;exact oh hH (by omega) (by omega) ha
    | false=>rw[ho,if_neg (by decide)]at ha;exact od ha
   have h65:∀H:AH,H.gl=BY.G→CP prog 65 [f,iv (ld.length:Int)] H fun x=>x=.bool okF:=fun H hH=>by
    rw[hld]
    unfold dg at hf
    cases okF with
    | true=>rw[if_pos rfl]at hf;exact rY (by omega) hf
    | false=>rw[if_neg (by decide)]at hf;exact oW (by omega) hf
   have h37:∀H:AH,H.gl=BY.G→CP prog 37 [f,iv (ld.length:Int)] H fun x=>x=.bool okF:=fun H hH=>by
    rw[hld]
    unfold dg at hf
    cases okF with
    | true=>rw[if_pos rfl]at hf;exact re (by omega) hf
    | false=>rw[if_neg (by decide)]at hf;exact oi (by omega) hf
   obtain⟨ok,hok⟩:∃ok:Bool,ok=true↔(∀j,j<ld.length→FA j=true)∧okF=true:=by
    by_cases h:(∀j,j<ld.length→FA j=true)∧okF=true
    ·exact⟨true,fun _=>h,fun _=>rfl⟩
    ·exact⟨false,fun h'=>(by cases h'),fun h'=>absurd h' h⟩
   have hC14:=vq hg s hS hd hb hfr hlr h64 h65 ok hok
   rw[Yr]at hC14
   refine BE.kZ hC14 fun S' H8 s hS'=>?_
   refine s.DN (q:=q16) (c:=C7) (List.mem_append_right _ (.head _)) l7 (BK (vo (hg1 s) hR hb hd hfr hlr h38 h37 ok hok) fun x hx=>?_)
   obtain⟨C',rfl,hR'⟩:=hx
   have l7':C'.length=7:=CM _ _ _ hR'
   refine AA rfl (AA rfl (s.B6 rfl l7' (by omega) fun H9 s=>hJ _ (Ji d ls0 l0 fd ld ok).2 H9 ⟨S',C',by rw[Hp (by omega)]at s;exact s,hS',hR',?_,?_⟩))
   ·unfold Ji
    split
    ·exact hb
    ·rename_i hh
     split
     ·exact hb.add hasq hh
     ·exact hb
   ·unfold Ji
    split
    ·simp
    ·split<;>simp
end Go.Proofs.YtdcdbabponelcaaGreatDoor
