import Derived.Test.YtdcdbabponelcaaGreatDoorZc02
import Derived.Test.YtdcdbabponelcaaGreatDoorZg02
/-
  copies; new solvers; comparisons.
-/
set_option linter.unusedSectionVars false
set_option linter.unusedVariables false
set_option linter.unusedSimpArgs false
namespace Go.AL
variable [BY] {P:Program}
def Y0 {α:Type}(rd:List AV→Option α) (z:Nat):Nat→List AV→Option (List α)
 | 0,cs=>match cs with
  | []=>some []
  | _::_=>none
 | n+1,cs=>match rd (cs.take z),Y0 rd z n (cs.drop z)with
  | some x,some l=>some (x::l)
  | _,_=>none
theorem Md {α:Type}{rd:List AV→Option α}{z:Nat}:∀{n:Nat}{cs:List AV}{l:List α},Y0 rd z n cs=some l→∃css:List (List AV),cs=css.flatten∧css.length=n∧l.length=n∧∀(i:Nat) (c:List AV),css[i]?=some c→∃x:α,l[i]?=some x∧rd c=some x
 | 0,cs,l,h=>by
  cases cs with
  | nil=>cases h;exact⟨[],rfl,rfl,rfl,fun i c h=>by simp at h⟩
  | cons _ _=>cases h
 | n+1,cs,l,h=>by
  unfold Y0 at h
  split at h
  ·rename_i x l' h1 h2
   cases h
   obtain⟨css,e1,e2,e3,e4⟩:=Md h2
   refine⟨cs.take z::css,by rw[List.flatten_cons,←e1,List.take_append_drop],by simp[e2],by simp[e3],fun i c hc=>?_⟩
   cases i with
   | zero=>cases hc;exact⟨x,rfl,h1⟩
   | succ i=>simpa using e4 i c (by simpa using hc)
  ·cases h
def PL:(t:Tw)→List AV→Option t.D
 | .int,c=>match c with
  | [.int .i64 n]=>some n
  | _=>none
 | .byte,c=>match c with
  | [.int .u8 (.ofNat n)]=>if n<256 then some (UInt8.ofNat n)else none
  | _=>none
 | .bool,c=>match c with
  | [.bool b]=>some b
  | _=>none
 | .word,c=>match c with
  | [.int .u64 (.ofNat n)]=>some n
  | _=>none
 | .list t,c=>match c with
  | [.nils]=>some []
  | [.sim cs n ex]=>if n≤100000∧(n=0→ex=true)then Y0 (PL t) (tz t) n cs else none
  | _=>none
 | .pair a b,c=>match PL a (c.take (tz a)),PL b (c.drop (tz a))with
  | some x,some y=>some (x,y)
  | _,_=>none
theorem Fe:∀(t:Tw) (c:List AV) (d:t.D),PL t c=some d→RS t d c
 | .int,c,d,h=>by
  unfold PL at h
  split at h<;>(try cases h;done)
  cases h;rfl
 | .byte,c,d,h=>by
  unfold PL at h
  split at h<;>(try cases h;done)
  split at h<;>(try cases h;done)
  rename_i n hn
  cases h
  show[AV.int .u8 (Int.ofNat n)]=[bv (UInt8.ofNat n)]
  have:(UInt8.ofNat n).toNat=n:=by simp;omega
  unfold bv
  rw[this];rfl
 | .bool,c,d,h=>by
  unfold PL at h
  split at h<;>(try cases h;done)
  cases h;rfl
 | .word,c,d,h=>by
  unfold PL at h
  split at h<;>(try cases h;done)
  cases h;rfl
 | .list t,c,d,h=>by
  unfold PL at h
  split at h<;>(try cases h;done)
  ·cases h;exact RS.of (l:=[]) (by simp) .nil
  ·rename_i cs n ex
   have hc:n≤100000∧(n=0→ex=true):=Classical.byContradiction fun hc=>by
    have e:(if n≤100000∧(n=0→ex=true)then Y0 (PL t) (tz t) n cs else none)=none:=if_neg hc
    have h':(if n≤100000∧(n=0→ex=true)then Y0 (PL t) (tz t) n cs else none)=some d:=h
    rw[e]at h';cases h'
   have h:Y0 (PL t) (tz t) n cs=some d:=by
    have h':(if n≤100000∧(n=0→ex=true)then Y0 (PL t) (tz t) n cs else none)=some d:=h
    rw[if_pos hc]at h';exact h'
   obtain⟨css,e1,e2,e3,e4⟩:=Md h
   have e3:(DI d).length=n:=e3
   refine⟨_,rfl,by omega,⟨.inr ⟨css,ex,by rw[e1,e3],fun h0=>hc.2 (by omega),by omega,fun i c hc=>?_⟩⟩⟩
   obtain⟨x,hx,hr⟩:=e4 i c hc
   have hr:=Fe t c x hr
   exact⟨CM t x c hr,fun k=>CC k t x c hr,x,hx,hr⟩
 | .pair a b,c,d,h=>by
  unfold PL at h
  split at h<;>(try cases h;done)
  rename_i x y h1 h2
  cases h
  exact⟨c.take (tz a),c.drop (tz a),(List.take_append_drop _ _).symm,Fe a _ x h1,Fe b _ y h2⟩
end Go.AL
namespace Go.Proofs.YtdcdbabponelcaaGreatDoor
open Go Go.AL Tryz
variable [BY]
abbrev DK:Tw:=.pair .int .byte
abbrev C0:Tw:=.pair .word (.pair .word (.pair .word .word))
abbrev HS:Tw:=.pair (.list C0) (.pair (.list (.list .int)) (.list .bool))
abbrev kW:Tw:=.pair (.list .int) .int
abbrev Hl:Tw:=.pair .bool .byte
abbrev D3:Tw:=.pair .int (.list Hl)
abbrev EW:Tw:=.pair (.list C0) (.pair (.list (.list D3)) (.pair (.list .bool) (.list (.list .byte))))
abbrev GW:Tw:=.pair .int (.pair .int (.pair .int (.pair .int .bool)))
abbrev BR:Tw:=.pair .int (.pair (.list DK) (.pair (.list DK) (.pair HS (.pair kW (.pair EW (.pair GW .int))))))
abbrev F3:Tw:=.pair BR .bool
abbrev BX:Tw:=.pair .int (.pair .int .int)
abbrev Bh:Tw:=.pair (.list .byte) (.pair (.list .int) (.pair (.list .int) (.pair (.list F3) (.pair (.list BR) (.list (.list BX))))))
section
variable {H:AH}{v:AV}
theorem oV {l:(Tw.list .byte).D}(h:RS (.list .byte) l [v]):CP prog 66 [v] H fun x=>RS (.list .byte) l [x]:=CP.of (tM (Ew (z:=1) (b:=1) rfl h (by decide)))
theorem dn {l:(Tw.list .int).D}(h:RS (.list .int) l [v]):CP prog 67 [v] H fun x=>RS (.list .int) l [x]:=CP.of (tL (Ew (z:=1) (b:=8) rfl h (by decide)))
theorem rW {l:(Tw.list DK).D}(h:RS (.list DK) l [v]):CP prog 72 [v] H fun x=>RS (.list DK) l [x]:=CP.of (tI (Ew (z:=2) (b:=16) rfl h (by decide)))
theorem iY {l:(Tw.list C0).D}(h:RS (.list C0) l [v]):CP prog 122 [v] H fun x=>RS (.list C0) l [x]:=CP.of (lr (Ew (z:=4) (b:=32) rfl h (by decide)))
theorem iX {l:(Tw.list .bool).D}(h:RS (.list .bool) l [v]):CP prog 124 [v] H fun x=>RS (.list .bool) l [x]:=CP.of (lp (Ew (z:=1) (b:=1) rfl h (by decide)))
theorem pN {l:(Tw.list Hl).D}(h:RS (.list Hl) l [v]):CP prog 126 [v] H fun x=>RS (.list Hl) l [x]:=CP.of (lh (Ew (z:=2) (b:=2) rfl h (by decide)))
theorem oq {l:(Tw.list BX).D}(h:RS (.list BX) l [v]):CP prog 34 [v] H fun x=>RS (.list BX) l [x]:=CP.of (qM (Ew (z:=3) (b:=24) rfl h (by decide)))
theorem vO {l:(Tw.list (.list BX)).D}(h:RS (.list (.list BX)) l [v]):CP prog 71 [v,.fn (.func 34) [] []] H fun x=>RS (.list (.list BX)) l [x]:=CP.of (qG (Ix (b:=24) rfl h (by decide) fun _ _ _ _ h=>oq h))
theorem pP {l:(Tw.list (.list .int)).D}(h:RS (.list (.list .int)) l [v]):CP prog 123 [v,.fn (.func 67) [] []] H fun x=>RS (.list (.list .int)) l [x]:=CP.of (lq (Ix (b:=24) rfl h (by decide) fun _ _ _ _ h=>dn h))
theorem vB {l:(Tw.list (.list .byte)).D}(h:RS (.list (.list .byte)) l [v]):CP prog 95 [v,.fn (.func 66) [] []] H fun x=>RS (.list (.list .byte)) l [x]:=CP.of (su (Ix (b:=24) rfl h (by decide) fun _ _ _ _ h=>oV h))
end
theorem RS.one {t:Tw}{d:(Tw.list t).D}{c:List AV}(h:RS (.list t) d c):∃v,c=[v]:=by obtain⟨v,h,_⟩:=h;exact⟨v,h⟩
theorem RS.cell {t:Tw}{d:(Tw.list t).D}{v:AV}(h:RS (.list t) d [v]):v.cellsOf=some [v]:=(RS.fl h).one
theorem pO {H:AH}{d:D3.D}{c:List AV}(h:RS D3 d c):CP prog 125 [.agg c] H fun x=>∃c',x=.agg c'∧RS D3 d c':=by
 obtain⟨c1,c2,rfl,h1,h2⟩:=h
 obtain⟨v,rfl⟩:=RS.one h2
 have h1:c1=[iv d.1]:=h1
 subst h1
 refine CP.of (lj ?_)
 unfold gR
 try simp only[BU]
 refine(BE.start H).box rfl fun q H1 s=>s.alloc fun q2 H2 s=>?_
 refine AA rfl (s.ld (x:=iv d.1) (.tail _ (.head _)) rfl ?_)
 refine AA rfl (s.ld (x:=v) (.tail _ (.head _)) rfl ?_)
 refine BK (pN h2) fun x hx=>⟨⟨s.Ei (.tail _ (.head _)) rfl,trivial⟩,?_⟩
 have hr:RS D3 d ([iv d.1]++[x]):=⟨[iv d.1],[x],rfl,rfl,hx⟩
 refine AA (v:=.agg [iv d.1,x]) (by
  have:=RS.cell hx
  simp[Ap,B2,Ak.ev,this]
  rfl) (s.Cr rfl rfl fun H3 s=>⟨trivial,s.DN (.head _) rfl (s.B9 (fun k=>.agg (CC k D3 d _ hr)) ⟨_,rfl,hr⟩)⟩)
theorem pL {H:AH}{v:AV}{l:(Tw.list D3).D}(h:RS (.list D3) l [v]):CP prog 128 [v,.fn (.func 125) [] []] H fun x=>RS (.list D3) l [x]:=
 CP.of (lb (Lf (z:=2) (b:=32) (zz:=[I 0,.nils]) rfl rfl h (by decide) fun _ _ _ _ h=>pO h))
theorem pM {H:AH}{v:AV}{l:(Tw.list D3).D}{q:Nat}(hq:H.get q=some (.cells [.fn (.func 125) [] []])) (h:RS (.list D3) l [v]):CP prog 127 [v,.ptr q 0] H fun x=>RS (.list D3) l [x]:=by
 refine CP.of (lg ?_)
 unfold gQ
 refine Cx (v:=.fn (.func 125) [] []) (by simp[Ba,Cm,Ak.ev,AH.cells?,hq,apart]) ?_
 refine BK (pL h) fun x hx=>.same (fun k=>by cases CC k _ _ _ hx with | cons a _=>exact a) hx
theorem pK {H:AH}{v:AV}{l:(Tw.list (.list D3)).D}{q:Nat}(hlt:q<H.next) (hq:H.get q=some (.cells [.fn (.func 125) [] []])) (h:RS (.list (.list D3)) l [v]):CP prog 129 [v,.fn (.func 127) [] [.ptr q 0]] H fun x=>RS (.list (.list D3)) l [x]:=
 CP.of (lZ (Ix (b:=24) rfl h (by decide) fun _ _ H' hk h=>pM (by rw[hk.get q hlt];exact hq) h))
theorem vN {H:AH}{d:HS.D}{c:List AV}(h:RS HS d c):CP prog 73 [.agg c] H fun x=>∃c',x=.agg c'∧RS HS d c':=by
 obtain⟨c1,c2,rfl,h1,c3,c4,rfl,h2,h3⟩:=h
 obtain⟨v1,rfl⟩:=RS.one h1
 obtain⟨v2,rfl⟩:=RS.one h2
 obtain⟨v3,rfl⟩:=RS.one h3
 refine CP.of (tH ?_)
 unfold qg
 try simp only[BU]
 refine(BE.start H).box rfl fun q H1 s=>s.alloc fun q2 H2 s=>?_
 refine AA rfl (s.ld (x:=v1) (.tail _ (.head _)) rfl ?_)
 refine AA rfl (s.ld (x:=v2) (.tail _ (.head _)) rfl ?_)
 refine AA rfl (s.ld (x:=v3) (.tail _ (.head _)) rfl ?_)
 refine BK (iY h1) fun x1 x1'=>⟨⟨s.Ei (.tail _ (.head _)) rfl,s.Ei (.tail _ (.head _)) rfl,trivial⟩,?_⟩
 refine BK (pP h2) fun x2 x2'=>⟨⟨s.Ei (.tail _ (.head _)) rfl,trivial⟩,?_⟩
 refine BK (iX h3) fun x3 x3'=>⟨trivial,?_⟩
 have hr:RS HS d [x1,x2,x3]:=⟨[x1],[x2,x3],rfl,x1',[x2],[x3],rfl,x2',x3'⟩
 refine AA (v:=.agg [x1,x2,x3]) (by
  have a1:=RS.cell x1'
  have a2:=RS.cell x2'
  have a3:=RS.cell x3'
  simp[Ap,B2,Ak.ev,a1,a2,a3]) (s.Cr rfl rfl fun H3 s=>⟨trivial,s.DN (.head _) rfl (s.B9 (fun k=>.agg (CC k HS d _ hr)) ⟨_,rfl,hr⟩)⟩)
theorem vM {H:AH}{d:EW.D}{c:List AV}(h:RS EW d c):CP prog 74 [.agg c] H fun x=>∃c',x=.agg c'∧RS EW d c':=by
 obtain⟨c1,c2,rfl,h1,c3,c4,rfl,h2,c5,c6,rfl,h3,h4⟩:=h
 obtain⟨v1,rfl⟩:=RS.one h1
 obtain⟨v2,rfl⟩:=RS.one h2
 obtain⟨v3,rfl⟩:=RS.one h3
 obtain⟨v4,rfl⟩:=RS.one h4
 refine CP.of (tG ?_)
 unfold qe
 try simp only[BU]
 refine(BE.start H).box rfl fun q H1 s=>s.alloc fun q2 H2 s=>s.alloc fun q3 H3 s=>s.put (vs:=[.fn (.func 125) [] []]) rfl rfl (by decide) fun H4 s=>?_
 have s:BE H [(q3,[.fn (.func 125) [] []]),(q2,Av 4 .nils []),(q,[v1,v2,v3,v4])] H4:=s
 have hm:(q,[v1,v2,v3,v4])∈[(q3,[AV.fn (.func 125) [] []]),(q2,Av 4 .nils []),(q,[v1,v2,v3,v4])]:=.tail _ (.tail _ (.head _))
 obtain⟨_,g2,g3⟩:=s.l _ (.head _)
 refine AA rfl (s.ld (x:=v1) hm rfl ?_)
 refine AA rfl (s.ld (x:=v2) hm rfl ?_)
 refine AA rfl (s.ld (x:=v3) hm rfl ?_)
 refine AA rfl (s.ld (x:=v4) hm rfl ?_)
 refine BK (iY h1) fun x1 x1'=>⟨⟨s.Ei hm rfl,s.Ei hm rfl,s.Ei hm rfl,trivial⟩,?_⟩
 refine BK (pK g2 g3 h2) fun x2 x2'=>⟨⟨s.Ei hm rfl,s.Ei hm rfl,trivial⟩,?_⟩
 refine BK (iX h3) fun x3 x3'=>⟨⟨s.Ei hm rfl,trivial⟩,?_⟩
 refine BK (vB h4) fun x4 x4'=>⟨trivial,?_⟩
 have hr:RS EW d [x1,x2,x3,x4]:=⟨[x1],[x2,x3,x4],rfl,x1',[x2],[x3,x4],rfl,x2',[x3],[x4],rfl,x3',x4'⟩
 refine AA (v:=.agg [x1,x2,x3,x4]) (by
  have a1:=RS.cell x1'
  have a2:=RS.cell x2'
  have a3:=RS.cell x3'
  have a4:=RS.cell x4'
  show Ap (.build [.nils,.nils,.nils,.nils] [(0,1,(.cst x1)),(1,1,(.cst x2)),(2,1,(.cst x3)),(3,1,(.cst x4))]) emp=_
  simp[Ap,B2,Ak.ev,a1,a2,a3,a4]) (s.B6 (A:=[(q3,_)]) rfl rfl (by decide) fun H5 s=>⟨trivial,s.DN (c:=[x1,x2,x3,x4]) (.tail _ (.head _)) rfl (s.B9 (fun k=>.agg (CC k EW d _ hr)) ⟨_,rfl,hr⟩)⟩)
end Go.Proofs.YtdcdbabponelcaaGreatDoor
namespace Go.Proofs.YtdcdbabponelcaaGreatDoor
open Go Go.AL Tryz
variable [BY]
theorem fC {c:List AV}(h:c.length=3):∃a b d,c=[a,b,d]:=by match c,h with | [a,b,d],_=>exact⟨a,b,d,rfl⟩
theorem fB {c:List AV}(h:c.length=4):∃a b d e,c=[a,b,d,e]:=by match c,h with | [a,b,d,e],_=>exact⟨a,b,d,e,rfl⟩
theorem ku {c:List AV}(h:c.length=5):∃a b d e f,c=[a,b,d,e,f]:=by match c,h with | [a,b,d,e,f],_=>exact⟨a,b,d,e,f,rfl⟩
theorem IE {d:BR.D}{c:List AV}(h:RS BR d c):∃T U d1 d2 d3 A m1 m2 m3 m4 q1 q2 q3 q4 q5,c=[iv d.1,T,U,d1,d2,d3,A,iv d.2.2.2.2.1.2,m1,m2,m3,m4,q1,q2,q3,q4,q5,iv d.2.2.2.2.2.2.2] ∧
  RS (.list DK) d.2.1 [T]∧RS (.list DK) d.2.2.1 [U]∧RS HS d.2.2.2.1 [d1,d2,d3]∧RS (.list .int) d.2.2.2.2.1.1 [A]∧RS EW d.2.2.2.2.2.1 [m1,m2,m3,m4]∧RS GW d.2.2.2.2.2.2.1 [q1,q2,q3,q4,q5]:=by
 obtain⟨c0,_,rfl,h0,cT,_,rfl,hT,cU,_,rfl,hU,cD,_,rfl,hD,cR,_,rfl,hR,cM,_,rfl,hM,cQ,cN,rfl,hQ,hN⟩:=h
 obtain⟨cA,cC,rfl,hA,hC⟩:=hR
 obtain⟨T,rfl⟩:=RS.one hT
 obtain⟨U,rfl⟩:=RS.one hU
 obtain⟨A,rfl⟩:=RS.one hA
 obtain⟨d1,d2,d3,rfl⟩:=fC (CM _ _ _ hD)
 obtain⟨m1,m2,m3,m4,rfl⟩:=fB (CM _ _ _ hM)
 obtain⟨q1,q2,q3,q4,q5,rfl⟩:=ku (CM _ _ _ hQ)
 have h0:c0=[iv d.1]:=h0
 have hC:cC=[iv d.2.2.2.2.1.2]:=hC
 have hN:cN=[iv d.2.2.2.2.2.2.2]:=hN
 subst h0 hC hN
 exact⟨T,U,d1,d2,d3,A,m1,m2,m3,m4,q1,q2,q3,q4,q5,rfl,hT,hU,hD,hA,hM,hQ⟩
theorem HP {d:BR.D}{T U d1 d2 d3 A m1 m2 m3 m4 q1 q2 q3 q4 q5:AV}(hT:RS (.list DK) d.2.1 [T]) (hU:RS (.list DK) d.2.2.1 [U]) (hD:RS HS d.2.2.2.1 [d1,d2,d3]) (hA:RS (.list .int) d.2.2.2.2.1.1 [A]) (hM:RS EW d.2.2.2.2.2.1 [m1,m2,m3,m4])
  (hQ:RS GW d.2.2.2.2.2.2.1 [q1,q2,q3,q4,q5]):RS BR d [iv d.1,T,U,d1,d2,d3,A,iv d.2.2.2.2.1.2,m1,m2,m3,m4,q1,q2,q3,q4,q5,iv d.2.2.2.2.2.2.2]:=
 ⟨[_],_,rfl,rfl,[_],_,rfl,hT,[_],_,rfl,hU,[_,_,_],_,rfl,hD,[_,_],_,rfl,⟨[_],[_],rfl,hA,rfl⟩,[_,_,_,_],_,rfl,hM,[_,_,_,_,_],[_],rfl,hQ,rfl⟩
set_option maxHeartbeats 1000000 in
theorem iR {H:AH}{d:BR.D}{c:List AV}(h:RS BR d c):CP prog 35 [.agg c] H fun x=>∃c',x=.agg c'∧RS BR d c':=by
 obtain⟨T,U,d1,d2,d3,A,m1,m2,m3,m4,r1,r2,r3,r4,r5,rfl,hT,hU,hD,hA,hM,hQ⟩:=IE h
 refine CP.of (tZ ?_)
 unfold qw
 try simp only[BU]
 refine(BE.start H).box rfl fun q H1 s=>s.alloc fun q2 H2 s=>?_
 refine AA rfl (s.ld (x:=T) (.tail _ (.head _)) rfl ?_)
 refine AA rfl (s.ld (x:=U) (.tail _ (.head _)) rfl ?_)
 refine BK (rW hT) fun T' hT'=>⟨⟨s.Ei (.tail _ (.head _)) rfl,trivial⟩,AA rfl ?_⟩
 refine BK (rW hU) fun U' hU'=>⟨trivial,?_⟩
 refine s.B6 (A:=[(q2,_)]) (RS.cell hT') rfl (nb rfl) fun H3 s=>⟨trivial,AA rfl ?_⟩
 refine s.B6 (A:=[(q2,_)]) (RS.cell hU') rfl (nb rfl) fun H4 s=>⟨trivial,?_⟩
 refine AA rfl (s.Ch (d:=[d1,d2,d3]) (.tail _ (.head _)) rfl (nb rfl) ?_)
 refine AA rfl (s.Ch (d:=[m1,m2,m3,m4]) (.tail _ (.head _)) rfl (nb rfl) ?_)
 refine BK (vN hD) fun x hx=>⟨⟨s.fD (.tail _ (.head _)) rfl (nb rfl),trivial⟩,AA rfl ?_⟩
 obtain⟨cD,rfl,hD'⟩:=hx
 obtain⟨e1,e2,e3,rfl⟩:=fC (CM _ _ _ hD')
 refine BK (vM hM) fun x hx=>⟨trivial,?_⟩
 obtain⟨cM,rfl,hM'⟩:=hx
 obtain⟨n1,n2,n3,n4,rfl⟩:=fB (CM _ _ _ hM')
 refine s.B6 (A:=[(q2,_)]) rfl rfl (nb rfl) fun H5 s=>⟨trivial,AA rfl ?_⟩
 refine s.B6 (A:=[(q2,_)]) rfl rfl (nb rfl) fun H6 s=>⟨trivial,AA rfl (AA rfl ?_)⟩
 refine s.ld (x:=A) (.tail _ (.head _)) rfl ?_
 refine BK (dn hA) fun A' hA'=>AA rfl (AA rfl ?_)
 refine s.B6 (A:=[(q2,_)]) (RS.cell hA') rfl (nb rfl) fun H7 s=>?_
 have hr:=HP hT' hU' hD' hA' hM' hQ
 refine s.DN (c:=[iv d.1,T',U',e1,e2,e3,A',iv d.2.2.2.2.1.2,n1,n2,n3,n4,r1,r2,r3,r4,r5,iv d.2.2.2.2.2.2.2]) (.tail _ (.head _)) rfl ?_
 refine s.B6 (A:=[]) rfl rfl (nb rfl) fun H8 s=>?_
 refine s.DN (c:=[iv d.1,T',U',e1,e2,e3,A',iv d.2.2.2.2.1.2,n1,n2,n3,n4,r1,r2,r3,r4,r5,iv d.2.2.2.2.2.2.2]) (.head _) rfl ?_
 exact s.B9 (fun k=>.agg (CC k BR d _ hr)) ⟨_,rfl,hr⟩
theorem vQ {H:AH}{d:F3.D}{c:List AV}(h:RS F3 d c):CP prog 69 [.agg c] H fun x=>∃c',x=.agg c'∧RS F3 d c':=by
 obtain⟨ca,cb,rfl,ha,hb⟩:=h
 have hb:cb=[.bool d.2]:=hb
 subst hb
 have hl:=CM _ _ _ ha
 have hl:ca.length=18:=hl
 refine CP.of (tJ ?_)
 unfold qh
 try simp only[BU]
 refine(BE.start H).box rfl fun q H1 s=>s.alloc fun q2 H2 s=>?_
 refine AA rfl (s.Ch (d:=ca) (.tail _ (.head _)) (by rw[List.drop_zero,List.take_append_of_le_length (by omega),List.take_of_length_le (by omega)]) (by simp[hl]) ?_)
 refine BK (iR ha) fun x hx=>AA rfl ?_
 obtain⟨c',rfl,ha'⟩:=hx
 have hl':c'.length=18:=CM _ _ _ ha'
 refine s.B6 (A:=[(q2,_)]) rfl hl' (by simp[hl]) fun H3 s=>?_
 have e:Bj (ca++[AV.bool d.2]) 0 c'=c'++[.bool d.2]:=by
  rw[CQ (by simp[hl,hl'])]
  rw[hl',List.take_zero,List.nil_append,Nat.zero_add,List.drop_append,hl,List.drop_of_length_le (by omega)]
  rfl
 rw[e]at s
 have hr:RS F3 d (c'++[.bool d.2]):=⟨c',[.bool d.2],rfl,ha',rfl⟩
 have hr19:(c'++[AV.bool d.2]).length=19:=by simp[hl']
 refine s.DN (c:=c'++[.bool d.2]) (.tail _ (.head _)) hr19 ?_
 refine BE.Cr (q:=q2) s hr19 rfl fun H8 s=>s.DN (.head _) hr19 (s.B9 (fun k=>.agg (CC k F3 d _ hr)) ⟨_,rfl,hr⟩)
theorem rX {H:AH}{v:AV}{l:(Tw.list F3).D}(h:RS (.list F3) l [v]):CP prog 68 [v,.fn (.func 69) [] []] H fun x=>RS (.list F3) l [x]:=
 CP.of (tK (Lf (z:=19) (b:=312) (zz:=(I 0)::(Av 6 .nils ((I 0)::(Av 4 .nils (Av 4 (I 0) ((.bool false)::((I 0)::((.bool false)::[])))))))) rfl rfl h (by decide) fun _ _ _ _ h=>vQ h))
theorem vP {H:AH}{v:AV}{l:(Tw.list BR).D}(h:RS (.list BR) l [v]):CP prog 70 [v,.fn (.func 35) [] []] H fun x=>RS (.list BR) l [x]:=
 CP.of (qH (Lf (z:=18) (b:=304) (zz:=(I 0)::(Av 6 .nils ((I 0)::(Av 4 .nils (Av 4 (I 0) ((.bool false)::((I 0)::[]))))))) rfl rfl h (by decide) fun _ _ _ _ h=>iR h))
theorem CR {d:Bh.D}{c:List AV}(h:RS Bh d c):∃al mo to li at_ fo,c=[al,mo,to,li,at_,fo]∧RS (.list .byte) d.1 [al]∧RS (.list .int) d.2.1 [mo]∧RS (.list .int) d.2.2.1 [to]∧RS (.list F3) d.2.2.2.1 [li]∧RS (.list BR) d.2.2.2.2.1 [at_]∧RS (.list (.list BX)) d.2.2.2.2.2 [fo]:=by
 obtain⟨c0,_,rfl,h0,c1,_,rfl,h1,c2,_,rfl,h2,c3,_,rfl,h3,c4,c5,rfl,h4,h5⟩:=h
 obtain⟨v0,rfl⟩:=RS.one h0
 obtain⟨v1,rfl⟩:=RS.one h1
 obtain⟨v2,rfl⟩:=RS.one h2
 obtain⟨v3,rfl⟩:=RS.one h3
 obtain⟨v4,rfl⟩:=RS.one h4
 obtain⟨v5,rfl⟩:=RS.one h5
 exact⟨v0,v1,v2,v3,v4,v5,rfl,h0,h1,h2,h3,h4,h5⟩
theorem NJ {d:Bh.D}{al mo to li at_ fo:AV}(h0:RS (.list .byte) d.1 [al]) (h1:RS (.list .int) d.2.1 [mo]) (h2:RS (.list .int) d.2.2.1 [to]) (h3:RS (.list F3) d.2.2.2.1 [li]) (h4:RS (.list BR) d.2.2.2.2.1 [at_]) (h5:RS (.list (.list BX)) d.2.2.2.2.2 [fo]) :
  RS Bh d [al,mo,to,li,at_,fo]:=⟨[_],_,rfl,h0,[_],_,rfl,h1,[_],_,rfl,h2,[_],_,rfl,h3,[_],[_],rfl,h4,h5⟩
set_option maxHeartbeats 1000000 in
theorem vb {H:AH}{d:Bh.D}{c:List AV}(h:RS Bh d c):CP prog 30 [.agg c] H fun x=>∃c',x=.agg c'∧RS Bh d c':=by
 obtain⟨al,mo,to,li,at_,fo,rfl,h0,h1,h2,h3,h4,h5⟩:=CR h
 refine CP.of (qN ?_)
 unfold oH
 try simp only[BU]
 refine(BE.start H).box rfl fun q H1 s=>s.alloc fun q2 H2 s=>?_
 have hm:(q,[al,mo,to,li,at_,fo])∈[(q2,Av 6 AV.nils []),(q,[al,mo,to,li,at_,fo])]:=.tail _ (.head _)
 refine AA rfl (s.ld (x:=al) hm rfl ?_)
 refine AA rfl (s.ld (x:=mo) hm rfl ?_)
 refine AA rfl (s.ld (x:=to) hm rfl ?_)
 refine AA rfl (s.ld (x:=li) hm rfl ?_)
 refine AA rfl (s.ld (x:=at_) hm rfl ?_)
 refine AA rfl (s.ld (x:=fo) hm rfl ?_)
 refine BK (oV h0) fun x0 g0=>⟨⟨s.Ei hm rfl,s.Ei hm rfl,s.Ei hm rfl,s.Ei hm rfl,s.Ei hm rfl,trivial⟩,?_⟩
 refine BK (dn h1) fun x1 g1=>⟨⟨s.Ei hm rfl,s.Ei hm rfl,s.Ei hm rfl,s.Ei hm rfl,trivial⟩,?_⟩
 refine BK (dn h2) fun x2 g2=>⟨⟨s.Ei hm rfl,s.Ei hm rfl,s.Ei hm rfl,trivial⟩,?_⟩
 refine BK (rX h3) fun x3 g3=>⟨⟨s.Ei hm rfl,s.Ei hm rfl,trivial⟩,?_⟩
 refine BK (vP h4) fun x4 g4=>⟨⟨s.Ei hm rfl,trivial⟩,?_⟩
 refine BK (vO h5) fun x5 g5=>⟨trivial,?_⟩
 have hr:=NJ g0 g1 g2 g3 g4 g5
 refine AA (v:=.agg [x0,x1,x2,x3,x4,x5]) (by
  have a0:=RS.cell g0
  have a1:=RS.cell g1
  have a2:=RS.cell g2
  have a3:=RS.cell g3
  have a4:=RS.cell g4
  have a5:=RS.cell g5
  show Ap (.build [.nils,.nils,.nils,.nils,.nils,.nils] [(0,1,(.cst x0)),(1,1,(.cst x1)),(2,1,(.cst x2)),(3,1,(.cst x3)),(4,1,(.cst x4)),(5,1,(.cst x5))]) emp=_
  simp[Ap,B2,Ak.ev,a0,a1,a2,a3,a4,a5]) (s.Cr rfl rfl fun H3 s=>⟨trivial,s.DN (.head _) rfl (s.B9 (fun k=>.agg (CC k Bh d _ hr)) ⟨_,rfl,hr⟩)⟩)
end Go.Proofs.YtdcdbabponelcaaGreatDoor
namespace Go.Proofs.YtdcdbabponelcaaGreatDoor
open Go Go.AL
open Go.Proofs.YtdcdbabponelcaaGreatDoor.San (MC SI)
variable [BY]
theorem DQ (t:Tw):RS (.list t) (show(Tw.list t).D from[]) [.nils]:=.of (by simp) .nil
theorem zD:RS HS ([],[],[]) [.nils,.nils,.nils]:=⟨[_],[_,_],rfl,DQ _,[_],[_],rfl,DQ _,DQ _⟩
theorem zM:RS EW ([],[],[],[]) [.nils,.nils,.nils,.nils]:=⟨[_],[_,_,_],rfl,DQ _,[_],[_,_],rfl,DQ _,[_],[_],rfl,DQ _,DQ _⟩
theorem zQ:RS GW ((0:Int),(0:Int),(0:Int),(0:Int),false) [iv 0,iv 0,iv 0,iv 0,.bool false]:=⟨[_],_,rfl,rfl,[_],_,rfl,rfl,[_],_,rfl,rfl,[_],[_],rfl,rfl,rfl⟩
def dX:(Tw.list .byte).D:=([97,98]:List UInt8)
theorem fi:RS (.list .byte) dX [M5]:=Fe (.list .byte) [M5] dX (by kernel_rfl)
end Go.Proofs.YtdcdbabponelcaaGreatDoor
namespace Go.Proofs.YtdcdbabponelcaaGreatDoor
open Go Go.AL Tryz
variable [BY]
theorem Ue.r7 {sh nal:Nat}{c:List AV}(h:Ue sh c):∃mo to li at_ fo,c=[M5,mo,to,li,at_,fo]∧FL 1 (fun i c=>c=[iv (1+((sh / 4+i) % 3:Nat))]) (1+sh % 2) mo∧FL 1 (fun _ c=>c=[iv 12]) (sh / 2 % 2) to∧∃nl na nf,
  ∀(al mo':AV) (Al:Nat→UInt8) (M:Nat→Int),FL 1 (fun i c=>c=[bv (Al i)]) nal al→0<nal→nal≤16→FL 1 (fun i c=>c=[iv (M i)]) (1+sh % 2) mo' →
   n_ al mo' to li at_ fo nal (1+sh % 2) (sh / 2 % 2) nl na nf Al M (fun _=>12) (fun _=>true) (fun _=>true) (fun _=>8):=by
 obtain⟨mo,to,li,at_,fo,nl,na,nf,rfl,h1,h2,hl,h3,ha,h4,hf,h5⟩:=h.ex
 refine⟨mo,to,li,at_,fo,rfl,h1,h2,nl,na,nf,fun al mo' Al M g1 g2 g3 g4=>⟨g1,g2,g3,g4,h2,by omega,h3,by omega,?_,by omega,?_,by omega,?_⟩⟩
 ·exact h4.mono fun i c _ hc H hg=>oZ hg (by omega) (by omega) hc
 ·exact h5.mono fun i c _ hc=>by
   obtain⟨v,rfl,hv⟩:=hc
   have hv':=hv
   obtain⟨m,m1,m8,hm⟩:=hv'
   exact⟨v,_,m,rfl,m8,hm,fun H hg=>rY (by omega) hv⟩
 ·have:nf=0∨nf=1:=by omega
  rcases this with rfl | rfl<;>simp[MI]
theorem fk:FL 1 (fun i c=>c=[bv (if i=0 then 97 else 98)]) 2 M5:=⟨.inr ⟨[[N .u8 97],[N .u8 98]],true,rfl,fun _=>rfl,rfl,fun i c hc=>by
 match i,hc with
 | 0,hc=>cases hc;exact⟨rfl,fun k=>.cons (.int _ _) .nil,rfl⟩
 | 1,hc=>cases hc;exact⟨rfl,fun k=>.cons (.int _ _) .nil,rfl⟩
 | i+2,hc=>simp at hc⟩⟩
def wD:AV:=.sim [N .u8 98,N .u8 97] 2 true
theorem ow {H:AH}(hg:H.gl=BY.G){sh:Nat}{c:List AV}(h:Ue sh c):CP prog 29 [.agg c] H fun x=>x=iv 0:=by
 obtain⟨mo,to,li,at_,fo,rfl,h1,h2,nl,na,nf,hp⟩:=h.r7 (nal:=2)
 refine(rf hg (hp M5 mo _ _ fk (by omega) (by omega) h1)).mono fun x hx=>?_
 obtain⟨t,rfl,ht⟩:=hx
 have:t=true:=ht.2 ⟨fun j hj=>by
  have:j=0:=by omega
  subst this;decide,fun j hj=>by(show(0:Int)≤1+((sh / 4+j) % 3:Nat)∧(1:Int)+((sh / 4+j) % 3:Nat)≤8);omega,fun j hj=>by(show(0:Int)≤12∧(12:Int)≤64);omega,fun j hj=>rfl,fun j hj=>rfl⟩
 subst this;rfl
def oA (H:AH) (d:Bh.D):Cc→AH→Prop:=fun o H'=>D6 H H'∧∃r ql c',o=.ret (.tup [.ptr r 0,iv 0])∧H.next≤ql∧ql<r∧r<H'.next∧H'.get r=some (.cells (c'++[.sl ql 0 1 (.ex 1)]))∧H'.get ql=some (.cells [.nils])∧RS Bh d c'
theorem C7 {H:AH}{d:Bh.D}{c:List AV}(hv:∀H':AH,H'.gl=H.gl→CP prog 29 [.agg c] H' fun x=>x=iv 0) (hc:RS Bh d c):An prog 7 [.agg c] H (oA H d):=by
 have hl:c.length=6:=CM _ _ _ hc
 refine T7 ?_
 unfold G7
 try simp only[BU]
 refine(BE.start H).box rfl fun q H1 s=>s.DN (.head _) hl ?_
 refine BK (hv H1 s.k.gl) fun x hx=>?_
 subst hx
 refine DB rfl (AZ (s.DN (.head _) hl ?_))
 refine KZ (c:=[.nils]) (f:=fun r=>.sl r 0 1 (.ex 1)) rfl ?_
 have s2:=s.push (o:=[.nils])
 refine BK (vb hc) fun x hx=>⟨⟨⟨[.nils],_,rfl,by simp⟩,trivial⟩,?_⟩
 obtain⟨c',rfl,hc'⟩:=hx
 have hl':c'.length=6:=CM _ _ _ hc'
 refine AA (v:=.agg (c'++[.sl H1.next 0 1 (.ex 1)])) ?_ ?_
 ·match c',hl' with
  | [a0,a1,a2,a3,a4,a5],_=>rfl
 refine KZ (c:=c'++[.sl H1.next 0 1 (.ex 1)]) (f:=fun r=>.ptr r 0) rfl ?_
 have s3:=s2.push (o:=c'++[.sl H1.next 0 1 (.ex 1)])
 obtain⟨a1,a2,a3⟩:=s3.l _ (.head _)
 obtain⟨b1,b2,b3⟩:=s3.l _ (.tail _ (.head _))
 exact⟨s3.k,_,H1.next,c',rfl,b1,by simp,a2,a3,b3,hc'⟩
def wB:List AV:=[iv 0,.nils,.nils,.nils,.nils,iv 0]
def wA:List AV:=[.nils,.nils,.nils,.nils,.nils,.nils]
end Go.Proofs.YtdcdbabponelcaaGreatDoor
