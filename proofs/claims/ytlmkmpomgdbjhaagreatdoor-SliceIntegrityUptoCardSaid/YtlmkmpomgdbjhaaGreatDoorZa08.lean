import Derived.Test.YtlmkmpomgdbjhaaGreatDoorZa07
import Derived.Test.YtlmkmpomgdbjhaaGreatDoorProg
/-
  a part of the proof.
-/
set_option linter.unusedSectionVars false
set_option linter.unusedVariables false
set_option linter.unusedSimpArgs false
namespace Go.AL.Sha
def K:List UInt32:=[0x428a2f98,0x71374491,0xb5c0fbcf,0xe9b5dba5,0x3956c25b,0x59f111f1,0x923f82a4,0xab1c5ed5,
 0xd807aa98,0x12835b01,0x243185be,0x550c7dc3,0x72be5d74,0x80deb1fe,0x9bdc06a7,0xc19bf174,
 0xe49b69c1,0xefbe4786,0x0fc19dc6,0x240ca1cc,0x2de92c6f,0x4a7484aa,0x5cb0a9dc,0x76f988da,
 0x983e5152,0xa831c66d,0xb00327c8,0xbf597fc7,0xc6e00bf3,0xd5a79147,0x06ca6351,0x14292967,
 0x27b70a85,0x2e1b2138,0x4d2c6dfc,0x53380d13,0x650a7354,0x766a0abb,0x81c2c92e,0x92722c85,
 0xa2bfe8a1,0xa81a664b,0xc24b8b70,0xc76c51a3,0xd192e819,0xd6990624,0xf40e3585,0x106aa070,
 0x19a4c116,0x1e376c08,0x2748774c,0x34b0bcb5,0x391c0cb3,0x4ed8aa4a,0x5b9cca4f,0x682e6ff3,
 0x748f82ee,0x78a5636f,0x84c87814,0x8cc70208,0x90befffa,0xa4506ceb,0xbef9a3f7,0xc67178f2]
structure S8 where
  a:UInt32
  b:UInt32
  c:UInt32
  d:UInt32
  e:UInt32
  f:UInt32
  g:UInt32
  h:UInt32
def S8.l (s:S8):List UInt32:=[s.a,s.b,s.c,s.d,s.e,s.f,s.g,s.h]
def init:S8:=⟨0x6a09e667,0xbb67ae85,0x3c6ef372,0xa54ff53a,0x510e527f,0x9b05688c,0x1f83d9ab,0x5be0cd19⟩
def KS (x:UInt32) (n:UInt32):UInt32:=(x <<< n) ||| (x >>> (32-n))
def low (x:UInt32):UInt32:=KS x 25 ^^^ KS x 14 ^^^ (x >>> 3)
def high (x:UInt32):UInt32:=KS x 15 ^^^ KS x 13 ^^^ (x >>> 10)
def word (a b c d:UInt8):UInt32:=(a.toUInt32 <<< 24) ||| (b.toUInt32 <<< 16) ||| (c.toUInt32 <<< 8) ||| d.toUInt32
def words:List UInt8->List UInt32
  | a::b::c::d::l=>word a b c d::words l
  | _=>[]
def next (w:List UInt32):UInt32:=w.getD (w.length-16) 0+low (w.getD (w.length-15) 0)+w.getD (w.length-7) 0+high (w.getD (w.length-2) 0)
def ext:Nat->List UInt32->List UInt32
  | 0,w=>w
  | n+1,w=>ext n (w++[next w])
def rx (t:S8) (k w:UInt32):UInt32:=t.h+(KS t.e 26 ^^^ KS t.e 21 ^^^ KS t.e 7)+(t.e &&& t.f ^^^ ~~~t.e &&& t.g)+k+w
def ry (t:S8):UInt32:=(KS t.a 30 ^^^ KS t.a 19 ^^^ KS t.a 10)+(t.a &&& t.b ^^^ t.a &&& t.c ^^^ t.b &&& t.c)
def round (t:S8) (k w:UInt32):S8:=⟨rx t k w+ry t,t.a,t.b,t.c,t.d+rx t k w,t.e,t.f,t.g⟩
def rounds:List UInt32->List UInt32->S8->S8
  | k::ks,w::ws,t=>rounds ks ws (round t k w)
  | _,_,t=>t
def S8.add (s t:S8):S8:=⟨s.a+t.a,s.b+t.b,s.c+t.c,s.d+t.d,s.e+t.e,s.f+t.f,s.g+t.g,s.h+t.h⟩
def compress (s:S8) (b:List UInt8):S8:=s.add (rounds K (ext 48 (words b)) s)
def Ut (n:Nat):List UInt8:=[56,48,40,32,24,16,8,0].map fun s=>UInt8.ofNat (n >>> s)
def Cy (n:Nat):Nat:=(119-n % 64) % 64
def pad (m:List UInt8):List UInt8:=m++128::(List.replicate (Cy m.length) 0++Ut (8*m.length))
def blocks:Nat->List UInt8->S8->S8
  | 0,_,s=>s
  | n+1,b,s=>blocks n (b.drop 64) (compress s (b.take 64))
def bytes (x:UInt32):List UInt8:=[(x >>> 24).toUInt8,(x >>> 16).toUInt8,(x >>> 8).toUInt8,x.toUInt8]
def sum (m:List UInt8):List UInt8:=(blocks ((pad m).length / 64) (pad m) init).l.flatMap bytes
def masked (key:List UInt8) (x:UInt8):List UInt8:=(List.range 64).map fun i=>key.getD i 0 ^^^ x
def keyed (key b:List UInt8):List UInt8:=sum (masked key 0x5c++sum (masked key 0x36++b))
def rq (n:Nat):List UInt8:=[0,8,16,24,32,40,48,56].map fun s=>UInt8.ofNat (n >>> s)
end Go.AL.Sha
namespace Go.AL
section
variable [BQ]
def wv (x:UInt32):AV:=.int .u32 (x.toNat:Int)
theorem wrap_u32 {n:Nat}(h:n<4294967296):IntKind.u32.wrap (n:Int)=(n:Int):=by
 simp[IntKind.wrap,IntKind.bits,IntKind.signed];omega
theorem wrap_u32' (n:Int):IntKind.u32.wrap n=n % 4294967296:=by simp[IntKind.wrap,IntKind.bits,IntKind.signed]
theorem ofInt_u32 (a:UInt32):BitVec.ofInt 32 (a.toNat:Int)=a.toBitVec:=by
 rw[HV];exact BitVec.eq_of_toNat_eq (by rw[Jw];exact B4 a.toBitVec.isLt)
section
variable {K:AV->Prop}{a b:UInt32}
theorem EJ (hK:K (wv (a ^^^ b))):AB (.bin .xor (.cst (wv a)) (.cst (wv b))) K:=AA (by
 show some (AV.int .u32 (IntKind.u32.wrap ((BitVec.ofInt 32 (a.toNat:Int) ^^^ BitVec.ofInt 32 (b.toNat:Int)).toNat:Nat)))=_
 rw[ofInt_u32,ofInt_u32,wrap_u32 (R_ _)];rfl) hK
theorem KX (hK:K (wv (a &&& b))):AB (.bin .and (.cst (wv a)) (.cst (wv b))) K:=AA (by
 show some (AV.int .u32 (IntKind.u32.wrap ((BitVec.ofInt 32 (a.toNat:Int) &&& BitVec.ofInt 32 (b.toNat:Int)).toNat:Nat)))=_
 rw[ofInt_u32,ofInt_u32,wrap_u32 (R_ _)];rfl) hK
theorem ZH (hK:K (wv (a ||| b))):AB (.bin .or (.cst (wv a)) (.cst (wv b))) K:=AA (by
 show some (AV.int .u32 (IntKind.u32.wrap ((BitVec.ofInt 32 (a.toNat:Int) ||| BitVec.ofInt 32 (b.toNat:Int)).toNat:Nat)))=_
 rw[ofInt_u32,ofInt_u32,wrap_u32 (R_ _)];rfl) hK
theorem Df (hK:K (wv (a+b))):AB (.bin .add (.cst (wv a)) (.cst (wv b))) K:=AA (by
 show some (AV.int .u32 (IntKind.u32.wrap ((a.toNat:Int)+(b.toNat:Int))))=some (AV.int .u32 ((a+b).toNat:Int))
 rw[wrap_u32',UInt32.toNat_add];congr 2) hK
theorem lK (hK:K (wv (~~~a))):AB (.un .xor (.cst (wv a))) K:=AA (by
 show some (AV.int .u32 (IntKind.u32.wrap ((BitVec.ofInt 32 4294967295 ^^^ BitVec.ofInt 32 (a.toNat:Int)).toNat:Nat)))=_
 rw[ofInt_u32,wrap_u32 (R_ _)]
 have e:BitVec.ofInt 32 4294967295 ^^^ a.toBitVec = ~~~a.toBitVec:=by
  have:BitVec.ofInt 32 4294967295=BitVec.allOnes 32:=by decide
  rw[this,BitVec.allOnes_xor]
 rw[e];rfl) hK
theorem O5 {n:UInt32}(hn:n.toNat<32) (hK:K (wv (a <<< n))):AB (.bin .shl (.cst (wv a)) (.cst (.int .u64 (n.toNat:Int)))) K:=AA (by
 show(if (0:Int)<=(n.toNat:Int)then some (AV.int .u32 (IntKind.u32.wrap ((a.toNat:Int)*2 ^ (min ((n.toNat:Int).toNat) 32))))else none)=some (AV.int .u32 ((a <<< n).toNat:Int))
 rw[if_pos (by omega),wrap_u32',Od,CL,B7 (by omega),B4 hn,Fh]
 simp) hK
theorem Tb {n:UInt32}(hn:n.toNat<32) (hK:K (wv (a >>> n))):AB (.bin .shr (.cst (wv a)) (.cst (.int .u64 (n.toNat:Int)))) K:=AA (by
 show(if (0:Int)<=(n.toNat:Int)then some (AV.int .u32 ((a.toNat:Int).fdiv (2 ^ (min ((n.toNat:Int).toNat) 32))))else none)=some (AV.int .u32 ((a >>> n).toNat:Int))
 rw[if_pos (by omega),UInt32.toNat_shiftRight,CL,B7 (by omega),B4 hn,LO]
 congr 2
 rw[E4 _ (by exact WW (by omega))]
 norm_cast) hK
theorem JH {x:UInt8}(hK:K (wv x.toUInt32)):AB (.convI .u32 (.cst (bv x))) K:=AA (by
 show some (AV.int .u32 (IntKind.u32.wrap (x.toNat:Int)))=some (AV.int .u32 (x.toUInt32.toNat:Int))
 have:=x.toNat_lt
 rw[wrap_u32 (by omega),UInt8.toNat_toUInt32]) hK
theorem fR (hK:K (bv a.toUInt8)):AB (.convI .u8 (.cst (wv a))) K:=AA (by
 show some (AV.int .u8 (IntKind.u8.wrap (a.toNat:Int)))=some (AV.int .u8 (a.toUInt8.toNat:Int))
 rw[UInt32.toNat_toUInt8]
 have:IntKind.u8.wrap (a.toNat:Int)=((a.toNat % 256:Nat):Int):=by simp[IntKind.wrap,IntKind.bits,IntKind.signed]
 rw[this]) hK
end
end
section
open Sha
theorem P5:∀(n:Nat) (w:List UInt32),ext (n+1) w=ext n w++[Sha.next (ext n w)]
 | 0,_=>rfl
 | n+1,w=>by show ext (n+1) (w++[Sha.next w])=_;rw[P5 n];rfl
theorem ME:∀(n:Nat) (w:List UInt32),(ext n w).length=w.length+n
 | 0,_=>rfl
 | n+1,w=>by show(ext n (w++[Sha.next w])).length=_;rw[ME n];simp;omega
theorem MW:∀(i:Nat) (l:List UInt8),4*i+3<l.length->(words l)[i]?=some (word (l.getD (4*i) 0) (l.getD (4*i+1) 0) (l.getD (4*i+2) 0) (l.getD (4*i+3) 0))
 | i,[],h=>by simp at h
 | i,[a],h=>by simp at h
 | i,[a,b],h=>by simp at h;omega
 | i,[a,b,c],h=>by simp at h;omega
 | 0,a::b::c::d::l,_=>by unfold words;rfl
 | i+1,a::b::c::d::l,h=>by
  unfold words
  rw[GH,MW i l (by simp at h;omega)]
  simp only[Ac]
  rw[show 4*(i+1)=4*i+4 by omega,show 4*i+4+1=4*i+1+4 by omega,show 4*i+4+2=4*i+2+4 by omega,show 4*i+4+3=4*i+3+4 by omega]
  simp only[GH]
theorem Jz:∀(n:Nat) (l:List UInt8),l.length=4*n->(words l).length=n
 | 0,l,h=>by have:l=[]:=By (by omega);subst this;rfl
 | n+1,l,h=>by
  match l,h with
  | a::b::c::d::l,h=>unfold words;rw[List.length_cons,Jz n l (by simp at h;omega)]
  | [],h=>simp at h
  | [a],h=>simp at h;omega
  | [a,b],h=>simp at h;omega
  | [a,b,c],h=>simp at h;omega
theorem M_:∀(ks ws:List UInt32) (k w:UInt32) (t:S8),ks.length=ws.length->rounds (ks++[k]) (ws++[w]) t=round (rounds ks ws t) k w
 | [],[],_,_,_,_=>rfl
 | a::ks,b::ws,k,w,t,h=>by show rounds (ks++[k]) (ws++[w]) (round t a b)=round (rounds ks ws (round t a b)) k w;exact M_ ks ws k w _ (by simpa using h)
 | [],_::_,_,_,_,h=>by simp at h
 | _::_,[],_,_,_,h=>by simp at h
theorem M9 {ks ws:List UInt32}{i:Nat}{k w:UInt32}(t:S8) (hk:ks[i]?=some k) (hw:ws[i]?=some w):rounds (ks.take (i+1)) (ws.take (i+1)) t=round (rounds (ks.take i) (ws.take i) t) k w:=by
 have h1:=(CJ.1 hk).1
 have h2:=(CJ.1 hw).1
 rw[Cr,Cr,hk,hw]
 exact M_ _ _ _ _ _ (by rw[BL,BL];omega)
def FQ (l:List UInt32):List AV:=(l++List.replicate (64-l.length) 0).map wv
theorem KE {l:List UInt32}(h:l.length<=64):(FQ l).length=64:=by simp[FQ];omega
theorem Cc {l:List UInt32}{i:Nat}(h:i<l.length):(FQ l)[i]?=some (wv (l.getD i 0)):=by
 unfold FQ
 rw[BU,Dr h,Ac,Ab h];rfl
theorem KD {l:List UInt32}{x:UInt32}(h:l.length<64):Ap (FQ l) l.length [wv x]=FQ (l++[x]):=by
 unfold Ap FQ
 have e:64-l.length=(63-l.length)+1:=by omega
 have e2:64-(l++[x]).length=63-l.length:=by rw[AW,Ok];omega
 show(List.map wv (l++List.replicate (64-l.length) 0)).set l.length (wv x)=_
 rw[e2,e,OA,<- LX,G3 _ _ (A4 _),HB,Oo,Ar];rfl
variable [BQ]
section
variable {H0 H:AH}{L:List (Nat × List AV)}
theorem fX {q o n i:Nat}{lim:Qe}{cs:List AV}{x:AV}{K:AV->Prop}(hi:i<n) (hg:H.get q=some (.cells cs)) (hx:cs[o+i]?=some x) (hK:K x):AB (.indexAddrS 1 (.cst (.sl q o n lim)) (.cst (iv (i:Int)))) fun v=>AG (.load none (.cst v)) H K:=
 AA (v:=.ptr q (o+i)) (by
  show(if (0:Int)<=(i:Int)/\(i:Int)<(n:Int)then some (AV.ptr q (o+(i:Int).toNat*1))else none)=_
  rw[if_pos ⟨by omega,by omega⟩,CL,EU]) (BG (v:=x) (by simp[AY,BJ,AE.ev,AH.cells?,hg,apart,hx]) hK)
theorem EO {n q i:Nat}{K:AV->Prop}(hi:i<n) (hK:K (.ptr q i)):AB (.indexAddrA n 1 (.cst (.ptr q 0)) (.cst (iv (i:Int)))) K:=
 AA (v:=.ptr q i) (by
  show(if (0:Int)<=(i:Int)/\(i:Int)<(n:Int)then some (AV.ptr q (0+(i:Int).toNat*1))else none)=_
  rw[if_pos ⟨by omega,by omega⟩,CL,EU,IG]) hK
theorem fY {n q i:Nat}{c:List AV}{x:AV}{K:AV->Prop}(s:A2 H0 L H) (hm:(q,c)∈L) (hi:i<n) (hx:c[i]?=some x) (hK:K x):AB (.indexAddrA n 1 (.cst (.ptr q 0)) (.cst (iv (i:Int)))) fun v=>AG (.load none (.cst v)) H K:=
 EO hi (s.ld hm hx hK)
end
end
end Go.AL
namespace Go.Proofs.YtlmkmpomgdbjhaaGreatDoor
open Tryz
section
open Go Go.AL Go.AL.Sha
variable [BQ]
theorem Q2 {x n:UInt32}{k:Int}{H:AH}{c:Int}(h1:AJ (.convI .u64 (.cst (iv k))) emp=some (.int .u64 c)) (h2:AJ (.bin .and (.cst (.int .u64 c)) (.cst (N .u64 31))) emp=some (.int .u64 (n.toNat:Int)))
  (h3:AJ (.bin .sub (.cst (N .u64 32)) (.cst (.int .u64 (n.toNat:Int)))) emp=some (.int .u64 ((32-n).toNat:Int))) (hn:n.toNat<32) (hn2:(32-n).toNat<32):CP prog 304 [wv x,iv k] H fun v=>v=wv (KS x n):=by
 refine sb ?_
 unfold oe
 refine AA h1 (AA h2 (O5 hn (AA h3 (Tb hn2 (ZH ?_)))))
 exact⟨rfl,_,rfl,rfl⟩
theorem r7 {x:UInt32}{H:AH}:CP prog 304 [wv x,iv (-7)] H fun v=>v=wv (KS x 25):=Q2 rfl rfl rfl (by decide) (by decide)
theorem yR {x:UInt32}{H:AH}:CP prog 304 [wv x,iv (-18)] H fun v=>v=wv (KS x 14):=Q2 rfl rfl rfl (by decide) (by decide)
theorem yS {x:UInt32}{H:AH}:CP prog 304 [wv x,iv (-17)] H fun v=>v=wv (KS x 15):=Q2 rfl rfl rfl (by decide) (by decide)
theorem yQ {x:UInt32}{H:AH}:CP prog 304 [wv x,iv (-19)] H fun v=>v=wv (KS x 13):=Q2 rfl rfl rfl (by decide) (by decide)
theorem r6 {x:UInt32}{H:AH}:CP prog 304 [wv x,iv (-6)] H fun v=>v=wv (KS x 26):=Q2 rfl rfl rfl (by decide) (by decide)
theorem vV {x:UInt32}{H:AH}:CP prog 304 [wv x,iv (-11)] H fun v=>v=wv (KS x 21):=Q2 rfl rfl rfl (by decide) (by decide)
theorem yO {x:UInt32}{H:AH}:CP prog 304 [wv x,iv (-25)] H fun v=>v=wv (KS x 7):=Q2 rfl rfl rfl (by decide) (by decide)
theorem r2 {x:UInt32}{H:AH}:CP prog 304 [wv x,iv (-2)] H fun v=>v=wv (KS x 30):=Q2 rfl rfl rfl (by decide) (by decide)
theorem vU {x:UInt32}{H:AH}:CP prog 304 [wv x,iv (-13)] H fun v=>v=wv (KS x 19):=Q2 rfl rfl rfl (by decide) (by decide)
theorem yP {x:UInt32}{H:AH}:CP prog 304 [wv x,iv (-22)] H fun v=>v=wv (KS x 10):=Q2 rfl rfl rfl (by decide) (by decide)
end
end Go.Proofs.YtlmkmpomgdbjhaaGreatDoor
namespace Go.AL
section
open Sha
variable [BQ]
class Bj:Prop where
 ok:∃t fr,BQ.G 0=some (.cells ((Sha.K.map fun x=>Value.int .u32 (x.toNat:Int)).toArray) t fr)
theorem RZ:∀l:List UInt32,P0 (l.map fun x=>Value.int .u32 (x.toNat:Int))=some (l.map wv)
 | []=>rfl
 | x::l=>by
  show(P0 (l.map fun x=>Value.int .u32 (x.toNat:Int))).map (AV.int .u32 (x.toNat:Int)::·)=_
  rw[RZ l];rfl
theorem Qf:Sha.K.length=64:=by decide
theorem sE [h:Bj] {H:AH}{K':AV->Prop}(hg:H.gl=BQ.G) (hK:K' (.agg (Sha.K.map wv))):AG (.gld (some 64) 0) H K':=by
 obtain⟨t,fr,h⟩:=h.ok
 refine BG (v:=.agg (Sha.K.map wv)) ?_ hK
 simp only[AY,XO,hg,h]
 rw[RZ]
 simp only[LU,apart,Au,Qf]
 rfl
theorem mW {i:Nat}(hi:i<64):AJ (.indexA 64 1 none (.cst (.agg (Sha.K.map wv))) (.cst (iv (i:Int)))) emp=some (wv (Sha.K.getD i 0)):=by
 show(if (0:Int)<=(i:Int)/\(i:Int)<((64:Nat):Int)then apart none (Sha.K.map wv) ((i:Int).toNat*1)else none)=_
 rw[if_pos ⟨by omega,by omega⟩,CL,EU]
 show(Sha.K.map wv)[i]?=_
 rw[BU,Ac,Ab (by rw[Qf];exact hi)];rfl
structure Up (Hb:AH) (r:Nat) (c:List AV) (H:AH):Prop where
 nx:H.next=Hb.next
 gl:H.gl=Hb.gl
 at_:H.get r=some (.cells c)
 ne:∀q,q≠r->H.get q=Hb.get q
theorem Up.set {Hb H:AH}{r:Nat}{c c':List AV}(h:Up Hb r c H):Up Hb r c' (H.set r (.cells c')):=
 ⟨h.nx,h.gl,by simp[AH.AU],fun q hq=>by rw[AH.Eh _ _ hq];exact h.ne q hq⟩
def KT (x y:List UInt32) (i:Nat):List UInt32:=x.take i++y.drop i
theorem UC {x y:List UInt32}{i:Nat}(h:i<y.length) (hl:x.length=y.length):((KT x y i).map wv)[i]?=some (wv (y.getD i 0)):=by
 unfold KT
 rw[BU,C4 (by rw[BL];omega),BL,B7 (by omega),HB,DD,GS,Ac,Ab h];rfl
theorem UB {x y:List UInt32}{i:Nat}(h:i<y.length) (hl:x.length=y.length):((KT x y i).map wv).set i (wv (x.getD i 0))=(KT x y (i+1)).map wv:=by
 unfold KT
 have hx:i<x.length:=by omega
 rw[<- LX,G3 _ _ (by rw[BL];omega),BL,B7 (by omega),HB,Gc h,Oo,Cr,Ab hx,Ar,Ac,Ab hx];rfl
end
end Go.AL
namespace Go.Proofs.YtlmkmpomgdbjhaaGreatDoor
open Tryz
section
open Go Go.AL Go.AL.Sha
variable [BQ]
set_option maxHeartbeats 4000000 in
theorem vM [Bj] {H:AH}{rs q o:Nat}{lim:Qe}{s0:S8}{bs:List UInt8}{cs:List AV}(hg:H.gl=BQ.G) (hs:H.get rs=some (.cells (s0.l.map wv))) (hq:H.get q=some (.cells cs)) (hb:∀i,i<64->cs[o+i]?=some (bv (bs.getD i 0)))
  (hl:bs.length=64) (hrs:rs<H.next) (hqn:q<H.next):AQ prog 183 [.ptr rs 0,.sl q o 64 lim] H fun out H'=>out=.ret (.tup [])/\∃Hb L,A2 H L Hb/\Up Hb rs ((compress s0 bs).l.map wv) H':=by
 have hwl:(words bs).length=16:=Jz 16 bs (by omega)
 refine tB ?_
 unfold ow
 refine(A2.start H).alloc fun qw H1 s=>?_
 have s:A2 H [(qw,FQ ((words bs).take 0))] H1:=s
 let I1:AV->AV->AV->AV->AH->Prop:=fun e0 e1 e4 e17 H'=>e0=.ptr rs 0/\e1=.sl q o 64 lim/\e4=.ptr qw 0/\∃i:Nat,e17=iv (i:Int)/\i<=16/\A2 H [(qw,FQ ((words bs).take i))] H'
 let μ1:AV->AV->AV->AV->AH->Nat:=fun _ _ _ e17 _=>match e17 with
  | .int _ j=>((16:Int)-j).toNat
  | _=>0
 refine⟨I1,μ1,⟨rfl,rfl,rfl,0,rfl,by omega,s⟩,?_⟩
 intro e H2 hI
 obtain⟨e0,e1,e4,i,e17,hi,s⟩:=(hI:I1 (e 0) (e 1) (e 4) (e 17) H2)
 have hmu:μ1 (e 0) (e 1) (e 4) (e 17) H2=((16:Int)-(i:Int)).toNat:=by rw[e17]
 show AB (.bin .lss (.cst (e 17)) (.cst (I 16))) _
 rw[e0,e1,e4,e17]
 refine Cn (b:=16) (fun hlt=>B8 ?_) (fun hlt=>Bu ?_)
 ·have hi16:i<16:=by omega
  have hq2:H2.get q=some (.cells cs):=by rw[s.k.get q hqn];exact hq
  refine Hd (a:=4) ⟨by omega,by omega⟩ ?_
  rw[show(4:Int)*(i:Int)=((4*i:Nat):Int)by omega]
  refine fX (by omega) hq2 (hb (4*i) (by omega)) (JH (O5 (n:=24) (by decide) ?_))
  refine Hd (a:=4) ⟨by omega,by omega⟩ (CE (b:=1) ⟨by omega,by omega⟩ ?_)
  rw[show(4:Int)*(i:Int)+1=((4*i+1:Nat):Int)by omega]
  refine fX (by omega) hq2 (hb (4*i+1) (by omega)) (JH (O5 (n:=16) (by decide) (ZH ?_)))
  refine Hd (a:=4) ⟨by omega,by omega⟩ (CE (b:=2) ⟨by omega,by omega⟩ ?_)
  rw[show(4:Int)*(i:Int)+2=((4*i+2:Nat):Int)by omega]
  refine fX (by omega) hq2 (hb (4*i+2) (by omega)) (JH (O5 (n:=8) (by decide) (ZH ?_)))
  refine Hd (a:=4) ⟨by omega,by omega⟩ (CE (b:=3) ⟨by omega,by omega⟩ ?_)
  rw[show(4:Int)*(i:Int)+3=((4*i+3:Nat):Int)by omega]
  refine fX (by omega) hq2 (hb (4*i+3) (by omega)) (JH (ZH (EO (i:=i) (by omega) ?_)))
  have hw:=MW i bs (by omega)
  refine s.put (vs:=[wv (word (bs.getD (4*i) 0) (bs.getD (4*i+1) 0) (bs.getD (4*i+2) 0) (bs.getD (4*i+3) 0))]) rfl rfl (by rw[KE (by rw[BL];omega)];omega) fun H3 s3=>?_
  have hti:((words bs).take i).length=i:=by rw[BL];omega
  have hps:=KD (l:=(words bs).take i) (x:=word (bs.getD (4*i) 0) (bs.getD (4*i+1) 0) (bs.getD (4*i+2) 0) (bs.getD (4*i+3) 0)) (by omega)
  rw[hti]at hps
  rw[hps,show(words bs).take i++[word (bs.getD (4*i) 0) (bs.getD (4*i+1) 0) (bs.getD (4*i+2) 0) (bs.getD (4*i+3) 0)]=(words bs).take (i+1)by rw[Cr,hw];rfl]at s3
  refine CE (b:=1) ⟨by omega,by omega⟩ ⟨⟨rfl,rfl,rfl,i+1,rfl,by omega,s3⟩,?_⟩
  show _<μ1 (e 0) (e 1) (e 4) (e 17) H2
  rw[hmu]
  show((16:Int)-((i:Int)+1)).toNat<_
  omega
 have hi16:i=16:=by omega
 subst hi16
 rw[AX (by omega)]at s
 have s:A2 H [(qw,FQ (ext 0 (words bs)))] H2:=s
 clear hmu
 let I2:AV->AV->AV->AH->Prop:=fun e0 e4 e6 H'=>e0=.ptr rs 0/\e4=.ptr qw 0/\∃i:Nat,e6=iv ((16+i:Nat):Int)/\i<=48/\A2 H [(qw,FQ (ext i (words bs)))] H'
 let μ2:AV->AV->AV->AH->Nat:=fun _ _ e6 _=>match e6 with
  | .int _ j=>((64:Int)-j).toNat
  | _=>0
 refine⟨I2,μ2,⟨rfl,rfl,0,rfl,by omega,s⟩,?_⟩
 clear s e0 e1 e4 e17
 intro e H3 hI
 obtain⟨e0,e4,i,e6,hi,s⟩:=(hI:I2 (e 0) (e 4) (e 6) H3)
 have hmu:μ2 (e 0) (e 4) (e 6) H3=((64:Int)-((16+i:Nat):Int)).toNat:=by rw[e6]
 show AB (.bin .lss (.cst (e 6)) (.cst (I 64))) _
 rw[e0,e4,e6]
 have hel:(ext i (words bs)).length=16+i:=by rw[ME,hwl]
 refine Cn (b:=64) (fun hlt=>B8 ?_) (fun hlt=>Bu ?_)
 ·refine DP (b:=15) ⟨by omega,by omega⟩ ?_
  rw[show((16+i:Nat):Int)-15=((1+i:Nat):Int)by omega]
  refine fY (i:=1+i) s (.head _) (by omega) (Cc (by omega)) ?_
  refine DP (b:=2) ⟨by omega,by omega⟩ ?_
  rw[show((16+i:Nat):Int)-2=((14+i:Nat):Int)by omega]
  refine fY (i:=14+i) s (.head _) (by omega) (Cc (by omega)) ?_
  refine Ed r7 fun _ hx=>?_
  cases hx
  refine Ed yR fun _ hx=>?_
  cases hx
  refine EJ (Tb (n:=3) (by decide) (EJ ?_))
  refine Ed yS fun _ hx=>?_
  cases hx
  refine Ed yQ fun _ hx=>?_
  cases hx
  refine EJ (Tb (n:=10) (by decide) (EJ ?_))
  refine DP (b:=16) ⟨by omega,by omega⟩ ?_
  rw[show((16+i:Nat):Int)-16=((i:Nat):Int)by omega]
  refine fY (i:=i) s (.head _) (by omega) (Cc (by omega)) (Df ?_)
  refine DP (b:=7) ⟨by omega,by omega⟩ ?_
  rw[show((16+i:Nat):Int)-7=((9+i:Nat):Int)by omega]
  refine fY (i:=9+i) s (.head _) (by omega) (Cc (by omega)) (Df (Df (EO (i:=16+i) (by omega) ?_)))
  have hn:(ext i (words bs)).getD i 0+low ((ext i (words bs)).getD (1+i) 0)+(ext i (words bs)).getD (9+i) 0+high ((ext i (words bs)).getD (14+i) 0)=Sha.next (ext i (words bs)):=by
   unfold Sha.next
   rw[hel,show 16+i-16=i by omega,show 16+i-15=1+i by omega,show 16+i-7=9+i by omega,show 16+i-2=14+i by omega]
  refine s.put (vs:=[wv (Sha.next (ext i (words bs)))]) (by rw[<- hn];rfl) rfl (by rw[KE (by omega)];omega) fun H4 s4=>?_
  have hps:=KD (l:=ext i (words bs)) (x:=Sha.next (ext i (words bs))) (by omega)
  rw[hel,<- P5]at hps
  rw[hps]at s4
  refine CE (b:=1) ⟨by omega,by omega⟩ ⟨⟨rfl,rfl,i+1,rfl,by omega,s4⟩,?_⟩
  show _<μ2 (e 0) (e 4) (e 6) H3
  rw[hmu]
  show((64:Int)-(((16+i:Nat):Int)+1)).toNat<_
  omega
 have hi48:i=48:=by omega
 subst hi48
 clear hmu
 obtain⟨w64,hw64⟩:∃w64,w64=ext 48 (words bs):=⟨_,rfl⟩
 rw[<- hw64]at s hel
 refine AA (v:=.ptr rs 0) rfl ?_
 have hs3:H3.get rs=some (.cells (s0.l.map wv)):=by rw[s.k.get rs hrs];exact hs
 refine BG (v:=.agg (s0.l.map wv)) (by simp[AY,BJ,AE.ev,AH.cells?,hs3,apart,S8.l]) ?_
 refine s.alloc fun qt H4 s=>?_
 refine s.DZ (c:=BD 8 (N .u32 0) []) (vs:=s0.l.map wv) rfl rfl fun H5 s=>?_
 refine sE (s.k.gl.trans hg) ?_
 have s:A2 H [(qt,(rounds (K.take 0) (w64.take 0) s0).l.map wv),(qw,FQ w64)] H5:=s
 let I3:AV->AV->AV->AV->AV->AH->Prop:=fun e0 e4 e11 e102 e103 H'=>e0=.ptr rs 0/\e4=.ptr qw 0/\e11=.ptr qt 0/\e102=.agg (K.map wv)/\∃i:Nat,e103=iv (i:Int)/\i<=64/\A2 H [(qt,(rounds (K.take i) (w64.take i) s0).l.map wv),(qw,FQ w64)] H'
 let μ3:AV->AV->AV->AV->AV->AH->Nat:=fun _ _ _ _ e103 _=>match e103 with
  | .int _ j=>((64:Int)-j).toNat
  | _=>0
 refine⟨I3,μ3,⟨rfl,rfl,rfl,rfl,0,rfl,by omega,s⟩,?_⟩
 clear s e0 e4 e6
 intro e H6 hI
 obtain⟨e0,e4,e11,e102,i,e103,hi,s⟩:=(hI:I3 (e 0) (e 4) (e 11) (e 102) (e 103) H6)
 have hmu:μ3 (e 0) (e 4) (e 11) (e 102) (e 103) H6=((64:Int)-(i:Int)).toNat:=by rw[e103]
 show AB (.bin .lss (.cst (e 103)) (.cst (I 64))) _
 rw[e0,e4,e11,e102,e103]
 refine Cn (b:=64) (fun hlt=>B8 ?_) (fun hlt=>Bu ?_)
 ·have hik:i<64:=by omega
  have hrt:=M9 (ks:=K) (ws:=w64) (i:=i) (k:=K.getD i 0) (w:=w64.getD i 0) s0 (by rw[Ac,Ab (by rw[Qf];exact hik)];rfl) (by rw[Ac,Ab (by omega)];rfl)
  generalize rounds (K.take i) (w64.take i) s0=t at s hrt
  refine AA (v:=wv (K.getD i 0)) (mW (by omega)) ?_
  refine EO (i:=7) (by omega) ?_
  refine s.ld (o:=7) (.head _) rfl ?_
  refine EO (i:=4) (by omega) ?_
  refine s.ld (o:=4) (.head _) rfl ?_
  refine EO (i:=4) (by omega) ?_
  refine s.ld (o:=4) (.head _) rfl ?_
  refine EO (i:=4) (by omega) ?_
  refine s.ld (o:=4) (.head _) rfl ?_
  refine EO (i:=4) (by omega) ?_
  refine s.ld (o:=4) (.head _) rfl ?_
  refine EO (i:=5) (by omega) ?_
  refine s.ld (o:=5) (.head _) rfl ?_
  refine KX ?_
  refine EO (i:=4) (by omega) ?_
  refine s.ld (o:=4) (.head _) rfl ?_
  refine lK ?_
  refine EO (i:=6) (by omega) ?_
  refine s.ld (o:=6) (.head _) rfl ?_
  refine KX ?_
  refine EJ ?_
  refine EO (i:=i) (by omega) ?_
  refine s.ld (o:=i) (.tail _ (.head _)) (Cc (l:=w64) (by omega)) ?_
  refine Ed r6 fun _ hx=>?_
  cases hx
  refine⟨⟨s.Dw (.tail _ (.head _)) (Cc (l:=w64) (by omega)),s.Dw (.head _) rfl,s.Dw (.head _) rfl,s.Dw (.head _) rfl,s.Dw (.head _) rfl,s.Dw (.head _) rfl,s.Dw (.head _) rfl,s.Dw (.head _) rfl,trivial⟩,?_⟩
  refine Ed vV fun _ hx=>?_
  cases hx
  refine⟨⟨s.Dw (.tail _ (.head _)) (Cc (l:=w64) (by omega)),s.Dw (.head _) rfl,s.Dw (.head _) rfl,s.Dw (.head _) rfl,s.Dw (.head _) rfl,s.Dw (.head _) rfl,s.Dw (.head _) rfl,trivial⟩,?_⟩
  refine EJ ?_
  refine Ed yO fun _ hx=>?_
  cases hx
  refine⟨⟨s.Dw (.tail _ (.head _)) (Cc (l:=w64) (by omega)),s.Dw (.head _) rfl,s.Dw (.head _) rfl,s.Dw (.head _) rfl,s.Dw (.head _) rfl,s.Dw (.head _) rfl,trivial⟩,?_⟩
  refine EJ ?_
  refine Df ?_
  refine Df ?_
  refine Df ?_
  refine Df ?_
  refine EO (i:=0) (by omega) ?_
  refine s.ld (o:=0) (.head _) rfl ?_
  refine EO (i:=0) (by omega) ?_
  refine s.ld (o:=0) (.head _) rfl ?_
  refine EO (i:=0) (by omega) ?_
  refine s.ld (o:=0) (.head _) rfl ?_
  refine EO (i:=0) (by omega) ?_
  refine s.ld (o:=0) (.head _) rfl ?_
  refine EO (i:=1) (by omega) ?_
  refine s.ld (o:=1) (.head _) rfl ?_
  refine KX ?_
  refine EO (i:=0) (by omega) ?_
  refine s.ld (o:=0) (.head _) rfl ?_
  refine EO (i:=2) (by omega) ?_
  refine s.ld (o:=2) (.head _) rfl ?_
  refine KX ?_
  refine EJ ?_
  refine EO (i:=1) (by omega) ?_
  refine s.ld (o:=1) (.head _) rfl ?_
  refine EO (i:=2) (by omega) ?_
  refine s.ld (o:=2) (.head _) rfl ?_
  refine KX ?_
  refine EJ ?_
  refine Ed r2 fun _ hx=>?_
  cases hx
  refine⟨⟨s.Dw (.head _) rfl,s.Dw (.head _) rfl,s.Dw (.head _) rfl,s.Dw (.head _) rfl,s.Dw (.head _) rfl,s.Dw (.head _) rfl,s.Dw (.head _) rfl,s.Dw (.head _) rfl,trivial⟩,?_⟩
  refine Ed vU fun _ hx=>?_
  cases hx
  refine⟨⟨s.Dw (.head _) rfl,s.Dw (.head _) rfl,s.Dw (.head _) rfl,s.Dw (.head _) rfl,s.Dw (.head _) rfl,s.Dw (.head _) rfl,s.Dw (.head _) rfl,trivial⟩,?_⟩
  refine EJ ?_
  refine Ed yP fun _ hx=>?_
  cases hx
  refine⟨⟨s.Dw (.head _) rfl,s.Dw (.head _) rfl,s.Dw (.head _) rfl,s.Dw (.head _) rfl,s.Dw (.head _) rfl,s.Dw (.head _) rfl,trivial⟩,?_⟩
  refine EJ ?_
  refine Df ?_
  refine Df ?_
  refine EO (i:=0) (by omega) ?_
  refine s.ld (o:=0) (.head _) rfl ?_
  refine EO (i:=1) (by omega) ?_
  refine s.ld (o:=1) (.head _) rfl ?_
  refine EO (i:=2) (by omega) ?_
  refine s.ld (o:=2) (.head _) rfl ?_
  refine EO (i:=3) (by omega) ?_
  refine s.ld (o:=3) (.head _) rfl ?_
  refine Df ?_
  refine EO (i:=4) (by omega) ?_
  refine s.ld (o:=4) (.head _) rfl ?_
  refine EO (i:=5) (by omega) ?_
  refine s.ld (o:=5) (.head _) rfl ?_
  refine EO (i:=6) (by omega) ?_
  refine s.ld (o:=6) (.head _) rfl ?_
  refine AA (v:=.agg ((round t (K.getD i 0) (w64.getD i 0)).l.map wv)) rfl ?_
  refine s.DZ (vs:=(round t (K.getD i 0) (w64.getD i 0)).l.map wv) rfl rfl fun H7 s7=>?_
  rw[<- hrt]at s7
  refine CE (b:=1) ⟨by omega,by omega⟩ ⟨⟨rfl,rfl,rfl,rfl,i+1,rfl,by omega,s7⟩,?_⟩
  show _<μ3 (e 0) (e 4) (e 11) (e 102) (e 103) H6
  rw[hmu]
  show((64:Int)-((i:Int)+1)).toNat<_
  omega
 have hi64:i=64:=by omega
 subst hi64
 clear hmu
 rw[AX (by rw[Qf];omega),AX (by omega)]at s
 generalize hfin:rounds K w64 s0=t at s
 have hnew:compress s0 bs=s0.add t:=by unfold compress;rw[<- hw64,hfin]
 have hs6:H6.get rs=some (.cells (s0.l.map wv)):=by rw[s.k.get rs hrs];exact hs
 obtain⟨g1,_,ht6⟩:=s.l _ (.head _)
 have hne:qt≠rs:=by have:H.next<=qt:=g1;omega
 have hA:(s0.add t).l.length=s0.l.length:=rfl
 let I4:AV->AV->AV->AH->Prop:=fun e0 e11 e190 H'=>e0=.ptr rs 0/\e11=.ptr qt 0/\∃i:Nat,e190=iv (i:Int)/\i<=8/\Up H6 rs ((KT (s0.add t).l s0.l i).map wv) H'
 let μ4:AV->AV->AV->AH->Nat:=fun _ _ e190 _=>match e190 with
  | .int _ j=>((8:Int)-j).toNat
  | _=>0
 refine⟨I4,μ4,⟨rfl,rfl,0,rfl,by omega,rfl,rfl,hs6,fun _ _=>rfl⟩,?_⟩
 clear e0 e4 e11 e102 e103
 intro e H8 hI
 obtain⟨e0,e11,i,e190,hi,u⟩:=(hI:I4 (e 0) (e 11) (e 190) H8)
 have hmu:μ4 (e 0) (e 11) (e 190) H8=((8:Int)-(i:Int)).toNat:=by rw[e190]
 show AB (.bin .lss (.cst (e 190)) (.cst (I 8))) _
 rw[e0,e11,e190]
 refine Cn (b:=8) (fun hlt=>B8 ?_) (fun hlt=>Bu ?_)
 ·have h8:i<s0.l.length:=by show i<8;omega
  refine AA (v:=.ptr rs 0) rfl (EO (i:=i) (by omega) ?_)
  refine BG (v:=wv (s0.l.getD i 0)) (by simp only[AY,BJ,AE.ev,AH.cells?,u.at_,apart];exact UC h8 hA) ?_
  refine EO (i:=i) (by omega) (BG (v:=wv (t.l.getD i 0)) (by
   simp only[AY,BJ,AE.ev,AH.cells?,u.ne qt hne,ht6,apart]
   have:i<t.l.length:=by show i<8;omega
   rw[BU,Ac,Ab this];rfl) (Df ?_))
  have hsum:s0.l.getD i 0+t.l.getD i 0=(s0.add t).l.getD i 0:=by
   match i,(show i<8 by omega)with
   | 0,_ | 1,_ | 2,_ | 3,_ | 4,_ | 5,_ | 6,_ | 7,_=>rfl
   | n+8,h=>omega
  rw[hsum]
  refine AA (v:=.ptr rs 0) rfl (EO (i:=i) (by omega) ?_)
  refine Aq (v:=.unk) (H':=H8.set rs (.cells ((KT (s0.add t).l s0.l (i+1)).map wv))) (by
   simp only[BC,AE.ev,AH.cells?,u.at_]
   show(if 1=1/\i+1<=((KT (s0.add t).l s0.l i).map wv).length then some (AV.unk,H8.set rs (.cells (Ap ((KT (s0.add t).l s0.l i).map wv) i [wv ((s0.add t).l.getD i 0)])))else none)=_
   rw[if_pos ⟨rfl,by simp[KT];rw[hA];omega⟩]
   unfold Ap
   rw[<- UB h8 hA]) ?_
  refine CE (b:=1) ⟨by omega,by omega⟩ ⟨⟨rfl,rfl,i+1,rfl,by omega,u.set⟩,?_⟩
  show _<μ4 (e 0) (e 11) (e 190) H8
  rw[hmu]
  show((8:Int)-((i:Int)+1)).toNat<_
  omega
 have hi8:i=8:=by omega
 subst hi8
 refine⟨rfl,H6,_,s,?_⟩
 rw[hnew]
 exact u
end
end Go.Proofs.YtlmkmpomgdbjhaaGreatDoor
namespace Go.AL
section
open Sha
variable [BQ]
inductive Bb:List (Nat × List AV)->List UInt8->AV->Prop
 | nil:Bb [] [] .nils
 | op (r:Nat) {bs:List UInt8} (h:bs≠[]):Bb [(r,bs.map bv)] bs (.sl r 0 bs.length (.op 1))
theorem Bb.len {o:List (Nat × List AV)}{bs:List UInt8}{v:AV}(h:Bb o bs v){K:AV->Prop}(hK:K (iv (bs.length:Int))):AB (.len (.cst v)) K:=by
 cases h with
 | nil=>exact AA (v:=iv 0) rfl hK
 | op r h=>exact AA (v:=iv (bs.length:Int)) rfl hK
section
variable {H0 H:AH}{L:List (Nat × List AV)}
theorem Bb.app {o:List (Nat × List AV)}{bs ys:List UInt8}{v x:AV}{K:AV->AH->Prop}(s:A2 H0 (o++L) H) (h:Bb o bs v) (hx:Ae 1 x H=some (ys.length,ys.map bv)) (hl:bs.length+ys.length<1099511627776)
  (hK:∀o' v' H',A2 H0 (o'++L) H'->Bb o' (bs++ys) v'->K v' H'):AO (.append 1 1 (.cst v) (.cst x)) H K:=by
 by_cases hy:ys=[]
 ·subst hy
  refine Aq (v:=v) (H':=H) ?_ (hK o v H s (by rw[DJ];exact h))
  cases h with
  | nil=>simp[BC,AE.ev,BO,hx]
  | op r h=>
   obtain⟨_,_,g3⟩:=s.l (r,_) (.head _)
   have g3:H.get r=some (.cells (bs.map bv)):=g3
   simp only[BC,AE.ev,BO,hx,AH.cells?,g3]
   simp
 ·have hyl:0<ys.length:=Ol.2 hy
  have hy0:¬ys.length=0:=by omega
  cases h with
  | nil=>
   have hb:ys.length*1<=140737488355328/\ys.length<=9223372036854775807:=by simp at hl;omega
   refine Aq (v:=.sl H.next 0 ys.length (.op 1)) (H':=H.push (.cells (ys.map bv))) (by
    simp only[BC,AE.ev,BO,hx]
    rw[if_neg hy0,if_pos hb]) ?_
   exact hK [(H.next,ys.map bv)] _ _ (A2.push (o:=ys.map bv) s) (by simpa using Bb.op H.next hy)
  | op r h=>
   obtain⟨_,_,g3⟩:=s.l (r,_) (.head _)
   have g3:H.get r=some (.cells (bs.map bv)):=g3
   refine Aq (v:=.sl H.next 0 (bs.length+ys.length) (.op 1)) (H':=(H.erase r).push (.cells (bs.map bv++ys.map bv))) (by
    simp only[BC,AE.ev,BO,hx,AH.cells?,g3]
    rw[if_neg hy0,if_pos ⟨trivial,by simp,by omega,by omega⟩]
    simp[AX]) ?_
   have s2:=(A2.erase (L:=L) s).push (o:=bs.map bv++ys.map bv)
   have s3:A2 H0 ([(H.next,(bs++ys).map bv)]++L) ((H.erase r).push (.cells (bs.map bv++ys.map bv))):=by
    rw[ET];exact s2
   refine hK [(H.next,(bs++ys).map bv)] _ _ s3 ?_
   have:=Bb.op H.next (bs:=bs++ys) (by simp[hy])
   rwa [AW]at this
theorem Bb.Qv {o:List (Nat × List AV)}{bs:List UInt8}{b:UInt8}{v:AV}{z:List AV}{K:AV->AH->Prop}(s:A2 H0 (o++L) H) (h:Bb o bs v) (hz:z.length=1) (hl:bs.length+1<1099511627776)
  (hK:∀o' v' H',A2 H0 (o'++L) H'->Bb o' (bs++[b]) v'->K v' H'):AO (.buildSlice 1 1 z [(0,1,(.cst (bv b)))]) H fun v17 h17=>AO (.append 1 1 (.cst v) (.cst v17)) h17 K:=by
 obtain⟨z0,rfl⟩:∃z0,z=[z0]:=by
  match z,hz with
  | [z0],_=>exact⟨z0,rfl⟩
 refine Aq (v:=.sl H.next 0 1 (.ex 1)) (H':=H.push (.cells [bv b])) rfl ?_
 have s1:A2 H0 (o++(H.next,[bv b])::L) (H.push (.cells [bv b])):=(s.push (o:=[bv b])).perm HW
 refine Bb.app (ys:=[b]) s1 h (by simp[Ae,AH.cells?,AH.Ai]) hl fun o' v' H' s' h'=>hK o' v' H' (s'.sub ?_) h'
 exact(List.Sublist.cons _ (DN _)).append_left o'
end
def It (bs:List UInt8) (v:AV):Prop:=(bs=[]/\v=.nils)\/∃b,v=.sim (bs.map bv) bs.length b
theorem It.cells {bs:List UInt8}{v:AV}(h:It bs v) (H:AH):Ae 1 v H=some (bs.length,bs.map bv):=by
 rcases h with⟨rfl,rfl⟩ | ⟨b,rfl⟩
 ·rfl
 ·simp[Ae]
theorem It.len {bs:List UInt8}{v:AV}(h:It bs v){K:AV->Prop}(hK:K (iv (bs.length:Int))):AB (.len (.cst v)) K:=by
 rcases h with⟨rfl,rfl⟩ | ⟨b,rfl⟩
 ·exact AA (v:=iv 0) rfl hK
 ·exact AA (v:=iv (bs.length:Int)) rfl hK
abbrev uv (n:Nat):AV:=.int .u64 (n:Int)
theorem Ej (n:Int):IntKind.u64.wrap n=n % 18446744073709551616:=by simp[IntKind.wrap,IntKind.bits,IntKind.signed]
section
variable {K:AV->Prop}
theorem lP {n:Nat}(h:n<9223372036854775808) (hK:K (uv n)):AB (.convI .u64 (.cst (iv (n:Int)))) K:=AA (by
 show some (AV.int .u64 (IntKind.u64.wrap (n:Int)))=_
 rw[Ej,show((n:Int) % 18446744073709551616)=(n:Int)by omega]) hK
theorem lQ {a b:Nat}(h:a+b<18446744073709551616) (hK:K (uv (a+b))):AB (.bin .add (.cst (uv a)) (.cst (uv b))) K:=AA (by
 show some (AV.int .u64 (IntKind.u64.wrap ((a:Int)+(b:Int))))=_
 rw[Ej,show(((a:Int)+(b:Int)) % 18446744073709551616)=((a+b:Nat):Int)by omega]) hK
theorem gj {a:Nat}(h:8*a<18446744073709551616) (hK:K (uv (8*a))):AB (.bin .mul (.cst (N .u64 8)) (.cst (uv a))) K:=AA (by
 show some (AV.int .u64 (IntKind.u64.wrap ((8:Int)*(a:Int))))=_
 rw[Ej,show(((8:Int)*(a:Int)) % 18446744073709551616)=((8*a:Nat):Int)by omega]) hK
theorem ZL {a k:Nat}(hk:k<64) (hK:K (uv (a >>> k))):AB (.bin .shr (.cst (uv a)) (.cst (iv (k:Int)))) K:=AA (by
 show(if (0:Int)<=(k:Int)then some (AV.int .u64 ((a:Int).fdiv (2 ^ (min ((k:Int).toNat) 64))))else none)=_
 rw[if_pos (by omega),CL,B7 (by omega),LO]
 rw[E4 _ (by exact WW (by omega))]
 norm_cast) hK
theorem ZK {a:Nat}(hK:K (bv (UInt8.ofNat a))):AB (.convI .u8 (.cst (uv a))) K:=AA (by
 show some (AV.int .u8 (IntKind.u8.wrap (a:Int)))=some (AV.int .u8 ((UInt8.ofNat a).toNat:Int))
 have e:IntKind.u8.wrap (a:Int)=((a % 256:Nat):Int):=by simp[IntKind.wrap,IntKind.bits,IntKind.signed]
 rw[e,UInt8.toNat_ofNat']) hK
end
theorem Jm (n:Nat):(Ut n).length=8:=rfl
theorem Rj (n k:Nat) (hk:k<8):(Ut n).take k++[UInt8.ofNat (n >>> (56-8*k))]=(Ut n).take (k+1):=by
 match k,hk with
 | 0,_ | 1,_ | 2,_ | 3,_ | 4,_ | 5,_ | 6,_ | 7,_=>rfl
 | n+8,h=>omega
theorem OM (m:List UInt8):(pad m).length=m.length+1+Cy m.length+8:=by simp[pad,Jm];omega
theorem SZ (m:List UInt8):(pad m).length % 64=0:=by rw[OM];unfold Cy;omega
theorem Jk:∀(n:Nat) (b:List UInt8) (s:S8),blocks (n+1) b s=compress (blocks n b s) ((b.drop (64*n)).take 64)
 | 0,b,s=>by simp[blocks]
 | n+1,b,s=>by
  show blocks (n+1) (b.drop 64) (compress s (b.take 64))=_
  rw[Jk n,De,show 64+64*n=64*(n+1)by omega];rfl
end
end Go.AL
namespace Go.Proofs.YtlmkmpomgdbjhaaGreatDoor
open Tryz
section
open Go Go.AL Go.AL.Sha
variable [BQ]
abbrev Rw (parts:List (List UInt8)):Nat->List AV->Prop:=fun i c=>∃v bs,c=[v]/\parts[i]?=some bs/\It bs v
def qK (H:AH) (p:List UInt8):Nat->AH->List AV->Prop:=fun i Hi x=>∃r lim cs,x=[.sl r (64*i) 64 lim]/\H.next<=r/\r<Hi.next/\Hi.get r=some (.cells cs)/\∀j,j<64->cs[64*i+j]?=some (bv (((p.drop (64*i)).take 64).getD j 0))
def qM:(Nat->AH->Prop)->Prop:=fun I=>∀i H1 H2,I i H1->C9 H1 H2->I i H2
def qL (H:AH):AH->AH->Prop:=fun H1 H2=>∀r,H.next<=r->r<H1.next->H2.get r=H1.get r
set_option maxHeartbeats 2000000 in
theorem bx {H:AH}{cb:Nat}{pv:AV}{parts:List (List UInt8)}(hcb:H.get cb=some (.cells [pv])) (hp:FL 1 (Rw parts) parts.length pv) (hpn:parts.length<1099511627776) (hl:parts.flatten.length<68719476736) :
  M3 prog 303 [.ptr cb 0] H ((pad parts.flatten).length / 64) (qK H (pad parts.flatten)) qM (qL H):=uU fun l I hCl hI=>by
 unfold kU
 refine BG (v:=pv) (by simp[AY,BJ,AE.ev,AH.cells?,hcb,apart]) (hp.len ?_)
 let I1:AV->AV->AV->AV->AV->AV->AH->Prop:=fun e0 e3 e4 e8 e9 e10 H'=>e0=.fn (.yield l) [] []/\e8=pv/\e9=iv (parts.length:Int)/\∃(i:Nat) (o:List (Nat × List AV)),e10=iv (i:Int)/\i<=parts.length/\e4=uv (parts.take i).flatten.length/\Bb o (parts.take i).flatten e3/\A2 H (o++[]) H'
 let μ1:AV->AV->AV->AV->AV->AV->AH->Nat:=fun _ _ _ _ _ e10 _=>match e10 with
  | .int _ j=>((parts.length:Int)-j).toNat
  | _=>0
 refine⟨I1,μ1,⟨rfl,rfl,rfl,0,[],rfl,by omega,rfl,.nil,A2.start H⟩,?_⟩
 intro e H2 hIv
 obtain⟨e0,e8,e9,i,o,e10,hi,e4,hB,s⟩:=(hIv:I1 (e 0) (e 3) (e 4) (e 8) (e 9) (e 10) H2)
 have hmu:μ1 (e 0) (e 3) (e 4) (e 8) (e 9) (e 10) H2=((parts.length:Int)-(i:Int)).toNat:=by rw[e10]
 show AB (.bin .lss (.cst (e 10)) (.cst (e 9))) _
 rw[e0,e4,e8,e9,e10]
 refine Cn (fun hlt=>B8 ?_) (fun hlt=>Bu ?_)
 ·have hi':i<parts.length:=by omega
  refine hp.gD hi' fun x _ hx=>?_
  obtain⟨x',bs,hx1,hbs,hF⟩:=hx
  cases hx1
  have hfl:(parts.take (i+1)).flatten=(parts.take i).flatten++bs:=by rw[Cr,hbs,G4];simp
  have hle:(parts.take (i+1)).flatten.length<=parts.flatten.length:=(by
   have h:=congrArg List.flatten (Fo (i+1) parts)
   rw[G4]at h
   rw[<- h,AW];omega)
  rw[hfl,AW]at hle
  refine hB.app s (hF.cells _) (by omega) fun o' v' H3 s3 hB3=>hF.len (lP (by omega) (lQ (by omega) ?_))
  rw[<- AW,<- hfl]
  rw[<- hfl]at hB3
  refine CE (b:=1) ⟨by omega,by omega⟩ ⟨⟨rfl,rfl,rfl,i+1,o',rfl,by omega,rfl,hB3,s3⟩,?_⟩
  show _<μ1 (e 0) (e 3) (e 4) (e 8) (e 9) (e 10) H2
  rw[hmu]
  show((parts.length:Int)-((i:Int)+1)).toNat<_
  omega
 have hin:i=parts.length:=by omega
 subst hin
 rw[AX (A4 _)]at hB ⊢
 generalize parts.flatten=m at hl hB ⊢
 refine hB.Qv (b:=128) s rfl (by omega) fun o1 v1 H3 s hB=>?_
 clear hmu
 have hz:Cy m.length<64:=by unfold Cy;omega
 let I2:AV->AV->AV->AH->Prop:=fun e0 e3 e4 H'=>e0=.fn (.yield l) [] []/\e4=uv m.length/\∃(j:Nat) (o:List (Nat × List AV)),j<=Cy m.length/\Bb o (m++128::List.replicate j 0) e3/\A2 H (o++[]) H'
 let μ2:AV->AV->AV->AH->Nat:=fun _ e3 _ _=>match e3 with
  | .sl _ _ n _=>m.length+1+Cy m.length-n
  | _=>0
 refine⟨I2,μ2,⟨rfl,rfl,0,o1,by omega,hB,s⟩,?_⟩
 clear s e0 e4 e8 e9 e10 hB hi
 intro e H4 hIv
 obtain⟨e0,e4,j,o,hj,hB,s⟩:=(hIv:I2 (e 0) (e 3) (e 4) H4)
 have hlen:(m++128::List.replicate j (0:UInt8)).length=m.length+1+j:=by simp;omega
 have hmu:μ2 (e 0) (e 3) (e 4) H4=Cy m.length-j:=by
  generalize hq:m++128::List.replicate j (0:UInt8)=q at hB hlen
  generalize e 3=e3 at hB
  cases hB with
  | nil=>cases m<;>simp at hq
  | op r h=>show m.length+1+Cy m.length-q.length=_;omega
 show AB (.len (.cst (e 3))) _
 rw[e0,e4]
 refine hB.len (Tk (b:=64) (by omega) (by omega) (bt (b:=56) (fun hne=>B8 ?_) (fun he=>Bu ?_)))
 ·rw[hlen]at hne
  have hjz:j<Cy m.length:=by unfold Cy at hj ⊢;omega
  refine hB.Qv (b:=0) s rfl (by rw[hlen];omega) fun o' v' H5 s5 hB5=>?_
  have e1:m++128::List.replicate j (0:UInt8)++[0]=m++128::List.replicate (j+1) 0:=by rw[List.replicate_succ'];simp
  rw[e1]at hB5
  refine⟨⟨rfl,rfl,j+1,o',by omega,hB5,s5⟩,?_⟩
  show μ2 (.fn (.yield l) [] []) v' (uv m.length) H5<μ2 (e 0) (e 3) (e 4) H4
  rw[hmu]
  have hlen2:(m++128::List.replicate (j+1) (0:UInt8)).length=m.length+1+(j+1):=by simp;omega
  generalize hq:m++128::List.replicate (j+1) (0:UInt8)=q at hB5 hlen2
  cases hB5 with
  | nil=>cases m<;>simp at hq
  | op r h=>show m.length+1+Cy m.length-q.length<_;omega
 rw[hlen]at he
 have hjz:j=Cy m.length:=by unfold Cy at hj ⊢;omega
 subst hjz
 clear hmu
 let I3:AV->AV->AV->AV->AH->Prop:=fun e0 e3 e4 e7 H'=>e0=.fn (.yield l) [] []/\e4=uv m.length/\∃(k:Nat) (o:List (Nat × List AV)),e7=iv (56-8*(k:Int))/\k<=8/\Bb o ((m++128::List.replicate (Cy m.length) 0)++(Ut (8*m.length)).take k) e3/\A2 H (o++[]) H'
 let μ3:AV->AV->AV->AV->AH->Nat:=fun _ _ _ e7 _=>match e7 with
  | .int _ j=>(j+8).toNat
  | _=>0
 refine⟨I3,μ3,⟨rfl,rfl,0,o,rfl,by omega,(by rw[Iz,DJ];exact hB),s⟩,?_⟩
 clear s e0 e4 hB
 intro e H5 hIv
 obtain⟨e0,e4,k,o,e7,hk,hB,s⟩:=(hIv:I3 (e 0) (e 3) (e 4) (e 7) H5)
 have hmu:μ3 (e 0) (e 3) (e 4) (e 7) H5=(56-8*(k:Int)+8).toNat:=by rw[e7]
 show AB (.bin .geq (.cst (e 7)) (.cst (Go.AL.I 0))) _
 rw[e0,e4,e7]
 refine gB (b:=0) (fun hge=>B8 ?_) (fun hge=>Bu ?_)
 ·have hk8:k<8:=by omega
  refine gj (by omega) ?_
  rw[show(56:Int)-8*(k:Int)=((56-8*k:Nat):Int)by omega]
  refine ZL (by omega) (ZK ?_)
  refine hB.Qv s rfl (by simp[Jm];omega) fun o' v' H6 s6 hB6=>?_
  rw[Ar,Rj _ _ hk8]at hB6
  refine DP (b:=8) ⟨by omega,by omega⟩ ⟨⟨rfl,rfl,k+1,o',?_,by omega,hB6,s6⟩,?_⟩
  ·show iv (((56-8*k:Nat):Int)-8)=iv (56-8*((k+1:Nat):Int))
   rw[show(((56-8*k:Nat):Int)-8)=56-8*((k+1:Nat):Int)by omega]
  show(((56-8*k:Nat):Int)-8+8).toNat<μ3 (e 0) (e 3) (e 4) (e 7) H5
  rw[hmu]
  omega
 have hk8:k=8:=by omega
 subst hk8
 clear hmu
 have hpad:(m++128::List.replicate (Cy m.length) 0)++(Ut (8*m.length)).take 8=pad m:=by rw[List.take_of_length_le (by rw[Jm];omega)];unfold pad;simp
 rw[hpad]at hB
 have hpl:=OM m
 have hpm:=SZ m
 have hN:(pad m).length=64*((pad m).length / 64):=by omega
 have hI5:I 0 H5:=hCl 0 H H5 hI s.k
 obtain⟨r,hr1,hr2,hr3,he3⟩:∃r,H.next<=r/\r<H5.next/\H5.get r=some (.cells ((pad m).map bv))/\e 3=.sl r (64*0) (64*((pad m).length / 64)-64*0) (.op 1):=by
  generalize hq:pad m=q at hB hpl hN
  generalize e 3=e3 at hB
  cases hB with
  | nil=>simp at hpl
  | op r h=>
   obtain⟨g1,g2,g3⟩:=s.l (r,_) (.head _)
   exact⟨r,g1,g2,g3,by rw[<- hN,Nat.mul_zero,Nat.sub_zero]⟩
 rw[he3]
 generalize hNN:(pad m).length / 64=N at hN ⊢
 let I4:AV->AV->AH->Prop:=fun e0 e3 H'=>e0=.fn (.yield l) [] []/\∃i:Nat,i<=N/\e3=.sl r (64*i) (64*N-64*i) (.op 1)/\r<H'.next/\H'.get r=some (.cells ((pad m).map bv))/\I i H'
 let μ4:AV->AV->AH->Nat:=fun _ e3 _=>match e3 with
  | .sl _ _ n _=>n
  | _=>0
 refine⟨I4,μ4,⟨rfl,0,by omega,rfl,hr2,hr3,hI5⟩,?_⟩
 clear s e0 e4 e7 hB hr2 hr3 hI5 he3
 intro e H6 hIv
 obtain⟨e0,i,hi,e3,hr2,hr3,hIi⟩:=(hIv:I4 (e 0) (e 3) H6)
 have hmu:μ4 (e 0) (e 3) H6=64*N-64*i:=by rw[e3]
 show AB (.len (.cst (e 3))) _
 rw[e0,e3]
 refine AA (v:=iv ((64*N-64*i:Nat):Int)) rfl (XX (b:=0) (fun hgt=>B8 ?_) (fun hgt=>Bu ?_))
 ·have hiN:i<N:=by omega
  refine AA (v:=.sl r (64*i) 64 (.op 1)) (by
   show(if (1:Nat)=1/\(0:Int)<=0/\(0:Int)<=64/\(64:Int)<=((64*N-64*i:Nat):Int)then some (AV.sl r (64*i+(0:Int).toNat*1) ((64:Int)-0).toNat (.op 1))else none)=_
   rw[if_pos ⟨rfl,by omega,by omega,by omega⟩];rfl) ?_
  refine(show _/\_ from⟨rfl,i,hiN,⟨r,.op 1,_,rfl,hr1,hr2,hr3,fun j hj=>?_⟩,hIi,fun H7 hle hI7 hG7=>?_⟩)
  ·have hlt:64*i+j<(pad m).length:=by omega
   rw[BU,Ab hlt,Ac,GZ hj,DD,Ab hlt];rfl
  ·have hg7:H7.get r=some (.cells ((pad m).map bv)):=by rw[hG7 r hr1 hr2];exact hr3
   show AB (.un .not (.cst (.bool true))) _
   refine Tl (Bu ?_)
   refine AA (v:=.sl r (64*(i+1)) (64*N-64*(i+1)) (.op 1)) (by
    show(if (1:Nat)=1/\(0:Int)<=64/\(64:Int)<=((64*N-64*i:Nat):Int)/\((64*N-64*i:Nat):Int)<=((64*N-64*i:Nat):Int)then some (AV.sl r (64*i+(64:Int).toNat*1) ((((64*N-64*i:Nat):Int))-64).toNat (.op 1))else none)=_
    rw[if_pos ⟨rfl,by omega,by omega,by omega⟩]
    congr 2
    omega) ?_
   refine⟨⟨rfl,i+1,by omega,rfl,C6 hr2 hle,hg7,hI7⟩,?_⟩
   show 64*N-64*(i+1)<μ4 (e 0) (e 3) H6
   rw[hmu]
   omega
 have hiN:i=N:=by omega
 subst hiN
 exact⟨⟨_,rfl⟩,hIi⟩
end
end Go.Proofs.YtlmkmpomgdbjhaaGreatDoor
namespace Go.AL
section
open Sha
variable [BQ]
theorem VK {a:UInt32}{k:Nat}{K:AV->Prop}(hk:k<32) (hK:K (wv (a >>> UInt32.ofNat k))):AB (.bin .shr (.cst (wv a)) (.cst (iv (k:Int)))) K:=by
 have e:(UInt32.ofNat k).toNat=k:=by rw[LS];omega
 refine AA ?_ hK
 show(if (0:Int)<=(k:Int)then some (AV.int .u32 ((a.toNat:Int).fdiv (2 ^ (min ((k:Int).toNat) 32))))else none)=some (AV.int .u32 ((a >>> UInt32.ofNat k).toNat:Int))
 rw[if_pos (by omega),UInt32.toNat_shiftRight,CL,B7 (by omega),e,B4 hk,LO]
 congr 2
 rw[E4 _ (by exact WW (by omega))]
 norm_cast
theorem P4:∀(l:List UInt32) (j k:Nat),k<4->j<l.length->(l.flatMap Sha.bytes)[4*j+k]?=some ((l.getD j 0 >>> UInt32.ofNat (24-8*k)).toUInt8)
 | [],j,k,_,h=>by simp at h
 | x::l,0,k,hk,_=>by
  rw[Gb,Dr (by show 4*0+k<4;omega)]
  match k,hk with
  | 0,_ | 1,_ | 2,_=>rfl
  | 3,_=>
   show some x.toUInt8=some (x >>> 0).toUInt8
   simp
  | k+4,h=>omega
 | x::l,j+1,k,hk,h=>by
  rw[Gb,C4 (by show 4<=_;omega),show 4*(j+1)+k-(Sha.bytes x).length=4*j+k by show 4*(j+1)+k-4=_;omega,P4 l j k hk (by simpa using h)]
  rfl
theorem CS (s:S8):(s.l.flatMap Sha.bytes).length=32:=rfl
theorem Dn:∀(l:List UInt8) (k:Nat),Gy k (l.map bv)
 | [],_=>.nil
 | _::l,k=>.cons (.int _ _) (Dn l k)
def IM (n:Nat) (l:List UInt8):List AV:=(l++List.replicate (n-l.length) 0).map bv
theorem Lw {n:Nat}{l:List UInt8}(h:l.length<=n):(IM n l).length=n:=by simp[IM];omega
theorem Lu {n:Nat}{l:List UInt8}{x:UInt8}(h:l.length<n):Ap (IM n l) l.length [bv x]=IM n (l++[x]):=by
 unfold Ap IM
 have e:n-l.length=(n-1-l.length)+1:=by omega
 have e2:n-(l++[x]).length=n-1-l.length:=by rw[AW,Ok];omega
 show(List.map bv (l++List.replicate (n-l.length) 0)).set l.length (bv x)=_
 rw[e2,e,OA,<- LX,G3 _ _ (A4 _),HB,Oo,Ar];rfl
theorem KB {n:Nat}{l:List UInt8}(h:l.length=n):IM n l=l.map bv:=by unfold IM;rw[h,Nat.sub_self];simp
theorem A2.GJ {H0 H H':AH}{L:List (Nat × List AV)}(h:A2 H0 L H) (hk:C9 H H'):A2 H0 L H':=
 ⟨h.k.trans hk,fun x hx=>let ⟨a,b,c⟩:=h.l x hx;⟨a,C6 b hk.nx,by rw[hk.get _ b];exact c⟩,h.nd⟩
theorem A2.up {H0 H Hb H':AH}{L L2:List (Nat × List AV)}{r:Nat}{c c':List AV}(h:A2 H0 ((r,c)::L) H) (h2:A2 H L2 Hb) (u:Up Hb r c' H'):A2 H0 ((r,c')::L) H':=by
 have hnd:=h.nd
 rw[B1,GC]at hnd
 obtain⟨g1,g2,g3⟩:=h.l _ (.head _)
 refine⟨⟨Cq h.k.nx (by rw[u.nx];exact h2.k.nx),fun q hq=>?_,u.gl.trans (h2.k.gl.trans h.k.gl)⟩,fun w hw=>?_,by rw[B1,GC];exact hnd⟩
 ·have hqn:=C6 hq h.k.nx
  rw[u.ne q (by simp only at g1;omega),h2.k.get q hqn,h.k.get q hq]
 ·cases hw with
  | head=>exact⟨g1,C6 g2 (by rw[u.nx];exact h2.k.nx),u.at_⟩
  | tail _ hw=>
   obtain⟨k1,k2,k3⟩:=h.l w (.tail _ hw)
   refine⟨k1,C6 k2 (by rw[u.nx];exact h2.k.nx),?_⟩
   rw[u.ne w.1 (fun e=>hnd.1 (Bk.2 ⟨w,hw,e⟩)),h2.k.get _ k2,k3]
end
end Go.AL
namespace Go.Proofs.YtlmkmpomgdbjhaaGreatDoor
open Tryz
section
open Go Go.AL Go.AL.Sha
variable [BQ]
theorem vN {H:AH}{pv:AV}(h1:pv.cellsOf=some [pv]):AQ prog 182 [pv] H fun o H'=>o=.ret (.fn (.func 303) [] [.ptr H.next 0])/\H'=H.push (.cells [pv]):=by
 refine tC ?_
 unfold oz
 exact Aq (v:=.ptr H.next 0) (H':=H.push (.cells [pv])) (by simp[BC,AE.ev,h1]) ⟨rfl,rfl⟩
set_option maxHeartbeats 2000000 in
theorem bO [Bj] {H:AH}{pv:AV}{parts:List (List UInt8)}(hg:H.gl=BQ.G) (hp:FL 1 (Rw parts) parts.length pv) (hpn:parts.length<1099511627776) (hl:parts.flatten.length<68719476736) :
  CP prog 88 [pv] H fun x=>x=.agg ((sum parts.flatten).map bv):=CP.of <| by
 refine z_ ?_
 unfold xT
 refine(A2.start H).alloc fun q1 H1 s=>?_
 refine AA (v:=.agg (init.l.map wv)) rfl ?_
 refine s.alloc fun rs H2 s=>s.DZ (vs:=init.l.map wv) rfl rfl fun H3 s=>?_
 refine BA (vN hp.one) (fun v H4 h4=>?_) (fun v H4 h4=>by cases h4.1)
 obtain⟨hv,rfl⟩:=h4
 cases hv
 have s5:=s.push (o:=[pv])
 generalize hcbe:H3.next=cb at s5
 generalize hH5:H3.push (.cells [pv])=H5 at s5
 obtain⟨_,hcb2,hcb3⟩:=s5.l _ (.head _)
 obtain⟨_,hrs5,_⟩:=s5.l _ (.tail _ (.head _))
 have s6:=s5.sub (E0 _ _)
 generalize hm:parts.flatten=m at hl
 have hpm:=SZ m
 have hN:(pad m).length=64*((pad m).length / 64):=by omega
 refine⟨303,[.ptr cb 0],(pad m).length / 64,qK H5 (pad m),qM,qL H5,fun i Hi=>A2 H [(rs,(blocks i (pad m) init).l.map wv),(q1,BD 32 (N .u8 0) [])] Hi,rfl,?_,fun i Ha Hb h hk=>h.GJ hk,s6,?_,?_⟩
 ·rw[<- hm]at hl ⊢
  exact bx hcb3 hp hpn hl
 ·intro i x Hi hi hx hIi hle
  obtain⟨r,lim,cs,rfl,g1,g2,g3,g4⟩:=hx
  show AF prog 183 [.ptr rs 0,.sl r (64*i) 64 lim] Hi SF _
  obtain⟨k1,k2,k3⟩:=hIi.l _ (.head _)
  refine BA (vM (hIi.k.gl.trans hg) k3 g3 g4 (by rw[BL,B3];omega) k2 g2) (fun v H' hpost=>?_) (fun v H' hpost=>by cases hpost.1)
  obtain⟨_,Hb,L,hs,u⟩:=hpost
  rw[<- Jk]at u
  refine⟨hIi.up hs u,fun q hq1 hq2=>?_⟩
  have hrs5:rs<H5.next:=hrs5
  rw[u.ne q (by omega),hs.k.get q hq2]
 intro H6 s
 have s:A2 H [(rs,(blocks ((pad m).length / 64) (pad m) init).l.map wv),(q1,BD 32 (N .u8 0) [])] H6:=s
 have hsum:sum m=(blocks ((pad m).length / 64) (pad m) init).l.flatMap Sha.bytes:=rfl
 rw[hsum]
 generalize blocks ((pad m).length / 64) (pad m) init=t at s
 refine s.alloc fun qd H7 s=>?_
 have s:A2 H [(qd,IM 32 ((t.l.flatMap Sha.bytes).take 0)),(rs,t.l.map wv),(q1,BD 32 (N .u8 0) [])] H7:=s
 let I1:AV->AV->AV->AV->AH->Prop:=fun e2 e3 e5 e13 H'=>e2=.ptr q1 0/\e3=.ptr rs 0/\e5=.ptr qd 0/\∃i:Nat,e13=iv (i:Int)/\i<=32/\A2 H [(qd,IM 32 ((t.l.flatMap Sha.bytes).take i)),(rs,t.l.map wv),(q1,BD 32 (N .u8 0) [])] H'
 let μ1:AV->AV->AV->AV->AH->Nat:=fun _ _ _ e13 _=>match e13 with
  | .int _ j=>((32:Int)-j).toNat
  | _=>0
 refine⟨I1,μ1,⟨rfl,rfl,rfl,0,rfl,by omega,s⟩,?_⟩
 clear s
 intro e H8 hIv
 obtain⟨e2,e3,e5,i,e13,hi,s⟩:=(hIv:I1 (e 2) (e 3) (e 5) (e 13) H8)
 have hmu:μ1 (e 2) (e 3) (e 5) (e 13) H8=((32:Int)-(i:Int)).toNat:=by rw[e13]
 show AB (.bin .lss (.cst (e 13)) (.cst (I 32))) _
 rw[e2,e3,e5,e13]
 refine Cn (b:=32) (fun hlt=>B8 ?_) (fun hlt=>Bu ?_)
 ·refine fW (b:=4) (by omega) (by omega) (by omega) ?_
  rw[show(i:Int) / 4=((i / 4:Nat):Int)by omega]
  refine EO (i:=i / 4) (by omega) ?_
  have hi8:i / 4<t.l.length:=by show i / 4<8;omega
  refine s.ld (o:=i / 4) (x:=wv (t.l.getD (i / 4) 0)) (.tail _ (.head _)) (by rw[BU,Ac,Ab hi8];rfl) ?_
  refine Tk (b:=4) (by omega) (by omega) (Hd (a:=8) ⟨by omega,by omega⟩ (DP (a:=24) ⟨by omega,by omega⟩ ?_))
  rw[show(24:Int)-8*((i:Int) % 4)=((24-8*(i % 4):Nat):Int)by omega]
  refine VK (by omega) (fR (EO (i:=i) (by omega) ?_))
  have hget:=P4 t.l (i / 4) (i % 4) (by omega) hi8
  rw[show 4*(i / 4)+i % 4=i by omega]at hget
  generalize (t.l.getD (i / 4) 0 >>> UInt32.ofNat (24-8*(i % 4))).toUInt8=b at hget
  have hti:((t.l.flatMap Sha.bytes).take i).length=i:=by rw[BL,CS];omega
  refine s.put (vs:=[bv b]) rfl rfl (by rw[Lw (by rw[hti];omega)];omega) fun H9 s9=>?_
  have hps:=Lu (n:=32) (l:=(t.l.flatMap Sha.bytes).take i) (x:=b) (by omega)
  rw[hti]at hps
  rw[hps,show(t.l.flatMap Sha.bytes).take i++[b]=(t.l.flatMap Sha.bytes).take (i+1)by rw[Cr,hget];rfl]at s9
  refine CE (b:=1) ⟨by omega,by omega⟩ ⟨⟨rfl,rfl,rfl,i+1,rfl,by omega,s9⟩,?_⟩
  show _<μ1 (e 2) (e 3) (e 5) (e 13) H8
  rw[hmu]
  show((32:Int)-((i:Int)+1)).toNat<_
  omega
 have hi32:i=32:=by omega
 subst hi32
 rw[AX (by rw[CS];omega),KB (CS t)]at s
 refine s.Gx (.head _) (by rw[Au,CS]) ?_
 have s2:A2 H ((q1,BD 32 (N .u8 0) [])::[(qd,(t.l.flatMap Sha.bytes).map bv),(rs,t.l.map wv)]) H8:=s.perm (by
  show List.Perm ([(q1,BD 32 (N .u8 0) [])]++[(qd,(t.l.flatMap Sha.bytes).map bv),(rs,t.l.map wv)]) _
  exact Jy)
 refine s2.DZ (by rw[Au,CS]) rfl fun H9 s=>s.Gx (.head _) (by rw[Au,CS]) ?_
 exact s.Mo (fun k=>.agg (Dn _ k)) rfl
end
end Go.Proofs.YtlmkmpomgdbjhaaGreatDoor
namespace Go.AL
section
variable [BQ]
theorem OY {t:Nat}(h:t<4611686018427387904):MM (false,[.i .i64]) (iv (t:Int))=some [Lit.int .i64 (t:Int)]:=by
 have hw:(Lit.int .i64 (t:Int)).wf=true:=by
  show(decide (IntKind.i64.min<=(t:Int))&&decide ((t:Int)<=IntKind.i64.max))=true
  have e1:IntKind.i64.min=-9223372036854775808:=by decide
  have e2:IntKind.i64.max=9223372036854775807:=by decide
  rw[e1,e2,AS,decide_eq_true_eq,decide_eq_true_eq]
  omega
 simp[MM,YT,iv,hw]
theorem Vs {a b:Nat}(h:iv (a:Int)=iv (b:Int)):a=b:=by
 have h2:(a:Int)=b:=by simpa[iv]using h
 omega
theorem vz {t:Nat}:∀{es:List (AV × AV × Nat)},(∀k∈es.map (·.1),∃s:Nat,k=iv (s:Int)/\s<4611686018427387904)->(es.map (·.1)).Nodup->∃r,HK (false,[.i .i64]) [Lit.int .i64 (t:Int)] es=some r /\
  (r=none->iv (t:Int) ∉ es.map (·.1))/\∀j v,r=some (j,v)->∃e,es[j]?=some e/\e.1=iv (t:Int)
 | [],_,_=>⟨none,rfl,fun _=>by simp,fun j v h=>by cases h⟩
 | (k,x,n)::es,hk,hn=>by
  obtain⟨s,hs,hlt⟩:=hk k (BY ..)
  subst hs
  rw[B1,GC]at hn
  obtain⟨r,h1,h2,h3⟩:=vz (t:=t) (fun e he=>hk e (Cx _ he)) hn.2
  by_cases hst:s=t
  ·subst hst
   have hr:r=none:=by
    cases r with
    | none=>rfl
    | some p=>
     obtain⟨e,he,h4⟩:=h3 p.1 p.2 rfl
     exact absurd (Bk.2 ⟨e,CK he,h4⟩) hn.1
   subst hr
   refine⟨some (0,x),?_,fun h=>(by cases h),fun j v h=>?_⟩
   ·simp[HK,OY hlt,h1,FH,XB]
   ·cases h;exact⟨_,rfl,rfl⟩
  ·have hne:FH [Lit.int .i64 (s:Int)] [Lit.int .i64 (t:Int)]=false:=by
    cases hq:FH [Lit.int .i64 (s:Int)] [Lit.int .i64 (t:Int)]with
    | false=>rfl
    | true=>
     have:=Eg.1 hq
     simp at this
     omega
   refine⟨r.map fun p=>(p.1+1,p.2),?_,fun h=>?_,fun j v h=>?_⟩
   ·simp only[HK,OY hlt,h1,hne,cond_false]
   ·cases r with
    | some p=>cases h
    | none=>
     intro hm
     rw[B1,DF]at hm
     rcases hm with hm | hm
     ·exact hst (Vs hm).symm
     ·exact h2 rfl hm
   ·cases r with
    | none=>cases h
    | some p=>
     simp only[FA,AD,Ao]at h
     obtain⟨rfl,rfl⟩:=h
     obtain⟨e,he,h4⟩:=h3 p.1 p.2 rfl
     exact⟨e,by simpa using he,h4⟩
theorem Kt {α β:Type}{f:α->α}{g:α->β}:∀(l:List α) (j:Nat),(∀e,l[j]?=some e->g (f e)=g e)->(l.modify j f).map g=l.map g
 | [],j,_=>by simp
 | x::l,0,h=>by simp[h x rfl]
 | x::l,j+1,h=>by
  simp only[List.modify_succ_cons,B1]
  rw[Kt l j fun e he=>h e (by simpa using he)]
structure MK (es:List (AV × AV × Nat)) (clock:Nat) (S:Nat->Prop):Prop where
 key:∀k∈es.map (·.1),∃s:Nat,k=iv (s:Int)/\S s
 has:∀s:Nat,S s->iv (s:Int)∈es.map (·.1)
 nd:(es.map (·.1)).Nodup
 old:∀n∈es.map (·.2.2),n<clock
 Nq:(es.map (·.2.2)).Nodup
theorem MK.congr {es:List (AV × AV × Nat)}{clock:Nat}{S S':Nat->Prop}(h:MK es clock S) (hS:∀s,S s↔S' s):MK es clock S':=
 ⟨fun k hk=>let ⟨s,h1,h2⟩:=h.key k hk;⟨s,h1,(hS s).1 h2⟩,fun s hs=>h.has s ((hS s).2 hs),h.nd,h.old,h.Nq⟩
theorem MK.nil:MK [] 0 (fun _=>False):=⟨fun k hk=>(by simp at hk),fun s h=>h.elim,WV,fun n hn=>(by simp at hn),WV⟩
variable {H:AH}
theorem MK.gh {es:List (AV × AV × Nat)}{clock:Nat}{S:Nat->Prop}{t m:Nat}(hM:MK es clock S) (hS:∀s,S s->s<4611686018427387904) (ht:t<4611686018427387904) (hm:H.get m=some (.map es clock)){K:AV->AH->Prop}
  (hK:∀es' clock',MK es' clock' (fun x=>S x\/x=t)->K .unk (H.set m (.map es' clock'))):AO (.mapUpd (false,[.i .i64]) (.cst (.mp m)) (.cst (iv (t:Int))) (.cst (.bool true))) H K:=by
 obtain⟨r,h1,h2,h3⟩:=vz (t:=t) (fun k hk=>let ⟨s,h1,h2⟩:=hM.key k hk;⟨s,h1,hS s h2⟩) hM.nd
 cases r with
 | none=>
  have h2:=h2 rfl
  refine Aq (v:=.unk) (H':=H.set m (.map (es++[(iv (t:Int),.bool true,clock)]) (clock+1))) (by simp only[BC,AE.ev,OY ht,hm,h1]) (hK _ _ ⟨fun k hk=>?_,fun s hs=>?_,?_,fun n hn=>?_,?_⟩)
  ·rw[ET,BV]at hk
   rcases hk with hk | hk
   ·obtain⟨s,q1,q2⟩:=hM.key k hk
    exact⟨s,q1,.inl q2⟩
   ·simp only[B1,Nv,B9]at hk
    exact⟨t,hk,.inr rfl⟩
  ·rw[ET,BV]
   rcases hs with hs | rfl
   ·exact .inl (hM.has s hs)
   ·exact .inr (by simp)
  ·rw[ET,List.nodup_append]
   refine⟨hM.nd,by simp,fun a ha b hb=>?_⟩
   simp only[B1,Nv,B9]at hb
   subst hb
   rintro rfl
   exact h2 ha
  ·rw[ET,BV]at hn
   rcases hn with hn | hn
   ·have:=hM.old n hn;omega
   ·simp only[B1,Nv,B9]at hn
    omega
  ·rw[ET,List.nodup_append]
   refine⟨hM.Nq,by simp,fun a ha b hb=>?_⟩
   simp only[B1,Nv,B9]at hb
   subst hb
   have:=hM.old a ha
   omega
 | some p=>
  obtain⟨j,v⟩:=p
  obtain⟨e,he,hkey⟩:=h3 j v rfl
  have e1:(es.modify j fun x=>(iv (t:Int),AV.bool true,x.2.2)).map (·.1)=es.map (·.1):=Kt es j fun e' h'=>by rw[he]at h';cases h';exact hkey.symm
  have e2:(es.modify j fun x=>(iv (t:Int),AV.bool true,x.2.2)).map (·.2.2)=es.map (·.2.2):=Kt es j fun e' h'=>rfl
  have hin:iv (t:Int)∈es.map (·.1):=Bk.2 ⟨e,CK he,hkey⟩
  refine Aq (v:=.unk) (H':=H.set m (.map (es.modify j fun x=>(iv (t:Int),.bool true,x.2.2)) clock)) (by simp only[BC,AE.ev,OY ht,hm,h1]) (hK _ _ ⟨fun k hk=>?_,fun s hs=>?_,by rw[e1];exact hM.nd,by rw[e2];exact hM.old,by rw[e2];exact hM.Nq⟩)
  ·rw[e1]at hk
   obtain⟨s,q1,q2⟩:=hM.key k hk
   exact⟨s,q1,.inl q2⟩
  ·rw[e1]
   rcases hs with hs | rfl
   ·exact hM.has s hs
   ·exact hin
theorem cY {q m:Nat}{es:List (AV × AV × Nat)}{clock:Nat}{seen:List Nat}{cur:Option Nat}(hq:H.get q=some (.iter (some m) clock seen cur)) (hm:H.get m=some (.map es clock)) (ho:∀n∈es.map (·.2.2),n<clock){K:AV->AH->Prop}
  (h0:(∀e∈es,seen.contains e.2.2=true)->K (.tup [.bool false]) (H.set q (.iter (some m) clock seen none)))
  (h1:∀e∈es,seen.contains e.2.2=false->K (.tup [.bool true,e.1,e.2.1]) (H.set q (.iter (some m) clock (KU e.2.2 seen) (some e.2.2)))):VG (.ptr q 0) H K:=by
 have hok:rp es clock=true:=CW.2 fun e he=>by simpa using ho e.2.2 (Bk.2 ⟨e,he,rfl⟩)
 have e1:jM (.ptr q 0) H=some (some (q,match es.filter (fun x=>!seen.contains x.2.2)with
     | []=>[(.tup [.bool false],.iter (some m) clock seen none)]
     | y::l=>(y::l).map fun x=>(.tup [.bool true,x.1,x.2.1],.iter (some m) clock (KU x.2.2 seen) (some x.2.2)))):=by
  simp only[jM,hq,hm,hok,and_self,if_true]
  rfl
 have e2:=congrArg (fun o=>Option.rec (motive:=fun _=>Prop) False (fun l=>∀p∈l,K p.1 p.2) o) (show Jr (.ptr q 0) H=_ from by simp only[Jr,e1];rfl)
 refine Eq.mpr e2 ?_
 cases hf:es.filter (fun x=>!seen.contains x.2.2)with
 | nil=>
  intro p hp
  simp only[B1,Nv,B9]at hp
  subst hp
  refine h0 fun e he=>?_
  have:=Nz.1 hf e he
  simpa using this
 | cons y l=>
  intro p hp
  simp only[SC]at hp
  obtain⟨e,he,rfl⟩:=Bk.1 hp
  rw[<- hf,TP]at he
  exact h1 e he.1 (by simpa using he.2)
theorem Zl {q m:Nat}{es:List (AV × AV × Nat)}{clock:Nat}{seen:List Nat}{e:AV × AV × Nat}(hq:H.get q=some (.iter (some m) clock seen (some e.2.2))) (hm:H.get m=some (.map es clock)) (he:e∈es) (hb:(es.map (·.2.2)).Nodup) :
  AY (.entryM (.cst (.ptr q 0))) emp H=some (.tup [e.1,e.2.1]):=by
 have hf:∀(es:List (AV × AV × Nat)),e∈es->(es.map (·.2.2)).Nodup->es.find? (fun x=>x.2.2==e.2.2)=some e:=by
  intro es
  induction es with
  | nil=>intro h;cases h
  | cons y l ih=>
   intro he hb
   rw[B1,GC]at hb
   rw[List.find?_cons]
   rcases DF.1 he with rfl | he
   ·simp
   ·have:(y.2.2==e.2.2)=false:=by
     cases hh:y.2.2==e.2.2 with
     | false=>rfl
     | true=>exact absurd (Bk.2 ⟨e,he,(beq_iff_eq.1 hh).symm⟩) hb.1
    rw[this]
    exact ih he hb.2
 simp only[AY,AE.ev,K_,hq,hm,if_true,hf es he hb,FA]
def Yd (d:List (List Nat)):Nat->List Nat
 | 0=>[0]
 | n+1=>((Yd d n).flatMap fun s=>d.getD s []).eraseDups
def V9 (d:List (List Nat)) (acc:List Bool):Nat->Nat
 | 0=>0
 | n+1=>if (Yd d n).any (fun s=>acc.getD s false)then n else V9 d acc n
theorem W_ {d:List (List Nat)}{n t:Nat}:t∈Yd d (n+1)↔∃s,s∈Yd d n/\t∈d.getD s []:=by
 simp[Yd,List.mem_eraseDups,List.mem_flatMap]
theorem ZV {d:List (List Nat)}(h0:0<d.length) (hd:∀r∈d,∀t∈r,t<d.length):∀n t,t∈Yd d n->t<d.length
 | 0,t,h=>by simp[Yd]at h;omega
 | n+1,t,h=>by
  obtain⟨s,_,h2⟩:=W_.1 h
  rw[Ac]at h2
  cases hs:d[s]? with
  | none=>rw[hs]at h2;simp at h2
  | some r=>rw[hs]at h2;exact hd r (CK hs) t h2
end
end Go.AL
namespace Go.Proofs.YtlmkmpomgdbjhaaGreatDoor
open Tryz
section
open Go Go.AL
theorem rm:prog.follows .mixedOrders=true:=by kernel_rfl
variable [BQ]
def oh (v0:AV) (h:AH) (Post:Al->AH->Prop):Prop:=(
 AO (.box (.cst v0)) h fun v1 h1=>
 AO (.makeMap) h1 fun v2 h2=>
 AO (.mapUpd (false,[(.i .i64)]) (.cst v2) (.cst (I 0)) (.cst (.bool true))) h2 fun v3 h3=>
 AB (.fieldAddr 1 (.cst v1)) fun v4=>
 AG (.load none (.cst v4)) h3 fun v5=>
 AB (.len (.cst v5)) fun v6=>
 AB (.bin .mul (.cst (I 2)) (.cst v6)) fun v7=>
 Ak [1,4,5,16,17] (fun J8=>(fun(v9 v10 v11 v12 v13:AV) (h14:AH)=>
 AB (.bin .lss (.cst v13) (.cst v12)) fun v15=>
 AZ v15
 (AO (.makeMap) h14 fun v16 h16=>
 AO (.rangeM (.cst v10)) h16 fun v17 h17=>
 Ak [1,5,6,7,16,17,22] (fun J18=>(fun(v19 v20 v21 v22 v23 v24 v25:AV) (h26:AH)=>
 VG v25 h26 fun v27 h27=>
 AB (.extract 0 (.cst v27)) fun v28=>
 AZ v28
 (AG (.entryM (.cst v25)) h27 fun v29=>
 AB (.extract 0 (.cst v29)) fun v30=>
 AB (.fieldAddr 2 (.cst v19)) fun v31=>
 AG (.load none (.cst v31)) h27 fun v32=>
 AB (.indexAddrS 1 (.cst v32) (.cst v30)) fun v33=>
 AG (.load none (.cst v33)) h27 fun v34=>
 MU v34 (fun(v35 v36 v37 v38 v39 v40 v41 v42:AV) (h43:AH)=>
 AB (.fieldAddr 1 (.cst v35)) fun v44=>
 AG (.load none (.cst v44)) h43 fun v45=>
 AB (.indexAddrS 1 (.cst v45) (.cst v39)) fun v46=>
 AG (.load none (.cst v46)) h43 fun v47=>
 AB (.len (.cst v47)) fun v48=>
 Ak [1,5,6,7,16,17,22,37,38,39] (fun J49=>(fun(v50 v51 v52 v53 v54 v55 v56 v57 v58 v59:AV) (h60:AH)=>
 AB (.bin .lss (.cst v59) (.cst v58)) fun v61=>
 AZ v61
 (AB (.indexAddrS 1 (.cst v57) (.cst v59)) fun v62=>
 AG (.load none (.cst v62)) h60 fun v63=>
 AO (.mapUpd (false,[(.i .i64)]) (.cst v53) (.cst v63) (.cst (.bool true))) h60 fun v64 h64=>
 AB (.bin .add (.cst v59) (.cst (I 1))) fun v65=>
 J49 v50 v51 v52 v53 v54 v55 v56 v57 v58 v65 h64)
 (J18 v50 v51 v52 v53 v54 v55 v56 h60))) ((((((((((A5.set 1 v35).set 5 v36).set 6 v37).set 7 v38).set 16 v40).set 17 v41).set 22 v42).set 37 v47).set 38 v48).set 39 (I 0)) h43)
 (fun J35=>J35 v19 v21 v21 v22 v30 v23 v24 v25 h27)
 (fun J35=>J35 v19 v20 v21 v22 v30 v23 v24 v25 h27))
 (AB (.bin .add (.cst v24) (.cst (I 1))) fun v29=>
 J8 v19 v22 v20 v23 v29 h27))) (((((((A5.set 1 v9).set 5 v11).set 6 v13).set 7 v16).set 16 v12).set 17 v13).set 22 v17) h17)
 (AB (.fieldAddr 1 (.cst v9)) fun v16=>
 AG (.load none (.cst v16)) h14 fun v17=>
 AB (.len (.cst v17)) fun v18=>
 AB (.bin .lss (.cst v11) (.cst v18)) fun v19=>
 Post (.ret (.tup [v11,v19])) h14))) (((((A5.set 1 v1).set 4 v2).set 5 (I 0)).set 16 v7).set 17 (I 0)) h3)
def oO:Hints:=[(19,[(0,0,[],false),(1,0,[],false),(2,0,[],false),(3,4,[],false),(4,12,[],false),(5,30,[],false),(6,1,[],false),(7,127,[],false)])]
theorem sd {v0:AV}{h:AH}{Post:Al->AH->Prop}(hG:oh v0 h Post):AQ prog 244 [v0] h Post:=PR (t:=(.s .l (.s .l (.s .l (.s (.s .l (.i (.j [1,4,5,16,17] (.s .l (.s (.i .l .l) (.s (.i (.s .l (.s .l (.s (.s .l (.i (.j [1,5,6,7,16,17,22] (.s .l (.s (.i .l .l) (.i (.s .l (.s (.s .l (.j [1,5,6,7,8,16,17,22] .l .l)) (.s .l (.i (.j [1,5,6,7,16,17,22,37,38,39] (.s .l (.s (.i .l .l) (.s (.i (.s .l .l) .l) .l))) .l) .l)))) .l))) .l) .l)) .l))) .l) .l))) .l) .l)) (.s .l .l)))))) (fw (fn:=f244) (n:=54) (hs:=oO) (q:=[.tmp 2,.tmp 3]) rm (by kernel_rfl) (by kernel_rfl) (by kernel_rfl) (by kernel_rfl) (by kernel_rfl) (by kernel_rfl)) (by kernel_rfl) (by kernel_rfl) (by kernel_rfl) (by kernel_rfl) hG
end
section
open Go Go.AL
variable [BQ]
def RJ (J18:JP [1,5,6,7,16,17,22]) (v35 v36 v37 v38 v39 v40 v41 v42:AV) (h43:AH):Prop:=
 AB (.fieldAddr 1 (.cst v35)) fun v44=>
 AG (.load none (.cst v44)) h43 fun v45=>
 AB (.indexAddrS 1 (.cst v45) (.cst v39)) fun v46=>
 AG (.load none (.cst v46)) h43 fun v47=>
 AB (.len (.cst v47)) fun v48=>
 Ak [1,5,6,7,16,17,22,37,38,39] (fun J49=>(fun(v50 v51 v52 v53 v54 v55 v56 v57 v58 v59:AV) (h60:AH)=>
 AB (.bin .lss (.cst v59) (.cst v58)) fun v61=>
 AZ v61
 (AB (.indexAddrS 1 (.cst v57) (.cst v59)) fun v62=>
 AG (.load none (.cst v62)) h60 fun v63=>
 AO (.mapUpd (false,[(.i .i64)]) (.cst v53) (.cst v63) (.cst (.bool true))) h60 fun v64 h64=>
 AB (.bin .add (.cst v59) (.cst (I 1))) fun v65=>
 J49 v50 v51 v52 v53 v54 v55 v56 v57 v58 v65 h64)
 (J18 v50 v51 v52 v53 v54 v55 v56 h60))) ((((((((((A5.set 1 v35).set 5 v36).set 6 v37).set 7 v38).set 16 v40).set 17 v41).set 22 v42).set 37 v47).set 38 v48).set 39 (I 0)) h43
abbrev oM (r:List Nat):Nat->List AV->Prop:=fun j c=>∃t:Nat,r[j]?=some t/\c=[iv (t:Int)]
abbrev cO (d:List (List Nat)):Nat->List AV->Prop:=fun i c=>∃x r,c=[x]/\d[i]?=some r/\FL 1 (oM r) r.length x
abbrev qN (acc:List Bool):Nat->List AV->Prop:=fun i c=>∃b,acc[i]?=some b/\c=[.bool b]
theorem rB {J:JP [1,5,6,7,16,17,22]}{d:List (List Nat)}{c nx ac a5 a6 a16 a17 a22:AV}{b m2 s:Nat}{es2:List (AV × AV × Nat)}{clock2:Nat}{S:Nat->Prop}{h:AH}{r:List Nat}
    (hN:FL 1 (cO d) d.length nx) (hs:d[s]?=some r) (hd:∀t∈r,t<4611686018427387904) (hS:∀t,S t->t<4611686018427387904) (hr:r.length<1000000000) (hbm:b≠m2)
    (g1:h.get b=some (.cells [c,nx,ac])) (g3:h.get m2=some (.map es2 clock2)) (hM:MK es2 clock2 S)
    (hK:∀(h':AH) (es':List (AV × AV × Nat)) (clock':Nat),h'.next=h.next->(∀q,q≠m2->h'.get q=h.get q)->h'.get m2=some (.map es' clock')->MK es' clock' (fun t=>S t\/t∈r)->J (.ptr b 0) a5 a6 (.mp m2) a16 a17 a22 h') :
    RJ J (.ptr b 0) a5 a6 (.mp m2) (iv (s:Int)) a16 a17 a22 h:=by
  have hsl:s<d.length:=(CJ.1 hs).1
  unfold RJ
  refine AA (v:=.ptr b 1) rfl ?_
  refine BG (v:=nx) (by simp[AY,BJ,AE.ev,AH.cells?,g1,apart]) ?_
  refine hN.gD hsl fun x _ hx=>?_
  obtain⟨x',r',hx1,hx2,hF⟩:=hx
  rw[hs]at hx2
  cases hx2
  cases hx1
  refine hF.len ?_
  let I3:AV->AV->AV->AV->AV->AV->AV->AV->AV->AV->AH->Prop:=fun e1 e5 e6 e7 e16 e17 e22 e37 e38 e39 h'=>e1=.ptr b 0/\e5=a5/\e6=a6/\e7=.mp m2/\e16=a16/\e17=a17/\e22=a22/\e37=x/\e38=iv (r.length:Int) /\
    ∃(j:Nat) (es':List (AV × AV × Nat)) (clock':Nat),e39=iv (j:Int)/\j<=r.length/\h'.next=h.next/\(∀q,q≠m2->h'.get q=h.get q)/\h'.get m2=some (.map es' clock')/\MK es' clock' (fun t=>S t\/t∈r.take j)
  let μ:AV->AV->AV->AV->AV->AV->AV->AV->AV->AV->AH->Nat:=fun _ _ _ _ _ _ _ _ _ e39 _=>match e39 with
    | .int _ j=>((r.length:Int)-j).toNat
    | _=>0
  refine⟨I3,μ,⟨rfl,rfl,rfl,rfl,rfl,rfl,rfl,rfl,rfl,0,es2,clock2,rfl,by omega,rfl,fun _ _=>rfl,g3,hM.congr fun t=>by simp⟩,?_⟩
  intro e H1 hI
  obtain⟨e1,e5,e6,e7,e16,e17,e22,e37,e38,j,es',clock',e39,hj,k1,k2,k3,k4⟩:=(hI:I3 (e 1) (e 5) (e 6) (e 7) (e 16) (e 17) (e 22) (e 37) (e 38) (e 39) H1)
  have hmu:μ (e 1) (e 5) (e 6) (e 7) (e 16) (e 17) (e 22) (e 37) (e 38) (e 39) H1=((r.length:Int)-(j:Int)).toNat:=by rw[e39]
  show AB (.bin .lss (.cst (e 39)) (.cst (e 38))) _
  rw[e1,e5,e6,e7,e16,e17,e22,e37,e38,e39]
  refine Cn (fun hlt=>B8 ?_) (fun hlt=>Bu ?_)
  · refine hF.gD (by omega) fun y _ hy=>?_
    obtain⟨t,ht,hy⟩:=hy
    cases hy
    have htm:t∈r:=CK ht
    refine k4.gh (t:=t) (fun s hs=>?_) (hd t htm) k3 fun es3 clock3 hM3=>?_
    · rcases hs with hs | hs
      · exact hS s hs
      · exact hd s (Dq hs)
    refine CE (a:=(j:Int)) (b:=1) (by omega) ?_
    refine⟨⟨rfl,rfl,rfl,rfl,rfl,rfl,rfl,rfl,rfl,j+1,es3,clock3,rfl,by omega,by simpa using k1,fun q hq=>?_,by simp[AH.AU],hM3.congr fun u=>?_⟩,?_⟩
    · rw[<- k2 q hq];simp[AH.AU,hq]
    · rw[Cr,ht]
      simp[or_assoc]
    · show((r.length:Int)-((j:Int)+1)).toNat<μ (e 1) (e 5) (e 6) (e 7) (e 16) (e 17) (e 22) (e 37) (e 38) (e 39) H1
      rw[hmu];omega
  · have hj':j=r.length:=by omega
    subst hj'
    exact hK H1 es' clock' k1 k2 k3 (k4.congr fun t=>by rw[GU])
end
section
open Go Go.AL
variable [BQ]
def Qb (es:List (AV × AV × Nat)) (seen:List Nat) (s:Nat):Prop:=∃e∈es,seen.contains e.2.2=true/\e.1=iv (s:Int)
def Ry (acc:List Bool) (S:Nat->Prop) (n x0 x:Nat):Prop:=((∃s,S s/\acc.getD s false=true)/\x=n)\/((∀s,S s->acc.getD s false=false)/\x=x0)
theorem Ry.more {acc:List Bool}{S S':Nat->Prop}{n x0 x s:Nat}(h:Ry acc S n x0 x) (hS:∀t,S' t↔S t\/t=s):Ry acc S' n x0 (if acc.getD s false then n else x):=by
 cases hb:acc.getD s false with
 | true=>exact .inl ⟨⟨s,(hS s).2 (.inr rfl),hb⟩,rfl⟩
 | false=>
  rcases h with⟨⟨t,h1,h2⟩,h3⟩ | ⟨h1,h2⟩
  ·exact .inl ⟨⟨t,(hS t).2 (.inl h1),h2⟩,by simpa using h3⟩
  ·refine .inr ⟨fun t ht=>?_,by simpa using h2⟩
   rcases(hS t).1 ht with ht | rfl
   ·exact h1 t ht
   ·exact hb
theorem Ry.V9 {d:List (List Nat)}{acc:List Bool}{S:Nat->Prop}{n x:Nat}(h:Ry acc S n (V9 d acc n) x) (hS:∀t,S t↔t∈Yd d n):x=V9 d acc (n+1):=by
 unfold Go.AL.V9
 rcases h with⟨⟨t,h1,h2⟩,rfl⟩ | ⟨h1,rfl⟩
 ·rw[if_pos]
  exact GW.2 ⟨t,(hS t).1 h1,h2⟩
 ·rw[if_neg]
  intro hh
  obtain⟨t,h2,h3⟩:=GW.1 hh
  rw[h1 t ((hS t).2 h2)]at h3
  cases h3
theorem RI {α β:Type}{f:α->β}:∀{l:List α},(l.map f).Nodup->∀{x y:α},x∈l->y∈l->f x=f y->x=y
 | [],_,_,_,hx,_,_=>by cases hx
 | z::l,hn,x,y,hx,hy,h=>by
  rw[B1,GC]at hn
  rcases DF.1 hx with h1 | h1<;>rcases DF.1 hy with h2 | h2
  ·rw[h1,h2]
  ·exact absurd (Bk.2 ⟨y,h2,by rw[<- h,h1]⟩) hn.1
  ·exact absurd (Bk.2 ⟨x,h1,by rw[h,h2]⟩) hn.1
  ·exact RI hn.2 h1 h2 h
theorem Zb {es:List (AV × AV × Nat)}{seen:List Nat}{e:AV × AV × Nat}{s:Nat}(he:e∈es) (hs:e.1=iv (s:Int)) (hb:(es.map (·.2.2)).Nodup) (t:Nat):Qb es (KU e.2.2 seen) t↔Qb es seen t\/t=s:=by
 constructor
 ·rintro⟨y,h1,h2,h3⟩
  rw[Gp,Ec]at h2
  rcases h2 with h2 | h2
  ·exact .inl ⟨y,h1,h2,h3⟩
  ·have:y=e:=by
    exact RI hb h1 he (beq_iff_eq.1 h2)
   subst this
   rw[hs]at h3
   exact .inr (Vs h3).symm
 ·rintro(⟨y,h1,h2,h3⟩ | rfl)
  ·exact⟨y,h1,by rw[Gp,h2];rfl,h3⟩
  ·exact⟨e,he,by rw[Gp,beq_self_eq_true,Bool.or_true],hs⟩
def SU (h:AH) (x:AV):List Nat:=match x with
 | .ptr q _=>match h.get q with
  | some (.iter _ _ s _)=>s
  | _=>[]
 | _=>[]
theorem ni {es:List (AV × AV × Nat)}{seen:List Nat}{e:AV × AV × Nat}(he:e∈es) (hn:seen.contains e.2.2=false):(es.filter fun x=>!(KU e.2.2 seen).contains x.2.2).length<(es.filter fun x=>!seen.contains x.2.2).length:=by
 refine filter_lt (fun x:AV × AV × Nat=>!seen.contains x.2.2) (fun x=>!(KU e.2.2 seen).contains x.2.2) (fun x hx=>?_) e (by rw[hn];rfl) (by rw[Gp,beq_self_eq_true,Bool.or_true];rfl) es he
 rw[Gp]at hx
 cases hc:seen.contains x.2.2 with
 | false=>rfl
 | true=>rw[hc,Bool.true_or]at hx;exact absurd hx (by decide)
theorem aG {d:List (List Nat)}{acc:List Bool}{c nx ac:AV}(hN:FL 1 (cO d) d.length nx) (hA:FL 1 (qN acc) d.length ac) (h0:0<d.length) (hd:∀r∈d,∀t∈r,t<d.length) (hl:d.length<1000000000) (hrl:∀r∈d,r.length<1000000000){H:AH} :
  AQ prog 244 [.agg [c,nx,ac]] H fun o _=>o=.ret (.tup [iv (V9 d acc (2*d.length):Nat),.bool (decide (V9 d acc (2*d.length)<d.length))]):=by
 have hS62:∀n t,t∈Yd d n->t<4611686018427387904:=fun n t ht=>by have:=ZV h0 hd n t ht;omega
 refine sd ?_
 unfold oh
 refine Aq (v:=.ptr H.next 0) (H':=H.push (.cells [c,nx,ac])) rfl ?_
 refine Aq (v:=.mp (H.push (.cells [c,nx,ac])).next) (H':=(H.push (.cells [c,nx,ac])).push (.map [] 0)) rfl ?_
 refine MK.nil.gh (t:=0) (fun s h=>h.elim) (by omega) (AH.DL _ _) fun es0 clock0 hM0=>?_
 generalize hH3:AH.set _ _ _=H3
 obtain⟨b,hb⟩:∃b,b=H.next:=⟨_,rfl⟩
 obtain⟨m,hm⟩:∃m,m=(H.push (.cells [c,nx,ac])).next:=⟨_,rfl⟩
 have hmb:m=b+1:=by rw[hm,hb];simp
 have g1:H3.get b=some (.cells [c,nx,ac]):=by
  rw[<- hH3,hb,AH.AU,if_neg (by simp),AH.Af _ _ (by simp)];simp
 have g2:H3.get m=some (.map es0 clock0):=by rw[<- hH3,hm,AH.AU,if_pos rfl]
 have g3:H3.next=b+2:=by rw[<- hH3,hb];simp
 rw[<- hb,<- hm]
 clear hH3
 refine AA (v:=.ptr b 1) rfl ?_
 refine BG (v:=nx) (by simp[AY,BJ,AE.ev,AH.cells?,g1,apart]) ?_
 refine hN.len ?_
 refine Hd (a:=2) (b:=(d.length:Int)) (by omega) ?_
 let I:AV->AV->AV->AV->AV->AH->Prop:=fun e1 e4 e5 e16 e17 h=>e1=.ptr b 0/\e16=iv (2*(d.length:Int))/\h.get b=some (.cells [c,nx,ac])/\b<h.next /\
  ∃(m:Nat) (es:List (AV × AV × Nat)) (clock n:Nat),e4=.mp m/\h.get m=some (.map es clock)/\m<h.next/\MK es clock (fun s=>s∈Yd d n)/\e5=iv (V9 d acc n:Nat)/\e17=iv (n:Int)/\n<=2*d.length
 let μ:AV->AV->AV->AV->AV->AH->Nat:=fun _ _ _ _ e17 _=>match e17 with
  | .int _ j=>(2*(d.length:Int)-j).toNat
  | _=>0
 refine⟨I,μ,⟨rfl,rfl,g1,by omega,m,es0,clock0,0,rfl,g2,by omega,hM0.congr fun s=>by simp[Yd],rfl,rfl,by omega⟩,?_⟩
 clear g1 g2 g3 hM0 hm hb hmb
 intro e H1 hI
 obtain⟨e1,e16,g1,hb1,m,es,clock,n,e4,g2,hm1,hM,e5,e17,hn⟩:=(hI:I (e 1) (e 4) (e 5) (e 16) (e 17) H1)
 have hmu:μ (e 1) (e 4) (e 5) (e 16) (e 17) H1=(2*(d.length:Int)-(n:Int)).toNat:=by rw[e17]
 show AB (.bin .lss (.cst (e 17)) (.cst (e 16))) _
 rw[e1,e4,e5,e16,e17]
 refine Cn (fun hlt=>B8 ?_) (fun hlt=>Bu ?_)
 ·obtain⟨m2,hm2⟩:∃m2,m2=H1.next:=⟨_,rfl⟩
  have hbm:b≠m2:=by omega
  have hmm:m≠m2:=by omega
  refine Aq (v:=.mp H1.next) (H':=H1.push (.map [] 0)) rfl ?_
  refine Aq (v:=.ptr (m2+1) 0) (H':=(H1.push (.map [] 0)).push (.iter (some m) clock [] none)) ?_ ?_
  ·simp[BC,AE.ev,MJ,AH.Af _ _ (show m≠H1.next by omega),g2,hm2]
  rw[<- hm2]
  let I2:AV->AV->AV->AV->AV->AV->AV->AH->Prop:=fun e1 e5 e6 e7 e16 e17 e22 h=>e1=.ptr b 0/\e6=iv (n:Int)/\e7=.mp m2/\e16=iv (2*(d.length:Int))/\e17=iv (n:Int)/\e22=.ptr (m2+1) 0 /\
   h.get b=some (.cells [c,nx,ac])/\h.get m=some (.map es clock)/\h.next=m2+2 /\
   ∃(seen:List Nat) (cur:Option Nat) (es2:List (AV × AV × Nat)) (clock2 x:Nat),h.get m2=some (.map es2 clock2)/\h.get (m2+1)=some (.iter (some m) clock seen cur) /\
    MK es2 clock2 (fun t=>∃s,Qb es seen s/\t∈d.getD s [])/\e5=iv (x:Int)/\Ry acc (Qb es seen) n (V9 d acc n) x
  let μ2:AV->AV->AV->AV->AV->AV->AV->AH->Nat:=fun _ _ _ _ _ _ e22 h=>(es.filter fun x=>!(SU h e22).contains x.2.2).length
  refine⟨I2,μ2,⟨rfl,rfl,rfl,rfl,rfl,rfl,?_,?_,?_,[],none,[],0,V9 d acc n,?_,?_,MK.nil.congr fun t=>?_,rfl,.inr ⟨fun s hs=>?_,rfl⟩⟩,?_⟩
  ·rw[AH.Af _ _ (by simp;omega),AH.Af _ _ (by omega)];exact g1
  ·rw[AH.Af _ _ (by simp;omega),AH.Af _ _ (by omega)];exact g2
  ·simp[hm2]
  ·rw[AH.Af _ _ (by simp;omega),hm2];exact AH.DL _ _
  ·have:m2+1=(H1.push (.map [] 0)).next:=by simp[hm2]
   rw[this];exact AH.DL _ _
  ·simp[Qb]
  ·obtain⟨y,_,h2,_⟩:=hs
   simp at h2
  intro e' H2 hI2
  obtain⟨f1,f6,f7,f16,f17,f22,k1,k2,k3,seen,cur,es2,clock2,x,k4,k5,k6,f5,k7⟩:=(hI2:I2 (e' 1) (e' 5) (e' 6) (e' 7) (e' 16) (e' 17) (e' 22) H2)
  have hmu2:μ2 (e' 1) (e' 5) (e' 6) (e' 7) (e' 16) (e' 17) (e' 22) H2=(es.filter fun x=>!seen.contains x.2.2).length:=by rw[f22];simp only[μ2,SU,k5]
  dsimp only[Ef]
  rw[f1,f5,f6,f7,f16,f17,f22]
  refine cY k5 k2 hM.old (fun hall=>?_) (fun y hy hyn=>?_)
  ·refine AA (v:=.bool false) rfl (Bu ?_)
   refine CE (a:=(n:Int)) (b:=1) (by omega) ?_
   have hseen:∀t,Qb es seen t↔t∈Yd d n:=fun t=>by
    constructor
    ·rintro⟨y,h1,_,h3⟩
     obtain⟨s,q1,q2⟩:=hM.key y.1 (Bk.2 ⟨y,h1,rfl⟩)
     rw[q1]at h3
     rw[<- Vs h3];exact q2
    ·intro ht
     obtain⟨y,h1,h2⟩:=Bk.1 (hM.has t ht)
     exact⟨y,h1,hall y h1,h2⟩
   refine⟨⟨rfl,rfl,?_,?_,m2,es2,clock2,n+1,rfl,?_,?_,k6.congr fun t=>?_,?_,rfl,by omega⟩,?_⟩
   ·rw[AH.AU,if_neg (by omega)];exact k1
   ·simp only[AH.UA];omega
   ·rw[AH.AU,if_neg (by omega)];exact k4
   ·simp only[AH.UA];omega
   ·rw[W_]
    constructor
    ·rintro⟨s,h1,h2⟩;exact⟨s,(hseen s).1 h1,h2⟩
    ·rintro⟨s,h1,h2⟩;exact⟨s,(hseen s).2 h1,h2⟩
   ·exact congrArg (fun k:Nat=>iv (k:Int)) (k7.V9 hseen)
   ·show(2*(d.length:Int)-((n:Int)+1)).toNat<μ (e 1) (e 4) (e 5) (e 16) (e 17) H1
    rw[hmu];omega
  ·obtain⟨H3,hH3⟩:∃H3,H3=H2.set (m2+1) (.iter (some m) clock (KU y.2.2 seen) (some y.2.2)):=⟨_,rfl⟩
   rw[<- hH3]
   have j1:H3.get b=some (.cells [c,nx,ac]):=by rw[hH3,AH.AU,if_neg (by omega)];exact k1
   have j2:H3.get m=some (.map es clock):=by rw[hH3,AH.AU,if_neg (by omega)];exact k2
   have j3:H3.get m2=some (.map es2 clock2):=by rw[hH3,AH.AU,if_neg (by omega)];exact k4
   have j4:H3.get (m2+1)=some (.iter (some m) clock (KU y.2.2 seen) (some y.2.2)):=by rw[hH3,AH.AU,if_pos rfl]
   have j5:H3.next=m2+2:=by rw[hH3];simpa using k3
   obtain⟨s,hs,hss⟩:=hM.key y.1 (Bk.2 ⟨y,hy,rfl⟩)
   have hsl:=ZV h0 hd n s hss
   refine AA (v:=.bool true) rfl (B8 ?_)
   refine BG (Zl j4 j2 hy hM.Nq) ?_
   refine AA (v:=y.1) rfl ?_
   rw[hs]
   refine AA (v:=.ptr b 2) rfl ?_
   refine BG (v:=ac) (by simp[AY,BJ,AE.ev,AH.cells?,j1,apart]) ?_
   refine hA.gD hsl fun v34 _ hv=>?_
   obtain⟨t34,ht34,hv⟩:=hv
   cases hv
   obtain⟨r,hr⟩:∃r,d[s]?=some r:=⟨_,Ab hsl⟩
   have hrm:r∈d:=CK hr
   have hgd:d.getD s []=r:=by rw[Ac,hr];rfl
   have hga:acc.getD s false=t34:=by rw[Ac,ht34];rfl
   have hins:=Zb (seen:=seen) hy hs hM.Nq
   have hbest:=k7.more (S':=Qb es (KU y.2.2 seen)) hins
   rw[hga]at hbest
   refine Lc (fun hb=>?_) (fun hb=>?_)
   all_goals
    subst hb
    refine rB (d:=d) hN hr (fun t ht=>by have:=hd r hrm t ht;omega) (fun t ht=>?_) (hrl r hrm) hbm j1 j3 k6 fun h' es' clock' q1 q2 q3 q4=>?_
    ·obtain⟨u,_,hu⟩:=ht
     rw[Ac]at hu
     cases hq:d[u]? with
     | none=>rw[hq]at hu;simp at hu
     | some r'=>rw[hq]at hu;have:=hd r' (CK hq) t hu;omega
    refine⟨⟨rfl,rfl,rfl,rfl,rfl,rfl,by rw[q2 _ hbm];exact j1,by rw[q2 _ hmm];exact j2,by rw[q1,j5],KU y.2.2 seen,some y.2.2,es',clock',_,q3,by rw[q2 _ (by omega)];exact j4,q4.congr fun t=>?_,rfl,hbest⟩,?_⟩
    ·constructor
     ·rintro(⟨u,h1,h2⟩ | ht)
      ·exact⟨u,(hins u).2 (.inl h1),h2⟩
      ·exact⟨s,(hins s).2 (.inr rfl),by rw[hgd];exact ht⟩
     ·rintro⟨u,h1,h2⟩
      rcases(hins u).1 h1 with h1 | rfl
      ·exact .inl ⟨u,h1,h2⟩
      ·rw[hgd]at h2;exact .inr h2
    ·show(es.filter fun x=>!(SU h' (.ptr (m2+1) 0)).contains x.2.2).length<μ2 (e' 1) (e' 5) (e' 6) (e' 7) (e' 16) (e' 17) (e' 22) H2
     rw[hmu2]
     have:h'.get (m2+1)=some (.iter (some m) clock (KU y.2.2 seen) (some y.2.2)):=by rw[q2 _ (by omega)];exact j4
     simp only[SU,this]
     exact ni hy hyn
 ·have hn':n=2*d.length:=by omega
  subst hn'
  refine AA (v:=.ptr b 1) rfl ?_
  refine BG (v:=nx) (by simp[AY,BJ,AE.ev,AH.cells?,g1,apart]) ?_
  refine hN.len ?_
  refine Cn (fun hlt=>?_) (fun hlt=>?_)
  ·have:V9 d acc (2*d.length)<d.length:=by omega
   rw[decide_eq_true this]
  ·have:¬V9 d acc (2*d.length)<d.length:=by omega
   rw[decide_eq_false this]
end
section
open Go Go.AL
variable [BQ]
def W5:List AV->Option (List Nat)
 | []=>some []
 | x::l=>match x with
  | .int .i64 (.ofNat t)=>(W5 l).map fun r=>t::r
  | _=>none
def dm:AV->Option (List Nat)
 | .nils=>some []
 | .sim l n b=>match W5 l with
  | some r=>bif Nat.beq n r.length&&(b||Nat.ble 1 n)then some r else none
  | none=>none
 | _=>none
def RG:List AV->Option (List (List Nat))
 | []=>some []
 | v::l=>match dm v,RG l with
  | some r,some d=>some (r::d)
  | _,_=>none
def Sd:List AV->Option (List Bool)
 | []=>some []
 | x::l=>match x with
  | .bool b=>(Sd l).map fun r=>b::r
  | _=>none
theorem T6:∀{l:List AV}{r:List Nat},W5 l=some r->l=r.map fun t:Nat=>iv (t:Int)
 | [],r,h=>by cases h;rfl
 | x::l,r,h=>by
  unfold W5 at h
  split at h<;>(try (cases h;done))
  simp only[AP]at h
  obtain⟨r',h1,rfl⟩:=h
  rw[T6 h1];rfl
theorem Md:∀{l:List AV}{r:List Bool},Sd l=some r->l=r.map fun b=>.bool b
 | [],r,h=>by cases h;rfl
 | x::l,r,h=>by
  unfold Sd at h
  split at h<;>(try (cases h;done))
  simp only[AP]at h
  obtain⟨r',h1,rfl⟩:=h
  rw[Md h1];rfl
theorem FL.kh {Pr:Nat->List AV->Prop}{l:List AV}{n:Nat}{b:Bool}(hn:l.length=n) (hb:n=0->b=true) (h:∀i x,l[i]?=some x->(∀k,Sc k x)/\Pr i [x]):FL 1 Pr n (.sim l n b):=by
 have e:(l.map fun x=>[x]).flatten=l:=by
  clear hn h
  induction l with
  | nil=>rfl
  | cons x l ih=>simp[ih]
 refine⟨.inr ⟨l.map fun x=>[x],b,by rw[e],hb,by simpa using hn,fun i c hc=>?_⟩⟩
 rw[BU,AP]at hc
 obtain⟨x,hx,rfl⟩:=hc
 obtain⟨h1,h2⟩:=h i x hx
 exact⟨rfl,fun k=>.cons (h1 k) .nil,h2⟩
theorem dk {v:AV}{r:List Nat}(h:dm v=some r):FL 1 (oM r) r.length v:=by
 unfold dm at h
 split at h
 ·cases h;exact FL.nil
 ·rename_i l n b
  split at h<;>(try (cases h;done))
  rename_i r' hr
  cases hc:Nat.beq n r'.length&&(b||Nat.ble 1 n)with
  | false=>rw[hc]at h;cases h
  | true=>
   rw[hc]at h
   cases h
   simp only[AS,E_]at hc
   obtain⟨rfl,hc⟩:=hc
   have e:=T6 hr
   refine FL.kh (by rw[e];simp) (fun h0=>?_) fun i x hx=>?_
   ·rw[h0]at hc;simpa using hc
   ·rw[e,BU,AP]at hx
    obtain⟨t,ht,rfl⟩:=hx
    exact⟨fun k=>.int _ _,t,ht,rfl⟩
 ·cases h
theorem RE:∀{l:List AV}{d:List (List Nat)},RG l=some d->l.length=d.length
 | [],d,h=>by cases h;rfl
 | v::l,d,h=>by
  unfold RG at h
  split at h<;>(try (cases h;done))
  rename_i r d' _ h2
  cases h
  simp[RE h2]
theorem T4:∀{l:List AV}{d:List (List Nat)},RG l=some d->∀(i:Nat) (x:AV),l[i]?=some x->∃r,d[i]?=some r/\dm x=some r
 | [],d,h,i,x,hx=>by simp at hx
 | v::l,d,h,i,x,hx=>by
  unfold RG at h
  split at h<;>(try (cases h;done))
  rename_i r d' h1 h2
  cases h
  cases i with
  | zero=>simp only[E6,AD]at hx;subst hx;exact⟨r,rfl,h1⟩
  | succ i=>exact T4 h2 i x (by simpa using hx)
noncomputable def Sy (as0:List AV) (R:AV):Bool:=match as0 with
 | [.agg [c,.sim rows n b1,.sim bs m b2]]=>(match RG rows,Sd bs with
  | some d,some acc=>Nk 0 as0&&(Nat.beq n d.length&&(Nat.beq m d.length&&(Nat.beq acc.length d.length&&(Nat.ble 1 d.length&&(Nat.ble d.length 999999999&&(d.all (fun r=>Nat.ble r.length 999999999&&r.all (fun t=>Nat.ble (t+1) d.length)) &&
    EP R (.tup [iv (V9 d acc (2*d.length):Nat),.bool (decide (V9 d acc (2*d.length)<d.length))])))))))
  | _,_=>false)
 | _=>false
theorem Zi {as0:List AV}{R:AV}(h:Sy as0 R=true):cJ prog 244 as0 R:=by
 unfold Sy at h
 split at h<;>(try (cases h;done))
 rename_i c rows n b1 bs m b2
 split at h<;>(try (cases h;done))
 rename_i d acc hd ha
 simp only[AS,E_]at h
 obtain⟨h0,rfl,rfl,h3,h4,h5,h6,h7⟩:=h
 have h4:1<=d.length:=Aa h4
 have h5:d.length<=999999999:=Aa h5
 have h6:=CW.1 h6
 have hr:=CA _ _ h7
 subst hr
 intro H al hg hv
 have hN:FL 1 (cO d) d.length (.sim rows d.length b1):=FL.kh (RE hd) (fun h0=>by omega) fun i x hx=>by
  obtain⟨r,g1,g2⟩:=T4 hd i x hx
  have hF:=dk g2
  exact⟨fun k=>hF.sc k,x,r,rfl,g1,hF⟩
 have hA:FL 1 (qN acc) d.length (.sim bs d.length b2):=FL.kh (by rw[Md ha];simpa using h3) (fun h0=>by omega) fun i x hx=>by
  rw[Md ha,BU,AP]at hx
  obtain⟨b,hb,rfl⟩:=hx
  exact⟨fun k=>.bool _,b,hb,rfl⟩
 refine AQ.MI (H0:=Ah KH.emp) ((aG (c:=c) hN hA (by omega) (fun r hr t ht=>?_) (by omega) (fun r hr=>?_)).mono fun o H' hq=>⟨_,hq,.pln (.tup (.cons (.int _ _) (.cons (.bool _) .nil)))⟩) (DK _ h0) hv (fun r=>by rw[FC];rfl) (by rw[hg];rfl)
 ·have:=h6 r hr
  rw[AS]at this
  exact Aa (CW.1 this.2 t ht)
 ·have:=h6 r hr
  rw[AS]at this
  have:=Aa this.1
  omega
end
end Go.Proofs.YtlmkmpomgdbjhaaGreatDoor
namespace Go.AL
section
open Sha
variable [BQ]
theorem RH (a:UInt8):BitVec.ofInt 8 (a.toNat:Int)=a.toBitVec:=by
 rw[HV];exact BitVec.ofNat_toNat _ _ |>.trans (by simp)
theorem QG {K:AV->Prop}{a b:UInt8}(hK:K (bv (a ^^^ b))):AB (.bin .xor (.cst (bv a)) (.cst (bv b))) K:=AA (by
 show some (AV.int .u8 (IntKind.u8.wrap ((BitVec.ofInt 8 (a.toNat:Int) ^^^ BitVec.ofInt 8 (b.toNat:Int)).toNat:Nat)))=_
 rw[RH,RH]
 have h:(a.toBitVec ^^^ b.toBitVec).toNat<256:=R_ _
 have e:∀n:Nat,n<256->IntKind.u8.wrap (n:Int)=(n:Int):=fun n hn=>by
  have h:IntKind.u8.wrap (n:Int)=(n:Int) % 256:=by simp[IntKind.wrap,IntKind.bits,IntKind.signed]
  rw[h];omega
 rw[e _ h];rfl) hK
def Jg:AH->List Nat->AH
 | H,[]=>H
 | H,r::l=>Jg (H.erase r) l
theorem NX:∀(l:List Nat) (H:AH),(Jg H l).next=H.next
 | [],_=>rfl
 | r::l,H=>(NX l (H.erase r)).trans rfl
theorem Re:∀(l:List Nat) (H:AH),(Jg H l).gl=H.gl
 | [],_=>rfl
 | r::l,H=>(Re l (H.erase r)).trans rfl
theorem P9:∀(l:List Nat) (H:AH){r:Nat}{o:Cw},(Jg H l).get r=some o->r ∉ l/\H.get r=some o
 | [],_,r,o,h=>⟨by simp,h⟩
 | q::l,H,r,o,h=>by
  obtain⟨h1,h2⟩:=P9 l (H.erase q) h
  rw[AH.get_erase]at h2
  split at h2
  ·cases h2
  ·rename_i hq
   exact⟨by simp[h1,hq],h2⟩
section
variable {P:Program}{H0 H:AH}
theorem A2.Jg:∀(G:List (Nat × List AV)){B:List (Nat × List AV)}{H:AH},A2 H0 (G++B) H->A2 H0 B (Jg H (G.map (·.1)))
 | [],_,_,h=>h
 | (_,_)::G,_,_,h=>A2.Jg G (A2.erase h)
theorem A2.bq (G:List (Nat × List AV)){B:List (Nat × List AV)}{g:FuncId}{ar ar':List AV}{Q:AV->Prop}{Kp K:AV->AH->Prop}(h:A2 H0 (G++B) H) (ha:B6 H (fun r=>r∈G.map (·.1)) ar ar')
  (hC:∀H',A2 H0 B H'->CP P g ar' H' Q) (hK:∀v H',A2 H0 B H'->Q v->K v H'):AF P g ar H Kp K:=by
 have s:=h.Jg
 refine BA (AQ.sG (fun r=>r∈G.map (·.1)) (hC _ s) ha (NX _ _) (Re _ _) fun r o hr=>?_) (fun v H' hq=>by obtain⟨rfl,x,h2,h3⟩:=hq;cases h2;exact hK _ _ s h3) (fun v H' hq=>by obtain⟨_,x,h2,_⟩:=hq;cases h2)
 obtain⟨h1,h2⟩:=P9 _ _ hr
 exact⟨h1,.inl h2⟩
theorem A2.at_ {L:List (Nat × List AV)}(h:A2 H0 L H){q:Nat}{c:List AV}(hm:(q,c)∈L):H.get q=some (.cells c):=(h.l _ hm).2.2
theorem EI {R:Nat->Prop}:∀l:List AV,B6 H R l l
 | []=>.nil
 | x::l=>.cons (.same x) (EI l)
end
theorem OH (m:List UInt8):(sum m).length=32:=rfl
theorem Cz (k:List UInt8) (x:UInt8):(masked k x).length=64:=by simp[masked]
theorem JW (k:List UInt8) (x:UInt8){i:Nat}(hi:i<64):(masked k x).take (i+1)=(masked k x).take i++[k.getD i 0 ^^^ x]:=by
 rw[Cr]
 congr 1
 simp[masked,EE hi]
end
end Go.AL
namespace Go.Proofs.YtlmkmpomgdbjhaaGreatDoor
open Tryz
section
open Go Go.AL Go.AL.Sha
variable [BQ]
set_option maxHeartbeats 2000000 in
theorem iX [Bj] {H:AH}{key bs:List UInt8}{v:AV}(hg:H.gl=BQ.G) (hk:key.length=32) (hv:It bs v) (hl:bs.length<68719470000) :
  CP prog 43 [.agg (key.map bv),v] H fun x=>x=.agg ((keyed key bs).map bv):=CP.of <| by
 refine T43 ?_
 unfold xh
 refine(A2.start H).box (c:=key.map bv) rfl fun qk H1 s=>s.alloc fun q3 H2 s=>s.alloc fun q4 H3 s=>s.alloc fun q5 H4 s=>?_
 have s:A2 H [(q5,IM 64 ((masked key 0x5c).take 0)),(q4,IM 64 ((masked key 0x36).take 0)),(q3,BD 32 (N .u8 0) []),(qk,key.map bv)] H4:=s
 let I1:AV->AV->AV->AV->AV->AV->AH->Prop:=fun e1 e2 e4 e5 e6 e10 H'=>e1=v/\e2=.ptr qk 0/\e4=.ptr q3 0/\e5=.ptr q4 0/\e6=.ptr q5 0/\∃i:Nat,e10=iv (i:Int)/\i<=64 /\
  A2 H [(q5,IM 64 ((masked key 0x5c).take i)),(q4,IM 64 ((masked key 0x36).take i)),(q3,BD 32 (N .u8 0) []),(qk,key.map bv)] H'
 let μ1:AV->AV->AV->AV->AV->AV->AH->Nat:=fun _ _ _ _ _ e10 _=>match e10 with
  | .int _ j=>((64:Int)-j).toNat
  | _=>0
 refine⟨I1,μ1,⟨rfl,rfl,rfl,rfl,rfl,0,rfl,by omega,s⟩,?_⟩
 clear s
 intro e H5 hIv
 obtain⟨e1,e2,e4,e5,e6,i,e10,hi,s⟩:=(hIv:I1 (e 1) (e 2) (e 4) (e 5) (e 6) (e 10) H5)
 have hmu:μ1 (e 1) (e 2) (e 4) (e 5) (e 6) (e 10) H5=((64:Int)-(i:Int)).toNat:=by rw[e10]
 show AB (.bin .lss (.cst (e 10)) (.cst (I 64))) _
 rw[e1,e2,e4,e5,e6,e10]
 have tl:∀x,((masked key x).take i).length=i:=fun x=>by rw[BL,Cz];omega
 refine Cn (b:=64) (fun hlt=>B8 ?_) (fun hlt=>Bu ?_)
 ·have hi64:i<64:=by omega
  refine Tm (b:=32) ?_
  refine eP (fun J=>J v (.ptr qk 0) (.ptr q3 0) (.ptr q4 0) (.ptr q5 0) (iv (i:Int)) (bv (key.getD i 0)) (iv (i:Int)) H5) ?_ (fun ht J hJ=>?_) (fun hf J hJ=>?_)
  ·refine QG (b:=54) (QG (b:=92) (EO (i:=i) hi64 ?_))
   have p4:Ap (IM 64 ((masked key 0x36).take i)) i [bv (key.getD i 0 ^^^ 0x36)]=IM 64 ((masked key 0x36).take (i+1)):=by
    have h:=Lu (n:=64) (l:=(masked key 0x36).take i) (x:=key.getD i 0 ^^^ 0x36) (by rw[tl];exact hi64)
    rw[tl]at h
    rw[h,JW _ _ hi64]
   have p5:Ap (IM 64 ((masked key 0x5c).take i)) i [bv (key.getD i 0 ^^^ 0x5c)]=IM 64 ((masked key 0x5c).take (i+1)):=by
    have h:=Lu (n:=64) (l:=(masked key 0x5c).take i) (x:=key.getD i 0 ^^^ 0x5c) (by rw[tl];exact hi64)
    rw[tl]at h
    rw[h,JW _ _ hi64]
   refine A2.Km (A:=[(q5,_)]) (vs:=[bv (key.getD i 0 ^^^ 0x36)]) s rfl rfl (by rw[Lw (by rw[tl];exact hi)];omega) fun H6 s=>EO (i:=i) hi64 ?_
   rw[p4]at s
   refine A2.Km (A:=[]) (vs:=[bv (key.getD i 0 ^^^ 0x5c)]) s rfl rfl (by rw[Lw (by rw[tl];exact hi)];omega) fun H7 s=>?_
   rw[p5]at s
   refine CE (b:=1) ⟨by omega,by omega⟩ ⟨⟨rfl,rfl,rfl,rfl,rfl,i+1,rfl,by omega,s⟩,?_⟩
   show _<μ1 (e 1) (e 2) (e 4) (e 5) (e 6) (e 10) H5
   rw[hmu]
   show((64:Int)-((i:Int)+1)).toNat<_
   omega
  ·have h32:i<32:=by have:=of_decide_eq_true ht;omega
   refine EO (i:=i) h32 (s.ld (o:=i) (x:=bv (key.getD i 0)) (.tail _ (.tail _ (.tail _ (.head _)))) ?_ hJ)
   rw[BU,Ac,Ab (by omega)];rfl
  ·have h32:¬i<32:=by have:=of_decide_eq_false hf;omega
   have:key.getD i 0=0:=by rw[Ac,BT (by omega)];rfl
   rw[this]at hJ
   exact hJ
 have hi64:i=64:=by omega
 subst hi64
 rw[AX (by rw[Cz];omega),AX (by rw[Cz];omega),KB (Cz _ _),KB (Cz _ _)]at s
 clear hmu tl
 have hm36:=Cz key 0x36
 have hm5c:=Cz key 0x5c
 generalize hA:masked key 0x36=A at s hm36
 generalize hB:masked key 0x5c=B at s hm5c
 have hkd:keyed key bs=sum (B++sum (A++bs)):=by rw[<- hA,<- hB];rfl
 rw[hkd]
 refine AA (v:=.sl q4 0 64 (.ex 64)) rfl ?_
 refine s.bs (out:=[.sl q4 0 64 (.ex 64),v]) (by rcases hv with⟨_,rfl⟩ | ⟨b,rfl⟩<;>rfl) fun q6 H6 s=>?_
 have p1:∀{l:List UInt8} {x:AV} {bs:List UInt8},It bs x->l.length=64->FL 1 (Rw [l,bs]) [l,bs].length (.sim [.sim (l.map bv) 64 false,x] 2 true):=fun{l x bs} hx hl=>FL.kh rfl (fun _=>rfl) fun i y hy=>by
  match i,hy with
  | 0,hy=>cases hy;exact⟨fun k=>.sim (Dn _ k),_,l,rfl,rfl,.inr ⟨false,by rw[hl]⟩⟩
  | 1,hy=>
   cases hy
   refine⟨fun k=>?_,_,bs,rfl,rfl,hx⟩
   rcases hx with⟨_,rfl⟩ | ⟨b,rfl⟩
   ·exact .nils
   ·exact .sim (Dn _ k)
  | n+2,hy=>simp at hy
 refine A2.bq (G:=[(q6,_),(q4,_)]) (B:=[(q5,_),(q3,_),(qk,_)]) (s.perm (by
   show List.Perm ((q6,_)::([(q4,_)]++(q5,_)::[(q3,_),(qk,_)])) _
   exact List.Perm.cons _ HW.symm.symm)) (ar':=[.sim [.sim (A.map bv) 64 false,v] 2 true]) ?_ (fun H' s'=>bO (parts:=[A,bs]) (s'.k.gl.trans hg) (p1 hv hm36) (show 2<1099511627776 by omega) (by simp[hm36];omega)) fun x H7 s hx=>?_
 ·refine .cons (ES.row (BY ..) (s.at_ (.head _)) (.cons (ES.row (by simp) (s.at_ (.tail _ (.tail _ (.head _)))) (EI _) (fun h=>by cases h) (fun h=>by cases h)) (.cons (.same _) .nil)) (fun h=>by cases h) (fun _=>rfl)) .nil
 subst hx
 rw[show[A,bs].flatten=A++bs by simp]
 generalize hd:sum (A++bs)=d
 have hdl:d.length=32:=by rw[<- hd];exact OH _
 refine s.alloc fun q8 H8 s=>s.DZ (vs:=d.map bv) (by rw[Au,hdl]) rfl fun H9 s=>?_
 refine AA (v:=.sl q5 0 64 (.ex 64)) rfl (AA (v:=.sl q8 0 32 (.ex 32)) rfl ?_)
 refine fc (s.bs (out:=[.sl q5 0 64 (.ex 64),.sl q8 0 32 (.ex 32)]) rfl fun q9 H10 s=>?_)
 refine A2.bq (G:=[(q9,_),(q8,_),(q5,_)]) (B:=[(q3,_),(qk,_)]) s (ar':=[.sim [.sim (B.map bv) 64 false,.sim (d.map bv) 32 false] 2 true]) ?_ (fun H' s'=>bO (parts:=[B,d]) (s'.k.gl.trans hg) (p1 (.inr ⟨false,by rw[hdl]⟩) hm5c) (show 2<1099511627776 by omega) (by simp[hm5c,hdl])) fun x H7 s hx=>?_
 ·refine .cons (ES.row (BY ..) (s.at_ (.head _)) (.cons (ES.row (by simp) (s.at_ (.tail _ (.tail _ (.head _)))) (EI _) (fun h=>by cases h) (fun h=>by cases h)) (.cons (ES.row (by simp) (s.at_ (.tail _ (.head _))) (EI _) (fun h=>by cases h) (fun h=>by cases h)) .nil)) (fun h=>by cases h) (fun _=>rfl)) .nil
 subst hx
 rw[show[B,d].flatten=B++d by simp]
 generalize hd2:sum (B++d)=d2
 have hdl2:d2.length=32:=by rw[<- hd2];exact OH _
 refine s.DZ (vs:=d2.map bv) (by rw[Au,hdl2]) rfl fun H11 s=>s.Gx (.head _) (by rw[Au,hdl2]) ?_
 exact s.Mo (fun k=>.agg (Dn _ k)) rfl
end
end Go.Proofs.YtlmkmpomgdbjhaaGreatDoor
namespace Go.AL
section
open Sha
variable [BQ]
inductive Bg:List (Nat × List AV)->List UInt8->AV->Prop
 | nil:Bg [] [] .nils
 | op (r:Nat) {bs:List UInt8} {c:List AV} (h:c.take bs.length=bs.map bv) (hl:bs.length<=c.length):Bg [(r,c)] bs (.sl r 0 bs.length (.op 1))
section
variable {H0 H:AH}{L:List (Nat × List AV)}
theorem Bg.len {o:List (Nat × List AV)}{bs:List UInt8}{v:AV}(h:Bg o bs v){K:AV->Prop}(hK:K (iv (bs.length:Int))):AB (.len (.cst v)) K:=by
 cases h with
 | nil=>exact AA (v:=iv 0) rfl hK
 | op r h=>exact AA (v:=iv (bs.length:Int)) rfl hK
theorem Bg.app {o:List (Nat × List AV)}{bs ys:List UInt8}{v x:AV}{K:AV->AH->Prop}(s:A2 H0 (o++L) H) (h:Bg o bs v) (hx:Ae 1 x H=some (ys.length,ys.map bv)) (hl:bs.length+ys.length<1099511627776)
  (hK:∀o' v' H',A2 H0 (o'++L) H'->Bg o' (bs++ys) v'->K v' H'):AO (.append 1 1 (.cst v) (.cst x)) H K:=by
 by_cases hy:ys=[]
 ·subst hy
  refine Aq (v:=v) (H':=H) ?_ (hK o v H s (by rw[DJ];exact h))
  cases h with
  | nil=>simp[BC,AE.ev,BO,hx]
  | @op r _ c h hc=>
   obtain⟨_,_,g3⟩:=s.l (r,_) (.head _)
   have g3:H.get r=some (.cells c):=g3
   simp only[BC,AE.ev,BO,hx,AH.cells?,g3]
   simp
 ·have hy0:¬ys.length=0:=fun h=>hy (GG.1 h)
  cases h with
  | nil=>
   have hb:ys.length*1<=140737488355328/\ys.length<=9223372036854775807:=by simp at hl;omega
   refine Aq (v:=.sl H.next 0 ys.length (.op 1)) (H':=H.push (.cells (ys.map bv))) (by
    simp only[BC,AE.ev,BO,hx]
    rw[if_neg hy0,if_pos hb]) ?_
   exact hK [(H.next,ys.map bv)] _ _ (A2.push (o:=ys.map bv) s) (Bg.op H.next (AX (by simp)) (by simp))
  | @op r _ c h hc=>
   obtain⟨_,_,g3⟩:=s.l (r,_) (.head _)
   have g3:H.get r=some (.cells c):=g3
   refine Aq (v:=.sl H.next 0 (bs.length+ys.length) (.op 1)) (H':=(H.erase r).push (.cells (bs.map bv++ys.map bv))) (by
    simp only[BC,AE.ev,BO,hx,AH.cells?,g3]
    rw[if_neg hy0,if_pos ⟨trivial,by omega,by omega,by omega⟩]
    simp[h]) ?_
   have s2:=(A2.erase (L:=L) s).push (o:=bs.map bv++ys.map bv)
   have s3:A2 H0 ([(H.next,(bs++ys).map bv)]++L) ((H.erase r).push (.cells (bs.map bv++ys.map bv))):=by
    rw[ET];exact s2
   refine hK [(H.next,(bs++ys).map bv)] _ _ s3 ?_
   have:=Bg.op H.next (bs:=bs++ys) (c:=(bs++ys).map bv) (AX (by simp)) (by simp)
   rwa [AW]at this
theorem Bg.P3 {o:List (Nat × List AV)}{bs:List UInt8}{v:AV}(h:Bg o bs v):∃y,FZ o v y/\It bs y:=by
 cases h with
 | nil=>exact⟨.nils,.low fun _=>.nils,.inl ⟨rfl,rfl⟩⟩
 | @op r _ c h hc=>
  refine⟨.sim (bs.map bv) bs.length false,fun H k hR=>?_,.inr ⟨false,rfl⟩⟩
  obtain⟨h1,h2⟩:=hR _ (.head _)
  exact .sl h1 (l:=c) (by simp[AH.cells?,h2]) (m:=bs.length) (by omega) (by rw[B5,h];exact .low (Dn _ _)) (fun h=>h) (fun h=>by cases h)
end
theorem Rc (parts:List (List UInt8)){i:Nat}{bs:List UInt8}(hbs:parts[i]?=some bs):(parts.take (i+1)).flatten=(parts.take i).flatten++bs/\(parts.take (i+1)).flatten.length<=parts.flatten.length:=by
 refine⟨by rw[Cr,hbs,G4];simp,?_⟩
 have h:=congrArg List.flatten (Fo (i+1) parts)
 rw[G4]at h
 rw[<- h,AW];omega
end
end Go.AL
namespace Go.Proofs.YtlmkmpomgdbjhaaGreatDoor
open Tryz
section
open Go Go.AL Go.AL.Sha
variable [BQ]
theorem nZ {H:AH}{n:Nat}(hn:n<1099511627776):AQ prog 89 [.nils,iv (n:Int)] H fun o H'=>∃o' v,o=.ret v/\A2 H o' H'/\Bg o' [] v:=by
 refine z9 ?_
 unfold xS
 refine fy (b:=0) (by omega) (Bu ?_)
 refine AA (v:=iv 0) rfl (AA (v:=iv 0) rfl (DP (a:=0) (b:=0) ⟨by omega,by omega⟩ (DP ⟨by omega,by omega⟩ ?_)))
 refine XX (b:=0) (fun hgt=>sB ?_) (fun hgt=>sC ?_)
 ·have hn0:0<n:=by omega
  refine AA (v:=iv 0) rfl (AA (v:=.nils) rfl ?_)
  refine Aq (v:=.sl H.next 0 n (.op 1)) (H':=H.push (.cells (D6 n [N .u8 0]))) (by
   have e:((n:Int)-(0-0)).toNat=n:=by omega
   show(if (0:Int)<(n:Int)-(0-0)/\((n:Int)-(0-0)).toNat*1<=140737488355328/\(n:Int)-(0-0)<=9223372036854775807 then some (AV.sl H.next 0 ((n:Int)-(0-0)).toNat (.op 1),H.push (.cells (D6 ((n:Int)-(0-0)).toNat [N .u8 0])))else none)=_
   rw[e,if_pos ⟨by omega,by omega,by omega⟩]) ?_
  refine AA (v:=iv 0) rfl (AA (v:=.sl H.next 0 0 (.op 1)) (by
   show(if (1:Nat)=1/\(0:Int)<=0/\(0:Int)<=0/\(0:Int)<=(n:Int)then some (AV.sl H.next (0+(0:Int).toNat*1) ((0:Int)-0).toNat (.op 1))else none)=_
   rw[if_pos ⟨rfl,by omega,by omega,by omega⟩];rfl) ?_)
  exact⟨[(H.next,D6 n [N .u8 0])],_,rfl,(A2.start H).push,Bg.op (bs:=[]) H.next rfl (by simp)⟩
 ·exact⟨[],_,rfl,A2.start H,.nil⟩
theorem ew {H:AH}{pv:AV}{parts:List (List UInt8)}(hp:FL 1 (Rw parts) parts.length pv) (hpn:parts.length<1099511627776) (hl:parts.flatten.length<1099511627776) :
  CP prog 44 [pv] H (It parts.flatten):=CP.of <| by
 refine T44 ?_
 unfold xg
 refine hp.len ?_
 let I1:AV->AV->AV->AV->AV->AH->Prop:=fun e0 e3 e9 e10 e11 H'=>e0=pv/\e9=pv/\e10=iv (parts.length:Int)/\H'=H/\∃i:Nat,e11=iv (i:Int)/\i<=parts.length/\e3=iv ((parts.take i).flatten.length:Int)
 let μ1:AV->AV->AV->AV->AV->AH->Nat:=fun _ _ _ _ e11 _=>match e11 with
  | .int _ j=>((parts.length:Int)-j).toNat
  | _=>0
 refine⟨I1,μ1,⟨rfl,rfl,rfl,rfl,0,rfl,by omega,rfl⟩,?_⟩
 intro e H2 hIv
 obtain⟨e0,e9,e10,eH,i,e11,hi,e3⟩:=(hIv:I1 (e 0) (e 3) (e 9) (e 10) (e 11) H2)
 have hmu:μ1 (e 0) (e 3) (e 9) (e 10) (e 11) H2=((parts.length:Int)-(i:Int)).toNat:=by rw[e11]
 show AB (.bin .lss (.cst (e 11)) (.cst (e 10))) _
 rw[e0,e3,e9,e10,e11,eH]
 refine Cn (fun hlt=>B8 ?_) (fun hlt=>Bu ?_)
 ·have hi':i<parts.length:=by omega
  refine hp.gD hi' fun x _ hx=>?_
  obtain⟨x',bs,hx1,hbs,hF⟩:=hx
  cases hx1
  obtain⟨hfl,hle⟩:=Rc parts hbs
  rw[hfl,AW]at hle
  refine hF.len (CE ⟨by omega,by omega⟩ (fy (b:=0) (by omega) (Bu (CE (b:=1) ⟨by omega,by omega⟩ ⟨⟨rfl,rfl,rfl,rfl,i+1,rfl,by omega,?_⟩,?_⟩))))
  ·show iv (((parts.take i).flatten.length:Int)+(bs.length:Int))=_
   rw[hfl,AW];rfl
  ·show _<μ1 (e 0) (e 3) (e 9) (e 10) (e 11) H2
   rw[hmu]
   show((parts.length:Int)-((i:Int)+1)).toNat<_
   omega
 have hin:i=parts.length:=by omega
 subst hin
 clear hmu
 rw[AX (A4 _)]
 refine BA (nZ hl) (fun v H3 h3=>?_) (fun v H3 h3=>by obtain⟨_,_,h,_⟩:=h3;cases h)
 obtain⟨o,_,hv,s,hB⟩:=h3
 cases hv
 refine hp.len ?_
 let I2:AV->AV->AV->AV->AH->Prop:=fun e6 e25 e26 e27 H'=>e25=pv/\e26=iv (parts.length:Int)/\∃(i:Nat) (o:List (Nat × List AV)),e27=iv (i:Int)/\i<=parts.length/\Bg o (parts.take i).flatten e6/\A2 H (o++[]) H'
 let μ2:AV->AV->AV->AV->AH->Nat:=fun _ _ _ e27 _=>match e27 with
  | .int _ j=>((parts.length:Int)-j).toNat
  | _=>0
 refine⟨I2,μ2,⟨rfl,rfl,0,o,rfl,by omega,hB,by rw[DJ];exact s⟩,?_⟩
 clear s hB e0 e3 e9 e10 e11 eH hi
 intro f H4 hIw
 obtain⟨f25,f26,i,o,f27,hi,hB,s⟩:=(hIw:I2 (f 6) (f 25) (f 26) (f 27) H4)
 have hmu:μ2 (f 6) (f 25) (f 26) (f 27) H4=((parts.length:Int)-(i:Int)).toNat:=by rw[f27]
 show AB (.bin .lss (.cst (f 27)) (.cst (f 26))) _
 rw[f25,f26,f27]
 refine Cn (fun hlt=>B8 ?_) (fun hlt=>Bu ?_)
 ·have hi':i<parts.length:=by omega
  refine hp.gD hi' fun x _ hx=>?_
  obtain⟨x',bs,hx1,hbs,hF⟩:=hx
  cases hx1
  obtain⟨hfl,hle⟩:=Rc parts hbs
  rw[hfl,AW]at hle
  refine hB.app s (hF.cells _) (by omega) fun o' v' H5 s5 hB5=>?_
  rw[<- hfl]at hB5
  refine CE (b:=1) ⟨by omega,by omega⟩ ⟨⟨rfl,rfl,i+1,o',rfl,by omega,hB5,s5⟩,?_⟩
  show _<μ2 (f 6) (f 25) (f 26) (f 27) H4
  rw[hmu]
  show((parts.length:Int)-((i:Int)+1)).toNat<_
  omega
 have hin:i=parts.length:=by omega
 subst hin
 rw[AX (A4 _)]at hB
 obtain⟨y,hy,hF⟩:=hB.P3
 rw[DJ]at s
 exact s.fin hy hF
end
section
open Go Go.AL
variable [BQ]
def G7 (v0 v1:AV) (h:AH) (b:Al->AH->Prop):Prop:=(
 AO (.box v0) h fun v2 h2=>
 AO (.box v1) h2 fun v3 h3=>
 AO (.alloc [(I 0),(I 0),.nils]) h3 fun v4 E=>
 AB (.fieldAddr 33 v2) fun v5=>
 AG (.load (some 32) v5) E fun v6=>
 AB (.fieldAddr 0 v2) fun v7=>
 AG (.load (some 32) v7) E fun v8=>
 AB (.fieldAddr 32 v2) fun v9=>
 AG (.load none v9) E fun c9=>
 AG (.load (some 32) v3) E fun d0=>
 AF prog 21 [v8,c9,d0] E (yp b) fun d1 t=>
 (Am (.load (some 32) v5) v6 t/\True)/\AB (.eq true (.wide (true,[(.i .u8),(.i .u8),(.i .u8),(.i .u8),(.i .u8),(.i .u8),(.i .u8),(.i .u8),(.i .u8),(.i .u8),(.i .u8),(.i .u8),(.i .u8),(.i .u8),(.i .u8),(.i .u8),(.i .u8),(.i .u8),(.i .u8),(.i .u8),(.i .u8),(.i .u8),(.i .u8),(.i .u8),(.i .u8),(.i .u8),(.i .u8),(.i .u8),(.i .u8),(.i .u8),(.i .u8),(.i .u8)])) v6 d1) fun d2=>
 AZ d2
 (AB (.build [(I 0),(I 0),.nils] []) fun Q=>
 AO (.store 3 v4 Q) t fun a6 a2=>
 AG (.load (some 3) v4) a2 fun R=>
 b (.ret (.tup [R,(I 280)])) a2)
 (AB (.fieldAddr 32 v2) fun Q=>
 AG (.load none Q) t fun a6=>
 AB (.build [.nils,(.bool false)] [(0,1,a6)]) fun R=>
 AO (.box R) t fun o b8=>
 AF prog 22 [o] b8 (yp b) fun d3 b9=>
 AF prog 22 [o] b9 (yp b) fun d4 c0=>
 AB (.build [(I 0),(I 0),.nils] [(0,1,d3),(1,1,d4)]) fun d5=>
 AO (.alloc [(I 0),(I 0),.nils]) c0 fun a7 c1=>
 AO (.store 3 a7 d5) c1 fun g8 c2=>
 AF prog 22 [o] c2 (yp b) fun d6 c3=>
 Wa (fun(u U p a:AV) (B:AH)=>
 AB (.nilCheck U) fun d=>
 AB (.fieldAddr 1 d) fun k=>
 AG (.load none k) B fun q=>
 DG false q (fun(g9 l:AV) (D:AH)=>
 AB (.pick q (.cst (.bool true)) l) fun m=>
 DG false m (fun(v e f V r c:AV) (L:AH)=>
 AB (.pick m (.cst (.bool true)) c) fun b0=>
 AZ b0
 (AB (.build [(I 0),(I 0),.nils] []) fun g=>
 AO (.store 3 u g) L fun s n=>
 AG (.load (some 3) u) n fun j=>
 b (.ret (.tup [j,(I 4)])) n)
 (AG (.load (some 3) p) L fun g=>
 AO (.store 3 u g) L fun s n=>
 AG (.load (some 3) u) n fun j=>
 b (.ret (.tup [j,(I 0)])) n)) (fun y=>
 AB (.nilCheck U) fun e=>
 AB (.fieldAddr 0 e) fun f=>
 AG (.load none f) D fun V=>
 AB (.len V) fun r=>
 AB (.bin .gtr r (I 0)) fun c=>
 y U e f V r c D) (fun y=>y Bp Bp Bp Bp Bp Bp D)) (fun w=>
 AB (.bin .lss a (I 0)) fun l=>
 w a l B) (fun w=>w Bp Bp B)) fun a1=>
 Ak [4,6,7,8,9,10] (fun b7=>(fun(p a a8 d k q:AV) (C:AH)=>
 AB (.bin .lss q k) fun l=>
 DG true l (fun(i0 m v e f:AV) (a3:AH)=>
 AB (.pick l f (.cst (.bool false))) fun r=>
 AZ r
 (DV prog a8 [] a3 (yp b) fun c G=>
 AB (.bin .lss c (I 0)) fun a9=>
 DG false a9 (fun(b0 g s j W b1 d7:AV) (M:AH)=>
 AB (.pick a9 (.cst (.bool true)) d7) fun d9=>
 AZ d9
 (AB (.nilCheck a) fun X=>
 AB (.fieldAddr 1 X) fun Y=>
 AO (.store 1 Y (.cst (.bool true))) M fun b2 c4=>
 a1 p a d k c4)
 (AB (.nilCheck a) fun X=>
 AB (.fieldAddr 0 X) fun Y=>
 AG (.load none Y) M fun b2=>
 AB (.sliceS 1 b2 none (some c) none) fun e0=>
 AF prog 23 [e0] M (yp b) fun b3 O=>
 AB (.extract 0 b3) fun e1=>
 AB (.extract 1 b3) fun b4=>
 AB (.nilCheck a) fun e2=>
 AB (.fieldAddr 1 e2) fun e4=>
 AG (.load none e4) O fun b5=>
 DG false b5 (fun(i1 Z:AV) (c5:AH)=>
 AB (.pick b5 (.cst (.bool true)) Z) fun e5=>
 AB (.nilCheck a) fun e6=>
 AB (.fieldAddr 1 e6) fun e7=>
 AO (.store 1 e7 e5) c5 fun i2 a4=>
 AB (.nilCheck a) fun e8=>
 AB (.fieldAddr 0 e8) fun e9=>
 AG (.load none e9) a4 fun f0=>
 AB (.sliceS 1 f0 (some c) none none) fun f1=>
 AB (.nilCheck a) fun f2=>
 AB (.fieldAddr 0 f2) fun f3=>
 AO (.store 1 f3 f1) a4 fun i3 a5=>
 AB (.fieldAddr 2 d) fun f4=>
 AG (.load none f4) a5 fun f5=>
 AO (.buildSlice 1 1 [.nils] [(0,1,e1)]) a5 fun f6 c6=>
 AO (.append 1 24 f5 f6) c6 fun f7 c7=>
 AB (.fieldAddr 2 d) fun f8=>
 AO (.store 1 f8 f7) c7 fun i4 c8=>
 AB (.bin .add q (I 1)) fun f9=>
 b7 p a a8 d k f9 c8) (fun A=>
 AB (.bin .neq b4 (I 0)) fun Z=>
 A b4 Z O) (fun A=>A Bp Bp O))) (fun z=>
 AB (.nilCheck a) fun g=>
 AB (.fieldAddr 0 g) fun s=>
 AG (.load none s) G fun j=>
 AB (.len j) fun W=>
 AB (.bin .gtr c W) fun b1=>
 z c a g s j W b1 G) (fun z=>z Bp Bp Bp Bp Bp Bp Bp G))
 (a1 p a d k a3)) (fun x=>
 AB (.nilCheck a) fun m=>
 AB (.fieldAddr 1 m) fun v=>
 AG (.load none v) C fun e=>
 AB (.un .not e) fun f=>
 x a m v e f C) (fun x=>x Bp Bp Bp Bp Bp C))) ((((((A5.set 4 v4).set 6 o).set 7 (.fn (.func 22) [o] [])).set 8 a7).set 9 d6).set 10 (I 0)) c3))
theorem T7 {v0 v1 h Post}(hG:G7 v0 v1 h Post):AQ prog 7 [v0,v1] h Post:=tP func7 (by kernel_rfl) (by kernel_rfl) hG
def xr (Z v1 v2:AV) (h:AH) (a:Al->AH->Prop):Prop:=(
 AO (.box Z) h fun v3 W=>
 AO (.box v1) W fun s X=>
 AO (.box v2) X fun v5 Y=>
 AO (.alloc (BD 32 (N .u8 0) (.nils::(BD 32 (N .u8 0) [])))) Y fun v6 r=>
 AB (.fieldAddr 0 s) fun v7=>
 AG (.load none v7) r fun v8=>
 AB (.fieldAddr 1 s) fun V=>
 AG (.load none V) r fun w=>
 AB (.fieldAddr 2 s) fun i=>
 AG (.load none i) r fun j=>
 AB (.len j) fun G=>
 AF prog 25 [.nils,v8] r (yp a) fun L g=>
 (Am (.load none i) j g/\(Am (.load none V) w g/\True))/\AF prog 25 [L,w] g (yp a) fun M t=>
 (Am (.load none i) j t/\True)/\AF prog 25 [M,G] t (yp a) fun O u=>
 True/\AB (.fieldAddr 2 s) fun Q=>
 AG (.load none Q) u fun x=>
 AB (.len x) fun R=>
 Ak [3,5,6,7,22,23,24] (fun C=>(fun(d y k l z A m:AV) (b:AH)=>
 AB (.bin .lss m A) fun U=>
 AZ U
 (AB (.indexAddrS 1 z m) fun e=>
 AG (.load none e) b fun n=>
 AF prog 26 [n] b (yp a) fun f D=>
 AB (.len f) fun o=>
 AF prog 25 [l,o] D (yp a) fun p E=>
 AO (.append 1 1 p f) E fun B c=>
 AB (.bin .add m (I 1)) fun q=>
 C d y k B z A q c)
 (AG (.load (some 32) d) b fun e=>
 AG (.load (some 32) d) b fun n=>
 AG (.load (some 32) y) b fun f=>
 AF prog 21 [n,l,f] b (yp a) fun o v=>
 (Am (.load (some 32) d) e v/\True)/\AB (.build (BD 32 (N .u8 0) (.nils::(BD 32 (N .u8 0) []))) [(0,32,e),(32,1,l),(33,32,o)]) fun p=>
 AO (.store 65 k p) v fun B c=>
 True/\AG (.load (some 65) k) c fun q=>
 a (.ret q) c))) (((((((A5.set 3 v3).set 5 v5).set 6 v6).set 7 O).set 22 x).set 23 R).set 24 (I 0)) u)
theorem T10 {v0 v1 v2 h Post}(hG:xr v0 v1 v2 h Post):AQ prog 10 [v0,v1,v2] h Post:=tP func10 (by kernel_rfl) (by kernel_rfl) hG
def xo (o p q:AV) (h:AH) (a:Al->AH->Prop):Prop:=(
 AO (.box o) h fun r l=>
 AO (.box q) l fun i m=>
 AO (.alloc (BD 32 (N .u8 0) [])) m fun j d=>
 AG (.load (some 32) i) d fun k=>
 AB (.sliceA 32 1 r none none none) fun s=>
 Lb (.buildSlice 1 2 [.nils,.nils] [(0,1,s),(1,1,p)]) d fun t n=>
 AF prog 44 [t] n (yp a) fun u e=>
 (Am (.load (some 32) i) k e/\True)/\AF prog 43 [k,u] e (yp a) fun f c=>
 True/\AO (.store 32 j f) c fun v b=>
 True/\AG (.load (some 32) j) b fun g=>
 a (.ret g) b)
theorem T21 {v0 v1 v2 h Post}(hG:xo v0 v1 v2 h Post):AQ prog 21 [v0,v1,v2] h Post:=tP func21 (by kernel_rfl) (by kernel_rfl) hG
def xn (c:AV) (h:AH) (a:Al->AH->Prop):Prop:=(
 AB (.nilCheck c) fun C=>
 AB (.fieldAddr 0 C) fun D=>
 AG (.load none D) h fun E=>
 AB (.len E) fun G=>
 AB (.bin .lss G (I 8)) fun L=>
 AZ L
 (AB (.nilCheck c) fun b=>
 AB (.fieldAddr 1 b) fun x=>
 AO (.store 1 x (.cst (.bool true))) h fun y B=>
 a (.ret (I 0)) B)
 (AO (.alloc [(N .u64 0)]) h fun b A=>
 AO (.store 1 b (N .u64 0)) A fun x r=>
 AB (.nilCheck c) fun y=>
 AB (.fieldAddr 0 y) fun M=>
 AG (.load none M) r fun s=>
 AB (.sliceS 1 s none (some (I 8)) none) fun t=>
 AF prog 45 [t] r (yp a) fun u p=>
 TR prog u p (fun(z:List AV) (j:AH) (o:AH->Prop)=>Q4 z fun l x13'=>Q4 x13' fun d x13''=>Wb x13'' (AG (.load none b) j fun e=>
 AB (.bin .shl e (N .u64 8)) fun f=>
 AB (.convI .u64 d) fun g=>
 AB (.bin .or f g) fun m=>
 AO (.store 1 b m) j fun n q=>
 o q)) fun i=>
 AB (.nilCheck c) fun l=>
 AB (.fieldAddr 0 l) fun d=>
 AG (.load none d) i fun v=>
 AB (.sliceS 1 v (some (I 8)) none none) fun e=>
 AB (.nilCheck c) fun f=>
 AB (.fieldAddr 0 f) fun g=>
 AO (.store 1 g e) i fun m k=>
 AG (.load none b) k fun n=>
 AB (.convI .i64 n) fun w=>
 a (.ret w) k))
theorem T22 {v0 h Post}(hG:xn v0 h Post):AQ prog 22 [v0] h Post:=tP func22 (by kernel_rfl) (by kernel_rfl) hG
def xm (n o:AV) (h:AH) (a:Al->AH->Prop):Prop:=(
 Ak [0,1,5] (fun m=>(fun(k l b:AV) (e:AH)=>
 AB (.bin .lss b (I 64)) fun p=>
 AZ p
 (AB (.convI .u64 l) fun q=>
 AB (.bin .shr q b) fun r=>
 AB (.convI .u8 r) fun f=>
 AO (.buildSlice 1 1 [(N .u8 0)] [(0,1,f)]) e fun g c=>
 AO (.append 1 1 k g) c fun i d=>
 AB (.bin .add b (I 8)) fun j=>
 m i l j d)
 (a (.ret k) e))) (((A5.set 0 n).set 1 o).set 5 (I 0)) h)
theorem T25 {v0 v1 h Post}(hG:xm v0 v1 h Post):AQ prog 25 [v0,v1] h Post:=tP func25 (by kernel_rfl) (by kernel_rfl) hG
end
end Go.Proofs.YtlmkmpomgdbjhaaGreatDoor
namespace Go.AL
section
variable [BQ]
def qO:AV->Option Nat
 | .sl _ _ n _=>some n
 | .sim _ n _=>some n
 | .nils=>some 0
 | _=>none
theorem OJ {v:AV}{n:Nat}(h:qO v=some n){K:AV->Prop}(hK:K (iv (n:Int))):AB (.len (.cst v)) K:=by
 cases v<;>cases h<;>exact AA rfl hK
def PA (v:AV) (f:Nat->Option (List AV)):Option (List Nat × List AV):=
 match v with
 | .sl r o n _=>match f r with
  | some l=>bif Nat.ble (o+n) l.length then some ([r],(l.drop o).take n)else none
  | none=>none
 | .sim l n _=>bif Nat.ble n l.length then some ([],l.take n)else none
 | .nils=>some ([],[])
 | _=>none
theorem ZX {v:AV}{f:Nat->Option (List AV)}{ks:List Nat}{l:List AV}(hv:PA v f=some (ks,l)):qO v=some l.length:=by
 unfold PA at hv
 split at hv
 next r o n lim=>
  split at hv
  next l' e=>
   cases hb:Nat.ble (o+n) l'.length with
   | false=>rw[hb]at hv;cases hv
   | true=>
    rw[hb]at hv
    cases hv
    have:=Aa hb
    rw[BL,B3,B7 (by omega)];rfl
  next=>cases hv
 next l' n b=>
  cases hb:Nat.ble n l'.length with
  | false=>rw[hb]at hv;cases hv
  | true=>
   rw[hb]at hv
   cases hv
   rw[BL,B7 (Aa hb)];rfl
 next=>cases hv;rfl
 next=>cases hv
theorem Wn {v:AV}{f:Nat->Option (List AV)}{ks:List Nat}{l:List AV}(hv:PA v f=some (ks,l)) {H':AH}(hk:∀r∈ks,H'.cells? r=f r){i:Nat}(hi:i<l.length){K:AV->Prop}(hK:K (l.getD i .unk)) :
  AB (.indexAddrS 1 (.cst v) (.cst (iv (i:Int)))) fun p=>AG (.load none (.cst p)) H' K:=by
 unfold PA at hv
 split at hv
 next r o n lim=>
  split at hv
  next l' e=>
   cases hb:Nat.ble (o+n) l'.length with
   | false=>rw[hb]at hv;cases hv
   | true=>
    rw[hb]at hv
    cases hv
    have hle:=Aa hb
    rw[BL,B3,B7 (by omega)]at hi
    refine AA (v:=.ptr r (o+i)) ?_ (BG (v:=((l'.drop o).take n).getD i .unk) ?_ hK)
    ·show(if (0:Int)<=(i:Int)/\(i:Int)<(n:Int)then some (AV.ptr r (o+(i:Int).toNat*1))else none)=_
     rw[if_pos ⟨by omega,by omega⟩,CL,EU]
    ·have h1:=hk r (.head _)
     rw[e]at h1
     have h2:AY (.load none (.cst (.ptr r (o+i)))) emp H'=l'[o+i]?:=by simp only[AY,BJ,AE.ev,h1,apart]
     rw[h2]
     rw[Ac,GZ hi,DD,Ab (by omega)];rfl
  next=>cases hv
 next l' n b=>
  cases hb:Nat.ble n l'.length with
  | false=>rw[hb]at hv;cases hv
  | true=>
   rw[hb]at hv
   cases hv
   have hle:=Aa hb
   rw[BL,B7 hle]at hi
   refine AA (v:=.pim l' i) ?_ (BG (v:=(l'.take n).getD i .unk) ?_ hK)
   ·show(if (0:Int)<=(i:Int)/\(i:Int)<(n:Int)then some (AV.pim l' ((i:Int).toNat*1))else none)=_
    rw[if_pos ⟨by omega,by omega⟩,CL,EU]
   ·show l'[i]?=_
    rw[Ac,GZ hi,Ab (by omega)];rfl
 next=>cases hv;simp at hi
 next=>cases hv
theorem Jj {H:AH}{r:Nat}{v:AV}(h:H.cells? r=some [v]){K:AV->Prop}(hK:K v):AG (.load none (.cst (.ptr r 0))) H K:=
 BG (by simp[AY,BJ,AE.ev,h,apart]) hK
theorem XN {n m a b:Nat}(ha:a<n) (hb:b<m):a*m+b<n*m/\(a*m+b) / m=a/\(a*m+b) % m=b:=by
 have hm:0<m:=by omega
 refine⟨?_,?_,?_⟩
 ·have:(a+1)*m<=n*m:=DY m ha
  rw[EC,GY]at this;omega
 ·rw[HS,Nat.mul_add_div hm,Nat.div_eq_of_lt hb,GS]
 ·rw[HS,Nat.mul_add_mod,B4 hb]
end
end Go.AL
namespace Go.Proofs.YtlmkmpomgdbjhaaGreatDoor
open Tryz
noncomputable section
open Go Go.AL
variable [BQ]
def ig (caps:List AV) (h:KH):Option (List Nat × List (List AV)):=
 match caps with
 | [.ptr ra 0,.ptr rb 0]=>match Bx h ra,Bx h rb with
  | some [.int .i64 (.ofNat n)],some [.int .i64 (.ofNat m)]=>bif Nat.ble n 1048576&&Nat.ble m 1048576 then some ([ra,rb],(List.range (n*m)).map fun i=>[iv ((i / m:Nat):Int),iv ((i % m:Nat):Int)])else none
  | _,_=>none
 | _=>none
theorem eN {caps:List AV}{h:KH}{ks:List Nat}{xs:List (List AV)}(hi:ig caps h=some (ks,xs)):U_ prog 84 caps (Ah h) ks xs:=by
 unfold ig at hi
 split at hi<;>(try (cases hi;done))
 rename_i ra rb
 split at hi<;>(try (cases hi;done))
 rename_i n m e1 e2
 cases hb:(Nat.ble n 1048576&&Nat.ble m 1048576)with
 | false=>rw[hb]at hi;cases hi
 | true=>
 rw[hb]at hi
 simp only[cond_true,AD,Ao]at hi
 obtain⟨rfl,rfl⟩:=hi
 rw[AS]at hb
 have hn:=Aa hb.1
 have hm:=Aa hb.2
 clear hb
 rw[Bn]at e1 e2
 unfold U_
 rw[Au,SD]
 refine I84 fun l I hCl hI=>?_
 unfold uZ
 refine Jj e1 ?_
 let I1:AV->AV->AV->AV->AH->Prop:=fun e0 e2 e6 e7 H'=>e0=.fn (.yield l) [] []/\e2=.ptr rb 0/\e6=iv (n:Int)/\∃a:Nat,e7=iv (a:Int)/\a<=n/\I (a*m) H'
 let μ1:AV->AV->AV->AV->AH->Nat:=fun _ _ _ e7 _=>match e7 with
  | .int _ j=>((n:Int)-j).toNat
  | _=>0
 refine⟨I1,μ1,⟨rfl,rfl,rfl,0,rfl,by omega,by rw[G_];exact hI⟩,?_⟩
 intro e H2 hIv
 obtain⟨e0,e2',e6,a,e7,ha,hIa⟩:=(hIv:I1 (e 0) (e 2) (e 6) (e 7) H2)
 have hmu:μ1 (e 0) (e 2) (e 6) (e 7) H2=((n:Int)-(a:Int)).toNat:=by rw[e7]
 show AB (.bin .lss (.cst (e 7)) (.cst (e 6))) _
 rw[e0,e2',e6,e7]
 refine Cn (fun hlt=>B8 ?_) (fun hlt=>Bu ?_)
 ·have ha':a<n:=by omega
  refine Jj ((hCl _ _ hIa rb (.tail _ (.head _))).trans e2) ?_
  let I2:AV->AV->AV->AV->AV->AV->AV->AH->Prop:=fun f0 f2 f4 f6 f7 f10 f11 H'=>f0=.fn (.yield l) [] []/\f2=.ptr rb 0/\f4=iv (a:Int)/\f6=iv (n:Int)/\f7=iv (a:Int)/\f10=iv (m:Int)/\∃b:Nat,f11=iv (b:Int)/\b<=m/\I (a*m+b) H'
  let μ2:AV->AV->AV->AV->AV->AV->AV->AH->Nat:=fun _ _ _ _ _ _ f11 _=>match f11 with
   | .int _ j=>((m:Int)-j).toNat
   | _=>0
  refine⟨I2,μ2,⟨rfl,rfl,rfl,rfl,rfl,rfl,0,rfl,by omega,hIa⟩,?_⟩
  intro f H3 hIw
  obtain⟨f0,f2,f4,f6,f7,f10,b,f11,hb,hIb⟩:=(hIw:I2 (f 0) (f 2) (f 4) (f 6) (f 7) (f 10) (f 11) H3)
  have hmu2:μ2 (f 0) (f 2) (f 4) (f 6) (f 7) (f 10) (f 11) H3=((m:Int)-(b:Int)).toNat:=by rw[f11]
  show AB (.bin .lss (.cst (f 11)) (.cst (f 10))) _
  rw[f0,f2,f4,f6,f7,f10,f11]
  refine Cn (fun hlt2=>B8 ?_) (fun hlt2=>Bu ?_)
  ·have hb':b<m:=by omega
   obtain⟨g1,g2,g3⟩:=XN ha' hb'
   refine(show _/\_ from⟨rfl,a*m+b,g1,?_,hIb,fun H7 hle hI7 _=>?_⟩)
   ·show((List.range (n*m)).map fun i=>[iv ((i / m:Nat):Int),iv ((i % m:Nat):Int)])[a*m+b]?=_
    rw[BU,EE g1]
    show some [iv (((a*m+b) / m:Nat):Int),iv (((a*m+b) % m:Nat):Int)]=_
    rw[g2,g3]
   ·refine Tl (Bu (CE (b:=1) ⟨by omega,by omega⟩ ⟨⟨rfl,rfl,rfl,rfl,rfl,rfl,b+1,rfl,by omega,hI7⟩,?_⟩))
    show _<μ2 (f 0) (f 2) (f 4) (f 6) (f 7) (f 10) (f 11) H3
    rw[hmu2]
    show((m:Int)-((b:Int)+1)).toNat<_
    omega
  ·have hbm:b=m:=by omega
   subst hbm
   refine CE (b:=1) ⟨by omega,by omega⟩ ⟨⟨rfl,rfl,rfl,a+1,rfl,by omega,by rw[EC,GY];exact hIb⟩,?_⟩
   show _<μ1 (e 0) (e 2) (e 6) (e 7) H2
   rw[hmu]
   show((n:Int)-((a:Int)+1)).toNat<_
   omega
 have han:a=n:=by omega
 subst han
 exact⟨⟨_,rfl⟩,hIa⟩
def ij (caps:List AV) (h:KH):Option (List Nat × List (List AV)):=
 match caps with
 | [.ptr ra 0,.ptr rb 0,.ptr rc 0]=>match Bx h ra,Bx h rb,Bx h rc with
  | some [va],some [vb],some [vc]=>match qO va,qO vb,PA vc (Bx h)with
   | some n,some m,some (ks,l)=>bif Nat.ble n 1048576&&(Nat.ble m 1048576&&Nat.ble (n*m) l.length)then some (ra::rb::rc::ks,(List.range (n*m)).map fun i=>[.agg [iv ((i / m:Nat):Int),iv ((i % m:Nat):Int)],l.getD i .unk])else none
   | _,_,_=>none
  | _,_,_=>none
 | _=>none
theorem eO {caps:List AV}{h:KH}{ks:List Nat}{xs:List (List AV)}(hi:ij caps h=some (ks,xs)):U_ prog 70 caps (Ah h) ks xs:=by
 unfold ij at hi
 split at hi<;>(try (cases hi;done))
 rename_i ra rb rc
 split at hi<;>(try (cases hi;done))
 rename_i va vb vc e1 e2 e3
 split at hi<;>(try (cases hi;done))
 rename_i n m ks0 ll e4 e5 e6
 cases hb:(Nat.ble n 1048576&&(Nat.ble m 1048576&&Nat.ble (n*m) ll.length))with
 | false=>rw[hb]at hi;cases hi
 | true=>
 rw[hb]at hi
 simp only[cond_true,AD,Ao]at hi
 obtain⟨rfl,rfl⟩:=hi
 rw[AS,AS]at hb
 have hn:=Aa hb.1
 have hm:=Aa hb.2.1
 have hl:=Aa hb.2.2
 clear hb
 rw[Bn]at e1 e2 e3
 unfold U_
 rw[Au,SD]
 refine I70 fun l I hCl hI=>?_
 unfold ua
 refine Jj e1 (OJ e4 ?_)
 let I1:AV->AV->AV->AV->AV->AH->Prop:=fun e0 e2 e3 e8 e9 H'=>e0=.fn (.yield l) [] []/\e2=.ptr rb 0/\e3=.ptr rc 0/\e8=iv (n:Int)/\∃a:Nat,e9=iv (a:Int)/\a<=n/\I (a*m) H'
 let μ1:AV->AV->AV->AV->AV->AH->Nat:=fun _ _ _ _ e9 _=>match e9 with
  | .int _ j=>((n:Int)-j).toNat
  | _=>0
 refine⟨I1,μ1,⟨rfl,rfl,rfl,rfl,0,rfl,by omega,by rw[G_];exact hI⟩,?_⟩
 intro e H2 hIv
 obtain⟨g0,g2,g3,g8,a,g9,ha,hIa⟩:=(hIv:I1 (e 0) (e 2) (e 3) (e 8) (e 9) H2)
 have hmu:μ1 (e 0) (e 2) (e 3) (e 8) (e 9) H2=((n:Int)-(a:Int)).toNat:=by rw[g9]
 show AB (.bin .lss (.cst (e 9)) (.cst (e 8))) _
 rw[g0,g2,g3,g8,g9]
 refine Cn (fun hlt=>B8 ?_) (fun hlt=>Bu ?_)
 ·have ha':a<n:=by omega
  have hk2:∀{i:Nat} {H':AH},I i H'->H'.cells? rb=some [vb]:=fun h=>(hCl _ _ h rb (.tail _ (.head _))).trans e2
  have hk3:∀{i:Nat} {H':AH},I i H'->H'.cells? rc=some [vc]:=fun h=>(hCl _ _ h rc (.tail _ (.tail _ (.head _)))).trans e3
  refine Jj (hk2 hIa) (OJ e5 ?_)
  let I2:AV->AV->AV->AV->AV->AV->AV->AV->AH->Prop:=fun f0 f2 f3 f5 f8 f9 f13 f14 H'=>f0=.fn (.yield l) [] []/\f2=.ptr rb 0/\f3=.ptr rc 0/\f5=iv (a:Int)/\f8=iv (n:Int)/\f9=iv (a:Int)/\f13=iv (m:Int)/\∃b:Nat,f14=iv (b:Int)/\b<=m/\I (a*m+b) H'
  let μ2:AV->AV->AV->AV->AV->AV->AV->AV->AH->Nat:=fun _ _ _ _ _ _ _ f14 _=>match f14 with
   | .int _ j=>((m:Int)-j).toNat
   | _=>0
  refine⟨I2,μ2,⟨rfl,rfl,rfl,rfl,rfl,rfl,rfl,0,rfl,by omega,hIa⟩,?_⟩
  intro f H3 hIw
  obtain⟨f0,f2,f3,f5,f8,f9,f13,b,f14,hb,hIb⟩:=(hIw:I2 (f 0) (f 2) (f 3) (f 5) (f 8) (f 9) (f 13) (f 14) H3)
  have hmu2:μ2 (f 0) (f 2) (f 3) (f 5) (f 8) (f 9) (f 13) (f 14) H3=((m:Int)-(b:Int)).toNat:=by rw[f14]
  show AB (.bin .lss (.cst (f 14)) (.cst (f 13))) _
  rw[f0,f2,f3,f5,f8,f9,f13,f14]
  refine Cn (fun hlt2=>B8 ?_) (fun hlt2=>Bu ?_)
  ·have hb':b<m:=by omega
   obtain⟨q1,q2,q3⟩:=XN ha' hb'
   refine AA (v:=.agg [iv (a:Int),iv (b:Int)]) rfl ?_
   refine Jj (hk3 hIb) (Jj (hk2 hIb) (OJ e5 ?_))
   have hle:a*m<=n*m:=DY m ha
   have hle2:n*m<=1048576*1048576:=Oe hn hm
   refine Hd ⟨?_,?_⟩ (CE ⟨?_,?_⟩ ?_)
   ·rw[<- ID];omega
   ·rw[<- ID];omega
   ·rw[<- ID];omega
   ·rw[<- ID];omega
   rw[<- ID,<- Int.natCast_add]
   refine Wn e6 (fun r hr=>(hCl _ _ hIb r (.tail _ (.tail _ (.tail _ hr)))).trans (Bn h r).symm) (by omega) ?_
   refine(show _/\_ from⟨rfl,a*m+b,q1,?_,hIb,fun H7 hle hI7 _=>?_⟩)
   ·show((List.range (n*m)).map fun i=>[AV.agg [iv ((i / m:Nat):Int),iv ((i % m:Nat):Int)],ll.getD i .unk])[a*m+b]?=_
    rw[BU,EE q1]
    show some [AV.agg [iv (((a*m+b) / m:Nat):Int),iv (((a*m+b) % m:Nat):Int)],ll.getD (a*m+b) .unk]=_
    rw[q2,q3]
   ·refine Tl (Bu (CE (b:=1) ⟨by omega,by omega⟩ ⟨⟨rfl,rfl,rfl,rfl,rfl,rfl,rfl,b+1,rfl,by omega,hI7⟩,?_⟩))
    show _<μ2 (f 0) (f 2) (f 3) (f 5) (f 8) (f 9) (f 13) (f 14) H3
    rw[hmu2]
    show((m:Int)-((b:Int)+1)).toNat<_
    omega
  ·have hbm:b=m:=by omega
   subst hbm
   refine CE (b:=1) ⟨by omega,by omega⟩ ⟨⟨rfl,rfl,rfl,rfl,a+1,rfl,by omega,by rw[EC,GY];exact hIb⟩,?_⟩
   show _<μ1 (e 0) (e 2) (e 3) (e 8) (e 9) H2
   rw[hmu]
   show((n:Int)-((a:Int)+1)).toNat<_
   omega
 have han:a=n:=by omega
 subst han
 exact⟨⟨_,rfl⟩,hIa⟩
def Uu (l:List AV):List (List AV):=(List.range l.length).map fun i=>[iv ((l.length-1-i:Nat):Int),l.getD (l.length-1-i) .unk]
theorem cB {H:AH}{ra:Nat}{va:AV}{ks:List Nat}{ll:List AV}(e1:H.cells? ra=some [va]) (e6:PA va H.cells?=some (ks,ll)) (hn:ll.length<=1048576):U_ prog 90 [.ptr ra 0] H (ra::ks) (Uu ll):=by
 unfold U_ Uu
 rw[Au,SD]
 refine I90 fun l I hCl hI=>?_
 unfold uY
 refine Jj e1 (OJ (ZX e6) (DP (b:=1) ⟨by omega,by omega⟩ ?_))
 let I1:AV->AV->AV->AH->Prop:=fun e0 e1 e3 H'=>e0=.fn (.yield l) [] []/\e1=.ptr ra 0/\∃a:Nat,e3=iv ((ll.length:Int)-1-(a:Int))/\a<=ll.length/\I a H'
 let μ1:AV->AV->AV->AH->Nat:=fun _ _ e3 _=>match e3 with
  | .int _ j=>(j+1).toNat
  | _=>0
 refine⟨I1,μ1,⟨rfl,rfl,0,by rw[Int.natCast_zero,Int.sub_zero];rfl,by omega,hI⟩,?_⟩
 intro e H2 hIv
 obtain⟨g0,g1,a,g3,ha,hIa⟩:=(hIv:I1 (e 0) (e 1) (e 3) H2)
 have hmu:μ1 (e 0) (e 1) (e 3) H2=((ll.length:Int)-1-(a:Int)+1).toNat:=by rw[g3]
 show AB (.bin .geq (.cst (e 3)) (.cst (Go.AL.I 0))) _
 rw[g0,g1,g3]
 refine gB (b:=0) (fun hge=>B8 ?_) (fun hge=>Bu ?_)
 ·have ha':a<ll.length:=by omega
  refine Jj ((hCl _ _ hIa ra (.head _)).trans e1) ?_
  have hx:((ll.length:Int)-1-(a:Int))=((ll.length-1-a:Nat):Int):=by omega
  rw[hx]
  refine Wn e6 (fun r hr=>hCl _ _ hIa r (.tail _ hr)) (by omega) ?_
  refine(show _/\_ from⟨rfl,a,ha',?_,hIa,fun H7 hle hI7 _=>?_⟩)
  ·show((List.range ll.length).map fun i=>[iv ((ll.length-1-i:Nat):Int),ll.getD (ll.length-1-i) .unk])[a]?=_
   rw[BU,EE ha'];rfl
  ·refine Tl (Bu (DP (b:=1) ⟨by omega,by omega⟩ ⟨⟨rfl,rfl,a+1,?_,by omega,hI7⟩,?_⟩))
   ·show iv (((ll.length-1-a:Nat):Int)-1)=iv ((ll.length:Int)-1-((a+1:Nat):Int))
    rw[show((ll.length-1-a:Nat):Int)-1=(ll.length:Int)-1-((a+1:Nat):Int)by omega]
   ·show _<μ1 (e 0) (e 1) (e 3) H2
    rw[hmu]
    show(((ll.length-1-a:Nat):Int)-1+1).toNat<_
    omega
 have han:a=ll.length:=by omega
 subst han
 exact⟨⟨_,rfl⟩,hIa⟩
def ie (caps:List AV) (h:KH):Option (List Nat × List (List AV)):=
 match caps with
 | [.ptr ra 0]=>match Bx h ra with
  | some [va]=>match PA va (Bx h)with
   | some (ks,l)=>bif Nat.ble l.length 1048576 then some (ra::ks,Uu l)else none
   | _=>none
  | _=>none
 | _=>none
theorem eM {caps:List AV}{h:KH}{ks:List Nat}{xs:List (List AV)}(hi:ie caps h=some (ks,xs)):U_ prog 90 caps (Ah h) ks xs:=by
 unfold ie at hi
 split at hi<;>(try (cases hi;done))
 rename_i ra
 split at hi<;>(try (cases hi;done))
 rename_i va e1
 split at hi<;>(try (cases hi;done))
 rename_i ks0 ll e6
 cases hb:Nat.ble ll.length 1048576 with
 | false=>rw[hb]at hi;cases hi
 | true=>
 rw[hb]at hi
 simp only[cond_true,AD,Ao]at hi
 obtain⟨rfl,rfl⟩:=hi
 rw[Bn]at e1
 rw[show Bx h=(Ah h).cells? from funext (Bn h)]at e6
 exact cB e1 e6 (Aa hb)
def UX:Ya:=fun g caps h=>bif Nat.beq g 70 then ij caps h else bif Nat.beq g 84 then ig caps h else bif Nat.beq g 90 then ie caps h else none
theorem Pw:Rx prog UX:=by
 intro g caps h ks xs hi
 unfold UX at hi
 cases h1:Nat.beq g 70 with
 | true=>rw[h1]at hi;rw[Cp h1];exact eO hi
 | false=>
  rw[h1]at hi
  cases h2:Nat.beq g 84 with
  | true=>rw[h2]at hi;rw[Cp h2];exact eN hi
  | false=>
   rw[h2]at hi
   cases h3:Nat.beq g 90 with
   | true=>rw[h3]at hi;rw[Cp h3];exact eM hi
   | false=>rw[h3]at hi;cases hi
end
end Go.Proofs.YtlmkmpomgdbjhaaGreatDoor
