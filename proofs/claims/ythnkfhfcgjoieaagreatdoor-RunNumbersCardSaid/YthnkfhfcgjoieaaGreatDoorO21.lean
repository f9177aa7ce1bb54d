import Derived.Test.YthnkfhfcgjoieaaGreatDoorO15
import Derived.Test.YthnkfhfcgjoieaaGreatDoorO11
import Derived.Test.YthnkfhfcgjoieaaGreatDoorO6
import Derived.Test.YthnkfhfcgjoieaaGreatDoorO18
import Derived.Test.YthnkfhfcgjoieaaGreatDoorO19
import Derived.Test.YthnkfhfcgjoieaaGreatDoorO10
set_option linter.unusedVariables false
set_option linter.unusedSimpArgs false
set_option linter.unusedSectionVars false
open Go.Proofs.Tryz
namespace Go.Proofs.YthnkfhfcgjoieaaGreatDoor
open Go.RowKit QM SX LA
def psQ(b a q:List Int)(n:Nat):List Int:=pAdd (aV q (b.getD (b.length - 1) 0)) (sH [a.getD (n+b.length - 1) 0] n)
def psA(b a:List Int)(n:Nat):List Int:=aaJ (aV a (b.getD (b.length - 1) 0)) (sH (aV b (a.getD (n+b.length - 1) 0)) n)
def psR(b:List Int):Nat->List Int->List Int->List Int×List Int
 |0,q,a=>(q,a)
 |n+1,q,a=>psR b n (psQ b a q n) (psA b a n)
structure PsK(S L K K':Nat)(b:List Int)(n:Nat)(q a:List Int):Prop where
 le:n<=S
 p:pN a
 l:a.length < n+b.length
 aL:a.length<=L
 qL:q.length<=S
 a:∀z∈a,z.natAbs < WB ^ (K+(S - n)*(K'+1))
 q:∀z∈q,z.natAbs < WB ^ (K+(S - n)*(K'+1))
def pPQ(zs b:List Int):List Int:=if b.length=0 then []else aX (psR b (zs.length+1 - b.length) [] zs).1
def pPR(zs b:List Int):List Int:=if b.length=0 then []else(psR b (zs.length+1 - b.length) [] zs).2
attribute [local irreducible] IntKind.wrap Go1 Reg WP aJ aN bF bD aM aA ak aj aT Sat
attribute [local irreducible] bK bO bM bS bN qv bZ mf PrP qOk zOk vP dx lz vF cq rqv dI aX bG aV dN cvR cvP alZ sH eZ jO psQ psA
end Go.Proofs.YthnkfhfcgjoieaaGreatDoor
set_option linter.unusedSectionVars false
namespace Go.Proofs.YthnkfhfcgjoieaaGreatDoor
open Go.RowKit QM SX LA
def atz(zs:List Int):Nat->Nat
 |0=>0
 |k+1=>Int.gcd (atz zs k:Int) (zs.getD k 0)
def amZ(zs:List Int):Int:=((atz zs zs.length:Nat):Int)
def pSgC(zs:List Int):Int:=if zs.getD (zs.length - 1) 0 < 0 then -amZ zs else amZ zs
def aj0(zs:List Int):List Int:=abU zs.length fun i=>eZ (zs.getD i 0) (pSgC zs)
def gcR:Nat->List Int->List Int->List Int
 |0,a,_=>a
 |k+1,a,b=>if b.length=0 then a else gcR k b (aj0 (pPR a b))
def jT(x y:List Int):List Int:=aV (gcR (aj0 y).length (aj0 x) (aj0 y)) ((Int.gcd (amZ x) (amZ y):Nat):Int)
def gB:Nat->Nat
 |0=>1
 |i+1=>6*gB i+6
structure GcK(a b:List Int):Prop where
 na:pN a
 nb:pN b
 la:a.length<=5
 lb:b.length<=5
 a:∀z∈a,z.natAbs < WB ^ gB (5 - b.length)
 b:∀z∈b,z.natAbs < WB ^ gB (5 - b.length)
attribute [local irreducible] IntKind.wrap Go1 Reg WP aJ aN bF bD aM aA ak aj aT Sat
attribute [local irreducible] bK bO bM bS bN qv bZ mf PrP qOk zOk vP dx lz vF cq rqv dI aX bG aV dN cvR cvP alZ sH eZ jO psQ psA pPR pPQ
end Go.Proofs.YthnkfhfcgjoieaaGreatDoor
set_option linter.unusedSectionVars false
namespace Go.Proofs.YthnkfhfcgjoieaaGreatDoor
open Go.RowKit QM SX LA
section
def fI(p x:Nat):Nat:=if x % p=0 then 0 else x ^ (p - 2) % p
attribute [local irreducible] IntKind.wrap Go1 Reg WP aJ aN bF bD aM aA ak aj aT Sat
attribute [local irreducible] bK bO bM bS bN qv bZ mf PrP qOk zOk vP dx lz vF cq rqv dI aX bG aV dN fA fS fM fI
end
section
def dAk(p q:Nat)(b:List Nat)(i k:Nat)(f:Nat->Nat)(m:Nat):Nat:=if i<=m/\m < i+k then fS p (f m) (fM p q (b.getD (m - i) 0))else f m
def dF(p l:Nat)(b:List Nat)(n:Nat)(f0:Nat->Nat):Nat->Nat->Nat
 |0=>f0
 |s+1=>dAk p (fM p (dF p l b n f0 s (n - (s+1)+b.length - 1)) l) b (n - (s+1)) b.length (dF p l b n f0 s)
def dQ(p l:Nat)(b:List Nat)(n:Nat)(f0:Nat->Nat)(i:Nat):Nat:=fM p (dF p l b n f0 (n - (i+1)) (i+b.length - 1)) l
def fQuo(p:Nat)(a b:List Nat):List Nat:=
 if(bI p b).length=0\/(bI p a).length < (bI p b).length then []
 else
  let n:=(bI p a).length - (bI p b).length+1
  let l:=fI p ((bI p b).getD ((bI p b).length - 1) 0)
  bI p (am1 n (dQ p l (bI p b) n fun m=>(bI p a).getD m 0))
def fRem(p:Nat)(a b:List Nat):List Nat:=
 if(bI p b).length=0 then []
 else if(bI p a).length < (bI p b).length then bI p a
 else
  let n:=(bI p a).length - (bI p b).length+1
  let l:=fI p ((bI p b).getD ((bI p b).length - 1) 0)
  bI p (am1 (bI p a).length (dF p l (bI p b) n (fun m=>(bI p a).getD m 0) n))
attribute [local irreducible] IntKind.wrap Go1 Reg WP aJ aN bF bD aM aA ak aj aT Sat
attribute [local irreducible] bK bO bM bS bN qv bZ mf PrP qOk zOk vP dx lz vF cq rqv dI aX bG aV dN fA fS fM fI bI dAk dF dQ
end
section
def fScl(p:Nat)(a:List Nat)(c:Nat):List Nat:=bI p (am1 a.length fun i=>fM p (a.getD i 0) c)
def an9(p:Nat)(a:List Nat):Nat:=(bI p a).getD ((bI p a).length - 1) 0
structure Eu where
 a:List Nat
 b:List Nat
 s:List Nat
 t:List Nat
def Eu.step(p:Nat)(e:Eu):Eu:=⟨e.b,fRem p e.a e.b,e.t,fSub p e.s (fMul p (fQuo p e.a e.b) e.t)⟩
def Eu.run(p:Nat):Nat->Eu->Eu
 |0,e=>e
 |k+1,e=>if e.b.length=0 then e else Eu.run p k (e.step p)
structure Eu.Ok(p L:Nat)(e:Eu):Prop where
 a:(∀x∈e.a,x < p)/\e.a.length<=L
 b:(∀x∈e.b,x < p)/\gN e.b/\e.b.length<=L
 s:(∀x∈e.s,x < p)/\e.s.length+L*e.b.length<=1+L*L
 t:(∀x∈e.t,x < p)/\e.t.length+L*e.b.length<=1+L*L
def euOf(p:Nat)(l l':List Nat):Eu:=⟨bI p l,bI p l',[1],[]⟩
def ai8(p:Nat)(l l':List Nat):Eu:=Eu.run p (bI p l').length (euOf p l l')
def xgG(p:Nat)(l l':List Nat):List Nat:=fScl p (ai8 p l l').a (fI p (an9 p (ai8 p l l').a))
def xgS0(p:Nat)(l l':List Nat):List Nat:=fScl p (ai8 p l l').s (fI p (an9 p (ai8 p l l').a))
def xgS(p:Nat)(l l':List Nat):List Nat:=if(bI p l').length=0 then xgS0 p l l' else fRem p (xgS0 p l l') (fQuo p (bI p l') (xgG p l l'))
def xgT(p:Nat)(l l':List Nat):List Nat:=if(bI p l').length=0 then []else fQuo p (fSub p (xgG p l l') (fMul p (xgS p l l') (bI p l))) (bI p l')
def fEv(p:Nat)(a:List Nat)(x:Nat):Nat->Nat
 |0=>0
 |k+1=>fA p (fM p (fEv p a x k) x) (a.getD (a.length - (k+1)) 0)
attribute [local irreducible] IntKind.wrap Go1 Reg WP aJ aN bF bD aM aA ak aj aT Sat
attribute [local irreducible] bK bO bM bS bN qv bZ mf PrP qOk zOk vP dx lz vF cq rqv dI aX bG aV dN fA fS fM fI bI dAk dF dQ fQuo fRem asV fMul fScl an9
end
end Go.Proofs.YthnkfhfcgjoieaaGreatDoor
set_option linter.unusedSectionVars false
namespace Go.Proofs.YthnkfhfcgjoieaaGreatDoor
open Go.RowKit QM SX LA
def zEv(zs:List Int)(x:Int):Nat->Int
 |0=>0
 |k+1=>zEv zs x k*x+zs.getD (zs.length - (k+1)) 0
def zDs(zs:List Int)(n:Nat):List Int:=(List.range n).map fun i=>zs.getD (i+1) 0*((i+1:Nat):Int)
def jU(zs:List Int):List Int:=aX (zDs zs (zs.length - 1))
def fDs(p:Nat)(l:List Nat)(n:Nat):List Nat:=(List.range n).map fun i=>fM p (l.getD (i+1) 0) (i+1)
attribute [local irreducible] IntKind.wrap Go1 Reg WP aJ aN bF bD aM aA ak aj aT Sat
attribute [local irreducible] bK bO bM bS bN qv bZ mf PrP qOk zOk vP dx lz vF cq rqv dI aX bG aV dN cvR cvP alZ sH eZ jO psQ psA pPR pPQ amZ zEv zDs fDs bI fM fA
end Go.Proofs.YthnkfhfcgjoieaaGreatDoor
set_option linter.unusedSectionVars false
namespace Go.Proofs.YthnkfhfcgjoieaaGreatDoor
open Go.RowKit QM SX LA
def cF(p:Nat)(q:List Nat)(n k m:Nat):Nat:=if m / n < k then(if m % n+1=n then fA p 0 (fS p 0 (q.getD (m / n) 0))else if m % n+1=m / n then 1 else 0)else 0
def cG(p:Nat)(q:List Nat)(n k m:Nat):Nat:=if 0 < k/\m=k*n+k - 1 then 1 else cF p q n k m
def aoA(p:Nat)(l:List Nat):List Nat:=am1 (((bI p l).length - 1)*((bI p l).length - 1)) (cF p (bI p l) ((bI p l).length - 1) ((bI p l).length - 1))
attribute [local irreducible] IntKind.wrap Go1 Reg WP aJ aN bF bD aM aA ak aj aT Sat
attribute [local irreducible] bK bO bM bS bN qv bZ mf PrP qOk zOk vP dx lz vF cq rqv dI aX bG aV dN bI fM fA fS cF cG
end Go.Proofs.YthnkfhfcgjoieaaGreatDoor
set_option linter.unusedSectionVars false
namespace Go.Proofs.YthnkfhfcgjoieaaGreatDoor
open Go.RowKit QM SX LA
abbrev nDeg:List UInt8:=[100,101,103]
abbrev nDer:List UInt8:=[100,101,114,105,118,101]
abbrev nEvl:List UInt8:=[101,118,97,108]
abbrev zF:List UInt8:=[103,99,100]
abbrev zK:List UInt8:=[120,103,99,100]
abbrev nLif:List UInt8:=[108,105,102,116]
abbrev isP(t:List UInt8):Prop:=t=nDeg\/t=nDer\/t=nEvl\/t=zF\/t=zK\/t=nLif
attribute [local irreducible] IntKind.wrap Go1 Reg WP aJ aN bF bD aM aA ak aj aT Sat
attribute [local irreducible] bK bO bM bS bN qv bZ mf PrP qOk zOk vP dx lz vF cq rqv dI aX bG aV dN jn sq aW qS zS tS tbS plS mdS zmd jT jU zEv bI fDs fEv xgG xgS xgT
section
variable{t:List UInt8}{vs:List Vl}(ht:isP t)
include ht
theorem alA:ah prog 67 [.agg (bR t vs)] (.agg nk):=by
 rcases ht with rfl|rfl|rfl|rfl|rfl|rfl <;> (
  refine ah.fq func67 results67 ntmps67 fun _ _ _ _ _=>?_
  refine zg ?_;exact mH ak.dW
 )
theorem alY:ah prog 68 [.agg (bR t vs)] (.agg nk):=by
 rcases ht with rfl|rfl|rfl|rfl|rfl|rfl <;> (
  refine ah.fq func68 results68 ntmps68 fun _ _ _ _ _=>?_
  refine zg ?_;exact mH ak.dW
 )
theorem af8:ah prog 69 [.agg (bR t vs)] (.agg nk):=by
 rcases ht with rfl|rfl|rfl|rfl|rfl|rfl <;> (
  refine ah.fq func69 results69 ntmps69 fun _ _ _ _ _=>?_
  refine zg ?_;exact mH ak.dW
 )
theorem abN:ah prog 70 [.agg (bR t vs)] (.agg nk):=by
 rcases ht with rfl|rfl|rfl|rfl|rfl|rfl <;> (
  refine ah.fq func70 results70 ntmps70 fun _ _ _ _ _=>?_
  refine zg ?_;exact mH ak.dW
 )
end
theorem ahu{n:Int}(h:n.natAbs<=1000000000):ah prog 101 [.v (.int .i64 n)] (.agg (vlA (vI n))):=by
 have cO:ah prog 11 [.v (.int .i64 n)] (.agg (zN n)):=wL.h ⟨zE,zE⟩
 have hb:n.natAbs < WB ^ 1:=by rw[zxh,dn];omega
 have cW:ah prog 6 [.agg (zN n)] (.agg (vlA (vI n))):=dY (q:=z2v n) (ZQ.made hb) (zq6 1) zc
 refine ah.fq func101 results101 ntmps101 fun _ _ _ _ _=>?_
 refine zg ?_;refine u6 ak.gL ?_;exact zv _
theorem og{z:Int}{K:Nat}(hz:z.natAbs < WB ^ K)(h1:1<=K)(hK:K<=100000):ah prog 115 [.agg (zN z),.v (.int .i64 0)] (.agg (iW (vI z) 0 true)):=by
 have cW:ah prog 6 [.agg (zN z)] (.agg (vlA (vI z))):=dY (q:=z2v z) (ZQ.made hz) h1 hK;have cd:=sP (vI z);refine ah.fq func115 results115 ntmps115 fun _ _ _ _ _=>?_
 refine zg ?_;refine fK ak.dW ?_;exact zv _
end Go.Proofs.YthnkfhfcgjoieaaGreatDoor
set_option linter.unusedSectionVars false
namespace Go.Proofs.YthnkfhfcgjoieaaGreatDoor
open Go.RowKit QM SX LA
attribute [local irreducible] IntKind.wrap Go1 Reg WP aJ aN bF bD aM aA ak aj aT Sat
attribute [local irreducible] bK bO bM bS bN qv bZ mf PrP qOk zOk vP dx lz vF cq rqv dI aX bG aV dN jn sq aW qS zS tS tbS plS mdS zmd jT jU zEv bI fDs fEv xgG xgS xgT
theorem wh_vI{x:Int}{K:Nat}(hx:x.natAbs < WB ^ K)(h1:1<=K)(hK:K<=100000):ah prog 192 [.agg (vlA (vI x))] (.tup [.agg (zN x),.one (.c (.val (.bool true)))]):=dG hx h1 hK
section
variable{t:List UInt8}
end
section
variable{zs:List Int}{K:Nat}(hz:∀z∈zs,z.natAbs < WB ^ K)(hK1:1<=K)(hK:K<=10000)(hn:pN zs)(hl:zs.length<=1000)
include hz hK1 hK hn hl
end
section
variable{p:Nat}(hp:PrP p){l:List Nat}(hb:∀x∈l,x < p)(hl:l.length<=1000)
include hp hb hl
end
end Go.Proofs.YthnkfhfcgjoieaaGreatDoor
set_option linter.unusedSectionVars false
namespace Go.Proofs.YthnkfhfcgjoieaaGreatDoor
open Go.RowKit QM SX LA
attribute [local irreducible] IntKind.wrap Go1 Reg WP aJ aN bF bD aM aA ak aj aT Sat
attribute [local irreducible] bK bO bM bS bN qv bZ mf PrP qOk zOk vP dx lz vF cq rqv dI aX bG aV dN jn sq aW qS zS tS tbS plS mdS zmd jT jU zEv bI fDs fEv xgG xgS xgT
theorem aiD{t:List UInt8}{vs:List Vl}(ht:t=zF\/t=zK):ah prog 149 [.agg (bR t vs)] (.agg nk):=by
 rcases ht with rfl|rfl <;> (
  refine ah.fq func149 results149 ntmps149 fun _ _ _ _ _=>?_
  refine zg ?_;exact mH ak.dW
 )
section
variable{p:Nat}(hp:PrP p){l l':List Nat}(hb:∀x∈l,x < p)(hb':∀x∈l',x < p)(hl:l.length<=50)(hl':l'.length<=50)
include hp hb hb' hl hl'
end
end Go.Proofs.YthnkfhfcgjoieaaGreatDoor
set_option linter.unusedSectionVars false
namespace Go.Proofs.YthnkfhfcgjoieaaGreatDoor
open Go.RowKit QM SX LA
attribute [local irreducible] IntKind.wrap Go1 Reg WP aJ aN bF bD aM aA ak aj aT Sat
attribute [local irreducible] bK bO bM bS bN qv bZ mf PrP qOk zOk vP dx lz vF cq rqv dI aX bG aV dN jn sq aW qS zS tS tbS plS mdS zmd jT jU zEv bI fDs fEv xgG xgS xgT aoA
section
variable{p:Nat}(hp:PrP p){l:List Nat}(hb:∀x∈l,x < p)(hl:l.length<=1000)
include hp hb hl
end
end Go.Proofs.YthnkfhfcgjoieaaGreatDoor
set_option linter.unusedSectionVars false
namespace Go.Proofs.YthnkfhfcgjoieaaGreatDoor
open Go.RowKit QM SX LA
attribute [local irreducible] IntKind.wrap Go1 Reg WP aJ aN bF bD aM aA ak aj aT Sat
attribute [local irreducible] bK bO bM bS bN qv bZ mf PrP qOk zOk vP dx lz vF cq rqv dI aX bG aV dN jn sq aW qS zS tS tbS plS mdS zmd jT jU zEv bI fDs fEv xgG xgS xgT aoA
section
variable{p:Nat}(hp:PrP p){l:List Nat}(hb:∀x∈l,x < p)(hl:l.length<=60)
include hp hb hl
end
end Go.Proofs.YthnkfhfcgjoieaaGreatDoor
set_option linter.unusedSectionVars false
namespace Go.Proofs.YthnkfhfcgjoieaaGreatDoor
open Go.RowKit QM SX LA
attribute [local irreducible] IntKind.wrap Go1 Reg WP aJ aN bF bD aM aA ak aj aT Sat
attribute [local irreducible] bK bO bM bS bN qv bZ mf PrP qOk zOk vP dx lz vF cq rqv dI aX bG aV dN jn sq aW qS zS tS tbS plS mdS zmd jT jU zEv bI fDs fEv xgG xgS xgT aoA
theorem cN_P{t:List UInt8}(ht:isP t):ah prog 66 [.v (str mD),.v (str (([32]++t)++[32]))] (.v (.bool true)):=by
 rcases ht with rfl|rfl|rfl|rfl|rfl|rfl
 ·exact aO eU z6
 ·exact aO eU z6
 ·exact aO eU z6
 ·exact aO eU z6
 ·exact aO eU z6
 ·exact aO eU z6
theorem cB_P{t:List UInt8}(ht:isP t):ah prog 66 [.v (str t),.v (str [32])] (.v (.bool false)):=by
 rcases ht with rfl|rfl|rfl|rfl|rfl|rfl
 ·exact aO zc z6
 ·exact aO zc z6
 ·exact aO zc z6
 ·exact aO zc z6
 ·exact aO zc z6
 ·exact aO zc z6
theorem asJ{t:List UInt8}(ht:isP t):t.length<=1000:=by rcases ht with rfl|rfl|rfl|rfl|rfl|rfl <;> decide
theorem acU{t:List UInt8}(ht:isP t){vs:List Vl}{r:Vl}(hl:vs.length<=100000)(hF:∀v∈vs,ah prog 65 [.agg (vlA v)] (.v (.bool true)))(hf:ah prog 71 [.agg (bR t vs)] (.agg nk))
  (h5:ah prog 72 [.agg (bR t vs)] (.agg (iW r 0 true))):ah prog 46 [.v (str t),.r (aB 15 vlE vs)] (.tup [.agg (vlA r),eNo 0]):=by
 refine lW (n0:=5) (asJ ht) zc hl hF (cN_P ht) (cB_P ht) (fun k f hk hg=>?_) (fun f hg=>?_)
 ·match k,hk,hg with
  |0,_,hg=>cases hg;exact alA ht
  |1,_,hg=>cases hg;exact alY ht
  |2,_,hg=>cases hg;exact af8 ht
  |3,_,hg=>cases hg;exact abN ht
  |4,_,hg=>cases hg;exact hf
 ·cases hg;exact h5
theorem F1{v:Vl}(h:ah prog 65 [.agg (vlA v)] (.v (.bool true))):∀u∈[v],ah prog 65 [.agg (vlA u)] (.v (.bool true)):=fun u hu=>by
 rw[zxi]at hu;subst hu;exact h
theorem F2{v w:Vl}(h:ah prog 65 [.agg (vlA v)] (.v (.bool true)))(h':ah prog 65 [.agg (vlA w)] (.v (.bool true))):∀u∈[v,w],ah prog 65 [.agg (vlA u)] (.v (.bool true)):=fun u hu=>by
 rcases zy3.1 hu with rfl|hu
 ·exact h
 ·rw[zxi]at hu;subst hu;exact h'
theorem asX{t:List UInt8}{v w:Vl}:ah prog 71 [.agg (bR t [v,w])] (.agg nk):=oU (fun h=>by have h':2=1:=h;omega) (zqc rfl)
section
variable{zs:List Int}{K:Nat}(hz:∀z∈zs,z.natAbs < WB ^ K)(hK1:1<=K)(hK:K<=10000)(hn:pN zs)(hl:zs.length<=1000)
include hz hK1 hK hn hl
end
section
variable{p:Nat}(hp:PrP p){l:List Nat}(hb:∀x∈l,x < p)(hn:wN l)(hl:l.length<=50)
include hp hb hn hl
end
end Go.Proofs.YthnkfhfcgjoieaaGreatDoor
set_option linter.unusedSectionVars false
namespace Go.Proofs.YthnkfhfcgjoieaaGreatDoor
open Go.RowKit QM SX LA
attribute [local irreducible] IntKind.wrap Go1 Reg WP aJ aN bF bD aM aA ak aj aT Sat
attribute [local irreducible] bK bO bM bS bN qv bZ mf PrP qOk zOk vP dx lz vF cq rqv dI aX bG aV dN jn sq aW qS zS tS tbS plS mdS zmd jT jU zEv bI fDs fEv xgG xgS xgT aoA
section
variable{vs:List Vl}
end
section
variable{p:Nat}(hp:PrP p){l:List Nat}(hb:∀x∈l,x < p)(hn:wN l)(hl:l.length<=50)
include hp hb hn hl
end
end Go.Proofs.YthnkfhfcgjoieaaGreatDoor
set_option linter.unusedSectionVars false
namespace Go.Proofs.YthnkfhfcgjoieaaGreatDoor
open Go.RowKit QM SX LA
attribute [local irreducible] IntKind.wrap Go1 Reg WP aJ aN bF bD aM aA ak aj aT Sat
attribute [local irreducible] bK bO bM bS bN qv bZ mf PrP qOk zOk vP dx lz vF cq rqv dI aX bG aV dN jn sq aW qS zS tS tbS plS mdS zmd jT jU zEv bI fDs fEv xgG xgS xgT aoA
theorem tZ{K:Nat}{zs:List Int}(hz:∀z∈zs,z.natAbs < WB ^ K)(h1:1<=K)(hK:K<=100000)(hl:zs.length<=10000):ah prog 141 [.r (aB 15 vlE (zs.map vI))] (.tup [.one (.c (.sat (aB 2 z2C ((aX zs).map z2v)))),.one (.c (.val (.bool true)))]):=by
 have e0:(zs.map vI).length=zs.length:=zq5 _;have e1:(zs.map z2v).length=zs.length:=zq5 _;have cN:=ach (MZ.made hz) zE zE
 refine ah.fq func141 results141 ntmps141 fun _ _ _ _ hB=>?_
 refine zg ?_;refine W.loop (fun k=>k<=zs.length) (fun k=>[(4,.own 100),(9,.r (aB 15 vlE (zs.map vI))),(10,.v (.int .i64 (zs.length:Int))),(11,.v (.int .i64 (k:Int)))]) (fun k=>[(100,.row 25 2 k (((zs.take k).map z2v).flatMap z2C))]) (fun k=>zs.length - k) 0 (zq8 _) (fun k hk=>?_)
  (by
   refine St.bV [(100,none)] zt ?_ ?_ rfl
   ·exact ye
   ·exact⟨ay.dZ rfl,trivial⟩)
 by_cases h:k < zs.length
 ·obtain⟨z,hzk⟩:∃z,zs[k]? =some z:=⟨_,zyh h⟩
  have hv:(zs.map vI)[k]? =some (vI z):=by rw[zqa,hzk];rfl
  have h':k < (zs.map vI).length:=zE
  have cw:=dG (hz z (zq4 hzk)) h1 hK;have e2:=acr (enc:=z2C) (f:=z2v) hzk;refine zg ?_;refine W.next (k+1) h zE (by
   refine St.bV [(100,some 25)] zt ?_ ?_ rfl
   ·exact yb
   ·exact⟨ay.row rfl rfl rfl e2,trivial⟩)
 ·obtain rfl:k=zs.length:=zE
  rw[zy8];rw[<-e1];refine WP.freeze 100 hB rfl ?_;refine zg ?_;exact .ok (aA.mk2 (ak.tmp rfl) (ak.tmp rfl))
section
variable{zs:List Int}{K:Nat}(hz:∀z∈zs,z.natAbs < WB ^ K)(hK:K<=10000)(hn:pN zs)(hl:zs.length<=1000)
include hz hK hn hl
end
end Go.Proofs.YthnkfhfcgjoieaaGreatDoor
set_option linter.unusedSectionVars false
namespace Go.Proofs.YthnkfhfcgjoieaaGreatDoor
open Go.RowKit QM SX LA
theorem ah.resI{P:Program}{f:FuncId}{args:List AV}{r r':AV}(h:ah P f args r)(hi:∀E S w v,r.has E S w v->r'.has E S w v):ah P f args r':=
 ⟨h.1,fun E S w vs a b c d e g=>(h.2 E S w vs a b c d e g).mono fun x w' ⟨v,E',S',he,hE⟩=>⟨v,E',S',he,⟨hE.env,hE.fpe,hE.sub,hE.new,hE.lt,hE.off,hi _ _ _ _ hE.res,hE.ents,hE.blk,hE.sep⟩⟩⟩
attribute [local irreducible] IntKind.wrap Go1 Reg WP aJ aN bF bD aM aA ak aj aT Sat
attribute [local irreducible] bK bO bM bS bN qv bZ mf PrP qOk zOk vP dx lz vF cq rqv dI aX bG aV dN jn sq aW qS zS tS tbS plS mdS zmd aem qdn
theorem aqh{K n:Nat}{v:Vl}(h:Cv K n v)(hK:K<=50000)(hn:n<=15):ah prog 47 [.agg (vlA v),.agg (vlA v)] (.v (.bool true)):=by
 have c:=ao6 h h zE hn hn
 rwa [agL]at c
theorem arL{x x' y:AV0}(h:x.imp x'):∀E S w v,(AV.tup [x,y]).has E S w v->(AV.tup [x',y]).has E S w v:=fun E S w v ⟨us,hv,hh⟩=>by
 match us,hh with
 |[a,b],⟨h1,h2,_⟩=>exact⟨[a,b],hv,h E S w a h1,h2,trivial⟩
theorem gZ{t:List UInt8}{vs:List Vl}{w:Vl}(c:ah prog 46 [.v (str t),.r (aB 15 vlE vs)] (.tup [.agg (vlA w),eNo 0]))(S:ah prog 47 [.agg (vlA w),.agg (vlA w)] (.v (.bool true))):
  ah prog 15 [.v (str t),.r (aB 15 vlE vs),.agg (vlA w),.v (.int .i64 0)] (.v (.bool true)):=by
 refine ah.fq func15 results15 ntmps15 fun _ _ _ _ _=>?_
 refine zg ?_;exact bf rfl
theorem abf{t:List UInt8}{vs:List Vl}{w:Vl}{e:Int}(he:e≠0)(c:ah prog 46 [.v (str t),.r (aB 15 vlE vs)] (.tup [.agg (vlA v0),eNo e])):
  ah prog 15 [.v (str t),.r (aB 15 vlE vs),.agg (vlA w),.v (.int .i64 e)] (.v (.bool true)):=by
 have h1:decide (e=e)=true:=decide_eq_true rfl;refine ah.fq func15 results15 ntmps15 fun _ _ _ _ _=>?_
 refine zg ?_;exact bf rfl
section
variable{r c:Nat}{A:List Q4}{V wT wI:Vl}{lt:List Rat}{mI:Int×Int×Rep}{eI:Int}{m:List Rat}{ps:List Nat}{zs:List Int}{d x:Int}{K L:Nat}{eD:Int}{y:Rat}
end
